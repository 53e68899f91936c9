/- Texts of this claim, joined (the program, its functions in plain words, and what they compute). -/
import Derived.KernelRfl
import Derived.Test.YtoknknbmfmddbaaGreatDoorChecked
import Derived.Test.YtoknknbmfmddbaaGreatDoorProg
import Derived.Test.YtoknknbmfmddbaaGreatDoorGB1
set_option autoImplicit false
set_option linter.unusedVariables false
set_option linter.unusedSectionVars false
set_option linter.unusedSimpArgs false
set_option maxRecDepth 1000000
set_option maxHeartbeats 0
/- The types of the program, as plain data. -/
noncomputable section
namespace Go.Proofs.YtoknknbmfmddbaaGreatDoor
open Go Go.Ab
open Go.Proofs Go.Shelf
open Go.Proofs.Tryz
structure Column where
 Name:ByteArray
 Type_:Int
 deriving DecidableEq,Inhabited
structure Value where
 Kind:Int
 Int:Int
 Text:ByteArray
 deriving DecidableEq,Inhabited
structure RowID where
 Table:Int
 Seq:Int
 deriving DecidableEq,Inhabited
structure FO (A:Type) where
 At:A
 Exp:Int
structure TO (A:Type) where
 Cf:Int
 Fs:List (FO A)
structure WO (A:Type) where
 Value:Value
 Ann:List (TO A)
structure At where
 Kind:Int
 Row:RowID
 Ag:List (List (TO At))
 Func:Int
 Items:List (WO At)
 Op:Int
 Bd:Value
abbrev Fc:=FO At
abbrev Term:=TO At
abbrev Wd:=WO At
instance:Inhabited At:=⟨⟨0,default,[],0,[],0,default⟩⟩
instance:Inhabited Fc:=⟨⟨default,0⟩⟩
instance:Inhabited Term:=⟨⟨0,[]⟩⟩
instance:Inhabited Wd:=⟨⟨default,[]⟩⟩
theorem At.eta (x:At):(⟨x.Kind,x.Row,x.Ag,x.Func,x.Items,x.Op,x.Bd⟩:At)=x:=by cases x; rfl
mutual
def z4g:(x y:At)->Decidable (x=y)
 | ⟨k,r,a,f,i,o,b⟩,⟨k',r',a',f',i',o',b'⟩=>
  match decEq k k',decEq r r',z3X a a',decEq f f',z2c i i',decEq o o',decEq b b' with
  | .isTrue h1,.isTrue h2,.isTrue h3,.isTrue h4,.isTrue h5,.isTrue h6,.isTrue h7=>.isTrue (by subst h1 h2 h3 h4 h5 h6 h7; rfl)
  | .isFalse h,_,_,_,_,_,_=>.isFalse (λe=>by cases e; exact h rfl)
  | _,.isFalse h,_,_,_,_,_=>.isFalse (λe=>by cases e; exact h rfl)
  | _,_,.isFalse h,_,_,_,_=>.isFalse (λe=>by cases e; exact h rfl)
  | _,_,_,.isFalse h,_,_,_=>.isFalse (λe=>by cases e; exact h rfl)
  | _,_,_,_,.isFalse h,_,_=>.isFalse (λe=>by cases e; exact h rfl)
  | _,_,_,_,_,.isFalse h,_=>.isFalse (λe=>by cases e; exact h rfl)
  | _,_,_,_,_,_,.isFalse h=>.isFalse (λe=>by cases e; exact h rfl)
def zZJ:(x y:Fc)->Decidable (x=y)
 | ⟨a,e⟩,⟨a',e'⟩=>match z4g a a',decEq e e' with
  | .isTrue h1,.isTrue h2=>.isTrue (by subst h1 h2; rfl)
  | .isFalse h,_=>.isFalse (λe=>by cases e; exact h rfl)
  | _,.isFalse h=>.isFalse (λe=>by cases e; exact h rfl)
def zX9:(x y:List Fc)->Decidable (x=y)
 | [],[]=>.isTrue rfl
 | [],_::_=>.isFalse (by simp)
 | _::_,[]=>.isFalse (by simp)
 | x::r,y::s=>match zZJ x y,zX9 r s with
  | .isTrue h1,.isTrue h2=>.isTrue (by subst h1 h2; rfl)
  | .isFalse h,_=>.isFalse (λe=>by cases e; exact h rfl)
  | _,.isFalse h=>.isFalse (λe=>by cases e; exact h rfl)
def z3Z:(x y:Term)->Decidable (x=y)
 | ⟨a,e⟩,⟨a',e'⟩=>match decEq a a',zX9 e e' with
  | .isTrue h1,.isTrue h2=>.isTrue (by subst h1 h2; rfl)
  | .isFalse h,_=>.isFalse (λe=>by cases e; exact h rfl)
  | _,.isFalse h=>.isFalse (λe=>by cases e; exact h rfl)
def z2e:(x y:List Term)->Decidable (x=y)
 | [],[]=>.isTrue rfl
 | [],_::_=>.isFalse (by simp)
 | _::_,[]=>.isFalse (by simp)
 | x::r,y::s=>match z3Z x y,z2e r s with
  | .isTrue h1,.isTrue h2=>.isTrue (by subst h1 h2; rfl)
  | .isFalse h,_=>.isFalse (λe=>by cases e; exact h rfl)
  | _,.isFalse h=>.isFalse (λe=>by cases e; exact h rfl)
def z3X:(x y:List (List Term))->Decidable (x=y)
 | [],[]=>.isTrue rfl
 | [],_::_=>.isFalse (by simp)
 | _::_,[]=>.isFalse (by simp)
 | x::r,y::s=>match z2e x y,z3X r s with
  | .isTrue h1,.isTrue h2=>.isTrue (by subst h1 h2; rfl)
  | .isFalse h,_=>.isFalse (λe=>by cases e; exact h rfl)
  | _,.isFalse h=>.isFalse (λe=>by cases e; exact h rfl)
def z3B:(x y:Wd)->Decidable (x=y)
 | ⟨a,e⟩,⟨a',e'⟩=>match decEq a a',z2e e e' with
  | .isTrue h1,.isTrue h2=>.isTrue (by subst h1 h2; rfl)
  | .isFalse h,_=>.isFalse (λe=>by cases e; exact h rfl)
  | _,.isFalse h=>.isFalse (λe=>by cases e; exact h rfl)
def z2c:(x y:List Wd)->Decidable (x=y)
 | [],[]=>.isTrue rfl
 | [],_::_=>.isFalse (by simp)
 | _::_,[]=>.isFalse (by simp)
 | x::r,y::s=>match z3B x y,z2c r s with
  | .isTrue h1,.isTrue h2=>.isTrue (by subst h1 h2; rfl)
  | .isFalse h,_=>.isFalse (λe=>by cases e; exact h rfl)
  | _,.isFalse h=>.isFalse (λe=>by cases e; exact h rfl)
end
instance:DecidableEq At:=z4g
instance:DecidableEq Fc:=zZJ
instance:DecidableEq Term:=z3Z
instance:DecidableEq Wd:=z3B
structure Row where
 Values:List Value
 Ann:List Term
 deriving DecidableEq,Inhabited
structure Relation where
 Columns:List Column
 Rows:List Row
 deriving DecidableEq,Inhabited
structure Table where
 ID:Int
 Name:ByteArray
 Columns:List Column
 Rows:List Row
 deriving DecidableEq,Inhabited
structure Bg where
 Row:RowID
 To:List Term
 deriving DecidableEq,Inhabited
structure pair where
 c:Column
 v:Value
 deriving DecidableEq,Inhabited
abbrev yA:=List (List Term)
abbrev yB:=List Term
abbrev yC:=List Fc
abbrev yD:=List Wd
abbrev yE:=List RowID
abbrev yF:=List Bg
abbrev yG:=List Row
abbrev yH:=List Value
abbrev yI:=List Column
def ty:Nat->Type
 | 2=>Int
 | 3=>Int
 | 4=>Bool
 | 5=>Int
 | 9=>ByteArray
 | 22=>yI
 | 23=>yG
 | 25=>Relation
 | 28=>List ByteArray
 | 32=>List (yH)
 | 34=>yH
 | 36=>Table
 | 39=>Int
 | 50=>yB
 | 51=>yB
 | 54=>Row
 | 60=>yF
 | 63=>RowID
 | 65=>Bg
 | 69=>yE
 | 73=>List Relation
 | 75=>Column
 | 79=>Value
 | 105=>yC
 | 107=>Term
 | 110=>yA
 | 120=>List Int
 | 135=>List pair
 | 137=>pair
 | 141=>yD
 | 143=>At
 | 145=>Fc
 | 155=>List (yG)
 | 169=>Wd
 | 207=>Unit
 | 218=>Int
 | 223=>Int
 | 234=>List Int
 | 282=>List (yC)
 | _=>Unit
instance:(T:Nat)->Inhabited (ty T):=λT=>by
 unfold ty;split <;>infer_instance
def z90:DT ty Column:=zyz (λx=>⟨x.1,x.2⟩) (λx=>(x.Name,x.Type_)) (λ_=>rfl) (ziQ (z04) (zq3 .i64))
def z5n:DT ty Value:=zyz (λx=>⟨x.1,x.2.1,x.2.2⟩) (λx=>(x.Kind,x.Int,x.Text)) (λ_=>rfl) (ziQ (zq3 .i64) (ziQ (zq3 .i64) (z04)))
def z7n:DT ty RowID:=zyz (λx=>⟨x.1,x.2⟩) (λx=>(x.Table,x.Seq)) (λ_=>rfl) (ziQ (zq3 .i64) (zq3 .i64))
def z7X:DT ty At:=zyz (λx=>⟨x.1,x.2.1,x.2.2.1,x.2.2.2.1,x.2.2.2.2.1,x.2.2.2.2.2.1,x.2.2.2.2.2.2⟩) (λx=>(x.Kind,x.Row,x.Ag,x.Func,x.Items,x.Op,x.Bd)) (λ_=>rfl) (ziQ (zq3 .i64) (ziQ (z7n) (ziQ (zjp 51) (ziQ (zq3 .i64) (ziQ (zjp 169) (ziQ (zq3 .i64) (z5n)))))))
def zbaP:DT ty Fc:=zyz (λx=>⟨x.1,x.2⟩) (λx=>(x.At,x.Exp)) (λ_=>rfl) (ziQ (z7X) (zq3 .i64))
def zbaY:DT ty Term:=zyz (λx=>⟨x.1,x.2⟩) (λx=>(x.Cf,x.Fs)) (λ_=>rfl) (ziQ (zq3 .i64) (zjp 145))
def zbaG:DT ty Wd:=zyz (λx=>⟨x.1,x.2⟩) (λx=>(x.Value,x.Ann)) (λ_=>rfl) (ziQ (z5n) (zjp 107))
def zbbg:DT ty Row:=zyz (λx=>⟨x.1,x.2⟩) (λx=>(x.Values,x.Ann)) (λ_=>rfl) (ziQ (zjp 79) (zjp 107))
def zbbp:DT ty Relation:=zyz (λx=>⟨x.1,x.2⟩) (λx=>(x.Columns,x.Rows)) (λ_=>rfl) (ziQ (zjp 75) (zjp 54))
def zbbu:DT ty Table:=zyz (λx=>⟨x.1,x.2.1,x.2.2.1,x.2.2.2⟩) (λx=>(x.ID,x.Name,x.Columns,x.Rows)) (λ_=>rfl) (ziQ (zq3 .i64) (ziQ (z04) (ziQ (zjp 75) (zjp 54))))
def zbbi:DT ty Bg:=zyz (λx=>⟨x.1,x.2⟩) (λx=>(x.Row,x.To)) (λ_=>rfl) (ziQ (z7n) (zjp 107))
def zbaU:DT ty pair:=zyz (λx=>⟨x.1,x.2⟩) (λx=>(x.c,x.v)) (λ_=>rfl) (ziQ (z90) (z5n))
def zX5:List ((T:Nat)×DT ty (ty T)):=[⟨2,(zq3 .i64:DT ty Int)⟩,⟨3,(zq3 .i64:DT ty Int)⟩,⟨4,(z96:DT ty Bool)⟩,⟨5,(zq3 .u8:DT ty Int)⟩,⟨9,(z04:DT ty ByteArray)⟩,⟨22,(zjp 75:DT ty (yI))⟩,⟨23,(zjp 54:DT ty (yG))⟩,⟨25,(zbbp:DT ty Relation)⟩,⟨28,(zjp 9:DT ty (List ByteArray))⟩,⟨32,(zjp 34:DT ty (List (yH)))⟩,⟨34,(zjp 79:DT ty (yH))⟩,⟨36,(zbbu:DT ty Table)⟩,⟨39,(zq3 .i64:DT ty Int)⟩,⟨50,(zjp 107:DT ty (yB))⟩,⟨51,(zjp 107:DT ty (yB))⟩,⟨54,(zbbg:DT ty Row)⟩,⟨60,(zjp 65:DT ty (yF))⟩,⟨63,(z7n:DT ty RowID)⟩,⟨65,(zbbi:DT ty Bg)⟩,⟨69,(zjp 63:DT ty (yE))⟩,⟨73,(zjp 25:DT ty (List Relation))⟩,⟨75,(z90:DT ty Column)⟩,⟨79,(z5n:DT ty Value)⟩,⟨105,(zjp 145:DT ty (yC))⟩,⟨107,(zbaY:DT ty Term)⟩,⟨110,(zjp 51:DT ty (yA))⟩,⟨120,(zjp 5:DT ty (List Int))⟩,⟨135,(zjp 137:DT ty (List pair))⟩,⟨137,(zbaU:DT ty pair)⟩,⟨141,(zjp 169:DT ty (yD))⟩,⟨143,(z7X:DT ty At)⟩,⟨145,(zbaP:DT ty Fc)⟩,⟨155,(zjp 23:DT ty (List (yG)))⟩,⟨169,(zbaG:DT ty Wd)⟩,⟨207,(zbbf:DT ty Unit)⟩,⟨218,(zq3 .u64:DT ty Int)⟩,⟨223,(zq3 .u64:DT ty Int)⟩,⟨234,(zjp 3:DT ty (List Int))⟩,⟨282,(zjp 105:DT ty (List (yC)))⟩]
def z0Z:List (Nat×TInfo):=[(2,⟨.int .i64,1,8,[.int .i64 (0)]⟩),
 (3,⟨.int .i64,1,8,[.int .i64 (0)]⟩),
 (4,⟨.bool,1,1,[.bool false]⟩),
 (5,⟨.int .u8,1,1,[.int .u8 (0)]⟩),
 (9,⟨.str,1,16,[.string ⟨#[]⟩]⟩),
 (22,⟨.slice 75,1,24,[.slice none 0 0]⟩),
 (23,⟨.slice 54,1,24,[.slice none 0 0]⟩),
 (25,⟨.struct [(0,22),(1,23)],2,48,[.slice none 0 0,.slice none 0 0]⟩),
 (28,⟨.slice 9,1,24,[.slice none 0 0]⟩),
 (32,⟨.slice 34,1,24,[.slice none 0 0]⟩),
 (34,⟨.slice 79,1,24,[.slice none 0 0]⟩),
 (36,⟨.struct [(0,3),(1,9),(2,22),(3,23)],4,72,[.int .i64 (0),.string ⟨#[]⟩,.slice none 0 0,.slice none 0 0]⟩),
 (39,⟨.int .i64,1,8,[.int .i64 (0)]⟩),
 (50,⟨.slice 107,1,24,[.slice none 0 0]⟩),
 (51,⟨.slice 107,1,24,[.slice none 0 0]⟩),
 (54,⟨.struct [(0,34),(1,51)],2,48,[.slice none 0 0,.slice none 0 0]⟩),
 (60,⟨.slice 65,1,24,[.slice none 0 0]⟩),
 (63,⟨.struct [(0,3),(1,3)],2,16,[.int .i64 (0),.int .i64 (0)]⟩),
 (65,⟨.struct [(0,63),(2,51)],3,40,[.int .i64 (0),.int .i64 (0),.slice none 0 0]⟩),
 (69,⟨.slice 63,1,24,[.slice none 0 0]⟩),
 (73,⟨.slice 25,1,24,[.slice none 0 0]⟩),
 (75,⟨.struct [(0,9),(1,3)],2,24,[.string ⟨#[]⟩,.int .i64 (0)]⟩),
 (79,⟨.struct [(0,3),(1,2),(2,9)],3,32,[.int .i64 (0),.int .i64 (0),.string ⟨#[]⟩]⟩),
 (105,⟨.slice 145,1,24,[.slice none 0 0]⟩),
 (107,⟨.struct [(0,2),(1,105)],2,32,[.int .i64 (0),.slice none 0 0]⟩),
 (110,⟨.slice 51,1,24,[.slice none 0 0]⟩),
 (120,⟨.slice 5,1,24,[.slice none 0 0]⟩),
 (135,⟨.slice 137,1,24,[.slice none 0 0]⟩),
 (137,⟨.struct [(0,75),(2,79)],5,56,[.string ⟨#[]⟩,.int .i64 (0),.int .i64 (0),.int .i64 (0),.string ⟨#[]⟩]⟩),
 (141,⟨.slice 169,1,24,[.slice none 0 0]⟩),
 (143,⟨.struct [(0,3),(1,63),(3,110),(4,3),(5,141),(6,3),(7,79)],10,120,[.int .i64 (0),.int .i64 (0),.int .i64 (0),.slice none 0 0,.int .i64 (0),.slice none 0 0,.int .i64 (0),.int .i64 (0),.int .i64 (0),.string ⟨#[]⟩]⟩),
 (145,⟨.struct [(0,143),(10,3)],11,128,[.int .i64 (0),.int .i64 (0),.int .i64 (0),.slice none 0 0,.int .i64 (0),.slice none 0 0,.int .i64 (0),.int .i64 (0),.int .i64 (0),.string ⟨#[]⟩,.int .i64 (0)]⟩),
 (155,⟨.slice 23,1,24,[.slice none 0 0]⟩),
 (169,⟨.struct [(0,79),(3,51)],4,56,[.int .i64 (0),.int .i64 (0),.string ⟨#[]⟩,.slice none 0 0]⟩),
 (207,⟨.map 9 3,1,8,[.map none]⟩),
 (218,⟨.int .u64,1,8,[.int .u64 (0)]⟩),
 (223,⟨.int .u64,1,8,[.int .u64 (0)]⟩),
 (234,⟨.slice 3,1,24,[.slice none 0 0]⟩),
 (282,⟨.slice 105,1,24,[.slice none 0 0]⟩)]
def zTv:List (Nat×List TD):=[(75,[.str,.int .i64]),(79,[.int .i64,.int .i64,.str]),(63,[.int .i64,.int .i64])]
def inv (w:World):Prop:=Lib.TabIs Tryz.prog w "internal/strconv.uint64pow10" .u64 Lib.pow10Tab/\(∃ m,w.cell? ⟨0,0,none⟩=some (.int .i64 m))
theorem z7M {n:String} {g:Nat} {w w':World} (hg:Tryz.prog.globalNamed n=some g) (h:w'.heap[g]? =w.heap[g]?):w'.var? Tryz.prog n=w.var? Tryz.prog n:=by
 unfold World.var?; rw [hg]; simp only [Option.bind_some,h]
theorem z4x (w w':World) (hi:inv w) (hb:∀ b,b<4->w'.heap[b]? =w.heap[b]?):inv w':=by
 obtain ⟨h1,⟨m,h2⟩⟩:=hi;refine ⟨(z7M (g:=1) (by kernel_rfl) (hb 1 (by omega))).trans h1,⟨m, ?_⟩⟩
 rw [<- h2]; exact World.cell?_of_block (a:=⟨0,0,none⟩) (hb 0 (by omega))
def base:Cx ty:={ ti:=λT=>z0Z.lookup T,dflt:=λ_=>default,enc:=λT=>(z12 zX5 T).enc,dec:=λT=>(z12 zX5 T).dec,spec:=λ_=>none,io:=λ_=>[],eqs:=λT us vs=>match zTv.lookup T with | some ts=>zba ts us vs | none=>none,nt:=0,head:=λ_=>[],out:=λ_ _=>[],loops:=λ_=>none,ng:=4,inv:=inv }
theorem z4s:Tryz.prog.info? 2=some Tryz.t2:=by kernel_rfl
theorem zC0:Tryz.prog.info? 3=some Tryz.t3:=by kernel_rfl
theorem zbaF:Tryz.prog.info? 4=some Tryz.t4:=by kernel_rfl
theorem zbaB:Tryz.prog.info? 5=some Tryz.t5:=by kernel_rfl
theorem z1a:Tryz.prog.info? 9=some Tryz.t9:=by kernel_rfl
theorem z1R:Tryz.prog.info? 22=some Tryz.t22:=by kernel_rfl
theorem z2N:Tryz.prog.info? 23=some Tryz.t23:=by kernel_rfl
theorem zbar:Tryz.prog.info? 25=some Tryz.t25:=by kernel_rfl
theorem z9V:Tryz.prog.info? 28=some Tryz.t28:=by kernel_rfl
theorem z92:Tryz.prog.info? 32=some Tryz.t32:=by kernel_rfl
theorem z6t:Tryz.prog.info? 34=some Tryz.t34:=by kernel_rfl
theorem zbag:Tryz.prog.info? 36=some Tryz.t36:=by kernel_rfl
theorem z9C:Tryz.prog.info? 39=some Tryz.t39:=by kernel_rfl
theorem zbap:Tryz.prog.info? 50=some Tryz.t50:=by kernel_rfl
theorem zXU:Tryz.prog.info? 51=some Tryz.t51:=by kernel_rfl
theorem zbaj:Tryz.prog.info? 54=some Tryz.t54:=by kernel_rfl
theorem zbab:Tryz.prog.info? 60=some Tryz.t60:=by kernel_rfl
theorem z2U:Tryz.prog.info? 63=some Tryz.t63:=by kernel_rfl
theorem z9R:Tryz.prog.info? 65=some Tryz.t65:=by kernel_rfl
theorem z9v:Tryz.prog.info? 69=some Tryz.t69:=by kernel_rfl
theorem z9L:Tryz.prog.info? 73=some Tryz.t73:=by kernel_rfl
theorem z5U:Tryz.prog.info? 75=some Tryz.t75:=by kernel_rfl
theorem zYc:Tryz.prog.info? 79=some Tryz.t79:=by kernel_rfl
theorem z3U:Tryz.prog.info? 105=some Tryz.t105:=by kernel_rfl
theorem z9c:Tryz.prog.info? 107=some Tryz.t107:=by kernel_rfl
theorem z3O:Tryz.prog.info? 110=some Tryz.t110:=by kernel_rfl
theorem z8i:Tryz.prog.info? 120=some Tryz.t120:=by kernel_rfl
theorem z8t:Tryz.prog.info? 135=some Tryz.t135:=by kernel_rfl
theorem z8j:Tryz.prog.info? 137=some Tryz.t137:=by kernel_rfl
theorem z34:Tryz.prog.info? 141=some Tryz.t141:=by kernel_rfl
theorem z36:Tryz.prog.info? 143=some Tryz.t143:=by kernel_rfl
theorem z88:Tryz.prog.info? 145=some Tryz.t145:=by kernel_rfl
theorem z8Z:Tryz.prog.info? 155=some Tryz.t155:=by kernel_rfl
theorem z8F:Tryz.prog.info? 169=some Tryz.t169:=by kernel_rfl
theorem z79:Tryz.prog.info? 207=some Tryz.t207:=by kernel_rfl
theorem z9f:Tryz.prog.info? 218=some Tryz.t218:=by kernel_rfl
theorem z8M:Tryz.prog.info? 223=some Tryz.t223:=by kernel_rfl
theorem z8A:Tryz.prog.info? 234=some Tryz.t234:=by kernel_rfl
theorem z8f:Tryz.prog.info? 282=some Tryz.t282:=by kernel_rfl
theorem z8y:∀ T i,z0Z.lookup T=some i->InfoOK Tryz.prog T i:=by
 intro T i h;have h:=zEF _ _ _ h;simp only [z0Z,qd,List.not_mem_nil,or_false,qb] at h;rcases h with ⟨rfl,rfl⟩ | ⟨rfl,rfl⟩ | ⟨rfl,rfl⟩ | ⟨rfl,rfl⟩ | ⟨rfl,rfl⟩ | ⟨rfl,rfl⟩ | ⟨rfl,rfl⟩ | ⟨rfl,rfl⟩ | ⟨rfl,rfl⟩ | ⟨rfl,rfl⟩ | ⟨rfl,rfl⟩ | ⟨rfl,rfl⟩ | ⟨rfl,rfl⟩ | ⟨rfl,rfl⟩ | ⟨rfl,rfl⟩ | ⟨rfl,rfl⟩ | ⟨rfl,rfl⟩ | ⟨rfl,rfl⟩ | ⟨rfl,rfl⟩ | ⟨rfl,rfl⟩ | ⟨rfl,rfl⟩ | ⟨rfl,rfl⟩ | ⟨rfl,rfl⟩ | ⟨rfl,rfl⟩ | ⟨rfl,rfl⟩ | ⟨rfl,rfl⟩ | ⟨rfl,rfl⟩ | ⟨rfl,rfl⟩ | ⟨rfl,rfl⟩ | ⟨rfl,rfl⟩ | ⟨rfl,rfl⟩ | ⟨rfl,rfl⟩ | ⟨rfl,rfl⟩ | ⟨rfl,rfl⟩ | ⟨rfl,rfl⟩ | ⟨rfl,rfl⟩ | ⟨rfl,rfl⟩ | ⟨rfl,rfl⟩ | ⟨rfl,rfl⟩
 ·exact ⟨Tryz.t2,_,_,z4s,underlying2,rfl,rfl,rfl,rfl,rfl,⟨by simp [zbx],λ_=>rfl⟩,rfl⟩
 ·exact ⟨Tryz.t3,_,_,zC0,underlying3,rfl,rfl,rfl,rfl,rfl,⟨by simp [zbx],λ_=>rfl⟩,rfl⟩
 ·exact ⟨Tryz.t4,_,_,zbaF,underlying4,rfl,rfl,rfl,rfl,rfl,⟨by simp [zbx],λ_=>rfl⟩,rfl⟩
 ·exact ⟨Tryz.t5,_,_,zbaB,underlying5,rfl,rfl,rfl,rfl,rfl,⟨by simp [zbx],λ_=>rfl⟩,rfl⟩
 ·exact ⟨Tryz.t9,_,_,z1a,underlying9,rfl,rfl,rfl,rfl,rfl,⟨by simp [zbx],λ_=>rfl⟩,rfl⟩
 ·exact ⟨Tryz.t22,_,_,z1R,underlying22,rfl,rfl,rfl,rfl,rfl,⟨by simp [zbx],λ_=>rfl⟩,rfl⟩
 ·exact ⟨Tryz.t23,_,_,z2N,underlying23,rfl,rfl,rfl,rfl,rfl,⟨by simp [zbx],λ_=>rfl⟩,rfl⟩
 ·exact ⟨Tryz.t25,_,_,zbar,underlying25,rfl,rfl,rfl,rfl,rfl,⟨by simp [zbx],λh=>by cases h⟩,⟨_,rfl,rfl,λf hf=>by
   simp only [qd,List.not_mem_nil,or_false] at hf;rcases hf with rfl | rfl
   ·exact Option.isSome_iff_exists.2 ⟨_,z1R⟩
   ·exact Option.isSome_iff_exists.2 ⟨_,z2N⟩⟩⟩
 ·exact ⟨Tryz.t28,_,_,z9V,underlying28,rfl,rfl,rfl,rfl,rfl,⟨by simp [zbx],λ_=>rfl⟩,rfl⟩
 ·exact ⟨Tryz.t32,_,_,z92,underlying32,rfl,rfl,rfl,rfl,rfl,⟨by simp [zbx],λ_=>rfl⟩,rfl⟩
 ·exact ⟨Tryz.t34,_,_,z6t,underlying34,rfl,rfl,rfl,rfl,rfl,⟨by simp [zbx],λ_=>rfl⟩,rfl⟩
 ·exact ⟨Tryz.t36,_,_,zbag,underlying36,rfl,rfl,rfl,rfl,rfl,⟨by simp [zbx],λh=>by cases h⟩,⟨_,rfl,rfl,λf hf=>by
   simp only [qd,List.not_mem_nil,or_false] at hf;rcases hf with rfl | rfl | rfl | rfl
   ·exact Option.isSome_iff_exists.2 ⟨_,zC0⟩
   ·exact Option.isSome_iff_exists.2 ⟨_,z1a⟩
   ·exact Option.isSome_iff_exists.2 ⟨_,z1R⟩
   ·exact Option.isSome_iff_exists.2 ⟨_,z2N⟩⟩⟩
 ·exact ⟨Tryz.t39,_,_,z9C,underlying39,rfl,rfl,rfl,rfl,rfl,⟨by simp [zbx],λ_=>rfl⟩,rfl⟩
 ·exact ⟨Tryz.t50,_,_,zbap,underlying50,rfl,rfl,rfl,rfl,rfl,⟨by simp [zbx],λ_=>rfl⟩,rfl⟩
 ·exact ⟨Tryz.t51,_,_,zXU,underlying51,rfl,rfl,rfl,rfl,rfl,⟨by simp [zbx],λ_=>rfl⟩,rfl⟩
 ·exact ⟨Tryz.t54,_,_,zbaj,underlying54,rfl,rfl,rfl,rfl,rfl,⟨by simp [zbx],λh=>by cases h⟩,⟨_,rfl,rfl,λf hf=>by
   simp only [qd,List.not_mem_nil,or_false] at hf;rcases hf with rfl | rfl
   ·exact Option.isSome_iff_exists.2 ⟨_,z6t⟩
   ·exact Option.isSome_iff_exists.2 ⟨_,zXU⟩⟩⟩
 ·exact ⟨Tryz.t60,_,_,zbab,underlying60,rfl,rfl,rfl,rfl,rfl,⟨by simp [zbx],λ_=>rfl⟩,rfl⟩
 ·exact ⟨Tryz.t63,_,_,z2U,underlying63,rfl,rfl,rfl,rfl,rfl,⟨by simp [zbx],λh=>by cases h⟩,⟨_,rfl,rfl,λf hf=>by
   simp only [qd,List.not_mem_nil,or_false] at hf;rcases hf with rfl | rfl
   ·exact Option.isSome_iff_exists.2 ⟨_,zC0⟩
   ·exact Option.isSome_iff_exists.2 ⟨_,zC0⟩⟩⟩
 ·exact ⟨Tryz.t65,_,_,z9R,underlying65,rfl,rfl,rfl,rfl,rfl,⟨by simp [zbx],λh=>by cases h⟩,⟨_,rfl,rfl,λf hf=>by
   simp only [qd,List.not_mem_nil,or_false] at hf;rcases hf with rfl | rfl
   ·exact Option.isSome_iff_exists.2 ⟨_,z2U⟩
   ·exact Option.isSome_iff_exists.2 ⟨_,zXU⟩⟩⟩
 ·exact ⟨Tryz.t69,_,_,z9v,underlying69,rfl,rfl,rfl,rfl,rfl,⟨by simp [zbx],λ_=>rfl⟩,rfl⟩
 ·exact ⟨Tryz.t73,_,_,z9L,underlying73,rfl,rfl,rfl,rfl,rfl,⟨by simp [zbx],λ_=>rfl⟩,rfl⟩
 ·exact ⟨Tryz.t75,_,_,z5U,underlying75,rfl,rfl,rfl,rfl,rfl,⟨by simp [zbx],λh=>by cases h⟩,⟨_,rfl,rfl,λf hf=>by
   simp only [qd,List.not_mem_nil,or_false] at hf;rcases hf with rfl | rfl
   ·exact Option.isSome_iff_exists.2 ⟨_,z1a⟩
   ·exact Option.isSome_iff_exists.2 ⟨_,zC0⟩⟩⟩
 ·exact ⟨Tryz.t79,_,_,zYc,underlying79,rfl,rfl,rfl,rfl,rfl,⟨by simp [zbx],λh=>by cases h⟩,⟨_,rfl,rfl,λf hf=>by
   simp only [qd,List.not_mem_nil,or_false] at hf;rcases hf with rfl | rfl | rfl
   ·exact Option.isSome_iff_exists.2 ⟨_,zC0⟩
   ·exact Option.isSome_iff_exists.2 ⟨_,z4s⟩
   ·exact Option.isSome_iff_exists.2 ⟨_,z1a⟩⟩⟩
 ·exact ⟨Tryz.t105,_,_,z3U,underlying105,rfl,rfl,rfl,rfl,rfl,⟨by simp [zbx],λ_=>rfl⟩,rfl⟩
 ·exact ⟨Tryz.t107,_,_,z9c,underlying107,rfl,rfl,rfl,rfl,rfl,⟨by simp [zbx],λh=>by cases h⟩,⟨_,rfl,rfl,λf hf=>by
   simp only [qd,List.not_mem_nil,or_false] at hf;rcases hf with rfl | rfl
   ·exact Option.isSome_iff_exists.2 ⟨_,z4s⟩
   ·exact Option.isSome_iff_exists.2 ⟨_,z3U⟩⟩⟩
 ·exact ⟨Tryz.t110,_,_,z3O,underlying110,rfl,rfl,rfl,rfl,rfl,⟨by simp [zbx],λ_=>rfl⟩,rfl⟩
 ·exact ⟨Tryz.t120,_,_,z8i,underlying120,rfl,rfl,rfl,rfl,rfl,⟨by simp [zbx],λ_=>rfl⟩,rfl⟩
 ·exact ⟨Tryz.t135,_,_,z8t,underlying135,rfl,rfl,rfl,rfl,rfl,⟨by simp [zbx],λ_=>rfl⟩,rfl⟩
 ·exact ⟨Tryz.t137,_,_,z8j,underlying137,rfl,rfl,rfl,rfl,rfl,⟨by simp [zbx],λh=>by cases h⟩,⟨_,rfl,rfl,λf hf=>by
   simp only [qd,List.not_mem_nil,or_false] at hf;rcases hf with rfl | rfl
   ·exact Option.isSome_iff_exists.2 ⟨_,z5U⟩
   ·exact Option.isSome_iff_exists.2 ⟨_,zYc⟩⟩⟩
 ·exact ⟨Tryz.t141,_,_,z34,underlying141,rfl,rfl,rfl,rfl,rfl,⟨by simp [zbx],λ_=>rfl⟩,rfl⟩
 ·exact ⟨Tryz.t143,_,_,z36,underlying143,rfl,rfl,rfl,rfl,rfl,⟨by simp [zbx],λh=>by cases h⟩,⟨_,rfl,rfl,λf hf=>by
   simp only [qd,List.not_mem_nil,or_false] at hf;rcases hf with rfl | rfl | rfl | rfl | rfl | rfl | rfl
   ·exact Option.isSome_iff_exists.2 ⟨_,zC0⟩
   ·exact Option.isSome_iff_exists.2 ⟨_,z2U⟩
   ·exact Option.isSome_iff_exists.2 ⟨_,z3O⟩
   ·exact Option.isSome_iff_exists.2 ⟨_,zC0⟩
   ·exact Option.isSome_iff_exists.2 ⟨_,z34⟩
   ·exact Option.isSome_iff_exists.2 ⟨_,zC0⟩
   ·exact Option.isSome_iff_exists.2 ⟨_,zYc⟩⟩⟩
 ·exact ⟨Tryz.t145,_,_,z88,underlying145,rfl,rfl,rfl,rfl,rfl,⟨by simp [zbx],λh=>by cases h⟩,⟨_,rfl,rfl,λf hf=>by
   simp only [qd,List.not_mem_nil,or_false] at hf;rcases hf with rfl | rfl
   ·exact Option.isSome_iff_exists.2 ⟨_,z36⟩
   ·exact Option.isSome_iff_exists.2 ⟨_,zC0⟩⟩⟩
 ·exact ⟨Tryz.t155,_,_,z8Z,underlying155,rfl,rfl,rfl,rfl,rfl,⟨by simp [zbx],λ_=>rfl⟩,rfl⟩
 ·exact ⟨Tryz.t169,_,_,z8F,underlying169,rfl,rfl,rfl,rfl,rfl,⟨by simp [zbx],λh=>by cases h⟩,⟨_,rfl,rfl,λf hf=>by
   simp only [qd,List.not_mem_nil,or_false] at hf;rcases hf with rfl | rfl
   ·exact Option.isSome_iff_exists.2 ⟨_,zYc⟩
   ·exact Option.isSome_iff_exists.2 ⟨_,zXU⟩⟩⟩
 ·exact ⟨Tryz.t207,_,_,z79,underlying207,rfl,rfl,rfl,rfl,rfl,⟨by simp [zbx],λ_=>rfl⟩,rfl⟩
 ·exact ⟨Tryz.t218,_,_,z9f,underlying218,rfl,rfl,rfl,rfl,rfl,⟨by simp [zbx],λ_=>rfl⟩,rfl⟩
 ·exact ⟨Tryz.t223,_,_,z8M,underlying223,rfl,rfl,rfl,rfl,rfl,⟨by simp [zbx],λ_=>rfl⟩,rfl⟩
 ·exact ⟨Tryz.t234,_,_,z8A,underlying234,rfl,rfl,rfl,rfl,rfl,⟨by simp [zbx],λ_=>rfl⟩,rfl⟩
 ·exact ⟨Tryz.t282,_,_,z8f,underlying282,rfl,rfl,rfl,rfl,rfl,⟨by simp [zbx],λ_=>rfl⟩,rfl⟩
theorem z6T:∀ T us vs b,(match zTv.lookup T with | some ts=>zba ts us vs | none=>none)=some b->∀ w,z5t Tryz.prog T us vs b w:=by
 intro T us vs b h w;split at h
 ·rename_i ts hl;have hl:=zEF _ _ _ hl;simp only [zTv,qd,List.not_mem_nil,or_false,qb] at hl;rcases hl with ⟨rfl,rfl⟩ | ⟨rfl,rfl⟩ | ⟨rfl,rfl⟩
  ·refine zPv _ _ underlying75 (by kernel_rfl) (by kernel_rfl) rfl ?_ h w
   intro j f t hj ht;rcases j with _ | j
   ·simp at hj ht; subst hj ht; exact ⟨rfl,by decide,_,underlying9,rfl⟩
   rcases j with _ | j
   ·simp at hj ht; subst hj ht; exact ⟨rfl,by decide,_,underlying3,rfl⟩
   simp at hj
  ·refine zPv _ _ underlying79 (by kernel_rfl) (by kernel_rfl) rfl ?_ h w
   intro j f t hj ht;rcases j with _ | j
   ·simp at hj ht; subst hj ht; exact ⟨rfl,by decide,_,underlying3,rfl⟩
   rcases j with _ | j
   ·simp at hj ht; subst hj ht; exact ⟨rfl,by decide,_,underlying2,rfl⟩
   rcases j with _ | j
   ·simp at hj ht; subst hj ht; exact ⟨rfl,by decide,_,underlying9,rfl⟩
   simp at hj
  ·refine zPv _ _ underlying63 (by kernel_rfl) (by kernel_rfl) rfl ?_ h w
   intro j f t hj ht;rcases j with _ | j
   ·simp at hj ht; subst hj ht; exact ⟨rfl,by decide,_,underlying3,rfl⟩
   rcases j with _ | j
   ·simp at hj ht; subst hj ht; exact ⟨rfl,by decide,_,underlying3,rfl⟩
   simp at hj
 ·cases h
theorem z6D:∀ T us vs,base.eqs T us us=some true->base.eqs T vs vs=some true->base.eqs T us vs=some (zuz us vs)/\(zuz us vs=true->us=vs)/\∀ u∈us,∀ n,Instr.sameBits n u u=true:=by
 intro T us vs h1 h2;simp only [base] at h1 h2 ⊢;cases hl:zTv.lookup T with
 | none=>rw [hl] at h1; cases h1
 | some ts=>rw [hl] at h1 h2; exact zXi ts us vs h1 h2
theorem z7J:∀ T us b,base.eqs T us us=some b->b=true:=by
 intro T us b h;simp only [base] at h;cases hl:zTv.lookup T with
 | none=>rw [hl] at h; cases h
 | some ts=>rw [hl] at h; exact zVd ts us b h
abbrev SdP:=Sound Tryz.prog base
theorem zdj:CxOK Tryz.prog base:={ ti:=z8y,len:=(λT x=>by rw [show zo base T=_ from (z1t zX5 z0Z rfl T).symm]; exact DT.len _ x),cell:=(λT x c h=>by have:=DT.cell _ _ c h; revert this; cases c <;>exact id),dec:=(λT cs x h F w us hr=>DT.ok _ base F w us cs x h hr),eqs:=z6T,eqk:=z6D,eqr:=z7J,stable:=z4x }
def zby:Cx ty:={ base with dr:=false }
theorem zPy:CxOK Tryz.prog zby:=CxOK.cg (cx:=base) (cx':=zby) ⟨rfl,rfl,rfl,rfl,rfl,rfl⟩ zdj
theorem zrR:Tryz.prog.follows .mixedOrders=true:=by kernel_rfl
theorem sT {cx':Cx ty} {α ρ:Type} (hspec:∀ g s,cx'.spec g=some s->SdP g s) {f:Nat} {fn:Func} (hent:∀ args w,(callFunc f args).run Tryz.prog w=.ok (.enter f args) w) (hf:Tryz.prog.funcs[f]? =some fn) (hl:zfL cx' (body fn)) (sg:Sig:=⟨[.pure],[]⟩) {A:AL base α} {res:ρ->ARes ty} {W:α->Wy0 ρ} {z:ρ}
  (hb:fn.body=some (body fn):=by kernel_rfl)
  (hrun:∀ x,zdu cx' fn (body fn) sg (A.enc x)=(W x).ev noH (λr=>some (res r)) none:=by intro _; kernel_rfl)
  (hchk:∀ x,(Nat.ble (A.enc x).length fn.ntmps&&zGU (body fn) (A.enc x) sg.upd)=true:=by intro _; kernel_rfl) (hsame:base.Same cx':=by exact zNa):
  SdP f (zh A λx=>(((W x).fin z).1,res ((W x).fin z).2)):=sW zrR zdj hsame hspec hent hf hl sg hb hrun hchk
theorem sU {cx':Cx ty} {α ρ:Type} (hspec:∀ g s,cx'.spec g=some s->Sound Tryz.prog zby g s) {f:Nat} {fn:Func} (hent:∀ args w,(callFunc f args).run Tryz.prog w=.ok (.enter f args) w) (hf:Tryz.prog.funcs[f]? =some fn) (hl:zfL cx' (body fn)) (sg:Sig:=⟨[.pure],[]⟩) {A:AL zby α} {res:ρ->ARes ty} {W:α->Wy0 ρ} {z:ρ}
  (hb:fn.body=some (body fn):=by kernel_rfl)
  (hrun:∀ x,zdu cx' fn (body fn) sg (A.enc x)=(W x).ev noH (λr=>some (res r)) none:=by intro _; kernel_rfl)
  (hchk:∀ x,(Nat.ble (A.enc x).length fn.ntmps&&zGU (body fn) (A.enc x) sg.upd)=true:=by intro _; kernel_rfl) (hsame:zby.Same cx':=by exact zNa):
  Sound Tryz.prog zby f (zh A λx=>(((W x).fin z).1,res ((W x).fin z).2)):=sW zrR zPy hsame hspec hent hf hl sg hb hrun hchk
end Go.Proofs.YtoknknbmfmddbaaGreatDoor
/- What is read of an argument, as typed data. -/
namespace Go.Proofs.YtoknknbmfmddbaaGreatDoor
open Go Go.Ab
open Go.Proofs.Tryz
def wf2 (x:Int):Prop:=(Lit.int .i64 x).wf=true
def wf3 (x:Int):Prop:=(Lit.int .i64 x).wf=true
def wf4 (x:Bool):Prop:=True
def wf5 (x:Int):Prop:=(Lit.int .u8 x).wf=true
def wf9 (x:ByteArray):Prop:=ByteArray.size x<=zZ
def zban (x:Column):Prop:=wf9 x.Name/\wf3 x.Type_
def zbai (x:yI):Prop:=(∀ y∈x,zban y)/\List.length x<=zZ
def zLs (x:Value):Prop:=wf3 x.Kind/\wf2 x.Int/\wf9 x.Text
def z5f (x:yH):Prop:=(∀ y∈x,zLs y)/\List.length x<=zZ
def zZp (x:RowID):Prop:=wf3 x.Table/\wf3 x.Seq
mutual
def ziG:At->Prop
 | ⟨k,r,a,f,i,o,b⟩=>wf3 k/\zZp r/\(zwr a/\a.length<=zZ)/\wf3 f/\(zr1 i/\i.length<=zZ)/\wf3 o/\zLs b
def ztB:Fc->Prop
 | ⟨a,e⟩=>ziG a/\wf3 e
def zqS:yC->Prop
 | []=>True
 | x::r=>ztB x/\zqS r
def zxQ:Term->Prop
 | ⟨c,f⟩=>wf2 c/\(zqS f/\f.length<=zZ)
def zhr:yB->Prop
 | []=>True
 | x::r=>zxQ x/\zhr r
def zwr:yA->Prop
 | []=>True
 | x::r=>(zhr x/\x.length<=zZ)/\zwr r
def zDW:Wd->Prop
 | ⟨v,a⟩=>zLs v/\(zhr a/\a.length<=zZ)
def zr1:yD->Prop
 | []=>True
 | x::r=>zDW x/\zr1 r
end
theorem zG3:∀ l:yC,(∀ x∈l,ztB x)->zqS l
 | [],_=>by unfold zqS; trivial
 | x::r,h=>by unfold zqS; exact ⟨h x (by simp),zG3 r λy hy=>h y (by simp [hy])⟩
theorem zCs:∀ l:yB,(∀ x∈l,zxQ x)->zhr l
 | [],_=>by unfold zhr; trivial
 | x::r,h=>by unfold zhr; exact ⟨h x (by simp),zCs r λy hy=>h y (by simp [hy])⟩
theorem zTF:∀ l:yA,(∀ x∈l,zhr x/\x.length<=zZ)->zwr l
 | [],_=>by unfold zwr; trivial
 | x::r,h=>by unfold zwr; exact ⟨h x (by simp),zTF r λy hy=>h y (by simp [hy])⟩
theorem zOr:∀ l:yD,(∀ x∈l,zDW x)->zr1 l
 | [],_=>by unfold zr1; trivial
 | x::r,h=>by unfold zr1; exact ⟨h x (by simp),zOr r λy hy=>h y (by simp [hy])⟩
def z1T (x:yB):Prop:=zhr x/\List.length x<=zZ
def zbaX (x:yC):Prop:=zqS x/\List.length x<=zZ
def zbaN (x:Term):Prop:=zxQ x
def zbaS (x:yA):Prop:=zwr x/\List.length x<=zZ
def zbaR (x:yD):Prop:=zr1 x/\List.length x<=zZ
def zbaJ (x:At):Prop:=ziG x
def zbaM (x:Fc):Prop:=ztB x
def zbaQ (x:Wd):Prop:=zDW x
def z7F (x:Row):Prop:=z5f x.Values/\z1T x.Ann
def z9p (x:yG):Prop:=(∀ y∈x,z7F y)/\List.length x<=zZ
def z4y (x:Relation):Prop:=zbai x.Columns/\z9p x.Rows
def zbbs (x:List (yH)):Prop:=(∀ y∈x,z5f y)/\List.length x<=zZ
def z9w (x:Bg):Prop:=zZp x.Row/\z1T x.To
def zbbe (x:yF):Prop:=(∀ y∈x,z9w y)/\List.length x<=zZ
def wf (T:Nat):ty T->Prop:=match T with
 | 2=>wf2
 | 3=>wf3
 | 4=>wf4
 | 5=>wf5
 | 9=>wf9
 | 22=>zbai
 | 23=>z9p
 | 25=>z4y
 | 32=>zbbs
 | 34=>z5f
 | 51=>z1T
 | 54=>z7F
 | 60=>zbbe
 | 63=>zZp
 | 65=>z9w
 | 75=>zban
 | 79=>zLs
 | 105=>zbaX
 | 107=>zbaN
 | 110=>zbaS
 | 141=>zbaR
 | 143=>zbaJ
 | 145=>zbaM
 | 169=>zbaQ
 | _=>λ_=>True
theorem z6u:zll Tryz.prog base wf 2:=zZ3 underlying2 (λn=>n) (λ_=>rfl) (λ_ h=>h)
theorem zDw:zll Tryz.prog base wf 3:=zZ3 underlying3 (λn=>n) (λ_=>rfl) (λ_ h=>h)
theorem z5C:zll Tryz.prog base wf 9:=z5I underlying9 (λn=>n) (λ_=>rfl) (λ_ h=>h)
theorem z8C:zll Tryz.prog base wf 75:=by
 intro H en w sp held fuel cs y h hz;obtain ⟨xs,n,_,hy,hl,hlen,hf⟩:=DataW.trod_struct underlying75 h;have hs:=zhs underlying75 hy hz;obtain ⟨x0,h0,w0⟩:=zid (off:=0) z5C (by kernel_rfl) hlen hf hs 0 _ rfl rfl rfl
 obtain ⟨x1,h1,w1⟩:=zid (off:=1) zDw (by kernel_rfl) hlen hf hs 1 _ rfl rfl rfl
 have hl:cs.length=2:=hl.trans (by kernel_rfl)
 have:=zfp h0 (ztq h1 hl);exact ⟨(⟨x0,x1⟩:Column),this,⟨w0,w1⟩⟩
theorem z8L:zll Tryz.prog base wf 22:=zKq zdj underlying22 (by kernel_rfl) (by decide) (λl=>l) (λ_=>rfl) (of_decide_eq_true (by kernel_rfl)) z8C (λ_ h h2=>⟨h,h2⟩)
theorem zZx:zll Tryz.prog base wf 79:=by
 intro H en w sp held fuel cs y h hz;obtain ⟨xs,n,_,hy,hl,hlen,hf⟩:=DataW.trod_struct underlying79 h;have hs:=zhs underlying79 hy hz;obtain ⟨x0,h0,w0⟩:=zid (off:=0) zDw (by kernel_rfl) hlen hf hs 0 _ rfl rfl rfl
 obtain ⟨x1,h1,w1⟩:=zid (off:=1) z6u (by kernel_rfl) hlen hf hs 1 _ rfl rfl rfl
 obtain ⟨x2,h2,w2⟩:=zid (off:=2) z5C (by kernel_rfl) hlen hf hs 2 _ rfl rfl rfl
 have hl:cs.length=3:=hl.trans (by kernel_rfl)
 have:=zfp h0 (zfp h1 (ztq h2 hl));exact ⟨(⟨x0,x1,x2⟩:Value),this,⟨w0,w1,w2⟩⟩
theorem z4d:zll Tryz.prog base wf 34:=zKq zdj underlying34 (by kernel_rfl) (by decide) (λl=>l) (λ_=>rfl) (of_decide_eq_true (by kernel_rfl)) zZx (λ_ h h2=>⟨h,h2⟩)
theorem z8m:zll Tryz.prog base wf 63:=by
 intro H en w sp held fuel cs y h hz;obtain ⟨xs,n,_,hy,hl,hlen,hf⟩:=DataW.trod_struct underlying63 h;have hs:=zhs underlying63 hy hz;obtain ⟨x0,h0,w0⟩:=zid (off:=0) zDw (by kernel_rfl) hlen hf hs 0 _ rfl rfl rfl
 obtain ⟨x1,h1,w1⟩:=zid (off:=1) zDw (by kernel_rfl) hlen hf hs 1 _ rfl rfl rfl
 have hl:cs.length=2:=hl.trans (by kernel_rfl)
 have:=zfp h0 (ztq h1 hl);exact ⟨(⟨x0,x1⟩:RowID),this,⟨w0,w1⟩⟩
theorem z1g:∀ m,zrd Tryz.prog base wf m 51/\zrd Tryz.prog base wf m 105/\zrd Tryz.prog base wf m 107/\zrd Tryz.prog base wf m 110/\zrd Tryz.prog base wf m 141/\zrd Tryz.prog base wf m 143/\zrd Tryz.prog base wf m 145/\zrd Tryz.prog base wf m 169
 | 0=>⟨zoc,zoc,zoc,zoc,zoc,zoc,zoc,zoc⟩
 | m+1=>by
  obtain ⟨h51,h105,h107,h110,h141,h143,h145,h169⟩:=z1g m;refine ⟨?_, ?_, ?_, ?_, ?_, ?_, ?_, ?_⟩
  ·exact zwg zdj underlying51 (by kernel_rfl) (by decide) (λl=>l) (λ_=>rfl) (of_decide_eq_true (by kernel_rfl)) h107 (λl h h2=>⟨zCs l h,h2⟩)
  ·exact zwg zdj underlying105 (by kernel_rfl) (by decide) (λl=>l) (λ_=>rfl) (of_decide_eq_true (by kernel_rfl)) h145 (λl h h2=>⟨zG3 l h,h2⟩)
  ·intro H en w sp held fuel cs y hfu h hz;obtain ⟨xs,n,hn,hy,hl,hlen,hf⟩:=DataW.trod_struct underlying107 h;have hs:=zhs underlying107 hy hz;have hn:n<=m:=by omega
   obtain ⟨x0,hx0,w0⟩:=zeK (off:=0) (z6u.at m) (by kernel_rfl) hn hlen hf hs 0 _ rfl rfl rfl
   obtain ⟨x1,hx1,w1⟩:=zeK (off:=1) h105 (by kernel_rfl) hn hlen hf hs 1 _ rfl rfl rfl
   have hl:cs.length=2:=hl.trans (by kernel_rfl)
   have:=zfp hx0 (ztq hx1 hl);exact ⟨(⟨x0,x1⟩:Term),this,by show zxQ (⟨x0,x1⟩:Term); unfold zxQ; exact ⟨w0,w1⟩⟩
  ·exact zwg zdj underlying110 (by kernel_rfl) (by decide) (λl=>l) (λ_=>rfl) (of_decide_eq_true (by kernel_rfl)) h51 (λl h h2=>⟨zTF l h,h2⟩)
  ·exact zwg zdj underlying141 (by kernel_rfl) (by decide) (λl=>l) (λ_=>rfl) (of_decide_eq_true (by kernel_rfl)) h169 (λl h h2=>⟨zOr l h,h2⟩)
  ·intro H en w sp held fuel cs y hfu h hz;obtain ⟨xs,n,hn,hy,hl,hlen,hf⟩:=DataW.trod_struct underlying143 h;have hs:=zhs underlying143 hy hz;have hn:n<=m:=by omega
   obtain ⟨x0,hx0,w0⟩:=zeK (off:=0) (zDw.at m) (by kernel_rfl) hn hlen hf hs 0 _ rfl rfl rfl
   obtain ⟨x1,hx1,w1⟩:=zeK (off:=1) (z8m.at m) (by kernel_rfl) hn hlen hf hs 1 _ rfl rfl rfl
   obtain ⟨x2,hx2,w2⟩:=zeK (off:=3) h110 (by kernel_rfl) hn hlen hf hs 2 _ rfl rfl rfl
   obtain ⟨x3,hx3,w3⟩:=zeK (off:=4) (zDw.at m) (by kernel_rfl) hn hlen hf hs 3 _ rfl rfl rfl
   obtain ⟨x4,hx4,w4⟩:=zeK (off:=5) h141 (by kernel_rfl) hn hlen hf hs 4 _ rfl rfl rfl
   obtain ⟨x5,hx5,w5⟩:=zeK (off:=6) (zDw.at m) (by kernel_rfl) hn hlen hf hs 5 _ rfl rfl rfl
   obtain ⟨x6,hx6,w6⟩:=zeK (off:=7) (zZx.at m) (by kernel_rfl) hn hlen hf hs 6 _ rfl rfl rfl
   have hl:cs.length=10:=hl.trans (by kernel_rfl)
   have:=zfp hx0 (zfp hx1 (zfp hx2 (zfp hx3 (zfp hx4 (zfp hx5 (ztq hx6 hl))))));exact ⟨(⟨x0,x1,x2,x3,x4,x5,x6⟩:At),this,by show ziG (⟨x0,x1,x2,x3,x4,x5,x6⟩:At); unfold ziG; exact ⟨w0,w1,w2,w3,w4,w5,w6⟩⟩
  ·intro H en w sp held fuel cs y hfu h hz;obtain ⟨xs,n,hn,hy,hl,hlen,hf⟩:=DataW.trod_struct underlying145 h;have hs:=zhs underlying145 hy hz;have hn:n<=m:=by omega
   obtain ⟨x0,hx0,w0⟩:=zeK (off:=0) h143 (by kernel_rfl) hn hlen hf hs 0 _ rfl rfl rfl
   obtain ⟨x1,hx1,w1⟩:=zeK (off:=10) (zDw.at m) (by kernel_rfl) hn hlen hf hs 1 _ rfl rfl rfl
   have hl:cs.length=11:=hl.trans (by kernel_rfl)
   have:=zfp hx0 (ztq hx1 hl);exact ⟨(⟨x0,x1⟩:Fc),this,by show ztB (⟨x0,x1⟩:Fc); unfold ztB; exact ⟨w0,w1⟩⟩
  ·intro H en w sp held fuel cs y hfu h hz;obtain ⟨xs,n,hn,hy,hl,hlen,hf⟩:=DataW.trod_struct underlying169 h;have hs:=zhs underlying169 hy hz;have hn:n<=m:=by omega
   obtain ⟨x0,hx0,w0⟩:=zeK (off:=0) (zZx.at m) (by kernel_rfl) hn hlen hf hs 0 _ rfl rfl rfl
   obtain ⟨x1,hx1,w1⟩:=zeK (off:=3) h51 (by kernel_rfl) hn hlen hf hs 1 _ rfl rfl rfl
   have hl:cs.length=4:=hl.trans (by kernel_rfl)
   have:=zfp hx0 (ztq hx1 hl);exact ⟨(⟨x0,x1⟩:Wd),this,by show zDW (⟨x0,x1⟩:Wd); unfold zDW; exact ⟨w0,w1⟩⟩
theorem z8l:zll Tryz.prog base wf 51:=z52 λm=>(z1g m).1
theorem z8J:zll Tryz.prog base wf 54:=by
 intro H en w sp held fuel cs y h hz;obtain ⟨xs,n,_,hy,hl,hlen,hf⟩:=DataW.trod_struct underlying54 h;have hs:=zhs underlying54 hy hz;obtain ⟨x0,h0,w0⟩:=zid (off:=0) z4d (by kernel_rfl) hlen hf hs 0 _ rfl rfl rfl
 obtain ⟨x1,h1,w1⟩:=zid (off:=1) z8l (by kernel_rfl) hlen hf hs 1 _ rfl rfl rfl
 have hl:cs.length=2:=hl.trans (by kernel_rfl)
 have:=zfp h0 (ztq h1 hl);exact ⟨(⟨x0,x1⟩:Row),this,⟨w0,w1⟩⟩
theorem z8I:zll Tryz.prog base wf 23:=zKq zdj underlying23 (by kernel_rfl) (by decide) (λl=>l) (λ_=>rfl) (of_decide_eq_true (by kernel_rfl)) z8J (λ_ h h2=>⟨h,h2⟩)
theorem z8s:zll Tryz.prog base wf 25:=by
 intro H en w sp held fuel cs y h hz;obtain ⟨xs,n,_,hy,hl,hlen,hf⟩:=DataW.trod_struct underlying25 h;have hs:=zhs underlying25 hy hz;obtain ⟨x0,h0,w0⟩:=zid (off:=0) z8L (by kernel_rfl) hlen hf hs 0 _ rfl rfl rfl
 obtain ⟨x1,h1,w1⟩:=zid (off:=1) z8I (by kernel_rfl) hlen hf hs 1 _ rfl rfl rfl
 have hl:cs.length=2:=hl.trans (by kernel_rfl)
 have:=zfp h0 (ztq h1 hl);exact ⟨(⟨x0,x1⟩:Relation),this,⟨w0,w1⟩⟩
def z0M:=zbG base 8 []
def z2C (x_:At):Wy0 (yB):=.k [TO.mk 1 [FO.mk (At.mk x_.Kind x_.Row x_.Ag x_.Func x_.Items x_.Op x_.Bd) 1]]
def zPL (x_:At):=(z2C x_).fin default
def zZa (r:yB):ARes ty:=⟨[.own 107 r],[]⟩
def z1X:AL base (At×Unit):=zd (zg (zcj 143)) zw
def zJ2:=zh z1X λx=>((zPL x.1).1,zZa (zPL x.1).2)
theorem zWl:SdP 118 zJ2:=
 sT (cx':=z0M) (zk trivial) call118 func118 (lOK aN) (sg:=⟨[.own 107],[]⟩)
def z16:=zbG base 14 [(118,zJ2)]
def z2Y (id:RowID):Wy0 (yB):=.i (decide (id.Table<1)) (.k []) (.i (decide (id.Seq<1)) (.k []) (.k ((zPL (At.mk 0 id [] 0 [] 0 (Value.mk 0 0 (ByteArray.mk #[])))).2)))
def zRH (id:RowID):=(z2Y id).fin default
def z3p:AL base (RowID×Unit):=zd (zg (zcj 63)) zw
def zLM:=zh z3p λx=>((zRH x.1).1,zZa (zRH x.1).2)
theorem zWU:SdP 64 zLM:=
 sT (cx':=z16) (zk ⟨zWl,trivial⟩) call64 func64 (lOK aN) (sg:=⟨[.own 107],[]⟩)
def zSN:=zbG base 11 [(64,zLM)]
def zUC (v:Value) (seq:Int):Wy0 (Row):=.bn (zRH (RowID.mk 1 seq)) λr0=>.k (⟨[v],r0⟩:Row)
def zq9 (v:Value) (seq:Int):=(zUC v seq).fin default
def zQx (r:Row):ARes ty:=⟨[.pure (.agg (base.enc 54 r))],[]⟩
def zUT:AL base (Value×Int×Unit):=zd (zg (zcj 79)) (zd (zg ziy) zw)
def zBu:=zh zUT λx=>((zq9 x.1 x.2.1).1,zQx (zq9 x.1 x.2.1).2)
theorem zMh:SdP 86 zBu:=
 sT (cx':=zSN) (zk ⟨zWU,trivial⟩) call86 func86 (lOK aN)
def zXQ:=zbG base 19 [(86,zBu)]
def zY5:Wy0 (Relation):=.k (⟨[Column.mk (ByteArray.mk #[(97:UInt8)]) 0],[(zq9 (Value.mk 0 1 (ByteArray.mk #[])) 1).2,(zq9 (Value.mk 0 0 (ByteArray.mk #[])) 2).2,(zq9 (Value.mk 0 1 (ByteArray.mk #[])) 3).2]⟩:Relation)
def zTo:Bool×Relation:=(zY5).fin default
def zWK (r:Relation):ARes ty:=⟨[.pure (.agg (base.enc 25 r))],[]⟩
def zYH:AL base (Unit):=zw
def zFy:=zh zYH λx=>((zTo ).1,zWK (zTo ).2)
theorem zRP:SdP 42 zFy:=
 sT (cx':=zXQ) (zk ⟨zMh,trivial⟩) call42 func42 (lOK aN)
def zLf (r:Int):ARes ty:=⟨[.pure (.lit (.int .i64 r))],[]⟩
def zOq:AL base (yB×yB×Unit):=zd (zg (vSl 107)) (zd (zg (vSl 107)) zw)
def zdA (F:yB->yB->Bool×Int):Ab.Spec ty:=zh zOq λx=>((F x.1 x.2.1).1,zLf (F x.1 x.2.1).2)
def zIO:AL base (Term×Term×Unit):=zd (zg (zcj 107)) (zd (zg (zcj 107)) zw)
def zfh (F:Term->Term->Bool×Int):Ab.Spec ty:=zh zIO λx=>((F x.1 x.2.1).1,zLf (F x.1 x.2.1).2)
def zDN:AL base (Fc×Fc×Unit):=zd (zg (zcj 145)) (zd (zg (zcj 145)) zw)
def zdQ (F:Fc->Fc->Bool×Int):Ab.Spec ty:=zh zDN λx=>((F x.1 x.2.1).1,zLf (F x.1 x.2.1).2)
def zGd:AL base (At×At×Unit):=zd (zg (zcj 143)) (zd (zg (zcj 143)) zw)
def zgb (F:At->At->Bool×Int):Ab.Spec ty:=zh zGd λx=>((F x.1 x.2.1).1,zLf (F x.1 x.2.1).2)
def zFR:AL base (Wd×Wd×Unit):=zd (zg (zcj 169)) (zd (zg (zcj 169)) zw)
def zdB (F:Wd->Wd->Bool×Int):Ab.Spec ty:=zh zFR λx=>((F x.1 x.2.1).1,zLf (F x.1 x.2.1).2)
def zhO:AL base (yB×yB×Unit×Unit):=zd (zg (vSl 107)) (zd (zg (vSl 107)) (zd (zg (vFn 225 zcr)) zw))
def zbL (F:yB->yB->Bool×Int):Ab.Spec ty:=zh zhO λx=>((F x.1 x.2.1).1,zLf (F x.1 x.2.1).2)
def zil:AL base (yC×yC×Unit×Unit):=zd (zg (vSl 145)) (zd (zg (vSl 145)) (zd (zg (vFn 166 zcr)) zw))
def zbO (F:yC->yC->Bool×Int):Ab.Spec ty:=zh zil λx=>((F x.1 x.2.1).1,zLf (F x.1 x.2.1).2)
def ze3:AL base (yA×yA×Unit×Unit):=zd (zg (vSl 51)) (zd (zg (vSl 51)) (zd (zg (vFn 170 zcr)) zw))
def zbh (F:yA->yA->Bool×Int):Ab.Spec ty:=zh ze3 λx=>((F x.1 x.2.1).1,zLf (F x.1 x.2.1).2)
def zgj:AL base (yD×yD×Unit×Unit):=zd (zg (vSl 169)) (zd (zg (vSl 169)) (zd (zg (vFn 172 zcr)) zw))
def zbB (F:yD->yD->Bool×Int):Ab.Spec ty:=zh zgj λx=>((F x.1 x.2.1).1,zLf (F x.1 x.2.1).2)
def zJt (zH:yB->yB->Bool×Int) (zI:Term->Term->Bool×Int):=zbG base 8 [(224,(zbL zH)),(225,(zfh zI))]
def zxY (zH:yB->yB->Bool×Int) (zI:Term->Term->Bool×Int) (a:yB) (b:yB):Wy0 (Int):=.bn (zH a b) λr0=>.k r0
def znV (zH:yB->yB->Bool×Int) (zI:Term->Term->Bool×Int) (a:yB) (b:yB):=(zxY zH zI a b).fin default
theorem zFb (zH:yB->yB->Bool×Int) (zI:Term->Term->Bool×Int) (zhj:SdP 224 (zbL zH)) (znR:SdP 225 (zfh zI)):SdP 170 (zdA (znV zH zI)):=
 sT (cx':=(zJt zH zI)) (zk ⟨zhj,znR,trivial⟩) call170 func170 (lOK aN)
def zS4:=zbG base 6 []
def zFO (x_:Int):Wy0 (Bool):=.k (x_ != x_)
def zmq (x_:Int):=(zFO x_).fin default
def zQZ (r:Bool):ARes ty:=⟨[.pure (.lit (.bool r))],[]⟩
def zUr:AL base (Int×Unit):=zd (zg ziy) zw
def zAE:=zh zUr λx=>((zmq x.1).1,zQZ (zmq x.1).2)
theorem zM8:SdP 232 zAE:=
 sT (cx':=zS4) (zk trivial) call232 func232 (lOK aN)
def zN8:=zbG base 20 [(232,zAE)]
def zBP (x_:Int) (y_:Int):Wy0 (Int):=.i ((zmq x_).2) (.i ((zmq y_).2) (.k 0) (.k (-1:Int))) (.i ((zmq y_).2) (.k 1) (.i (decide (x_<y_)) (.k (-1:Int)) (.i (decide (x_>y_)) (.k 1) (.k 0))))
def zhR (x_:Int) (y_:Int):=(zBP x_ y_).fin default
def zQ2:AL base (Int×Int×Unit):=zd (zg ziy) (zd (zg ziy) zw)
def zlc:=zh zQ2 λx=>((zhR x.1 x.2.1).1,zLf (zhR x.1 x.2.1).2)
theorem zp9:SdP 195 zlc:=
 sT (cx':=zN8) (zk ⟨zM8,trivial⟩) call195 func195 (lOK aN)
abbrev zBq:=Int×List Int×Int×Int×Unit
def zEQ (zero:Int) (t6:List Int) (t7:Int) (t8:Int):Wy zBq Unit (Int⊕Int):=.i (decide (t8<t7)) (.i (decide (0<=t8)&&decide (t8<Int.ofNat t6.length)) (.i (t6.getD t8.toNat default != zero) (.k (.inl (t6.getD t8.toNat default))) (.h (zero,t6,t7,(IntKind.i64.wrap (t8+1)),()) ())) .d) (.k (.inr zero))
def zQb (x:zBq) (y:Unit):=zEQ x.1 x.2.1 x.2.2.1 x.2.2.2.1
def zEB (n:Nat) (zero:Int) (t6:List Int) (t7:Int) (t8:Int):=zD (zQb) (.inl default) n (zero,t6,t7,t8,()) ()
def zYA (r:Int⊕Int):LTree ty:=.ite (isL r) (.done .ret [.lit (.int .i64 (getL r))] []) (.done (.exit 0) [.lit (.int .i64 (getR r))] [])
def z0B:LL ty zBq:=za zj (za (lSl 3) (za zj (za zj zn)))
def z0j:BL ty (Unit):=zbd
def zZg (x:zBq) (y:Unit):Nat:=(Int.toNat x.1+x.2.1.length+Int.toNat x.2.2.1+Int.toNat x.2.2.2.1+1)
def zP2:=zb4 base 18 [] [] [(3,(kpL [3,6,7,8]))] [(3,1,(kpL [3])),(3,0,(kpL [2]))] [(3,spW z0B z0j (zQb) (.inl default) zYA zZg)] []
theorem zZt:zM zP2 (lp (body f167) 0):=zu (id:=3) (hl:=rfl)
def zTD (vals:List Int):Wy0 (Int):=.bn (zEB (Int.toNat 0+vals.length+(Int.ofNat vals.length).toNat +Int.toNat 0+1) 0 vals (Int.ofNat vals.length) 0) λr0=>.i (isL r0) (.k (getL r0)) (.k (getR r0))
def zk3 (vals:List Int):=(zTD vals).fin default
def z11:AL base (List Int×Unit):=zd (zg (vSl 3)) zw
def zjE:=zh z11 λx=>((zk3 x.1).1,zLf (zk3 x.1).2)
theorem zkV:SdP 167 zjE:=
 sT (cx':=zP2) (zk trivial) call167 func167 (lOK (aC zZt aN))
def zEv (zcB:Term->Term->Bool×Int):=zbG base 15 [(104,(zfh zcB)),(167,zjE),(195,zlc)]
def zvM (zcB:Term->Term->Bool×Int) (x_:Term) (y_:Term):Wy0 (Int):=.bn (zcB x_ y_) λr2=>.bn (zhR x_.Cf y_.Cf) λr1=>.bn (zk3 [r2,r1]) λr0=>.k r0
def zko (zcB:Term->Term->Bool×Int) (x_:Term) (y_:Term):=(zvM zcB x_ y_).fin default
theorem zBG (zcB:Term->Term->Bool×Int) (zDZ:SdP 104 (zfh zcB)):SdP 225 (zfh (zko zcB)):=
 sT (cx':=(zEv zcB)) (zk ⟨zDZ,zkV,zp9,trivial⟩) call225 func225 (lOK aN)
def zVO:=zbG base 6 []
def zJR (x_:Int):Wy0 (Bool):=.k (x_ != x_)
def zqj (x_:Int):=(zJR x_).fin default
def zEj:=zh zUr λx=>((zqj x.1).1,zQZ (zqj x.1).2)
theorem zQu:SdP 223 zEj:=
 sT (cx':=zVO) (zk trivial) call223 func223 (lOK aN)
def zSZ:=zbG base 20 [(223,zEj)]
def zFE (x_:Int) (y_:Int):Wy0 (Int):=.i ((zqj x_).2) (.i ((zqj y_).2) (.k 0) (.k (-1:Int))) (.i ((zqj y_).2) (.k 1) (.i (decide (x_<y_)) (.k (-1:Int)) (.i (decide (x_>y_)) (.k 1) (.k 0))))
def zdo (x_:Int) (y_:Int):=(zFE x_ y_).fin default
def zjU:=zh zQ2 λx=>((zdo x.1 x.2.1).1,zLf (zdo x.1 x.2.1).2)
theorem zmC:SdP 168 zjU:=
 sT (cx':=zSZ) (zk ⟨zQu,trivial⟩) call168 func168 (lOK aN)
end Go.Proofs.YtoknknbmfmddbaaGreatDoor
/-
 DERIVED:THE SHELF's CONTRACTS AT THIS DUMP,IN PLAIN WORDS (tools/lay-plain.mjs out of 'TryzShelf.lean',which tools/lay-shelf.mjs wrote):THE SAME DECLARATIONS UNDER THE SAME NAMES:'import','namespace','open','def','theorem' AND NOTHING ELSE:no command of the shelf's:FOR A HAND-IN. Each laying:the table of numbers ('.._ren') and one theorem,a field a fact of the dump's own or the kernel's comparison; each contract:ONE APPLICATION.
-/
namespace Go.Proofs
open Go.Shelf
def Tryz.sortRow_ren:Go.Shelf.Ren:=⟨λ| 6=>146 | 15=>205 | 14=>204 | 28=>254 | 29=>255 | 20=>246 | 21=>247 | 22=>248 | 23=>249 | 24=>250 | 25=>251 | 26=>252 | 27=>253 | 46=>288 | 47=>289 | 48=>290 | 49=>291 | 50=>292 | 57=>304 | n=>n,λ| 22=>69 | 24=>63 | 25=>178 | 3=>3 | 39=>218 | 0=>0 | 53=>253 | 55=>223 | 4=>4 | 46=>247 | 45=>246 | 50=>208 | 5=>5 | 9=>9 | 66=>269 | 70=>273 | 76=>284 | 77=>285 | n=>n,λ| n=>n⟩
theorem Tryz.sortRow:Go.Proofs.SlLaysF0.n6 Tryz.prog Tryz.sortRow_ren:={
 mixed:=by kernel_rfl
 f6:=⟨f146.name,by decide,func146.trans (congrArg some (by kernel_rfl))⟩
 f14:=⟨f204.name,by decide,func204.trans (congrArg some (by kernel_rfl))⟩
 f15:=func205.trans (congrArg some (by kernel_rfl))
 f20:=⟨f246.name,by decide,func246.trans (congrArg some (by kernel_rfl))⟩
 f21:=⟨f247.name,by decide,func247.trans (congrArg some (by kernel_rfl))⟩
 f22:=⟨f248.name,by decide,func248.trans (congrArg some (by kernel_rfl))⟩
 f23:=⟨f249.name,by decide,func249.trans (congrArg some (by kernel_rfl))⟩
 f24:=⟨f250.name,by decide,func250.trans (congrArg some (by kernel_rfl))⟩
 f25:=⟨f251.name,by decide,func251.trans (congrArg some (by kernel_rfl))⟩
 f26:=⟨f252.name,by decide,func252.trans (congrArg some (by kernel_rfl))⟩
 f27:=⟨f253.name,by decide,func253.trans (congrArg some (by kernel_rfl))⟩
 f28:=func254.trans (congrArg some (by kernel_rfl))
 f29:=func255.trans (congrArg some (by kernel_rfl))
 f46:=⟨f288.name,by decide,func288.trans (congrArg some (by kernel_rfl))⟩
 f47:=func289.trans (congrArg some (by kernel_rfl))
 f48:=func290.trans (congrArg some (by kernel_rfl))
 f49:=⟨f291.name,by decide,func291.trans (congrArg some (by kernel_rfl))⟩
 f50:=⟨f292.name,by decide,func292.trans (congrArg some (by kernel_rfl))⟩
 f57:=⟨f304.name,by decide,func304.trans (congrArg some (by kernel_rfl))⟩
 t0:=underlying0
 a0:=Tryz.isAgg0
 z0:=Tryz.sizeOf0
 v0:=Tryz.zeroValue0
 t3:=underlying3
 a3:=Tryz.isAgg3
 z3:=Tryz.sizeOf3
 v3:=Tryz.zeroValue3
 t4:=underlying4
 a4:=Tryz.isAgg4
 z4:=Tryz.sizeOf4
 v4:=Tryz.zeroValue4
 t5:=underlying5
 a5:=Tryz.isAgg5
 z5:=Tryz.sizeOf5
 v5:=Tryz.zeroValue5
 t9:=underlying9
 a9:=Tryz.isAgg9
 z9:=Tryz.sizeOf9
 v9:=Tryz.zeroValue9
 t22:=underlying69
 a22:=Tryz.isAgg69
 z22:=Tryz.sizeOf69
 v22:=Tryz.zeroValue69
 t25:=underlying178
 a25:=Tryz.isAgg178
 z25:=Tryz.sizeOf178
 v25:=Tryz.zeroValue178
 t39:=underlying218
 a39:=Tryz.isAgg218
 z39:=Tryz.sizeOf218
 v39:=Tryz.zeroValue218
 t45:=underlying246
 a45:=Tryz.isAgg246
 z45:=Tryz.sizeOf246
 v45:=Tryz.zeroValue246
 t46:=underlying247
 a46:=Tryz.isAgg247
 z46:=Tryz.sizeOf247
 v46:=Tryz.zeroValue247
 t50:=underlying208
 a50:=Tryz.isAgg208
 z50:=Tryz.sizeOf208
 v50:=Tryz.zeroValue208
 t53:=underlying253
 a53:=Tryz.isAgg253
 z53:=Tryz.sizeOf253
 v53:=Tryz.zeroValue253
 t55:=underlying223
 a55:=Tryz.isAgg223
 z55:=Tryz.sizeOf223
 v55:=Tryz.zeroValue223
 t66:=underlying269
 a66:=Tryz.isAgg269
 z66:=Tryz.sizeOf269
 v66:=Tryz.zeroValue269
 t70:=underlying273
 a70:=Tryz.isAgg273
 z70:=Tryz.sizeOf273
 v70:=Tryz.zeroValue273
 t76:=underlying284
 a76:=Tryz.isAgg284
 z76:=Tryz.sizeOf284
 v76:=Tryz.zeroValue284
 t77:=underlying285
 a77:=Tryz.isAgg285
 z77:=Tryz.sizeOf285
 v77:=Tryz.zeroValue285 }
def Tryz.pdqTerm_ren:Go.Shelf.Ren:=⟨λ| 14=>231 | 20=>269 | 21=>270 | 22=>271 | 23=>272 | 24=>273 | 25=>274 | 26=>275 | 27=>276 | 46=>299 | 47=>289 | 48=>290 | 49=>300 | 50=>301 | 15=>205 | 57=>307 | 28=>254 | 29=>255 | n=>n,λ| 24=>107 | 22=>50 | 3=>3 | 25=>140 | 4=>4 | 0=>0 | 46=>247 | 45=>246 | 50=>208 | 66=>269 | 39=>218 | 55=>223 | 70=>273 | 76=>284 | 77=>285 | 53=>253 | 5=>5 | 9=>9 | n=>n,λ| n=>n⟩
theorem Tryz.pdqTerm:Go.Proofs.SlLaysF0.n14 Tryz.prog Tryz.pdqTerm_ren:={
 mixed:=by kernel_rfl
 f14:=⟨f231.name,by decide,func231.trans (congrArg some (by kernel_rfl))⟩
 f15:=func205.trans (congrArg some (by kernel_rfl))
 f20:=⟨f269.name,by decide,func269.trans (congrArg some (by kernel_rfl))⟩
 f21:=⟨f270.name,by decide,func270.trans (congrArg some (by kernel_rfl))⟩
 f22:=⟨f271.name,by decide,func271.trans (congrArg some (by kernel_rfl))⟩
 f23:=⟨f272.name,by decide,func272.trans (congrArg some (by kernel_rfl))⟩
 f24:=⟨f273.name,by decide,func273.trans (congrArg some (by kernel_rfl))⟩
 f25:=⟨f274.name,by decide,func274.trans (congrArg some (by kernel_rfl))⟩
 f26:=⟨f275.name,by decide,func275.trans (congrArg some (by kernel_rfl))⟩
 f27:=⟨f276.name,by decide,func276.trans (congrArg some (by kernel_rfl))⟩
 f28:=func254.trans (congrArg some (by kernel_rfl))
 f29:=func255.trans (congrArg some (by kernel_rfl))
 f46:=⟨f299.name,by decide,func299.trans (congrArg some (by kernel_rfl))⟩
 f47:=func289.trans (congrArg some (by kernel_rfl))
 f48:=func290.trans (congrArg some (by kernel_rfl))
 f49:=⟨f300.name,by decide,func300.trans (congrArg some (by kernel_rfl))⟩
 f50:=⟨f301.name,by decide,func301.trans (congrArg some (by kernel_rfl))⟩
 f57:=⟨f307.name,by decide,func307.trans (congrArg some (by kernel_rfl))⟩
 t0:=underlying0
 a0:=Tryz.isAgg0
 z0:=Tryz.sizeOf0
 v0:=Tryz.zeroValue0
 t3:=underlying3
 a3:=Tryz.isAgg3
 z3:=Tryz.sizeOf3
 v3:=Tryz.zeroValue3
 t4:=underlying4
 a4:=Tryz.isAgg4
 z4:=Tryz.sizeOf4
 v4:=Tryz.zeroValue4
 t5:=underlying5
 a5:=Tryz.isAgg5
 z5:=Tryz.sizeOf5
 v5:=Tryz.zeroValue5
 t9:=underlying9
 a9:=Tryz.isAgg9
 z9:=Tryz.sizeOf9
 v9:=Tryz.zeroValue9
 t22:=underlying50
 a22:=Tryz.isAgg50
 z22:=Tryz.sizeOf50
 v22:=Tryz.zeroValue50
 t25:=underlying140
 a25:=Tryz.isAgg140
 z25:=Tryz.sizeOf140
 v25:=Tryz.zeroValue140
 t39:=underlying218
 a39:=Tryz.isAgg218
 z39:=Tryz.sizeOf218
 v39:=Tryz.zeroValue218
 t45:=underlying246
 a45:=Tryz.isAgg246
 z45:=Tryz.sizeOf246
 v45:=Tryz.zeroValue246
 t46:=underlying247
 a46:=Tryz.isAgg247
 z46:=Tryz.sizeOf247
 v46:=Tryz.zeroValue247
 t50:=underlying208
 a50:=Tryz.isAgg208
 z50:=Tryz.sizeOf208
 v50:=Tryz.zeroValue208
 t53:=underlying253
 a53:=Tryz.isAgg253
 z53:=Tryz.sizeOf253
 v53:=Tryz.zeroValue253
 t55:=underlying223
 a55:=Tryz.isAgg223
 z55:=Tryz.sizeOf223
 v55:=Tryz.zeroValue223
 t66:=underlying269
 a66:=Tryz.isAgg269
 z66:=Tryz.sizeOf269
 v66:=Tryz.zeroValue269
 t70:=underlying273
 a70:=Tryz.isAgg273
 z70:=Tryz.sizeOf273
 v70:=Tryz.zeroValue273
 t76:=underlying284
 a76:=Tryz.isAgg284
 z76:=Tryz.sizeOf284
 v76:=Tryz.zeroValue284
 t77:=underlying285
 a77:=Tryz.isAgg285
 z77:=Tryz.sizeOf285
 v77:=Tryz.zeroValue285 }
def Tryz.insW_ren:Go.Shelf.Ren:=⟨λ| 20=>309 | n=>n,λ| 24=>169 | 22=>141 | 3=>3 | 25=>198 | 4=>4 | 0=>0 | n=>n,λ| n=>n⟩
theorem Tryz.insW:Go.Proofs.SlLaysF0.n20 Tryz.prog Tryz.insW_ren:={
 mixed:=by kernel_rfl
 f20:=⟨f309.name,by decide,func309.trans (congrArg some (by kernel_rfl))⟩
 t0:=underlying0
 a0:=Tryz.isAgg0
 z0:=Tryz.sizeOf0
 v0:=Tryz.zeroValue0
 t3:=underlying3
 a3:=Tryz.isAgg3
 z3:=Tryz.sizeOf3
 v3:=Tryz.zeroValue3
 t4:=underlying4
 a4:=Tryz.isAgg4
 z4:=Tryz.sizeOf4
 v4:=Tryz.zeroValue4
 t22:=underlying141
 a22:=Tryz.isAgg141
 z22:=Tryz.sizeOf141
 v22:=Tryz.zeroValue141
 t25:=underlying198
 a25:=Tryz.isAgg198
 z25:=Tryz.sizeOf198
 v25:=Tryz.zeroValue198 }
def Tryz.lays106_ren:Go.Shelf.Ren:=⟨λ| 106=>196 | 213=>233 | 265=>277 | n=>n,λ| 9=>9 | 3=>3 | n=>n,λ| n=>n⟩
theorem Tryz.lays106:Go.Proofs.Lays.n106 Tryz.prog Tryz.lays106_ren:={
 mixed:=by kernel_rfl
 f106:=func196.trans (congrArg some (by kernel_rfl))
 f213:=func233.trans (congrArg some (by kernel_rfl))
 f265:=func277.trans (congrArg some (by kernel_rfl))
 t3:=underlying3
 a3:=Tryz.isAgg3
 z3:=Tryz.sizeOf3
 v3:=Tryz.zeroValue3
 t9:=underlying9
 a9:=Tryz.isAgg9
 z9:=Tryz.sizeOf9
 v9:=Tryz.zeroValue9 }
def Tryz.lays125_ren:Go.Shelf.Ren:=⟨λ| 125=>205 | 128=>254 | 129=>255 | n=>n,λ| 46=>218 | 3=>3 | 51=>253 | 53=>223 | 4=>4 | 5=>5 | 9=>9 | n=>n,λ| n=>n⟩
theorem Tryz.lays125:Go.Proofs.Lays.n125 Tryz.prog Tryz.lays125_ren:={
 mixed:=by kernel_rfl
 f125:=func205.trans (congrArg some (by kernel_rfl))
 f128:=func254.trans (congrArg some (by kernel_rfl))
 f129:=func255.trans (congrArg some (by kernel_rfl))
 t3:=underlying3
 a3:=Tryz.isAgg3
 z3:=Tryz.sizeOf3
 v3:=Tryz.zeroValue3
 t4:=underlying4
 a4:=Tryz.isAgg4
 z4:=Tryz.sizeOf4
 v4:=Tryz.zeroValue4
 t5:=underlying5
 a5:=Tryz.isAgg5
 z5:=Tryz.sizeOf5
 v5:=Tryz.zeroValue5
 t9:=underlying9
 a9:=Tryz.isAgg9
 z9:=Tryz.sizeOf9
 v9:=Tryz.zeroValue9
 t46:=underlying218
 a46:=Tryz.isAgg218
 z46:=Tryz.sizeOf218
 v46:=Tryz.zeroValue218
 t51:=underlying253
 a51:=Tryz.isAgg253
 z51:=Tryz.sizeOf253
 v51:=Tryz.zeroValue253
 t53:=underlying223
 a53:=Tryz.isAgg223
 z53:=Tryz.sizeOf223
 v53:=Tryz.zeroValue223 }
def Tryz.laysM173_ren:Go.Shelf.Ren:=⟨λ| 173=>92 | 246=>152 | 283=>208 | 284=>209 | 285=>210 | 286=>211 | 129=>255 | 317=>256 | 318=>257 | 319=>258 | 320=>259 | 337=>293 | 338=>294 | n=>n,λ| 2=>2 | 3=>3 | 9=>9 | 4=>4 | 171=>222 | 0=>0 | 53=>223 | 37=>120 | 5=>5 | 173=>226 | 212=>255 | 51=>253 | 20=>20 | 213=>256 | 46=>218 | 232=>287 | 233=>288 | n=>n,λ| 17=>1 | 18=>4 | 19=>5 | n=>n⟩
theorem Tryz.laysM173:Go.Proofs.LaysM.n173 Tryz.prog Tryz.laysM173_ren:={
 mixed:=by kernel_rfl
 f129:=func255.trans (congrArg some (by kernel_rfl))
 f173:=func92.trans (congrArg some (by kernel_rfl))
 f246:=func152.trans (congrArg some (by kernel_rfl))
 f283:=func208.trans (congrArg some (by kernel_rfl))
 f284:=func209.trans (congrArg some (by kernel_rfl))
 f285:=func210.trans (congrArg some (by kernel_rfl))
 f286:=func211.trans (congrArg some (by kernel_rfl))
 f317:=func256.trans (congrArg some (by kernel_rfl))
 f318:=func257.trans (congrArg some (by kernel_rfl))
 f319:=func258.trans (congrArg some (by kernel_rfl))
 f320:=func259.trans (congrArg some (by kernel_rfl))
 f337:=func293.trans (congrArg some (by kernel_rfl))
 f338:=func294.trans (congrArg some (by kernel_rfl))
 t0:=underlying0
 a0:=Tryz.isAgg0
 z0:=Tryz.sizeOf0
 v0:=Tryz.zeroValue0
 t2:=underlying2
 a2:=Tryz.isAgg2
 z2:=Tryz.sizeOf2
 v2:=Tryz.zeroValue2
 t3:=underlying3
 a3:=Tryz.isAgg3
 z3:=Tryz.sizeOf3
 v3:=Tryz.zeroValue3
 t4:=underlying4
 a4:=Tryz.isAgg4
 z4:=Tryz.sizeOf4
 v4:=Tryz.zeroValue4
 t5:=underlying5
 a5:=Tryz.isAgg5
 z5:=Tryz.sizeOf5
 v5:=Tryz.zeroValue5
 t9:=underlying9
 a9:=Tryz.isAgg9
 z9:=Tryz.sizeOf9
 v9:=Tryz.zeroValue9
 t20:=underlying20
 a20:=Tryz.isAgg20
 z20:=Tryz.sizeOf20
 v20:=Tryz.zeroValue20
 t37:=underlying120
 a37:=Tryz.isAgg120
 z37:=Tryz.sizeOf120
 v37:=Tryz.zeroValue120
 t46:=underlying218
 a46:=Tryz.isAgg218
 z46:=Tryz.sizeOf218
 v46:=Tryz.zeroValue218
 t51:=underlying253
 a51:=Tryz.isAgg253
 z51:=Tryz.sizeOf253
 v51:=Tryz.zeroValue253
 t53:=underlying223
 a53:=Tryz.isAgg223
 z53:=Tryz.sizeOf223
 v53:=Tryz.zeroValue223
 t171:=underlying222
 a171:=Tryz.isAgg222
 z171:=Tryz.sizeOf222
 v171:=Tryz.zeroValue222
 t173:=underlying226
 a173:=Tryz.isAgg226
 z173:=Tryz.sizeOf226
 v173:=Tryz.zeroValue226
 t212:=underlying255
 a212:=Tryz.isAgg255
 z212:=Tryz.sizeOf255
 v212:=Tryz.zeroValue255
 t213:=underlying256
 a213:=Tryz.isAgg256
 z213:=Tryz.sizeOf256
 t232:=underlying287
 a232:=Tryz.isAgg287
 z232:=Tryz.sizeOf287
 v232:=Tryz.zeroValue287
 t233:=underlying288
 a233:=Tryz.isAgg288
 z233:=Tryz.sizeOf288
 v233:=Tryz.zeroValue288
 g17:=by kernel_rfl
 g18:=by kernel_rfl
 g19:=by kernel_rfl
 i0:=by kernel_rfl
 i2:=by kernel_rfl
 i3:=by kernel_rfl
 i4:=by kernel_rfl
 i5:=by kernel_rfl
 i9:=by kernel_rfl
 i20:=by kernel_rfl
 i37:=by kernel_rfl
 i46:=by kernel_rfl
 i51:=by kernel_rfl
 i53:=by kernel_rfl
 i171:=by kernel_rfl
 i173:=by kernel_rfl
 i212:=by kernel_rfl
 i232:=by kernel_rfl
 i233:=by kernel_rfl
 m17:=by kernel_rfl
 m18:=by kernel_rfl
 m19:=by kernel_rfl }
def Tryz.laysM171_ren:Go.Shelf.Ren:=⟨λ| 171=>216 | 243=>267 | 246=>152 | 283=>208 | 284=>209 | 285=>210 | 286=>211 | 129=>255 | 317=>256 | 318=>257 | 319=>258 | 320=>259 | 337=>293 | 338=>294 | n=>n,λ| 3=>3 | 9=>9 | 2=>2 | 4=>4 | 171=>222 | 0=>0 | 53=>223 | 37=>120 | 5=>5 | 173=>226 | 212=>255 | 51=>253 | 20=>20 | 213=>256 | 46=>218 | 232=>287 | 233=>288 | n=>n,λ| 17=>1 | 18=>4 | 19=>5 | n=>n⟩
theorem Tryz.laysM171:Go.Proofs.LaysM.n171 Tryz.prog Tryz.laysM171_ren:={
 mixed:=by kernel_rfl
 f129:=func255.trans (congrArg some (by kernel_rfl))
 f171:=func216.trans (congrArg some (by kernel_rfl))
 f243:=func267.trans (congrArg some (by kernel_rfl))
 f246:=func152.trans (congrArg some (by kernel_rfl))
 f283:=func208.trans (congrArg some (by kernel_rfl))
 f284:=func209.trans (congrArg some (by kernel_rfl))
 f285:=func210.trans (congrArg some (by kernel_rfl))
 f286:=func211.trans (congrArg some (by kernel_rfl))
 f317:=func256.trans (congrArg some (by kernel_rfl))
 f318:=func257.trans (congrArg some (by kernel_rfl))
 f319:=func258.trans (congrArg some (by kernel_rfl))
 f320:=func259.trans (congrArg some (by kernel_rfl))
 f337:=func293.trans (congrArg some (by kernel_rfl))
 f338:=func294.trans (congrArg some (by kernel_rfl))
 t0:=underlying0
 a0:=Tryz.isAgg0
 z0:=Tryz.sizeOf0
 v0:=Tryz.zeroValue0
 t2:=underlying2
 a2:=Tryz.isAgg2
 z2:=Tryz.sizeOf2
 v2:=Tryz.zeroValue2
 t3:=underlying3
 a3:=Tryz.isAgg3
 z3:=Tryz.sizeOf3
 v3:=Tryz.zeroValue3
 t4:=underlying4
 a4:=Tryz.isAgg4
 z4:=Tryz.sizeOf4
 v4:=Tryz.zeroValue4
 t5:=underlying5
 a5:=Tryz.isAgg5
 z5:=Tryz.sizeOf5
 v5:=Tryz.zeroValue5
 t9:=underlying9
 a9:=Tryz.isAgg9
 z9:=Tryz.sizeOf9
 v9:=Tryz.zeroValue9
 t20:=underlying20
 a20:=Tryz.isAgg20
 z20:=Tryz.sizeOf20
 v20:=Tryz.zeroValue20
 t37:=underlying120
 a37:=Tryz.isAgg120
 z37:=Tryz.sizeOf120
 v37:=Tryz.zeroValue120
 t46:=underlying218
 a46:=Tryz.isAgg218
 z46:=Tryz.sizeOf218
 v46:=Tryz.zeroValue218
 t51:=underlying253
 a51:=Tryz.isAgg253
 z51:=Tryz.sizeOf253
 v51:=Tryz.zeroValue253
 t53:=underlying223
 a53:=Tryz.isAgg223
 z53:=Tryz.sizeOf223
 v53:=Tryz.zeroValue223
 t171:=underlying222
 a171:=Tryz.isAgg222
 z171:=Tryz.sizeOf222
 v171:=Tryz.zeroValue222
 t173:=underlying226
 a173:=Tryz.isAgg226
 z173:=Tryz.sizeOf226
 v173:=Tryz.zeroValue226
 t212:=underlying255
 a212:=Tryz.isAgg255
 z212:=Tryz.sizeOf255
 v212:=Tryz.zeroValue255
 t213:=underlying256
 a213:=Tryz.isAgg256
 z213:=Tryz.sizeOf256
 t232:=underlying287
 a232:=Tryz.isAgg287
 z232:=Tryz.sizeOf287
 v232:=Tryz.zeroValue287
 t233:=underlying288
 a233:=Tryz.isAgg288
 z233:=Tryz.sizeOf288
 v233:=Tryz.zeroValue288
 g17:=by kernel_rfl
 g18:=by kernel_rfl
 g19:=by kernel_rfl
 i0:=by kernel_rfl
 i2:=by kernel_rfl
 i3:=by kernel_rfl
 i4:=by kernel_rfl
 i5:=by kernel_rfl
 i9:=by kernel_rfl
 i20:=by kernel_rfl
 i37:=by kernel_rfl
 i46:=by kernel_rfl
 i51:=by kernel_rfl
 i53:=by kernel_rfl
 i171:=by kernel_rfl
 i173:=by kernel_rfl
 i212:=by kernel_rfl
 i232:=by kernel_rfl
 i233:=by kernel_rfl
 m17:=by kernel_rfl
 m18:=by kernel_rfl
 m19:=by kernel_rfl }
def Tryz.lays155_ren:Go.Shelf.Ren:=⟨λ| 155=>93 | 154=>153 | 138=>212 | 165=>88 | 143=>213 | 166=>89 | 197=>214 | 169=>90 | 195=>260 | 218=>261 | 240=>150 | 241=>151 | 219=>262 | 260=>263 | 276=>206 | 277=>207 | 217=>295 | 225=>296 | 224=>297 | 267=>298 | 266=>305 | 314=>306 | n=>n,λ| 9=>9 | 3=>3 | 4=>4 | 72=>122 | 0=>0 | 76=>126 | 105=>228 | 21=>21 | 5=>5 | 70=>119 | 20=>20 | 37=>120 | 75=>125 | 127=>180 | 164=>219 | 46=>218 | 119=>275 | 139=>278 | 138=>277 | 146=>289 | 51=>253 | 80=>128 | n=>n,λ| 1=>0 | 3=>2 | 4=>3 | n=>n⟩
theorem Tryz.lays155:Go.Proofs.Lays.n155 Tryz.prog Tryz.lays155_ren:={
 mixed:=by kernel_rfl
 f138:=func212.trans (congrArg some (by kernel_rfl))
 f143:=func213.trans (congrArg some (by kernel_rfl))
 f154:=func153.trans (congrArg some (by kernel_rfl))
 f155:=func93.trans (congrArg some (by kernel_rfl))
 f165:=func88.trans (congrArg some (by kernel_rfl))
 f166:=func89.trans (congrArg some (by kernel_rfl))
 f169:=func90.trans (congrArg some (by kernel_rfl))
 f195:=func260.trans (congrArg some (by kernel_rfl))
 f197:=func214.trans (congrArg some (by kernel_rfl))
 f217:=func295.trans (congrArg some (by kernel_rfl))
 f218:=func261.trans (congrArg some (by kernel_rfl))
 f219:=func262.trans (congrArg some (by kernel_rfl))
 f224:=func297.trans (congrArg some (by kernel_rfl))
 f225:=func296.trans (congrArg some (by kernel_rfl))
 f240:=func150.trans (congrArg some (by kernel_rfl))
 f241:=func151.trans (congrArg some (by kernel_rfl))
 f260:=func263.trans (congrArg some (by kernel_rfl))
 f266:=func305.trans (congrArg some (by kernel_rfl))
 f267:=func298.trans (congrArg some (by kernel_rfl))
 f276:=func206.trans (congrArg some (by kernel_rfl))
 f277:=func207.trans (congrArg some (by kernel_rfl))
 f314:=func306.trans (congrArg some (by kernel_rfl))
 t0:=underlying0
 a0:=Tryz.isAgg0
 z0:=Tryz.sizeOf0
 v0:=Tryz.zeroValue0
 t3:=underlying3
 a3:=Tryz.isAgg3
 z3:=Tryz.sizeOf3
 v3:=Tryz.zeroValue3
 t4:=underlying4
 a4:=Tryz.isAgg4
 z4:=Tryz.sizeOf4
 v4:=Tryz.zeroValue4
 t5:=underlying5
 a5:=Tryz.isAgg5
 z5:=Tryz.sizeOf5
 v5:=Tryz.zeroValue5
 t9:=underlying9
 a9:=Tryz.isAgg9
 z9:=Tryz.sizeOf9
 v9:=Tryz.zeroValue9
 t20:=underlying20
 a20:=Tryz.isAgg20
 z20:=Tryz.sizeOf20
 v20:=Tryz.zeroValue20
 t21:=underlying21
 a21:=Tryz.isAgg21
 z21:=Tryz.sizeOf21
 v21:=Tryz.zeroValue21
 t37:=underlying120
 a37:=Tryz.isAgg120
 z37:=Tryz.sizeOf120
 v37:=Tryz.zeroValue120
 t46:=underlying218
 a46:=Tryz.isAgg218
 z46:=Tryz.sizeOf218
 v46:=Tryz.zeroValue218
 t51:=underlying253
 a51:=Tryz.isAgg253
 z51:=Tryz.sizeOf253
 v51:=Tryz.zeroValue253
 t70:=underlying119
 a70:=Tryz.isAgg119
 z70:=Tryz.sizeOf119
 v70:=Tryz.zeroValue119
 t72:=underlying122
 a72:=Tryz.isAgg122
 z72:=Tryz.sizeOf122
 v72:=Tryz.zeroValue122
 t75:=underlying125
 a75:=Tryz.isAgg125
 z75:=Tryz.sizeOf125
 v75:=Tryz.zeroValue125
 t76:=underlying126
 a76:=Tryz.isAgg126
 z76:=Tryz.sizeOf126
 v76:=Tryz.zeroValue126
 t105:=underlying228
 a105:=Tryz.isAgg228
 z105:=Tryz.sizeOf228
 v105:=Tryz.zeroValue228
 t119:=underlying275
 a119:=Tryz.isAgg275
 z119:=Tryz.sizeOf275
 t127:=underlying180
 a127:=Tryz.isAgg180
 z127:=Tryz.sizeOf180
 v127:=Tryz.zeroValue180
 t138:=underlying277
 a138:=Tryz.isAgg277
 z138:=Tryz.sizeOf277
 v138:=Tryz.zeroValue277
 t139:=underlying278
 a139:=Tryz.isAgg278
 z139:=Tryz.sizeOf278
 v139:=Tryz.zeroValue278
 t146:=underlying289
 a146:=Tryz.isAgg289
 z146:=Tryz.sizeOf289
 v146:=Tryz.zeroValue289
 t164:=underlying219
 a164:=Tryz.isAgg219
 z164:=Tryz.sizeOf219
 v164:=Tryz.zeroValue219
 g1:=by kernel_rfl
 g3:=by kernel_rfl
 g4:=by kernel_rfl }
theorem Tryz.Builder_Extra_155:Builder.Extra Tryz.prog Tryz.lays155_ren:={
 sizeBuilder:=by kernel_rfl
 liesBuilder:=by kernel_rfl
 t5:=underlying5
 a5:=Tryz.isAgg5
 z5:=Tryz.sizeOf5
 v5:=Tryz.zeroValue5
 infoByte:=by kernel_rfl
 cellsByte:=by kernel_rfl
 sizeByte:=by kernel_rfl
 neB5:=by decide }
def Tryz.lays156_ren:Go.Shelf.Ren:=⟨λ| 156=>44 | 165=>88 | 166=>89 | 169=>90 | 240=>150 | 241=>151 | 276=>206 | 277=>207 | n=>n,λ| 31=>28 | 9=>9 | 3=>3 | 4=>4 | 0=>0 | 20=>20 | 72=>122 | 76=>126 | 70=>119 | 37=>120 | 75=>125 | 127=>180 | 164=>219 | 5=>5 | 80=>128 | n=>n,λ| n=>n⟩
theorem Tryz.lays156:Go.Proofs.Lays.n156 Tryz.prog Tryz.lays156_ren:={
 mixed:=by kernel_rfl
 f156:=func44.trans (congrArg some (by kernel_rfl))
 f165:=func88.trans (congrArg some (by kernel_rfl))
 f166:=func89.trans (congrArg some (by kernel_rfl))
 f169:=func90.trans (congrArg some (by kernel_rfl))
 f240:=func150.trans (congrArg some (by kernel_rfl))
 f241:=func151.trans (congrArg some (by kernel_rfl))
 f276:=func206.trans (congrArg some (by kernel_rfl))
 f277:=func207.trans (congrArg some (by kernel_rfl))
 t0:=underlying0
 a0:=Tryz.isAgg0
 z0:=Tryz.sizeOf0
 v0:=Tryz.zeroValue0
 t3:=underlying3
 a3:=Tryz.isAgg3
 z3:=Tryz.sizeOf3
 v3:=Tryz.zeroValue3
 t4:=underlying4
 a4:=Tryz.isAgg4
 z4:=Tryz.sizeOf4
 v4:=Tryz.zeroValue4
 t9:=underlying9
 a9:=Tryz.isAgg9
 z9:=Tryz.sizeOf9
 v9:=Tryz.zeroValue9
 t20:=underlying20
 a20:=Tryz.isAgg20
 z20:=Tryz.sizeOf20
 v20:=Tryz.zeroValue20
 t31:=underlying28
 a31:=Tryz.isAgg28
 z31:=Tryz.sizeOf28
 v31:=Tryz.zeroValue28
 t37:=underlying120
 a37:=Tryz.isAgg120
 z37:=Tryz.sizeOf120
 v37:=Tryz.zeroValue120
 t70:=underlying119
 a70:=Tryz.isAgg119
 z70:=Tryz.sizeOf119
 v70:=Tryz.zeroValue119
 t72:=underlying122
 a72:=Tryz.isAgg122
 z72:=Tryz.sizeOf122
 v72:=Tryz.zeroValue122
 t75:=underlying125
 a75:=Tryz.isAgg125
 z75:=Tryz.sizeOf125
 v75:=Tryz.zeroValue125
 t76:=underlying126
 a76:=Tryz.isAgg126
 z76:=Tryz.sizeOf126
 v76:=Tryz.zeroValue126
 t127:=underlying180
 a127:=Tryz.isAgg180
 z127:=Tryz.sizeOf180
 v127:=Tryz.zeroValue180
 t164:=underlying219
 a164:=Tryz.isAgg219
 z164:=Tryz.sizeOf219
 v164:=Tryz.zeroValue219 }
theorem Tryz.Builder_Extra_156:Builder.Extra Tryz.prog Tryz.lays156_ren:={
 sizeBuilder:=by kernel_rfl
 liesBuilder:=by kernel_rfl
 t5:=underlying5
 a5:=Tryz.isAgg5
 z5:=Tryz.sizeOf5
 v5:=Tryz.zeroValue5
 infoByte:=by kernel_rfl
 cellsByte:=by kernel_rfl
 sizeByte:=by kernel_rfl
 neB5:=by decide }
end Go.Proofs
namespace Go.Proofs.YtoknknbmfmddbaaGreatDoor
open Go Go.Ab
open Go.Proofs.Tryz
def strings_Compare (s p:ByteArray):Bool×Int:=zId s p
def zAn:Ab.Spec ty:=zh (cx:=base) (zd (zg zvy) (zd (zg zvy) zw)) λx=>((strings_Compare x.1 x.2.1).1,⟨[.pure (.lit (.int .i64 (strings_Compare x.1 x.2.1).2))],[]⟩)
theorem zNA:SdP 196 zAn:=z0n zdj Go.Proofs.Tryz.lays106 call196
end Go.Proofs.YtoknknbmfmddbaaGreatDoor
namespace Go.Proofs.YtoknknbmfmddbaaGreatDoor
open Go Go.Ab
open Go.Proofs.Tryz
def zWO:=zbG base 22 [(167,zjE),(168,zjU),(195,zlc),(196,zAn)]
def zJZ (a:Value) (b:Value):Wy0 (Int):=.bn (zdo a.Kind b.Kind) λr2=>.bn (zhR a.Int b.Int) λr1=>.bn (zk3 [r2,r1,(strings_Compare a.Text b.Text).2]) λr0=>.k r0
def zin (a:Value) (b:Value):=(zJZ a b).fin default
def zXq:AL base (Value×Value×Unit):=zd (zg (zcj 79)) (zd (zg (zcj 79)) zw)
def zlt:=zh zXq λx=>((zin x.1 x.2.1).1,zLf (zin x.1 x.2.1).2)
theorem zpg:SdP 131 zlt:=
 sT (cx':=zWO) (zk ⟨zkV,zmC,zp9,zNA,trivial⟩) call131 func131 (lOK aN)
def zCh (zr:yA->yA->Bool×Int) (zy:yB->yB->Bool×Int) (zB:yD->yD->Bool×Int) (zC:Wd->Wd->Bool×Int):=zbG base 51 [(131,zlt),(167,zjE),(168,zjU),(169,(zbh zr)),(170,(zdA zy)),(171,(zbB zB)),(172,(zdB zC))]
def ztb (zr:yA->yA->Bool×Int) (zy:yB->yB->Bool×Int) (zB:yD->yD->Bool×Int) (zC:Wd->Wd->Bool×Int) (a:At) (b:At):Wy0 (Int):=.bn (zdo a.Kind b.Kind) λr8=>.bn (zdo a.Row.Table b.Row.Table) λr7=>.bn (zdo a.Row.Seq b.Row.Seq) λr6=>.bn (zr a.Ag b.Ag) λr5=>.bn (zdo a.Func b.Func) λr4=>.bn (zB a.Items b.Items) λr3=>.bn (zdo a.Op b.Op) λr2=>.bn (zin a.Bd b.Bd) λr1=>.bn (zk3 [r8,r7,r6,r5,r4,r3,r2,r1]) λr0=>.k r0
def zi5 (zr:yA->yA->Bool×Int) (zy:yB->yB->Bool×Int) (zB:yD->yD->Bool×Int) (zC:Wd->Wd->Bool×Int) (a:At) (b:At):=(ztb zr zy zB zC a b).fin default
theorem zz9 (zr:yA->yA->Bool×Int) (zy:yB->yB->Bool×Int) (zB:yD->yD->Bool×Int) (zC:Wd->Wd->Bool×Int) (zeT:SdP 169 (zbh zr)) (zih:SdP 170 (zdA zy)) (zf0:SdP 171 (zbB zB)) (zlW:SdP 172 (zdB zC)):SdP 106 (zgb (zi5 zr zy zB zC)):=
 sT (cx':=(zCh zr zy zB zC)) (zk ⟨zpg,zkV,zmC,zeT,zih,zf0,zlW,trivial⟩) call106 func106 (lOK aN)
def zA2 (zcD:At->At->Bool×Int):=zbG base 17 [(106,(zgb zcD)),(167,zjE),(168,zjU)]
def zrE (zcD:At->At->Bool×Int) (a:Fc) (b:Fc):Wy0 (Int):=.bn (zcD (At.mk a.At.Kind a.At.Row a.At.Ag a.At.Func a.At.Items a.At.Op a.At.Bd) (At.mk b.At.Kind b.At.Row b.At.Ag b.At.Func b.At.Items b.At.Op b.At.Bd)) λr2=>.bn (zdo a.Exp b.Exp) λr1=>.bn (zk3 [r2,r1]) λr0=>.k r0
def zh4 (zcD:At->At->Bool×Int) (a:Fc) (b:Fc):=(zrE zcD a b).fin default
theorem zx5 (zcD:At->At->Bool×Int) (zEq:SdP 106 (zgb zcD)):SdP 166 (zdQ (zh4 zcD)):=
 sT (cx':=(zA2 zcD)) (zk ⟨zEq,zkV,zmC,trivial⟩) call166 func166 (lOK aN)
def zCm (zy:yB->yB->Bool×Int):=zbG base 17 [(131,zlt),(167,zjE),(170,(zdA zy))]
def zs5 (zy:yB->yB->Bool×Int) (a:Wd) (b:Wd):Wy0 (Int):=.bn (zin a.Value b.Value) λr2=>.bn (zy a.Ann b.Ann) λr1=>.bn (zk3 [r2,r1]) λr0=>.k r0
def zi7 (zy:yB->yB->Bool×Int) (a:Wd) (b:Wd):=(zs5 zy a b).fin default
theorem zz1 (zy:yB->yB->Bool×Int) (zih:SdP 170 (zdA zy)):SdP 172 (zdB (zi7 zy)):=
 sT (cx':=(zCm zy)) (zk ⟨zpg,zkV,zih,trivial⟩) call172 func172 (lOK aN)
def zCW (zJ:yC->yC->Bool×Int) (zx:Fc->Fc->Bool×Int):=zbG base 10 [(165,(zbO zJ)),(166,(zdQ zx))]
def zs9 (zJ:yC->yC->Bool×Int) (zx:Fc->Fc->Bool×Int) (a:Term) (b:Term):Wy0 (Int):=.bn (zJ a.Fs b.Fs) λr0=>.k r0
def zjd (zJ:yC->yC->Bool×Int) (zx:Fc->Fc->Bool×Int) (a:Term) (b:Term):=(zs9 zJ zx a b).fin default
theorem zAb (zJ:yC->yC->Bool×Int) (zx:Fc->Fc->Bool×Int) (zhV:SdP 165 (zbO zJ)) (zke:SdP 166 (zdQ zx)):SdP 104 (zfh (zjd zJ zx)):=
 sT (cx':=(zCW zJ zx)) (zk ⟨zhV,zke,trivial⟩) call104 func104 (lOK aN)
abbrev zbu:=yA×yA×Unit×yA×Int×Int×Unit
abbrev zcY:=Int⊕(yA×yA)
def zeE (zy:yB->yB->Bool×Int) (s1:yA) (s2:yA) (t11:yA) (t12:Int) (t13:Int):Wy zbu Unit zcY:=.i (decide (t13<t12)) (.i (decide (0<=t13)&&decide (t13<Int.ofNat t11.length)) (.i (decide (t13≥Int.ofNat s2.length)) (.k (.inl 1)) (.i (decide (0<=t13)&&decide (t13<Int.ofNat s2.length)) (.bn (zy (t11.getD t13.toNat default) (s2.getD t13.toNat default)) λr0=>.i (r0 != 0) (.k (.inl (r0))) (.h (s1,s2,(),t11,t12,(IntKind.i64.wrap (t13+1)),()) ())) .d)) .d) (.k (.inr (s1,s2)))
def zcy (zy:yB->yB->Bool×Int) (x:zbu) (y:Unit):=zeE zy x.1 x.2.1 x.2.2.2.1 x.2.2.2.2.1 x.2.2.2.2.2.1
def zeA (zy:yB->yB->Bool×Int) (n:Nat) (s1:yA) (s2:yA) (t11:yA) (t12:Int) (t13:Int):=zD (zcy zy) (.inl default) n (s1,s2,(),t11,t12,t13,()) ()
def zew (r:zcY):LTree ty:=.ite (isL r) (.done .ret [.lit (.int .i64 (getL r))] []) (.done (.exit 0) [.sl 51 (getR r).1,.sl 51 (getR r).2] [])
def zeC:LL ty zbu:=za (lSl 51) (za (lSl 51) (za (lFn 170 (zn)) (za (lSl 51) (za zj (za zj zn)))))
def zex (x:zbu) (y:Unit):Nat:=(x.1.length+x.2.1.length+x.2.2.2.1.length+Int.toNat x.2.2.2.2.1+Int.toNat x.2.2.2.2.2.1+1)
def zcw (zy:yB->yB->Bool×Int):=zb4 base 39 [(170,(zdA zy))] [] [(2,(kpL [0,1,2,11,12,13]))] [(2,1,(kpL [0,1])),(2,0,(kpL [6]))] [(2,spW zeC z0j (zcy zy) (.inl default) zew zex)] []
theorem zeu (zy:yB->yB->Bool×Int):zM (zcw zy) (lp (body f169) 0):=zu (id:=2) (hl:=rfl)
def zeM (zy:yB->yB->Bool×Int) (s1:yA) (s2:yA):Wy0 (Int):=.bn (zeA zy (s1.length+s2.length+s1.length+(Int.ofNat s1.length).toNat +Int.toNat 0+1) s1 s2 s1 (Int.ofNat s1.length) 0) λr2=>.i (isL r2) (.k (getL r2)) (.i (decide (Int.ofNat (getR r2).1.length<Int.ofNat (getR r2).2.length)) (.k (-1:Int)) (.k 0))
def zbg (zy:yB->yB->Bool×Int) (s1:yA) (s2:yA):=(zeM zy s1 s2).fin default
theorem zej (zy:yB->yB->Bool×Int) (zih:SdP 170 (zdA zy)):SdP 169 (zbh (zbg zy)):=
 sT (cx':=(zcw zy)) (zk ⟨zih,trivial⟩) call169 func169 (lOK (aC (zeu zy) aN))
abbrev zbZ:=yC×yC×Unit×yC×Int×Int×Unit
abbrev zef:=Int⊕(yC×yC)
def zds (zx:Fc->Fc->Bool×Int) (s1:yC) (s2:yC) (t11:yC) (t12:Int) (t13:Int):Wy zbZ Unit zef:=.i (decide (t13<t12)) (.i (decide (0<=t13)&&decide (t13<Int.ofNat t11.length)) (.i (decide (t13≥Int.ofNat s2.length)) (.k (.inl 1)) (.i (decide (0<=t13)&&decide (t13<Int.ofNat s2.length)) (.bn (zx (FO.mk (At.mk (t11.getD t13.toNat default).At.Kind (t11.getD t13.toNat default).At.Row (t11.getD t13.toNat default).At.Ag (t11.getD t13.toNat default).At.Func (t11.getD t13.toNat default).At.Items (t11.getD t13.toNat default).At.Op (t11.getD t13.toNat default).At.Bd) (t11.getD t13.toNat default).Exp) (FO.mk (At.mk (s2.getD t13.toNat default).At.Kind (s2.getD t13.toNat default).At.Row (s2.getD t13.toNat default).At.Ag (s2.getD t13.toNat default).At.Func (s2.getD t13.toNat default).At.Items (s2.getD t13.toNat default).At.Op (s2.getD t13.toNat default).At.Bd) (s2.getD t13.toNat default).Exp)) λr0=>.i (r0 != 0) (.k (.inl (r0))) (.h (s1,s2,(),t11,t12,(IntKind.i64.wrap (t13+1)),()) ())) .d)) .d) (.k (.inr (s1,s2)))
def zbH (zx:Fc->Fc->Bool×Int) (x:zbZ) (y:Unit):=zds zx x.1 x.2.1 x.2.2.2.1 x.2.2.2.2.1 x.2.2.2.2.2.1
def zdr (zx:Fc->Fc->Bool×Int) (n:Nat) (s1:yC) (s2:yC) (t11:yC) (t12:Int) (t13:Int):=zD (zbH zx) (.inl default) n (s1,s2,(),t11,t12,t13,()) ()
def zhi (r:zef):LTree ty:=.ite (isL r) (.done .ret [.lit (.int .i64 (getL r))] []) (.done (.exit 0) [.sl 145 (getR r).1,.sl 145 (getR r).2] [])
def zhv:LL ty zbZ:=za (lSl 145) (za (lSl 145) (za (lFn 166 (zn)) (za (lSl 145) (za zj (za zj zn)))))
def zhq (x:zbZ) (y:Unit):Nat:=(x.1.length+x.2.1.length+x.2.2.2.1.length+Int.toNat x.2.2.2.2.1+Int.toNat x.2.2.2.2.2.1+1)
def zdq (zx:Fc->Fc->Bool×Int):=zb4 base 39 [(166,(zdQ zx))] [] [(2,(kpL [0,1,2,11,12,13]))] [(2,1,(kpL [0,1])),(2,0,(kpL [6]))] [(2,spW zhv z0j (zbH zx) (.inl default) zhi zhq)] []
theorem zhg (zx:Fc->Fc->Bool×Int):zM (zdq zx) (lp (body f165) 0):=zu (id:=2) (hl:=rfl)
def zdw (zx:Fc->Fc->Bool×Int) (s1:yC) (s2:yC):Wy0 (Int):=.bn (zdr zx (s1.length+s2.length+s1.length+(Int.ofNat s1.length).toNat +Int.toNat 0+1) s1 s2 s1 (Int.ofNat s1.length) 0) λr2=>.i (isL r2) (.k (getL r2)) (.i (decide (Int.ofNat (getR r2).1.length<Int.ofNat (getR r2).2.length)) (.k (-1:Int)) (.k 0))
def zbk (zx:Fc->Fc->Bool×Int) (s1:yC) (s2:yC):=(zdw zx s1 s2).fin default
theorem zgJ (zx:Fc->Fc->Bool×Int) (zke:SdP 166 (zdQ zx)):SdP 165 (zbO (zbk zx)):=
 sT (cx':=(zdq zx)) (zk ⟨zke,trivial⟩) call165 func165 (lOK (aC (zhg zx) aN))
abbrev zbN:=yD×yD×Unit×yD×Int×Int×Unit
abbrev zdy:=Int⊕(yD×yD)
def zfG (zC:Wd->Wd->Bool×Int) (s1:yD) (s2:yD) (t11:yD) (t12:Int) (t13:Int):Wy zbN Unit zdy:=.i (decide (t13<t12)) (.i (decide (0<=t13)&&decide (t13<Int.ofNat t11.length)) (.i (decide (t13≥Int.ofNat s2.length)) (.k (.inl 1)) (.i (decide (0<=t13)&&decide (t13<Int.ofNat s2.length)) (.bn (zC (t11.getD t13.toNat default) (s2.getD t13.toNat default)) λr0=>.i (r0 != 0) (.k (.inl (r0))) (.h (s1,s2,(),t11,t12,(IntKind.i64.wrap (t13+1)),()) ())) .d)) .d) (.k (.inr (s1,s2)))
def zcO (zC:Wd->Wd->Bool×Int) (x:zbN) (y:Unit):=zfG zC x.1 x.2.1 x.2.2.2.1 x.2.2.2.2.1 x.2.2.2.2.2.1
def zfM (zC:Wd->Wd->Bool×Int) (n:Nat) (s1:yD) (s2:yD) (t11:yD) (t12:Int) (t13:Int):=zD (zcO zC) (.inl default) n (s1,s2,(),t11,t12,t13,()) ()
def zfB (r:zdy):LTree ty:=.ite (isL r) (.done .ret [.lit (.int .i64 (getL r))] []) (.done (.exit 0) [.sl 169 (getR r).1,.sl 169 (getR r).2] [])
def zfI:LL ty zbN:=za (lSl 169) (za (lSl 169) (za (lFn 172 (zn)) (za (lSl 169) (za zj (za zj zn)))))
def zfz (x:zbN) (y:Unit):Nat:=(x.1.length+x.2.1.length+x.2.2.2.1.length+Int.toNat x.2.2.2.2.1+Int.toNat x.2.2.2.2.2.1+1)
def zcP (zC:Wd->Wd->Bool×Int):=zb4 base 39 [(172,(zdB zC))] [] [(2,(kpL [0,1,2,11,12,13]))] [(2,1,(kpL [0,1])),(2,0,(kpL [6]))] [(2,spW zfI z0j (zcO zC) (.inl default) zfB zfz)] []
theorem zfy (zC:Wd->Wd->Bool×Int):zM (zcP zC) (lp (body f171) 0):=zu (id:=2) (hl:=rfl)
def zf2 (zC:Wd->Wd->Bool×Int) (s1:yD) (s2:yD):Wy0 (Int):=.bn (zfM zC (s1.length+s2.length+s1.length+(Int.ofNat s1.length).toNat +Int.toNat 0+1) s1 s2 s1 (Int.ofNat s1.length) 0) λr2=>.i (isL r2) (.k (getL r2)) (.i (decide (Int.ofNat (getR r2).1.length<Int.ofNat (getR r2).2.length)) (.k (-1:Int)) (.k 0))
def zbz (zC:Wd->Wd->Bool×Int) (s1:yD) (s2:yD):=(zf2 zC s1 s2).fin default
theorem zfq (zC:Wd->Wd->Bool×Int) (zlW:SdP 172 (zdB zC)):SdP 171 (zbB (zbz zC)):=
 sT (cx':=(zcP zC)) (zk ⟨zlW,trivial⟩) call171 func171 (lOK (aC (zfy zC) aN))
abbrev zbV:=yB×yB×Unit×yB×Int×Int×Unit
abbrev zd0:=Int⊕(yB×yB)
def zg3 (zI:Term->Term->Bool×Int) (s1:yB) (s2:yB) (t11:yB) (t12:Int) (t13:Int):Wy zbV Unit zd0:=.i (decide (t13<t12)) (.i (decide (0<=t13)&&decide (t13<Int.ofNat t11.length)) (.i (decide (t13≥Int.ofNat s2.length)) (.k (.inl 1)) (.i (decide (0<=t13)&&decide (t13<Int.ofNat s2.length)) (.bn (zI (t11.getD t13.toNat default) (s2.getD t13.toNat default)) λr0=>.i (r0 != 0) (.k (.inl (r0))) (.h (s1,s2,(),t11,t12,(IntKind.i64.wrap (t13+1)),()) ())) .d)) .d) (.k (.inr (s1,s2)))
def zdh (zI:Term->Term->Bool×Int) (x:zbV) (y:Unit):=zg3 zI x.1 x.2.1 x.2.2.2.1 x.2.2.2.2.1 x.2.2.2.2.2.1
def zg6 (zI:Term->Term->Bool×Int) (n:Nat) (s1:yB) (s2:yB) (t11:yB) (t12:Int) (t13:Int):=zD (zdh zI) (.inl default) n (s1,s2,(),t11,t12,t13,()) ()
def zgY (r:zd0):LTree ty:=.ite (isL r) (.done .ret [.lit (.int .i64 (getL r))] []) (.done (.exit 0) [.sl 107 (getR r).1,.sl 107 (getR r).2] [])
def zg2:LL ty zbV:=za (lSl 107) (za (lSl 107) (za (lFn 225 (zn)) (za (lSl 107) (za zj (za zj zn)))))
def zgQ (x:zbV) (y:Unit):Nat:=(x.1.length+x.2.1.length+x.2.2.2.1.length+Int.toNat x.2.2.2.2.1+Int.toNat x.2.2.2.2.2.1+1)
def zdg (zI:Term->Term->Bool×Int):=zb4 base 39 [(225,(zfh zI))] [] [(2,(kpL [0,1,2,11,12,13]))] [(2,1,(kpL [0,1])),(2,0,(kpL [6]))] [(2,spW zg2 z0j (zdh zI) (.inl default) zgY zgQ)] []
theorem zg0 (zI:Term->Term->Bool×Int):zM (zdg zI) (lp (body f224) 0):=zu (id:=2) (hl:=rfl)
def zhn (zI:Term->Term->Bool×Int) (s1:yB) (s2:yB):Wy0 (Int):=.bn (zg6 zI (s1.length+s2.length+s1.length+(Int.ofNat s1.length).toNat +Int.toNat 0+1) s1 s2 s1 (Int.ofNat s1.length) 0) λr2=>.i (isL r2) (.k (getL r2)) (.i (decide (Int.ofNat (getR r2).1.length<Int.ofNat (getR r2).2.length)) (.k (-1:Int)) (.k 0))
def zbJ (zI:Term->Term->Bool×Int) (s1:yB) (s2:yB):=(zhn zI s1 s2).fin default
theorem zgl (zI:Term->Term->Bool×Int) (znR:SdP 225 (zfh zI)):SdP 224 (zbL (zbJ zI)):=
 sT (cx':=(zdg zI)) (zk ⟨znR,trivial⟩) call224 func224 (lOK (aC (zg0 zI) aN))
def zb2:Nat->(yB->yB->Bool×Int)×(Term->Term->Bool×Int)×(Term->Term->Bool×Int)×(Fc->Fc->Bool×Int)×(At->At->Bool×Int)×(Wd->Wd->Bool×Int)×(yB->yB->Bool×Int)×(yC->yC->Bool×Int)×(yA->yA->Bool×Int)×(yD->yD->Bool×Int)
 | 0=>(λ_ _=>(false,default),λ_ _=>(false,default),λ_ _=>(false,default),λ_ _=>(false,default),λ_ _=>(false,default),λ_ _=>(false,default),λ_ _=>(false,default),λ_ _=>(false,default),λ_ _=>(false,default),λ_ _=>(false,default))
 | n+1=>(znV ((zb2 n).2.2.2.2.2.2.1) ((zb2 n).2.1),zko ((zb2 n).2.2.1),zjd ((zb2 n).2.2.2.2.2.2.2.1) ((zb2 n).2.2.2.1),zh4 ((zb2 n).2.2.2.2.1),zi5 ((zb2 n).2.2.2.2.2.2.2.2.1) ((zb2 n).1) ((zb2 n).2.2.2.2.2.2.2.2.2) ((zb2 n).2.2.2.2.2.1),zi7 ((zb2 n).1),zbJ ((zb2 n).2.1),zbk ((zb2 n).2.2.2.1),zbg ((zb2 n).1),zbz ((zb2 n).2.2.2.2.2.1))
def zfr (n:Nat):yB->yB->Bool×Int:=(zb2 n).1
def zhy (n:Nat):Term->Term->Bool×Int:=(zb2 n).2.1
def zga (n:Nat):Term->Term->Bool×Int:=(zb2 n).2.2.1
def zfb (n:Nat):Fc->Fc->Bool×Int:=(zb2 n).2.2.2.1
def zgc (n:Nat):At->At->Bool×Int:=(zb2 n).2.2.2.2.1
def zem (n:Nat):Wd->Wd->Bool×Int:=(zb2 n).2.2.2.2.2.1
def zbK (n:Nat):yB->yB->Bool×Int:=(zb2 n).2.2.2.2.2.2.1
def zbP (n:Nat):yC->yC->Bool×Int:=(zb2 n).2.2.2.2.2.2.2.1
def zbf (n:Nat):yA->yA->Bool×Int:=(zb2 n).2.2.2.2.2.2.2.2.1
def zbA (n:Nat):yD->yD->Bool×Int:=(zb2 n).2.2.2.2.2.2.2.2.2
theorem zI7 (n:Nat):zfr (n+1)=znV (zbK n) (zhy n):=rfl
theorem zE2 (n:Nat):zhy (n+1)=zko (zga n):=rfl
theorem zCi (n:Nat):zga (n+1)=zjd (zbP n) (zfb n):=rfl
theorem zAB (n:Nat):zfb (n+1)=zh4 (zgc n):=rfl
theorem zCC (n:Nat):zgc (n+1)=zi5 (zbf n) (zfr n) (zbA n) (zem n):=rfl
theorem zCy (n:Nat):zem (n+1)=zi7 (zfr n):=rfl
theorem zg5 (n:Nat):zbK (n+1)=zbJ (zhy n):=rfl
theorem zhE (n:Nat):zbP (n+1)=zbk (zfb n):=rfl
theorem zeD (n:Nat):zbf (n+1)=zbg (zfr n):=rfl
theorem zfO (n:Nat):zbA (n+1)=zbz (zem n):=rfl
theorem zuH:∀ n,SdP 170 (zdA (zfr n))/\SdP 225 (zfh (zhy n))/\SdP 104 (zfh (zga n))/\SdP 166 (zdQ (zfb n))/\SdP 106 (zgb (zgc n))/\SdP 172 (zdB (zem n))/\SdP 224 (zbL (zbK n))/\SdP 165 (zbO (zbP n))/\SdP 169 (zbh (zbf n))/\SdP 171 (zbB (zbA n))
 | 0=>⟨zbl call170 (λ_=>rfl),zbl call225 (λ_=>rfl),zbl call104 (λ_=>rfl),zbl call166 (λ_=>rfl),zbl call106 (λ_=>rfl),zbl call172 (λ_=>rfl),zbl call224 (λ_=>rfl),zbl call165 (λ_=>rfl),zbl call169 (λ_=>rfl),zbl call171 (λ_=>rfl)⟩
 | n+1=>by
  have ih:=zuH n;exact ⟨zFb _ _ (ih.2.2.2.2.2.2.1) (ih.2.1),zBG _ (ih.2.2.1),zAb _ _ (ih.2.2.2.2.2.2.2.1) (ih.2.2.2.1),zx5 _ (ih.2.2.2.2.1),zz9 _ _ _ _ (ih.2.2.2.2.2.2.2.2.1) (ih.1) (ih.2.2.2.2.2.2.2.2.2) (ih.2.2.2.2.2.1),zz1 _ (ih.1),zgl _ (ih.2.1),zgJ _ (ih.2.2.2.1),zej _ (ih.1),zfq _ (ih.2.2.2.2.2.1)⟩
def zwu:yB->yB->Bool×Int:=zfr 1000
def zxv:Ab.Spec ty:=zdA zwu
theorem zHR:SdP 170 zxv:=(zuH 1000).1
def zb7:Term->Term->Bool×Int:=zga 1000
def zhl:Ab.Spec ty:=zfh zb7
theorem zki:SdP 104 zhl:=(zuH 1000).2.2.1
def zhC:At->At->Bool×Int:=zgc 1000
def zkS:Ab.Spec ty:=zgb zhC
theorem zrF:SdP 106 zkS:=(zuH 1000).2.2.2.2.1
def zbo:Wd->Wd->Bool×Int:=zem 1000
def zeN:Ab.Spec ty:=zdB zbo
theorem zgG:SdP 172 zeN:=(zuH 1000).2.2.2.2.2.1
def zQG:=zbG base 9 [(170,zxv)]
def zC7 (a:yB) (b:yB):Wy0 (Bool):=.bn (zwu a b) λr0=>.k (r0==0)
def zgP (a:yB) (b:yB):=(zC7 a b).fin default
def zmo:=zh zOq λx=>((zgP x.1 x.2.1).1,zQZ (zgP x.1 x.2.1).2)
theorem zrt:SdP 115 zmo:=
 sT (cx':=zQG) (zk ⟨zHR,trivial⟩) call115 func115 (lOK aN)
end Go.Proofs.YtoknknbmfmddbaaGreatDoor
end
