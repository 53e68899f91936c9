/- Texts of this claim, joined (the program, its functions in plain words, and what they compute). -/
import Derived.KernelRfl
import Derived.Test.YtoknknbmfmddbaaGreatDoorChecked
import Derived.Test.YtoknknbmfmddbaaGreatDoorProg
import Derived.Test.YtoknknbmfmddbaaGreatDoorGB1
set_option autoImplicit false
set_option linter.unusedVariables false
set_option linter.unusedSectionVars false
set_option linter.unusedSimpArgs false
set_option maxRecDepth 1000000
set_option maxHeartbeats 0
/- The types of the program, as plain data. -/
noncomputable section
namespace Go.Proofs.YtoknknbmfmddbaaGreatDoor
open Go Go.Ab
open Go.Proofs Go.Shelf
open Go.Proofs.Tryz
structure Column where
 Name:ByteArray
 Type_:Int
 deriving DecidableEq,Inhabited
structure Value where
 Kind:Int
 Int:Int
 Text:ByteArray
 deriving DecidableEq,Inhabited
structure RowID where
 Table:Int
 Seq:Int
 deriving DecidableEq,Inhabited
structure FO (A:Type) where
 At:A
 Exp:Int
structure TO (A:Type) where
 Cf:Int
 Fs:List (FO A)
structure WO (A:Type) where
 Value:Value
 Ann:List (TO A)
structure At where
 Kind:Int
 Row:RowID
 Ag:List (List (TO At))
 Func:Int
 Items:List (WO At)
 Op:Int
 Bd:Value
abbrev Fc:=FO At
abbrev Term:=TO At
abbrev Wd:=WO At
instance:Inhabited At:=⟨⟨0,default,[],0,[],0,default⟩⟩
instance:Inhabited Fc:=⟨⟨default,0⟩⟩
instance:Inhabited Term:=⟨⟨0,[]⟩⟩
instance:Inhabited Wd:=⟨⟨default,[]⟩⟩
theorem At.eta (x:At):(⟨x.Kind,x.Row,x.Ag,x.Func,x.Items,x.Op,x.Bd⟩:At)=x:=by cases x; rfl
mutual
def zbaE:(x y:At)->Decidable (x=y)
 | ⟨k,r,a,f,i,o,b⟩,⟨k',r',a',f',i',o',b'⟩=>
  match decEq k k',decEq r r',zba4 a a',decEq f f',z7K i i',decEq o o',decEq b b' with
  | .isTrue h1,.isTrue h2,.isTrue h3,.isTrue h4,.isTrue h5,.isTrue h6,.isTrue h7=>.isTrue (by subst h1 h2 h3 h4 h5 h6 h7; rfl)
  | .isFalse h,_,_,_,_,_,_=>.isFalse (λe=>by cases e; exact h rfl)
  | _,.isFalse h,_,_,_,_,_=>.isFalse (λe=>by cases e; exact h rfl)
  | _,_,.isFalse h,_,_,_,_=>.isFalse (λe=>by cases e; exact h rfl)
  | _,_,_,.isFalse h,_,_,_=>.isFalse (λe=>by cases e; exact h rfl)
  | _,_,_,_,.isFalse h,_,_=>.isFalse (λe=>by cases e; exact h rfl)
  | _,_,_,_,_,.isFalse h,_=>.isFalse (λe=>by cases e; exact h rfl)
  | _,_,_,_,_,_,.isFalse h=>.isFalse (λe=>by cases e; exact h rfl)
def z4X:(x y:Fc)->Decidable (x=y)
 | ⟨a,e⟩,⟨a',e'⟩=>match zbaE a a',decEq e e' with
  | .isTrue h1,.isTrue h2=>.isTrue (by subst h1 h2; rfl)
  | .isFalse h,_=>.isFalse (λe=>by cases e; exact h rfl)
  | _,.isFalse h=>.isFalse (λe=>by cases e; exact h rfl)
def z1O:(x y:List Fc)->Decidable (x=y)
 | [],[]=>.isTrue rfl
 | [],_::_=>.isFalse (by simp)
 | _::_,[]=>.isFalse (by simp)
 | x::r,y::s=>match z4X x y,z1O r s with
  | .isTrue h1,.isTrue h2=>.isTrue (by subst h1 h2; rfl)
  | .isFalse h,_=>.isFalse (λe=>by cases e; exact h rfl)
  | _,.isFalse h=>.isFalse (λe=>by cases e; exact h rfl)
def zbaC:(x y:Term)->Decidable (x=y)
 | ⟨a,e⟩,⟨a',e'⟩=>match decEq a a',z1O e e' with
  | .isTrue h1,.isTrue h2=>.isTrue (by subst h1 h2; rfl)
  | .isFalse h,_=>.isFalse (λe=>by cases e; exact h rfl)
  | _,.isFalse h=>.isFalse (λe=>by cases e; exact h rfl)
def z7G:(x y:List Term)->Decidable (x=y)
 | [],[]=>.isTrue rfl
 | [],_::_=>.isFalse (by simp)
 | _::_,[]=>.isFalse (by simp)
 | x::r,y::s=>match zbaC x y,z7G r s with
  | .isTrue h1,.isTrue h2=>.isTrue (by subst h1 h2; rfl)
  | .isFalse h,_=>.isFalse (λe=>by cases e; exact h rfl)
  | _,.isFalse h=>.isFalse (λe=>by cases e; exact h rfl)
def zba4:(x y:List (List Term))->Decidable (x=y)
 | [],[]=>.isTrue rfl
 | [],_::_=>.isFalse (by simp)
 | _::_,[]=>.isFalse (by simp)
 | x::r,y::s=>match z7G x y,zba4 r s with
  | .isTrue h1,.isTrue h2=>.isTrue (by subst h1 h2; rfl)
  | .isFalse h,_=>.isFalse (λe=>by cases e; exact h rfl)
  | _,.isFalse h=>.isFalse (λe=>by cases e; exact h rfl)
def zbaH:(x y:Wd)->Decidable (x=y)
 | ⟨a,e⟩,⟨a',e'⟩=>match decEq a a',z7G e e' with
  | .isTrue h1,.isTrue h2=>.isTrue (by subst h1 h2; rfl)
  | .isFalse h,_=>.isFalse (λe=>by cases e; exact h rfl)
  | _,.isFalse h=>.isFalse (λe=>by cases e; exact h rfl)
def z7K:(x y:List Wd)->Decidable (x=y)
 | [],[]=>.isTrue rfl
 | [],_::_=>.isFalse (by simp)
 | _::_,[]=>.isFalse (by simp)
 | x::r,y::s=>match zbaH x y,z7K r s with
  | .isTrue h1,.isTrue h2=>.isTrue (by subst h1 h2; rfl)
  | .isFalse h,_=>.isFalse (λe=>by cases e; exact h rfl)
  | _,.isFalse h=>.isFalse (λe=>by cases e; exact h rfl)
end
instance:DecidableEq At:=zbaE
instance:DecidableEq Fc:=z4X
instance:DecidableEq Term:=zbaC
instance:DecidableEq Wd:=zbaH
structure Row where
 Values:List Value
 Ann:List Term
 deriving DecidableEq,Inhabited
structure Relation where
 Columns:List Column
 Rows:List Row
 deriving DecidableEq,Inhabited
structure Table where
 ID:Int
 Name:ByteArray
 Columns:List Column
 Rows:List Row
 deriving DecidableEq,Inhabited
structure Bg where
 Row:RowID
 To:List Term
 deriving DecidableEq,Inhabited
structure pair where
 c:Column
 v:Value
 deriving DecidableEq,Inhabited
abbrev yA:=List (List Term)
abbrev yB:=List Term
abbrev yC:=List Fc
abbrev yD:=List Wd
abbrev yE:=List Bg
abbrev yF:=List Row
abbrev yG:=List Value
abbrev yH:=List Column
def ty:Nat->Type
 | 2=>Int
 | 3=>Int
 | 4=>Bool
 | 5=>Int
 | 9=>ByteArray
 | 22=>yH
 | 23=>yF
 | 25=>Relation
 | 28=>List ByteArray
 | 32=>List (yG)
 | 34=>yG
 | 36=>Table
 | 39=>Int
 | 50=>yB
 | 51=>yB
 | 54=>Row
 | 60=>yE
 | 63=>RowID
 | 65=>Bg
 | 69=>List RowID
 | 73=>List Relation
 | 75=>Column
 | 79=>Value
 | 105=>yC
 | 107=>Term
 | 110=>yA
 | 120=>List Int
 | 135=>List pair
 | 137=>pair
 | 141=>yD
 | 143=>At
 | 145=>Fc
 | 155=>List (yF)
 | 169=>Wd
 | 207=>Unit
 | 218=>Int
 | 223=>Int
 | 234=>List Int
 | 282=>List (yC)
 | _=>Unit
instance:(T:Nat)->Inhabited (ty T):=λT=>by
 unfold ty;split <;>infer_instance
def zbgv:DT ty Column:=zBc (λx=>⟨x.1,x.2⟩) (λx=>(x.Name,x.Type_)) (λ_=>rfl) (zj9 (z7b) (zsH .i64))
def zbb4:DT ty Value:=zBc (λx=>⟨x.1,x.2.1,x.2.2⟩) (λx=>(x.Kind,x.Int,x.Text)) (λ_=>rfl) (zj9 (zsH .i64) (zj9 (zsH .i64) (z7b)))
def zbdq:DT ty RowID:=zBc (λx=>⟨x.1,x.2⟩) (λx=>(x.Table,x.Seq)) (λ_=>rfl) (zj9 (zsH .i64) (zsH .i64))
def zbeE:DT ty At:=zBc (λx=>⟨x.1,x.2.1,x.2.2.1,x.2.2.2.1,x.2.2.2.2.1,x.2.2.2.2.2.1,x.2.2.2.2.2.2⟩) (λx=>(x.Kind,x.Row,x.Ag,x.Func,x.Items,x.Op,x.Bd)) (λ_=>rfl) (zj9 (zsH .i64) (zj9 (zbdq) (zj9 (zlc 51) (zj9 (zsH .i64) (zj9 (zlc 169) (zj9 (zsH .i64) (zbb4)))))))
def zbh8:DT ty Fc:=zBc (λx=>⟨x.1,x.2⟩) (λx=>(x.At,x.Exp)) (λ_=>rfl) (zj9 (zbeE) (zsH .i64))
def zbh9:DT ty Term:=zBc (λx=>⟨x.1,x.2⟩) (λx=>(x.Cf,x.Fs)) (λ_=>rfl) (zj9 (zsH .i64) (zlc 145))
def zbh3:DT ty Wd:=zBc (λx=>⟨x.1,x.2⟩) (λx=>(x.Value,x.Ann)) (λ_=>rfl) (zj9 (zbb4) (zlc 107))
def zbim:DT ty Row:=zBc (λx=>⟨x.1,x.2⟩) (λx=>(x.Values,x.Ann)) (λ_=>rfl) (zj9 (zlc 79) (zlc 107))
def zbiy:DT ty Relation:=zBc (λx=>⟨x.1,x.2⟩) (λx=>(x.Columns,x.Rows)) (λ_=>rfl) (zj9 (zlc 75) (zlc 54))
def zbiA:DT ty Table:=zBc (λx=>⟨x.1,x.2.1,x.2.2.1,x.2.2.2⟩) (λx=>(x.ID,x.Name,x.Columns,x.Rows)) (λ_=>rfl) (zj9 (zsH .i64) (zj9 (z7b) (zj9 (zlc 75) (zlc 54))))
def zbiC:DT ty Bg:=zBc (λx=>⟨x.1,x.2⟩) (λx=>(x.Row,x.To)) (λ_=>rfl) (zj9 (zbdq) (zlc 107))
def zbhG:DT ty pair:=zBc (λx=>⟨x.1,x.2⟩) (λx=>(x.c,x.v)) (λ_=>rfl) (zj9 (zbgv) (zbb4))
def z2F:List ((T:Nat)×DT ty (ty T)):=[⟨2,(zsH .i64:DT ty Int)⟩,⟨3,(zsH .i64:DT ty Int)⟩,⟨4,(zbg6:DT ty Bool)⟩,⟨5,(zsH .u8:DT ty Int)⟩,⟨9,(z7b:DT ty ByteArray)⟩,⟨22,(zlc 75:DT ty (yH))⟩,⟨23,(zlc 54:DT ty (yF))⟩,⟨25,(zbiy:DT ty Relation)⟩,⟨28,(zlc 9:DT ty (List ByteArray))⟩,⟨32,(zlc 34:DT ty (List (yG)))⟩,⟨34,(zlc 79:DT ty (yG))⟩,⟨36,(zbiA:DT ty Table)⟩,⟨39,(zsH .i64:DT ty Int)⟩,⟨50,(zlc 107:DT ty (yB))⟩,⟨51,(zlc 107:DT ty (yB))⟩,⟨54,(zbim:DT ty Row)⟩,⟨60,(zlc 65:DT ty (yE))⟩,⟨63,(zbdq:DT ty RowID)⟩,⟨65,(zbiC:DT ty Bg)⟩,⟨69,(zlc 63:DT ty (List RowID))⟩,⟨73,(zlc 25:DT ty (List Relation))⟩,⟨75,(zbgv:DT ty Column)⟩,⟨79,(zbb4:DT ty Value)⟩,⟨105,(zlc 145:DT ty (yC))⟩,⟨107,(zbh9:DT ty Term)⟩,⟨110,(zlc 51:DT ty (yA))⟩,⟨120,(zlc 5:DT ty (List Int))⟩,⟨135,(zlc 137:DT ty (List pair))⟩,⟨137,(zbhG:DT ty pair)⟩,⟨141,(zlc 169:DT ty (yD))⟩,⟨143,(zbeE:DT ty At)⟩,⟨145,(zbh8:DT ty Fc)⟩,⟨155,(zlc 23:DT ty (List (yF)))⟩,⟨169,(zbh3:DT ty Wd)⟩,⟨207,(zbir:DT ty Unit)⟩,⟨218,(zsH .u64:DT ty Int)⟩,⟨223,(zsH .u64:DT ty Int)⟩,⟨234,(zlc 3:DT ty (List Int))⟩,⟨282,(zlc 105:DT ty (List (yC)))⟩]
def z7m:List (Nat×TInfo):=[(2,⟨.int .i64,1,8,[.int .i64 (0)]⟩),
 (3,⟨.int .i64,1,8,[.int .i64 (0)]⟩),
 (4,⟨.bool,1,1,[.bool false]⟩),
 (5,⟨.int .u8,1,1,[.int .u8 (0)]⟩),
 (9,⟨.str,1,16,[.string ⟨#[]⟩]⟩),
 (22,⟨.slice 75,1,24,[.slice none 0 0]⟩),
 (23,⟨.slice 54,1,24,[.slice none 0 0]⟩),
 (25,⟨.struct [(0,22),(1,23)],2,48,[.slice none 0 0,.slice none 0 0]⟩),
 (28,⟨.slice 9,1,24,[.slice none 0 0]⟩),
 (32,⟨.slice 34,1,24,[.slice none 0 0]⟩),
 (34,⟨.slice 79,1,24,[.slice none 0 0]⟩),
 (36,⟨.struct [(0,3),(1,9),(2,22),(3,23)],4,72,[.int .i64 (0),.string ⟨#[]⟩,.slice none 0 0,.slice none 0 0]⟩),
 (39,⟨.int .i64,1,8,[.int .i64 (0)]⟩),
 (50,⟨.slice 107,1,24,[.slice none 0 0]⟩),
 (51,⟨.slice 107,1,24,[.slice none 0 0]⟩),
 (54,⟨.struct [(0,34),(1,51)],2,48,[.slice none 0 0,.slice none 0 0]⟩),
 (60,⟨.slice 65,1,24,[.slice none 0 0]⟩),
 (63,⟨.struct [(0,3),(1,3)],2,16,[.int .i64 (0),.int .i64 (0)]⟩),
 (65,⟨.struct [(0,63),(2,51)],3,40,[.int .i64 (0),.int .i64 (0),.slice none 0 0]⟩),
 (69,⟨.slice 63,1,24,[.slice none 0 0]⟩),
 (73,⟨.slice 25,1,24,[.slice none 0 0]⟩),
 (75,⟨.struct [(0,9),(1,3)],2,24,[.string ⟨#[]⟩,.int .i64 (0)]⟩),
 (79,⟨.struct [(0,3),(1,2),(2,9)],3,32,[.int .i64 (0),.int .i64 (0),.string ⟨#[]⟩]⟩),
 (105,⟨.slice 145,1,24,[.slice none 0 0]⟩),
 (107,⟨.struct [(0,2),(1,105)],2,32,[.int .i64 (0),.slice none 0 0]⟩),
 (110,⟨.slice 51,1,24,[.slice none 0 0]⟩),
 (120,⟨.slice 5,1,24,[.slice none 0 0]⟩),
 (135,⟨.slice 137,1,24,[.slice none 0 0]⟩),
 (137,⟨.struct [(0,75),(2,79)],5,56,[.string ⟨#[]⟩,.int .i64 (0),.int .i64 (0),.int .i64 (0),.string ⟨#[]⟩]⟩),
 (141,⟨.slice 169,1,24,[.slice none 0 0]⟩),
 (143,⟨.struct [(0,3),(1,63),(3,110),(4,3),(5,141),(6,3),(7,79)],10,120,[.int .i64 (0),.int .i64 (0),.int .i64 (0),.slice none 0 0,.int .i64 (0),.slice none 0 0,.int .i64 (0),.int .i64 (0),.int .i64 (0),.string ⟨#[]⟩]⟩),
 (145,⟨.struct [(0,143),(10,3)],11,128,[.int .i64 (0),.int .i64 (0),.int .i64 (0),.slice none 0 0,.int .i64 (0),.slice none 0 0,.int .i64 (0),.int .i64 (0),.int .i64 (0),.string ⟨#[]⟩,.int .i64 (0)]⟩),
 (155,⟨.slice 23,1,24,[.slice none 0 0]⟩),
 (169,⟨.struct [(0,79),(3,51)],4,56,[.int .i64 (0),.int .i64 (0),.string ⟨#[]⟩,.slice none 0 0]⟩),
 (207,⟨.map 9 3,1,8,[.map none]⟩),
 (218,⟨.int .u64,1,8,[.int .u64 (0)]⟩),
 (223,⟨.int .u64,1,8,[.int .u64 (0)]⟩),
 (234,⟨.slice 3,1,24,[.slice none 0 0]⟩),
 (282,⟨.slice 105,1,24,[.slice none 0 0]⟩)]
def zVZ:List (Nat×List TD):=[(75,[.str,.int .i64]),(79,[.int .i64,.int .i64,.str]),(63,[.int .i64,.int .i64])]
def inv (w:World):Prop:=Lib.TabIs Tryz.prog w "internal/strconv.uint64pow10" .u64 Lib.pow10Tab/\(∃ m,w.cell? ⟨0,0,none⟩=some (.int .i64 m))
theorem zbdG {n:String} {g:Nat} {w w':World} (hg:Tryz.prog.globalNamed n=some g) (h:w'.heap[g]? =w.heap[g]?):w'.var? Tryz.prog n=w.var? Tryz.prog n:=by
 unfold World.var?; rw [hg]; simp only [Option.bind_some,h]
theorem zbbE (w w':World) (hi:inv w) (hb:∀ b,b<4->w'.heap[b]? =w.heap[b]?):inv w':=by
 obtain ⟨h1,⟨m,h2⟩⟩:=hi;refine ⟨(zbdG (g:=1) (by kernel_rfl) (hb 1 (by omega))).trans h1,⟨m, ?_⟩⟩
 rw [<- h2]; exact World.cell?_of_block (a:=⟨0,0,none⟩) (hb 0 (by omega))
def base:Cx ty:={ ti:=λT=>z7m.lookup T,dflt:=λ_=>default,enc:=λT=>(z8i z2F T).enc,dec:=λT=>(z8i z2F T).dec,spec:=λ_=>none,io:=λ_=>[],eqs:=λT us vs=>match zVZ.lookup T with | some ts=>zbi ts us vs | none=>none,nt:=0,head:=λ_=>[],out:=λ_ _=>[],loops:=λ_=>none,ng:=4,inv:=inv }
theorem zbbW:Tryz.prog.info? 2=some Tryz.t2:=by kernel_rfl
theorem zFZ:Tryz.prog.info? 3=some Tryz.t3:=by kernel_rfl
theorem zbh1:Tryz.prog.info? 4=some Tryz.t4:=by kernel_rfl
theorem zbif:Tryz.prog.info? 5=some Tryz.t5:=by kernel_rfl
theorem z7i:Tryz.prog.info? 9=some Tryz.t9:=by kernel_rfl
theorem z8h:Tryz.prog.info? 22=some Tryz.t22:=by kernel_rfl
theorem z8Y:Tryz.prog.info? 23=some Tryz.t23:=by kernel_rfl
theorem zbht:Tryz.prog.info? 25=some Tryz.t25:=by kernel_rfl
theorem zbgN:Tryz.prog.info? 28=some Tryz.t28:=by kernel_rfl
theorem zbgx:Tryz.prog.info? 32=some Tryz.t32:=by kernel_rfl
theorem zbcu:Tryz.prog.info? 34=some Tryz.t34:=by kernel_rfl
theorem zbgY:Tryz.prog.info? 36=some Tryz.t36:=by kernel_rfl
theorem zbgX:Tryz.prog.info? 39=some Tryz.t39:=by kernel_rfl
theorem zbgZ:Tryz.prog.info? 50=some Tryz.t50:=by kernel_rfl
theorem z2E:Tryz.prog.info? 51=some Tryz.t51:=by kernel_rfl
theorem zbhu:Tryz.prog.info? 54=some Tryz.t54:=by kernel_rfl
theorem zbha:Tryz.prog.info? 60=some Tryz.t60:=by kernel_rfl
theorem z7p:Tryz.prog.info? 63=some Tryz.t63:=by kernel_rfl
theorem zbgo:Tryz.prog.info? 65=some Tryz.t65:=by kernel_rfl
theorem zbgt:Tryz.prog.info? 69=some Tryz.t69:=by kernel_rfl
theorem zbgs:Tryz.prog.info? 73=some Tryz.t73:=by kernel_rfl
theorem zbdc:Tryz.prog.info? 75=some Tryz.t75:=by kernel_rfl
theorem z2y:Tryz.prog.info? 79=some Tryz.t79:=by kernel_rfl
theorem zbaf:Tryz.prog.info? 105=some Tryz.t105:=by kernel_rfl
theorem zbe9:Tryz.prog.info? 107=some Tryz.t107:=by kernel_rfl
theorem zbau:Tryz.prog.info? 110=some Tryz.t110:=by kernel_rfl
theorem zbeZ:Tryz.prog.info? 120=some Tryz.t120:=by kernel_rfl
theorem zbf6:Tryz.prog.info? 135=some Tryz.t135:=by kernel_rfl
theorem zbfO:Tryz.prog.info? 137=some Tryz.t137:=by kernel_rfl
theorem zbaw:Tryz.prog.info? 141=some Tryz.t141:=by kernel_rfl
theorem zbaJ:Tryz.prog.info? 143=some Tryz.t143:=by kernel_rfl
theorem zbf9:Tryz.prog.info? 145=some Tryz.t145:=by kernel_rfl
theorem zbfC:Tryz.prog.info? 155=some Tryz.t155:=by kernel_rfl
theorem zbgb:Tryz.prog.info? 169=some Tryz.t169:=by kernel_rfl
theorem zbfN:Tryz.prog.info? 207=some Tryz.t207:=by kernel_rfl
theorem zbe1:Tryz.prog.info? 218=some Tryz.t218:=by kernel_rfl
theorem zbe4:Tryz.prog.info? 223=some Tryz.t223:=by kernel_rfl
theorem zbfV:Tryz.prog.info? 234=some Tryz.t234:=by kernel_rfl
theorem zbga:Tryz.prog.info? 282=some Tryz.t282:=by kernel_rfl
theorem zbfu:∀ T i,z7m.lookup T=some i->InfoOK Tryz.prog T i:=by
 intro T i h;have h:=zH4 _ _ _ h;simp only [z7m,qd,List.not_mem_nil,or_false,qb] at h;rcases h with ⟨rfl,rfl⟩ | ⟨rfl,rfl⟩ | ⟨rfl,rfl⟩ | ⟨rfl,rfl⟩ | ⟨rfl,rfl⟩ | ⟨rfl,rfl⟩ | ⟨rfl,rfl⟩ | ⟨rfl,rfl⟩ | ⟨rfl,rfl⟩ | ⟨rfl,rfl⟩ | ⟨rfl,rfl⟩ | ⟨rfl,rfl⟩ | ⟨rfl,rfl⟩ | ⟨rfl,rfl⟩ | ⟨rfl,rfl⟩ | ⟨rfl,rfl⟩ | ⟨rfl,rfl⟩ | ⟨rfl,rfl⟩ | ⟨rfl,rfl⟩ | ⟨rfl,rfl⟩ | ⟨rfl,rfl⟩ | ⟨rfl,rfl⟩ | ⟨rfl,rfl⟩ | ⟨rfl,rfl⟩ | ⟨rfl,rfl⟩ | ⟨rfl,rfl⟩ | ⟨rfl,rfl⟩ | ⟨rfl,rfl⟩ | ⟨rfl,rfl⟩ | ⟨rfl,rfl⟩ | ⟨rfl,rfl⟩ | ⟨rfl,rfl⟩ | ⟨rfl,rfl⟩ | ⟨rfl,rfl⟩ | ⟨rfl,rfl⟩ | ⟨rfl,rfl⟩ | ⟨rfl,rfl⟩ | ⟨rfl,rfl⟩ | ⟨rfl,rfl⟩
 ·exact ⟨Tryz.t2,_,_,zbbW,underlying2,rfl,rfl,rfl,rfl,rfl,⟨by simp [zbF],λ_=>rfl⟩,rfl⟩
 ·exact ⟨Tryz.t3,_,_,zFZ,underlying3,rfl,rfl,rfl,rfl,rfl,⟨by simp [zbF],λ_=>rfl⟩,rfl⟩
 ·exact ⟨Tryz.t4,_,_,zbh1,underlying4,rfl,rfl,rfl,rfl,rfl,⟨by simp [zbF],λ_=>rfl⟩,rfl⟩
 ·exact ⟨Tryz.t5,_,_,zbif,underlying5,rfl,rfl,rfl,rfl,rfl,⟨by simp [zbF],λ_=>rfl⟩,rfl⟩
 ·exact ⟨Tryz.t9,_,_,z7i,underlying9,rfl,rfl,rfl,rfl,rfl,⟨by simp [zbF],λ_=>rfl⟩,rfl⟩
 ·exact ⟨Tryz.t22,_,_,z8h,underlying22,rfl,rfl,rfl,rfl,rfl,⟨by simp [zbF],λ_=>rfl⟩,rfl⟩
 ·exact ⟨Tryz.t23,_,_,z8Y,underlying23,rfl,rfl,rfl,rfl,rfl,⟨by simp [zbF],λ_=>rfl⟩,rfl⟩
 ·exact ⟨Tryz.t25,_,_,zbht,underlying25,rfl,rfl,rfl,rfl,rfl,⟨by simp [zbF],λh=>by cases h⟩,⟨_,rfl,rfl,λf hf=>by
   simp only [qd,List.not_mem_nil,or_false] at hf;rcases hf with rfl | rfl
   ·exact Option.isSome_iff_exists.2 ⟨_,z8h⟩
   ·exact Option.isSome_iff_exists.2 ⟨_,z8Y⟩⟩⟩
 ·exact ⟨Tryz.t28,_,_,zbgN,underlying28,rfl,rfl,rfl,rfl,rfl,⟨by simp [zbF],λ_=>rfl⟩,rfl⟩
 ·exact ⟨Tryz.t32,_,_,zbgx,underlying32,rfl,rfl,rfl,rfl,rfl,⟨by simp [zbF],λ_=>rfl⟩,rfl⟩
 ·exact ⟨Tryz.t34,_,_,zbcu,underlying34,rfl,rfl,rfl,rfl,rfl,⟨by simp [zbF],λ_=>rfl⟩,rfl⟩
 ·exact ⟨Tryz.t36,_,_,zbgY,underlying36,rfl,rfl,rfl,rfl,rfl,⟨by simp [zbF],λh=>by cases h⟩,⟨_,rfl,rfl,λf hf=>by
   simp only [qd,List.not_mem_nil,or_false] at hf;rcases hf with rfl | rfl | rfl | rfl
   ·exact Option.isSome_iff_exists.2 ⟨_,zFZ⟩
   ·exact Option.isSome_iff_exists.2 ⟨_,z7i⟩
   ·exact Option.isSome_iff_exists.2 ⟨_,z8h⟩
   ·exact Option.isSome_iff_exists.2 ⟨_,z8Y⟩⟩⟩
 ·exact ⟨Tryz.t39,_,_,zbgX,underlying39,rfl,rfl,rfl,rfl,rfl,⟨by simp [zbF],λ_=>rfl⟩,rfl⟩
 ·exact ⟨Tryz.t50,_,_,zbgZ,underlying50,rfl,rfl,rfl,rfl,rfl,⟨by simp [zbF],λ_=>rfl⟩,rfl⟩
 ·exact ⟨Tryz.t51,_,_,z2E,underlying51,rfl,rfl,rfl,rfl,rfl,⟨by simp [zbF],λ_=>rfl⟩,rfl⟩
 ·exact ⟨Tryz.t54,_,_,zbhu,underlying54,rfl,rfl,rfl,rfl,rfl,⟨by simp [zbF],λh=>by cases h⟩,⟨_,rfl,rfl,λf hf=>by
   simp only [qd,List.not_mem_nil,or_false] at hf;rcases hf with rfl | rfl
   ·exact Option.isSome_iff_exists.2 ⟨_,zbcu⟩
   ·exact Option.isSome_iff_exists.2 ⟨_,z2E⟩⟩⟩
 ·exact ⟨Tryz.t60,_,_,zbha,underlying60,rfl,rfl,rfl,rfl,rfl,⟨by simp [zbF],λ_=>rfl⟩,rfl⟩
 ·exact ⟨Tryz.t63,_,_,z7p,underlying63,rfl,rfl,rfl,rfl,rfl,⟨by simp [zbF],λh=>by cases h⟩,⟨_,rfl,rfl,λf hf=>by
   simp only [qd,List.not_mem_nil,or_false] at hf;rcases hf with rfl | rfl
   ·exact Option.isSome_iff_exists.2 ⟨_,zFZ⟩
   ·exact Option.isSome_iff_exists.2 ⟨_,zFZ⟩⟩⟩
 ·exact ⟨Tryz.t65,_,_,zbgo,underlying65,rfl,rfl,rfl,rfl,rfl,⟨by simp [zbF],λh=>by cases h⟩,⟨_,rfl,rfl,λf hf=>by
   simp only [qd,List.not_mem_nil,or_false] at hf;rcases hf with rfl | rfl
   ·exact Option.isSome_iff_exists.2 ⟨_,z7p⟩
   ·exact Option.isSome_iff_exists.2 ⟨_,z2E⟩⟩⟩
 ·exact ⟨Tryz.t69,_,_,zbgt,underlying69,rfl,rfl,rfl,rfl,rfl,⟨by simp [zbF],λ_=>rfl⟩,rfl⟩
 ·exact ⟨Tryz.t73,_,_,zbgs,underlying73,rfl,rfl,rfl,rfl,rfl,⟨by simp [zbF],λ_=>rfl⟩,rfl⟩
 ·exact ⟨Tryz.t75,_,_,zbdc,underlying75,rfl,rfl,rfl,rfl,rfl,⟨by simp [zbF],λh=>by cases h⟩,⟨_,rfl,rfl,λf hf=>by
   simp only [qd,List.not_mem_nil,or_false] at hf;rcases hf with rfl | rfl
   ·exact Option.isSome_iff_exists.2 ⟨_,z7i⟩
   ·exact Option.isSome_iff_exists.2 ⟨_,zFZ⟩⟩⟩
 ·exact ⟨Tryz.t79,_,_,z2y,underlying79,rfl,rfl,rfl,rfl,rfl,⟨by simp [zbF],λh=>by cases h⟩,⟨_,rfl,rfl,λf hf=>by
   simp only [qd,List.not_mem_nil,or_false] at hf;rcases hf with rfl | rfl | rfl
   ·exact Option.isSome_iff_exists.2 ⟨_,zFZ⟩
   ·exact Option.isSome_iff_exists.2 ⟨_,zbbW⟩
   ·exact Option.isSome_iff_exists.2 ⟨_,z7i⟩⟩⟩
 ·exact ⟨Tryz.t105,_,_,zbaf,underlying105,rfl,rfl,rfl,rfl,rfl,⟨by simp [zbF],λ_=>rfl⟩,rfl⟩
 ·exact ⟨Tryz.t107,_,_,zbe9,underlying107,rfl,rfl,rfl,rfl,rfl,⟨by simp [zbF],λh=>by cases h⟩,⟨_,rfl,rfl,λf hf=>by
   simp only [qd,List.not_mem_nil,or_false] at hf;rcases hf with rfl | rfl
   ·exact Option.isSome_iff_exists.2 ⟨_,zbbW⟩
   ·exact Option.isSome_iff_exists.2 ⟨_,zbaf⟩⟩⟩
 ·exact ⟨Tryz.t110,_,_,zbau,underlying110,rfl,rfl,rfl,rfl,rfl,⟨by simp [zbF],λ_=>rfl⟩,rfl⟩
 ·exact ⟨Tryz.t120,_,_,zbeZ,underlying120,rfl,rfl,rfl,rfl,rfl,⟨by simp [zbF],λ_=>rfl⟩,rfl⟩
 ·exact ⟨Tryz.t135,_,_,zbf6,underlying135,rfl,rfl,rfl,rfl,rfl,⟨by simp [zbF],λ_=>rfl⟩,rfl⟩
 ·exact ⟨Tryz.t137,_,_,zbfO,underlying137,rfl,rfl,rfl,rfl,rfl,⟨by simp [zbF],λh=>by cases h⟩,⟨_,rfl,rfl,λf hf=>by
   simp only [qd,List.not_mem_nil,or_false] at hf;rcases hf with rfl | rfl
   ·exact Option.isSome_iff_exists.2 ⟨_,zbdc⟩
   ·exact Option.isSome_iff_exists.2 ⟨_,z2y⟩⟩⟩
 ·exact ⟨Tryz.t141,_,_,zbaw,underlying141,rfl,rfl,rfl,rfl,rfl,⟨by simp [zbF],λ_=>rfl⟩,rfl⟩
 ·exact ⟨Tryz.t143,_,_,zbaJ,underlying143,rfl,rfl,rfl,rfl,rfl,⟨by simp [zbF],λh=>by cases h⟩,⟨_,rfl,rfl,λf hf=>by
   simp only [qd,List.not_mem_nil,or_false] at hf;rcases hf with rfl | rfl | rfl | rfl | rfl | rfl | rfl
   ·exact Option.isSome_iff_exists.2 ⟨_,zFZ⟩
   ·exact Option.isSome_iff_exists.2 ⟨_,z7p⟩
   ·exact Option.isSome_iff_exists.2 ⟨_,zbau⟩
   ·exact Option.isSome_iff_exists.2 ⟨_,zFZ⟩
   ·exact Option.isSome_iff_exists.2 ⟨_,zbaw⟩
   ·exact Option.isSome_iff_exists.2 ⟨_,zFZ⟩
   ·exact Option.isSome_iff_exists.2 ⟨_,z2y⟩⟩⟩
 ·exact ⟨Tryz.t145,_,_,zbf9,underlying145,rfl,rfl,rfl,rfl,rfl,⟨by simp [zbF],λh=>by cases h⟩,⟨_,rfl,rfl,λf hf=>by
   simp only [qd,List.not_mem_nil,or_false] at hf;rcases hf with rfl | rfl
   ·exact Option.isSome_iff_exists.2 ⟨_,zbaJ⟩
   ·exact Option.isSome_iff_exists.2 ⟨_,zFZ⟩⟩⟩
 ·exact ⟨Tryz.t155,_,_,zbfC,underlying155,rfl,rfl,rfl,rfl,rfl,⟨by simp [zbF],λ_=>rfl⟩,rfl⟩
 ·exact ⟨Tryz.t169,_,_,zbgb,underlying169,rfl,rfl,rfl,rfl,rfl,⟨by simp [zbF],λh=>by cases h⟩,⟨_,rfl,rfl,λf hf=>by
   simp only [qd,List.not_mem_nil,or_false] at hf;rcases hf with rfl | rfl
   ·exact Option.isSome_iff_exists.2 ⟨_,z2y⟩
   ·exact Option.isSome_iff_exists.2 ⟨_,z2E⟩⟩⟩
 ·exact ⟨Tryz.t207,_,_,zbfN,underlying207,rfl,rfl,rfl,rfl,rfl,⟨by simp [zbF],λ_=>rfl⟩,rfl⟩
 ·exact ⟨Tryz.t218,_,_,zbe1,underlying218,rfl,rfl,rfl,rfl,rfl,⟨by simp [zbF],λ_=>rfl⟩,rfl⟩
 ·exact ⟨Tryz.t223,_,_,zbe4,underlying223,rfl,rfl,rfl,rfl,rfl,⟨by simp [zbF],λ_=>rfl⟩,rfl⟩
 ·exact ⟨Tryz.t234,_,_,zbfV,underlying234,rfl,rfl,rfl,rfl,rfl,⟨by simp [zbF],λ_=>rfl⟩,rfl⟩
 ·exact ⟨Tryz.t282,_,_,zbga,underlying282,rfl,rfl,rfl,rfl,rfl,⟨by simp [zbF],λ_=>rfl⟩,rfl⟩
theorem zbdO:∀ T us vs b,(match zVZ.lookup T with | some ts=>zbi ts us vs | none=>none)=some b->∀ w,zbb1 Tryz.prog T us vs b w:=by
 intro T us vs b h w;split at h
 ·rename_i ts hl;have hl:=zH4 _ _ _ hl;simp only [zVZ,qd,List.not_mem_nil,or_false,qb] at hl;rcases hl with ⟨rfl,rfl⟩ | ⟨rfl,rfl⟩ | ⟨rfl,rfl⟩
  ·refine zQT _ _ underlying75 (by kernel_rfl) (by kernel_rfl) rfl ?_ h w
   intro j f t hj ht;rcases j with _ | j
   ·simp at hj ht; subst hj ht; exact ⟨rfl,by decide,_,underlying9,rfl⟩
   rcases j with _ | j
   ·simp at hj ht; subst hj ht; exact ⟨rfl,by decide,_,underlying3,rfl⟩
   simp at hj
  ·refine zQT _ _ underlying79 (by kernel_rfl) (by kernel_rfl) rfl ?_ h w
   intro j f t hj ht;rcases j with _ | j
   ·simp at hj ht; subst hj ht; exact ⟨rfl,by decide,_,underlying3,rfl⟩
   rcases j with _ | j
   ·simp at hj ht; subst hj ht; exact ⟨rfl,by decide,_,underlying2,rfl⟩
   rcases j with _ | j
   ·simp at hj ht; subst hj ht; exact ⟨rfl,by decide,_,underlying9,rfl⟩
   simp at hj
  ·refine zQT _ _ underlying63 (by kernel_rfl) (by kernel_rfl) rfl ?_ h w
   intro j f t hj ht;rcases j with _ | j
   ·simp at hj ht; subst hj ht; exact ⟨rfl,by decide,_,underlying3,rfl⟩
   rcases j with _ | j
   ·simp at hj ht; subst hj ht; exact ⟨rfl,by decide,_,underlying3,rfl⟩
   simp at hj
 ·cases h
theorem zbdN:∀ T us vs,base.eqs T us us=some true->base.eqs T vs vs=some true->base.eqs T us vs=some (zwo us vs)/\(zwo us vs=true->us=vs)/\∀ u∈us,∀ n,Instr.sameBits n u u=true:=by
 intro T us vs h1 h2;simp only [base] at h1 h2 ⊢;cases hl:zVZ.lookup T with
 | none=>rw [hl] at h1; cases h1
 | some ts=>rw [hl] at h1 h2; exact z06 ts us vs h1 h2
theorem zbdr:∀ T us b,base.eqs T us us=some b->b=true:=by
 intro T us b h;simp only [base] at h;cases hl:zVZ.lookup T with
 | none=>rw [hl] at h; cases h
 | some ts=>rw [hl] at h; exact zZq ts us b h
abbrev SdP:=Sound Tryz.prog base
theorem ze3:CxOK Tryz.prog base:=⟨zbfu,λT x=>by rw [show zt base T=_ from (z7F z2F z7m rfl T).symm]; exact DT.len _ x,λT x c h=>by have:=DT.cell _ _ c h; revert this; cases c <;>exact id,λT cs x h F w us hr=>DT.ok _ base F w us cs x h hr,zbdO,zbdN,zbdr,zbbE⟩
def zbt:Cx ty:={ base with dr:=false }
theorem zSI:CxOK Tryz.prog zbt:=CxOK.cg (cx:=base) (cx':=zbt) ⟨rfl,rfl,rfl,rfl,rfl,rfl⟩ ze3
theorem zA5:Tryz.prog.follows .mixedOrders=true:=by kernel_rfl
theorem sT {cx':Cx ty} {α ρ:Type} (hspec:∀ g s,cx'.spec g=some s->SdP g s) {f:Nat} {fn:Func} (hent:∀ args w,(callFunc f args).run Tryz.prog w=.ok (.enter f args) w) (hf:Tryz.prog.funcs[f]? =some fn) (hl:ziA cx' (body fn)) (sg:Sig:=⟨[.pure],[]⟩) {A:AL base α} {res:ρ->ARes ty} {W:α->Wy0 ρ} {z:ρ}
  (hb:fn.body=some (body fn):=by kernel_rfl)
  (hrun:∀ x,zew cx' fn (body fn) sg (A.enc x)=(W x).ev noH (λr=>some (res r)) none:=by intro _; kernel_rfl)
  (hchk:∀ x,(Nat.ble (A.enc x).length fn.ntmps&&zLs (body fn) (A.enc x) sg.upd)=true:=by intro _; kernel_rfl) (hsame:base.Same cx':=by exact z8o):
  SdP f (zh A λx=>(((W x).fin z).1,res ((W x).fin z).2)):=sW zA5 ze3 hsame hspec hent hf hl sg hb hrun hchk
theorem sU {cx':Cx ty} {α ρ:Type} (hspec:∀ g s,cx'.spec g=some s->Sound Tryz.prog zbt g s) {f:Nat} {fn:Func} (hent:∀ args w,(callFunc f args).run Tryz.prog w=.ok (.enter f args) w) (hf:Tryz.prog.funcs[f]? =some fn) (hl:ziA cx' (body fn)) (sg:Sig:=⟨[.pure],[]⟩) {A:AL zbt α} {res:ρ->ARes ty} {W:α->Wy0 ρ} {z:ρ}
  (hb:fn.body=some (body fn):=by kernel_rfl)
  (hrun:∀ x,zew cx' fn (body fn) sg (A.enc x)=(W x).ev noH (λr=>some (res r)) none:=by intro _; kernel_rfl)
  (hchk:∀ x,(Nat.ble (A.enc x).length fn.ntmps&&zLs (body fn) (A.enc x) sg.upd)=true:=by intro _; kernel_rfl) (hsame:zbt.Same cx':=by exact z8o):
  Sound Tryz.prog zbt f (zh A λx=>(((W x).fin z).1,res ((W x).fin z).2)):=sW zA5 zSI hsame hspec hent hf hl sg hb hrun hchk
end Go.Proofs.YtoknknbmfmddbaaGreatDoor
/- What is read of an argument, as typed data. -/
namespace Go.Proofs.YtoknknbmfmddbaaGreatDoor
open Go Go.Ab
open Go.Proofs.Tryz
def wf2 (x:Int):Prop:=(Lit.int .i64 x).wf=true
def wf3 (x:Int):Prop:=(Lit.int .i64 x).wf=true
def wf4 (x:Bool):Prop:=True
def wf5 (x:Int):Prop:=(Lit.int .u8 x).wf=true
def wf9 (x:ByteArray):Prop:=ByteArray.size x<=zZ
def zbgQ (x:Column):Prop:=wf9 x.Name/\wf3 x.Type_
def zbhA (x:yH):Prop:=(∀ y∈x,zbgQ y)/\List.length x<=zZ
def zND (x:Value):Prop:=wf3 x.Kind/\wf2 x.Int/\wf9 x.Text
def zbep (x:yG):Prop:=(∀ y∈x,zND y)/\List.length x<=zZ
def zZX (x:RowID):Prop:=wf3 x.Table/\wf3 x.Seq
mutual
def zgB:At->Prop
 | ⟨k,r,a,f,i,o,b⟩=>wf3 k/\zZX r/\(zw7 a/\a.length<=zZ)/\wf3 f/\(zsu i/\i.length<=zZ)/\wf3 o/\zND b
def zvT:Fc->Prop
 | ⟨a,e⟩=>zgB a/\wf3 e
def zsA:yC->Prop
 | []=>True
 | x::r=>zvT x/\zsA r
def zAY:Term->Prop
 | ⟨c,f⟩=>wf2 c/\(zsA f/\f.length<=zZ)
def zgE:yB->Prop
 | []=>True
 | x::r=>zAY x/\zgE r
def zw7:yA->Prop
 | []=>True
 | x::r=>(zgE x/\x.length<=zZ)/\zw7 r
def zF5:Wd->Prop
 | ⟨v,a⟩=>zND v/\(zgE a/\a.length<=zZ)
def zsu:yD->Prop
 | []=>True
 | x::r=>zF5 x/\zsu r
end
theorem zJ4:∀ l:yC,(∀ x∈l,zvT x)->zsA l
 | [],_=>by unfold zsA; trivial
 | x::r,h=>by unfold zsA; exact ⟨h x (by simp),zJ4 r λy hy=>h y (by simp [hy])⟩
theorem zFL:∀ l:yB,(∀ x∈l,zAY x)->zgE l
 | [],_=>by unfold zgE; trivial
 | x::r,h=>by unfold zgE; exact ⟨h x (by simp),zFL r λy hy=>h y (by simp [hy])⟩
theorem zU6:∀ l:yA,(∀ x∈l,zgE x/\x.length<=zZ)->zw7 l
 | [],_=>by unfold zw7; trivial
 | x::r,h=>by unfold zw7; exact ⟨h x (by simp),zU6 r λy hy=>h y (by simp [hy])⟩
theorem zRy:∀ l:yD,(∀ x∈l,zF5 x)->zsu l
 | [],_=>by unfold zsu; trivial
 | x::r,h=>by unfold zsu; exact ⟨h x (by simp),zRy r λy hy=>h y (by simp [hy])⟩
def z8V (x:yB):Prop:=zgE x/\List.length x<=zZ
def zbhZ (x:yC):Prop:=zsA x/\List.length x<=zZ
def zbik (x:Term):Prop:=zAY x
def zbhY (x:yA):Prop:=zw7 x/\List.length x<=zZ
def zbhJ (x:yD):Prop:=zsu x/\List.length x<=zZ
def zbhW (x:At):Prop:=zgB x
def zbie (x:Fc):Prop:=zvT x
def zbih (x:Wd):Prop:=zF5 x
def zbdK (x:Row):Prop:=zbep x.Values/\z8V x.Ann
def zbhr (x:yF):Prop:=(∀ y∈x,zbdK y)/\List.length x<=zZ
def z8f (x:Relation):Prop:=zbhA x.Columns/\zbhr x.Rows
def zbiB (x:List (yG)):Prop:=(∀ y∈x,zbep y)/\List.length x<=zZ
def zbhp (x:Bg):Prop:=zZX x.Row/\z8V x.To
def zbis (x:yE):Prop:=(∀ y∈x,zbhp y)/\List.length x<=zZ
def wf (T:Nat):ty T->Prop:=match T with
 | 2=>wf2
 | 3=>wf3
 | 4=>wf4
 | 5=>wf5
 | 9=>wf9
 | 22=>zbhA
 | 23=>zbhr
 | 25=>z8f
 | 32=>zbiB
 | 34=>zbep
 | 51=>z8V
 | 54=>zbdK
 | 60=>zbis
 | 63=>zZX
 | 65=>zbhp
 | 75=>zbgQ
 | 79=>zND
 | 105=>zbhZ
 | 107=>zbik
 | 110=>zbhY
 | 141=>zbhJ
 | 143=>zbhW
 | 145=>zbie
 | 169=>zbih
 | _=>λ_=>True
theorem zbcm:zmC Tryz.prog base wf 2:=z5R underlying2 (λn=>n) (λ_=>rfl) (λ_ h=>h)
theorem zGq:zmC Tryz.prog base wf 3:=z5R underlying3 (λn=>n) (λ_=>rfl) (λ_ h=>h)
theorem zbck:zmC Tryz.prog base wf 9:=zbcv underlying9 (λn=>n) (λ_=>rfl) (λ_ h=>h)
theorem zbgc:zmC Tryz.prog base wf 75:=by
 intro H en w sp held fuel cs y h hz;obtain ⟨xs,n,_,hy,hl,hlen,hf⟩:=DataW.trod_struct underlying75 h;have hs:=ziu underlying75 hy hz;obtain ⟨x0,h0,w0⟩:=zjt (off:=0) zbck (by kernel_rfl) hlen hf hs 0 _ rfl rfl rfl
 obtain ⟨x1,h1,w1⟩:=zjt (off:=1) zGq (by kernel_rfl) hlen hf hs 1 _ rfl rfl rfl
 have hl:cs.length=2:=hl.trans (by kernel_rfl)
 have:=zf7 h0 (zvL h1 hl);exact ⟨(⟨x0,x1⟩:Column),this,⟨w0,w1⟩⟩
theorem zbe2:zmC Tryz.prog base wf 22:=zOy ze3 underlying22 (by kernel_rfl) (by decide) (λl=>l) (λ_=>rfl) (of_decide_eq_true (by kernel_rfl)) zbgc (λ_ h h2=>⟨h,h2⟩)
theorem z3l:zmC Tryz.prog base wf 79:=by
 intro H en w sp held fuel cs y h hz;obtain ⟨xs,n,_,hy,hl,hlen,hf⟩:=DataW.trod_struct underlying79 h;have hs:=ziu underlying79 hy hz;obtain ⟨x0,h0,w0⟩:=zjt (off:=0) zGq (by kernel_rfl) hlen hf hs 0 _ rfl rfl rfl
 obtain ⟨x1,h1,w1⟩:=zjt (off:=1) zbcm (by kernel_rfl) hlen hf hs 1 _ rfl rfl rfl
 obtain ⟨x2,h2,w2⟩:=zjt (off:=2) zbck (by kernel_rfl) hlen hf hs 2 _ rfl rfl rfl
 have hl:cs.length=3:=hl.trans (by kernel_rfl)
 have:=zf7 h0 (zf7 h1 (zvL h2 hl));exact ⟨(⟨x0,x1,x2⟩:Value),this,⟨w0,w1,w2⟩⟩
theorem zbfg:zmC Tryz.prog base wf 34:=zOy ze3 underlying34 (by kernel_rfl) (by decide) (λl=>l) (λ_=>rfl) (of_decide_eq_true (by kernel_rfl)) z3l (λ_ h h2=>⟨h,h2⟩)
theorem zbfv:zmC Tryz.prog base wf 63:=by
 intro H en w sp held fuel cs y h hz;obtain ⟨xs,n,_,hy,hl,hlen,hf⟩:=DataW.trod_struct underlying63 h;have hs:=ziu underlying63 hy hz;obtain ⟨x0,h0,w0⟩:=zjt (off:=0) zGq (by kernel_rfl) hlen hf hs 0 _ rfl rfl rfl
 obtain ⟨x1,h1,w1⟩:=zjt (off:=1) zGq (by kernel_rfl) hlen hf hs 1 _ rfl rfl rfl
 have hl:cs.length=2:=hl.trans (by kernel_rfl)
 have:=zf7 h0 (zvL h1 hl);exact ⟨(⟨x0,x1⟩:RowID),this,⟨w0,w1⟩⟩
theorem z9s:∀ m,zsJ Tryz.prog base wf m 51/\zsJ Tryz.prog base wf m 105/\zsJ Tryz.prog base wf m 107/\zsJ Tryz.prog base wf m 110/\zsJ Tryz.prog base wf m 141/\zsJ Tryz.prog base wf m 143/\zsJ Tryz.prog base wf m 145/\zsJ Tryz.prog base wf m 169
 | 0=>⟨zp2,zp2,zp2,zp2,zp2,zp2,zp2,zp2⟩
 | m+1=>by
  obtain ⟨h51,h105,h107,h110,h141,h143,h145,h169⟩:=z9s m;refine ⟨?_, ?_, ?_, ?_, ?_, ?_, ?_, ?_⟩
  ·exact zyq ze3 underlying51 (by kernel_rfl) (by decide) (λl=>l) (λ_=>rfl) (of_decide_eq_true (by kernel_rfl)) h107 (λl h h2=>⟨zFL l h,h2⟩)
  ·exact zyq ze3 underlying105 (by kernel_rfl) (by decide) (λl=>l) (λ_=>rfl) (of_decide_eq_true (by kernel_rfl)) h145 (λl h h2=>⟨zJ4 l h,h2⟩)
  ·intro H en w sp held fuel cs y hfu h hz;obtain ⟨xs,n,hn,hy,hl,hlen,hf⟩:=DataW.trod_struct underlying107 h;have hs:=ziu underlying107 hy hz;have hn:n<=m:=by omega
   obtain ⟨x0,hx0,w0⟩:=zfB (off:=0) (zbcm.at m) (by kernel_rfl) hn hlen hf hs 0 _ rfl rfl rfl
   obtain ⟨x1,hx1,w1⟩:=zfB (off:=1) h105 (by kernel_rfl) hn hlen hf hs 1 _ rfl rfl rfl
   have hl:cs.length=2:=hl.trans (by kernel_rfl)
   have:=zf7 hx0 (zvL hx1 hl);exact ⟨(⟨x0,x1⟩:Term),this,by show zAY (⟨x0,x1⟩:Term); unfold zAY; exact ⟨w0,w1⟩⟩
  ·exact zyq ze3 underlying110 (by kernel_rfl) (by decide) (λl=>l) (λ_=>rfl) (of_decide_eq_true (by kernel_rfl)) h51 (λl h h2=>⟨zU6 l h,h2⟩)
  ·exact zyq ze3 underlying141 (by kernel_rfl) (by decide) (λl=>l) (λ_=>rfl) (of_decide_eq_true (by kernel_rfl)) h169 (λl h h2=>⟨zRy l h,h2⟩)
  ·intro H en w sp held fuel cs y hfu h hz;obtain ⟨xs,n,hn,hy,hl,hlen,hf⟩:=DataW.trod_struct underlying143 h;have hs:=ziu underlying143 hy hz;have hn:n<=m:=by omega
   obtain ⟨x0,hx0,w0⟩:=zfB (off:=0) (zGq.at m) (by kernel_rfl) hn hlen hf hs 0 _ rfl rfl rfl
   obtain ⟨x1,hx1,w1⟩:=zfB (off:=1) (zbfv.at m) (by kernel_rfl) hn hlen hf hs 1 _ rfl rfl rfl
   obtain ⟨x2,hx2,w2⟩:=zfB (off:=3) h110 (by kernel_rfl) hn hlen hf hs 2 _ rfl rfl rfl
   obtain ⟨x3,hx3,w3⟩:=zfB (off:=4) (zGq.at m) (by kernel_rfl) hn hlen hf hs 3 _ rfl rfl rfl
   obtain ⟨x4,hx4,w4⟩:=zfB (off:=5) h141 (by kernel_rfl) hn hlen hf hs 4 _ rfl rfl rfl
   obtain ⟨x5,hx5,w5⟩:=zfB (off:=6) (zGq.at m) (by kernel_rfl) hn hlen hf hs 5 _ rfl rfl rfl
   obtain ⟨x6,hx6,w6⟩:=zfB (off:=7) (z3l.at m) (by kernel_rfl) hn hlen hf hs 6 _ rfl rfl rfl
   have hl:cs.length=10:=hl.trans (by kernel_rfl)
   have:=zf7 hx0 (zf7 hx1 (zf7 hx2 (zf7 hx3 (zf7 hx4 (zf7 hx5 (zvL hx6 hl))))));exact ⟨(⟨x0,x1,x2,x3,x4,x5,x6⟩:At),this,by show zgB (⟨x0,x1,x2,x3,x4,x5,x6⟩:At); unfold zgB; exact ⟨w0,w1,w2,w3,w4,w5,w6⟩⟩
  ·intro H en w sp held fuel cs y hfu h hz;obtain ⟨xs,n,hn,hy,hl,hlen,hf⟩:=DataW.trod_struct underlying145 h;have hs:=ziu underlying145 hy hz;have hn:n<=m:=by omega
   obtain ⟨x0,hx0,w0⟩:=zfB (off:=0) h143 (by kernel_rfl) hn hlen hf hs 0 _ rfl rfl rfl
   obtain ⟨x1,hx1,w1⟩:=zfB (off:=10) (zGq.at m) (by kernel_rfl) hn hlen hf hs 1 _ rfl rfl rfl
   have hl:cs.length=11:=hl.trans (by kernel_rfl)
   have:=zf7 hx0 (zvL hx1 hl);exact ⟨(⟨x0,x1⟩:Fc),this,by show zvT (⟨x0,x1⟩:Fc); unfold zvT; exact ⟨w0,w1⟩⟩
  ·intro H en w sp held fuel cs y hfu h hz;obtain ⟨xs,n,hn,hy,hl,hlen,hf⟩:=DataW.trod_struct underlying169 h;have hs:=ziu underlying169 hy hz;have hn:n<=m:=by omega
   obtain ⟨x0,hx0,w0⟩:=zfB (off:=0) (z3l.at m) (by kernel_rfl) hn hlen hf hs 0 _ rfl rfl rfl
   obtain ⟨x1,hx1,w1⟩:=zfB (off:=3) h51 (by kernel_rfl) hn hlen hf hs 1 _ rfl rfl rfl
   have hl:cs.length=4:=hl.trans (by kernel_rfl)
   have:=zf7 hx0 (zvL hx1 hl);exact ⟨(⟨x0,x1⟩:Wd),this,by show zF5 (⟨x0,x1⟩:Wd); unfold zF5; exact ⟨w0,w1⟩⟩
theorem zbfn:zmC Tryz.prog base wf 51:=zbcX λm=>(z9s m).1
theorem zbfG:zmC Tryz.prog base wf 54:=by
 intro H en w sp held fuel cs y h hz;obtain ⟨xs,n,_,hy,hl,hlen,hf⟩:=DataW.trod_struct underlying54 h;have hs:=ziu underlying54 hy hz;obtain ⟨x0,h0,w0⟩:=zjt (off:=0) zbfg (by kernel_rfl) hlen hf hs 0 _ rfl rfl rfl
 obtain ⟨x1,h1,w1⟩:=zjt (off:=1) zbfn (by kernel_rfl) hlen hf hs 1 _ rfl rfl rfl
 have hl:cs.length=2:=hl.trans (by kernel_rfl)
 have:=zf7 h0 (zvL h1 hl);exact ⟨(⟨x0,x1⟩:Row),this,⟨w0,w1⟩⟩
theorem zbf4:zmC Tryz.prog base wf 23:=zOy ze3 underlying23 (by kernel_rfl) (by decide) (λl=>l) (λ_=>rfl) (of_decide_eq_true (by kernel_rfl)) zbfG (λ_ h h2=>⟨h,h2⟩)
theorem zbaB:zmC Tryz.prog base wf 25:=by
 intro H en w sp held fuel cs y h hz;obtain ⟨xs,n,_,hy,hl,hlen,hf⟩:=DataW.trod_struct underlying25 h;have hs:=ziu underlying25 hy hz;obtain ⟨x0,h0,w0⟩:=zjt (off:=0) zbe2 (by kernel_rfl) hlen hf hs 0 _ rfl rfl rfl
 obtain ⟨x1,h1,w1⟩:=zjt (off:=1) zbf4 (by kernel_rfl) hlen hf hs 1 _ rfl rfl rfl
 have hl:cs.length=2:=hl.trans (by kernel_rfl)
 have:=zf7 h0 (zvL h1 hl);exact ⟨(⟨x0,x1⟩:Relation),this,⟨w0,w1⟩⟩
def z6b:=zbv base 8 []
def zW9 (x_:At):Wy0 (yB):=.k [TO.mk 1 [FO.mk (At.mk x_.Kind x_.Row x_.Ag x_.Func x_.Items x_.Op x_.Bd) 1]]
def zmD (x_:At):=(zW9 x_).fin default
def z3K (r:yB):ARes ty:=⟨[.own 107 r],[]⟩
def z9g:AL base (At×Unit):=zd (ze (zbX 143)) zr
def zNh:=zh z9g λx=>((zmD x.1).1,z3K (zmD x.1).2)
theorem z0v:SdP 118 zNh:=
 sT (cx':=z6b) (zi trivial) call118 func118 (lOK aN) (sg:=⟨[.own 107],[]⟩)
def z7V:=zbv base 14 [(118,zNh)]
def zZI (id:RowID):Wy0 (yB):=.i (decide (id.Table<1)) (.k []) (.i (decide (id.Seq<1)) (.k []) (.k ((zmD (At.mk 0 id [] 0 [] 0 (Value.mk 0 0 (ByteArray.mk #[])))).2)))
def zGl (id:RowID):=(zZI id).fin default
def z95:AL base (RowID×Unit):=zd (ze (zbX 63)) zr
def zQD:=zh z95 λx=>((zGl x.1).1,z3K (zGl x.1).2)
theorem z24:SdP 64 zQD:=
 sT (cx':=z7V) (zi ⟨z0v,trivial⟩) call64 func64 (lOK aN) (sg:=⟨[.own 107],[]⟩)
def zUY:=zbv base 11 [(64,zQD)]
def zYU (v:Value) (seq:Int):Wy0 (Row):=.bn (zGl (RowID.mk 1 seq)) λr0=>.k (⟨[v],r0⟩:Row)
def zsV (v:Value) (seq:Int):=(zYU v seq).fin default
def zTG (r:Row):ARes ty:=⟨[.pure (.agg (base.enc 54 r))],[]⟩
def zYN:AL base (Value×Int×Unit):=zd (ze (zbX 79)) (zd (ze zgq) zr)
def zDv:=zh zYN λx=>((zsV x.1 x.2.1).1,zTG (zsV x.1 x.2.1).2)
theorem zPi:SdP 86 zDv:=
 sT (cx':=zUY) (zi ⟨z24,trivial⟩) call86 func86 (lOK aN)
def z1P:=zbv base 19 [(86,zDv)]
def z3E:Wy0 (Relation):=.k (⟨[Column.mk (ByteArray.mk #[(97:UInt8)]) 0],[(zsV (Value.mk 0 1 (ByteArray.mk #[])) 1).2,(zsV (Value.mk 0 0 (ByteArray.mk #[])) 2).2,(zsV (Value.mk 0 1 (ByteArray.mk #[])) 3).2]⟩:Relation)
def zUT:Bool×Relation:=(z3E).fin default
def zZ9 (r:Relation):ARes ty:=⟨[.pure (.agg (base.enc 25 r))],[]⟩
def z4C:AL base (Unit):=zr
def zIx:=zh z4C λx=>((zUT ).1,zZ9 (zUT ).2)
theorem zWU:SdP 42 zIx:=
 sT (cx':=z1P) (zi ⟨zPi,trivial⟩) call42 func42 (lOK aN)
def zOz (r:Int):ARes ty:=⟨[.pure (.lit (.int .i64 r))],[]⟩
def zRo:AL base (yB×yB×Unit):=zd (ze (vSl 107)) (zd (ze (vSl 107)) zr)
def zee (F:yB->yB->Bool×Int):Ab.Spec ty:=zh zRo λx=>((F x.1 x.2.1).1,zOz (F x.1 x.2.1).2)
def zLV:AL base (Term×Term×Unit):=zd (ze (zbX 107)) (zd (ze (zbX 107)) zr)
def zf6 (F:Term->Term->Bool×Int):Ab.Spec ty:=zh zLV λx=>((F x.1 x.2.1).1,zOz (F x.1 x.2.1).2)
def zHl:AL base (Fc×Fc×Unit):=zd (ze (zbX 145)) (zd (ze (zbX 145)) zr)
def zeC (F:Fc->Fc->Bool×Int):Ab.Spec ty:=zh zHl λx=>((F x.1 x.2.1).1,zOz (F x.1 x.2.1).2)
def zIW:AL base (At×At×Unit):=zd (ze (zbX 143)) (zd (ze (zbX 143)) zr)
def zhj (F:At->At->Bool×Int):Ab.Spec ty:=zh zIW λx=>((F x.1 x.2.1).1,zOz (F x.1 x.2.1).2)
def zJi:AL base (Wd×Wd×Unit):=zd (ze (zbX 169)) (zd (ze (zbX 169)) zr)
def zeg (F:Wd->Wd->Bool×Int):Ab.Spec ty:=zh zJi λx=>((F x.1 x.2.1).1,zOz (F x.1 x.2.1).2)
def zi4:AL base (yB×yB×Unit×Unit):=zd (ze (vSl 107)) (zd (ze (vSl 107)) (zd (ze (vFn 225 zc3)) zr))
def zbP (F:yB->yB->Bool×Int):Ab.Spec ty:=zh zi4 λx=>((F x.1 x.2.1).1,zOz (F x.1 x.2.1).2)
def zjw:AL base (yC×yC×Unit×Unit):=zd (ze (vSl 145)) (zd (ze (vSl 145)) (zd (ze (vFn 166 zc3)) zr))
def zbS (F:yC->yC->Bool×Int):Ab.Spec ty:=zh zjw λx=>((F x.1 x.2.1).1,zOz (F x.1 x.2.1).2)
def zfS:AL base (yA×yA×Unit×Unit):=zd (ze (vSl 51)) (zd (ze (vSl 51)) (zd (ze (vFn 170 zc3)) zr))
def zbn (F:yA->yA->Bool×Int):Ab.Spec ty:=zh zfS λx=>((F x.1 x.2.1).1,zOz (F x.1 x.2.1).2)
def zho:AL base (yD×yD×Unit×Unit):=zd (ze (vSl 169)) (zd (ze (vSl 169)) (zd (ze (vFn 172 zc3)) zr))
def zbJ (F:yD->yD->Bool×Int):Ab.Spec ty:=zh zho λx=>((F x.1 x.2.1).1,zOz (F x.1 x.2.1).2)
def zL1 (zK:yB->yB->Bool×Int) (zL:Term->Term->Bool×Int):=zbv base 8 [(224,(zbP zK)),(225,(zf6 zL))]
def zAU (zK:yB->yB->Bool×Int) (zL:Term->Term->Bool×Int) (a:yB) (b:yB):Wy0 (Int):=.bn (zK a b) λr0=>.k r0
def zpr (zK:yB->yB->Bool×Int) (zL:Term->Term->Bool×Int) (a:yB) (b:yB):=(zAU zK zL a b).fin default
theorem zHL (zK:yB->yB->Bool×Int) (zL:Term->Term->Bool×Int) (zix:SdP 224 (zbP zK)) (zpA:SdP 225 (zf6 zL)):SdP 170 (zee (zpr zK zL)):=
 sT (cx':=(zL1 zK zL)) (zi ⟨zix,zpA,trivial⟩) call170 func170 (lOK aN)
def zVx:=zbv base 6 []
def zIE (x_:Int):Wy0 (Bool):=.k (x_ != x_)
def zn8 (x_:Int):=(zIE x_).fin default
def zUI (r:Bool):ARes ty:=⟨[.pure (.lit (.bool r))],[]⟩
def zYC:AL base (Int×Unit):=zd (ze zgq) zr
def zDp:=zh zYC λx=>((zn8 x.1).1,zUI (zn8 x.1).2)
theorem zPz:SdP 232 zDp:=
 sT (cx':=zVx) (zi trivial) call232 func232 (lOK aN)
def zSh:=zbv base 20 [(232,zDp)]
def zEC (x_:Int) (y_:Int):Wy0 (Int):=.i ((zn8 x_).2) (.i ((zn8 y_).2) (.k 0) (.k (-1:Int))) (.i ((zn8 y_).2) (.k 1) (.i (decide (x_<y_)) (.k (-1:Int)) (.i (decide (x_>y_)) (.k 1) (.k 0))))
def zi3 (x_:Int) (y_:Int):=(zEC x_ y_).fin default
def zTs:AL base (Int×Int×Unit):=zd (ze zgq) (zd (ze zgq) zr)
def zmI:=zh zTs λx=>((zi3 x.1 x.2.1).1,zOz (zi3 x.1 x.2.1).2)
theorem zsm:SdP 195 zmI:=
 sT (cx':=zSh) (zi ⟨zPz,trivial⟩) call195 func195 (lOK aN)
abbrev zDo:=Int×List Int×Int×Int×Unit
def zIf (zero:Int) (t6:List Int) (t7:Int) (t8:Int):Wy zDo Unit (Int⊕Int):=.i (decide (t8<t7)) (.i (decide (0<=t8)&&decide (t8<Int.ofNat t6.length)) (.i (t6.getD t8.toNat default != zero) (.k (.inl (t6.getD t8.toNat default))) (.h (zero,t6,t7,(IntKind.i64.wrap (t8+1)),()) ())) .d) (.k (.inr zero))
def zTj (x:zDo) (y:Unit):=zIf x.1 x.2.1 x.2.2.1 x.2.2.2.1
def zHB (n:Nat) (zero:Int) (t6:List Int) (t7:Int) (t8:Int):=zB (zTj) (.inl default) n (zero,t6,t7,t8,()) ()
def z3o (r:Int⊕Int):LTree ty:=.ite (isL r) (.done .ret [.lit (.int .i64 (getL r))] []) (.done (.exit 0) [.lit (.int .i64 (getR r))] [])
def z6I:LL ty zDo:=za zj (za (lSl 3) (za zj (za zj zl)))
def z6k:BL ty (Unit):=zbe
def z4g (x:zDo) (y:Unit):Nat:=(Int.toNat x.1+x.2.1.length+Int.toNat x.2.2.1+Int.toNat x.2.2.2.1+1)
def zS4:=zbZ base 18 [] [] [(3,(kpL [3,6,7,8]))] [(3,1,(kpL [3])),(3,0,(kpL [2]))] [(3,spW z6I z6k (zTj) (.inl default) z3o z4g)] []
theorem z4d:zI zS4 (lp (body f167) 0):=zo (id:=3) (hl:=rfl)
def zXy (vals:List Int):Wy0 (Int):=.bn (zHB (Int.toNat 0+vals.length+(Int.ofNat vals.length).toNat +Int.toNat 0+1) 0 vals (Int.ofNat vals.length) 0) λr0=>.i (isL r0) (.k (getL r0)) (.k (getR r0))
def zps (vals:List Int):=(zXy vals).fin default
def z8m:AL base (List Int×Unit):=zd (ze (vSl 3)) zr
def znJ:=zh z8m λx=>((zps x.1).1,zOz (zps x.1).2)
theorem zqC:SdP 167 znJ:=
 sT (cx':=zS4) (zi trivial) call167 func167 (lOK (aC z4d aN))
def zIi (zcO:Term->Term->Bool×Int):=zbv base 15 [(104,(zf6 zcO)),(167,znJ),(195,zmI)]
def zxW (zcO:Term->Term->Bool×Int) (x_:Term) (y_:Term):Wy0 (Int):=.bn (zcO x_ y_) λr2=>.bn (zi3 x_.Cf y_.Cf) λr1=>.bn (zps [r2,r1]) λr0=>.k r0
def zlQ (zcO:Term->Term->Bool×Int) (x_:Term) (y_:Term):=(zxW zcO x_ y_).fin default
theorem zEq (zcO:Term->Term->Bool×Int) (zGV:SdP 104 (zf6 zcO)):SdP 225 (zf6 (zlQ zcO)):=
 sT (cx':=(zIi zcO)) (zi ⟨zGV,zqC,zsm,trivial⟩) call225 func225 (lOK aN)
def z0c:=zbv base 6 []
def zMW (x_:Int):Wy0 (Bool):=.k (x_ != x_)
def zsp (x_:Int):=(zMW x_).fin default
def zHg:=zh zYC λx=>((zsp x.1).1,zUI (zsp x.1).2)
theorem zTv:SdP 223 zHg:=
 sT (cx':=z0c) (zi trivial) call223 func223 (lOK aN)
def zWG:=zbv base 20 [(223,zHg)]
def zIn (x_:Int) (y_:Int):Wy0 (Int):=.i ((zsp x_).2) (.i ((zsp y_).2) (.k 0) (.k (-1:Int))) (.i ((zsp y_).2) (.k 1) (.i (decide (x_<y_)) (.k (-1:Int)) (.i (decide (x_>y_)) (.k 1) (.k 0))))
def zeS (x_:Int) (y_:Int):=(zIn x_ y_).fin default
def zpz:=zh zTs λx=>((zeS x.1 x.2.1).1,zOz (zeS x.1 x.2.1).2)
theorem zul:SdP 168 zpz:=
 sT (cx':=zWG) (zi ⟨zTv,trivial⟩) call168 func168 (lOK aN)
end Go.Proofs.YtoknknbmfmddbaaGreatDoor
/-
 DERIVED:THE SHELF's CONTRACTS AT THIS DUMP,IN PLAIN WORDS (tools/lay-plain.mjs out of 'TryzShelf.lean',which tools/lay-shelf.mjs wrote):THE SAME DECLARATIONS UNDER THE SAME NAMES:'import','namespace','open','def','theorem' AND NOTHING ELSE:no command of the shelf's:FOR A HAND-IN. Each laying:the table of numbers ('.._ren') and one theorem,a field a fact of the dump's own or the kernel's comparison; each contract:ONE APPLICATION.
-/
namespace Go.Proofs
open Go.Shelf
def Tryz.pdqTerm_ren:Go.Shelf.Ren:=⟨λ| 14=>231 | 20=>269 | 21=>270 | 22=>271 | 23=>272 | 24=>273 | 25=>274 | 26=>275 | 27=>276 | 46=>299 | 47=>289 | 48=>290 | 49=>300 | 50=>301 | 15=>205 | 57=>307 | 28=>254 | 29=>255 | n=>n,λ| 24=>107 | 22=>50 | 3=>3 | 25=>140 | 4=>4 | 0=>0 | 46=>247 | 45=>246 | 50=>208 | 66=>269 | 39=>218 | 55=>223 | 70=>273 | 76=>284 | 77=>285 | 53=>253 | 5=>5 | 9=>9 | n=>n,λ| n=>n⟩
theorem Tryz.pdqTerm:Go.Proofs.SlLaysF0.n14 Tryz.prog Tryz.pdqTerm_ren:={
 mixed:=by kernel_rfl
 f14:=⟨f231.name,by decide,func231.trans (congrArg some (by kernel_rfl))⟩
 f15:=func205.trans (congrArg some (by kernel_rfl))
 f20:=⟨f269.name,by decide,func269.trans (congrArg some (by kernel_rfl))⟩
 f21:=⟨f270.name,by decide,func270.trans (congrArg some (by kernel_rfl))⟩
 f22:=⟨f271.name,by decide,func271.trans (congrArg some (by kernel_rfl))⟩
 f23:=⟨f272.name,by decide,func272.trans (congrArg some (by kernel_rfl))⟩
 f24:=⟨f273.name,by decide,func273.trans (congrArg some (by kernel_rfl))⟩
 f25:=⟨f274.name,by decide,func274.trans (congrArg some (by kernel_rfl))⟩
 f26:=⟨f275.name,by decide,func275.trans (congrArg some (by kernel_rfl))⟩
 f27:=⟨f276.name,by decide,func276.trans (congrArg some (by kernel_rfl))⟩
 f28:=func254.trans (congrArg some (by kernel_rfl))
 f29:=func255.trans (congrArg some (by kernel_rfl))
 f46:=⟨f299.name,by decide,func299.trans (congrArg some (by kernel_rfl))⟩
 f47:=func289.trans (congrArg some (by kernel_rfl))
 f48:=func290.trans (congrArg some (by kernel_rfl))
 f49:=⟨f300.name,by decide,func300.trans (congrArg some (by kernel_rfl))⟩
 f50:=⟨f301.name,by decide,func301.trans (congrArg some (by kernel_rfl))⟩
 f57:=⟨f307.name,by decide,func307.trans (congrArg some (by kernel_rfl))⟩
 t0:=underlying0
 a0:=Tryz.isAgg0
 z0:=Tryz.sizeOf0
 v0:=Tryz.zeroValue0
 t3:=underlying3
 a3:=Tryz.isAgg3
 z3:=Tryz.sizeOf3
 v3:=Tryz.zeroValue3
 t4:=underlying4
 a4:=Tryz.isAgg4
 z4:=Tryz.sizeOf4
 v4:=Tryz.zeroValue4
 t5:=underlying5
 a5:=Tryz.isAgg5
 z5:=Tryz.sizeOf5
 v5:=Tryz.zeroValue5
 t9:=underlying9
 a9:=Tryz.isAgg9
 z9:=Tryz.sizeOf9
 v9:=Tryz.zeroValue9
 t22:=underlying50
 a22:=Tryz.isAgg50
 z22:=Tryz.sizeOf50
 v22:=Tryz.zeroValue50
 t25:=underlying140
 a25:=Tryz.isAgg140
 z25:=Tryz.sizeOf140
 v25:=Tryz.zeroValue140
 t39:=underlying218
 a39:=Tryz.isAgg218
 z39:=Tryz.sizeOf218
 v39:=Tryz.zeroValue218
 t45:=underlying246
 a45:=Tryz.isAgg246
 z45:=Tryz.sizeOf246
 v45:=Tryz.zeroValue246
 t46:=underlying247
 a46:=Tryz.isAgg247
 z46:=Tryz.sizeOf247
 v46:=Tryz.zeroValue247
 t50:=underlying208
 a50:=Tryz.isAgg208
 z50:=Tryz.sizeOf208
 v50:=Tryz.zeroValue208
 t53:=underlying253
 a53:=Tryz.isAgg253
 z53:=Tryz.sizeOf253
 v53:=Tryz.zeroValue253
 t55:=underlying223
 a55:=Tryz.isAgg223
 z55:=Tryz.sizeOf223
 v55:=Tryz.zeroValue223
 t66:=underlying269
 a66:=Tryz.isAgg269
 z66:=Tryz.sizeOf269
 v66:=Tryz.zeroValue269
 t70:=underlying273
 a70:=Tryz.isAgg273
 z70:=Tryz.sizeOf273
 v70:=Tryz.zeroValue273
 t76:=underlying284
 a76:=Tryz.isAgg284
 z76:=Tryz.sizeOf284
 v76:=Tryz.zeroValue284
 t77:=underlying285
 a77:=Tryz.isAgg285
 z77:=Tryz.sizeOf285
 v77:=Tryz.zeroValue285 }
def Tryz.insW_ren:Go.Shelf.Ren:=⟨λ| 20=>309 | n=>n,λ| 24=>169 | 22=>141 | 3=>3 | 25=>198 | 4=>4 | 0=>0 | n=>n,λ| n=>n⟩
theorem Tryz.insW:Go.Proofs.SlLaysF0.n20 Tryz.prog Tryz.insW_ren:={
 mixed:=by kernel_rfl
 f20:=⟨f309.name,by decide,func309.trans (congrArg some (by kernel_rfl))⟩
 t0:=underlying0
 a0:=Tryz.isAgg0
 z0:=Tryz.sizeOf0
 v0:=Tryz.zeroValue0
 t3:=underlying3
 a3:=Tryz.isAgg3
 z3:=Tryz.sizeOf3
 v3:=Tryz.zeroValue3
 t4:=underlying4
 a4:=Tryz.isAgg4
 z4:=Tryz.sizeOf4
 v4:=Tryz.zeroValue4
 t22:=underlying141
 a22:=Tryz.isAgg141
 z22:=Tryz.sizeOf141
 v22:=Tryz.zeroValue141
 t25:=underlying198
 a25:=Tryz.isAgg198
 z25:=Tryz.sizeOf198
 v25:=Tryz.zeroValue198 }
def Tryz.lays106_ren:Go.Shelf.Ren:=⟨λ| 106=>196 | 213=>233 | 265=>277 | n=>n,λ| 9=>9 | 3=>3 | n=>n,λ| n=>n⟩
theorem Tryz.lays106:Go.Proofs.Lays.n106 Tryz.prog Tryz.lays106_ren:={
 mixed:=by kernel_rfl
 f106:=func196.trans (congrArg some (by kernel_rfl))
 f213:=func233.trans (congrArg some (by kernel_rfl))
 f265:=func277.trans (congrArg some (by kernel_rfl))
 t3:=underlying3
 a3:=Tryz.isAgg3
 z3:=Tryz.sizeOf3
 v3:=Tryz.zeroValue3
 t9:=underlying9
 a9:=Tryz.isAgg9
 z9:=Tryz.sizeOf9
 v9:=Tryz.zeroValue9 }
def Tryz.lays125_ren:Go.Shelf.Ren:=⟨λ| 125=>205 | 128=>254 | 129=>255 | n=>n,λ| 46=>218 | 3=>3 | 51=>253 | 53=>223 | 4=>4 | 5=>5 | 9=>9 | n=>n,λ| n=>n⟩
theorem Tryz.lays125:Go.Proofs.Lays.n125 Tryz.prog Tryz.lays125_ren:={
 mixed:=by kernel_rfl
 f125:=func205.trans (congrArg some (by kernel_rfl))
 f128:=func254.trans (congrArg some (by kernel_rfl))
 f129:=func255.trans (congrArg some (by kernel_rfl))
 t3:=underlying3
 a3:=Tryz.isAgg3
 z3:=Tryz.sizeOf3
 v3:=Tryz.zeroValue3
 t4:=underlying4
 a4:=Tryz.isAgg4
 z4:=Tryz.sizeOf4
 v4:=Tryz.zeroValue4
 t5:=underlying5
 a5:=Tryz.isAgg5
 z5:=Tryz.sizeOf5
 v5:=Tryz.zeroValue5
 t9:=underlying9
 a9:=Tryz.isAgg9
 z9:=Tryz.sizeOf9
 v9:=Tryz.zeroValue9
 t46:=underlying218
 a46:=Tryz.isAgg218
 z46:=Tryz.sizeOf218
 v46:=Tryz.zeroValue218
 t51:=underlying253
 a51:=Tryz.isAgg253
 z51:=Tryz.sizeOf253
 v51:=Tryz.zeroValue253
 t53:=underlying223
 a53:=Tryz.isAgg223
 z53:=Tryz.sizeOf223
 v53:=Tryz.zeroValue223 }
def Tryz.laysM173_ren:Go.Shelf.Ren:=⟨λ| 173=>92 | 246=>152 | 283=>208 | 284=>209 | 285=>210 | 286=>211 | 129=>255 | 317=>256 | 318=>257 | 319=>258 | 320=>259 | 337=>293 | 338=>294 | n=>n,λ| 2=>2 | 3=>3 | 9=>9 | 4=>4 | 171=>222 | 0=>0 | 53=>223 | 37=>120 | 5=>5 | 173=>226 | 212=>255 | 51=>253 | 20=>20 | 213=>256 | 46=>218 | 232=>287 | 233=>288 | n=>n,λ| 17=>1 | 18=>4 | 19=>5 | n=>n⟩
theorem Tryz.laysM173:Go.Proofs.LaysM.n173 Tryz.prog Tryz.laysM173_ren:={
 mixed:=by kernel_rfl
 f129:=func255.trans (congrArg some (by kernel_rfl))
 f173:=func92.trans (congrArg some (by kernel_rfl))
 f246:=func152.trans (congrArg some (by kernel_rfl))
 f283:=func208.trans (congrArg some (by kernel_rfl))
 f284:=func209.trans (congrArg some (by kernel_rfl))
 f285:=func210.trans (congrArg some (by kernel_rfl))
 f286:=func211.trans (congrArg some (by kernel_rfl))
 f317:=func256.trans (congrArg some (by kernel_rfl))
 f318:=func257.trans (congrArg some (by kernel_rfl))
 f319:=func258.trans (congrArg some (by kernel_rfl))
 f320:=func259.trans (congrArg some (by kernel_rfl))
 f337:=func293.trans (congrArg some (by kernel_rfl))
 f338:=func294.trans (congrArg some (by kernel_rfl))
 t0:=underlying0
 a0:=Tryz.isAgg0
 z0:=Tryz.sizeOf0
 v0:=Tryz.zeroValue0
 t2:=underlying2
 a2:=Tryz.isAgg2
 z2:=Tryz.sizeOf2
 v2:=Tryz.zeroValue2
 t3:=underlying3
 a3:=Tryz.isAgg3
 z3:=Tryz.sizeOf3
 v3:=Tryz.zeroValue3
 t4:=underlying4
 a4:=Tryz.isAgg4
 z4:=Tryz.sizeOf4
 v4:=Tryz.zeroValue4
 t5:=underlying5
 a5:=Tryz.isAgg5
 z5:=Tryz.sizeOf5
 v5:=Tryz.zeroValue5
 t9:=underlying9
 a9:=Tryz.isAgg9
 z9:=Tryz.sizeOf9
 v9:=Tryz.zeroValue9
 t20:=underlying20
 a20:=Tryz.isAgg20
 z20:=Tryz.sizeOf20
 v20:=Tryz.zeroValue20
 t37:=underlying120
 a37:=Tryz.isAgg120
 z37:=Tryz.sizeOf120
 v37:=Tryz.zeroValue120
 t46:=underlying218
 a46:=Tryz.isAgg218
 z46:=Tryz.sizeOf218
 v46:=Tryz.zeroValue218
 t51:=underlying253
 a51:=Tryz.isAgg253
 z51:=Tryz.sizeOf253
 v51:=Tryz.zeroValue253
 t53:=underlying223
 a53:=Tryz.isAgg223
 z53:=Tryz.sizeOf223
 v53:=Tryz.zeroValue223
 t171:=underlying222
 a171:=Tryz.isAgg222
 z171:=Tryz.sizeOf222
 v171:=Tryz.zeroValue222
 t173:=underlying226
 a173:=Tryz.isAgg226
 z173:=Tryz.sizeOf226
 v173:=Tryz.zeroValue226
 t212:=underlying255
 a212:=Tryz.isAgg255
 z212:=Tryz.sizeOf255
 v212:=Tryz.zeroValue255
 t213:=underlying256
 a213:=Tryz.isAgg256
 z213:=Tryz.sizeOf256
 t232:=underlying287
 a232:=Tryz.isAgg287
 z232:=Tryz.sizeOf287
 v232:=Tryz.zeroValue287
 t233:=underlying288
 a233:=Tryz.isAgg288
 z233:=Tryz.sizeOf288
 v233:=Tryz.zeroValue288
 g17:=by kernel_rfl
 g18:=by kernel_rfl
 g19:=by kernel_rfl
 i0:=by kernel_rfl
 i2:=by kernel_rfl
 i3:=by kernel_rfl
 i4:=by kernel_rfl
 i5:=by kernel_rfl
 i9:=by kernel_rfl
 i20:=by kernel_rfl
 i37:=by kernel_rfl
 i46:=by kernel_rfl
 i51:=by kernel_rfl
 i53:=by kernel_rfl
 i171:=by kernel_rfl
 i173:=by kernel_rfl
 i212:=by kernel_rfl
 i232:=by kernel_rfl
 i233:=by kernel_rfl
 m17:=by kernel_rfl
 m18:=by kernel_rfl
 m19:=by kernel_rfl }
def Tryz.laysM171_ren:Go.Shelf.Ren:=⟨λ| 171=>216 | 243=>267 | 246=>152 | 283=>208 | 284=>209 | 285=>210 | 286=>211 | 129=>255 | 317=>256 | 318=>257 | 319=>258 | 320=>259 | 337=>293 | 338=>294 | n=>n,λ| 3=>3 | 9=>9 | 2=>2 | 4=>4 | 171=>222 | 0=>0 | 53=>223 | 37=>120 | 5=>5 | 173=>226 | 212=>255 | 51=>253 | 20=>20 | 213=>256 | 46=>218 | 232=>287 | 233=>288 | n=>n,λ| 17=>1 | 18=>4 | 19=>5 | n=>n⟩
theorem Tryz.laysM171:Go.Proofs.LaysM.n171 Tryz.prog Tryz.laysM171_ren:={
 mixed:=by kernel_rfl
 f129:=func255.trans (congrArg some (by kernel_rfl))
 f171:=func216.trans (congrArg some (by kernel_rfl))
 f243:=func267.trans (congrArg some (by kernel_rfl))
 f246:=func152.trans (congrArg some (by kernel_rfl))
 f283:=func208.trans (congrArg some (by kernel_rfl))
 f284:=func209.trans (congrArg some (by kernel_rfl))
 f285:=func210.trans (congrArg some (by kernel_rfl))
 f286:=func211.trans (congrArg some (by kernel_rfl))
 f317:=func256.trans (congrArg some (by kernel_rfl))
 f318:=func257.trans (congrArg some (by kernel_rfl))
 f319:=func258.trans (congrArg some (by kernel_rfl))
 f320:=func259.trans (congrArg some (by kernel_rfl))
 f337:=func293.trans (congrArg some (by kernel_rfl))
 f338:=func294.trans (congrArg some (by kernel_rfl))
 t0:=underlying0
 a0:=Tryz.isAgg0
 z0:=Tryz.sizeOf0
 v0:=Tryz.zeroValue0
 t2:=underlying2
 a2:=Tryz.isAgg2
 z2:=Tryz.sizeOf2
 v2:=Tryz.zeroValue2
 t3:=underlying3
 a3:=Tryz.isAgg3
 z3:=Tryz.sizeOf3
 v3:=Tryz.zeroValue3
 t4:=underlying4
 a4:=Tryz.isAgg4
 z4:=Tryz.sizeOf4
 v4:=Tryz.zeroValue4
 t5:=underlying5
 a5:=Tryz.isAgg5
 z5:=Tryz.sizeOf5
 v5:=Tryz.zeroValue5
 t9:=underlying9
 a9:=Tryz.isAgg9
 z9:=Tryz.sizeOf9
 v9:=Tryz.zeroValue9
 t20:=underlying20
 a20:=Tryz.isAgg20
 z20:=Tryz.sizeOf20
 v20:=Tryz.zeroValue20
 t37:=underlying120
 a37:=Tryz.isAgg120
 z37:=Tryz.sizeOf120
 v37:=Tryz.zeroValue120
 t46:=underlying218
 a46:=Tryz.isAgg218
 z46:=Tryz.sizeOf218
 v46:=Tryz.zeroValue218
 t51:=underlying253
 a51:=Tryz.isAgg253
 z51:=Tryz.sizeOf253
 v51:=Tryz.zeroValue253
 t53:=underlying223
 a53:=Tryz.isAgg223
 z53:=Tryz.sizeOf223
 v53:=Tryz.zeroValue223
 t171:=underlying222
 a171:=Tryz.isAgg222
 z171:=Tryz.sizeOf222
 v171:=Tryz.zeroValue222
 t173:=underlying226
 a173:=Tryz.isAgg226
 z173:=Tryz.sizeOf226
 v173:=Tryz.zeroValue226
 t212:=underlying255
 a212:=Tryz.isAgg255
 z212:=Tryz.sizeOf255
 v212:=Tryz.zeroValue255
 t213:=underlying256
 a213:=Tryz.isAgg256
 z213:=Tryz.sizeOf256
 t232:=underlying287
 a232:=Tryz.isAgg287
 z232:=Tryz.sizeOf287
 v232:=Tryz.zeroValue287
 t233:=underlying288
 a233:=Tryz.isAgg288
 z233:=Tryz.sizeOf288
 v233:=Tryz.zeroValue288
 g17:=by kernel_rfl
 g18:=by kernel_rfl
 g19:=by kernel_rfl
 i0:=by kernel_rfl
 i2:=by kernel_rfl
 i3:=by kernel_rfl
 i4:=by kernel_rfl
 i5:=by kernel_rfl
 i9:=by kernel_rfl
 i20:=by kernel_rfl
 i37:=by kernel_rfl
 i46:=by kernel_rfl
 i51:=by kernel_rfl
 i53:=by kernel_rfl
 i171:=by kernel_rfl
 i173:=by kernel_rfl
 i212:=by kernel_rfl
 i232:=by kernel_rfl
 i233:=by kernel_rfl
 m17:=by kernel_rfl
 m18:=by kernel_rfl
 m19:=by kernel_rfl }
def Tryz.lays155_ren:Go.Shelf.Ren:=⟨λ| 155=>93 | 154=>153 | 138=>212 | 165=>88 | 143=>213 | 166=>89 | 197=>214 | 169=>90 | 195=>260 | 218=>261 | 240=>150 | 241=>151 | 219=>262 | 260=>263 | 276=>206 | 277=>207 | 217=>295 | 225=>296 | 224=>297 | 267=>298 | 266=>305 | 314=>306 | n=>n,λ| 9=>9 | 3=>3 | 4=>4 | 72=>122 | 0=>0 | 76=>126 | 105=>228 | 21=>21 | 5=>5 | 70=>119 | 20=>20 | 37=>120 | 75=>125 | 127=>180 | 164=>219 | 46=>218 | 119=>275 | 139=>278 | 138=>277 | 146=>289 | 51=>253 | 80=>128 | n=>n,λ| 1=>0 | 3=>2 | 4=>3 | n=>n⟩
theorem Tryz.lays155:Go.Proofs.Lays.n155 Tryz.prog Tryz.lays155_ren:={
 mixed:=by kernel_rfl
 f138:=func212.trans (congrArg some (by kernel_rfl))
 f143:=func213.trans (congrArg some (by kernel_rfl))
 f154:=func153.trans (congrArg some (by kernel_rfl))
 f155:=func93.trans (congrArg some (by kernel_rfl))
 f165:=func88.trans (congrArg some (by kernel_rfl))
 f166:=func89.trans (congrArg some (by kernel_rfl))
 f169:=func90.trans (congrArg some (by kernel_rfl))
 f195:=func260.trans (congrArg some (by kernel_rfl))
 f197:=func214.trans (congrArg some (by kernel_rfl))
 f217:=func295.trans (congrArg some (by kernel_rfl))
 f218:=func261.trans (congrArg some (by kernel_rfl))
 f219:=func262.trans (congrArg some (by kernel_rfl))
 f224:=func297.trans (congrArg some (by kernel_rfl))
 f225:=func296.trans (congrArg some (by kernel_rfl))
 f240:=func150.trans (congrArg some (by kernel_rfl))
 f241:=func151.trans (congrArg some (by kernel_rfl))
 f260:=func263.trans (congrArg some (by kernel_rfl))
 f266:=func305.trans (congrArg some (by kernel_rfl))
 f267:=func298.trans (congrArg some (by kernel_rfl))
 f276:=func206.trans (congrArg some (by kernel_rfl))
 f277:=func207.trans (congrArg some (by kernel_rfl))
 f314:=func306.trans (congrArg some (by kernel_rfl))
 t0:=underlying0
 a0:=Tryz.isAgg0
 z0:=Tryz.sizeOf0
 v0:=Tryz.zeroValue0
 t3:=underlying3
 a3:=Tryz.isAgg3
 z3:=Tryz.sizeOf3
 v3:=Tryz.zeroValue3
 t4:=underlying4
 a4:=Tryz.isAgg4
 z4:=Tryz.sizeOf4
 v4:=Tryz.zeroValue4
 t5:=underlying5
 a5:=Tryz.isAgg5
 z5:=Tryz.sizeOf5
 v5:=Tryz.zeroValue5
 t9:=underlying9
 a9:=Tryz.isAgg9
 z9:=Tryz.sizeOf9
 v9:=Tryz.zeroValue9
 t20:=underlying20
 a20:=Tryz.isAgg20
 z20:=Tryz.sizeOf20
 v20:=Tryz.zeroValue20
 t21:=underlying21
 a21:=Tryz.isAgg21
 z21:=Tryz.sizeOf21
 v21:=Tryz.zeroValue21
 t37:=underlying120
 a37:=Tryz.isAgg120
 z37:=Tryz.sizeOf120
 v37:=Tryz.zeroValue120
 t46:=underlying218
 a46:=Tryz.isAgg218
 z46:=Tryz.sizeOf218
 v46:=Tryz.zeroValue218
 t51:=underlying253
 a51:=Tryz.isAgg253
 z51:=Tryz.sizeOf253
 v51:=Tryz.zeroValue253
 t70:=underlying119
 a70:=Tryz.isAgg119
 z70:=Tryz.sizeOf119
 v70:=Tryz.zeroValue119
 t72:=underlying122
 a72:=Tryz.isAgg122
 z72:=Tryz.sizeOf122
 v72:=Tryz.zeroValue122
 t75:=underlying125
 a75:=Tryz.isAgg125
 z75:=Tryz.sizeOf125
 v75:=Tryz.zeroValue125
 t76:=underlying126
 a76:=Tryz.isAgg126
 z76:=Tryz.sizeOf126
 v76:=Tryz.zeroValue126
 t105:=underlying228
 a105:=Tryz.isAgg228
 z105:=Tryz.sizeOf228
 v105:=Tryz.zeroValue228
 t119:=underlying275
 a119:=Tryz.isAgg275
 z119:=Tryz.sizeOf275
 t127:=underlying180
 a127:=Tryz.isAgg180
 z127:=Tryz.sizeOf180
 v127:=Tryz.zeroValue180
 t138:=underlying277
 a138:=Tryz.isAgg277
 z138:=Tryz.sizeOf277
 v138:=Tryz.zeroValue277
 t139:=underlying278
 a139:=Tryz.isAgg278
 z139:=Tryz.sizeOf278
 v139:=Tryz.zeroValue278
 t146:=underlying289
 a146:=Tryz.isAgg289
 z146:=Tryz.sizeOf289
 v146:=Tryz.zeroValue289
 t164:=underlying219
 a164:=Tryz.isAgg219
 z164:=Tryz.sizeOf219
 v164:=Tryz.zeroValue219
 g1:=by kernel_rfl
 g3:=by kernel_rfl
 g4:=by kernel_rfl }
theorem Tryz.Builder_Extra_155:Builder.Extra Tryz.prog Tryz.lays155_ren:={
 sizeBuilder:=by kernel_rfl
 liesBuilder:=by kernel_rfl
 t5:=underlying5
 a5:=Tryz.isAgg5
 z5:=Tryz.sizeOf5
 v5:=Tryz.zeroValue5
 infoByte:=by kernel_rfl
 cellsByte:=by kernel_rfl
 sizeByte:=by kernel_rfl
 neB5:=by decide }
def Tryz.lays156_ren:Go.Shelf.Ren:=⟨λ| 156=>44 | 165=>88 | 166=>89 | 169=>90 | 240=>150 | 241=>151 | 276=>206 | 277=>207 | n=>n,λ| 31=>28 | 9=>9 | 3=>3 | 4=>4 | 0=>0 | 20=>20 | 72=>122 | 76=>126 | 70=>119 | 37=>120 | 75=>125 | 127=>180 | 164=>219 | 5=>5 | 80=>128 | n=>n,λ| n=>n⟩
theorem Tryz.lays156:Go.Proofs.Lays.n156 Tryz.prog Tryz.lays156_ren:={
 mixed:=by kernel_rfl
 f156:=func44.trans (congrArg some (by kernel_rfl))
 f165:=func88.trans (congrArg some (by kernel_rfl))
 f166:=func89.trans (congrArg some (by kernel_rfl))
 f169:=func90.trans (congrArg some (by kernel_rfl))
 f240:=func150.trans (congrArg some (by kernel_rfl))
 f241:=func151.trans (congrArg some (by kernel_rfl))
 f276:=func206.trans (congrArg some (by kernel_rfl))
 f277:=func207.trans (congrArg some (by kernel_rfl))
 t0:=underlying0
 a0:=Tryz.isAgg0
 z0:=Tryz.sizeOf0
 v0:=Tryz.zeroValue0
 t3:=underlying3
 a3:=Tryz.isAgg3
 z3:=Tryz.sizeOf3
 v3:=Tryz.zeroValue3
 t4:=underlying4
 a4:=Tryz.isAgg4
 z4:=Tryz.sizeOf4
 v4:=Tryz.zeroValue4
 t9:=underlying9
 a9:=Tryz.isAgg9
 z9:=Tryz.sizeOf9
 v9:=Tryz.zeroValue9
 t20:=underlying20
 a20:=Tryz.isAgg20
 z20:=Tryz.sizeOf20
 v20:=Tryz.zeroValue20
 t31:=underlying28
 a31:=Tryz.isAgg28
 z31:=Tryz.sizeOf28
 v31:=Tryz.zeroValue28
 t37:=underlying120
 a37:=Tryz.isAgg120
 z37:=Tryz.sizeOf120
 v37:=Tryz.zeroValue120
 t70:=underlying119
 a70:=Tryz.isAgg119
 z70:=Tryz.sizeOf119
 v70:=Tryz.zeroValue119
 t72:=underlying122
 a72:=Tryz.isAgg122
 z72:=Tryz.sizeOf122
 v72:=Tryz.zeroValue122
 t75:=underlying125
 a75:=Tryz.isAgg125
 z75:=Tryz.sizeOf125
 v75:=Tryz.zeroValue125
 t76:=underlying126
 a76:=Tryz.isAgg126
 z76:=Tryz.sizeOf126
 v76:=Tryz.zeroValue126
 t127:=underlying180
 a127:=Tryz.isAgg180
 z127:=Tryz.sizeOf180
 v127:=Tryz.zeroValue180
 t164:=underlying219
 a164:=Tryz.isAgg219
 z164:=Tryz.sizeOf219
 v164:=Tryz.zeroValue219 }
theorem Tryz.Builder_Extra_156:Builder.Extra Tryz.prog Tryz.lays156_ren:={
 sizeBuilder:=by kernel_rfl
 liesBuilder:=by kernel_rfl
 t5:=underlying5
 a5:=Tryz.isAgg5
 z5:=Tryz.sizeOf5
 v5:=Tryz.zeroValue5
 infoByte:=by kernel_rfl
 cellsByte:=by kernel_rfl
 sizeByte:=by kernel_rfl
 neB5:=by decide }
end Go.Proofs
namespace Go.Proofs.YtoknknbmfmddbaaGreatDoor
open Go Go.Ab
open Go.Proofs.Tryz
def strings_Compare (s p:ByteArray):Bool×Int:=zJL s p
def zEe:Ab.Spec ty:=zh (cx:=base) (zd (ze zxA) (zd (ze zxA) zr)) λx=>((strings_Compare x.1 x.2.1).1,⟨[.pure (.lit (.int .i64 (strings_Compare x.1 x.2.1).2))],[]⟩)
theorem zPK:SdP 196 zEe:=z69 ze3 Go.Proofs.Tryz.lays106 call196
end Go.Proofs.YtoknknbmfmddbaaGreatDoor
namespace Go.Proofs.YtoknknbmfmddbaaGreatDoor
open Go Go.Ab
open Go.Proofs.Tryz
def z01:=zbv base 22 [(167,znJ),(168,zpz),(195,zmI),(196,zEe)]
def zML (a:Value) (b:Value):Wy0 (Int):=.bn (zeS a.Kind b.Kind) λr2=>.bn (zi3 a.Int b.Int) λr1=>.bn (zps [r2,r1,(strings_Compare a.Text b.Text).2]) λr0=>.k r0
def zjO (a:Value) (b:Value):=(zML a b).fin default
def z1I:AL base (Value×Value×Unit):=zd (ze (zbX 79)) (zd (ze (zbX 79)) zr)
def zna:=zh z1I λx=>((zjO x.1 x.2.1).1,zOz (zjO x.1 x.2.1).2)
theorem zro:SdP 131 zna:=
 sT (cx':=z01) (zi ⟨zqC,zul,zsm,zPK,trivial⟩) call131 func131 (lOK aN)
def zFx (zu:yA->yA->Bool×Int) (zy:yB->yB->Bool×Int) (zF:yD->yD->Bool×Int) (zG:Wd->Wd->Bool×Int):=zbv base 51 [(131,zna),(167,znJ),(168,zpz),(169,(zbn zu)),(170,(zee zy)),(171,(zbJ zF)),(172,(zeg zG))]
def zvq (zu:yA->yA->Bool×Int) (zy:yB->yB->Bool×Int) (zF:yD->yD->Bool×Int) (zG:Wd->Wd->Bool×Int) (a:At) (b:At):Wy0 (Int):=.bn (zeS a.Kind b.Kind) λr8=>.bn (zeS a.Row.Table b.Row.Table) λr7=>.bn (zeS a.Row.Seq b.Row.Seq) λr6=>.bn (zu a.Ag b.Ag) λr5=>.bn (zeS a.Func b.Func) λr4=>.bn (zF a.Items b.Items) λr3=>.bn (zeS a.Op b.Op) λr2=>.bn (zjO a.Bd b.Bd) λr1=>.bn (zps [r8,r7,r6,r5,r4,r3,r2,r1]) λr0=>.k r0
def zkl (zu:yA->yA->Bool×Int) (zy:yB->yB->Bool×Int) (zF:yD->yD->Bool×Int) (zG:Wd->Wd->Bool×Int) (a:At) (b:At):=(zvq zu zy zF zG a b).fin default
theorem zCz (zu:yA->yA->Bool×Int) (zy:yB->yB->Bool×Int) (zF:yD->yD->Bool×Int) (zG:Wd->Wd->Bool×Int) (zfE:SdP 169 (zbn zu)) (zjD:SdP 170 (zee zy)) (zg5:SdP 171 (zbJ zF)) (znj:SdP 172 (zeg zG)):SdP 106 (zhj (zkl zu zy zF zG)):=
 sT (cx':=(zFx zu zy zF zG)) (zi ⟨zro,zqC,zul,zfE,zjD,zg5,znj,trivial⟩) call106 func106 (lOK aN)
def zDV (zcP:At->At->Bool×Int):=zbv base 17 [(106,(zhj zcP)),(167,znJ),(168,zpz)]
def ztT (zcP:At->At->Bool×Int) (a:Fc) (b:Fc):Wy0 (Int):=.bn (zcP (At.mk a.At.Kind a.At.Row a.At.Ag a.At.Func a.At.Items a.At.Op a.At.Bd) (At.mk b.At.Kind b.At.Row b.At.Ag b.At.Func b.At.Items b.At.Op b.At.Bd)) λr2=>.bn (zeS a.Exp b.Exp) λr1=>.bn (zps [r2,r1]) λr0=>.k r0
def zjb (zcP:At->At->Bool×Int) (a:Fc) (b:Fc):=(ztT zcP a b).fin default
theorem zAZ (zcP:At->At->Bool×Int) (zHk:SdP 106 (zhj zcP)):SdP 166 (zeC (zjb zcP)):=
 sT (cx':=(zDV zcP)) (zi ⟨zHk,zqC,zul,trivial⟩) call166 func166 (lOK aN)
def zFa (zy:yB->yB->Bool×Int):=zbv base 17 [(131,zna),(167,znJ),(170,(zee zy))]
def zvk (zy:yB->yB->Bool×Int) (a:Wd) (b:Wd):Wy0 (Int):=.bn (zjO a.Value b.Value) λr2=>.bn (zy a.Ann b.Ann) λr1=>.bn (zps [r2,r1]) λr0=>.k r0
def zke (zy:yB->yB->Bool×Int) (a:Wd) (b:Wd):=(zvk zy a b).fin default
theorem zCU (zy:yB->yB->Bool×Int) (zjD:SdP 170 (zee zy)):SdP 172 (zeg (zke zy)):=
 sT (cx':=(zFa zy)) (zi ⟨zro,zqC,zjD,trivial⟩) call172 func172 (lOK aN)
def zE7 (zM:yC->yC->Bool×Int) (zx:Fc->Fc->Bool×Int):=zbv base 10 [(165,(zbS zM)),(166,(zeC zx))]
def zvv (zM:yC->yC->Bool×Int) (zx:Fc->Fc->Bool×Int) (a:Term) (b:Term):Wy0 (Int):=.bn (zM a.Fs b.Fs) λr0=>.k r0
def zkj (zM:yC->yC->Bool×Int) (zx:Fc->Fc->Bool×Int) (a:Term) (b:Term):=(zvv zM zx a b).fin default
theorem zCN (zM:yC->yC->Bool×Int) (zx:Fc->Fc->Bool×Int) (ziZ:SdP 165 (zbS zM)) (zlH:SdP 166 (zeC zx)):SdP 104 (zf6 (zkj zM zx)):=
 sT (cx':=(zE7 zM zx)) (zi ⟨ziZ,zlH,trivial⟩) call104 func104 (lOK aN)
abbrev zbD:=yA×yA×Unit×yA×Int×Int×Unit
abbrev zdo:=Int⊕(yA×yA)
def zfk (zy:yB->yB->Bool×Int) (s1:yA) (s2:yA) (t11:yA) (t12:Int) (t13:Int):Wy zbD Unit zdo:=.i (decide (t13<t12)) (.i (decide (0<=t13)&&decide (t13<Int.ofNat t11.length)) (.i (decide (t13≥Int.ofNat s2.length)) (.k (.inl 1)) (.i (decide (0<=t13)&&decide (t13<Int.ofNat s2.length)) (.bn (zy (t11.getD t13.toNat default) (s2.getD t13.toNat default)) λr0=>.i (r0 != 0) (.k (.inl (r0))) (.h (s1,s2,(),t11,t12,(IntKind.i64.wrap (t13+1)),()) ())) .d)) .d) (.k (.inr (s1,s2)))
def zcK (zy:yB->yB->Bool×Int) (x:zbD) (y:Unit):=zfk zy x.1 x.2.1 x.2.2.2.1 x.2.2.2.2.1 x.2.2.2.2.2.1
def zfr (zy:yB->yB->Bool×Int) (n:Nat) (s1:yA) (s2:yA) (t11:yA) (t12:Int) (t13:Int):=zB (zcK zy) (.inl default) n (s1,s2,(),t11,t12,t13,()) ()
def zfe (r:zdo):LTree ty:=.ite (isL r) (.done .ret [.lit (.int .i64 (getL r))] []) (.done (.exit 0) [.sl 51 (getR r).1,.sl 51 (getR r).2] [])
def zfm:LL ty zbD:=za (lSl 51) (za (lSl 51) (za (lFn 170 (zl)) (za (lSl 51) (za zj (za zj zl)))))
def zff (x:zbD) (y:Unit):Nat:=(x.1.length+x.2.1.length+x.2.2.2.1.length+Int.toNat x.2.2.2.2.1+Int.toNat x.2.2.2.2.2.1+1)
def zcL (zy:yB->yB->Bool×Int):=zbZ base 39 [(170,(zee zy))] [] [(2,(kpL [0,1,2,11,12,13]))] [(2,1,(kpL [0,1])),(2,0,(kpL [6]))] [(2,spW zfm z6k (zcK zy) (.inl default) zfe zff)] []
theorem zfg (zy:yB->yB->Bool×Int):zI (zcL zy) (lp (body f169) 0):=zo (id:=2) (hl:=rfl)
def zfA (zy:yB->yB->Bool×Int) (s1:yA) (s2:yA):Wy0 (Int):=.bn (zfr zy (s1.length+s2.length+s1.length+(Int.ofNat s1.length).toNat +Int.toNat 0+1) s1 s2 s1 (Int.ofNat s1.length) 0) λr2=>.i (isL r2) (.k (getL r2)) (.i (decide (Int.ofNat (getR r2).1.length<Int.ofNat (getR r2).2.length)) (.k (-1:Int)) (.k 0))
def zbl (zy:yB->yB->Bool×Int) (s1:yA) (s2:yA):=(zfA zy s1 s2).fin default
theorem ze1 (zy:yB->yB->Bool×Int) (zjD:SdP 170 (zee zy)):SdP 169 (zbn (zbl zy)):=
 sT (cx':=(zcL zy)) (zi ⟨zjD,trivial⟩) call169 func169 (lOK (aC (zfg zy) aN))
abbrev zb7:=yC×yC×Unit×yC×Int×Int×Unit
abbrev zeX:=Int⊕(yC×yC)
def zdZ (zx:Fc->Fc->Bool×Int) (s1:yC) (s2:yC) (t11:yC) (t12:Int) (t13:Int):Wy zb7 Unit zeX:=.i (decide (t13<t12)) (.i (decide (0<=t13)&&decide (t13<Int.ofNat t11.length)) (.i (decide (t13≥Int.ofNat s2.length)) (.k (.inl 1)) (.i (decide (0<=t13)&&decide (t13<Int.ofNat s2.length)) (.bn (zx (FO.mk (At.mk (t11.getD t13.toNat default).At.Kind (t11.getD t13.toNat default).At.Row (t11.getD t13.toNat default).At.Ag (t11.getD t13.toNat default).At.Func (t11.getD t13.toNat default).At.Items (t11.getD t13.toNat default).At.Op (t11.getD t13.toNat default).At.Bd) (t11.getD t13.toNat default).Exp) (FO.mk (At.mk (s2.getD t13.toNat default).At.Kind (s2.getD t13.toNat default).At.Row (s2.getD t13.toNat default).At.Ag (s2.getD t13.toNat default).At.Func (s2.getD t13.toNat default).At.Items (s2.getD t13.toNat default).At.Op (s2.getD t13.toNat default).At.Bd) (s2.getD t13.toNat default).Exp)) λr0=>.i (r0 != 0) (.k (.inl (r0))) (.h (s1,s2,(),t11,t12,(IntKind.i64.wrap (t13+1)),()) ())) .d)) .d) (.k (.inr (s1,s2)))
def zbN (zx:Fc->Fc->Bool×Int) (x:zb7) (y:Unit):=zdZ zx x.1 x.2.1 x.2.2.2.1 x.2.2.2.2.1 x.2.2.2.2.2.1
def zd1 (zx:Fc->Fc->Bool×Int) (n:Nat) (s1:yC) (s2:yC) (t11:yC) (t12:Int) (t13:Int):=zB (zbN zx) (.inl default) n (s1,s2,(),t11,t12,t13,()) ()
def ziy (r:zeX):LTree ty:=.ite (isL r) (.done .ret [.lit (.int .i64 (getL r))] []) (.done (.exit 0) [.sl 145 (getR r).1,.sl 145 (getR r).2] [])
def ziT:LL ty zb7:=za (lSl 145) (za (lSl 145) (za (lFn 166 (zl)) (za (lSl 145) (za zj (za zj zl)))))
def ziF (x:zb7) (y:Unit):Nat:=(x.1.length+x.2.1.length+x.2.2.2.1.length+Int.toNat x.2.2.2.2.1+Int.toNat x.2.2.2.2.2.1+1)
def zd0 (zx:Fc->Fc->Bool×Int):=zbZ base 39 [(166,(zeC zx))] [] [(2,(kpL [0,1,2,11,12,13]))] [(2,1,(kpL [0,1])),(2,0,(kpL [6]))] [(2,spW ziT z6k (zbN zx) (.inl default) ziy ziF)] []
theorem ziw (zx:Fc->Fc->Bool×Int):zI (zd0 zx) (lp (body f165) 0):=zo (id:=2) (hl:=rfl)
def zd9 (zx:Fc->Fc->Bool×Int) (s1:yC) (s2:yC):Wy0 (Int):=.bn (zd1 zx (s1.length+s2.length+s1.length+(Int.ofNat s1.length).toNat +Int.toNat 0+1) s1 s2 s1 (Int.ofNat s1.length) 0) λr2=>.i (isL r2) (.k (getL r2)) (.i (decide (Int.ofNat (getR r2).1.length<Int.ofNat (getR r2).2.length)) (.k (-1:Int)) (.k 0))
def zbu (zx:Fc->Fc->Bool×Int) (s1:yC) (s2:yC):=(zd9 zx s1 s2).fin default
theorem zhO (zx:Fc->Fc->Bool×Int) (zlH:SdP 166 (zeC zx)):SdP 165 (zbS (zbu zx)):=
 sT (cx':=(zd0 zx)) (zi ⟨zlH,trivial⟩) call165 func165 (lOK (aC (ziw zx) aN))
abbrev zbR:=yD×yD×Unit×yD×Int×Int×Unit
abbrev zed:=Int⊕(yD×yD)
def zgM (zG:Wd->Wd->Bool×Int) (s1:yD) (s2:yD) (t11:yD) (t12:Int) (t13:Int):Wy zbR Unit zed:=.i (decide (t13<t12)) (.i (decide (0<=t13)&&decide (t13<Int.ofNat t11.length)) (.i (decide (t13≥Int.ofNat s2.length)) (.k (.inl 1)) (.i (decide (0<=t13)&&decide (t13<Int.ofNat s2.length)) (.bn (zG (t11.getD t13.toNat default) (s2.getD t13.toNat default)) λr0=>.i (r0 != 0) (.k (.inl (r0))) (.h (s1,s2,(),t11,t12,(IntKind.i64.wrap (t13+1)),()) ())) .d)) .d) (.k (.inr (s1,s2)))
def zc9 (zG:Wd->Wd->Bool×Int) (x:zbR) (y:Unit):=zgM zG x.1 x.2.1 x.2.2.2.1 x.2.2.2.2.1 x.2.2.2.2.2.1
def zgQ (zG:Wd->Wd->Bool×Int) (n:Nat) (s1:yD) (s2:yD) (t11:yD) (t12:Int) (t13:Int):=zB (zc9 zG) (.inl default) n (s1,s2,(),t11,t12,t13,()) ()
def zgz (r:zed):LTree ty:=.ite (isL r) (.done .ret [.lit (.int .i64 (getL r))] []) (.done (.exit 0) [.sl 169 (getR r).1,.sl 169 (getR r).2] [])
def zgN:LL ty zbR:=za (lSl 169) (za (lSl 169) (za (lFn 172 (zl)) (za (lSl 169) (za zj (za zj zl)))))
def zgA (x:zbR) (y:Unit):Nat:=(x.1.length+x.2.1.length+x.2.2.2.1.length+Int.toNat x.2.2.2.2.1+Int.toNat x.2.2.2.2.2.1+1)
def zc8 (zG:Wd->Wd->Bool×Int):=zbZ base 39 [(172,(zeg zG))] [] [(2,(kpL [0,1,2,11,12,13]))] [(2,1,(kpL [0,1])),(2,0,(kpL [6]))] [(2,spW zgN z6k (zc9 zG) (.inl default) zgz zgA)] []
theorem zgs (zG:Wd->Wd->Bool×Int):zI (zc8 zG) (lp (body f171) 0):=zo (id:=2) (hl:=rfl)
def zg9 (zG:Wd->Wd->Bool×Int) (s1:yD) (s2:yD):Wy0 (Int):=.bn (zgQ zG (s1.length+s2.length+s1.length+(Int.ofNat s1.length).toNat +Int.toNat 0+1) s1 s2 s1 (Int.ofNat s1.length) 0) λr2=>.i (isL r2) (.k (getL r2)) (.i (decide (Int.ofNat (getR r2).1.length<Int.ofNat (getR r2).2.length)) (.k (-1:Int)) (.k 0))
def zbH (zG:Wd->Wd->Bool×Int) (s1:yD) (s2:yD):=(zg9 zG s1 s2).fin default
theorem zgi (zG:Wd->Wd->Bool×Int) (znj:SdP 172 (zeg zG)):SdP 171 (zbJ (zbH zG)):=
 sT (cx':=(zc8 zG)) (zi ⟨znj,trivial⟩) call171 func171 (lOK (aC (zgs zG) aN))
abbrev zb3:=yB×yB×Unit×yB×Int×Int×Unit
abbrev zeG:=Int⊕(yB×yB)
def zif (zL:Term->Term->Bool×Int) (s1:yB) (s2:yB) (t11:yB) (t12:Int) (t13:Int):Wy zb3 Unit zeG:=.i (decide (t13<t12)) (.i (decide (0<=t13)&&decide (t13<Int.ofNat t11.length)) (.i (decide (t13≥Int.ofNat s2.length)) (.k (.inl 1)) (.i (decide (0<=t13)&&decide (t13<Int.ofNat s2.length)) (.bn (zL (t11.getD t13.toNat default) (s2.getD t13.toNat default)) λr0=>.i (r0 != 0) (.k (.inl (r0))) (.h (s1,s2,(),t11,t12,(IntKind.i64.wrap (t13+1)),()) ())) .d)) .d) (.k (.inr (s1,s2)))
def zdI (zL:Term->Term->Bool×Int) (x:zb3) (y:Unit):=zif zL x.1 x.2.1 x.2.2.2.1 x.2.2.2.2.1 x.2.2.2.2.2.1
def zig (zL:Term->Term->Bool×Int) (n:Nat) (s1:yB) (s2:yB) (t11:yB) (t12:Int) (t13:Int):=zB (zdI zL) (.inl default) n (s1,s2,(),t11,t12,t13,()) ()
def zib (r:zeG):LTree ty:=.ite (isL r) (.done .ret [.lit (.int .i64 (getL r))] []) (.done (.exit 0) [.sl 107 (getR r).1,.sl 107 (getR r).2] [])
def zih:LL ty zb3:=za (lSl 107) (za (lSl 107) (za (lFn 225 (zl)) (za (lSl 107) (za zj (za zj zl)))))
def zhR (x:zb3) (y:Unit):Nat:=(x.1.length+x.2.1.length+x.2.2.2.1.length+Int.toNat x.2.2.2.2.1+Int.toNat x.2.2.2.2.2.1+1)
def zdJ (zL:Term->Term->Bool×Int):=zbZ base 39 [(225,(zf6 zL))] [] [(2,(kpL [0,1,2,11,12,13]))] [(2,1,(kpL [0,1])),(2,0,(kpL [6]))] [(2,spW zih z6k (zdI zL) (.inl default) zib zhR)] []
theorem zh1 (zL:Term->Term->Bool×Int):zI (zdJ zL) (lp (body f224) 0):=zo (id:=2) (hl:=rfl)
def zis (zL:Term->Term->Bool×Int) (s1:yB) (s2:yB):Wy0 (Int):=.bn (zig zL (s1.length+s2.length+s1.length+(Int.ofNat s1.length).toNat +Int.toNat 0+1) s1 s2 s1 (Int.ofNat s1.length) 0) λr2=>.i (isL r2) (.k (getL r2)) (.i (decide (Int.ofNat (getR r2).1.length<Int.ofNat (getR r2).2.length)) (.k (-1:Int)) (.k 0))
def zbO (zL:Term->Term->Bool×Int) (s1:yB) (s2:yB):=(zis zL s1 s2).fin default
theorem zhl (zL:Term->Term->Bool×Int) (zpA:SdP 225 (zf6 zL)):SdP 224 (zbP (zbO zL)):=
 sT (cx':=(zdJ zL)) (zi ⟨zpA,trivial⟩) call224 func224 (lOK (aC (zh1 zL) aN))
def zcb:Nat->(yB->yB->Bool×Int)×(Term->Term->Bool×Int)×(Term->Term->Bool×Int)×(Fc->Fc->Bool×Int)×(At->At->Bool×Int)×(Wd->Wd->Bool×Int)×(yB->yB->Bool×Int)×(yC->yC->Bool×Int)×(yA->yA->Bool×Int)×(yD->yD->Bool×Int)
 | 0=>(λ_ _=>(false,default),λ_ _=>(false,default),λ_ _=>(false,default),λ_ _=>(false,default),λ_ _=>(false,default),λ_ _=>(false,default),λ_ _=>(false,default),λ_ _=>(false,default),λ_ _=>(false,default),λ_ _=>(false,default))
 | n+1=>(zpr ((zcb n).2.2.2.2.2.2.1) ((zcb n).2.1),zlQ ((zcb n).2.2.1),zkj ((zcb n).2.2.2.2.2.2.2.1) ((zcb n).2.2.2.1),zjb ((zcb n).2.2.2.2.1),zkl ((zcb n).2.2.2.2.2.2.2.2.1) ((zcb n).1) ((zcb n).2.2.2.2.2.2.2.2.2) ((zcb n).2.2.2.2.2.1),zke ((zcb n).1),zbO ((zcb n).2.1),zbu ((zcb n).2.2.2.1),zbl ((zcb n).1),zbH ((zcb n).2.2.2.2.2.1))
def zgc (n:Nat):yB->yB->Bool×Int:=(zcb n).1
def ziS (n:Nat):Term->Term->Bool×Int:=(zcb n).2.1
def zhg (n:Nat):Term->Term->Bool×Int:=(zcb n).2.2.1
def zf2 (n:Nat):Fc->Fc->Bool×Int:=(zcb n).2.2.2.1
def zha (n:Nat):At->At->Bool×Int:=(zcb n).2.2.2.2.1
def ze7 (n:Nat):Wd->Wd->Bool×Int:=(zcb n).2.2.2.2.2.1
def zbQ (n:Nat):yB->yB->Bool×Int:=(zcb n).2.2.2.2.2.2.1
def zbU (n:Nat):yC->yC->Bool×Int:=(zcb n).2.2.2.2.2.2.2.1
def zbm (n:Nat):yA->yA->Bool×Int:=(zcb n).2.2.2.2.2.2.2.2.1
def zbG (n:Nat):yD->yD->Bool×Int:=(zcb n).2.2.2.2.2.2.2.2.2
theorem zME (n:Nat):zgc (n+1)=zpr (zbQ n) (ziS n):=rfl
theorem zIc (n:Nat):ziS (n+1)=zlQ (zhg n):=rfl
theorem zFy (n:Nat):zhg (n+1)=zkj (zbU n) (zf2 n):=rfl
theorem zDF (n:Nat):zf2 (n+1)=zjb (zha n):=rfl
theorem zFN (n:Nat):zha (n+1)=zkl (zbm n) (zgc n) (zbG n) (ze7 n):=rfl
theorem zFK (n:Nat):ze7 (n+1)=zke (zgc n):=rfl
theorem zid (n:Nat):zbQ (n+1)=zbO (ziS n):=rfl
theorem ziN (n:Nat):zbU (n+1)=zbu (zf2 n):=rfl
theorem zfl (n:Nat):zbm (n+1)=zbl (zgc n):=rfl
theorem zgH (n:Nat):zbG (n+1)=zbH (ze7 n):=rfl
theorem zwp:∀ n,SdP 170 (zee (zgc n))/\SdP 225 (zf6 (ziS n))/\SdP 104 (zf6 (zhg n))/\SdP 166 (zeC (zf2 n))/\SdP 106 (zhj (zha n))/\SdP 172 (zeg (ze7 n))/\SdP 224 (zbP (zbQ n))/\SdP 165 (zbS (zbU n))/\SdP 169 (zbn (zbm n))/\SdP 171 (zbJ (zbG n))
 | 0=>⟨zbk call170 (λ_=>rfl),zbk call225 (λ_=>rfl),zbk call104 (λ_=>rfl),zbk call166 (λ_=>rfl),zbk call106 (λ_=>rfl),zbk call172 (λ_=>rfl),zbk call224 (λ_=>rfl),zbk call165 (λ_=>rfl),zbk call169 (λ_=>rfl),zbk call171 (λ_=>rfl)⟩
 | n+1=>by
  have ih:=zwp n;exact ⟨zHL _ _ (ih.2.2.2.2.2.2.1) (ih.2.1),zEq _ (ih.2.2.1),zCN _ _ (ih.2.2.2.2.2.2.2.1) (ih.2.2.2.1),zAZ _ (ih.2.2.2.2.1),zCz _ _ _ _ (ih.2.2.2.2.2.2.2.2.1) (ih.1) (ih.2.2.2.2.2.2.2.2.2) (ih.2.2.2.2.2.1),zCU _ (ih.1),zhl _ (ih.2.1),zhO _ (ih.2.2.2.1),ze1 _ (ih.1),zgi _ (ih.2.2.2.2.2.1)⟩
def zyA:yB->yB->Bool×Int:=zgc 1000
def zzQ:Ab.Spec ty:=zee zyA
theorem zK1:SdP 170 zzQ:=(zwp 1000).1
def zbW:Term->Term->Bool×Int:=zhg 1000
def zit:Ab.Spec ty:=zf6 zbW
theorem zlI:SdP 104 zit:=(zwp 1000).2.2.1
def ziU:At->At->Bool×Int:=zha 1000
def zmn:Ab.Spec ty:=zhj ziU
theorem ztS:SdP 106 zmn:=(zwp 1000).2.2.2.2.1
def z6:Wd->Wd->Bool×Int:=ze7 1000
def zfy:Ab.Spec ty:=zeg z6
theorem zhG:SdP 172 zfy:=(zwp 1000).2.2.2.2.2.1
def zUr:=zbv base 9 [(170,zzQ)]
def zGQ (a:yB) (b:yB):Wy0 (Bool):=.bn (zyA a b) λr0=>.k (r0==0)
def zhU (a:yB) (b:yB):=(zGQ a b).fin default
def znL:=zh zRo λx=>((zhU x.1 x.2.1).1,zUI (zhU x.1 x.2.1).2)
theorem ztt:SdP 115 znL:=
 sT (cx':=zUr) (zi ⟨zK1,trivial⟩) call115 func115 (lOK aN)
end Go.Proofs.YtoknknbmfmddbaaGreatDoor
end
