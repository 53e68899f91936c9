/- Texts of this claim, joined (the program, its functions in plain words, and what they compute). -/
import Derived.KernelRfl
import Derived.Test.YtoknknbmfmddbaaGreatDoorChecked
import Derived.Test.YtoknknbmfmddbaaGreatDoorProg
import Derived.Test.YtoknknbmfmddbaaGreatDoorGB1
set_option autoImplicit false
set_option linter.unusedVariables false
set_option linter.unusedSectionVars false
set_option linter.unusedSimpArgs false
set_option maxRecDepth 1000000
set_option maxHeartbeats 0
/- The types of the program, as plain data. -/
noncomputable section
namespace Go.Proofs.YtoknknbmfmddbaaGreatDoor
open Go Go.Ab
open Go.Proofs Go.Shelf
open Go.Proofs.Tryz
structure Column where
 Name:ByteArray
 Type_:Int
 deriving DecidableEq,Inhabited
structure Value where
 Kind:Int
 Int:Int
 Text:ByteArray
 deriving DecidableEq,Inhabited
structure RowID where
 Table:Int
 Seq:Int
 deriving DecidableEq,Inhabited
structure FO (A:Type) where
 At:A
 Exp:Int
structure TO (A:Type) where
 Cf:Int
 Fs:List (FO A)
structure WO (A:Type) where
 Value:Value
 Ann:List (TO A)
structure At where
 Kind:Int
 Row:RowID
 Ag:List (List (TO At))
 Func:Int
 Items:List (WO At)
 Op:Int
 Bd:Value
abbrev Fc:=FO At
abbrev Term:=TO At
abbrev Wd:=WO At
instance:Inhabited At:=⟨⟨0,default,[],0,[],0,default⟩⟩
instance:Inhabited Fc:=⟨⟨default,0⟩⟩
instance:Inhabited Term:=⟨⟨0,[]⟩⟩
instance:Inhabited Wd:=⟨⟨default,[]⟩⟩
theorem At.eta (x:At):(⟨x.Kind,x.Row,x.Ag,x.Func,x.Items,x.Op,x.Bd⟩:At)=x:=by cases x; rfl
mutual
def z6I:(x y:At)->Decidable (x=y)
 | ⟨k,r,a,f,i,o,b⟩,⟨k',r',a',f',i',o',b'⟩=>
  match decEq k k',decEq r r',z6O a a',decEq f f',z3V i i',decEq o o',decEq b b' with
  | .isTrue h1,.isTrue h2,.isTrue h3,.isTrue h4,.isTrue h5,.isTrue h6,.isTrue h7=>.isTrue (by subst h1 h2 h3 h4 h5 h6 h7; rfl)
  | .isFalse h,_,_,_,_,_,_=>.isFalse (λe=>by cases e; exact h rfl)
  | _,.isFalse h,_,_,_,_,_=>.isFalse (λe=>by cases e; exact h rfl)
  | _,_,.isFalse h,_,_,_,_=>.isFalse (λe=>by cases e; exact h rfl)
  | _,_,_,.isFalse h,_,_,_=>.isFalse (λe=>by cases e; exact h rfl)
  | _,_,_,_,.isFalse h,_,_=>.isFalse (λe=>by cases e; exact h rfl)
  | _,_,_,_,_,.isFalse h,_=>.isFalse (λe=>by cases e; exact h rfl)
  | _,_,_,_,_,_,.isFalse h=>.isFalse (λe=>by cases e; exact h rfl)
def z2r:(x y:Fc)->Decidable (x=y)
 | ⟨a,e⟩,⟨a',e'⟩=>match z6I a a',decEq e e' with
  | .isTrue h1,.isTrue h2=>.isTrue (by subst h1 h2; rfl)
  | .isFalse h,_=>.isFalse (λe=>by cases e; exact h rfl)
  | _,.isFalse h=>.isFalse (λe=>by cases e; exact h rfl)
def zZm:(x y:List Fc)->Decidable (x=y)
 | [],[]=>.isTrue rfl
 | [],_::_=>.isFalse (by simp)
 | _::_,[]=>.isFalse (by simp)
 | x::r,y::s=>match z2r x y,zZm r s with
  | .isTrue h1,.isTrue h2=>.isTrue (by subst h1 h2; rfl)
  | .isFalse h,_=>.isFalse (λe=>by cases e; exact h rfl)
  | _,.isFalse h=>.isFalse (λe=>by cases e; exact h rfl)
def z6z:(x y:Term)->Decidable (x=y)
 | ⟨a,e⟩,⟨a',e'⟩=>match decEq a a',zZm e e' with
  | .isTrue h1,.isTrue h2=>.isTrue (by subst h1 h2; rfl)
  | .isFalse h,_=>.isFalse (λe=>by cases e; exact h rfl)
  | _,.isFalse h=>.isFalse (λe=>by cases e; exact h rfl)
def z5f:(x y:List Term)->Decidable (x=y)
 | [],[]=>.isTrue rfl
 | [],_::_=>.isFalse (by simp)
 | _::_,[]=>.isFalse (by simp)
 | x::r,y::s=>match z6z x y,z5f r s with
  | .isTrue h1,.isTrue h2=>.isTrue (by subst h1 h2; rfl)
  | .isFalse h,_=>.isFalse (λe=>by cases e; exact h rfl)
  | _,.isFalse h=>.isFalse (λe=>by cases e; exact h rfl)
def z6O:(x y:List (List Term))->Decidable (x=y)
 | [],[]=>.isTrue rfl
 | [],_::_=>.isFalse (by simp)
 | _::_,[]=>.isFalse (by simp)
 | x::r,y::s=>match z5f x y,z6O r s with
  | .isTrue h1,.isTrue h2=>.isTrue (by subst h1 h2; rfl)
  | .isFalse h,_=>.isFalse (λe=>by cases e; exact h rfl)
  | _,.isFalse h=>.isFalse (λe=>by cases e; exact h rfl)
def z6M:(x y:Wd)->Decidable (x=y)
 | ⟨a,e⟩,⟨a',e'⟩=>match decEq a a',z5f e e' with
  | .isTrue h1,.isTrue h2=>.isTrue (by subst h1 h2; rfl)
  | .isFalse h,_=>.isFalse (λe=>by cases e; exact h rfl)
  | _,.isFalse h=>.isFalse (λe=>by cases e; exact h rfl)
def z3V:(x y:List Wd)->Decidable (x=y)
 | [],[]=>.isTrue rfl
 | [],_::_=>.isFalse (by simp)
 | _::_,[]=>.isFalse (by simp)
 | x::r,y::s=>match z6M x y,z3V r s with
  | .isTrue h1,.isTrue h2=>.isTrue (by subst h1 h2; rfl)
  | .isFalse h,_=>.isFalse (λe=>by cases e; exact h rfl)
  | _,.isFalse h=>.isFalse (λe=>by cases e; exact h rfl)
end
instance:DecidableEq At:=z6I
instance:DecidableEq Fc:=z2r
instance:DecidableEq Term:=z6z
instance:DecidableEq Wd:=z6M
structure Row where
 Values:List Value
 Ann:List Term
 deriving DecidableEq,Inhabited
structure Relation where
 Columns:List Column
 Rows:List Row
 deriving DecidableEq,Inhabited
structure Table where
 ID:Int
 Name:ByteArray
 Columns:List Column
 Rows:List Row
 deriving DecidableEq,Inhabited
structure Bg where
 Row:RowID
 To:List Term
 deriving DecidableEq,Inhabited
structure pair where
 c:Column
 v:Value
 deriving DecidableEq,Inhabited
abbrev yA:=List (List Term)
abbrev yB:=List Term
abbrev yC:=List Fc
abbrev yD:=List Wd
abbrev yE:=List Bg
abbrev yF:=List Row
abbrev yG:=List Value
abbrev yH:=List Column
def ty:Nat->Type
 | 2=>Int
 | 3=>Int
 | 4=>Bool
 | 5=>Int
 | 9=>ByteArray
 | 22=>yH
 | 23=>yF
 | 25=>Relation
 | 28=>List ByteArray
 | 32=>List (yG)
 | 34=>yG
 | 36=>Table
 | 39=>Int
 | 50=>yB
 | 51=>yB
 | 54=>Row
 | 60=>yE
 | 63=>RowID
 | 65=>Bg
 | 69=>List RowID
 | 73=>List Relation
 | 75=>Column
 | 79=>Value
 | 105=>yC
 | 107=>Term
 | 110=>yA
 | 120=>List Int
 | 135=>List pair
 | 137=>pair
 | 141=>yD
 | 143=>At
 | 145=>Fc
 | 155=>List (yF)
 | 169=>Wd
 | 207=>Unit
 | 218=>Int
 | 223=>Int
 | 234=>List Int
 | 282=>List (yC)
 | _=>Unit
instance:(T:Nat)->Inhabited (ty T):=λT=>by
 unfold ty;split <;>infer_instance
def zbb5:DT ty Column:=zyO (λx=>⟨x.1,x.2⟩) (λx=>(x.Name,x.Type_)) (λ_=>rfl) (ziV (z3E) (zq0 .i64))
def z6S:DT ty Value:=zyO (λx=>⟨x.1,x.2.1,x.2.2⟩) (λx=>(x.Kind,x.Int,x.Text)) (λ_=>rfl) (ziV (zq0 .i64) (ziV (zq0 .i64) (z3E)))
def zbao:DT ty RowID:=zyO (λx=>⟨x.1,x.2⟩) (λx=>(x.Table,x.Seq)) (λ_=>rfl) (ziV (zq0 .i64) (zq0 .i64))
def zbaK:DT ty At:=zyO (λx=>⟨x.1,x.2.1,x.2.2.1,x.2.2.2.1,x.2.2.2.2.1,x.2.2.2.2.2.1,x.2.2.2.2.2.2⟩) (λx=>(x.Kind,x.Row,x.Ag,x.Func,x.Items,x.Op,x.Bd)) (λ_=>rfl) (ziV (zq0 .i64) (ziV (zbao) (ziV (zjw 51) (ziV (zq0 .i64) (ziV (zjw 169) (ziV (zq0 .i64) (z6S)))))))
def zbdz:DT ty Fc:=zyO (λx=>⟨x.1,x.2⟩) (λx=>(x.At,x.Exp)) (λ_=>rfl) (ziV (zbaK) (zq0 .i64))
def zbdj:DT ty Term:=zyO (λx=>⟨x.1,x.2⟩) (λx=>(x.Cf,x.Fs)) (λ_=>rfl) (ziV (zq0 .i64) (zjw 145))
def zbdR:DT ty Wd:=zyO (λx=>⟨x.1,x.2⟩) (λx=>(x.Value,x.Ann)) (λ_=>rfl) (ziV (z6S) (zjw 107))
def zbd4:DT ty Row:=zyO (λx=>⟨x.1,x.2⟩) (λx=>(x.Values,x.Ann)) (λ_=>rfl) (ziV (zjw 79) (zjw 107))
def zbdY:DT ty Relation:=zyO (λx=>⟨x.1,x.2⟩) (λx=>(x.Columns,x.Rows)) (λ_=>rfl) (ziV (zjw 75) (zjw 54))
def zbd1:DT ty Table:=zyO (λx=>⟨x.1,x.2.1,x.2.2.1,x.2.2.2⟩) (λx=>(x.ID,x.Name,x.Columns,x.Rows)) (λ_=>rfl) (ziV (zq0 .i64) (ziV (z3E) (ziV (zjw 75) (zjw 54))))
def zbd9:DT ty Bg:=zyO (λx=>⟨x.1,x.2⟩) (λx=>(x.Row,x.To)) (λ_=>rfl) (ziV (zbao) (zjw 107))
def zbdI:DT ty pair:=zyO (λx=>⟨x.1,x.2⟩) (λx=>(x.c,x.v)) (λ_=>rfl) (ziV (zbb5) (z6S))
def z0f:List ((T:Nat)×DT ty (ty T)):=[⟨2,(zq0 .i64:DT ty Int)⟩,⟨3,(zq0 .i64:DT ty Int)⟩,⟨4,(zbcO:DT ty Bool)⟩,⟨5,(zq0 .u8:DT ty Int)⟩,⟨9,(z3E:DT ty ByteArray)⟩,⟨22,(zjw 75:DT ty (yH))⟩,⟨23,(zjw 54:DT ty (yF))⟩,⟨25,(zbdY:DT ty Relation)⟩,⟨28,(zjw 9:DT ty (List ByteArray))⟩,⟨32,(zjw 34:DT ty (List (yG)))⟩,⟨34,(zjw 79:DT ty (yG))⟩,⟨36,(zbd1:DT ty Table)⟩,⟨39,(zq0 .i64:DT ty Int)⟩,⟨50,(zjw 107:DT ty (yB))⟩,⟨51,(zjw 107:DT ty (yB))⟩,⟨54,(zbd4:DT ty Row)⟩,⟨60,(zjw 65:DT ty (yE))⟩,⟨63,(zbao:DT ty RowID)⟩,⟨65,(zbd9:DT ty Bg)⟩,⟨69,(zjw 63:DT ty (List RowID))⟩,⟨73,(zjw 25:DT ty (List Relation))⟩,⟨75,(zbb5:DT ty Column)⟩,⟨79,(z6S:DT ty Value)⟩,⟨105,(zjw 145:DT ty (yC))⟩,⟨107,(zbdj:DT ty Term)⟩,⟨110,(zjw 51:DT ty (yA))⟩,⟨120,(zjw 5:DT ty (List Int))⟩,⟨135,(zjw 137:DT ty (List pair))⟩,⟨137,(zbdI:DT ty pair)⟩,⟨141,(zjw 169:DT ty (yD))⟩,⟨143,(zbaK:DT ty At)⟩,⟨145,(zbdz:DT ty Fc)⟩,⟨155,(zjw 23:DT ty (List (yF)))⟩,⟨169,(zbdR:DT ty Wd)⟩,⟨207,(zbd8:DT ty Unit)⟩,⟨218,(zq0 .u64:DT ty Int)⟩,⟨223,(zq0 .u64:DT ty Int)⟩,⟨234,(zjw 3:DT ty (List Int))⟩,⟨282,(zjw 105:DT ty (List (yC)))⟩]
def z3L:List (Nat×TInfo):=[(2,⟨.int .i64,1,8,[.int .i64 (0)]⟩),
 (3,⟨.int .i64,1,8,[.int .i64 (0)]⟩),
 (4,⟨.bool,1,1,[.bool false]⟩),
 (5,⟨.int .u8,1,1,[.int .u8 (0)]⟩),
 (9,⟨.str,1,16,[.string ⟨#[]⟩]⟩),
 (22,⟨.slice 75,1,24,[.slice none 0 0]⟩),
 (23,⟨.slice 54,1,24,[.slice none 0 0]⟩),
 (25,⟨.struct [(0,22),(1,23)],2,48,[.slice none 0 0,.slice none 0 0]⟩),
 (28,⟨.slice 9,1,24,[.slice none 0 0]⟩),
 (32,⟨.slice 34,1,24,[.slice none 0 0]⟩),
 (34,⟨.slice 79,1,24,[.slice none 0 0]⟩),
 (36,⟨.struct [(0,3),(1,9),(2,22),(3,23)],4,72,[.int .i64 (0),.string ⟨#[]⟩,.slice none 0 0,.slice none 0 0]⟩),
 (39,⟨.int .i64,1,8,[.int .i64 (0)]⟩),
 (50,⟨.slice 107,1,24,[.slice none 0 0]⟩),
 (51,⟨.slice 107,1,24,[.slice none 0 0]⟩),
 (54,⟨.struct [(0,34),(1,51)],2,48,[.slice none 0 0,.slice none 0 0]⟩),
 (60,⟨.slice 65,1,24,[.slice none 0 0]⟩),
 (63,⟨.struct [(0,3),(1,3)],2,16,[.int .i64 (0),.int .i64 (0)]⟩),
 (65,⟨.struct [(0,63),(2,51)],3,40,[.int .i64 (0),.int .i64 (0),.slice none 0 0]⟩),
 (69,⟨.slice 63,1,24,[.slice none 0 0]⟩),
 (73,⟨.slice 25,1,24,[.slice none 0 0]⟩),
 (75,⟨.struct [(0,9),(1,3)],2,24,[.string ⟨#[]⟩,.int .i64 (0)]⟩),
 (79,⟨.struct [(0,3),(1,2),(2,9)],3,32,[.int .i64 (0),.int .i64 (0),.string ⟨#[]⟩]⟩),
 (105,⟨.slice 145,1,24,[.slice none 0 0]⟩),
 (107,⟨.struct [(0,2),(1,105)],2,32,[.int .i64 (0),.slice none 0 0]⟩),
 (110,⟨.slice 51,1,24,[.slice none 0 0]⟩),
 (120,⟨.slice 5,1,24,[.slice none 0 0]⟩),
 (135,⟨.slice 137,1,24,[.slice none 0 0]⟩),
 (137,⟨.struct [(0,75),(2,79)],5,56,[.string ⟨#[]⟩,.int .i64 (0),.int .i64 (0),.int .i64 (0),.string ⟨#[]⟩]⟩),
 (141,⟨.slice 169,1,24,[.slice none 0 0]⟩),
 (143,⟨.struct [(0,3),(1,63),(3,110),(4,3),(5,141),(6,3),(7,79)],10,120,[.int .i64 (0),.int .i64 (0),.int .i64 (0),.slice none 0 0,.int .i64 (0),.slice none 0 0,.int .i64 (0),.int .i64 (0),.int .i64 (0),.string ⟨#[]⟩]⟩),
 (145,⟨.struct [(0,143),(10,3)],11,128,[.int .i64 (0),.int .i64 (0),.int .i64 (0),.slice none 0 0,.int .i64 (0),.slice none 0 0,.int .i64 (0),.int .i64 (0),.int .i64 (0),.string ⟨#[]⟩,.int .i64 (0)]⟩),
 (155,⟨.slice 23,1,24,[.slice none 0 0]⟩),
 (169,⟨.struct [(0,79),(3,51)],4,56,[.int .i64 (0),.int .i64 (0),.string ⟨#[]⟩,.slice none 0 0]⟩),
 (207,⟨.map 9 3,1,8,[.map none]⟩),
 (218,⟨.int .u64,1,8,[.int .u64 (0)]⟩),
 (223,⟨.int .u64,1,8,[.int .u64 (0)]⟩),
 (234,⟨.slice 3,1,24,[.slice none 0 0]⟩),
 (282,⟨.slice 105,1,24,[.slice none 0 0]⟩)]
def zRU:List (Nat×List TD):=[(75,[.str,.int .i64]),(79,[.int .i64,.int .i64,.str]),(63,[.int .i64,.int .i64])]
def inv (w:World):Prop:=Lib.TabIs Tryz.prog w "internal/strconv.uint64pow10" .u64 Lib.pow10Tab/\(∃ m,w.cell? ⟨0,0,none⟩=some (.int .i64 m))
theorem z9m {n:String} {g:Nat} {w w':World} (hg:Tryz.prog.globalNamed n=some g) (h:w'.heap[g]? =w.heap[g]?):w'.var? Tryz.prog n=w.var? Tryz.prog n:=by
 unfold World.var?; rw [hg]; simp only [Option.bind_some,h]
theorem z7t (w w':World) (hi:inv w) (hb:∀ b,b<4->w'.heap[b]? =w.heap[b]?):inv w':=by
 obtain ⟨h1,⟨m,h2⟩⟩:=hi;refine ⟨(z9m (g:=1) (by kernel_rfl) (hb 1 (by omega))).trans h1,⟨m, ?_⟩⟩
 rw [<- h2]; exact World.cell?_of_block (a:=⟨0,0,none⟩) (hb 0 (by omega))
def base:Cx ty:={ ti:=λT=>z3L.lookup T,dflt:=λ_=>default,enc:=λT=>(z4m z0f T).enc,dec:=λT=>(z4m z0f T).dec,spec:=λ_=>none,io:=λ_=>[],eqs:=λT us vs=>match zRU.lookup T with | some ts=>zbd ts us vs | none=>none,nt:=0,head:=λ_=>[],out:=λ_ _=>[],loops:=λ_=>none,ng:=4,inv:=inv }
theorem z7n:Tryz.prog.info? 2=some Tryz.t2:=by kernel_rfl
theorem zDx:Tryz.prog.info? 3=some Tryz.t3:=by kernel_rfl
theorem zbdH:Tryz.prog.info? 4=some Tryz.t4:=by kernel_rfl
theorem zbdm:Tryz.prog.info? 5=some Tryz.t5:=by kernel_rfl
theorem z3F:Tryz.prog.info? 9=some Tryz.t9:=by kernel_rfl
theorem z3X:Tryz.prog.info? 22=some Tryz.t22:=by kernel_rfl
theorem z4g:Tryz.prog.info? 23=some Tryz.t23:=by kernel_rfl
theorem zbc5:Tryz.prog.info? 25=some Tryz.t25:=by kernel_rfl
theorem zbcM:Tryz.prog.info? 28=some Tryz.t28:=by kernel_rfl
theorem zbcV:Tryz.prog.info? 32=some Tryz.t32:=by kernel_rfl
theorem z9e:Tryz.prog.info? 34=some Tryz.t34:=by kernel_rfl
theorem zbcy:Tryz.prog.info? 36=some Tryz.t36:=by kernel_rfl
theorem zbcv:Tryz.prog.info? 39=some Tryz.t39:=by kernel_rfl
theorem zbcx:Tryz.prog.info? 50=some Tryz.t50:=by kernel_rfl
theorem zYN:Tryz.prog.info? 51=some Tryz.t51:=by kernel_rfl
theorem zbcQ:Tryz.prog.info? 54=some Tryz.t54:=by kernel_rfl
theorem zbc0:Tryz.prog.info? 60=some Tryz.t60:=by kernel_rfl
theorem z42:Tryz.prog.info? 63=some Tryz.t63:=by kernel_rfl
theorem zbcE:Tryz.prog.info? 65=some Tryz.t65:=by kernel_rfl
theorem zbcH:Tryz.prog.info? 69=some Tryz.t69:=by kernel_rfl
theorem zbcP:Tryz.prog.info? 73=some Tryz.t73:=by kernel_rfl
theorem z8p:Tryz.prog.info? 75=some Tryz.t75:=by kernel_rfl
theorem zZV:Tryz.prog.info? 79=some Tryz.t79:=by kernel_rfl
theorem z6f:Tryz.prog.info? 105=some Tryz.t105:=by kernel_rfl
theorem zbbS:Tryz.prog.info? 107=some Tryz.t107:=by kernel_rfl
theorem z6d:Tryz.prog.info? 110=some Tryz.t110:=by kernel_rfl
theorem zbbe:Tryz.prog.info? 120=some Tryz.t120:=by kernel_rfl
theorem zbby:Tryz.prog.info? 135=some Tryz.t135:=by kernel_rfl
theorem zbaZ:Tryz.prog.info? 137=some Tryz.t137:=by kernel_rfl
theorem z59:Tryz.prog.info? 141=some Tryz.t141:=by kernel_rfl
theorem z6i:Tryz.prog.info? 143=some Tryz.t143:=by kernel_rfl
theorem zbbK:Tryz.prog.info? 145=some Tryz.t145:=by kernel_rfl
theorem zbbL:Tryz.prog.info? 155=some Tryz.t155:=by kernel_rfl
theorem zbbA:Tryz.prog.info? 169=some Tryz.t169:=by kernel_rfl
theorem zbbP:Tryz.prog.info? 207=some Tryz.t207:=by kernel_rfl
theorem zbbn:Tryz.prog.info? 218=some Tryz.t218:=by kernel_rfl
theorem zba8:Tryz.prog.info? 223=some Tryz.t223:=by kernel_rfl
theorem zbbW:Tryz.prog.info? 234=some Tryz.t234:=by kernel_rfl
theorem zbbp:Tryz.prog.info? 282=some Tryz.t282:=by kernel_rfl
theorem zbbC:∀ T i,z3L.lookup T=some i->InfoOK Tryz.prog T i:=by
 intro T i h;have h:=zFz _ _ _ h;simp only [z3L,qd,List.not_mem_nil,or_false,qb] at h;rcases h with ⟨rfl,rfl⟩ | ⟨rfl,rfl⟩ | ⟨rfl,rfl⟩ | ⟨rfl,rfl⟩ | ⟨rfl,rfl⟩ | ⟨rfl,rfl⟩ | ⟨rfl,rfl⟩ | ⟨rfl,rfl⟩ | ⟨rfl,rfl⟩ | ⟨rfl,rfl⟩ | ⟨rfl,rfl⟩ | ⟨rfl,rfl⟩ | ⟨rfl,rfl⟩ | ⟨rfl,rfl⟩ | ⟨rfl,rfl⟩ | ⟨rfl,rfl⟩ | ⟨rfl,rfl⟩ | ⟨rfl,rfl⟩ | ⟨rfl,rfl⟩ | ⟨rfl,rfl⟩ | ⟨rfl,rfl⟩ | ⟨rfl,rfl⟩ | ⟨rfl,rfl⟩ | ⟨rfl,rfl⟩ | ⟨rfl,rfl⟩ | ⟨rfl,rfl⟩ | ⟨rfl,rfl⟩ | ⟨rfl,rfl⟩ | ⟨rfl,rfl⟩ | ⟨rfl,rfl⟩ | ⟨rfl,rfl⟩ | ⟨rfl,rfl⟩ | ⟨rfl,rfl⟩ | ⟨rfl,rfl⟩ | ⟨rfl,rfl⟩ | ⟨rfl,rfl⟩ | ⟨rfl,rfl⟩ | ⟨rfl,rfl⟩ | ⟨rfl,rfl⟩
 ·exact ⟨Tryz.t2,_,_,z7n,underlying2,rfl,rfl,rfl,rfl,rfl,⟨by simp [zbA],λ_=>rfl⟩,rfl⟩
 ·exact ⟨Tryz.t3,_,_,zDx,underlying3,rfl,rfl,rfl,rfl,rfl,⟨by simp [zbA],λ_=>rfl⟩,rfl⟩
 ·exact ⟨Tryz.t4,_,_,zbdH,underlying4,rfl,rfl,rfl,rfl,rfl,⟨by simp [zbA],λ_=>rfl⟩,rfl⟩
 ·exact ⟨Tryz.t5,_,_,zbdm,underlying5,rfl,rfl,rfl,rfl,rfl,⟨by simp [zbA],λ_=>rfl⟩,rfl⟩
 ·exact ⟨Tryz.t9,_,_,z3F,underlying9,rfl,rfl,rfl,rfl,rfl,⟨by simp [zbA],λ_=>rfl⟩,rfl⟩
 ·exact ⟨Tryz.t22,_,_,z3X,underlying22,rfl,rfl,rfl,rfl,rfl,⟨by simp [zbA],λ_=>rfl⟩,rfl⟩
 ·exact ⟨Tryz.t23,_,_,z4g,underlying23,rfl,rfl,rfl,rfl,rfl,⟨by simp [zbA],λ_=>rfl⟩,rfl⟩
 ·exact ⟨Tryz.t25,_,_,zbc5,underlying25,rfl,rfl,rfl,rfl,rfl,⟨by simp [zbA],λh=>by cases h⟩,⟨_,rfl,rfl,λf hf=>by
   simp only [qd,List.not_mem_nil,or_false] at hf;rcases hf with rfl | rfl
   ·exact Option.isSome_iff_exists.2 ⟨_,z3X⟩
   ·exact Option.isSome_iff_exists.2 ⟨_,z4g⟩⟩⟩
 ·exact ⟨Tryz.t28,_,_,zbcM,underlying28,rfl,rfl,rfl,rfl,rfl,⟨by simp [zbA],λ_=>rfl⟩,rfl⟩
 ·exact ⟨Tryz.t32,_,_,zbcV,underlying32,rfl,rfl,rfl,rfl,rfl,⟨by simp [zbA],λ_=>rfl⟩,rfl⟩
 ·exact ⟨Tryz.t34,_,_,z9e,underlying34,rfl,rfl,rfl,rfl,rfl,⟨by simp [zbA],λ_=>rfl⟩,rfl⟩
 ·exact ⟨Tryz.t36,_,_,zbcy,underlying36,rfl,rfl,rfl,rfl,rfl,⟨by simp [zbA],λh=>by cases h⟩,⟨_,rfl,rfl,λf hf=>by
   simp only [qd,List.not_mem_nil,or_false] at hf;rcases hf with rfl | rfl | rfl | rfl
   ·exact Option.isSome_iff_exists.2 ⟨_,zDx⟩
   ·exact Option.isSome_iff_exists.2 ⟨_,z3F⟩
   ·exact Option.isSome_iff_exists.2 ⟨_,z3X⟩
   ·exact Option.isSome_iff_exists.2 ⟨_,z4g⟩⟩⟩
 ·exact ⟨Tryz.t39,_,_,zbcv,underlying39,rfl,rfl,rfl,rfl,rfl,⟨by simp [zbA],λ_=>rfl⟩,rfl⟩
 ·exact ⟨Tryz.t50,_,_,zbcx,underlying50,rfl,rfl,rfl,rfl,rfl,⟨by simp [zbA],λ_=>rfl⟩,rfl⟩
 ·exact ⟨Tryz.t51,_,_,zYN,underlying51,rfl,rfl,rfl,rfl,rfl,⟨by simp [zbA],λ_=>rfl⟩,rfl⟩
 ·exact ⟨Tryz.t54,_,_,zbcQ,underlying54,rfl,rfl,rfl,rfl,rfl,⟨by simp [zbA],λh=>by cases h⟩,⟨_,rfl,rfl,λf hf=>by
   simp only [qd,List.not_mem_nil,or_false] at hf;rcases hf with rfl | rfl
   ·exact Option.isSome_iff_exists.2 ⟨_,z9e⟩
   ·exact Option.isSome_iff_exists.2 ⟨_,zYN⟩⟩⟩
 ·exact ⟨Tryz.t60,_,_,zbc0,underlying60,rfl,rfl,rfl,rfl,rfl,⟨by simp [zbA],λ_=>rfl⟩,rfl⟩
 ·exact ⟨Tryz.t63,_,_,z42,underlying63,rfl,rfl,rfl,rfl,rfl,⟨by simp [zbA],λh=>by cases h⟩,⟨_,rfl,rfl,λf hf=>by
   simp only [qd,List.not_mem_nil,or_false] at hf;rcases hf with rfl | rfl
   ·exact Option.isSome_iff_exists.2 ⟨_,zDx⟩
   ·exact Option.isSome_iff_exists.2 ⟨_,zDx⟩⟩⟩
 ·exact ⟨Tryz.t65,_,_,zbcE,underlying65,rfl,rfl,rfl,rfl,rfl,⟨by simp [zbA],λh=>by cases h⟩,⟨_,rfl,rfl,λf hf=>by
   simp only [qd,List.not_mem_nil,or_false] at hf;rcases hf with rfl | rfl
   ·exact Option.isSome_iff_exists.2 ⟨_,z42⟩
   ·exact Option.isSome_iff_exists.2 ⟨_,zYN⟩⟩⟩
 ·exact ⟨Tryz.t69,_,_,zbcH,underlying69,rfl,rfl,rfl,rfl,rfl,⟨by simp [zbA],λ_=>rfl⟩,rfl⟩
 ·exact ⟨Tryz.t73,_,_,zbcP,underlying73,rfl,rfl,rfl,rfl,rfl,⟨by simp [zbA],λ_=>rfl⟩,rfl⟩
 ·exact ⟨Tryz.t75,_,_,z8p,underlying75,rfl,rfl,rfl,rfl,rfl,⟨by simp [zbA],λh=>by cases h⟩,⟨_,rfl,rfl,λf hf=>by
   simp only [qd,List.not_mem_nil,or_false] at hf;rcases hf with rfl | rfl
   ·exact Option.isSome_iff_exists.2 ⟨_,z3F⟩
   ·exact Option.isSome_iff_exists.2 ⟨_,zDx⟩⟩⟩
 ·exact ⟨Tryz.t79,_,_,zZV,underlying79,rfl,rfl,rfl,rfl,rfl,⟨by simp [zbA],λh=>by cases h⟩,⟨_,rfl,rfl,λf hf=>by
   simp only [qd,List.not_mem_nil,or_false] at hf;rcases hf with rfl | rfl | rfl
   ·exact Option.isSome_iff_exists.2 ⟨_,zDx⟩
   ·exact Option.isSome_iff_exists.2 ⟨_,z7n⟩
   ·exact Option.isSome_iff_exists.2 ⟨_,z3F⟩⟩⟩
 ·exact ⟨Tryz.t105,_,_,z6f,underlying105,rfl,rfl,rfl,rfl,rfl,⟨by simp [zbA],λ_=>rfl⟩,rfl⟩
 ·exact ⟨Tryz.t107,_,_,zbbS,underlying107,rfl,rfl,rfl,rfl,rfl,⟨by simp [zbA],λh=>by cases h⟩,⟨_,rfl,rfl,λf hf=>by
   simp only [qd,List.not_mem_nil,or_false] at hf;rcases hf with rfl | rfl
   ·exact Option.isSome_iff_exists.2 ⟨_,z7n⟩
   ·exact Option.isSome_iff_exists.2 ⟨_,z6f⟩⟩⟩
 ·exact ⟨Tryz.t110,_,_,z6d,underlying110,rfl,rfl,rfl,rfl,rfl,⟨by simp [zbA],λ_=>rfl⟩,rfl⟩
 ·exact ⟨Tryz.t120,_,_,zbbe,underlying120,rfl,rfl,rfl,rfl,rfl,⟨by simp [zbA],λ_=>rfl⟩,rfl⟩
 ·exact ⟨Tryz.t135,_,_,zbby,underlying135,rfl,rfl,rfl,rfl,rfl,⟨by simp [zbA],λ_=>rfl⟩,rfl⟩
 ·exact ⟨Tryz.t137,_,_,zbaZ,underlying137,rfl,rfl,rfl,rfl,rfl,⟨by simp [zbA],λh=>by cases h⟩,⟨_,rfl,rfl,λf hf=>by
   simp only [qd,List.not_mem_nil,or_false] at hf;rcases hf with rfl | rfl
   ·exact Option.isSome_iff_exists.2 ⟨_,z8p⟩
   ·exact Option.isSome_iff_exists.2 ⟨_,zZV⟩⟩⟩
 ·exact ⟨Tryz.t141,_,_,z59,underlying141,rfl,rfl,rfl,rfl,rfl,⟨by simp [zbA],λ_=>rfl⟩,rfl⟩
 ·exact ⟨Tryz.t143,_,_,z6i,underlying143,rfl,rfl,rfl,rfl,rfl,⟨by simp [zbA],λh=>by cases h⟩,⟨_,rfl,rfl,λf hf=>by
   simp only [qd,List.not_mem_nil,or_false] at hf;rcases hf with rfl | rfl | rfl | rfl | rfl | rfl | rfl
   ·exact Option.isSome_iff_exists.2 ⟨_,zDx⟩
   ·exact Option.isSome_iff_exists.2 ⟨_,z42⟩
   ·exact Option.isSome_iff_exists.2 ⟨_,z6d⟩
   ·exact Option.isSome_iff_exists.2 ⟨_,zDx⟩
   ·exact Option.isSome_iff_exists.2 ⟨_,z59⟩
   ·exact Option.isSome_iff_exists.2 ⟨_,zDx⟩
   ·exact Option.isSome_iff_exists.2 ⟨_,zZV⟩⟩⟩
 ·exact ⟨Tryz.t145,_,_,zbbK,underlying145,rfl,rfl,rfl,rfl,rfl,⟨by simp [zbA],λh=>by cases h⟩,⟨_,rfl,rfl,λf hf=>by
   simp only [qd,List.not_mem_nil,or_false] at hf;rcases hf with rfl | rfl
   ·exact Option.isSome_iff_exists.2 ⟨_,z6i⟩
   ·exact Option.isSome_iff_exists.2 ⟨_,zDx⟩⟩⟩
 ·exact ⟨Tryz.t155,_,_,zbbL,underlying155,rfl,rfl,rfl,rfl,rfl,⟨by simp [zbA],λ_=>rfl⟩,rfl⟩
 ·exact ⟨Tryz.t169,_,_,zbbA,underlying169,rfl,rfl,rfl,rfl,rfl,⟨by simp [zbA],λh=>by cases h⟩,⟨_,rfl,rfl,λf hf=>by
   simp only [qd,List.not_mem_nil,or_false] at hf;rcases hf with rfl | rfl
   ·exact Option.isSome_iff_exists.2 ⟨_,zZV⟩
   ·exact Option.isSome_iff_exists.2 ⟨_,zYN⟩⟩⟩
 ·exact ⟨Tryz.t207,_,_,zbbP,underlying207,rfl,rfl,rfl,rfl,rfl,⟨by simp [zbA],λ_=>rfl⟩,rfl⟩
 ·exact ⟨Tryz.t218,_,_,zbbn,underlying218,rfl,rfl,rfl,rfl,rfl,⟨by simp [zbA],λ_=>rfl⟩,rfl⟩
 ·exact ⟨Tryz.t223,_,_,zba8,underlying223,rfl,rfl,rfl,rfl,rfl,⟨by simp [zbA],λ_=>rfl⟩,rfl⟩
 ·exact ⟨Tryz.t234,_,_,zbbW,underlying234,rfl,rfl,rfl,rfl,rfl,⟨by simp [zbA],λ_=>rfl⟩,rfl⟩
 ·exact ⟨Tryz.t282,_,_,zbbp,underlying282,rfl,rfl,rfl,rfl,rfl,⟨by simp [zbA],λ_=>rfl⟩,rfl⟩
theorem z9O:∀ T us vs b,(match zRU.lookup T with | some ts=>zbd ts us vs | none=>none)=some b->∀ w,z7g Tryz.prog T us vs b w:=by
 intro T us vs b h w;split at h
 ·rename_i ts hl;have hl:=zFz _ _ _ hl;simp only [zRU,qd,List.not_mem_nil,or_false,qb] at hl;rcases hl with ⟨rfl,rfl⟩ | ⟨rfl,rfl⟩ | ⟨rfl,rfl⟩
  ·refine zO5 _ _ underlying75 (by kernel_rfl) (by kernel_rfl) rfl ?_ h w
   intro j f t hj ht;rcases j with _ | j
   ·simp at hj ht; subst hj ht; exact ⟨rfl,by decide,_,underlying9,rfl⟩
   rcases j with _ | j
   ·simp at hj ht; subst hj ht; exact ⟨rfl,by decide,_,underlying3,rfl⟩
   simp at hj
  ·refine zO5 _ _ underlying79 (by kernel_rfl) (by kernel_rfl) rfl ?_ h w
   intro j f t hj ht;rcases j with _ | j
   ·simp at hj ht; subst hj ht; exact ⟨rfl,by decide,_,underlying3,rfl⟩
   rcases j with _ | j
   ·simp at hj ht; subst hj ht; exact ⟨rfl,by decide,_,underlying2,rfl⟩
   rcases j with _ | j
   ·simp at hj ht; subst hj ht; exact ⟨rfl,by decide,_,underlying9,rfl⟩
   simp at hj
  ·refine zO5 _ _ underlying63 (by kernel_rfl) (by kernel_rfl) rfl ?_ h w
   intro j f t hj ht;rcases j with _ | j
   ·simp at hj ht; subst hj ht; exact ⟨rfl,by decide,_,underlying3,rfl⟩
   rcases j with _ | j
   ·simp at hj ht; subst hj ht; exact ⟨rfl,by decide,_,underlying3,rfl⟩
   simp at hj
 ·cases h
theorem zbad:∀ T us vs,base.eqs T us us=some true->base.eqs T vs vs=some true->base.eqs T us vs=some (zt8 us vs)/\(zt8 us vs=true->us=vs)/\∀ u∈us,∀ n,Instr.sameBits n u u=true:=by
 intro T us vs h1 h2;simp only [base] at h1 h2 ⊢;cases hl:zRU.lookup T with
 | none=>rw [hl] at h1; cases h1
 | some ts=>rw [hl] at h1 h2; exact z0q ts us vs h1 h2
theorem z9K:∀ T us b,base.eqs T us us=some b->b=true:=by
 intro T us b h;simp only [base] at h;cases hl:zRU.lookup T with
 | none=>rw [hl] at h; cases h
 | some ts=>rw [hl] at h; exact zWd ts us b h
abbrev SdP:=Sound Tryz.prog base
theorem zet:CxOK Tryz.prog base:={ ti:=zbbC,len:=(λT x=>by rw [show zp base T=_ from (z5h z0f z3L rfl T).symm]; exact DT.len _ x),cell:=(λT x c h=>by have:=DT.cell _ _ c h; revert this; cases c <;>exact id),dec:=(λT cs x h F w us hr=>DT.ok _ base F w us cs x h hr),eqs:=z9O,eqk:=zbad,eqr:=z9K,stable:=z7t }
def zbD:Cx ty:={ base with dr:=false }
theorem zPX:CxOK Tryz.prog zbD:=CxOK.cg (cx:=base) (cx':=zbD) ⟨rfl,rfl,rfl,rfl,rfl,rfl⟩ zet
theorem zyG:Tryz.prog.follows .mixedOrders=true:=by kernel_rfl
theorem sT {cx':Cx ty} {α ρ:Type} (hspec:∀ g s,cx'.spec g=some s->SdP g s) {f:Nat} {fn:Func} (hent:∀ args w,(callFunc f args).run Tryz.prog w=.ok (.enter f args) w) (hf:Tryz.prog.funcs[f]? =some fn) (hl:zhA cx' (body fn)) (sg:Sig:=⟨[.pure],[]⟩) {A:AL base α} {res:ρ->ARes ty} {W:α->Wy0 ρ} {z:ρ}
  (hb:fn.body=some (body fn):=by kernel_rfl)
  (hrun:∀ x,zdT cx' fn (body fn) sg (A.enc x)=(W x).ev noH (λr=>some (res r)) none:=by intro _; kernel_rfl)
  (hchk:∀ x,(Nat.ble (A.enc x).length fn.ntmps&&zIF (body fn) (A.enc x) sg.upd)=true:=by intro _; kernel_rfl) (hsame:base.Same cx':=by exact z43):
  SdP f (zh A λx=>(((W x).fin z).1,res ((W x).fin z).2)):=sW zyG zet hsame hspec hent hf hl sg hb hrun hchk
theorem sU {cx':Cx ty} {α ρ:Type} (hspec:∀ g s,cx'.spec g=some s->Sound Tryz.prog zbD g s) {f:Nat} {fn:Func} (hent:∀ args w,(callFunc f args).run Tryz.prog w=.ok (.enter f args) w) (hf:Tryz.prog.funcs[f]? =some fn) (hl:zhA cx' (body fn)) (sg:Sig:=⟨[.pure],[]⟩) {A:AL zbD α} {res:ρ->ARes ty} {W:α->Wy0 ρ} {z:ρ}
  (hb:fn.body=some (body fn):=by kernel_rfl)
  (hrun:∀ x,zdT cx' fn (body fn) sg (A.enc x)=(W x).ev noH (λr=>some (res r)) none:=by intro _; kernel_rfl)
  (hchk:∀ x,(Nat.ble (A.enc x).length fn.ntmps&&zIF (body fn) (A.enc x) sg.upd)=true:=by intro _; kernel_rfl) (hsame:zbD.Same cx':=by exact z43):
  Sound Tryz.prog zbD f (zh A λx=>(((W x).fin z).1,res ((W x).fin z).2)):=sW zyG zPX hsame hspec hent hf hl sg hb hrun hchk
end Go.Proofs.YtoknknbmfmddbaaGreatDoor
/- What is read of an argument, as typed data. -/
namespace Go.Proofs.YtoknknbmfmddbaaGreatDoor
open Go Go.Ab
open Go.Proofs.Tryz
def wf2 (x:Int):Prop:=(Lit.int .i64 x).wf=true
def wf3 (x:Int):Prop:=(Lit.int .i64 x).wf=true
def wf4 (x:Bool):Prop:=True
def wf5 (x:Int):Prop:=(Lit.int .u8 x).wf=true
def wf9 (x:ByteArray):Prop:=ByteArray.size x<=z6
def zbcX (x:Column):Prop:=wf9 x.Name/\wf3 x.Type_
def zbcg (x:yH):Prop:=(∀ y∈x,zbcX y)/\List.length x<=z6
def zKW (x:Value):Prop:=wf3 x.Kind/\wf2 x.Int/\wf9 x.Text
def zban (x:yG):Prop:=(∀ y∈x,zKW y)/\List.length x<=z6
def z1S (x:RowID):Prop:=wf3 x.Table/\wf3 x.Seq
mutual
def zfP:At->Prop
 | ⟨k,r,a,f,i,o,b⟩=>wf3 k/\z1S r/\(zwx a/\a.length<=z6)/\wf3 f/\(zsj i/\i.length<=z6)/\wf3 o/\zKW b
def ztK:Fc->Prop
 | ⟨a,e⟩=>zfP a/\wf3 e
def zrc:yC->Prop
 | []=>True
 | x::r=>ztK x/\zrc r
def zyB:Term->Prop
 | ⟨c,f⟩=>wf2 c/\(zrc f/\f.length<=z6)
def zfd:yB->Prop
 | []=>True
 | x::r=>zyB x/\zfd r
def zwx:yA->Prop
 | []=>True
 | x::r=>(zfd x/\x.length<=z6)/\zwx r
def zEe:Wd->Prop
 | ⟨v,a⟩=>zKW v/\(zfd a/\a.length<=z6)
def zsj:yD->Prop
 | []=>True
 | x::r=>zEe x/\zsj r
end
theorem zIW:∀ l:yC,(∀ x∈l,ztK x)->zrc l
 | [],_=>by unfold zrc; trivial
 | x::r,h=>by unfold zrc; exact ⟨h x (by simp),zIW r λy hy=>h y (by simp [hy])⟩
theorem zCV:∀ l:yB,(∀ x∈l,zyB x)->zfd l
 | [],_=>by unfold zfd; trivial
 | x::r,h=>by unfold zfd; exact ⟨h x (by simp),zCV r λy hy=>h y (by simp [hy])⟩
theorem zTw:∀ l:yA,(∀ x∈l,zfd x/\x.length<=z6)->zwx l
 | [],_=>by unfold zwx; trivial
 | x::r,h=>by unfold zwx; exact ⟨h x (by simp),zTw r λy hy=>h y (by simp [hy])⟩
theorem zO8:∀ l:yD,(∀ x∈l,zEe x)->zsj l
 | [],_=>by unfold zsj; trivial
 | x::r,h=>by unfold zsj; exact ⟨h x (by simp),zO8 r λy hy=>h y (by simp [hy])⟩
def z34 (x:yB):Prop:=zfd x/\List.length x<=z6
def zbdv (x:yC):Prop:=zrc x/\List.length x<=z6
def zbdK (x:Term):Prop:=zyB x
def zbdx (x:yA):Prop:=zwx x/\List.length x<=z6
def zbdO (x:yD):Prop:=zsj x/\List.length x<=z6
def zbdk (x:At):Prop:=zfP x
def zbdC (x:Fc):Prop:=ztK x
def zbdq (x:Wd):Prop:=zEe x
def z9W (x:Row):Prop:=zban x.Values/\z34 x.Ann
def zbcA (x:yF):Prop:=(∀ y∈x,z9W y)/\List.length x<=z6
def z10 (x:Relation):Prop:=zbcg x.Columns/\zbcA x.Rows
def zbdW (x:List (yG)):Prop:=(∀ y∈x,zban y)/\List.length x<=z6
def zbcc (x:Bg):Prop:=z1S x.Row/\z34 x.To
def zbd6 (x:yE):Prop:=(∀ y∈x,zbcc y)/\List.length x<=z6
def wf (T:Nat):ty T->Prop:=match T with
 | 2=>wf2
 | 3=>wf3
 | 4=>wf4
 | 5=>wf5
 | 9=>wf9
 | 22=>zbcg
 | 23=>zbcA
 | 25=>z10
 | 32=>zbdW
 | 34=>zban
 | 51=>z34
 | 54=>z9W
 | 60=>zbd6
 | 63=>z1S
 | 65=>zbcc
 | 75=>zbcX
 | 79=>zKW
 | 105=>zbdv
 | 107=>zbdK
 | 110=>zbdx
 | 141=>zbdO
 | 143=>zbdk
 | 145=>zbdC
 | 169=>zbdq
 | _=>λ_=>True
theorem z8e:zk4 Tryz.prog base wf 2:=z2s underlying2 (λn=>n) (λ_=>rfl) (λ_ h=>h)
theorem zDQ:zk4 Tryz.prog base wf 3:=z2s underlying3 (λn=>n) (λ_=>rfl) (λ_ h=>h)
theorem z8l:zk4 Tryz.prog base wf 9:=z8E underlying9 (λn=>n) (λ_=>rfl) (λ_ h=>h)
theorem zbb0:zk4 Tryz.prog base wf 75:=by
 intro H en w sp held fuel cs y h hz;obtain ⟨xs,n,_,hy,hl,hlen,hf⟩:=DataW.trod_struct underlying75 h;have hs:=zhC underlying75 hy hz;obtain ⟨x0,h0,w0⟩:=ziy (off:=0) z8l (by kernel_rfl) hlen hf hs 0 _ rfl rfl rfl
 obtain ⟨x1,h1,w1⟩:=ziy (off:=1) zDQ (by kernel_rfl) hlen hf hs 1 _ rfl rfl rfl
 have hl:cs.length=2:=hl.trans (by kernel_rfl)
 have:=zfy h0 (ztA h1 hl);exact ⟨(⟨x0,x1⟩:Column),this,⟨w0,w1⟩⟩
theorem zbbm:zk4 Tryz.prog base wf 22:=zMa zet underlying22 (by kernel_rfl) (by decide) (λl=>l) (λ_=>rfl) (of_decide_eq_true (by kernel_rfl)) zbb0 (λ_ h h2=>⟨h,h2⟩)
theorem z05:zk4 Tryz.prog base wf 79:=by
 intro H en w sp held fuel cs y h hz;obtain ⟨xs,n,_,hy,hl,hlen,hf⟩:=DataW.trod_struct underlying79 h;have hs:=zhC underlying79 hy hz;obtain ⟨x0,h0,w0⟩:=ziy (off:=0) zDQ (by kernel_rfl) hlen hf hs 0 _ rfl rfl rfl
 obtain ⟨x1,h1,w1⟩:=ziy (off:=1) z8e (by kernel_rfl) hlen hf hs 1 _ rfl rfl rfl
 obtain ⟨x2,h2,w2⟩:=ziy (off:=2) z8l (by kernel_rfl) hlen hf hs 2 _ rfl rfl rfl
 have hl:cs.length=3:=hl.trans (by kernel_rfl)
 have:=zfy h0 (zfy h1 (ztA h2 hl));exact ⟨(⟨x0,x1,x2⟩:Value),this,⟨w0,w1,w2⟩⟩
theorem zbbb:zk4 Tryz.prog base wf 34:=zMa zet underlying34 (by kernel_rfl) (by decide) (λl=>l) (λ_=>rfl) (of_decide_eq_true (by kernel_rfl)) z05 (λ_ h h2=>⟨h,h2⟩)
theorem zbbg:zk4 Tryz.prog base wf 63:=by
 intro H en w sp held fuel cs y h hz;obtain ⟨xs,n,_,hy,hl,hlen,hf⟩:=DataW.trod_struct underlying63 h;have hs:=zhC underlying63 hy hz;obtain ⟨x0,h0,w0⟩:=ziy (off:=0) zDQ (by kernel_rfl) hlen hf hs 0 _ rfl rfl rfl
 obtain ⟨x1,h1,w1⟩:=ziy (off:=1) zDQ (by kernel_rfl) hlen hf hs 1 _ rfl rfl rfl
 have hl:cs.length=2:=hl.trans (by kernel_rfl)
 have:=zfy h0 (ztA h1 hl);exact ⟨(⟨x0,x1⟩:RowID),this,⟨w0,w1⟩⟩
theorem z3W:∀ m,zre Tryz.prog base wf m 51/\zre Tryz.prog base wf m 105/\zre Tryz.prog base wf m 107/\zre Tryz.prog base wf m 110/\zre Tryz.prog base wf m 141/\zre Tryz.prog base wf m 143/\zre Tryz.prog base wf m 145/\zre Tryz.prog base wf m 169
 | 0=>⟨zod,zod,zod,zod,zod,zod,zod,zod⟩
 | m+1=>by
  obtain ⟨h51,h105,h107,h110,h141,h143,h145,h169⟩:=z3W m;refine ⟨?_, ?_, ?_, ?_, ?_, ?_, ?_, ?_⟩
  ·exact zwN zet underlying51 (by kernel_rfl) (by decide) (λl=>l) (λ_=>rfl) (of_decide_eq_true (by kernel_rfl)) h107 (λl h h2=>⟨zCV l h,h2⟩)
  ·exact zwN zet underlying105 (by kernel_rfl) (by decide) (λl=>l) (λ_=>rfl) (of_decide_eq_true (by kernel_rfl)) h145 (λl h h2=>⟨zIW l h,h2⟩)
  ·intro H en w sp held fuel cs y hfu h hz;obtain ⟨xs,n,hn,hy,hl,hlen,hf⟩:=DataW.trod_struct underlying107 h;have hs:=zhC underlying107 hy hz;have hn:n<=m:=by omega
   obtain ⟨x0,hx0,w0⟩:=ze4 (off:=0) (z8e.at m) (by kernel_rfl) hn hlen hf hs 0 _ rfl rfl rfl
   obtain ⟨x1,hx1,w1⟩:=ze4 (off:=1) h105 (by kernel_rfl) hn hlen hf hs 1 _ rfl rfl rfl
   have hl:cs.length=2:=hl.trans (by kernel_rfl)
   have:=zfy hx0 (ztA hx1 hl);exact ⟨(⟨x0,x1⟩:Term),this,by show zyB (⟨x0,x1⟩:Term); unfold zyB; exact ⟨w0,w1⟩⟩
  ·exact zwN zet underlying110 (by kernel_rfl) (by decide) (λl=>l) (λ_=>rfl) (of_decide_eq_true (by kernel_rfl)) h51 (λl h h2=>⟨zTw l h,h2⟩)
  ·exact zwN zet underlying141 (by kernel_rfl) (by decide) (λl=>l) (λ_=>rfl) (of_decide_eq_true (by kernel_rfl)) h169 (λl h h2=>⟨zO8 l h,h2⟩)
  ·intro H en w sp held fuel cs y hfu h hz;obtain ⟨xs,n,hn,hy,hl,hlen,hf⟩:=DataW.trod_struct underlying143 h;have hs:=zhC underlying143 hy hz;have hn:n<=m:=by omega
   obtain ⟨x0,hx0,w0⟩:=ze4 (off:=0) (zDQ.at m) (by kernel_rfl) hn hlen hf hs 0 _ rfl rfl rfl
   obtain ⟨x1,hx1,w1⟩:=ze4 (off:=1) (zbbg.at m) (by kernel_rfl) hn hlen hf hs 1 _ rfl rfl rfl
   obtain ⟨x2,hx2,w2⟩:=ze4 (off:=3) h110 (by kernel_rfl) hn hlen hf hs 2 _ rfl rfl rfl
   obtain ⟨x3,hx3,w3⟩:=ze4 (off:=4) (zDQ.at m) (by kernel_rfl) hn hlen hf hs 3 _ rfl rfl rfl
   obtain ⟨x4,hx4,w4⟩:=ze4 (off:=5) h141 (by kernel_rfl) hn hlen hf hs 4 _ rfl rfl rfl
   obtain ⟨x5,hx5,w5⟩:=ze4 (off:=6) (zDQ.at m) (by kernel_rfl) hn hlen hf hs 5 _ rfl rfl rfl
   obtain ⟨x6,hx6,w6⟩:=ze4 (off:=7) (z05.at m) (by kernel_rfl) hn hlen hf hs 6 _ rfl rfl rfl
   have hl:cs.length=10:=hl.trans (by kernel_rfl)
   have:=zfy hx0 (zfy hx1 (zfy hx2 (zfy hx3 (zfy hx4 (zfy hx5 (ztA hx6 hl))))));exact ⟨(⟨x0,x1,x2,x3,x4,x5,x6⟩:At),this,by show zfP (⟨x0,x1,x2,x3,x4,x5,x6⟩:At); unfold zfP; exact ⟨w0,w1,w2,w3,w4,w5,w6⟩⟩
  ·intro H en w sp held fuel cs y hfu h hz;obtain ⟨xs,n,hn,hy,hl,hlen,hf⟩:=DataW.trod_struct underlying145 h;have hs:=zhC underlying145 hy hz;have hn:n<=m:=by omega
   obtain ⟨x0,hx0,w0⟩:=ze4 (off:=0) h143 (by kernel_rfl) hn hlen hf hs 0 _ rfl rfl rfl
   obtain ⟨x1,hx1,w1⟩:=ze4 (off:=10) (zDQ.at m) (by kernel_rfl) hn hlen hf hs 1 _ rfl rfl rfl
   have hl:cs.length=11:=hl.trans (by kernel_rfl)
   have:=zfy hx0 (ztA hx1 hl);exact ⟨(⟨x0,x1⟩:Fc),this,by show ztK (⟨x0,x1⟩:Fc); unfold ztK; exact ⟨w0,w1⟩⟩
  ·intro H en w sp held fuel cs y hfu h hz;obtain ⟨xs,n,hn,hy,hl,hlen,hf⟩:=DataW.trod_struct underlying169 h;have hs:=zhC underlying169 hy hz;have hn:n<=m:=by omega
   obtain ⟨x0,hx0,w0⟩:=ze4 (off:=0) (z05.at m) (by kernel_rfl) hn hlen hf hs 0 _ rfl rfl rfl
   obtain ⟨x1,hx1,w1⟩:=ze4 (off:=3) h51 (by kernel_rfl) hn hlen hf hs 1 _ rfl rfl rfl
   have hl:cs.length=4:=hl.trans (by kernel_rfl)
   have:=zfy hx0 (ztA hx1 hl);exact ⟨(⟨x0,x1⟩:Wd),this,by show zEe (⟨x0,x1⟩:Wd); unfold zEe; exact ⟨w0,w1⟩⟩
theorem zbaT:zk4 Tryz.prog base wf 51:=z8V λm=>(z3W m).1
theorem zbbc:zk4 Tryz.prog base wf 54:=by
 intro H en w sp held fuel cs y h hz;obtain ⟨xs,n,_,hy,hl,hlen,hf⟩:=DataW.trod_struct underlying54 h;have hs:=zhC underlying54 hy hz;obtain ⟨x0,h0,w0⟩:=ziy (off:=0) zbbb (by kernel_rfl) hlen hf hs 0 _ rfl rfl rfl
 obtain ⟨x1,h1,w1⟩:=ziy (off:=1) zbaT (by kernel_rfl) hlen hf hs 1 _ rfl rfl rfl
 have hl:cs.length=2:=hl.trans (by kernel_rfl)
 have:=zfy h0 (ztA h1 hl);exact ⟨(⟨x0,x1⟩:Row),this,⟨w0,w1⟩⟩
theorem zbaW:zk4 Tryz.prog base wf 23:=zMa zet underlying23 (by kernel_rfl) (by decide) (λl=>l) (λ_=>rfl) (of_decide_eq_true (by kernel_rfl)) zbbc (λ_ h h2=>⟨h,h2⟩)
theorem z6B:zk4 Tryz.prog base wf 25:=by
 intro H en w sp held fuel cs y h hz;obtain ⟨xs,n,_,hy,hl,hlen,hf⟩:=DataW.trod_struct underlying25 h;have hs:=zhC underlying25 hy hz;obtain ⟨x0,h0,w0⟩:=ziy (off:=0) zbbm (by kernel_rfl) hlen hf hs 0 _ rfl rfl rfl
 obtain ⟨x1,h1,w1⟩:=ziy (off:=1) zbaW (by kernel_rfl) hlen hf hs 1 _ rfl rfl rfl
 have hl:cs.length=2:=hl.trans (by kernel_rfl)
 have:=zfy h0 (ztA h1 hl);exact ⟨(⟨x0,x1⟩:Relation),this,⟨w0,w1⟩⟩
def z3B:=zbu base 8 []
def z4u (x_:At):Wy0 (yB):=.k [TO.mk 1 [FO.mk (At.mk x_.Kind x_.Row x_.Ag x_.Func x_.Items x_.Op x_.Bd) 1]]
def zP1 (x_:At):=(z4u x_).fin default
def z1m (r:yB):ARes ty:=⟨[.own 107 r],[]⟩
def z36:AL base (At×Unit):=zd (zg (zcb 143)) zq
def zKS:=zh z36 λx=>((zP1 x.1).1,z1m (zP1 x.1).2)
theorem zYj:SdP 118 zKS:=
 sT (cx':=z3B) (zi trivial) call118 func118 (lOK aN) (sg:=⟨[.own 107],[]⟩)
def z4T:=zbu base 14 [(118,zKS)]
def z5L (id:RowID):Wy0 (yB):=.i (decide (id.Table<1)) (.k []) (.i (decide (id.Seq<1)) (.k []) (.k ((zP1 (At.mk 0 id [] 0 [] 0 (Value.mk 0 0 (ByteArray.mk #[])))).2)))
def zUd (id:RowID):=(z5L id).fin default
def z5V:AL base (RowID×Unit):=zd (zg (zcb 63)) zq
def zNF:=zh z5V λx=>((zUd x.1).1,z1m (zUd x.1).2)
theorem zY3:SdP 64 zNF:=
 sT (cx':=z4T) (zi ⟨zYj,trivial⟩) call64 func64 (lOK aN) (sg:=⟨[.own 107],[]⟩)
def zTr:=zbu base 11 [(64,zNF)]
def zVV (v:Value) (seq:Int):Wy0 (Row):=.bn (zUd (RowID.mk 1 seq)) λr0=>.k (⟨[v],r0⟩:Row)
def zqy (v:Value) (seq:Int):=(zVV v seq).fin default
def zRb (r:Row):ARes ty:=⟨[.pure (.agg (base.enc 54 r))],[]⟩
def zUZ:AL base (Value×Int×Unit):=zd (zg (zcb 79)) (zd (zg zgm) zq)
def zBT:=zh zUZ λx=>((zqy x.1 x.2.1).1,zRb (zqy x.1 x.2.1).2)
theorem zNk:SdP 86 zBT:=
 sT (cx':=zTr) (zi ⟨zY3,trivial⟩) call86 func86 (lOK aN)
def zZJ:=zbu base 19 [(86,zBT)]
def z1H:Wy0 (Relation):=.k (⟨[Column.mk (ByteArray.mk #[(97:UInt8)]) 0],[(zqy (Value.mk 0 1 (ByteArray.mk #[])) 1).2,(zqy (Value.mk 0 0 (ByteArray.mk #[])) 2).2,(zqy (Value.mk 0 1 (ByteArray.mk #[])) 3).2]⟩:Relation)
def zR0:Bool×Relation:=(z1H).fin default
def zYv (r:Relation):ARes ty:=⟨[.pure (.agg (base.enc 25 r))],[]⟩
def z0Y:AL base (Unit):=zq
def zF3:=zh z0Y λx=>((zR0 ).1,zYv (zR0 ).2)
theorem zSL:SdP 42 zF3:=
 sT (cx':=zZJ) (zi ⟨zNk,trivial⟩) call42 func42 (lOK aN)
def zLH (r:Int):ARes ty:=⟨[.pure (.lit (.int .i64 r))],[]⟩
def zOr:AL base (yB×yB×Unit):=zd (zg (vSl 107)) (zd (zg (vSl 107)) zq)
def zdG (F:yB->yB->Bool×Int):Ab.Spec ty:=zh zOr λx=>((F x.1 x.2.1).1,zLH (F x.1 x.2.1).2)
def zJk:AL base (Term×Term×Unit):=zd (zg (zcb 107)) (zd (zg (zcb 107)) zq)
def zfs (F:Term->Term->Bool×Int):Ab.Spec ty:=zh zJk λx=>((F x.1 x.2.1).1,zLH (F x.1 x.2.1).2)
def zD8:AL base (Fc×Fc×Unit):=zd (zg (zcb 145)) (zd (zg (zcb 145)) zq)
def zdV (F:Fc->Fc->Bool×Int):Ab.Spec ty:=zh zD8 λx=>((F x.1 x.2.1).1,zLH (F x.1 x.2.1).2)
def zG8:AL base (At×At×Unit):=zd (zg (zcb 143)) (zd (zg (zcb 143)) zq)
def zgq (F:At->At->Bool×Int):Ab.Spec ty:=zh zG8 λx=>((F x.1 x.2.1).1,zLH (F x.1 x.2.1).2)
def zHk:AL base (Wd×Wd×Unit):=zd (zg (zcb 169)) (zd (zg (zcb 169)) zq)
def zdE (F:Wd->Wd->Bool×Int):Ab.Spec ty:=zh zHk λx=>((F x.1 x.2.1).1,zLH (F x.1 x.2.1).2)
def zh8:AL base (yB×yB×Unit×Unit):=zd (zg (vSl 107)) (zd (zg (vSl 107)) (zd (zg (vFn 225 zcR)) zq))
def zbK (F:yB->yB->Bool×Int):Ab.Spec ty:=zh zh8 λx=>((F x.1 x.2.1).1,zLH (F x.1 x.2.1).2)
def ziz:AL base (yC×yC×Unit×Unit):=zd (zg (vSl 145)) (zd (zg (vSl 145)) (zd (zg (vFn 166 zcR)) zq))
def zbP (F:yC->yC->Bool×Int):Ab.Spec ty:=zh ziz λx=>((F x.1 x.2.1).1,zLH (F x.1 x.2.1).2)
def zff:AL base (yA×yA×Unit×Unit):=zd (zg (vSl 51)) (zd (zg (vSl 51)) (zd (zg (vFn 170 zcR)) zq))
def zbi (F:yA->yA->Bool×Int):Ab.Spec ty:=zh zff λx=>((F x.1 x.2.1).1,zLH (F x.1 x.2.1).2)
def zgA:AL base (yD×yD×Unit×Unit):=zd (zg (vSl 169)) (zd (zg (vSl 169)) (zd (zg (vFn 172 zcR)) zq))
def zbC (F:yD->yD->Bool×Int):Ab.Spec ty:=zh zgA λx=>((F x.1 x.2.1).1,zLH (F x.1 x.2.1).2)
def zJS (zH:yB->yB->Bool×Int) (zI:Term->Term->Bool×Int):=zbu base 8 [(224,(zbK zH)),(225,(zfs zI))]
def zyh (zH:yB->yB->Bool×Int) (zI:Term->Term->Bool×Int) (a:yB) (b:yB):Wy0 (Int):=.bn (zH a b) λr0=>.k r0
def znv (zH:yB->yB->Bool×Int) (zI:Term->Term->Bool×Int) (a:yB) (b:yB):=(zyh zH zI a b).fin default
theorem zFK (zH:yB->yB->Bool×Int) (zI:Term->Term->Bool×Int) (zhx:SdP 224 (zbK zH)) (znT:SdP 225 (zfs zI)):SdP 170 (zdG (znv zH zI)):=
 sT (cx':=(zJS zH zI)) (zi ⟨zhx,znT,trivial⟩) call170 func170 (lOK aN)
def zTx:=zbu base 6 []
def zGn (x_:Int):Wy0 (Bool):=.k (x_ != x_)
def zmm (x_:Int):=(zGn x_).fin default
def zQK (r:Bool):ARes ty:=⟨[.pure (.lit (.bool r))],[]⟩
def zVL:AL base (Int×Unit):=zd (zg zgm) zq
def zBV:=zh zVL λx=>((zmm x.1).1,zQK (zmm x.1).2)
theorem zNH:SdP 232 zBV:=
 sT (cx':=zTx) (zi trivial) call232 func232 (lOK aN)
def zOQ:=zbu base 20 [(232,zBV)]
def zCg (x_:Int) (y_:Int):Wy0 (Int):=.i ((zmm x_).2) (.i ((zmm y_).2) (.k 0) (.k (-1:Int))) (.i ((zmm y_).2) (.k 1) (.i (decide (x_<y_)) (.k (-1:Int)) (.i (decide (x_>y_)) (.k 1) (.k 0))))
def zh9 (x_:Int) (y_:Int):=(zCg x_ y_).fin default
def zRk:AL base (Int×Int×Unit):=zd (zg zgm) (zd (zg zgm) zq)
def zla:=zh zRk λx=>((zh9 x.1 x.2.1).1,zLH (zh9 x.1 x.2.1).2)
theorem zqd:SdP 195 zla:=
 sT (cx':=zOQ) (zi ⟨zNH,trivial⟩) call195 func195 (lOK aN)
abbrev zAG:=Int×List Int×Int×Int×Unit
def zFO (zero:Int) (t6:List Int) (t7:Int) (t8:Int):Wy zAG Unit (Int⊕Int):=.i (decide (t8<t7)) (.i (decide (0<=t8)&&decide (t8<Int.ofNat t6.length)) (.i (t6.getD t8.toNat default != zero) (.k (.inl (t6.getD t8.toNat default))) (.h (zero,t6,t7,(IntKind.i64.wrap (t8+1)),()) ())) .d) (.k (.inr zero))
def zQv (x:zAG) (y:Unit):=zFO x.1 x.2.1 x.2.2.1 x.2.2.2.1
def zFu (n:Nat) (zero:Int) (t6:List Int) (t7:Int) (t8:Int):=zB (zQv) (.inl default) n (zero,t6,t7,t8,()) ()
def z14 (r:Int⊕Int):LTree ty:=.ite (isL r) (.done .ret [.lit (.int .i64 (getL r))] []) (.done (.exit 0) [.lit (.int .i64 (getR r))] [])
def z3f:LL ty zAG:=za zj (za (lSl 3) (za zj (za zj zl)))
def z3q:BL ty (Unit):=zbb
def z1E (x:zAG) (y:Unit):Nat:=(Int.toNat x.1+x.2.1.length+Int.toNat x.2.2.1+Int.toNat x.2.2.2.1+1)
def zQt:=zbX base 18 [] [] [(3,(kpL [3,6,7,8]))] [(3,1,(kpL [3])),(3,0,(kpL [2]))] [(3,spW z3f z3q (zQv) (.inl default) z14 z1E)] []
theorem z13:zF zQt (lp (body f167) 0):=zn (id:=3) (hl:=rfl)
def zTj (vals:List Int):Wy0 (Int):=.bn (zFu (Int.toNat 0+vals.length+(Int.ofNat vals.length).toNat +Int.toNat 0+1) 0 vals (Int.ofNat vals.length) 0) λr0=>.i (isL r0) (.k (getL r0)) (.k (getR r0))
def zny (vals:List Int):=(zTj vals).fin default
def z4f:AL base (List Int×Unit):=zd (zg (vSl 3)) zq
def zmd:=zh z4f λx=>((zny x.1).1,zLH (zny x.1).2)
theorem zpa:SdP 167 zmd:=
 sT (cx':=zQt) (zi trivial) call167 func167 (lOK (aC z13 aN))
def zEV (zcG:Term->Term->Bool×Int):=zbu base 15 [(104,(zfs zcG)),(167,zmd),(195,zla)]
def zvK (zcG:Term->Term->Bool×Int) (x_:Term) (y_:Term):Wy0 (Int):=.bn (zcG x_ y_) λr2=>.bn (zh9 x_.Cf y_.Cf) λr1=>.bn (zny [r2,r1]) λr0=>.k r0
def zkq (zcG:Term->Term->Bool×Int) (x_:Term) (y_:Term):=(zvK zcG x_ y_).fin default
theorem zB2 (zcG:Term->Term->Bool×Int) (zEG:SdP 104 (zfs zcG)):SdP 225 (zfs (zkq zcG)):=
 sT (cx':=(zEV zcG)) (zi ⟨zEG,zpa,zqd,trivial⟩) call225 func225 (lOK aN)
def zYs:=zbu base 6 []
def zKP (x_:Int):Wy0 (Bool):=.k (x_ != x_)
def zql (x_:Int):=(zKP x_).fin default
def zEi:=zh zVL λx=>((zql x.1).1,zQK (zql x.1).2)
theorem zRf:SdP 223 zEi:=
 sT (cx':=zYs) (zi trivial) call223 func223 (lOK aN)
def zTb:=zbu base 20 [(223,zEi)]
def zF7 (x_:Int) (y_:Int):Wy0 (Int):=.i ((zql x_).2) (.i ((zql y_).2) (.k 0) (.k (-1:Int))) (.i ((zql y_).2) (.k 1) (.i (decide (x_<y_)) (.k (-1:Int)) (.i (decide (x_>y_)) (.k 1) (.k 0))))
def zeb (x_:Int) (y_:Int):=(zF7 x_ y_).fin default
def zn6:=zh zRk λx=>((zeb x.1 x.2.1).1,zLH (zeb x.1 x.2.1).2)
theorem zsD:SdP 168 zn6:=
 sT (cx':=zTb) (zi ⟨zRf,trivial⟩) call168 func168 (lOK aN)
end Go.Proofs.YtoknknbmfmddbaaGreatDoor
/-
 DERIVED:THE SHELF's CONTRACTS AT THIS DUMP,IN PLAIN WORDS (tools/lay-plain.mjs out of 'TryzShelf.lean',which tools/lay-shelf.mjs wrote):THE SAME DECLARATIONS UNDER THE SAME NAMES:'import','namespace','open','def','theorem' AND NOTHING ELSE:no command of the shelf's:FOR A HAND-IN. Each laying:the table of numbers ('.._ren') and one theorem,a field a fact of the dump's own or the kernel's comparison; each contract:ONE APPLICATION.
-/
namespace Go.Proofs
open Go.Shelf
def Tryz.pdqTerm_ren:Go.Shelf.Ren:=⟨λ| 14=>231 | 20=>269 | 21=>270 | 22=>271 | 23=>272 | 24=>273 | 25=>274 | 26=>275 | 27=>276 | 46=>299 | 47=>289 | 48=>290 | 49=>300 | 50=>301 | 15=>205 | 57=>307 | 28=>254 | 29=>255 | n=>n,λ| 24=>107 | 22=>50 | 3=>3 | 25=>140 | 4=>4 | 0=>0 | 46=>247 | 45=>246 | 50=>208 | 66=>269 | 39=>218 | 55=>223 | 70=>273 | 76=>284 | 77=>285 | 53=>253 | 5=>5 | 9=>9 | n=>n,λ| n=>n⟩
theorem Tryz.pdqTerm:Go.Proofs.SlLaysF0.n14 Tryz.prog Tryz.pdqTerm_ren:={
 mixed:=by kernel_rfl
 f14:=⟨f231.name,by decide,func231.trans (congrArg some (by kernel_rfl))⟩
 f15:=func205.trans (congrArg some (by kernel_rfl))
 f20:=⟨f269.name,by decide,func269.trans (congrArg some (by kernel_rfl))⟩
 f21:=⟨f270.name,by decide,func270.trans (congrArg some (by kernel_rfl))⟩
 f22:=⟨f271.name,by decide,func271.trans (congrArg some (by kernel_rfl))⟩
 f23:=⟨f272.name,by decide,func272.trans (congrArg some (by kernel_rfl))⟩
 f24:=⟨f273.name,by decide,func273.trans (congrArg some (by kernel_rfl))⟩
 f25:=⟨f274.name,by decide,func274.trans (congrArg some (by kernel_rfl))⟩
 f26:=⟨f275.name,by decide,func275.trans (congrArg some (by kernel_rfl))⟩
 f27:=⟨f276.name,by decide,func276.trans (congrArg some (by kernel_rfl))⟩
 f28:=func254.trans (congrArg some (by kernel_rfl))
 f29:=func255.trans (congrArg some (by kernel_rfl))
 f46:=⟨f299.name,by decide,func299.trans (congrArg some (by kernel_rfl))⟩
 f47:=func289.trans (congrArg some (by kernel_rfl))
 f48:=func290.trans (congrArg some (by kernel_rfl))
 f49:=⟨f300.name,by decide,func300.trans (congrArg some (by kernel_rfl))⟩
 f50:=⟨f301.name,by decide,func301.trans (congrArg some (by kernel_rfl))⟩
 f57:=⟨f307.name,by decide,func307.trans (congrArg some (by kernel_rfl))⟩
 t0:=underlying0
 a0:=Tryz.isAgg0
 z0:=Tryz.sizeOf0
 v0:=Tryz.zeroValue0
 t3:=underlying3
 a3:=Tryz.isAgg3
 z3:=Tryz.sizeOf3
 v3:=Tryz.zeroValue3
 t4:=underlying4
 a4:=Tryz.isAgg4
 z4:=Tryz.sizeOf4
 v4:=Tryz.zeroValue4
 t5:=underlying5
 a5:=Tryz.isAgg5
 z5:=Tryz.sizeOf5
 v5:=Tryz.zeroValue5
 t9:=underlying9
 a9:=Tryz.isAgg9
 z9:=Tryz.sizeOf9
 v9:=Tryz.zeroValue9
 t22:=underlying50
 a22:=Tryz.isAgg50
 z22:=Tryz.sizeOf50
 v22:=Tryz.zeroValue50
 t25:=underlying140
 a25:=Tryz.isAgg140
 z25:=Tryz.sizeOf140
 v25:=Tryz.zeroValue140
 t39:=underlying218
 a39:=Tryz.isAgg218
 z39:=Tryz.sizeOf218
 v39:=Tryz.zeroValue218
 t45:=underlying246
 a45:=Tryz.isAgg246
 z45:=Tryz.sizeOf246
 v45:=Tryz.zeroValue246
 t46:=underlying247
 a46:=Tryz.isAgg247
 z46:=Tryz.sizeOf247
 v46:=Tryz.zeroValue247
 t50:=underlying208
 a50:=Tryz.isAgg208
 z50:=Tryz.sizeOf208
 v50:=Tryz.zeroValue208
 t53:=underlying253
 a53:=Tryz.isAgg253
 z53:=Tryz.sizeOf253
 v53:=Tryz.zeroValue253
 t55:=underlying223
 a55:=Tryz.isAgg223
 z55:=Tryz.sizeOf223
 v55:=Tryz.zeroValue223
 t66:=underlying269
 a66:=Tryz.isAgg269
 z66:=Tryz.sizeOf269
 v66:=Tryz.zeroValue269
 t70:=underlying273
 a70:=Tryz.isAgg273
 z70:=Tryz.sizeOf273
 v70:=Tryz.zeroValue273
 t76:=underlying284
 a76:=Tryz.isAgg284
 z76:=Tryz.sizeOf284
 v76:=Tryz.zeroValue284
 t77:=underlying285
 a77:=Tryz.isAgg285
 z77:=Tryz.sizeOf285
 v77:=Tryz.zeroValue285 }
def Tryz.insW_ren:Go.Shelf.Ren:=⟨λ| 20=>309 | n=>n,λ| 24=>169 | 22=>141 | 3=>3 | 25=>198 | 4=>4 | 0=>0 | n=>n,λ| n=>n⟩
theorem Tryz.insW:Go.Proofs.SlLaysF0.n20 Tryz.prog Tryz.insW_ren:={
 mixed:=by kernel_rfl
 f20:=⟨f309.name,by decide,func309.trans (congrArg some (by kernel_rfl))⟩
 t0:=underlying0
 a0:=Tryz.isAgg0
 z0:=Tryz.sizeOf0
 v0:=Tryz.zeroValue0
 t3:=underlying3
 a3:=Tryz.isAgg3
 z3:=Tryz.sizeOf3
 v3:=Tryz.zeroValue3
 t4:=underlying4
 a4:=Tryz.isAgg4
 z4:=Tryz.sizeOf4
 v4:=Tryz.zeroValue4
 t22:=underlying141
 a22:=Tryz.isAgg141
 z22:=Tryz.sizeOf141
 v22:=Tryz.zeroValue141
 t25:=underlying198
 a25:=Tryz.isAgg198
 z25:=Tryz.sizeOf198
 v25:=Tryz.zeroValue198 }
def Tryz.lays106_ren:Go.Shelf.Ren:=⟨λ| 106=>196 | 213=>233 | 265=>277 | n=>n,λ| 9=>9 | 3=>3 | n=>n,λ| n=>n⟩
theorem Tryz.lays106:Go.Proofs.Lays.n106 Tryz.prog Tryz.lays106_ren:={
 mixed:=by kernel_rfl
 f106:=func196.trans (congrArg some (by kernel_rfl))
 f213:=func233.trans (congrArg some (by kernel_rfl))
 f265:=func277.trans (congrArg some (by kernel_rfl))
 t3:=underlying3
 a3:=Tryz.isAgg3
 z3:=Tryz.sizeOf3
 v3:=Tryz.zeroValue3
 t9:=underlying9
 a9:=Tryz.isAgg9
 z9:=Tryz.sizeOf9
 v9:=Tryz.zeroValue9 }
def Tryz.lays125_ren:Go.Shelf.Ren:=⟨λ| 125=>205 | 128=>254 | 129=>255 | n=>n,λ| 46=>218 | 3=>3 | 51=>253 | 53=>223 | 4=>4 | 5=>5 | 9=>9 | n=>n,λ| n=>n⟩
theorem Tryz.lays125:Go.Proofs.Lays.n125 Tryz.prog Tryz.lays125_ren:={
 mixed:=by kernel_rfl
 f125:=func205.trans (congrArg some (by kernel_rfl))
 f128:=func254.trans (congrArg some (by kernel_rfl))
 f129:=func255.trans (congrArg some (by kernel_rfl))
 t3:=underlying3
 a3:=Tryz.isAgg3
 z3:=Tryz.sizeOf3
 v3:=Tryz.zeroValue3
 t4:=underlying4
 a4:=Tryz.isAgg4
 z4:=Tryz.sizeOf4
 v4:=Tryz.zeroValue4
 t5:=underlying5
 a5:=Tryz.isAgg5
 z5:=Tryz.sizeOf5
 v5:=Tryz.zeroValue5
 t9:=underlying9
 a9:=Tryz.isAgg9
 z9:=Tryz.sizeOf9
 v9:=Tryz.zeroValue9
 t46:=underlying218
 a46:=Tryz.isAgg218
 z46:=Tryz.sizeOf218
 v46:=Tryz.zeroValue218
 t51:=underlying253
 a51:=Tryz.isAgg253
 z51:=Tryz.sizeOf253
 v51:=Tryz.zeroValue253
 t53:=underlying223
 a53:=Tryz.isAgg223
 z53:=Tryz.sizeOf223
 v53:=Tryz.zeroValue223 }
def Tryz.laysM173_ren:Go.Shelf.Ren:=⟨λ| 173=>92 | 246=>152 | 283=>208 | 284=>209 | 285=>210 | 286=>211 | 129=>255 | 317=>256 | 318=>257 | 319=>258 | 320=>259 | 337=>293 | 338=>294 | n=>n,λ| 2=>2 | 3=>3 | 9=>9 | 4=>4 | 171=>222 | 0=>0 | 53=>223 | 37=>120 | 5=>5 | 173=>226 | 212=>255 | 51=>253 | 20=>20 | 213=>256 | 46=>218 | 232=>287 | 233=>288 | n=>n,λ| 17=>1 | 18=>4 | 19=>5 | n=>n⟩
theorem Tryz.laysM173:Go.Proofs.LaysM.n173 Tryz.prog Tryz.laysM173_ren:={
 mixed:=by kernel_rfl
 f129:=func255.trans (congrArg some (by kernel_rfl))
 f173:=func92.trans (congrArg some (by kernel_rfl))
 f246:=func152.trans (congrArg some (by kernel_rfl))
 f283:=func208.trans (congrArg some (by kernel_rfl))
 f284:=func209.trans (congrArg some (by kernel_rfl))
 f285:=func210.trans (congrArg some (by kernel_rfl))
 f286:=func211.trans (congrArg some (by kernel_rfl))
 f317:=func256.trans (congrArg some (by kernel_rfl))
 f318:=func257.trans (congrArg some (by kernel_rfl))
 f319:=func258.trans (congrArg some (by kernel_rfl))
 f320:=func259.trans (congrArg some (by kernel_rfl))
 f337:=func293.trans (congrArg some (by kernel_rfl))
 f338:=func294.trans (congrArg some (by kernel_rfl))
 t0:=underlying0
 a0:=Tryz.isAgg0
 z0:=Tryz.sizeOf0
 v0:=Tryz.zeroValue0
 t2:=underlying2
 a2:=Tryz.isAgg2
 z2:=Tryz.sizeOf2
 v2:=Tryz.zeroValue2
 t3:=underlying3
 a3:=Tryz.isAgg3
 z3:=Tryz.sizeOf3
 v3:=Tryz.zeroValue3
 t4:=underlying4
 a4:=Tryz.isAgg4
 z4:=Tryz.sizeOf4
 v4:=Tryz.zeroValue4
 t5:=underlying5
 a5:=Tryz.isAgg5
 z5:=Tryz.sizeOf5
 v5:=Tryz.zeroValue5
 t9:=underlying9
 a9:=Tryz.isAgg9
 z9:=Tryz.sizeOf9
 v9:=Tryz.zeroValue9
 t20:=underlying20
 a20:=Tryz.isAgg20
 z20:=Tryz.sizeOf20
 v20:=Tryz.zeroValue20
 t37:=underlying120
 a37:=Tryz.isAgg120
 z37:=Tryz.sizeOf120
 v37:=Tryz.zeroValue120
 t46:=underlying218
 a46:=Tryz.isAgg218
 z46:=Tryz.sizeOf218
 v46:=Tryz.zeroValue218
 t51:=underlying253
 a51:=Tryz.isAgg253
 z51:=Tryz.sizeOf253
 v51:=Tryz.zeroValue253
 t53:=underlying223
 a53:=Tryz.isAgg223
 z53:=Tryz.sizeOf223
 v53:=Tryz.zeroValue223
 t171:=underlying222
 a171:=Tryz.isAgg222
 z171:=Tryz.sizeOf222
 v171:=Tryz.zeroValue222
 t173:=underlying226
 a173:=Tryz.isAgg226
 z173:=Tryz.sizeOf226
 v173:=Tryz.zeroValue226
 t212:=underlying255
 a212:=Tryz.isAgg255
 z212:=Tryz.sizeOf255
 v212:=Tryz.zeroValue255
 t213:=underlying256
 a213:=Tryz.isAgg256
 z213:=Tryz.sizeOf256
 t232:=underlying287
 a232:=Tryz.isAgg287
 z232:=Tryz.sizeOf287
 v232:=Tryz.zeroValue287
 t233:=underlying288
 a233:=Tryz.isAgg288
 z233:=Tryz.sizeOf288
 v233:=Tryz.zeroValue288
 g17:=by kernel_rfl
 g18:=by kernel_rfl
 g19:=by kernel_rfl
 i0:=by kernel_rfl
 i2:=by kernel_rfl
 i3:=by kernel_rfl
 i4:=by kernel_rfl
 i5:=by kernel_rfl
 i9:=by kernel_rfl
 i20:=by kernel_rfl
 i37:=by kernel_rfl
 i46:=by kernel_rfl
 i51:=by kernel_rfl
 i53:=by kernel_rfl
 i171:=by kernel_rfl
 i173:=by kernel_rfl
 i212:=by kernel_rfl
 i232:=by kernel_rfl
 i233:=by kernel_rfl
 m17:=by kernel_rfl
 m18:=by kernel_rfl
 m19:=by kernel_rfl }
def Tryz.laysM171_ren:Go.Shelf.Ren:=⟨λ| 171=>216 | 243=>267 | 246=>152 | 283=>208 | 284=>209 | 285=>210 | 286=>211 | 129=>255 | 317=>256 | 318=>257 | 319=>258 | 320=>259 | 337=>293 | 338=>294 | n=>n,λ| 3=>3 | 9=>9 | 2=>2 | 4=>4 | 171=>222 | 0=>0 | 53=>223 | 37=>120 | 5=>5 | 173=>226 | 212=>255 | 51=>253 | 20=>20 | 213=>256 | 46=>218 | 232=>287 | 233=>288 | n=>n,λ| 17=>1 | 18=>4 | 19=>5 | n=>n⟩
theorem Tryz.laysM171:Go.Proofs.LaysM.n171 Tryz.prog Tryz.laysM171_ren:={
 mixed:=by kernel_rfl
 f129:=func255.trans (congrArg some (by kernel_rfl))
 f171:=func216.trans (congrArg some (by kernel_rfl))
 f243:=func267.trans (congrArg some (by kernel_rfl))
 f246:=func152.trans (congrArg some (by kernel_rfl))
 f283:=func208.trans (congrArg some (by kernel_rfl))
 f284:=func209.trans (congrArg some (by kernel_rfl))
 f285:=func210.trans (congrArg some (by kernel_rfl))
 f286:=func211.trans (congrArg some (by kernel_rfl))
 f317:=func256.trans (congrArg some (by kernel_rfl))
 f318:=func257.trans (congrArg some (by kernel_rfl))
 f319:=func258.trans (congrArg some (by kernel_rfl))
 f320:=func259.trans (congrArg some (by kernel_rfl))
 f337:=func293.trans (congrArg some (by kernel_rfl))
 f338:=func294.trans (congrArg some (by kernel_rfl))
 t0:=underlying0
 a0:=Tryz.isAgg0
 z0:=Tryz.sizeOf0
 v0:=Tryz.zeroValue0
 t2:=underlying2
 a2:=Tryz.isAgg2
 z2:=Tryz.sizeOf2
 v2:=Tryz.zeroValue2
 t3:=underlying3
 a3:=Tryz.isAgg3
 z3:=Tryz.sizeOf3
 v3:=Tryz.zeroValue3
 t4:=underlying4
 a4:=Tryz.isAgg4
 z4:=Tryz.sizeOf4
 v4:=Tryz.zeroValue4
 t5:=underlying5
 a5:=Tryz.isAgg5
 z5:=Tryz.sizeOf5
 v5:=Tryz.zeroValue5
 t9:=underlying9
 a9:=Tryz.isAgg9
 z9:=Tryz.sizeOf9
 v9:=Tryz.zeroValue9
 t20:=underlying20
 a20:=Tryz.isAgg20
 z20:=Tryz.sizeOf20
 v20:=Tryz.zeroValue20
 t37:=underlying120
 a37:=Tryz.isAgg120
 z37:=Tryz.sizeOf120
 v37:=Tryz.zeroValue120
 t46:=underlying218
 a46:=Tryz.isAgg218
 z46:=Tryz.sizeOf218
 v46:=Tryz.zeroValue218
 t51:=underlying253
 a51:=Tryz.isAgg253
 z51:=Tryz.sizeOf253
 v51:=Tryz.zeroValue253
 t53:=underlying223
 a53:=Tryz.isAgg223
 z53:=Tryz.sizeOf223
 v53:=Tryz.zeroValue223
 t171:=underlying222
 a171:=Tryz.isAgg222
 z171:=Tryz.sizeOf222
 v171:=Tryz.zeroValue222
 t173:=underlying226
 a173:=Tryz.isAgg226
 z173:=Tryz.sizeOf226
 v173:=Tryz.zeroValue226
 t212:=underlying255
 a212:=Tryz.isAgg255
 z212:=Tryz.sizeOf255
 v212:=Tryz.zeroValue255
 t213:=underlying256
 a213:=Tryz.isAgg256
 z213:=Tryz.sizeOf256
 t232:=underlying287
 a232:=Tryz.isAgg287
 z232:=Tryz.sizeOf287
 v232:=Tryz.zeroValue287
 t233:=underlying288
 a233:=Tryz.isAgg288
 z233:=Tryz.sizeOf288
 v233:=Tryz.zeroValue288
 g17:=by kernel_rfl
 g18:=by kernel_rfl
 g19:=by kernel_rfl
 i0:=by kernel_rfl
 i2:=by kernel_rfl
 i3:=by kernel_rfl
 i4:=by kernel_rfl
 i5:=by kernel_rfl
 i9:=by kernel_rfl
 i20:=by kernel_rfl
 i37:=by kernel_rfl
 i46:=by kernel_rfl
 i51:=by kernel_rfl
 i53:=by kernel_rfl
 i171:=by kernel_rfl
 i173:=by kernel_rfl
 i212:=by kernel_rfl
 i232:=by kernel_rfl
 i233:=by kernel_rfl
 m17:=by kernel_rfl
 m18:=by kernel_rfl
 m19:=by kernel_rfl }
def Tryz.lays155_ren:Go.Shelf.Ren:=⟨λ| 155=>93 | 154=>153 | 138=>212 | 165=>88 | 143=>213 | 166=>89 | 197=>214 | 169=>90 | 195=>260 | 218=>261 | 240=>150 | 241=>151 | 219=>262 | 260=>263 | 276=>206 | 277=>207 | 217=>295 | 225=>296 | 224=>297 | 267=>298 | 266=>305 | 314=>306 | n=>n,λ| 9=>9 | 3=>3 | 4=>4 | 72=>122 | 0=>0 | 76=>126 | 105=>228 | 21=>21 | 5=>5 | 70=>119 | 20=>20 | 37=>120 | 75=>125 | 127=>180 | 164=>219 | 46=>218 | 119=>275 | 139=>278 | 138=>277 | 146=>289 | 51=>253 | 80=>128 | n=>n,λ| 1=>0 | 3=>2 | 4=>3 | n=>n⟩
theorem Tryz.lays155:Go.Proofs.Lays.n155 Tryz.prog Tryz.lays155_ren:={
 mixed:=by kernel_rfl
 f138:=func212.trans (congrArg some (by kernel_rfl))
 f143:=func213.trans (congrArg some (by kernel_rfl))
 f154:=func153.trans (congrArg some (by kernel_rfl))
 f155:=func93.trans (congrArg some (by kernel_rfl))
 f165:=func88.trans (congrArg some (by kernel_rfl))
 f166:=func89.trans (congrArg some (by kernel_rfl))
 f169:=func90.trans (congrArg some (by kernel_rfl))
 f195:=func260.trans (congrArg some (by kernel_rfl))
 f197:=func214.trans (congrArg some (by kernel_rfl))
 f217:=func295.trans (congrArg some (by kernel_rfl))
 f218:=func261.trans (congrArg some (by kernel_rfl))
 f219:=func262.trans (congrArg some (by kernel_rfl))
 f224:=func297.trans (congrArg some (by kernel_rfl))
 f225:=func296.trans (congrArg some (by kernel_rfl))
 f240:=func150.trans (congrArg some (by kernel_rfl))
 f241:=func151.trans (congrArg some (by kernel_rfl))
 f260:=func263.trans (congrArg some (by kernel_rfl))
 f266:=func305.trans (congrArg some (by kernel_rfl))
 f267:=func298.trans (congrArg some (by kernel_rfl))
 f276:=func206.trans (congrArg some (by kernel_rfl))
 f277:=func207.trans (congrArg some (by kernel_rfl))
 f314:=func306.trans (congrArg some (by kernel_rfl))
 t0:=underlying0
 a0:=Tryz.isAgg0
 z0:=Tryz.sizeOf0
 v0:=Tryz.zeroValue0
 t3:=underlying3
 a3:=Tryz.isAgg3
 z3:=Tryz.sizeOf3
 v3:=Tryz.zeroValue3
 t4:=underlying4
 a4:=Tryz.isAgg4
 z4:=Tryz.sizeOf4
 v4:=Tryz.zeroValue4
 t5:=underlying5
 a5:=Tryz.isAgg5
 z5:=Tryz.sizeOf5
 v5:=Tryz.zeroValue5
 t9:=underlying9
 a9:=Tryz.isAgg9
 z9:=Tryz.sizeOf9
 v9:=Tryz.zeroValue9
 t20:=underlying20
 a20:=Tryz.isAgg20
 z20:=Tryz.sizeOf20
 v20:=Tryz.zeroValue20
 t21:=underlying21
 a21:=Tryz.isAgg21
 z21:=Tryz.sizeOf21
 v21:=Tryz.zeroValue21
 t37:=underlying120
 a37:=Tryz.isAgg120
 z37:=Tryz.sizeOf120
 v37:=Tryz.zeroValue120
 t46:=underlying218
 a46:=Tryz.isAgg218
 z46:=Tryz.sizeOf218
 v46:=Tryz.zeroValue218
 t51:=underlying253
 a51:=Tryz.isAgg253
 z51:=Tryz.sizeOf253
 v51:=Tryz.zeroValue253
 t70:=underlying119
 a70:=Tryz.isAgg119
 z70:=Tryz.sizeOf119
 v70:=Tryz.zeroValue119
 t72:=underlying122
 a72:=Tryz.isAgg122
 z72:=Tryz.sizeOf122
 v72:=Tryz.zeroValue122
 t75:=underlying125
 a75:=Tryz.isAgg125
 z75:=Tryz.sizeOf125
 v75:=Tryz.zeroValue125
 t76:=underlying126
 a76:=Tryz.isAgg126
 z76:=Tryz.sizeOf126
 v76:=Tryz.zeroValue126
 t105:=underlying228
 a105:=Tryz.isAgg228
 z105:=Tryz.sizeOf228
 v105:=Tryz.zeroValue228
 t119:=underlying275
 a119:=Tryz.isAgg275
 z119:=Tryz.sizeOf275
 t127:=underlying180
 a127:=Tryz.isAgg180
 z127:=Tryz.sizeOf180
 v127:=Tryz.zeroValue180
 t138:=underlying277
 a138:=Tryz.isAgg277
 z138:=Tryz.sizeOf277
 v138:=Tryz.zeroValue277
 t139:=underlying278
 a139:=Tryz.isAgg278
 z139:=Tryz.sizeOf278
 v139:=Tryz.zeroValue278
 t146:=underlying289
 a146:=Tryz.isAgg289
 z146:=Tryz.sizeOf289
 v146:=Tryz.zeroValue289
 t164:=underlying219
 a164:=Tryz.isAgg219
 z164:=Tryz.sizeOf219
 v164:=Tryz.zeroValue219
 g1:=by kernel_rfl
 g3:=by kernel_rfl
 g4:=by kernel_rfl }
theorem Tryz.Builder_Extra_155:Builder.Extra Tryz.prog Tryz.lays155_ren:={
 sizeBuilder:=by kernel_rfl
 liesBuilder:=by kernel_rfl
 t5:=underlying5
 a5:=Tryz.isAgg5
 z5:=Tryz.sizeOf5
 v5:=Tryz.zeroValue5
 infoByte:=by kernel_rfl
 cellsByte:=by kernel_rfl
 sizeByte:=by kernel_rfl
 neB5:=by decide }
def Tryz.lays156_ren:Go.Shelf.Ren:=⟨λ| 156=>44 | 165=>88 | 166=>89 | 169=>90 | 240=>150 | 241=>151 | 276=>206 | 277=>207 | n=>n,λ| 31=>28 | 9=>9 | 3=>3 | 4=>4 | 0=>0 | 20=>20 | 72=>122 | 76=>126 | 70=>119 | 37=>120 | 75=>125 | 127=>180 | 164=>219 | 5=>5 | 80=>128 | n=>n,λ| n=>n⟩
theorem Tryz.lays156:Go.Proofs.Lays.n156 Tryz.prog Tryz.lays156_ren:={
 mixed:=by kernel_rfl
 f156:=func44.trans (congrArg some (by kernel_rfl))
 f165:=func88.trans (congrArg some (by kernel_rfl))
 f166:=func89.trans (congrArg some (by kernel_rfl))
 f169:=func90.trans (congrArg some (by kernel_rfl))
 f240:=func150.trans (congrArg some (by kernel_rfl))
 f241:=func151.trans (congrArg some (by kernel_rfl))
 f276:=func206.trans (congrArg some (by kernel_rfl))
 f277:=func207.trans (congrArg some (by kernel_rfl))
 t0:=underlying0
 a0:=Tryz.isAgg0
 z0:=Tryz.sizeOf0
 v0:=Tryz.zeroValue0
 t3:=underlying3
 a3:=Tryz.isAgg3
 z3:=Tryz.sizeOf3
 v3:=Tryz.zeroValue3
 t4:=underlying4
 a4:=Tryz.isAgg4
 z4:=Tryz.sizeOf4
 v4:=Tryz.zeroValue4
 t9:=underlying9
 a9:=Tryz.isAgg9
 z9:=Tryz.sizeOf9
 v9:=Tryz.zeroValue9
 t20:=underlying20
 a20:=Tryz.isAgg20
 z20:=Tryz.sizeOf20
 v20:=Tryz.zeroValue20
 t31:=underlying28
 a31:=Tryz.isAgg28
 z31:=Tryz.sizeOf28
 v31:=Tryz.zeroValue28
 t37:=underlying120
 a37:=Tryz.isAgg120
 z37:=Tryz.sizeOf120
 v37:=Tryz.zeroValue120
 t70:=underlying119
 a70:=Tryz.isAgg119
 z70:=Tryz.sizeOf119
 v70:=Tryz.zeroValue119
 t72:=underlying122
 a72:=Tryz.isAgg122
 z72:=Tryz.sizeOf122
 v72:=Tryz.zeroValue122
 t75:=underlying125
 a75:=Tryz.isAgg125
 z75:=Tryz.sizeOf125
 v75:=Tryz.zeroValue125
 t76:=underlying126
 a76:=Tryz.isAgg126
 z76:=Tryz.sizeOf126
 v76:=Tryz.zeroValue126
 t127:=underlying180
 a127:=Tryz.isAgg180
 z127:=Tryz.sizeOf180
 v127:=Tryz.zeroValue180
 t164:=underlying219
 a164:=Tryz.isAgg219
 z164:=Tryz.sizeOf219
 v164:=Tryz.zeroValue219 }
theorem Tryz.Builder_Extra_156:Builder.Extra Tryz.prog Tryz.lays156_ren:={
 sizeBuilder:=by kernel_rfl
 liesBuilder:=by kernel_rfl
 t5:=underlying5
 a5:=Tryz.isAgg5
 z5:=Tryz.sizeOf5
 v5:=Tryz.zeroValue5
 infoByte:=by kernel_rfl
 cellsByte:=by kernel_rfl
 sizeByte:=by kernel_rfl
 neB5:=by decide }
end Go.Proofs
namespace Go.Proofs.YtoknknbmfmddbaaGreatDoor
open Go Go.Ab
open Go.Proofs.Tryz
def strings_Compare (s p:ByteArray):Bool×Int:=zH8 s p
def zA6:Ab.Spec ty:=zh (cx:=base) (zd (zg zva) (zd (zg zva) zq)) λx=>((strings_Compare x.1 x.2.1).1,⟨[.pure (.lit (.int .i64 (strings_Compare x.1 x.2.1).2))],[]⟩)
theorem zMJ:SdP 196 zA6:=z3p zet Go.Proofs.Tryz.lays106 call196
end Go.Proofs.YtoknknbmfmddbaaGreatDoor
namespace Go.Proofs.YtoknknbmfmddbaaGreatDoor
open Go Go.Ab
open Go.Proofs.Tryz
def zW6:=zbu base 22 [(167,zmd),(168,zn6),(195,zla),(196,zA6)]
def zKk (a:Value) (b:Value):Wy0 (Int):=.bn (zeb a.Kind b.Kind) λr2=>.bn (zh9 a.Int b.Int) λr1=>.bn (zny [r2,r1,(strings_Compare a.Text b.Text).2]) λr0=>.k r0
def ziF (a:Value) (b:Value):=(zKk a b).fin default
def zZu:AL base (Value×Value×Unit):=zd (zg (zcb 79)) (zd (zg (zcb 79)) zq)
def zly:=zh zZu λx=>((ziF x.1 x.2.1).1,zLH (ziF x.1 x.2.1).2)
theorem zpp:SdP 131 zly:=
 sT (cx':=zW6) (zi ⟨zpa,zsD,zqd,zMJ,trivial⟩) call131 func131 (lOK aN)
def zC1 (zr:yA->yA->Bool×Int) (zu:yB->yB->Bool×Int) (zy:yD->yD->Bool×Int) (zA:Wd->Wd->Bool×Int):=zbu base 51 [(131,zly),(167,zmd),(168,zn6),(169,(zbi zr)),(170,(zdG zu)),(171,(zbC zy)),(172,(zdE zA))]
def zs8 (zr:yA->yA->Bool×Int) (zu:yB->yB->Bool×Int) (zy:yD->yD->Bool×Int) (zA:Wd->Wd->Bool×Int) (a:At) (b:At):Wy0 (Int):=.bn (zeb a.Kind b.Kind) λr8=>.bn (zeb a.Row.Table b.Row.Table) λr7=>.bn (zeb a.Row.Seq b.Row.Seq) λr6=>.bn (zr a.Ag b.Ag) λr5=>.bn (zeb a.Func b.Func) λr4=>.bn (zy a.Items b.Items) λr3=>.bn (zeb a.Op b.Op) λr2=>.bn (ziF a.Bd b.Bd) λr1=>.bn (zny [r8,r7,r6,r5,r4,r3,r2,r1]) λr0=>.k r0
def zi5 (zr:yA->yA->Bool×Int) (zu:yB->yB->Bool×Int) (zy:yD->yD->Bool×Int) (zA:Wd->Wd->Bool×Int) (a:At) (b:At):=(zs8 zr zu zy zA a b).fin default
theorem zAt (zr:yA->yA->Bool×Int) (zu:yB->yB->Bool×Int) (zy:yD->yD->Bool×Int) (zA:Wd->Wd->Bool×Int) (zeW:SdP 169 (zbi zr)) (zit:SdP 170 (zdG zu)) (zgl:SdP 171 (zbC zy)) (zlA:SdP 172 (zdE zA)):SdP 106 (zgq (zi5 zr zu zy zA)):=
 sT (cx':=(zC1 zr zu zy zA)) (zi ⟨zpp,zpa,zsD,zeW,zit,zgl,zlA,trivial⟩) call106 func106 (lOK aN)
def zBr (zcF:At->At->Bool×Int):=zbu base 17 [(106,(zgq zcF)),(167,zmd),(168,zn6)]
def zrI (zcF:At->At->Bool×Int) (a:Fc) (b:Fc):Wy0 (Int):=.bn (zcF (At.mk a.At.Kind a.At.Row a.At.Ag a.At.Func a.At.Items a.At.Op a.At.Bd) (At.mk b.At.Kind b.At.Row b.At.Ag b.At.Func b.At.Items b.At.Op b.At.Bd)) λr2=>.bn (zeb a.Exp b.Exp) λr1=>.bn (zny [r2,r1]) λr0=>.k r0
def zii (zcF:At->At->Bool×Int) (a:Fc) (b:Fc):=(zrI zcF a b).fin default
theorem zyd (zcF:At->At->Bool×Int) (zEy:SdP 106 (zgq zcF)):SdP 166 (zdV (zii zcF)):=
 sT (cx':=(zBr zcF)) (zi ⟨zEy,zpa,zsD,trivial⟩) call166 func166 (lOK aN)
def zDi (zu:yB->yB->Bool×Int):=zbu base 17 [(131,zly),(167,zmd),(170,(zdG zu))]
def zte (zu:yB->yB->Bool×Int) (a:Wd) (b:Wd):Wy0 (Int):=.bn (ziF a.Value b.Value) λr2=>.bn (zu a.Ann b.Ann) λr1=>.bn (zny [r2,r1]) λr0=>.k r0
def zjd (zu:yB->yB->Bool×Int) (a:Wd) (b:Wd):=(zte zu a b).fin default
theorem zAm (zu:yB->yB->Bool×Int) (zit:SdP 170 (zdG zu)):SdP 172 (zdE (zjd zu)):=
 sT (cx':=(zDi zu)) (zi ⟨zpp,zpa,zit,trivial⟩) call172 func172 (lOK aN)
def zCO (zJ:yC->yC->Bool×Int) (zt:Fc->Fc->Bool×Int):=zbu base 10 [(165,(zbP zJ)),(166,(zdV zt))]
def zs3 (zJ:yC->yC->Bool×Int) (zt:Fc->Fc->Bool×Int) (a:Term) (b:Term):Wy0 (Int):=.bn (zJ a.Fs b.Fs) λr0=>.k r0
def zi3 (zJ:yC->yC->Bool×Int) (zt:Fc->Fc->Bool×Int) (a:Term) (b:Term):=(zs3 zJ zt a b).fin default
theorem zAv (zJ:yC->yC->Bool×Int) (zt:Fc->Fc->Bool×Int) (zh7:SdP 165 (zbP zJ)) (zkj:SdP 166 (zdV zt)):SdP 104 (zfs (zi3 zJ zt)):=
 sT (cx':=(zCO zJ zt)) (zi ⟨zh7,zkj,trivial⟩) call104 func104 (lOK aN)
abbrev zby:=yA×yA×Unit×yA×Int×Int×Unit
abbrev zc5:=Int⊕(yA×yA)
def zeU (zu:yB->yB->Bool×Int) (s1:yA) (s2:yA) (t11:yA) (t12:Int) (t13:Int):Wy zby Unit zc5:=.i (decide (t13<t12)) (.i (decide (0<=t13)&&decide (t13<Int.ofNat t11.length)) (.i (decide (t13≥Int.ofNat s2.length)) (.k (.inl 1)) (.i (decide (0<=t13)&&decide (t13<Int.ofNat s2.length)) (.bn (zu (t11.getD t13.toNat default) (s2.getD t13.toNat default)) λr0=>.i (r0 != 0) (.k (.inl (r0))) (.h (s1,s2,(),t11,t12,(IntKind.i64.wrap (t13+1)),()) ())) .d)) .d) (.k (.inr (s1,s2)))
def zcy (zu:yB->yB->Bool×Int) (x:zby) (y:Unit):=zeU zu x.1 x.2.1 x.2.2.2.1 x.2.2.2.2.1 x.2.2.2.2.2.1
def zeM (zu:yB->yB->Bool×Int) (n:Nat) (s1:yA) (s2:yA) (t11:yA) (t12:Int) (t13:Int):=zB (zcy zu) (.inl default) n (s1,s2,(),t11,t12,t13,()) ()
def zeF (r:zc5):LTree ty:=.ite (isL r) (.done .ret [.lit (.int .i64 (getL r))] []) (.done (.exit 0) [.sl 51 (getR r).1,.sl 51 (getR r).2] [])
def zeP:LL ty zby:=za (lSl 51) (za (lSl 51) (za (lFn 170 (zl)) (za (lSl 51) (za zj (za zj zl)))))
def zeH (x:zby) (y:Unit):Nat:=(x.1.length+x.2.1.length+x.2.2.2.1.length+Int.toNat x.2.2.2.2.1+Int.toNat x.2.2.2.2.2.1+1)
def zcC (zu:yB->yB->Bool×Int):=zbX base 39 [(170,(zdG zu))] [] [(2,(kpL [0,1,2,11,12,13]))] [(2,1,(kpL [0,1])),(2,0,(kpL [6]))] [(2,spW zeP z3q (zcy zu) (.inl default) zeF zeH)] []
theorem zeI (zu:yB->yB->Bool×Int):zF (zcC zu) (lp (body f169) 0):=zn (id:=2) (hl:=rfl)
def ze6 (zu:yB->yB->Bool×Int) (s1:yA) (s2:yA):Wy0 (Int):=.bn (zeM zu (s1.length+s2.length+s1.length+(Int.ofNat s1.length).toNat +Int.toNat 0+1) s1 s2 s1 (Int.ofNat s1.length) 0) λr2=>.i (isL r2) (.k (getL r2)) (.i (decide (Int.ofNat (getR r2).1.length<Int.ofNat (getR r2).2.length)) (.k (-1:Int)) (.k 0))
def zbf (zu:yB->yB->Bool×Int) (s1:yA) (s2:yA):=(ze6 zu s1 s2).fin default
theorem zep (zu:yB->yB->Bool×Int) (zit:SdP 170 (zdG zu)):SdP 169 (zbi (zbf zu)):=
 sT (cx':=(zcC zu)) (zi ⟨zit,trivial⟩) call169 func169 (lOK (aC (zeI zu) aN))
abbrev zb5:=yC×yC×Unit×yC×Int×Int×Unit
abbrev zej:=Int⊕(yC×yC)
def zdv (zt:Fc->Fc->Bool×Int) (s1:yC) (s2:yC) (t11:yC) (t12:Int) (t13:Int):Wy zb5 Unit zej:=.i (decide (t13<t12)) (.i (decide (0<=t13)&&decide (t13<Int.ofNat t11.length)) (.i (decide (t13≥Int.ofNat s2.length)) (.k (.inl 1)) (.i (decide (0<=t13)&&decide (t13<Int.ofNat s2.length)) (.bn (zt (FO.mk (At.mk (t11.getD t13.toNat default).At.Kind (t11.getD t13.toNat default).At.Row (t11.getD t13.toNat default).At.Ag (t11.getD t13.toNat default).At.Func (t11.getD t13.toNat default).At.Items (t11.getD t13.toNat default).At.Op (t11.getD t13.toNat default).At.Bd) (t11.getD t13.toNat default).Exp) (FO.mk (At.mk (s2.getD t13.toNat default).At.Kind (s2.getD t13.toNat default).At.Row (s2.getD t13.toNat default).At.Ag (s2.getD t13.toNat default).At.Func (s2.getD t13.toNat default).At.Items (s2.getD t13.toNat default).At.Op (s2.getD t13.toNat default).At.Bd) (s2.getD t13.toNat default).Exp)) λr0=>.i (r0 != 0) (.k (.inl (r0))) (.h (s1,s2,(),t11,t12,(IntKind.i64.wrap (t13+1)),()) ())) .d)) .d) (.k (.inr (s1,s2)))
def zbI (zt:Fc->Fc->Bool×Int) (x:zb5) (y:Unit):=zdv zt x.1 x.2.1 x.2.2.2.1 x.2.2.2.2.1 x.2.2.2.2.2.1
def zdu (zt:Fc->Fc->Bool×Int) (n:Nat) (s1:yC) (s2:yC) (t11:yC) (t12:Int) (t13:Int):=zB (zbI zt) (.inl default) n (s1,s2,(),t11,t12,t13,()) ()
def zhJ (r:zej):LTree ty:=.ite (isL r) (.done .ret [.lit (.int .i64 (getL r))] []) (.done (.exit 0) [.sl 145 (getR r).1,.sl 145 (getR r).2] [])
def zhO:LL ty zb5:=za (lSl 145) (za (lSl 145) (za (lFn 166 (zl)) (za (lSl 145) (za zj (za zj zl)))))
def zhE (x:zb5) (y:Unit):Nat:=(x.1.length+x.2.1.length+x.2.2.2.1.length+Int.toNat x.2.2.2.2.1+Int.toNat x.2.2.2.2.2.1+1)
def zdw (zt:Fc->Fc->Bool×Int):=zbX base 39 [(166,(zdV zt))] [] [(2,(kpL [0,1,2,11,12,13]))] [(2,1,(kpL [0,1])),(2,0,(kpL [6]))] [(2,spW zhO z3q (zbI zt) (.inl default) zhJ zhE)] []
theorem zhw (zt:Fc->Fc->Bool×Int):zF (zdw zt) (lp (body f165) 0):=zn (id:=2) (hl:=rfl)
def zdz (zt:Fc->Fc->Bool×Int) (s1:yC) (s2:yC):Wy0 (Int):=.bn (zdu zt (s1.length+s2.length+s1.length+(Int.ofNat s1.length).toNat +Int.toNat 0+1) s1 s2 s1 (Int.ofNat s1.length) 0) λr2=>.i (isL r2) (.k (getL r2)) (.i (decide (Int.ofNat (getR r2).1.length<Int.ofNat (getR r2).2.length)) (.k (-1:Int)) (.k 0))
def zbm (zt:Fc->Fc->Bool×Int) (s1:yC) (s2:yC):=(zdz zt s1 s2).fin default
theorem zg1 (zt:Fc->Fc->Bool×Int) (zkj:SdP 166 (zdV zt)):SdP 165 (zbP (zbm zt)):=
 sT (cx':=(zdw zt)) (zi ⟨zkj,trivial⟩) call165 func165 (lOK (aC (zhw zt) aN))
abbrev zbN:=yD×yD×Unit×yD×Int×Int×Unit
abbrev zdA:=Int⊕(yD×yD)
def zf3 (zA:Wd->Wd->Bool×Int) (s1:yD) (s2:yD) (t11:yD) (t12:Int) (t13:Int):Wy zbN Unit zdA:=.i (decide (t13<t12)) (.i (decide (0<=t13)&&decide (t13<Int.ofNat t11.length)) (.i (decide (t13≥Int.ofNat s2.length)) (.k (.inl 1)) (.i (decide (0<=t13)&&decide (t13<Int.ofNat s2.length)) (.bn (zA (t11.getD t13.toNat default) (s2.getD t13.toNat default)) λr0=>.i (r0 != 0) (.k (.inl (r0))) (.h (s1,s2,(),t11,t12,(IntKind.i64.wrap (t13+1)),()) ())) .d)) .d) (.k (.inr (s1,s2)))
def zcS (zA:Wd->Wd->Bool×Int) (x:zbN) (y:Unit):=zf3 zA x.1 x.2.1 x.2.2.2.1 x.2.2.2.2.1 x.2.2.2.2.2.1
def zfY (zA:Wd->Wd->Bool×Int) (n:Nat) (s1:yD) (s2:yD) (t11:yD) (t12:Int) (t13:Int):=zB (zcS zA) (.inl default) n (s1,s2,(),t11,t12,t13,()) ()
def zfU (r:zdA):LTree ty:=.ite (isL r) (.done .ret [.lit (.int .i64 (getL r))] []) (.done (.exit 0) [.sl 169 (getR r).1,.sl 169 (getR r).2] [])
def zf2:LL ty zbN:=za (lSl 169) (za (lSl 169) (za (lFn 172 (zl)) (za (lSl 169) (za zj (za zj zl)))))
def zfK (x:zbN) (y:Unit):Nat:=(x.1.length+x.2.1.length+x.2.2.2.1.length+Int.toNat x.2.2.2.2.1+Int.toNat x.2.2.2.2.2.1+1)
def zcT (zA:Wd->Wd->Bool×Int):=zbX base 39 [(172,(zdE zA))] [] [(2,(kpL [0,1,2,11,12,13]))] [(2,1,(kpL [0,1])),(2,0,(kpL [6]))] [(2,spW zf2 z3q (zcS zA) (.inl default) zfU zfK)] []
theorem zfL (zA:Wd->Wd->Bool×Int):zF (zcT zA) (lp (body f171) 0):=zn (id:=2) (hl:=rfl)
def zgj (zA:Wd->Wd->Bool×Int) (s1:yD) (s2:yD):Wy0 (Int):=.bn (zfY zA (s1.length+s2.length+s1.length+(Int.ofNat s1.length).toNat +Int.toNat 0+1) s1 s2 s1 (Int.ofNat s1.length) 0) λr2=>.i (isL r2) (.k (getL r2)) (.i (decide (Int.ofNat (getR r2).1.length<Int.ofNat (getR r2).2.length)) (.k (-1:Int)) (.k 0))
def zbB (zA:Wd->Wd->Bool×Int) (s1:yD) (s2:yD):=(zgj zA s1 s2).fin default
theorem zft (zA:Wd->Wd->Bool×Int) (zlA:SdP 172 (zdE zA)):SdP 171 (zbC (zbB zA)):=
 sT (cx':=(zcT zA)) (zi ⟨zlA,trivial⟩) call171 func171 (lOK (aC (zfL zA) aN))
abbrev zbZ:=yB×yB×Unit×yB×Int×Int×Unit
abbrev zd5:=Int⊕(yB×yB)
def zhm (zI:Term->Term->Bool×Int) (s1:yB) (s2:yB) (t11:yB) (t12:Int) (t13:Int):Wy zbZ Unit zd5:=.i (decide (t13<t12)) (.i (decide (0<=t13)&&decide (t13<Int.ofNat t11.length)) (.i (decide (t13≥Int.ofNat s2.length)) (.k (.inl 1)) (.i (decide (0<=t13)&&decide (t13<Int.ofNat s2.length)) (.bn (zI (t11.getD t13.toNat default) (s2.getD t13.toNat default)) λr0=>.i (r0 != 0) (.k (.inl (r0))) (.h (s1,s2,(),t11,t12,(IntKind.i64.wrap (t13+1)),()) ())) .d)) .d) (.k (.inr (s1,s2)))
def zdj (zI:Term->Term->Bool×Int) (x:zbZ) (y:Unit):=zhm zI x.1 x.2.1 x.2.2.2.1 x.2.2.2.2.1 x.2.2.2.2.2.1
def zhn (zI:Term->Term->Bool×Int) (n:Nat) (s1:yB) (s2:yB) (t11:yB) (t12:Int) (t13:Int):=zB (zdj zI) (.inl default) n (s1,s2,(),t11,t12,t13,()) ()
def zg3 (r:zd5):LTree ty:=.ite (isL r) (.done .ret [.lit (.int .i64 (getL r))] []) (.done (.exit 0) [.sl 107 (getR r).1,.sl 107 (getR r).2] [])
def zhl:LL ty zbZ:=za (lSl 107) (za (lSl 107) (za (lFn 225 (zl)) (za (lSl 107) (za zj (za zj zl)))))
def zhe (x:zbZ) (y:Unit):Nat:=(x.1.length+x.2.1.length+x.2.2.2.1.length+Int.toNat x.2.2.2.2.1+Int.toNat x.2.2.2.2.2.1+1)
def zdi (zI:Term->Term->Bool×Int):=zbX base 39 [(225,(zfs zI))] [] [(2,(kpL [0,1,2,11,12,13]))] [(2,1,(kpL [0,1])),(2,0,(kpL [6]))] [(2,spW zhl z3q (zdj zI) (.inl default) zg3 zhe)] []
theorem zgZ (zI:Term->Term->Bool×Int):zF (zdi zI) (lp (body f224) 0):=zn (id:=2) (hl:=rfl)
def zhz (zI:Term->Term->Bool×Int) (s1:yB) (s2:yB):Wy0 (Int):=.bn (zhn zI (s1.length+s2.length+s1.length+(Int.ofNat s1.length).toNat +Int.toNat 0+1) s1 s2 s1 (Int.ofNat s1.length) 0) λr2=>.i (isL r2) (.k (getL r2)) (.i (decide (Int.ofNat (getR r2).1.length<Int.ofNat (getR r2).2.length)) (.k (-1:Int)) (.k 0))
def zbM (zI:Term->Term->Bool×Int) (s1:yB) (s2:yB):=(zhz zI s1 s2).fin default
theorem zgz (zI:Term->Term->Bool×Int) (znT:SdP 225 (zfs zI)):SdP 224 (zbK (zbM zI)):=
 sT (cx':=(zdi zI)) (zi ⟨znT,trivial⟩) call224 func224 (lOK (aC (zgZ zI) aN))
def zb8:Nat->(yB->yB->Bool×Int)×(Term->Term->Bool×Int)×(Term->Term->Bool×Int)×(Fc->Fc->Bool×Int)×(At->At->Bool×Int)×(Wd->Wd->Bool×Int)×(yB->yB->Bool×Int)×(yC->yC->Bool×Int)×(yA->yA->Bool×Int)×(yD->yD->Bool×Int)
 | 0=>(λ_ _=>(false,default),λ_ _=>(false,default),λ_ _=>(false,default),λ_ _=>(false,default),λ_ _=>(false,default),λ_ _=>(false,default),λ_ _=>(false,default),λ_ _=>(false,default),λ_ _=>(false,default),λ_ _=>(false,default))
 | n+1=>(znv ((zb8 n).2.2.2.2.2.2.1) ((zb8 n).2.1),zkq ((zb8 n).2.2.1),zi3 ((zb8 n).2.2.2.2.2.2.2.1) ((zb8 n).2.2.2.1),zii ((zb8 n).2.2.2.2.1),zi5 ((zb8 n).2.2.2.2.2.2.2.2.1) ((zb8 n).1) ((zb8 n).2.2.2.2.2.2.2.2.2) ((zb8 n).2.2.2.2.2.1),zjd ((zb8 n).1),zbM ((zb8 n).2.1),zbm ((zb8 n).2.2.2.1),zbf ((zb8 n).1),zbB ((zb8 n).2.2.2.2.2.1))
def zfv (n:Nat):yB->yB->Bool×Int:=(zb8 n).1
def zhV (n:Nat):Term->Term->Bool×Int:=(zb8 n).2.1
def zgu (n:Nat):Term->Term->Bool×Int:=(zb8 n).2.2.1
def zfp (n:Nat):Fc->Fc->Bool×Int:=(zb8 n).2.2.2.1
def zgr (n:Nat):At->At->Bool×Int:=(zb8 n).2.2.2.2.1
def zev (n:Nat):Wd->Wd->Bool×Int:=(zb8 n).2.2.2.2.2.1
def zbL (n:Nat):yB->yB->Bool×Int:=(zb8 n).2.2.2.2.2.2.1
def zbQ (n:Nat):yC->yC->Bool×Int:=(zb8 n).2.2.2.2.2.2.2.1
def zbg (n:Nat):yA->yA->Bool×Int:=(zb8 n).2.2.2.2.2.2.2.2.1
def zbE (n:Nat):yD->yD->Bool×Int:=(zb8 n).2.2.2.2.2.2.2.2.2
theorem zJY (n:Nat):zfv (n+1)=znv (zbL n) (zhV n):=rfl
theorem zFH (n:Nat):zhV (n+1)=zkq (zgu n):=rfl
theorem zC7 (n:Nat):zgu (n+1)=zi3 (zbQ n) (zfp n):=rfl
theorem zBt (n:Nat):zfp (n+1)=zii (zgr n):=rfl
theorem zC4 (n:Nat):zgr (n+1)=zi5 (zbg n) (zfv n) (zbE n) (zev n):=rfl
theorem zCY (n:Nat):zev (n+1)=zjd (zfv n):=rfl
theorem zhk (n:Nat):zbL (n+1)=zbM (zhV n):=rfl
theorem zhL (n:Nat):zbQ (n+1)=zbm (zfp n):=rfl
theorem zeO (n:Nat):zbg (n+1)=zbf (zfv n):=rfl
theorem zf1 (n:Nat):zbE (n+1)=zbB (zev n):=rfl
theorem zus:∀ n,SdP 170 (zdG (zfv n))/\SdP 225 (zfs (zhV n))/\SdP 104 (zfs (zgu n))/\SdP 166 (zdV (zfp n))/\SdP 106 (zgq (zgr n))/\SdP 172 (zdE (zev n))/\SdP 224 (zbK (zbL n))/\SdP 165 (zbP (zbQ n))/\SdP 169 (zbi (zbg n))/\SdP 171 (zbC (zbE n))
 | 0=>⟨z8 call170 (λ_=>rfl),z8 call225 (λ_=>rfl),z8 call104 (λ_=>rfl),z8 call166 (λ_=>rfl),z8 call106 (λ_=>rfl),z8 call172 (λ_=>rfl),z8 call224 (λ_=>rfl),z8 call165 (λ_=>rfl),z8 call169 (λ_=>rfl),z8 call171 (λ_=>rfl)⟩
 | n+1=>by
  have ih:=zus n;exact ⟨zFK _ _ (ih.2.2.2.2.2.2.1) (ih.2.1),zB2 _ (ih.2.2.1),zAv _ _ (ih.2.2.2.2.2.2.2.1) (ih.2.2.2.1),zyd _ (ih.2.2.2.2.1),zAt _ _ _ _ (ih.2.2.2.2.2.2.2.2.1) (ih.1) (ih.2.2.2.2.2.2.2.2.2) (ih.2.2.2.2.2.1),zAm _ (ih.1),zgz _ (ih.2.1),zg1 _ (ih.2.2.2.1),zep _ (ih.1),zft _ (ih.2.2.2.2.2.1)⟩
def zwV:yB->yB->Bool×Int:=zfv 1000
def zxJ:Ab.Spec ty:=zdG zwV
theorem zIy:SdP 170 zxJ:=(zus 1000).1
def zcf:Term->Term->Bool×Int:=zgu 1000
def zhH:Ab.Spec ty:=zfs zcf
theorem zkl:SdP 104 zhH:=(zus 1000).2.2.1
def zhS:At->At->Bool×Int:=zgr 1000
def zkT:Ab.Spec ty:=zgq zhS
theorem zrH:SdP 106 zkT:=(zus 1000).2.2.2.2.1
def zbp:Wd->Wd->Bool×Int:=zev 1000
def ze1:Ab.Spec ty:=zdE zbp
theorem zgT:SdP 172 ze1:=(zus 1000).2.2.2.2.2.1
def zQJ:=zbu base 9 [(170,zxJ)]
def zDC (a:yB) (b:yB):Wy0 (Bool):=.bn (zwV a b) λr0=>.k (r0==0)
def zfz (a:yB) (b:yB):=(zDC a b).fin default
def zl2:=zh zOr λx=>((zfz x.1 x.2.1).1,zQK (zfz x.1 x.2.1).2)
theorem zrv:SdP 115 zl2:=
 sT (cx':=zQJ) (zi ⟨zIy,trivial⟩) call115 func115 (lOK aN)
end Go.Proofs.YtoknknbmfmddbaaGreatDoor
end
