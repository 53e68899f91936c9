/- Texts of this claim, joined (the program, its functions in plain words, and what they compute). -/
import Derived.KernelRfl
import Derived.Test.YtoknknbmfmddbaaGreatDoorChecked
import Derived.Test.YtoknknbmfmddbaaGreatDoorProg
import Derived.Test.YtoknknbmfmddbaaGreatDoorGB1
set_option autoImplicit false
set_option linter.unusedVariables false
set_option linter.unusedSectionVars false
set_option linter.unusedSimpArgs false
set_option maxRecDepth 1000000
set_option maxHeartbeats 0
/- The types of the program, as plain data. -/
noncomputable section
namespace Go.Proofs.YtoknknbmfmddbaaGreatDoor
open Go Go.Ab
open Go.Proofs Go.Shelf
open Go.Proofs.Tryz
structure Column where
 Name:ByteArray
 Type_:Int
 deriving DecidableEq,Inhabited
structure Value where
 Kind:Int
 Int:Int
 Text:ByteArray
 deriving DecidableEq,Inhabited
structure RowID where
 Table:Int
 Seq:Int
 deriving DecidableEq,Inhabited
structure FO (A:Type) where
 At:A
 Exp:Int
structure TO (A:Type) where
 Cf:Int
 Fs:List (FO A)
structure WO (A:Type) where
 Value:Value
 Ann:List (TO A)
structure At where
 Kind:Int
 Row:RowID
 Ag:List (List (TO At))
 Func:Int
 Items:List (WO At)
 Op:Int
 Bd:Value
abbrev Fc:=FO At
abbrev Term:=TO At
abbrev Wd:=WO At
instance:Inhabited At:=⟨⟨0,default,[],0,[],0,default⟩⟩
instance:Inhabited Fc:=⟨⟨default,0⟩⟩
instance:Inhabited Term:=⟨⟨0,[]⟩⟩
instance:Inhabited Wd:=⟨⟨default,[]⟩⟩
theorem At.eta (x:At):(⟨x.Kind,x.Row,x.Ag,x.Func,x.Items,x.Op,x.Bd⟩:At)=x:=by cases x; rfl
mutual
def z6c:(x y:At)->Decidable (x=y)
 | ⟨k,r,a,f,i,o,b⟩,⟨k',r',a',f',i',o',b'⟩=>
  match decEq k k',decEq r r',z5S a a',decEq f f',z4s i i',decEq o o',decEq b b' with
  | .isTrue h1,.isTrue h2,.isTrue h3,.isTrue h4,.isTrue h5,.isTrue h6,.isTrue h7=>.isTrue (by subst h1 h2 h3 h4 h5 h6 h7; rfl)
  | .isFalse h,_,_,_,_,_,_=>.isFalse (λe=>by cases e; exact h rfl)
  | _,.isFalse h,_,_,_,_,_=>.isFalse (λe=>by cases e; exact h rfl)
  | _,_,.isFalse h,_,_,_,_=>.isFalse (λe=>by cases e; exact h rfl)
  | _,_,_,.isFalse h,_,_,_=>.isFalse (λe=>by cases e; exact h rfl)
  | _,_,_,_,.isFalse h,_,_=>.isFalse (λe=>by cases e; exact h rfl)
  | _,_,_,_,_,.isFalse h,_=>.isFalse (λe=>by cases e; exact h rfl)
  | _,_,_,_,_,_,.isFalse h=>.isFalse (λe=>by cases e; exact h rfl)
def z1B:(x y:Fc)->Decidable (x=y)
 | ⟨a,e⟩,⟨a',e'⟩=>match z6c a a',decEq e e' with
  | .isTrue h1,.isTrue h2=>.isTrue (by subst h1 h2; rfl)
  | .isFalse h,_=>.isFalse (λe=>by cases e; exact h rfl)
  | _,.isFalse h=>.isFalse (λe=>by cases e; exact h rfl)
def zYV:(x y:List Fc)->Decidable (x=y)
 | [],[]=>.isTrue rfl
 | [],_::_=>.isFalse (by simp)
 | _::_,[]=>.isFalse (by simp)
 | x::r,y::s=>match z1B x y,zYV r s with
  | .isTrue h1,.isTrue h2=>.isTrue (by subst h1 h2; rfl)
  | .isFalse h,_=>.isFalse (λe=>by cases e; exact h rfl)
  | _,.isFalse h=>.isFalse (λe=>by cases e; exact h rfl)
def z58:(x y:Term)->Decidable (x=y)
 | ⟨a,e⟩,⟨a',e'⟩=>match decEq a a',zYV e e' with
  | .isTrue h1,.isTrue h2=>.isTrue (by subst h1 h2; rfl)
  | .isFalse h,_=>.isFalse (λe=>by cases e; exact h rfl)
  | _,.isFalse h=>.isFalse (λe=>by cases e; exact h rfl)
def z36:(x y:List Term)->Decidable (x=y)
 | [],[]=>.isTrue rfl
 | [],_::_=>.isFalse (by simp)
 | _::_,[]=>.isFalse (by simp)
 | x::r,y::s=>match z58 x y,z36 r s with
  | .isTrue h1,.isTrue h2=>.isTrue (by subst h1 h2; rfl)
  | .isFalse h,_=>.isFalse (λe=>by cases e; exact h rfl)
  | _,.isFalse h=>.isFalse (λe=>by cases e; exact h rfl)
def z5S:(x y:List (List Term))->Decidable (x=y)
 | [],[]=>.isTrue rfl
 | [],_::_=>.isFalse (by simp)
 | _::_,[]=>.isFalse (by simp)
 | x::r,y::s=>match z36 x y,z5S r s with
  | .isTrue h1,.isTrue h2=>.isTrue (by subst h1 h2; rfl)
  | .isFalse h,_=>.isFalse (λe=>by cases e; exact h rfl)
  | _,.isFalse h=>.isFalse (λe=>by cases e; exact h rfl)
def z5E:(x y:Wd)->Decidable (x=y)
 | ⟨a,e⟩,⟨a',e'⟩=>match decEq a a',z36 e e' with
  | .isTrue h1,.isTrue h2=>.isTrue (by subst h1 h2; rfl)
  | .isFalse h,_=>.isFalse (λe=>by cases e; exact h rfl)
  | _,.isFalse h=>.isFalse (λe=>by cases e; exact h rfl)
def z4s:(x y:List Wd)->Decidable (x=y)
 | [],[]=>.isTrue rfl
 | [],_::_=>.isFalse (by simp)
 | _::_,[]=>.isFalse (by simp)
 | x::r,y::s=>match z5E x y,z4s r s with
  | .isTrue h1,.isTrue h2=>.isTrue (by subst h1 h2; rfl)
  | .isFalse h,_=>.isFalse (λe=>by cases e; exact h rfl)
  | _,.isFalse h=>.isFalse (λe=>by cases e; exact h rfl)
end
instance:DecidableEq At:=z6c
instance:DecidableEq Fc:=z1B
instance:DecidableEq Term:=z58
instance:DecidableEq Wd:=z5E
structure Row where
 Values:List Value
 Ann:List Term
 deriving DecidableEq,Inhabited
structure Relation where
 Columns:List Column
 Rows:List Row
 deriving DecidableEq,Inhabited
structure Table where
 ID:Int
 Name:ByteArray
 Columns:List Column
 Rows:List Row
 deriving DecidableEq,Inhabited
structure Bg where
 Row:RowID
 To:List Term
 deriving DecidableEq,Inhabited
structure pair where
 c:Column
 v:Value
 deriving DecidableEq,Inhabited
abbrev yA:=List (List Term)
abbrev yB:=List Term
abbrev yC:=List Fc
abbrev yD:=List Wd
abbrev yE:=List Bg
abbrev yF:=List Row
abbrev yG:=List Value
abbrev yH:=List Column
def ty:Nat->Type
 | 2=>Int
 | 3=>Int
 | 4=>Bool
 | 5=>Int
 | 9=>ByteArray
 | 22=>yH
 | 23=>yF
 | 25=>Relation
 | 28=>List ByteArray
 | 32=>List (yG)
 | 34=>yG
 | 36=>Table
 | 39=>Int
 | 50=>yB
 | 51=>yB
 | 54=>Row
 | 60=>yE
 | 63=>RowID
 | 65=>Bg
 | 69=>List RowID
 | 73=>List Relation
 | 75=>Column
 | 79=>Value
 | 105=>yC
 | 107=>Term
 | 110=>yA
 | 120=>List Int
 | 135=>List pair
 | 137=>pair
 | 141=>yD
 | 143=>At
 | 145=>Fc
 | 155=>List (yF)
 | 169=>Wd
 | 207=>Unit
 | 218=>Int
 | 223=>Int
 | 234=>List Int
 | 282=>List (yC)
 | _=>Unit
instance:(T:Nat)->Inhabited (ty T):=λT=>by
 unfold ty;split <;>infer_instance
def zbcb:DT ty Column:=zA9 (λx=>⟨x.1,x.2⟩) (λx=>(x.Name,x.Type_)) (λ_=>rfl) (zkH (z2A) (zto .i64))
def z7p:DT ty Value:=zA9 (λx=>⟨x.1,x.2.1,x.2.2⟩) (λx=>(x.Kind,x.Int,x.Text)) (λ_=>rfl) (zkH (zto .i64) (zkH (zto .i64) (z2A)))
def z92:DT ty RowID:=zA9 (λx=>⟨x.1,x.2⟩) (λx=>(x.Table,x.Seq)) (λ_=>rfl) (zkH (zto .i64) (zto .i64))
def zbau:DT ty At:=zA9 (λx=>⟨x.1,x.2.1,x.2.2.1,x.2.2.2.1,x.2.2.2.2.1,x.2.2.2.2.2.1,x.2.2.2.2.2.2⟩) (λx=>(x.Kind,x.Row,x.Ag,x.Func,x.Items,x.Op,x.Bd)) (λ_=>rfl) (zkH (zto .i64) (zkH (z92) (zkH (zlz 51) (zkH (zto .i64) (zkH (zlz 169) (zkH (zto .i64) (z7p)))))))
def zbdF:DT ty Fc:=zA9 (λx=>⟨x.1,x.2⟩) (λx=>(x.At,x.Exp)) (λ_=>rfl) (zkH (zbau) (zto .i64))
def zbd2:DT ty Term:=zA9 (λx=>⟨x.1,x.2⟩) (λx=>(x.Cf,x.Fs)) (λ_=>rfl) (zkH (zto .i64) (zlz 145))
def zbdG:DT ty Wd:=zA9 (λx=>⟨x.1,x.2⟩) (λx=>(x.Value,x.Ann)) (λ_=>rfl) (zkH (z7p) (zlz 107))
def zbej:DT ty Row:=zA9 (λx=>⟨x.1,x.2⟩) (λx=>(x.Values,x.Ann)) (λ_=>rfl) (zkH (zlz 79) (zlz 107))
def zbd3:DT ty Relation:=zA9 (λx=>⟨x.1,x.2⟩) (λx=>(x.Columns,x.Rows)) (λ_=>rfl) (zkH (zlz 75) (zlz 54))
def zbeb:DT ty Table:=zA9 (λx=>⟨x.1,x.2.1,x.2.2.1,x.2.2.2⟩) (λx=>(x.ID,x.Name,x.Columns,x.Rows)) (λ_=>rfl) (zkH (zto .i64) (zkH (z2A) (zkH (zlz 75) (zlz 54))))
def zbef:DT ty Bg:=zA9 (λx=>⟨x.1,x.2⟩) (λx=>(x.Row,x.To)) (λ_=>rfl) (zkH (z92) (zlz 107))
def zbdv:DT ty pair:=zA9 (λx=>⟨x.1,x.2⟩) (λx=>(x.c,x.v)) (λ_=>rfl) (zkH (zbcb) (z7p))
def zXT:List ((T:Nat)×DT ty (ty T)):=[⟨2,(zto .i64:DT ty Int)⟩,⟨3,(zto .i64:DT ty Int)⟩,⟨4,(zbc4:DT ty Bool)⟩,⟨5,(zto .u8:DT ty Int)⟩,⟨9,(z2A:DT ty ByteArray)⟩,⟨22,(zlz 75:DT ty (yH))⟩,⟨23,(zlz 54:DT ty (yF))⟩,⟨25,(zbd3:DT ty Relation)⟩,⟨28,(zlz 9:DT ty (List ByteArray))⟩,⟨32,(zlz 34:DT ty (List (yG)))⟩,⟨34,(zlz 79:DT ty (yG))⟩,⟨36,(zbeb:DT ty Table)⟩,⟨39,(zto .i64:DT ty Int)⟩,⟨50,(zlz 107:DT ty (yB))⟩,⟨51,(zlz 107:DT ty (yB))⟩,⟨54,(zbej:DT ty Row)⟩,⟨60,(zlz 65:DT ty (yE))⟩,⟨63,(z92:DT ty RowID)⟩,⟨65,(zbef:DT ty Bg)⟩,⟨69,(zlz 63:DT ty (List RowID))⟩,⟨73,(zlz 25:DT ty (List Relation))⟩,⟨75,(zbcb:DT ty Column)⟩,⟨79,(z7p:DT ty Value)⟩,⟨105,(zlz 145:DT ty (yC))⟩,⟨107,(zbd2:DT ty Term)⟩,⟨110,(zlz 51:DT ty (yA))⟩,⟨120,(zlz 5:DT ty (List Int))⟩,⟨135,(zlz 137:DT ty (List pair))⟩,⟨137,(zbdv:DT ty pair)⟩,⟨141,(zlz 169:DT ty (yD))⟩,⟨143,(zbau:DT ty At)⟩,⟨145,(zbdF:DT ty Fc)⟩,⟨155,(zlz 23:DT ty (List (yF)))⟩,⟨169,(zbdG:DT ty Wd)⟩,⟨207,(zbee:DT ty Unit)⟩,⟨218,(zto .u64:DT ty Int)⟩,⟨223,(zto .u64:DT ty Int)⟩,⟨234,(zlz 3:DT ty (List Int))⟩,⟨282,(zlz 105:DT ty (List (yC)))⟩]
def z2o:List (Nat×TInfo):=[(2,⟨.int .i64,1,8,[.int .i64 (0)]⟩),
 (3,⟨.int .i64,1,8,[.int .i64 (0)]⟩),
 (4,⟨.bool,1,1,[.bool false]⟩),
 (5,⟨.int .u8,1,1,[.int .u8 (0)]⟩),
 (9,⟨.str,1,16,[.string ⟨#[]⟩]⟩),
 (22,⟨.slice 75,1,24,[.slice none 0 0]⟩),
 (23,⟨.slice 54,1,24,[.slice none 0 0]⟩),
 (25,⟨.struct [(0,22),(1,23)],2,48,[.slice none 0 0,.slice none 0 0]⟩),
 (28,⟨.slice 9,1,24,[.slice none 0 0]⟩),
 (32,⟨.slice 34,1,24,[.slice none 0 0]⟩),
 (34,⟨.slice 79,1,24,[.slice none 0 0]⟩),
 (36,⟨.struct [(0,3),(1,9),(2,22),(3,23)],4,72,[.int .i64 (0),.string ⟨#[]⟩,.slice none 0 0,.slice none 0 0]⟩),
 (39,⟨.int .i64,1,8,[.int .i64 (0)]⟩),
 (50,⟨.slice 107,1,24,[.slice none 0 0]⟩),
 (51,⟨.slice 107,1,24,[.slice none 0 0]⟩),
 (54,⟨.struct [(0,34),(1,51)],2,48,[.slice none 0 0,.slice none 0 0]⟩),
 (60,⟨.slice 65,1,24,[.slice none 0 0]⟩),
 (63,⟨.struct [(0,3),(1,3)],2,16,[.int .i64 (0),.int .i64 (0)]⟩),
 (65,⟨.struct [(0,63),(2,51)],3,40,[.int .i64 (0),.int .i64 (0),.slice none 0 0]⟩),
 (69,⟨.slice 63,1,24,[.slice none 0 0]⟩),
 (73,⟨.slice 25,1,24,[.slice none 0 0]⟩),
 (75,⟨.struct [(0,9),(1,3)],2,24,[.string ⟨#[]⟩,.int .i64 (0)]⟩),
 (79,⟨.struct [(0,3),(1,2),(2,9)],3,32,[.int .i64 (0),.int .i64 (0),.string ⟨#[]⟩]⟩),
 (105,⟨.slice 145,1,24,[.slice none 0 0]⟩),
 (107,⟨.struct [(0,2),(1,105)],2,32,[.int .i64 (0),.slice none 0 0]⟩),
 (110,⟨.slice 51,1,24,[.slice none 0 0]⟩),
 (120,⟨.slice 5,1,24,[.slice none 0 0]⟩),
 (135,⟨.slice 137,1,24,[.slice none 0 0]⟩),
 (137,⟨.struct [(0,75),(2,79)],5,56,[.string ⟨#[]⟩,.int .i64 (0),.int .i64 (0),.int .i64 (0),.string ⟨#[]⟩]⟩),
 (141,⟨.slice 169,1,24,[.slice none 0 0]⟩),
 (143,⟨.struct [(0,3),(1,63),(3,110),(4,3),(5,141),(6,3),(7,79)],10,120,[.int .i64 (0),.int .i64 (0),.int .i64 (0),.slice none 0 0,.int .i64 (0),.slice none 0 0,.int .i64 (0),.int .i64 (0),.int .i64 (0),.string ⟨#[]⟩]⟩),
 (145,⟨.struct [(0,143),(10,3)],11,128,[.int .i64 (0),.int .i64 (0),.int .i64 (0),.slice none 0 0,.int .i64 (0),.slice none 0 0,.int .i64 (0),.int .i64 (0),.int .i64 (0),.string ⟨#[]⟩,.int .i64 (0)]⟩),
 (155,⟨.slice 23,1,24,[.slice none 0 0]⟩),
 (169,⟨.struct [(0,79),(3,51)],4,56,[.int .i64 (0),.int .i64 (0),.string ⟨#[]⟩,.slice none 0 0]⟩),
 (207,⟨.map 9 3,1,8,[.map none]⟩),
 (218,⟨.int .u64,1,8,[.int .u64 (0)]⟩),
 (223,⟨.int .u64,1,8,[.int .u64 (0)]⟩),
 (234,⟨.slice 3,1,24,[.slice none 0 0]⟩),
 (282,⟨.slice 105,1,24,[.slice none 0 0]⟩)]
def zSS:List (Nat×List TD):=[(75,[.str,.int .i64]),(79,[.int .i64,.int .i64,.str]),(63,[.int .i64,.int .i64])]
def inv (w:World):Prop:=Lib.TabIs Tryz.prog w "internal/strconv.uint64pow10" .u64 Lib.pow10Tab/\(∃ m,w.cell? ⟨0,0,none⟩=some (.int .i64 m))
theorem z85 {n:String} {g:Nat} {w w':World} (hg:Tryz.prog.globalNamed n=some g) (h:w'.heap[g]? =w.heap[g]?):w'.var? Tryz.prog n=w.var? Tryz.prog n:=by
 unfold World.var?; rw [hg]; simp only [Option.bind_some,h]
theorem z6T (w w':World) (hi:inv w) (hb:∀ b,b<4->w'.heap[b]? =w.heap[b]?):inv w':=by
 obtain ⟨h1,⟨m,h2⟩⟩:=hi;refine ⟨(z85 (g:=1) (by kernel_rfl) (hb 1 (by omega))).trans h1,⟨m, ?_⟩⟩
 rw [<- h2]; exact World.cell?_of_block (a:=⟨0,0,none⟩) (hb 0 (by omega))
def base:Cx ty:={ ti:=λT=>z2o.lookup T,dflt:=λ_=>default,enc:=λT=>(z27 zXT T).enc,dec:=λT=>(z27 zXT T).dec,spec:=λ_=>none,io:=λ_=>[],eqs:=λT us vs=>match zSS.lookup T with | some ts=>zbc ts us vs | none=>none,nt:=0,head:=λ_=>[],out:=λ_ _=>[],loops:=λ_=>none,ng:=4,inv:=inv }
theorem z7q:Tryz.prog.info? 2=some Tryz.t2:=by kernel_rfl
theorem zE6:Tryz.prog.info? 3=some Tryz.t3:=by kernel_rfl
theorem zbdT:Tryz.prog.info? 4=some Tryz.t4:=by kernel_rfl
theorem zbdS:Tryz.prog.info? 5=some Tryz.t5:=by kernel_rfl
theorem z2C:Tryz.prog.info? 9=some Tryz.t9:=by kernel_rfl
theorem z3a:Tryz.prog.info? 22=some Tryz.t22:=by kernel_rfl
theorem z3s:Tryz.prog.info? 23=some Tryz.t23:=by kernel_rfl
theorem zbdd:Tryz.prog.info? 25=some Tryz.t25:=by kernel_rfl
theorem zbcs:Tryz.prog.info? 28=some Tryz.t28:=by kernel_rfl
theorem zbb4:Tryz.prog.info? 32=some Tryz.t32:=by kernel_rfl
theorem z8M:Tryz.prog.info? 34=some Tryz.t34:=by kernel_rfl
theorem zbb0:Tryz.prog.info? 36=some Tryz.t36:=by kernel_rfl
theorem zbce:Tryz.prog.info? 39=some Tryz.t39:=by kernel_rfl
theorem zbdi:Tryz.prog.info? 50=some Tryz.t50:=by kernel_rfl
theorem zYT:Tryz.prog.info? 51=some Tryz.t51:=by kernel_rfl
theorem zbcq:Tryz.prog.info? 54=some Tryz.t54:=by kernel_rfl
theorem zbc5:Tryz.prog.info? 60=some Tryz.t60:=by kernel_rfl
theorem z3W:Tryz.prog.info? 63=some Tryz.t63:=by kernel_rfl
theorem zbc3:Tryz.prog.info? 65=some Tryz.t65:=by kernel_rfl
theorem zbc7:Tryz.prog.info? 69=some Tryz.t69:=by kernel_rfl
theorem zbb8:Tryz.prog.info? 73=some Tryz.t73:=by kernel_rfl
theorem z8l:Tryz.prog.info? 75=some Tryz.t75:=by kernel_rfl
theorem zXV:Tryz.prog.info? 79=some Tryz.t79:=by kernel_rfl
theorem z6a:Tryz.prog.info? 105=some Tryz.t105:=by kernel_rfl
theorem zbba:Tryz.prog.info? 107=some Tryz.t107:=by kernel_rfl
theorem z5J:Tryz.prog.info? 110=some Tryz.t110:=by kernel_rfl
theorem zbaz:Tryz.prog.info? 120=some Tryz.t120:=by kernel_rfl
theorem zbaP:Tryz.prog.info? 135=some Tryz.t135:=by kernel_rfl
theorem zbaA:Tryz.prog.info? 137=some Tryz.t137:=by kernel_rfl
theorem z5T:Tryz.prog.info? 141=some Tryz.t141:=by kernel_rfl
theorem z5m:Tryz.prog.info? 143=some Tryz.t143:=by kernel_rfl
theorem zbaJ:Tryz.prog.info? 145=some Tryz.t145:=by kernel_rfl
theorem zbbW:Tryz.prog.info? 155=some Tryz.t155:=by kernel_rfl
theorem zbaI:Tryz.prog.info? 169=some Tryz.t169:=by kernel_rfl
theorem zbbK:Tryz.prog.info? 207=some Tryz.t207:=by kernel_rfl
theorem zbbE:Tryz.prog.info? 218=some Tryz.t218:=by kernel_rfl
theorem zbbB:Tryz.prog.info? 223=some Tryz.t223:=by kernel_rfl
theorem zbaS:Tryz.prog.info? 234=some Tryz.t234:=by kernel_rfl
theorem zbbF:Tryz.prog.info? 282=some Tryz.t282:=by kernel_rfl
theorem zbaL:∀ T i,z2o.lookup T=some i->InfoOK Tryz.prog T i:=by
 intro T i h;have h:=zHm _ _ _ h;simp only [z2o,qd,List.not_mem_nil,or_false,qb] at h;rcases h with ⟨rfl,rfl⟩ | ⟨rfl,rfl⟩ | ⟨rfl,rfl⟩ | ⟨rfl,rfl⟩ | ⟨rfl,rfl⟩ | ⟨rfl,rfl⟩ | ⟨rfl,rfl⟩ | ⟨rfl,rfl⟩ | ⟨rfl,rfl⟩ | ⟨rfl,rfl⟩ | ⟨rfl,rfl⟩ | ⟨rfl,rfl⟩ | ⟨rfl,rfl⟩ | ⟨rfl,rfl⟩ | ⟨rfl,rfl⟩ | ⟨rfl,rfl⟩ | ⟨rfl,rfl⟩ | ⟨rfl,rfl⟩ | ⟨rfl,rfl⟩ | ⟨rfl,rfl⟩ | ⟨rfl,rfl⟩ | ⟨rfl,rfl⟩ | ⟨rfl,rfl⟩ | ⟨rfl,rfl⟩ | ⟨rfl,rfl⟩ | ⟨rfl,rfl⟩ | ⟨rfl,rfl⟩ | ⟨rfl,rfl⟩ | ⟨rfl,rfl⟩ | ⟨rfl,rfl⟩ | ⟨rfl,rfl⟩ | ⟨rfl,rfl⟩ | ⟨rfl,rfl⟩ | ⟨rfl,rfl⟩ | ⟨rfl,rfl⟩ | ⟨rfl,rfl⟩ | ⟨rfl,rfl⟩ | ⟨rfl,rfl⟩ | ⟨rfl,rfl⟩
 ·exact ⟨Tryz.t2,_,_,z7q,underlying2,rfl,rfl,rfl,rfl,rfl,⟨by simp [zbv],λ_=>rfl⟩,rfl⟩
 ·exact ⟨Tryz.t3,_,_,zE6,underlying3,rfl,rfl,rfl,rfl,rfl,⟨by simp [zbv],λ_=>rfl⟩,rfl⟩
 ·exact ⟨Tryz.t4,_,_,zbdT,underlying4,rfl,rfl,rfl,rfl,rfl,⟨by simp [zbv],λ_=>rfl⟩,rfl⟩
 ·exact ⟨Tryz.t5,_,_,zbdS,underlying5,rfl,rfl,rfl,rfl,rfl,⟨by simp [zbv],λ_=>rfl⟩,rfl⟩
 ·exact ⟨Tryz.t9,_,_,z2C,underlying9,rfl,rfl,rfl,rfl,rfl,⟨by simp [zbv],λ_=>rfl⟩,rfl⟩
 ·exact ⟨Tryz.t22,_,_,z3a,underlying22,rfl,rfl,rfl,rfl,rfl,⟨by simp [zbv],λ_=>rfl⟩,rfl⟩
 ·exact ⟨Tryz.t23,_,_,z3s,underlying23,rfl,rfl,rfl,rfl,rfl,⟨by simp [zbv],λ_=>rfl⟩,rfl⟩
 ·exact ⟨Tryz.t25,_,_,zbdd,underlying25,rfl,rfl,rfl,rfl,rfl,⟨by simp [zbv],λh=>by cases h⟩,⟨_,rfl,rfl,λf hf=>by
   simp only [qd,List.not_mem_nil,or_false] at hf;rcases hf with rfl | rfl
   ·exact Option.isSome_iff_exists.2 ⟨_,z3a⟩
   ·exact Option.isSome_iff_exists.2 ⟨_,z3s⟩⟩⟩
 ·exact ⟨Tryz.t28,_,_,zbcs,underlying28,rfl,rfl,rfl,rfl,rfl,⟨by simp [zbv],λ_=>rfl⟩,rfl⟩
 ·exact ⟨Tryz.t32,_,_,zbb4,underlying32,rfl,rfl,rfl,rfl,rfl,⟨by simp [zbv],λ_=>rfl⟩,rfl⟩
 ·exact ⟨Tryz.t34,_,_,z8M,underlying34,rfl,rfl,rfl,rfl,rfl,⟨by simp [zbv],λ_=>rfl⟩,rfl⟩
 ·exact ⟨Tryz.t36,_,_,zbb0,underlying36,rfl,rfl,rfl,rfl,rfl,⟨by simp [zbv],λh=>by cases h⟩,⟨_,rfl,rfl,λf hf=>by
   simp only [qd,List.not_mem_nil,or_false] at hf;rcases hf with rfl | rfl | rfl | rfl
   ·exact Option.isSome_iff_exists.2 ⟨_,zE6⟩
   ·exact Option.isSome_iff_exists.2 ⟨_,z2C⟩
   ·exact Option.isSome_iff_exists.2 ⟨_,z3a⟩
   ·exact Option.isSome_iff_exists.2 ⟨_,z3s⟩⟩⟩
 ·exact ⟨Tryz.t39,_,_,zbce,underlying39,rfl,rfl,rfl,rfl,rfl,⟨by simp [zbv],λ_=>rfl⟩,rfl⟩
 ·exact ⟨Tryz.t50,_,_,zbdi,underlying50,rfl,rfl,rfl,rfl,rfl,⟨by simp [zbv],λ_=>rfl⟩,rfl⟩
 ·exact ⟨Tryz.t51,_,_,zYT,underlying51,rfl,rfl,rfl,rfl,rfl,⟨by simp [zbv],λ_=>rfl⟩,rfl⟩
 ·exact ⟨Tryz.t54,_,_,zbcq,underlying54,rfl,rfl,rfl,rfl,rfl,⟨by simp [zbv],λh=>by cases h⟩,⟨_,rfl,rfl,λf hf=>by
   simp only [qd,List.not_mem_nil,or_false] at hf;rcases hf with rfl | rfl
   ·exact Option.isSome_iff_exists.2 ⟨_,z8M⟩
   ·exact Option.isSome_iff_exists.2 ⟨_,zYT⟩⟩⟩
 ·exact ⟨Tryz.t60,_,_,zbc5,underlying60,rfl,rfl,rfl,rfl,rfl,⟨by simp [zbv],λ_=>rfl⟩,rfl⟩
 ·exact ⟨Tryz.t63,_,_,z3W,underlying63,rfl,rfl,rfl,rfl,rfl,⟨by simp [zbv],λh=>by cases h⟩,⟨_,rfl,rfl,λf hf=>by
   simp only [qd,List.not_mem_nil,or_false] at hf;rcases hf with rfl | rfl
   ·exact Option.isSome_iff_exists.2 ⟨_,zE6⟩
   ·exact Option.isSome_iff_exists.2 ⟨_,zE6⟩⟩⟩
 ·exact ⟨Tryz.t65,_,_,zbc3,underlying65,rfl,rfl,rfl,rfl,rfl,⟨by simp [zbv],λh=>by cases h⟩,⟨_,rfl,rfl,λf hf=>by
   simp only [qd,List.not_mem_nil,or_false] at hf;rcases hf with rfl | rfl
   ·exact Option.isSome_iff_exists.2 ⟨_,z3W⟩
   ·exact Option.isSome_iff_exists.2 ⟨_,zYT⟩⟩⟩
 ·exact ⟨Tryz.t69,_,_,zbc7,underlying69,rfl,rfl,rfl,rfl,rfl,⟨by simp [zbv],λ_=>rfl⟩,rfl⟩
 ·exact ⟨Tryz.t73,_,_,zbb8,underlying73,rfl,rfl,rfl,rfl,rfl,⟨by simp [zbv],λ_=>rfl⟩,rfl⟩
 ·exact ⟨Tryz.t75,_,_,z8l,underlying75,rfl,rfl,rfl,rfl,rfl,⟨by simp [zbv],λh=>by cases h⟩,⟨_,rfl,rfl,λf hf=>by
   simp only [qd,List.not_mem_nil,or_false] at hf;rcases hf with rfl | rfl
   ·exact Option.isSome_iff_exists.2 ⟨_,z2C⟩
   ·exact Option.isSome_iff_exists.2 ⟨_,zE6⟩⟩⟩
 ·exact ⟨Tryz.t79,_,_,zXV,underlying79,rfl,rfl,rfl,rfl,rfl,⟨by simp [zbv],λh=>by cases h⟩,⟨_,rfl,rfl,λf hf=>by
   simp only [qd,List.not_mem_nil,or_false] at hf;rcases hf with rfl | rfl | rfl
   ·exact Option.isSome_iff_exists.2 ⟨_,zE6⟩
   ·exact Option.isSome_iff_exists.2 ⟨_,z7q⟩
   ·exact Option.isSome_iff_exists.2 ⟨_,z2C⟩⟩⟩
 ·exact ⟨Tryz.t105,_,_,z6a,underlying105,rfl,rfl,rfl,rfl,rfl,⟨by simp [zbv],λ_=>rfl⟩,rfl⟩
 ·exact ⟨Tryz.t107,_,_,zbba,underlying107,rfl,rfl,rfl,rfl,rfl,⟨by simp [zbv],λh=>by cases h⟩,⟨_,rfl,rfl,λf hf=>by
   simp only [qd,List.not_mem_nil,or_false] at hf;rcases hf with rfl | rfl
   ·exact Option.isSome_iff_exists.2 ⟨_,z7q⟩
   ·exact Option.isSome_iff_exists.2 ⟨_,z6a⟩⟩⟩
 ·exact ⟨Tryz.t110,_,_,z5J,underlying110,rfl,rfl,rfl,rfl,rfl,⟨by simp [zbv],λ_=>rfl⟩,rfl⟩
 ·exact ⟨Tryz.t120,_,_,zbaz,underlying120,rfl,rfl,rfl,rfl,rfl,⟨by simp [zbv],λ_=>rfl⟩,rfl⟩
 ·exact ⟨Tryz.t135,_,_,zbaP,underlying135,rfl,rfl,rfl,rfl,rfl,⟨by simp [zbv],λ_=>rfl⟩,rfl⟩
 ·exact ⟨Tryz.t137,_,_,zbaA,underlying137,rfl,rfl,rfl,rfl,rfl,⟨by simp [zbv],λh=>by cases h⟩,⟨_,rfl,rfl,λf hf=>by
   simp only [qd,List.not_mem_nil,or_false] at hf;rcases hf with rfl | rfl
   ·exact Option.isSome_iff_exists.2 ⟨_,z8l⟩
   ·exact Option.isSome_iff_exists.2 ⟨_,zXV⟩⟩⟩
 ·exact ⟨Tryz.t141,_,_,z5T,underlying141,rfl,rfl,rfl,rfl,rfl,⟨by simp [zbv],λ_=>rfl⟩,rfl⟩
 ·exact ⟨Tryz.t143,_,_,z5m,underlying143,rfl,rfl,rfl,rfl,rfl,⟨by simp [zbv],λh=>by cases h⟩,⟨_,rfl,rfl,λf hf=>by
   simp only [qd,List.not_mem_nil,or_false] at hf;rcases hf with rfl | rfl | rfl | rfl | rfl | rfl | rfl
   ·exact Option.isSome_iff_exists.2 ⟨_,zE6⟩
   ·exact Option.isSome_iff_exists.2 ⟨_,z3W⟩
   ·exact Option.isSome_iff_exists.2 ⟨_,z5J⟩
   ·exact Option.isSome_iff_exists.2 ⟨_,zE6⟩
   ·exact Option.isSome_iff_exists.2 ⟨_,z5T⟩
   ·exact Option.isSome_iff_exists.2 ⟨_,zE6⟩
   ·exact Option.isSome_iff_exists.2 ⟨_,zXV⟩⟩⟩
 ·exact ⟨Tryz.t145,_,_,zbaJ,underlying145,rfl,rfl,rfl,rfl,rfl,⟨by simp [zbv],λh=>by cases h⟩,⟨_,rfl,rfl,λf hf=>by
   simp only [qd,List.not_mem_nil,or_false] at hf;rcases hf with rfl | rfl
   ·exact Option.isSome_iff_exists.2 ⟨_,z5m⟩
   ·exact Option.isSome_iff_exists.2 ⟨_,zE6⟩⟩⟩
 ·exact ⟨Tryz.t155,_,_,zbbW,underlying155,rfl,rfl,rfl,rfl,rfl,⟨by simp [zbv],λ_=>rfl⟩,rfl⟩
 ·exact ⟨Tryz.t169,_,_,zbaI,underlying169,rfl,rfl,rfl,rfl,rfl,⟨by simp [zbv],λh=>by cases h⟩,⟨_,rfl,rfl,λf hf=>by
   simp only [qd,List.not_mem_nil,or_false] at hf;rcases hf with rfl | rfl
   ·exact Option.isSome_iff_exists.2 ⟨_,zXV⟩
   ·exact Option.isSome_iff_exists.2 ⟨_,zYT⟩⟩⟩
 ·exact ⟨Tryz.t207,_,_,zbbK,underlying207,rfl,rfl,rfl,rfl,rfl,⟨by simp [zbv],λ_=>rfl⟩,rfl⟩
 ·exact ⟨Tryz.t218,_,_,zbbE,underlying218,rfl,rfl,rfl,rfl,rfl,⟨by simp [zbv],λ_=>rfl⟩,rfl⟩
 ·exact ⟨Tryz.t223,_,_,zbbB,underlying223,rfl,rfl,rfl,rfl,rfl,⟨by simp [zbv],λ_=>rfl⟩,rfl⟩
 ·exact ⟨Tryz.t234,_,_,zbaS,underlying234,rfl,rfl,rfl,rfl,rfl,⟨by simp [zbv],λ_=>rfl⟩,rfl⟩
 ·exact ⟨Tryz.t282,_,_,zbbF,underlying282,rfl,rfl,rfl,rfl,rfl,⟨by simp [zbv],λ_=>rfl⟩,rfl⟩
theorem z9C:∀ T us vs b,(match zSS.lookup T with | some ts=>zbc ts us vs | none=>none)=some b->∀ w,z6R Tryz.prog T us vs b w:=by
 intro T us vs b h w;split at h
 ·rename_i ts hl;have hl:=zHm _ _ _ hl;simp only [zSS,qd,List.not_mem_nil,or_false,qb] at hl;rcases hl with ⟨rfl,rfl⟩ | ⟨rfl,rfl⟩ | ⟨rfl,rfl⟩
  ·refine zQS _ _ underlying75 (by kernel_rfl) (by kernel_rfl) rfl ?_ h w
   intro j f t hj ht;rcases j with _ | j
   ·simp at hj ht; subst hj ht; exact ⟨rfl,by decide,_,underlying9,rfl⟩
   rcases j with _ | j
   ·simp at hj ht; subst hj ht; exact ⟨rfl,by decide,_,underlying3,rfl⟩
   simp at hj
  ·refine zQS _ _ underlying79 (by kernel_rfl) (by kernel_rfl) rfl ?_ h w
   intro j f t hj ht;rcases j with _ | j
   ·simp at hj ht; subst hj ht; exact ⟨rfl,by decide,_,underlying3,rfl⟩
   rcases j with _ | j
   ·simp at hj ht; subst hj ht; exact ⟨rfl,by decide,_,underlying2,rfl⟩
   rcases j with _ | j
   ·simp at hj ht; subst hj ht; exact ⟨rfl,by decide,_,underlying9,rfl⟩
   simp at hj
  ·refine zQS _ _ underlying63 (by kernel_rfl) (by kernel_rfl) rfl ?_ h w
   intro j f t hj ht;rcases j with _ | j
   ·simp at hj ht; subst hj ht; exact ⟨rfl,by decide,_,underlying3,rfl⟩
   rcases j with _ | j
   ·simp at hj ht; subst hj ht; exact ⟨rfl,by decide,_,underlying3,rfl⟩
   simp at hj
 ·cases h
theorem zbad:∀ T us vs,base.eqs T us us=some true->base.eqs T vs vs=some true->base.eqs T us vs=some (zwO us vs)/\(zwO us vs=true->us=vs)/\∀ u∈us,∀ n,Instr.sameBits n u u=true:=by
 intro T us vs h1 h2;simp only [base] at h1 h2 ⊢;cases hl:zSS.lookup T with
 | none=>rw [hl] at h1; cases h1
 | some ts=>rw [hl] at h1 h2; exact zZp ts us vs h1 h2
theorem z9L:∀ T us b,base.eqs T us us=some b->b=true:=by
 intro T us b h;simp only [base] at h;cases hl:zSS.lookup T with
 | none=>rw [hl] at h; cases h
 | some ts=>rw [hl] at h; exact zWH ts us b h
abbrev SdP:=Sound Tryz.prog base
theorem zfB:CxOK Tryz.prog base:=⟨zbaL,λT x=>by rw [show zq base T=_ from (z4j zXT z2o rfl T).symm]; exact DT.len _ x,λT x c h=>by have:=DT.cell _ _ c h; revert this; cases c <;>exact id,λT cs x h F w us hr=>DT.ok _ base F w us cs x h hr,z9C,zbad,z9L,z6T⟩
def zbp:Cx ty:={ base with dr:=false }
theorem zPA:CxOK Tryz.prog zbp:=CxOK.cg (cx:=base) (cx':=zbp) ⟨rfl,rfl,rfl,rfl,rfl,rfl⟩ zfB
theorem zBb:Tryz.prog.follows .mixedOrders=true:=by kernel_rfl
theorem sT {cx':Cx ty} {α ρ:Type} (hspec:∀ g s,cx'.spec g=some s->SdP g s) {f:Nat} {fn:Func} (hent:∀ args w,(callFunc f args).run Tryz.prog w=.ok (.enter f args) w) (hf:Tryz.prog.funcs[f]? =some fn) (hl:zji cx' (body fn)) (sg:Sig:=⟨[.pure],[]⟩) {A:AL base α} {res:ρ->ARes ty} {W:α->Wy0 ρ} {z:ρ}
  (hb:fn.body=some (body fn):=by kernel_rfl)
  (hrun:∀ x,zeP cx' fn (body fn) sg (A.enc x)=(W x).ev noH (λr=>some (res r)) none:=by intro _; kernel_rfl)
  (hchk:∀ x,(Nat.ble (A.enc x).length fn.ntmps&&zKz (body fn) (A.enc x) sg.upd)=true:=by intro _; kernel_rfl) (hsame:base.Same cx':=by exact z4l):
  SdP f (zi A λx=>(((W x).fin z).1,res ((W x).fin z).2)):=sW zBb zfB hsame hspec hent hf hl sg hb hrun hchk
theorem sU {cx':Cx ty} {α ρ:Type} (hspec:∀ g s,cx'.spec g=some s->Sound Tryz.prog zbp g s) {f:Nat} {fn:Func} (hent:∀ args w,(callFunc f args).run Tryz.prog w=.ok (.enter f args) w) (hf:Tryz.prog.funcs[f]? =some fn) (hl:zji cx' (body fn)) (sg:Sig:=⟨[.pure],[]⟩) {A:AL zbp α} {res:ρ->ARes ty} {W:α->Wy0 ρ} {z:ρ}
  (hb:fn.body=some (body fn):=by kernel_rfl)
  (hrun:∀ x,zeP cx' fn (body fn) sg (A.enc x)=(W x).ev noH (λr=>some (res r)) none:=by intro _; kernel_rfl)
  (hchk:∀ x,(Nat.ble (A.enc x).length fn.ntmps&&zKz (body fn) (A.enc x) sg.upd)=true:=by intro _; kernel_rfl) (hsame:zbp.Same cx':=by exact z4l):
  Sound Tryz.prog zbp f (zi A λx=>(((W x).fin z).1,res ((W x).fin z).2)):=sW zBb zPA hsame hspec hent hf hl sg hb hrun hchk
end Go.Proofs.YtoknknbmfmddbaaGreatDoor
/- What is read of an argument, as typed data. -/
namespace Go.Proofs.YtoknknbmfmddbaaGreatDoor
open Go Go.Ab
open Go.Proofs.Tryz
def wf2 (x:Int):Prop:=(Lit.int .i64 x).wf=true
def wf3 (x:Int):Prop:=(Lit.int .i64 x).wf=true
def wf4 (x:Bool):Prop:=True
def wf5 (x:Int):Prop:=(Lit.int .u8 x).wf=true
def wf9 (x:ByteArray):Prop:=ByteArray.size x<=zW
def zbcI (x:Column):Prop:=wf9 x.Name/\wf3 x.Type_
def zbdh (x:yH):Prop:=(∀ y∈x,zbcI y)/\List.length x<=zW
def zNc (x:Value):Prop:=wf3 x.Kind/\wf2 x.Int/\wf9 x.Text
def z9Y (x:yG):Prop:=(∀ y∈x,zNc y)/\List.length x<=zW
def zXc (x:RowID):Prop:=wf3 x.Table/\wf3 x.Seq
mutual
def zgS:At->Prop
 | ⟨k,r,a,f,i,o,b⟩=>wf3 k/\zXc r/\(zwT a/\a.length<=zW)/\wf3 f/\(zsM i/\i.length<=zW)/\wf3 o/\zNc b
def zwg:Fc->Prop
 | ⟨a,e⟩=>zgS a/\wf3 e
def ztk:yC->Prop
 | []=>True
 | x::r=>zwg x/\ztk r
def zAU:Term->Prop
 | ⟨c,f⟩=>wf2 c/\(ztk f/\f.length<=zW)
def zg5:yB->Prop
 | []=>True
 | x::r=>zAU x/\zg5 r
def zwT:yA->Prop
 | []=>True
 | x::r=>(zg5 x/\x.length<=zW)/\zwT r
def zGH:Wd->Prop
 | ⟨v,a⟩=>zNc v/\(zg5 a/\a.length<=zW)
def zsM:yD->Prop
 | []=>True
 | x::r=>zGH x/\zsM r
end
theorem zKy:∀ l:yC,(∀ x∈l,zwg x)->ztk l
 | [],_=>by unfold ztk; trivial
 | x::r,h=>by unfold ztk; exact ⟨h x (by simp),zKy r λy hy=>h y (by simp [hy])⟩
theorem zEl:∀ l:yB,(∀ x∈l,zAU x)->zg5 l
 | [],_=>by unfold zg5; trivial
 | x::r,h=>by unfold zg5; exact ⟨h x (by simp),zEl r λy hy=>h y (by simp [hy])⟩
theorem zT5:∀ l:yA,(∀ x∈l,zg5 x/\x.length<=zW)->zwT l
 | [],_=>by unfold zwT; trivial
 | x::r,h=>by unfold zwT; exact ⟨h x (by simp),zT5 r λy hy=>h y (by simp [hy])⟩
theorem zPS:∀ l:yD,(∀ x∈l,zGH x)->zsM l
 | [],_=>by unfold zsM; trivial
 | x::r,h=>by unfold zsM; exact ⟨h x (by simp),zPS r λy hy=>h y (by simp [hy])⟩
def z2J (x:yB):Prop:=zg5 x/\List.length x<=zW
def zbdZ (x:yC):Prop:=ztk x/\List.length x<=zW
def zbdq (x:Term):Prop:=zAU x
def zbds (x:yA):Prop:=zwT x/\List.length x<=zW
def zbdy (x:yD):Prop:=zsM x/\List.length x<=zW
def zbdR (x:At):Prop:=zgS x
def zbdU (x:Fc):Prop:=zwg x
def zbdx (x:Wd):Prop:=zGH x
def z9F (x:Row):Prop:=z9Y x.Values/\z2J x.Ann
def zbcB (x:yF):Prop:=(∀ y∈x,z9F y)/\List.length x<=zW
def zZJ (x:Relation):Prop:=zbdh x.Columns/\zbcB x.Rows
def zbd5 (x:List (yG)):Prop:=(∀ y∈x,z9Y y)/\List.length x<=zW
def zbck (x:Bg):Prop:=zXc x.Row/\z2J x.To
def zbd6 (x:yE):Prop:=(∀ y∈x,zbck y)/\List.length x<=zW
def wf (T:Nat):ty T->Prop:=match T with
 | 2=>wf2
 | 3=>wf3
 | 4=>wf4
 | 5=>wf5
 | 9=>wf9
 | 22=>zbdh
 | 23=>zbcB
 | 25=>zZJ
 | 32=>zbd5
 | 34=>z9Y
 | 51=>z2J
 | 54=>z9F
 | 60=>zbd6
 | 63=>zXc
 | 65=>zbck
 | 75=>zbcI
 | 79=>zNc
 | 105=>zbdZ
 | 107=>zbdq
 | 110=>zbds
 | 141=>zbdy
 | 143=>zbdR
 | 145=>zbdU
 | 169=>zbdx
 | _=>λ_=>True
theorem z7G:zm3 Tryz.prog base wf 2:=z0V underlying2 (λn=>n) (λ_=>rfl) (λ_ h=>h)
theorem zFI:zm3 Tryz.prog base wf 3:=z0V underlying3 (λn=>n) (λ_=>rfl) (λ_ h=>h)
theorem z8K:zm3 Tryz.prog base wf 9:=z8E underlying9 (λn=>n) (λ_=>rfl) (λ_ h=>h)
theorem zbbc:zm3 Tryz.prog base wf 75:=by
 intro H en w sp held fuel cs y h hz;obtain ⟨xs,n,_,hy,hl,hlen,hf⟩:=DataW.trod_struct underlying75 h;have hs:=zjl underlying75 hy hz;obtain ⟨x0,h0,w0⟩:=zj1 (off:=0) z8K (by kernel_rfl) hlen hf hs 0 _ rfl rfl rfl
 obtain ⟨x1,h1,w1⟩:=zj1 (off:=1) zFI (by kernel_rfl) hlen hf hs 1 _ rfl rfl rfl
 have hl:cs.length=2:=hl.trans (by kernel_rfl)
 have:=zgx h0 (zvE h1 hl);exact ⟨(⟨x0,x1⟩:Column),this,⟨w0,w1⟩⟩
theorem zbbX:zm3 Tryz.prog base wf 22:=zMh zfB underlying22 (by kernel_rfl) (by decide) (λl=>l) (λ_=>rfl) (of_decide_eq_true (by kernel_rfl)) zbbc (λ_ h h2=>⟨h,h2⟩)
theorem z0e:zm3 Tryz.prog base wf 79:=by
 intro H en w sp held fuel cs y h hz;obtain ⟨xs,n,_,hy,hl,hlen,hf⟩:=DataW.trod_struct underlying79 h;have hs:=zjl underlying79 hy hz;obtain ⟨x0,h0,w0⟩:=zj1 (off:=0) zFI (by kernel_rfl) hlen hf hs 0 _ rfl rfl rfl
 obtain ⟨x1,h1,w1⟩:=zj1 (off:=1) z7G (by kernel_rfl) hlen hf hs 1 _ rfl rfl rfl
 obtain ⟨x2,h2,w2⟩:=zj1 (off:=2) z8K (by kernel_rfl) hlen hf hs 2 _ rfl rfl rfl
 have hl:cs.length=3:=hl.trans (by kernel_rfl)
 have:=zgx h0 (zgx h1 (zvE h2 hl));exact ⟨(⟨x0,x1,x2⟩:Value),this,⟨w0,w1,w2⟩⟩
theorem zbbI:zm3 Tryz.prog base wf 34:=zMh zfB underlying34 (by kernel_rfl) (by decide) (λl=>l) (λ_=>rfl) (of_decide_eq_true (by kernel_rfl)) z0e (λ_ h h2=>⟨h,h2⟩)
theorem zbbo:zm3 Tryz.prog base wf 63:=by
 intro H en w sp held fuel cs y h hz;obtain ⟨xs,n,_,hy,hl,hlen,hf⟩:=DataW.trod_struct underlying63 h;have hs:=zjl underlying63 hy hz;obtain ⟨x0,h0,w0⟩:=zj1 (off:=0) zFI (by kernel_rfl) hlen hf hs 0 _ rfl rfl rfl
 obtain ⟨x1,h1,w1⟩:=zj1 (off:=1) zFI (by kernel_rfl) hlen hf hs 1 _ rfl rfl rfl
 have hl:cs.length=2:=hl.trans (by kernel_rfl)
 have:=zgx h0 (zvE h1 hl);exact ⟨(⟨x0,x1⟩:RowID),this,⟨w0,w1⟩⟩
theorem z4v:∀ m,zsZ Tryz.prog base wf m 51/\zsZ Tryz.prog base wf m 105/\zsZ Tryz.prog base wf m 107/\zsZ Tryz.prog base wf m 110/\zsZ Tryz.prog base wf m 141/\zsZ Tryz.prog base wf m 143/\zsZ Tryz.prog base wf m 145/\zsZ Tryz.prog base wf m 169
 | 0=>⟨zqk,zqk,zqk,zqk,zqk,zqk,zqk,zqk⟩
 | m+1=>by
  obtain ⟨h51,h105,h107,h110,h141,h143,h145,h169⟩:=z4v m;refine ⟨?_, ?_, ?_, ?_, ?_, ?_, ?_, ?_⟩
  ·exact zy0 zfB underlying51 (by kernel_rfl) (by decide) (λl=>l) (λ_=>rfl) (of_decide_eq_true (by kernel_rfl)) h107 (λl h h2=>⟨zEl l h,h2⟩)
  ·exact zy0 zfB underlying105 (by kernel_rfl) (by decide) (λl=>l) (λ_=>rfl) (of_decide_eq_true (by kernel_rfl)) h145 (λl h h2=>⟨zKy l h,h2⟩)
  ·intro H en w sp held fuel cs y hfu h hz;obtain ⟨xs,n,hn,hy,hl,hlen,hf⟩:=DataW.trod_struct underlying107 h;have hs:=zjl underlying107 hy hz;have hn:n<=m:=by omega
   obtain ⟨x0,hx0,w0⟩:=zf3 (off:=0) (z7G.at m) (by kernel_rfl) hn hlen hf hs 0 _ rfl rfl rfl
   obtain ⟨x1,hx1,w1⟩:=zf3 (off:=1) h105 (by kernel_rfl) hn hlen hf hs 1 _ rfl rfl rfl
   have hl:cs.length=2:=hl.trans (by kernel_rfl)
   have:=zgx hx0 (zvE hx1 hl);exact ⟨(⟨x0,x1⟩:Term),this,by show zAU (⟨x0,x1⟩:Term); unfold zAU; exact ⟨w0,w1⟩⟩
  ·exact zy0 zfB underlying110 (by kernel_rfl) (by decide) (λl=>l) (λ_=>rfl) (of_decide_eq_true (by kernel_rfl)) h51 (λl h h2=>⟨zT5 l h,h2⟩)
  ·exact zy0 zfB underlying141 (by kernel_rfl) (by decide) (λl=>l) (λ_=>rfl) (of_decide_eq_true (by kernel_rfl)) h169 (λl h h2=>⟨zPS l h,h2⟩)
  ·intro H en w sp held fuel cs y hfu h hz;obtain ⟨xs,n,hn,hy,hl,hlen,hf⟩:=DataW.trod_struct underlying143 h;have hs:=zjl underlying143 hy hz;have hn:n<=m:=by omega
   obtain ⟨x0,hx0,w0⟩:=zf3 (off:=0) (zFI.at m) (by kernel_rfl) hn hlen hf hs 0 _ rfl rfl rfl
   obtain ⟨x1,hx1,w1⟩:=zf3 (off:=1) (zbbo.at m) (by kernel_rfl) hn hlen hf hs 1 _ rfl rfl rfl
   obtain ⟨x2,hx2,w2⟩:=zf3 (off:=3) h110 (by kernel_rfl) hn hlen hf hs 2 _ rfl rfl rfl
   obtain ⟨x3,hx3,w3⟩:=zf3 (off:=4) (zFI.at m) (by kernel_rfl) hn hlen hf hs 3 _ rfl rfl rfl
   obtain ⟨x4,hx4,w4⟩:=zf3 (off:=5) h141 (by kernel_rfl) hn hlen hf hs 4 _ rfl rfl rfl
   obtain ⟨x5,hx5,w5⟩:=zf3 (off:=6) (zFI.at m) (by kernel_rfl) hn hlen hf hs 5 _ rfl rfl rfl
   obtain ⟨x6,hx6,w6⟩:=zf3 (off:=7) (z0e.at m) (by kernel_rfl) hn hlen hf hs 6 _ rfl rfl rfl
   have hl:cs.length=10:=hl.trans (by kernel_rfl)
   have:=zgx hx0 (zgx hx1 (zgx hx2 (zgx hx3 (zgx hx4 (zgx hx5 (zvE hx6 hl))))));exact ⟨(⟨x0,x1,x2,x3,x4,x5,x6⟩:At),this,by show zgS (⟨x0,x1,x2,x3,x4,x5,x6⟩:At); unfold zgS; exact ⟨w0,w1,w2,w3,w4,w5,w6⟩⟩
  ·intro H en w sp held fuel cs y hfu h hz;obtain ⟨xs,n,hn,hy,hl,hlen,hf⟩:=DataW.trod_struct underlying145 h;have hs:=zjl underlying145 hy hz;have hn:n<=m:=by omega
   obtain ⟨x0,hx0,w0⟩:=zf3 (off:=0) h143 (by kernel_rfl) hn hlen hf hs 0 _ rfl rfl rfl
   obtain ⟨x1,hx1,w1⟩:=zf3 (off:=10) (zFI.at m) (by kernel_rfl) hn hlen hf hs 1 _ rfl rfl rfl
   have hl:cs.length=11:=hl.trans (by kernel_rfl)
   have:=zgx hx0 (zvE hx1 hl);exact ⟨(⟨x0,x1⟩:Fc),this,by show zwg (⟨x0,x1⟩:Fc); unfold zwg; exact ⟨w0,w1⟩⟩
  ·intro H en w sp held fuel cs y hfu h hz;obtain ⟨xs,n,hn,hy,hl,hlen,hf⟩:=DataW.trod_struct underlying169 h;have hs:=zjl underlying169 hy hz;have hn:n<=m:=by omega
   obtain ⟨x0,hx0,w0⟩:=zf3 (off:=0) (z0e.at m) (by kernel_rfl) hn hlen hf hs 0 _ rfl rfl rfl
   obtain ⟨x1,hx1,w1⟩:=zf3 (off:=3) h51 (by kernel_rfl) hn hlen hf hs 1 _ rfl rfl rfl
   have hl:cs.length=4:=hl.trans (by kernel_rfl)
   have:=zgx hx0 (zvE hx1 hl);exact ⟨(⟨x0,x1⟩:Wd),this,by show zGH (⟨x0,x1⟩:Wd); unfold zGH; exact ⟨w0,w1⟩⟩
theorem zbbu:zm3 Tryz.prog base wf 51:=z8C λm=>(z4v m).1
theorem zbaY:zm3 Tryz.prog base wf 54:=by
 intro H en w sp held fuel cs y h hz;obtain ⟨xs,n,_,hy,hl,hlen,hf⟩:=DataW.trod_struct underlying54 h;have hs:=zjl underlying54 hy hz;obtain ⟨x0,h0,w0⟩:=zj1 (off:=0) zbbI (by kernel_rfl) hlen hf hs 0 _ rfl rfl rfl
 obtain ⟨x1,h1,w1⟩:=zj1 (off:=1) zbbu (by kernel_rfl) hlen hf hs 1 _ rfl rfl rfl
 have hl:cs.length=2:=hl.trans (by kernel_rfl)
 have:=zgx h0 (zvE h1 hl);exact ⟨(⟨x0,x1⟩:Row),this,⟨w0,w1⟩⟩
theorem zbbg:zm3 Tryz.prog base wf 23:=zMh zfB underlying23 (by kernel_rfl) (by decide) (λl=>l) (λ_=>rfl) (of_decide_eq_true (by kernel_rfl)) zbaY (λ_ h h2=>⟨h,h2⟩)
theorem z0d:zm3 Tryz.prog base wf 25:=by
 intro H en w sp held fuel cs y h hz;obtain ⟨xs,n,_,hy,hl,hlen,hf⟩:=DataW.trod_struct underlying25 h;have hs:=zjl underlying25 hy hz;obtain ⟨x0,h0,w0⟩:=zj1 (off:=0) zbbX (by kernel_rfl) hlen hf hs 0 _ rfl rfl rfl
 obtain ⟨x1,h1,w1⟩:=zj1 (off:=1) zbbg (by kernel_rfl) hlen hf hs 1 _ rfl rfl rfl
 have hl:cs.length=2:=hl.trans (by kernel_rfl)
 have:=zgx h0 (zvE h1 hl);exact ⟨(⟨x0,x1⟩:Relation),this,⟨w0,w1⟩⟩
def z18:=zbN base 8 []
def zS4 (x_:At):Wy0 (yB):=.k [TO.mk 1 [FO.mk (At.mk x_.Kind x_.Row x_.Ag x_.Func x_.Items x_.Op x_.Bd) 1]]
def zmY (x_:At):=(zS4 x_).fin default
def zZH (r:yB):ARes ty:=⟨[.own 107 r],[]⟩
def z3t:AL base (At×Unit):=zg (zh (zda 143)) zC
def zL4:=zi z3t λx=>((zmY x.1).1,zZH (zmY x.1).2)
theorem zWS:SdP 118 zL4:=
 sT (cx':=z18) (zm trivial) call118 func118 (lOK aN) (sg:=⟨[.own 107],[]⟩)
def z3Z:=zbN base 14 [(118,zL4)]
def zWd (id:RowID):Wy0 (yB):=.i (decide (id.Table<1)) (.k []) (.i (decide (id.Seq<1)) (.k []) (.k ((zmY (At.mk 0 id [] 0 [] 0 (Value.mk 0 0 (ByteArray.mk #[])))).2)))
def zFH (id:RowID):=(zWd id).fin default
def z4X:AL base (RowID×Unit):=zg (zh (zda 63)) zC
def zNC:=zi z4X λx=>((zFH x.1).1,zZH (zFH x.1).2)
theorem zYj:SdP 64 zNC:=
 sT (cx':=z3Z) (zm ⟨zWS,trivial⟩) call64 func64 (lOK aN) (sg:=⟨[.own 107],[]⟩)
def zTJ:=zbN base 11 [(64,zNC)]
def zVM (v:Value) (seq:Int):Wy0 (Row):=.bn (zFH (RowID.mk 1 seq)) λr0=>.k (⟨[v],r0⟩:Row)
def ztg (v:Value) (seq:Int):=(zVM v seq).fin default
def zR0 (r:Row):ARes ty:=⟨[.pure (.agg (base.enc 54 r))],[]⟩
def zVv:AL base (Value×Int×Unit):=zg (zh (zda 79)) (zg (zh zhY) zC)
def zC0:=zi zVv λx=>((ztg x.1 x.2.1).1,zR0 (ztg x.1 x.2.1).2)
theorem zOL:SdP 86 zC0:=
 sT (cx':=zTJ) (zm ⟨zYj,trivial⟩) call86 func86 (lOK aN)
def zYd:=zbN base 19 [(86,zC0)]
def zZy:Wy0 (Relation):=.k (⟨[Column.mk (ByteArray.mk #[(97:UInt8)]) 0],[(ztg (Value.mk 0 1 (ByteArray.mk #[])) 1).2,(ztg (Value.mk 0 0 (ByteArray.mk #[])) 2).2,(ztg (Value.mk 0 1 (ByteArray.mk #[])) 3).2]⟩:Relation)
def zSH:Bool×Relation:=(zZy).fin default
def zXt (r:Relation):ARes ty:=⟨[.pure (.agg (base.enc 25 r))],[]⟩
def z0b:AL base (Unit):=zC
def zHV:=zi z0b λx=>((zSH ).1,zXt (zSH ).2)
theorem zTd:SdP 42 zHV:=
 sT (cx':=zYd) (zm ⟨zOL,trivial⟩) call42 func42 (lOK aN)
def zNi (r:Int):ARes ty:=⟨[.pure (.lit (.int .i64 r))],[]⟩
def zQd:AL base (yB×yB×Unit):=zg (zh (vSl 107)) (zg (zh (vSl 107)) zC)
def zet (F:yB->yB->Bool×Int):Ab.Spec ty:=zi zQd λx=>((F x.1 x.2.1).1,zNi (F x.1 x.2.1).2)
def zKX:AL base (Term×Term×Unit):=zg (zh (zda 107)) (zg (zh (zda 107)) zC)
def zgr (F:Term->Term->Bool×Int):Ab.Spec ty:=zi zKX λx=>((F x.1 x.2.1).1,zNi (F x.1 x.2.1).2)
def zGE:AL base (Fc×Fc×Unit):=zg (zh (zda 145)) (zg (zh (zda 145)) zC)
def zeQ (F:Fc->Fc->Bool×Int):Ab.Spec ty:=zi zGE λx=>((F x.1 x.2.1).1,zNi (F x.1 x.2.1).2)
def zIx:AL base (At×At×Unit):=zg (zh (zda 143)) (zg (zh (zda 143)) zC)
def zhO (F:At->At->Bool×Int):Ab.Spec ty:=zi zIx λx=>((F x.1 x.2.1).1,zNi (F x.1 x.2.1).2)
def zIr:AL base (Wd×Wd×Unit):=zg (zh (zda 169)) (zg (zh (zda 169)) zC)
def zeu (F:Wd->Wd->Bool×Int):Ab.Spec ty:=zi zIr λx=>((F x.1 x.2.1).1,zNi (F x.1 x.2.1).2)
def zjE:AL base (yB×yB×Unit×Unit):=zg (zh (vSl 107)) (zg (zh (vSl 107)) (zg (zh (vFn 225 zcX)) zC))
def zbJ (F:yB->yB->Bool×Int):Ab.Spec ty:=zi zjE λx=>((F x.1 x.2.1).1,zNi (F x.1 x.2.1).2)
def zj2:AL base (yC×yC×Unit×Unit):=zg (zh (vSl 145)) (zg (zh (vSl 145)) (zg (zh (vFn 166 zcX)) zC))
def zbP (F:yC->yC->Bool×Int):Ab.Spec ty:=zi zj2 λx=>((F x.1 x.2.1).1,zNi (F x.1 x.2.1).2)
def zgg:AL base (yA×yA×Unit×Unit):=zg (zh (vSl 51)) (zg (zh (vSl 51)) (zg (zh (vFn 170 zcX)) zC))
def zbh (F:yA->yA->Bool×Int):Ab.Spec ty:=zi zgg λx=>((F x.1 x.2.1).1,zNi (F x.1 x.2.1).2)
def zhV:AL base (yD×yD×Unit×Unit):=zg (zh (vSl 169)) (zg (zh (vSl 169)) (zg (zh (vFn 172 zcX)) zC))
def zbw (F:yD->yD->Bool×Int):Ab.Spec ty:=zi zhV λx=>((F x.1 x.2.1).1,zNi (F x.1 x.2.1).2)
def zLo (zJ:yB->yB->Bool×Int) (zK:Term->Term->Bool×Int):=zbN base 8 [(224,(zbJ zJ)),(225,(zgr zK))]
def zAH (zJ:yB->yB->Bool×Int) (zK:Term->Term->Bool×Int) (a:yB) (b:yB):Wy0 (Int):=.bn (zJ a b) λr0=>.k r0
def zp7 (zJ:yB->yB->Bool×Int) (zK:Term->Term->Bool×Int) (a:yB) (b:yB):=(zAH zJ zK a b).fin default
theorem zHq (zJ:yB->yB->Bool×Int) (zK:Term->Term->Bool×Int) (zjc:SdP 224 (zbJ zJ)) (zpx:SdP 225 (zgr zK)):SdP 170 (zet (zp7 zJ zK)):=
 sT (cx':=(zLo zJ zK)) (zm ⟨zjc,zpx,trivial⟩) call170 func170 (lOK aN)
def zTz:=zbN base 6 []
def zHT (x_:Int):Wy0 (Bool):=.k (x_ != x_)
def zn7 (x_:Int):=(zHT x_).fin default
def zSj (r:Bool):ARes ty:=⟨[.pure (.lit (.bool r))],[]⟩
def zVG:AL base (Int×Unit):=zg (zh zhY) zC
def zC5:=zi zVG λx=>((zn7 x.1).1,zSj (zn7 x.1).2)
theorem zOt:SdP 232 zC5:=
 sT (cx':=zTz) (zm trivial) call232 func232 (lOK aN)
def zP1:=zbN base 20 [(232,zC5)]
def zEc (x_:Int) (y_:Int):Wy0 (Int):=.i ((zn7 x_).2) (.i ((zn7 y_).2) (.k 0) (.k (-1:Int))) (.i ((zn7 y_).2) (.k 1) (.i (decide (x_<y_)) (.k (-1:Int)) (.i (decide (x_>y_)) (.k 1) (.k 0))))
def zjH (x_:Int) (y_:Int):=(zEc x_ y_).fin default
def zSe:AL base (Int×Int×Unit):=zg (zh zhY) (zg (zh zhY) zC)
def zmQ:=zi zSe λx=>((zjH x.1 x.2.1).1,zNi (zjH x.1 x.2.1).2)
theorem zsf:SdP 195 zmQ:=
 sT (cx':=zP1) (zm ⟨zOt,trivial⟩) call195 func195 (lOK aN)
abbrev zCI:=Int×List Int×Int×Int×Unit
def zHh (zero:Int) (t6:List Int) (t7:Int) (t8:Int):Wy zCI Unit (Int⊕Int):=.i (decide (t8<t7)) (.i (decide (0<=t8)&&decide (t8<Int.ofNat t6.length)) (.i (t6.getD t8.toNat default != zero) (.k (.inl (t6.getD t8.toNat default))) (.h (zero,t6,t7,(IntKind.i64.wrap (t8+1)),()) ())) .d) (.k (.inr zero))
def zRB (x:zCI) (y:Unit):=zHh x.1 x.2.1 x.2.2.1 x.2.2.2.1
def zGW (n:Nat) (zero:Int) (t6:List Int) (t7:Int) (t8:Int):=zA (zRB) (.inl default) n (zero,t6,t7,t8,()) ()
def z0G (r:Int⊕Int):LTree ty:=.ite (isL r) (.done .ret [.lit (.int .i64 (getL r))] []) (.done (.exit 0) [.lit (.int .i64 (getR r))] [])
def z1X:LL ty zCI:=za zj (za (lSl 3) (za zj (za zj zr)))
def z2k:BL ty (Unit):=zbD
def z0h (x:zCI) (y:Unit):Nat:=(Int.toNat x.1+x.2.1.length+Int.toNat x.2.2.1+Int.toNat x.2.2.2.1+1)
def zRt:=zc6 base 18 [] [] [(3,(kpL [3,6,7,8]))] [(3,1,(kpL [3])),(3,0,(kpL [2]))] [(3,spW z1X z2k (zRB) (.inl default) z0G z0h)] []
theorem zZz:zS zRt (lp (body f167) 0):=zI (id:=3) (hl:=rfl)
def zTa (vals:List Int):Wy0 (Int):=.bn (zGW (Int.toNat 0+vals.length+(Int.ofNat vals.length).toNat +Int.toNat 0+1) 0 vals (Int.ofNat vals.length) 0) λr0=>.i (isL r0) (.k (getL r0)) (.k (getR r0))
def zpC (vals:List Int):=(zTa vals).fin default
def z4d:AL base (List Int×Unit):=zg (zh (vSl 3)) zC
def zoh:=zi z4d λx=>((zpC x.1).1,zNi (zpC x.1).2)
theorem zqX:SdP 167 zoh:=
 sT (cx':=zRt) (zm trivial) call167 func167 (lOK (aC zZz aN))
def zGR (zcS:Term->Term->Bool×Int):=zbN base 15 [(104,(zgr zcS)),(167,zoh),(195,zmQ)]
def zxT (zcS:Term->Term->Bool×Int) (x_:Term) (y_:Term):Wy0 (Int):=.bn (zcS x_ y_) λr2=>.bn (zjH x_.Cf y_.Cf) λr1=>.bn (zpC [r2,r1]) λr0=>.k r0
def zl5 (zcS:Term->Term->Bool×Int) (x_:Term) (y_:Term):=(zxT zcS x_ y_).fin default
theorem zDW (zcS:Term->Term->Bool×Int) (zGw:SdP 104 (zgr zcS)):SdP 225 (zgr (zl5 zcS)):=
 sT (cx':=(zGR zcS)) (zm ⟨zGw,zqX,zsf,trivial⟩) call225 func225 (lOK aN)
def zXr:=zbN base 6 []
def zL0 (x_:Int):Wy0 (Bool):=.k (x_ != x_)
def zsL (x_:Int):=(zL0 x_).fin default
def zF6:=zi zVG λx=>((zsL x.1).1,zSj (zsL x.1).2)
theorem zSu:SdP 223 zF6:=
 sT (cx':=zXr) (zm trivial) call223 func223 (lOK aN)
def zSW:=zbN base 20 [(223,zF6)]
def zHJ (x_:Int) (y_:Int):Wy0 (Int):=.i ((zsL x_).2) (.i ((zsL y_).2) (.k 0) (.k (-1:Int))) (.i ((zsL y_).2) (.k 1) (.i (decide (x_<y_)) (.k (-1:Int)) (.i (decide (x_>y_)) (.k 1) (.k 0))))
def zff (x_:Int) (y_:Int):=(zHJ x_ y_).fin default
def zpY:=zi zSe λx=>((zff x.1 x.2.1).1,zNi (zff x.1 x.2.1).2)
theorem zuR:SdP 168 zpY:=
 sT (cx':=zSW) (zm ⟨zSu,trivial⟩) call168 func168 (lOK aN)
end Go.Proofs.YtoknknbmfmddbaaGreatDoor
/-
 DERIVED:THE SHELF's CONTRACTS AT THIS DUMP,IN PLAIN WORDS (tools/lay-plain.mjs out of 'TryzShelf.lean',which tools/lay-shelf.mjs wrote):THE SAME DECLARATIONS UNDER THE SAME NAMES:'import','namespace','open','def','theorem' AND NOTHING ELSE:no command of the shelf's:FOR A HAND-IN. Each laying:the table of numbers ('.._ren') and one theorem,a field a fact of the dump's own or the kernel's comparison; each contract:ONE APPLICATION.
-/
namespace Go.Proofs
open Go.Shelf
def Tryz.pdqTerm_ren:Go.Shelf.Ren:=⟨λ| 14=>231 | 20=>269 | 21=>270 | 22=>271 | 23=>272 | 24=>273 | 25=>274 | 26=>275 | 27=>276 | 46=>299 | 47=>289 | 48=>290 | 49=>300 | 50=>301 | 15=>205 | 57=>307 | 28=>254 | 29=>255 | n=>n,λ| 24=>107 | 22=>50 | 3=>3 | 25=>140 | 4=>4 | 0=>0 | 46=>247 | 45=>246 | 50=>208 | 66=>269 | 39=>218 | 55=>223 | 70=>273 | 76=>284 | 77=>285 | 53=>253 | 5=>5 | 9=>9 | n=>n,λ| n=>n⟩
theorem Tryz.pdqTerm:Go.Proofs.SlLaysF0.n14 Tryz.prog Tryz.pdqTerm_ren:={
 mixed:=by kernel_rfl
 f14:=⟨f231.name,by decide,func231.trans (congrArg some (by kernel_rfl))⟩
 f15:=func205.trans (congrArg some (by kernel_rfl))
 f20:=⟨f269.name,by decide,func269.trans (congrArg some (by kernel_rfl))⟩
 f21:=⟨f270.name,by decide,func270.trans (congrArg some (by kernel_rfl))⟩
 f22:=⟨f271.name,by decide,func271.trans (congrArg some (by kernel_rfl))⟩
 f23:=⟨f272.name,by decide,func272.trans (congrArg some (by kernel_rfl))⟩
 f24:=⟨f273.name,by decide,func273.trans (congrArg some (by kernel_rfl))⟩
 f25:=⟨f274.name,by decide,func274.trans (congrArg some (by kernel_rfl))⟩
 f26:=⟨f275.name,by decide,func275.trans (congrArg some (by kernel_rfl))⟩
 f27:=⟨f276.name,by decide,func276.trans (congrArg some (by kernel_rfl))⟩
 f28:=func254.trans (congrArg some (by kernel_rfl))
 f29:=func255.trans (congrArg some (by kernel_rfl))
 f46:=⟨f299.name,by decide,func299.trans (congrArg some (by kernel_rfl))⟩
 f47:=func289.trans (congrArg some (by kernel_rfl))
 f48:=func290.trans (congrArg some (by kernel_rfl))
 f49:=⟨f300.name,by decide,func300.trans (congrArg some (by kernel_rfl))⟩
 f50:=⟨f301.name,by decide,func301.trans (congrArg some (by kernel_rfl))⟩
 f57:=⟨f307.name,by decide,func307.trans (congrArg some (by kernel_rfl))⟩
 t0:=underlying0
 a0:=Tryz.isAgg0
 z0:=Tryz.sizeOf0
 v0:=Tryz.zeroValue0
 t3:=underlying3
 a3:=Tryz.isAgg3
 z3:=Tryz.sizeOf3
 v3:=Tryz.zeroValue3
 t4:=underlying4
 a4:=Tryz.isAgg4
 z4:=Tryz.sizeOf4
 v4:=Tryz.zeroValue4
 t5:=underlying5
 a5:=Tryz.isAgg5
 z5:=Tryz.sizeOf5
 v5:=Tryz.zeroValue5
 t9:=underlying9
 a9:=Tryz.isAgg9
 z9:=Tryz.sizeOf9
 v9:=Tryz.zeroValue9
 t22:=underlying50
 a22:=Tryz.isAgg50
 z22:=Tryz.sizeOf50
 v22:=Tryz.zeroValue50
 t25:=underlying140
 a25:=Tryz.isAgg140
 z25:=Tryz.sizeOf140
 v25:=Tryz.zeroValue140
 t39:=underlying218
 a39:=Tryz.isAgg218
 z39:=Tryz.sizeOf218
 v39:=Tryz.zeroValue218
 t45:=underlying246
 a45:=Tryz.isAgg246
 z45:=Tryz.sizeOf246
 v45:=Tryz.zeroValue246
 t46:=underlying247
 a46:=Tryz.isAgg247
 z46:=Tryz.sizeOf247
 v46:=Tryz.zeroValue247
 t50:=underlying208
 a50:=Tryz.isAgg208
 z50:=Tryz.sizeOf208
 v50:=Tryz.zeroValue208
 t53:=underlying253
 a53:=Tryz.isAgg253
 z53:=Tryz.sizeOf253
 v53:=Tryz.zeroValue253
 t55:=underlying223
 a55:=Tryz.isAgg223
 z55:=Tryz.sizeOf223
 v55:=Tryz.zeroValue223
 t66:=underlying269
 a66:=Tryz.isAgg269
 z66:=Tryz.sizeOf269
 v66:=Tryz.zeroValue269
 t70:=underlying273
 a70:=Tryz.isAgg273
 z70:=Tryz.sizeOf273
 v70:=Tryz.zeroValue273
 t76:=underlying284
 a76:=Tryz.isAgg284
 z76:=Tryz.sizeOf284
 v76:=Tryz.zeroValue284
 t77:=underlying285
 a77:=Tryz.isAgg285
 z77:=Tryz.sizeOf285
 v77:=Tryz.zeroValue285 }
def Tryz.insW_ren:Go.Shelf.Ren:=⟨λ| 20=>309 | n=>n,λ| 24=>169 | 22=>141 | 3=>3 | 25=>198 | 4=>4 | 0=>0 | n=>n,λ| n=>n⟩
theorem Tryz.insW:Go.Proofs.SlLaysF0.n20 Tryz.prog Tryz.insW_ren:={
 mixed:=by kernel_rfl
 f20:=⟨f309.name,by decide,func309.trans (congrArg some (by kernel_rfl))⟩
 t0:=underlying0
 a0:=Tryz.isAgg0
 z0:=Tryz.sizeOf0
 v0:=Tryz.zeroValue0
 t3:=underlying3
 a3:=Tryz.isAgg3
 z3:=Tryz.sizeOf3
 v3:=Tryz.zeroValue3
 t4:=underlying4
 a4:=Tryz.isAgg4
 z4:=Tryz.sizeOf4
 v4:=Tryz.zeroValue4
 t22:=underlying141
 a22:=Tryz.isAgg141
 z22:=Tryz.sizeOf141
 v22:=Tryz.zeroValue141
 t25:=underlying198
 a25:=Tryz.isAgg198
 z25:=Tryz.sizeOf198
 v25:=Tryz.zeroValue198 }
def Tryz.lays106_ren:Go.Shelf.Ren:=⟨λ| 106=>196 | 213=>233 | 265=>277 | n=>n,λ| 9=>9 | 3=>3 | n=>n,λ| n=>n⟩
theorem Tryz.lays106:Go.Proofs.Lays.n106 Tryz.prog Tryz.lays106_ren:={
 mixed:=by kernel_rfl
 f106:=func196.trans (congrArg some (by kernel_rfl))
 f213:=func233.trans (congrArg some (by kernel_rfl))
 f265:=func277.trans (congrArg some (by kernel_rfl))
 t3:=underlying3
 a3:=Tryz.isAgg3
 z3:=Tryz.sizeOf3
 v3:=Tryz.zeroValue3
 t9:=underlying9
 a9:=Tryz.isAgg9
 z9:=Tryz.sizeOf9
 v9:=Tryz.zeroValue9 }
def Tryz.lays125_ren:Go.Shelf.Ren:=⟨λ| 125=>205 | 128=>254 | 129=>255 | n=>n,λ| 46=>218 | 3=>3 | 51=>253 | 53=>223 | 4=>4 | 5=>5 | 9=>9 | n=>n,λ| n=>n⟩
theorem Tryz.lays125:Go.Proofs.Lays.n125 Tryz.prog Tryz.lays125_ren:={
 mixed:=by kernel_rfl
 f125:=func205.trans (congrArg some (by kernel_rfl))
 f128:=func254.trans (congrArg some (by kernel_rfl))
 f129:=func255.trans (congrArg some (by kernel_rfl))
 t3:=underlying3
 a3:=Tryz.isAgg3
 z3:=Tryz.sizeOf3
 v3:=Tryz.zeroValue3
 t4:=underlying4
 a4:=Tryz.isAgg4
 z4:=Tryz.sizeOf4
 v4:=Tryz.zeroValue4
 t5:=underlying5
 a5:=Tryz.isAgg5
 z5:=Tryz.sizeOf5
 v5:=Tryz.zeroValue5
 t9:=underlying9
 a9:=Tryz.isAgg9
 z9:=Tryz.sizeOf9
 v9:=Tryz.zeroValue9
 t46:=underlying218
 a46:=Tryz.isAgg218
 z46:=Tryz.sizeOf218
 v46:=Tryz.zeroValue218
 t51:=underlying253
 a51:=Tryz.isAgg253
 z51:=Tryz.sizeOf253
 v51:=Tryz.zeroValue253
 t53:=underlying223
 a53:=Tryz.isAgg223
 z53:=Tryz.sizeOf223
 v53:=Tryz.zeroValue223 }
def Tryz.laysM173_ren:Go.Shelf.Ren:=⟨λ| 173=>92 | 246=>152 | 283=>208 | 284=>209 | 285=>210 | 286=>211 | 129=>255 | 317=>256 | 318=>257 | 319=>258 | 320=>259 | 337=>293 | 338=>294 | n=>n,λ| 2=>2 | 3=>3 | 9=>9 | 4=>4 | 171=>222 | 0=>0 | 53=>223 | 37=>120 | 5=>5 | 173=>226 | 212=>255 | 51=>253 | 20=>20 | 213=>256 | 46=>218 | 232=>287 | 233=>288 | n=>n,λ| 17=>1 | 18=>4 | 19=>5 | n=>n⟩
theorem Tryz.laysM173:Go.Proofs.LaysM.n173 Tryz.prog Tryz.laysM173_ren:={
 mixed:=by kernel_rfl
 f129:=func255.trans (congrArg some (by kernel_rfl))
 f173:=func92.trans (congrArg some (by kernel_rfl))
 f246:=func152.trans (congrArg some (by kernel_rfl))
 f283:=func208.trans (congrArg some (by kernel_rfl))
 f284:=func209.trans (congrArg some (by kernel_rfl))
 f285:=func210.trans (congrArg some (by kernel_rfl))
 f286:=func211.trans (congrArg some (by kernel_rfl))
 f317:=func256.trans (congrArg some (by kernel_rfl))
 f318:=func257.trans (congrArg some (by kernel_rfl))
 f319:=func258.trans (congrArg some (by kernel_rfl))
 f320:=func259.trans (congrArg some (by kernel_rfl))
 f337:=func293.trans (congrArg some (by kernel_rfl))
 f338:=func294.trans (congrArg some (by kernel_rfl))
 t0:=underlying0
 a0:=Tryz.isAgg0
 z0:=Tryz.sizeOf0
 v0:=Tryz.zeroValue0
 t2:=underlying2
 a2:=Tryz.isAgg2
 z2:=Tryz.sizeOf2
 v2:=Tryz.zeroValue2
 t3:=underlying3
 a3:=Tryz.isAgg3
 z3:=Tryz.sizeOf3
 v3:=Tryz.zeroValue3
 t4:=underlying4
 a4:=Tryz.isAgg4
 z4:=Tryz.sizeOf4
 v4:=Tryz.zeroValue4
 t5:=underlying5
 a5:=Tryz.isAgg5
 z5:=Tryz.sizeOf5
 v5:=Tryz.zeroValue5
 t9:=underlying9
 a9:=Tryz.isAgg9
 z9:=Tryz.sizeOf9
 v9:=Tryz.zeroValue9
 t20:=underlying20
 a20:=Tryz.isAgg20
 z20:=Tryz.sizeOf20
 v20:=Tryz.zeroValue20
 t37:=underlying120
 a37:=Tryz.isAgg120
 z37:=Tryz.sizeOf120
 v37:=Tryz.zeroValue120
 t46:=underlying218
 a46:=Tryz.isAgg218
 z46:=Tryz.sizeOf218
 v46:=Tryz.zeroValue218
 t51:=underlying253
 a51:=Tryz.isAgg253
 z51:=Tryz.sizeOf253
 v51:=Tryz.zeroValue253
 t53:=underlying223
 a53:=Tryz.isAgg223
 z53:=Tryz.sizeOf223
 v53:=Tryz.zeroValue223
 t171:=underlying222
 a171:=Tryz.isAgg222
 z171:=Tryz.sizeOf222
 v171:=Tryz.zeroValue222
 t173:=underlying226
 a173:=Tryz.isAgg226
 z173:=Tryz.sizeOf226
 v173:=Tryz.zeroValue226
 t212:=underlying255
 a212:=Tryz.isAgg255
 z212:=Tryz.sizeOf255
 v212:=Tryz.zeroValue255
 t213:=underlying256
 a213:=Tryz.isAgg256
 z213:=Tryz.sizeOf256
 t232:=underlying287
 a232:=Tryz.isAgg287
 z232:=Tryz.sizeOf287
 v232:=Tryz.zeroValue287
 t233:=underlying288
 a233:=Tryz.isAgg288
 z233:=Tryz.sizeOf288
 v233:=Tryz.zeroValue288
 g17:=by kernel_rfl
 g18:=by kernel_rfl
 g19:=by kernel_rfl
 i0:=by kernel_rfl
 i2:=by kernel_rfl
 i3:=by kernel_rfl
 i4:=by kernel_rfl
 i5:=by kernel_rfl
 i9:=by kernel_rfl
 i20:=by kernel_rfl
 i37:=by kernel_rfl
 i46:=by kernel_rfl
 i51:=by kernel_rfl
 i53:=by kernel_rfl
 i171:=by kernel_rfl
 i173:=by kernel_rfl
 i212:=by kernel_rfl
 i232:=by kernel_rfl
 i233:=by kernel_rfl
 m17:=by kernel_rfl
 m18:=by kernel_rfl
 m19:=by kernel_rfl }
def Tryz.laysM171_ren:Go.Shelf.Ren:=⟨λ| 171=>216 | 243=>267 | 246=>152 | 283=>208 | 284=>209 | 285=>210 | 286=>211 | 129=>255 | 317=>256 | 318=>257 | 319=>258 | 320=>259 | 337=>293 | 338=>294 | n=>n,λ| 3=>3 | 9=>9 | 2=>2 | 4=>4 | 171=>222 | 0=>0 | 53=>223 | 37=>120 | 5=>5 | 173=>226 | 212=>255 | 51=>253 | 20=>20 | 213=>256 | 46=>218 | 232=>287 | 233=>288 | n=>n,λ| 17=>1 | 18=>4 | 19=>5 | n=>n⟩
theorem Tryz.laysM171:Go.Proofs.LaysM.n171 Tryz.prog Tryz.laysM171_ren:={
 mixed:=by kernel_rfl
 f129:=func255.trans (congrArg some (by kernel_rfl))
 f171:=func216.trans (congrArg some (by kernel_rfl))
 f243:=func267.trans (congrArg some (by kernel_rfl))
 f246:=func152.trans (congrArg some (by kernel_rfl))
 f283:=func208.trans (congrArg some (by kernel_rfl))
 f284:=func209.trans (congrArg some (by kernel_rfl))
 f285:=func210.trans (congrArg some (by kernel_rfl))
 f286:=func211.trans (congrArg some (by kernel_rfl))
 f317:=func256.trans (congrArg some (by kernel_rfl))
 f318:=func257.trans (congrArg some (by kernel_rfl))
 f319:=func258.trans (congrArg some (by kernel_rfl))
 f320:=func259.trans (congrArg some (by kernel_rfl))
 f337:=func293.trans (congrArg some (by kernel_rfl))
 f338:=func294.trans (congrArg some (by kernel_rfl))
 t0:=underlying0
 a0:=Tryz.isAgg0
 z0:=Tryz.sizeOf0
 v0:=Tryz.zeroValue0
 t2:=underlying2
 a2:=Tryz.isAgg2
 z2:=Tryz.sizeOf2
 v2:=Tryz.zeroValue2
 t3:=underlying3
 a3:=Tryz.isAgg3
 z3:=Tryz.sizeOf3
 v3:=Tryz.zeroValue3
 t4:=underlying4
 a4:=Tryz.isAgg4
 z4:=Tryz.sizeOf4
 v4:=Tryz.zeroValue4
 t5:=underlying5
 a5:=Tryz.isAgg5
 z5:=Tryz.sizeOf5
 v5:=Tryz.zeroValue5
 t9:=underlying9
 a9:=Tryz.isAgg9
 z9:=Tryz.sizeOf9
 v9:=Tryz.zeroValue9
 t20:=underlying20
 a20:=Tryz.isAgg20
 z20:=Tryz.sizeOf20
 v20:=Tryz.zeroValue20
 t37:=underlying120
 a37:=Tryz.isAgg120
 z37:=Tryz.sizeOf120
 v37:=Tryz.zeroValue120
 t46:=underlying218
 a46:=Tryz.isAgg218
 z46:=Tryz.sizeOf218
 v46:=Tryz.zeroValue218
 t51:=underlying253
 a51:=Tryz.isAgg253
 z51:=Tryz.sizeOf253
 v51:=Tryz.zeroValue253
 t53:=underlying223
 a53:=Tryz.isAgg223
 z53:=Tryz.sizeOf223
 v53:=Tryz.zeroValue223
 t171:=underlying222
 a171:=Tryz.isAgg222
 z171:=Tryz.sizeOf222
 v171:=Tryz.zeroValue222
 t173:=underlying226
 a173:=Tryz.isAgg226
 z173:=Tryz.sizeOf226
 v173:=Tryz.zeroValue226
 t212:=underlying255
 a212:=Tryz.isAgg255
 z212:=Tryz.sizeOf255
 v212:=Tryz.zeroValue255
 t213:=underlying256
 a213:=Tryz.isAgg256
 z213:=Tryz.sizeOf256
 t232:=underlying287
 a232:=Tryz.isAgg287
 z232:=Tryz.sizeOf287
 v232:=Tryz.zeroValue287
 t233:=underlying288
 a233:=Tryz.isAgg288
 z233:=Tryz.sizeOf288
 v233:=Tryz.zeroValue288
 g17:=by kernel_rfl
 g18:=by kernel_rfl
 g19:=by kernel_rfl
 i0:=by kernel_rfl
 i2:=by kernel_rfl
 i3:=by kernel_rfl
 i4:=by kernel_rfl
 i5:=by kernel_rfl
 i9:=by kernel_rfl
 i20:=by kernel_rfl
 i37:=by kernel_rfl
 i46:=by kernel_rfl
 i51:=by kernel_rfl
 i53:=by kernel_rfl
 i171:=by kernel_rfl
 i173:=by kernel_rfl
 i212:=by kernel_rfl
 i232:=by kernel_rfl
 i233:=by kernel_rfl
 m17:=by kernel_rfl
 m18:=by kernel_rfl
 m19:=by kernel_rfl }
def Tryz.lays155_ren:Go.Shelf.Ren:=⟨λ| 155=>93 | 154=>153 | 138=>212 | 165=>88 | 143=>213 | 166=>89 | 197=>214 | 169=>90 | 195=>260 | 218=>261 | 240=>150 | 241=>151 | 219=>262 | 260=>263 | 276=>206 | 277=>207 | 217=>295 | 225=>296 | 224=>297 | 267=>298 | 266=>305 | 314=>306 | n=>n,λ| 9=>9 | 3=>3 | 4=>4 | 72=>122 | 0=>0 | 76=>126 | 105=>228 | 21=>21 | 5=>5 | 70=>119 | 20=>20 | 37=>120 | 75=>125 | 127=>180 | 164=>219 | 46=>218 | 119=>275 | 139=>278 | 138=>277 | 146=>289 | 51=>253 | 80=>128 | n=>n,λ| 1=>0 | 3=>2 | 4=>3 | n=>n⟩
theorem Tryz.lays155:Go.Proofs.Lays.n155 Tryz.prog Tryz.lays155_ren:={
 mixed:=by kernel_rfl
 f138:=func212.trans (congrArg some (by kernel_rfl))
 f143:=func213.trans (congrArg some (by kernel_rfl))
 f154:=func153.trans (congrArg some (by kernel_rfl))
 f155:=func93.trans (congrArg some (by kernel_rfl))
 f165:=func88.trans (congrArg some (by kernel_rfl))
 f166:=func89.trans (congrArg some (by kernel_rfl))
 f169:=func90.trans (congrArg some (by kernel_rfl))
 f195:=func260.trans (congrArg some (by kernel_rfl))
 f197:=func214.trans (congrArg some (by kernel_rfl))
 f217:=func295.trans (congrArg some (by kernel_rfl))
 f218:=func261.trans (congrArg some (by kernel_rfl))
 f219:=func262.trans (congrArg some (by kernel_rfl))
 f224:=func297.trans (congrArg some (by kernel_rfl))
 f225:=func296.trans (congrArg some (by kernel_rfl))
 f240:=func150.trans (congrArg some (by kernel_rfl))
 f241:=func151.trans (congrArg some (by kernel_rfl))
 f260:=func263.trans (congrArg some (by kernel_rfl))
 f266:=func305.trans (congrArg some (by kernel_rfl))
 f267:=func298.trans (congrArg some (by kernel_rfl))
 f276:=func206.trans (congrArg some (by kernel_rfl))
 f277:=func207.trans (congrArg some (by kernel_rfl))
 f314:=func306.trans (congrArg some (by kernel_rfl))
 t0:=underlying0
 a0:=Tryz.isAgg0
 z0:=Tryz.sizeOf0
 v0:=Tryz.zeroValue0
 t3:=underlying3
 a3:=Tryz.isAgg3
 z3:=Tryz.sizeOf3
 v3:=Tryz.zeroValue3
 t4:=underlying4
 a4:=Tryz.isAgg4
 z4:=Tryz.sizeOf4
 v4:=Tryz.zeroValue4
 t5:=underlying5
 a5:=Tryz.isAgg5
 z5:=Tryz.sizeOf5
 v5:=Tryz.zeroValue5
 t9:=underlying9
 a9:=Tryz.isAgg9
 z9:=Tryz.sizeOf9
 v9:=Tryz.zeroValue9
 t20:=underlying20
 a20:=Tryz.isAgg20
 z20:=Tryz.sizeOf20
 v20:=Tryz.zeroValue20
 t21:=underlying21
 a21:=Tryz.isAgg21
 z21:=Tryz.sizeOf21
 v21:=Tryz.zeroValue21
 t37:=underlying120
 a37:=Tryz.isAgg120
 z37:=Tryz.sizeOf120
 v37:=Tryz.zeroValue120
 t46:=underlying218
 a46:=Tryz.isAgg218
 z46:=Tryz.sizeOf218
 v46:=Tryz.zeroValue218
 t51:=underlying253
 a51:=Tryz.isAgg253
 z51:=Tryz.sizeOf253
 v51:=Tryz.zeroValue253
 t70:=underlying119
 a70:=Tryz.isAgg119
 z70:=Tryz.sizeOf119
 v70:=Tryz.zeroValue119
 t72:=underlying122
 a72:=Tryz.isAgg122
 z72:=Tryz.sizeOf122
 v72:=Tryz.zeroValue122
 t75:=underlying125
 a75:=Tryz.isAgg125
 z75:=Tryz.sizeOf125
 v75:=Tryz.zeroValue125
 t76:=underlying126
 a76:=Tryz.isAgg126
 z76:=Tryz.sizeOf126
 v76:=Tryz.zeroValue126
 t105:=underlying228
 a105:=Tryz.isAgg228
 z105:=Tryz.sizeOf228
 v105:=Tryz.zeroValue228
 t119:=underlying275
 a119:=Tryz.isAgg275
 z119:=Tryz.sizeOf275
 t127:=underlying180
 a127:=Tryz.isAgg180
 z127:=Tryz.sizeOf180
 v127:=Tryz.zeroValue180
 t138:=underlying277
 a138:=Tryz.isAgg277
 z138:=Tryz.sizeOf277
 v138:=Tryz.zeroValue277
 t139:=underlying278
 a139:=Tryz.isAgg278
 z139:=Tryz.sizeOf278
 v139:=Tryz.zeroValue278
 t146:=underlying289
 a146:=Tryz.isAgg289
 z146:=Tryz.sizeOf289
 v146:=Tryz.zeroValue289
 t164:=underlying219
 a164:=Tryz.isAgg219
 z164:=Tryz.sizeOf219
 v164:=Tryz.zeroValue219
 g1:=by kernel_rfl
 g3:=by kernel_rfl
 g4:=by kernel_rfl }
theorem Tryz.Builder_Extra_155:Builder.Extra Tryz.prog Tryz.lays155_ren:={
 sizeBuilder:=by kernel_rfl
 liesBuilder:=by kernel_rfl
 t5:=underlying5
 a5:=Tryz.isAgg5
 z5:=Tryz.sizeOf5
 v5:=Tryz.zeroValue5
 infoByte:=by kernel_rfl
 cellsByte:=by kernel_rfl
 sizeByte:=by kernel_rfl
 neB5:=by decide }
def Tryz.lays156_ren:Go.Shelf.Ren:=⟨λ| 156=>44 | 165=>88 | 166=>89 | 169=>90 | 240=>150 | 241=>151 | 276=>206 | 277=>207 | n=>n,λ| 31=>28 | 9=>9 | 3=>3 | 4=>4 | 0=>0 | 20=>20 | 72=>122 | 76=>126 | 70=>119 | 37=>120 | 75=>125 | 127=>180 | 164=>219 | 5=>5 | 80=>128 | n=>n,λ| n=>n⟩
theorem Tryz.lays156:Go.Proofs.Lays.n156 Tryz.prog Tryz.lays156_ren:={
 mixed:=by kernel_rfl
 f156:=func44.trans (congrArg some (by kernel_rfl))
 f165:=func88.trans (congrArg some (by kernel_rfl))
 f166:=func89.trans (congrArg some (by kernel_rfl))
 f169:=func90.trans (congrArg some (by kernel_rfl))
 f240:=func150.trans (congrArg some (by kernel_rfl))
 f241:=func151.trans (congrArg some (by kernel_rfl))
 f276:=func206.trans (congrArg some (by kernel_rfl))
 f277:=func207.trans (congrArg some (by kernel_rfl))
 t0:=underlying0
 a0:=Tryz.isAgg0
 z0:=Tryz.sizeOf0
 v0:=Tryz.zeroValue0
 t3:=underlying3
 a3:=Tryz.isAgg3
 z3:=Tryz.sizeOf3
 v3:=Tryz.zeroValue3
 t4:=underlying4
 a4:=Tryz.isAgg4
 z4:=Tryz.sizeOf4
 v4:=Tryz.zeroValue4
 t9:=underlying9
 a9:=Tryz.isAgg9
 z9:=Tryz.sizeOf9
 v9:=Tryz.zeroValue9
 t20:=underlying20
 a20:=Tryz.isAgg20
 z20:=Tryz.sizeOf20
 v20:=Tryz.zeroValue20
 t31:=underlying28
 a31:=Tryz.isAgg28
 z31:=Tryz.sizeOf28
 v31:=Tryz.zeroValue28
 t37:=underlying120
 a37:=Tryz.isAgg120
 z37:=Tryz.sizeOf120
 v37:=Tryz.zeroValue120
 t70:=underlying119
 a70:=Tryz.isAgg119
 z70:=Tryz.sizeOf119
 v70:=Tryz.zeroValue119
 t72:=underlying122
 a72:=Tryz.isAgg122
 z72:=Tryz.sizeOf122
 v72:=Tryz.zeroValue122
 t75:=underlying125
 a75:=Tryz.isAgg125
 z75:=Tryz.sizeOf125
 v75:=Tryz.zeroValue125
 t76:=underlying126
 a76:=Tryz.isAgg126
 z76:=Tryz.sizeOf126
 v76:=Tryz.zeroValue126
 t127:=underlying180
 a127:=Tryz.isAgg180
 z127:=Tryz.sizeOf180
 v127:=Tryz.zeroValue180
 t164:=underlying219
 a164:=Tryz.isAgg219
 z164:=Tryz.sizeOf219
 v164:=Tryz.zeroValue219 }
theorem Tryz.Builder_Extra_156:Builder.Extra Tryz.prog Tryz.lays156_ren:={
 sizeBuilder:=by kernel_rfl
 liesBuilder:=by kernel_rfl
 t5:=underlying5
 a5:=Tryz.isAgg5
 z5:=Tryz.sizeOf5
 v5:=Tryz.zeroValue5
 infoByte:=by kernel_rfl
 cellsByte:=by kernel_rfl
 sizeByte:=by kernel_rfl
 neB5:=by decide }
end Go.Proofs
namespace Go.Proofs.YtoknknbmfmddbaaGreatDoor
open Go Go.Ab
open Go.Proofs.Tryz
def strings_Compare (s p:ByteArray):Bool×Int:=zJF s p
def zCS:Ab.Spec ty:=zi (cx:=base) (zg (zh zxz) (zg (zh zxz) zC)) λx=>((strings_Compare x.1 x.2.1).1,⟨[.pure (.lit (.int .i64 (strings_Compare x.1 x.2.1).2))],[]⟩)
theorem zOj:SdP 196 zCS:=z1K zfB Go.Proofs.Tryz.lays106 call196
end Go.Proofs.YtoknknbmfmddbaaGreatDoor
namespace Go.Proofs.YtoknknbmfmddbaaGreatDoor
open Go Go.Ab
open Go.Proofs.Tryz
def zWM:=zbN base 22 [(167,zoh),(168,zpY),(195,zmQ),(196,zCS)]
def zMa (a:Value) (b:Value):Wy0 (Int):=.bn (zff a.Kind b.Kind) λr2=>.bn (zjH a.Int b.Int) λr1=>.bn (zpC [r2,r1,(strings_Compare a.Text b.Text).2]) λr0=>.k r0
def zki (a:Value) (b:Value):=(zMa a b).fin default
def zX1:AL base (Value×Value×Unit):=zg (zh (zda 79)) (zg (zh (zda 79)) zC)
def zna:=zi zX1 λx=>((zki x.1 x.2.1).1,zNi (zki x.1 x.2.1).2)
theorem zrI:SdP 131 zna:=
 sT (cx':=zWM) (zm ⟨zqX,zuR,zsf,zOj,trivial⟩) call131 func131 (lOK aN)
def zEU (zt:yA->yA->Bool×Int) (zw:yB->yB->Bool×Int) (zy:yD->yD->Bool×Int) (zD:Wd->Wd->Bool×Int):=zbN base 51 [(131,zna),(167,zoh),(168,zpY),(169,(zbh zt)),(170,(zet zw)),(171,(zbw zy)),(172,(zeu zD))]
def zvD (zt:yA->yA->Bool×Int) (zw:yB->yB->Bool×Int) (zy:yD->yD->Bool×Int) (zD:Wd->Wd->Bool×Int) (a:At) (b:At):Wy0 (Int):=.bn (zff a.Kind b.Kind) λr8=>.bn (zff a.Row.Table b.Row.Table) λr7=>.bn (zff a.Row.Seq b.Row.Seq) λr6=>.bn (zt a.Ag b.Ag) λr5=>.bn (zff a.Func b.Func) λr4=>.bn (zy a.Items b.Items) λr3=>.bn (zff a.Op b.Op) λr2=>.bn (zki a.Bd b.Bd) λr1=>.bn (zpC [r8,r7,r6,r5,r4,r3,r2,r1]) λr0=>.k r0
def zkX (zt:yA->yA->Bool×Int) (zw:yB->yB->Bool×Int) (zy:yD->yD->Bool×Int) (zD:Wd->Wd->Bool×Int) (a:At) (b:At):=(zvD zt zw zy zD a b).fin default
theorem zCm (zt:yA->yA->Bool×Int) (zw:yB->yB->Bool×Int) (zy:yD->yD->Bool×Int) (zD:Wd->Wd->Bool×Int) (zfW:SdP 169 (zbh zt)) (zj8:SdP 170 (zet zw)) (zhA:SdP 171 (zbw zy)) (zm8:SdP 172 (zeu zD)):SdP 106 (zhO (zkX zt zw zy zD)):=
 sT (cx':=(zEU zt zw zy zD)) (zm ⟨zrI,zqX,zuR,zfW,zj8,zhA,zm8,trivial⟩) call106 func106 (lOK aN)
def zC6 (zcR:At->At->Bool×Int):=zbN base 17 [(106,(zhO zcR)),(167,zoh),(168,zpY)]
def zt9 (zcR:At->At->Bool×Int) (a:Fc) (b:Fc):Wy0 (Int):=.bn (zcR (At.mk a.At.Kind a.At.Row a.At.Ag a.At.Func a.At.Items a.At.Op a.At.Bd) (At.mk b.At.Kind b.At.Row b.At.Ag b.At.Func b.At.Items b.At.Op b.At.Bd)) λr2=>.bn (zff a.Exp b.Exp) λr1=>.bn (zpC [r2,r1]) λr0=>.k r0
def zjQ (zcR:At->At->Bool×Int) (a:Fc) (b:Fc):=(zt9 zcR a b).fin default
theorem zAK (zcR:At->At->Bool×Int) (zGF:SdP 106 (zhO zcR)):SdP 166 (zeQ (zjQ zcR)):=
 sT (cx':=(zC6 zcR)) (zm ⟨zGF,zqX,zuR,trivial⟩) call166 func166 (lOK aN)
def zEM (zw:yB->yB->Bool×Int):=zbN base 17 [(131,zna),(167,zoh),(170,(zet zw))]
def zvv (zw:yB->yB->Bool×Int) (a:Wd) (b:Wd):Wy0 (Int):=.bn (zki a.Value b.Value) λr2=>.bn (zw a.Ann b.Ann) λr1=>.bn (zpC [r2,r1]) λr0=>.k r0
def zkU (zw:yB->yB->Bool×Int) (a:Wd) (b:Wd):=(zvv zw a b).fin default
theorem zCq (zw:yB->yB->Bool×Int) (zj8:SdP 170 (zet zw)):SdP 172 (zeu (zkU zw)):=
 sT (cx':=(zEM zw)) (zm ⟨zrI,zqX,zj8,trivial⟩) call172 func172 (lOK aN)
def zET (zL:yC->yC->Bool×Int) (zu:Fc->Fc->Bool×Int):=zbN base 10 [(165,(zbP zL)),(166,(zeQ zu))]
def zvC (zL:yC->yC->Bool×Int) (zu:Fc->Fc->Bool×Int) (a:Term) (b:Term):Wy0 (Int):=.bn (zL a.Fs b.Fs) λr0=>.k r0
def zkV (zL:yC->yC->Bool×Int) (zu:Fc->Fc->Bool×Int) (a:Term) (b:Term):=(zvC zL zu a b).fin default
theorem zCs (zL:yC->yC->Bool×Int) (zu:Fc->Fc->Bool×Int) (zjG:SdP 165 (zbP zL)) (zlW:SdP 166 (zeQ zu)):SdP 104 (zgr (zkV zL zu)):=
 sT (cx':=(zET zL zu)) (zm ⟨zjG,zlW,trivial⟩) call104 func104 (lOK aN)
abbrev zbt:=yA×yA×Unit×yA×Int×Int×Unit
abbrev zdt:=Int⊕(yA×yA)
def zfQ (zw:yB->yB->Bool×Int) (s1:yA) (s2:yA) (t11:yA) (t12:Int) (t13:Int):Wy zbt Unit zdt:=.i (decide (t13<t12)) (.i (decide (0<=t13)&&decide (t13<Int.ofNat t11.length)) (.i (decide (t13≥Int.ofNat s2.length)) (.k (.inl 1)) (.i (decide (0<=t13)&&decide (t13<Int.ofNat s2.length)) (.bn (zw (t11.getD t13.toNat default) (s2.getD t13.toNat default)) λr0=>.i (r0 != 0) (.k (.inl (r0))) (.h (s1,s2,(),t11,t12,(IntKind.i64.wrap (t13+1)),()) ())) .d)) .d) (.k (.inr (s1,s2)))
def zcK (zw:yB->yB->Bool×Int) (x:zbt) (y:Unit):=zfQ zw x.1 x.2.1 x.2.2.2.1 x.2.2.2.2.1 x.2.2.2.2.2.1
def zfP (zw:yB->yB->Bool×Int) (n:Nat) (s1:yA) (s2:yA) (t11:yA) (t12:Int) (t13:Int):=zA (zcK zw) (.inl default) n (s1,s2,(),t11,t12,t13,()) ()
def zfE (r:zdt):LTree ty:=.ite (isL r) (.done .ret [.lit (.int .i64 (getL r))] []) (.done (.exit 0) [.sl 51 (getR r).1,.sl 51 (getR r).2] [])
def zfO:LL ty zbt:=za (lSl 51) (za (lSl 51) (za (lFn 170 (zr)) (za (lSl 51) (za zj (za zj zr)))))
def zfF (x:zbt) (y:Unit):Nat:=(x.1.length+x.2.1.length+x.2.2.2.1.length+Int.toNat x.2.2.2.2.1+Int.toNat x.2.2.2.2.2.1+1)
def zcN (zw:yB->yB->Bool×Int):=zc6 base 39 [(170,(zet zw))] [] [(2,(kpL [0,1,2,11,12,13]))] [(2,1,(kpL [0,1])),(2,0,(kpL [6]))] [(2,spW zfO z2k (zcK zw) (.inl default) zfE zfF)] []
theorem zfG (zw:yB->yB->Bool×Int):zS (zcN zw) (lp (body f169) 0):=zI (id:=2) (hl:=rfl)
def zfU (zw:yB->yB->Bool×Int) (s1:yA) (s2:yA):Wy0 (Int):=.bn (zfP zw (s1.length+s2.length+s1.length+(Int.ofNat s1.length).toNat +Int.toNat 0+1) s1 s2 s1 (Int.ofNat s1.length) 0) λr2=>.i (isL r2) (.k (getL r2)) (.i (decide (Int.ofNat (getR r2).1.length<Int.ofNat (getR r2).2.length)) (.k (-1:Int)) (.k 0))
def zbg (zw:yB->yB->Bool×Int) (s1:yA) (s2:yA):=(zfU zw s1 s2).fin default
theorem zfm (zw:yB->yB->Bool×Int) (zj8:SdP 170 (zet zw)):SdP 169 (zbh (zbg zw)):=
 sT (cx':=(zcN zw)) (zm ⟨zj8,trivial⟩) call169 func169 (lOK (aC (zfG zw) aN))
abbrev zb7:=yC×yC×Unit×yC×Int×Int×Unit
abbrev zfj:=Int⊕(yC×yC)
def zee (zu:Fc->Fc->Bool×Int) (s1:yC) (s2:yC) (t11:yC) (t12:Int) (t13:Int):Wy zb7 Unit zfj:=.i (decide (t13<t12)) (.i (decide (0<=t13)&&decide (t13<Int.ofNat t11.length)) (.i (decide (t13≥Int.ofNat s2.length)) (.k (.inl 1)) (.i (decide (0<=t13)&&decide (t13<Int.ofNat s2.length)) (.bn (zu (FO.mk (At.mk (t11.getD t13.toNat default).At.Kind (t11.getD t13.toNat default).At.Row (t11.getD t13.toNat default).At.Ag (t11.getD t13.toNat default).At.Func (t11.getD t13.toNat default).At.Items (t11.getD t13.toNat default).At.Op (t11.getD t13.toNat default).At.Bd) (t11.getD t13.toNat default).Exp) (FO.mk (At.mk (s2.getD t13.toNat default).At.Kind (s2.getD t13.toNat default).At.Row (s2.getD t13.toNat default).At.Ag (s2.getD t13.toNat default).At.Func (s2.getD t13.toNat default).At.Items (s2.getD t13.toNat default).At.Op (s2.getD t13.toNat default).At.Bd) (s2.getD t13.toNat default).Exp)) λr0=>.i (r0 != 0) (.k (.inl (r0))) (.h (s1,s2,(),t11,t12,(IntKind.i64.wrap (t13+1)),()) ())) .d)) .d) (.k (.inr (s1,s2)))
def zbG (zu:Fc->Fc->Bool×Int) (x:zb7) (y:Unit):=zee zu x.1 x.2.1 x.2.2.2.1 x.2.2.2.2.1 x.2.2.2.2.2.1
def zec (zu:Fc->Fc->Bool×Int) (n:Nat) (s1:yC) (s2:yC) (t11:yC) (t12:Int) (t13:Int):=zA (zbG zu) (.inl default) n (s1,s2,(),t11,t12,t13,()) ()
def zje (r:zfj):LTree ty:=.ite (isL r) (.done .ret [.lit (.int .i64 (getL r))] []) (.done (.exit 0) [.sl 145 (getR r).1,.sl 145 (getR r).2] [])
def zju:LL ty zb7:=za (lSl 145) (za (lSl 145) (za (lFn 166 (zr)) (za (lSl 145) (za zj (za zj zr)))))
def zjd (x:zb7) (y:Unit):Nat:=(x.1.length+x.2.1.length+x.2.2.2.1.length+Int.toNat x.2.2.2.2.1+Int.toNat x.2.2.2.2.2.1+1)
def zed (zu:Fc->Fc->Bool×Int):=zc6 base 39 [(166,(zeQ zu))] [] [(2,(kpL [0,1,2,11,12,13]))] [(2,1,(kpL [0,1])),(2,0,(kpL [6]))] [(2,spW zju z2k (zbG zu) (.inl default) zje zjd)] []
theorem zjj (zu:Fc->Fc->Bool×Int):zS (zed zu) (lp (body f165) 0):=zI (id:=2) (hl:=rfl)
def zei (zu:Fc->Fc->Bool×Int) (s1:yC) (s2:yC):Wy0 (Int):=.bn (zec zu (s1.length+s2.length+s1.length+(Int.ofNat s1.length).toNat +Int.toNat 0+1) s1 s2 s1 (Int.ofNat s1.length) 0) λr2=>.i (isL r2) (.k (getL r2)) (.i (decide (Int.ofNat (getR r2).1.length<Int.ofNat (getR r2).2.length)) (.k (-1:Int)) (.k 0))
def zbk (zu:Fc->Fc->Bool×Int) (s1:yC) (s2:yC):=(zei zu s1 s2).fin default
theorem ziE (zu:Fc->Fc->Bool×Int) (zlW:SdP 166 (zeQ zu)):SdP 165 (zbP (zbk zu)):=
 sT (cx':=(zed zu)) (zm ⟨zlW,trivial⟩) call165 func165 (lOK (aC (zjj zu) aN))
abbrev zbO:=yD×yD×Unit×yD×Int×Int×Unit
abbrev zeo:=Int⊕(yD×yD)
def zhb (zD:Wd->Wd->Bool×Int) (s1:yD) (s2:yD) (t11:yD) (t12:Int) (t13:Int):Wy zbO Unit zeo:=.i (decide (t13<t12)) (.i (decide (0<=t13)&&decide (t13<Int.ofNat t11.length)) (.i (decide (t13≥Int.ofNat s2.length)) (.k (.inl 1)) (.i (decide (0<=t13)&&decide (t13<Int.ofNat s2.length)) (.bn (zD (t11.getD t13.toNat default) (s2.getD t13.toNat default)) λr0=>.i (r0 != 0) (.k (.inl (r0))) (.h (s1,s2,(),t11,t12,(IntKind.i64.wrap (t13+1)),()) ())) .d)) .d) (.k (.inr (s1,s2)))
def zdd (zD:Wd->Wd->Bool×Int) (x:zbO) (y:Unit):=zhb zD x.1 x.2.1 x.2.2.2.1 x.2.2.2.2.1 x.2.2.2.2.2.1
def zg9 (zD:Wd->Wd->Bool×Int) (n:Nat) (s1:yD) (s2:yD) (t11:yD) (t12:Int) (t13:Int):=zA (zdd zD) (.inl default) n (s1,s2,(),t11,t12,t13,()) ()
def zg1 (r:zeo):LTree ty:=.ite (isL r) (.done .ret [.lit (.int .i64 (getL r))] []) (.done (.exit 0) [.sl 169 (getR r).1,.sl 169 (getR r).2] [])
def zhe:LL ty zbO:=za (lSl 169) (za (lSl 169) (za (lFn 172 (zr)) (za (lSl 169) (za zj (za zj zr)))))
def zgU (x:zbO) (y:Unit):Nat:=(x.1.length+x.2.1.length+x.2.2.2.1.length+Int.toNat x.2.2.2.2.1+Int.toNat x.2.2.2.2.2.1+1)
def zde (zD:Wd->Wd->Bool×Int):=zc6 base 39 [(172,(zeu zD))] [] [(2,(kpL [0,1,2,11,12,13]))] [(2,1,(kpL [0,1])),(2,0,(kpL [6]))] [(2,spW zhe z2k (zdd zD) (.inl default) zg1 zgU)] []
theorem zgR (zD:Wd->Wd->Bool×Int):zS (zde zD) (lp (body f171) 0):=zI (id:=2) (hl:=rfl)
def zhC (zD:Wd->Wd->Bool×Int) (s1:yD) (s2:yD):Wy0 (Int):=.bn (zg9 zD (s1.length+s2.length+s1.length+(Int.ofNat s1.length).toNat +Int.toNat 0+1) s1 s2 s1 (Int.ofNat s1.length) 0) λr2=>.i (isL r2) (.k (getL r2)) (.i (decide (Int.ofNat (getR r2).1.length<Int.ofNat (getR r2).2.length)) (.k (-1:Int)) (.k 0))
def zby (zD:Wd->Wd->Bool×Int) (s1:yD) (s2:yD):=(zhC zD s1 s2).fin default
theorem zgu (zD:Wd->Wd->Bool×Int) (zm8:SdP 172 (zeu zD)):SdP 171 (zbw (zby zD)):=
 sT (cx':=(zde zD)) (zm ⟨zm8,trivial⟩) call171 func171 (lOK (aC (zgR zD) aN))
abbrev zb1:=yB×yB×Unit×yB×Int×Int×Unit
abbrev ze3:=Int⊕(yB×yB)
def ziV (zK:Term->Term->Bool×Int) (s1:yB) (s2:yB) (t11:yB) (t12:Int) (t13:Int):Wy zb1 Unit ze3:=.i (decide (t13<t12)) (.i (decide (0<=t13)&&decide (t13<Int.ofNat t11.length)) (.i (decide (t13≥Int.ofNat s2.length)) (.k (.inl 1)) (.i (decide (0<=t13)&&decide (t13<Int.ofNat s2.length)) (.bn (zK (t11.getD t13.toNat default) (s2.getD t13.toNat default)) λr0=>.i (r0 != 0) (.k (.inl (r0))) (.h (s1,s2,(),t11,t12,(IntKind.i64.wrap (t13+1)),()) ())) .d)) .d) (.k (.inr (s1,s2)))
def zdX (zK:Term->Term->Bool×Int) (x:zb1) (y:Unit):=ziV zK x.1 x.2.1 x.2.2.2.1 x.2.2.2.2.1 x.2.2.2.2.2.1
def ziW (zK:Term->Term->Bool×Int) (n:Nat) (s1:yB) (s2:yB) (t11:yB) (t12:Int) (t13:Int):=zA (zdX zK) (.inl default) n (s1,s2,(),t11,t12,t13,()) ()
def ziC (r:ze3):LTree ty:=.ite (isL r) (.done .ret [.lit (.int .i64 (getL r))] []) (.done (.exit 0) [.sl 107 (getR r).1,.sl 107 (getR r).2] [])
def ziT:LL ty zb1:=za (lSl 107) (za (lSl 107) (za (lFn 225 (zr)) (za (lSl 107) (za zj (za zj zr)))))
def zit (x:zb1) (y:Unit):Nat:=(x.1.length+x.2.1.length+x.2.2.2.1.length+Int.toNat x.2.2.2.2.1+Int.toNat x.2.2.2.2.2.1+1)
def zdY (zK:Term->Term->Bool×Int):=zc6 base 39 [(225,(zgr zK))] [] [(2,(kpL [0,1,2,11,12,13]))] [(2,1,(kpL [0,1])),(2,0,(kpL [6]))] [(2,spW ziT z2k (zdX zK) (.inl default) ziC zit)] []
theorem ziI (zK:Term->Term->Bool×Int):zS (zdY zK) (lp (body f224) 0):=zI (id:=2) (hl:=rfl)
def zjg (zK:Term->Term->Bool×Int) (s1:yB) (s2:yB):Wy0 (Int):=.bn (ziW zK (s1.length+s2.length+s1.length+(Int.ofNat s1.length).toNat +Int.toNat 0+1) s1 s2 s1 (Int.ofNat s1.length) 0) λr2=>.i (isL r2) (.k (getL r2)) (.i (decide (Int.ofNat (getR r2).1.length<Int.ofNat (getR r2).2.length)) (.k (-1:Int)) (.k 0))
def zbI (zK:Term->Term->Bool×Int) (s1:yB) (s2:yB):=(zjg zK s1 s2).fin default
theorem zhU (zK:Term->Term->Bool×Int) (zpx:SdP 225 (zgr zK)):SdP 224 (zbJ (zbI zK)):=
 sT (cx':=(zdY zK)) (zm ⟨zpx,trivial⟩) call224 func224 (lOK (aC (ziI zK) aN))
def zcb:Nat->(yB->yB->Bool×Int)×(Term->Term->Bool×Int)×(Term->Term->Bool×Int)×(Fc->Fc->Bool×Int)×(At->At->Bool×Int)×(Wd->Wd->Bool×Int)×(yB->yB->Bool×Int)×(yC->yC->Bool×Int)×(yA->yA->Bool×Int)×(yD->yD->Bool×Int)
 | 0=>(λ_ _=>(false,default),λ_ _=>(false,default),λ_ _=>(false,default),λ_ _=>(false,default),λ_ _=>(false,default),λ_ _=>(false,default),λ_ _=>(false,default),λ_ _=>(false,default),λ_ _=>(false,default),λ_ _=>(false,default))
 | n+1=>(zp7 ((zcb n).2.2.2.2.2.2.1) ((zcb n).2.1),zl5 ((zcb n).2.2.1),zkV ((zcb n).2.2.2.2.2.2.2.1) ((zcb n).2.2.2.1),zjQ ((zcb n).2.2.2.2.1),zkX ((zcb n).2.2.2.2.2.2.2.2.1) ((zcb n).1) ((zcb n).2.2.2.2.2.2.2.2.2) ((zcb n).2.2.2.2.2.1),zkU ((zcb n).1),zbI ((zcb n).2.1),zbk ((zcb n).2.2.2.1),zbg ((zcb n).1),zby ((zcb n).2.2.2.2.2.1))
def zgz (n:Nat):yB->yB->Bool×Int:=(zcb n).1
def zjz (n:Nat):Term->Term->Bool×Int:=(zcb n).2.1
def zhI (n:Nat):Term->Term->Bool×Int:=(zcb n).2.2.1
def zgp (n:Nat):Fc->Fc->Bool×Int:=(zcb n).2.2.2.1
def zhH (n:Nat):At->At->Bool×Int:=(zcb n).2.2.2.2.1
def zfy (n:Nat):Wd->Wd->Bool×Int:=(zcb n).2.2.2.2.2.1
def zbK (n:Nat):yB->yB->Bool×Int:=(zcb n).2.2.2.2.2.2.1
def zbR (n:Nat):yC->yC->Bool×Int:=(zcb n).2.2.2.2.2.2.2.1
def zbf (n:Nat):yA->yA->Bool×Int:=(zcb n).2.2.2.2.2.2.2.2.1
def zbx (n:Nat):yD->yD->Bool×Int:=(zcb n).2.2.2.2.2.2.2.2.2
theorem zK8 (n:Nat):zgz (n+1)=zp7 (zbK n) (zjz n):=rfl
theorem zGL (n:Nat):zjz (n+1)=zl5 (zhI n):=rfl
theorem zEG (n:Nat):zhI (n+1)=zkV (zbR n) (zgp n):=rfl
theorem zDr (n:Nat):zgp (n+1)=zjQ (zhH n):=rfl
theorem zEx (n:Nat):zhH (n+1)=zkX (zbf n) (zgz n) (zbx n) (zfy n):=rfl
theorem zEI (n:Nat):zfy (n+1)=zkU (zgz n):=rfl
theorem ziS (n:Nat):zbK (n+1)=zbI (zjz n):=rfl
theorem zjn (n:Nat):zbR (n+1)=zbk (zgp n):=rfl
theorem zfN (n:Nat):zbf (n+1)=zbg (zgz n):=rfl
theorem zhk (n:Nat):zbx (n+1)=zby (zfy n):=rfl
theorem zwm:∀ n,SdP 170 (zet (zgz n))/\SdP 225 (zgr (zjz n))/\SdP 104 (zgr (zhI n))/\SdP 166 (zeQ (zgp n))/\SdP 106 (zhO (zhH n))/\SdP 172 (zeu (zfy n))/\SdP 224 (zbJ (zbK n))/\SdP 165 (zbP (zbR n))/\SdP 169 (zbh (zbf n))/\SdP 171 (zbw (zbx n))
 | 0=>⟨zbQ call170 (λ_=>rfl),zbQ call225 (λ_=>rfl),zbQ call104 (λ_=>rfl),zbQ call166 (λ_=>rfl),zbQ call106 (λ_=>rfl),zbQ call172 (λ_=>rfl),zbQ call224 (λ_=>rfl),zbQ call165 (λ_=>rfl),zbQ call169 (λ_=>rfl),zbQ call171 (λ_=>rfl)⟩
 | n+1=>by
  have ih:=zwm n;exact ⟨zHq _ _ (ih.2.2.2.2.2.2.1) (ih.2.1),zDW _ (ih.2.2.1),zCs _ _ (ih.2.2.2.2.2.2.2.1) (ih.2.2.2.1),zAK _ (ih.2.2.2.2.1),zCm _ _ _ _ (ih.2.2.2.2.2.2.2.2.1) (ih.1) (ih.2.2.2.2.2.2.2.2.2) (ih.2.2.2.2.2.1),zCq _ (ih.1),zhU _ (ih.2.1),ziE _ (ih.2.2.2.1),zfm _ (ih.1),zgu _ (ih.2.2.2.2.2.1)⟩
def zy3:yB->yB->Bool×Int:=zgz 1000
def zz3:Ab.Spec ty:=zet zy3
theorem zKx:SdP 170 zz3:=(zwm 1000).1
def zbU:Term->Term->Bool×Int:=zhI 1000
def zi5:Ab.Spec ty:=zgr zbU
theorem zlY:SdP 104 zi5:=(zwm 1000).2.2.1
def zjy:At->At->Bool×Int:=zhH 1000
def zmC:Ab.Spec ty:=zhO zjy
theorem zub:SdP 106 zmC:=(zwm 1000).2.2.2.2.1
def zX:Wd->Wd->Bool×Int:=zfy 1000
def zfX:Ab.Spec ty:=zeu zX
theorem zig:SdP 172 zfX:=(zwm 1000).2.2.2.2.2.1
def zSo:=zbN base 9 [(170,zz3)]
def zF3 (a:yB) (b:yB):Wy0 (Bool):=.bn (zy3 a b) λr0=>.k (r0==0)
def zgB (a:yB) (b:yB):=(zF3 a b).fin default
def zoq:=zi zQd λx=>((zgB x.1 x.2.1).1,zSj (zgB x.1 x.2.1).2)
theorem zt3:SdP 115 zoq:=
 sT (cx':=zSo) (zm ⟨zKx,trivial⟩) call115 func115 (lOK aN)
end Go.Proofs.YtoknknbmfmddbaaGreatDoor
end
