/- Texts of this claim, joined (the program, its functions in plain words, and what they compute). -/
import Derived.KernelRfl
import Derived.Test.YtoknknbmfmddbaaGreatDoorChecked
import Derived.Test.YtoknknbmfmddbaaGreatDoorProg
import Derived.Test.YtoknknbmfmddbaaGreatDoorGB1
set_option autoImplicit false
set_option linter.unusedVariables false
set_option linter.unusedSectionVars false
set_option linter.unusedSimpArgs false
set_option maxRecDepth 1000000
set_option maxHeartbeats 0
/- The types of the program, as plain data. -/
noncomputable section
namespace Go.Proofs.YtoknknbmfmddbaaGreatDoor
open Go Go.Ab
open Go.Proofs Go.Shelf
open Go.Proofs.Tryz
structure Column where
 Name:ByteArray
 Type_:Int
 deriving DecidableEq,Inhabited
structure Value where
 Kind:Int
 Int:Int
 Text:ByteArray
 deriving DecidableEq,Inhabited
structure RowID where
 Table:Int
 Seq:Int
 deriving DecidableEq,Inhabited
structure FO (A:Type) where
 At:A
 Exp:Int
structure TO (A:Type) where
 Cf:Int
 Fs:List (FO A)
structure WO (A:Type) where
 Value:Value
 Ann:List (TO A)
structure At where
 Kind:Int
 Row:RowID
 Ag:List (List (TO At))
 Func:Int
 Items:List (WO At)
 Op:Int
 Bd:Value
abbrev Fc:=FO At
abbrev Term:=TO At
abbrev Wd:=WO At
instance:Inhabited At:=⟨⟨0,default,[],0,[],0,default⟩⟩
instance:Inhabited Fc:=⟨⟨default,0⟩⟩
instance:Inhabited Term:=⟨⟨0,[]⟩⟩
instance:Inhabited Wd:=⟨⟨default,[]⟩⟩
theorem At.eta (x:At):(⟨x.Kind,x.Row,x.Ag,x.Func,x.Items,x.Op,x.Bd⟩:At)=x:=by cases x; rfl
mutual
def z8T:(x y:At)->Decidable (x=y)
 | ⟨k,r,a,f,i,o,b⟩,⟨k',r',a',f',i',o',b'⟩=>
  match decEq k k',decEq r r',z9w a a',decEq f f',z6q i i',decEq o o',decEq b b' with
  | .isTrue h1,.isTrue h2,.isTrue h3,.isTrue h4,.isTrue h5,.isTrue h6,.isTrue h7=>.isTrue (by subst h1 h2 h3 h4 h5 h6 h7; rfl)
  | .isFalse h,_,_,_,_,_,_=>.isFalse (λe=>by cases e; exact h rfl)
  | _,.isFalse h,_,_,_,_,_=>.isFalse (λe=>by cases e; exact h rfl)
  | _,_,.isFalse h,_,_,_,_=>.isFalse (λe=>by cases e; exact h rfl)
  | _,_,_,.isFalse h,_,_,_=>.isFalse (λe=>by cases e; exact h rfl)
  | _,_,_,_,.isFalse h,_,_=>.isFalse (λe=>by cases e; exact h rfl)
  | _,_,_,_,_,.isFalse h,_=>.isFalse (λe=>by cases e; exact h rfl)
  | _,_,_,_,_,_,.isFalse h=>.isFalse (λe=>by cases e; exact h rfl)
def z3Y:(x y:Fc)->Decidable (x=y)
 | ⟨a,e⟩,⟨a',e'⟩=>match z8T a a',decEq e e' with
  | .isTrue h1,.isTrue h2=>.isTrue (by subst h1 h2; rfl)
  | .isFalse h,_=>.isFalse (λe=>by cases e; exact h rfl)
  | _,.isFalse h=>.isFalse (λe=>by cases e; exact h rfl)
def z0N:(x y:List Fc)->Decidable (x=y)
 | [],[]=>.isTrue rfl
 | [],_::_=>.isFalse (by simp)
 | _::_,[]=>.isFalse (by simp)
 | x::r,y::s=>match z3Y x y,z0N r s with
  | .isTrue h1,.isTrue h2=>.isTrue (by subst h1 h2; rfl)
  | .isFalse h,_=>.isFalse (λe=>by cases e; exact h rfl)
  | _,.isFalse h=>.isFalse (λe=>by cases e; exact h rfl)
def z9f:(x y:Term)->Decidable (x=y)
 | ⟨a,e⟩,⟨a',e'⟩=>match decEq a a',z0N e e' with
  | .isTrue h1,.isTrue h2=>.isTrue (by subst h1 h2; rfl)
  | .isFalse h,_=>.isFalse (λe=>by cases e; exact h rfl)
  | _,.isFalse h=>.isFalse (λe=>by cases e; exact h rfl)
def z7q:(x y:List Term)->Decidable (x=y)
 | [],[]=>.isTrue rfl
 | [],_::_=>.isFalse (by simp)
 | _::_,[]=>.isFalse (by simp)
 | x::r,y::s=>match z9f x y,z7q r s with
  | .isTrue h1,.isTrue h2=>.isTrue (by subst h1 h2; rfl)
  | .isFalse h,_=>.isFalse (λe=>by cases e; exact h rfl)
  | _,.isFalse h=>.isFalse (λe=>by cases e; exact h rfl)
def z9w:(x y:List (List Term))->Decidable (x=y)
 | [],[]=>.isTrue rfl
 | [],_::_=>.isFalse (by simp)
 | _::_,[]=>.isFalse (by simp)
 | x::r,y::s=>match z7q x y,z9w r s with
  | .isTrue h1,.isTrue h2=>.isTrue (by subst h1 h2; rfl)
  | .isFalse h,_=>.isFalse (λe=>by cases e; exact h rfl)
  | _,.isFalse h=>.isFalse (λe=>by cases e; exact h rfl)
def z9t:(x y:Wd)->Decidable (x=y)
 | ⟨a,e⟩,⟨a',e'⟩=>match decEq a a',z7q e e' with
  | .isTrue h1,.isTrue h2=>.isTrue (by subst h1 h2; rfl)
  | .isFalse h,_=>.isFalse (λe=>by cases e; exact h rfl)
  | _,.isFalse h=>.isFalse (λe=>by cases e; exact h rfl)
def z6q:(x y:List Wd)->Decidable (x=y)
 | [],[]=>.isTrue rfl
 | [],_::_=>.isFalse (by simp)
 | _::_,[]=>.isFalse (by simp)
 | x::r,y::s=>match z9t x y,z6q r s with
  | .isTrue h1,.isTrue h2=>.isTrue (by subst h1 h2; rfl)
  | .isFalse h,_=>.isFalse (λe=>by cases e; exact h rfl)
  | _,.isFalse h=>.isFalse (λe=>by cases e; exact h rfl)
end
instance:DecidableEq At:=z8T
instance:DecidableEq Fc:=z3Y
instance:DecidableEq Term:=z9f
instance:DecidableEq Wd:=z9t
structure Row where
 Values:List Value
 Ann:List Term
 deriving DecidableEq,Inhabited
structure Relation where
 Columns:List Column
 Rows:List Row
 deriving DecidableEq,Inhabited
structure Table where
 ID:Int
 Name:ByteArray
 Columns:List Column
 Rows:List Row
 deriving DecidableEq,Inhabited
structure Bg where
 Row:RowID
 To:List Term
 deriving DecidableEq,Inhabited
structure pair where
 c:Column
 v:Value
 deriving DecidableEq,Inhabited
abbrev yA:=List (List Term)
abbrev yB:=List Term
abbrev yC:=List Fc
abbrev yD:=List Wd
abbrev yE:=List Bg
abbrev yF:=List Row
abbrev yG:=List Value
abbrev yH:=List Column
def ty:Nat->Type
 | 2=>Int
 | 3=>Int
 | 4=>Bool
 | 5=>Int
 | 9=>ByteArray
 | 22=>yH
 | 23=>yF
 | 25=>Relation
 | 28=>List ByteArray
 | 32=>List (yG)
 | 34=>yG
 | 36=>Table
 | 39=>Int
 | 50=>yB
 | 51=>yB
 | 54=>Row
 | 60=>yE
 | 63=>RowID
 | 65=>Bg
 | 69=>List RowID
 | 73=>List Relation
 | 75=>Column
 | 79=>Value
 | 105=>yC
 | 107=>Term
 | 110=>yA
 | 120=>List Int
 | 135=>List pair
 | 137=>pair
 | 141=>yD
 | 143=>At
 | 145=>Fc
 | 155=>List (yF)
 | 169=>Wd
 | 207=>Unit
 | 218=>Int
 | 223=>Int
 | 234=>List Int
 | 282=>List (yC)
 | _=>Unit
instance:(T:Nat)->Inhabited (ty T):=λT=>by
 unfold ty;split <;>infer_instance
def zbeW:DT ty Column:=zzW (λx=>⟨x.1,x.2⟩) (λx=>(x.Name,x.Type_)) (λ_=>rfl) (zjz (z5D) (zrz .i64))
def z98:DT ty Value:=zzW (λx=>⟨x.1,x.2.1,x.2.2⟩) (λx=>(x.Kind,x.Int,x.Text)) (λ_=>rfl) (zjz (zrz .i64) (zjz (zrz .i64) (z5D)))
def zbcY:DT ty RowID:=zzW (λx=>⟨x.1,x.2⟩) (λx=>(x.Table,x.Seq)) (λ_=>rfl) (zjz (zrz .i64) (zrz .i64))
def zbdg:DT ty At:=zzW (λx=>⟨x.1,x.2.1,x.2.2.1,x.2.2.2.1,x.2.2.2.2.1,x.2.2.2.2.2.1,x.2.2.2.2.2.2⟩) (λx=>(x.Kind,x.Row,x.Ag,x.Func,x.Items,x.Op,x.Bd)) (λ_=>rfl) (zjz (zrz .i64) (zjz (zbcY) (zjz (zkg 51) (zjz (zrz .i64) (zjz (zkg 169) (zjz (zrz .i64) (z98)))))))
def zbgc:DT ty Fc:=zzW (λx=>⟨x.1,x.2⟩) (λx=>(x.At,x.Exp)) (λ_=>rfl) (zjz (zbdg) (zrz .i64))
def zbgv:DT ty Term:=zzW (λx=>⟨x.1,x.2⟩) (λx=>(x.Cf,x.Fs)) (λ_=>rfl) (zjz (zrz .i64) (zkg 145))
def zbgF:DT ty Wd:=zzW (λx=>⟨x.1,x.2⟩) (λx=>(x.Value,x.Ann)) (λ_=>rfl) (zjz (z98) (zkg 107))
def zbg8:DT ty Row:=zzW (λx=>⟨x.1,x.2⟩) (λx=>(x.Values,x.Ann)) (λ_=>rfl) (zjz (zkg 79) (zkg 107))
def zbgR:DT ty Relation:=zzW (λx=>⟨x.1,x.2⟩) (λx=>(x.Columns,x.Rows)) (λ_=>rfl) (zjz (zkg 75) (zkg 54))
def zbg1:DT ty Table:=zzW (λx=>⟨x.1,x.2.1,x.2.2.1,x.2.2.2⟩) (λx=>(x.ID,x.Name,x.Columns,x.Rows)) (λ_=>rfl) (zjz (zrz .i64) (zjz (z5D) (zjz (zkg 75) (zkg 54))))
def zbg4:DT ty Bg:=zzW (λx=>⟨x.1,x.2⟩) (λx=>(x.Row,x.To)) (λ_=>rfl) (zjz (zbcY) (zkg 107))
def zbgM:DT ty pair:=zzW (λx=>⟨x.1,x.2⟩) (λx=>(x.c,x.v)) (λ_=>rfl) (zjz (zbeW) (z98))
def z1t:List ((T:Nat)×DT ty (ty T)):=[⟨2,(zrz .i64:DT ty Int)⟩,⟨3,(zrz .i64:DT ty Int)⟩,⟨4,(zbfU:DT ty Bool)⟩,⟨5,(zrz .u8:DT ty Int)⟩,⟨9,(z5D:DT ty ByteArray)⟩,⟨22,(zkg 75:DT ty (yH))⟩,⟨23,(zkg 54:DT ty (yF))⟩,⟨25,(zbgR:DT ty Relation)⟩,⟨28,(zkg 9:DT ty (List ByteArray))⟩,⟨32,(zkg 34:DT ty (List (yG)))⟩,⟨34,(zkg 79:DT ty (yG))⟩,⟨36,(zbg1:DT ty Table)⟩,⟨39,(zrz .i64:DT ty Int)⟩,⟨50,(zkg 107:DT ty (yB))⟩,⟨51,(zkg 107:DT ty (yB))⟩,⟨54,(zbg8:DT ty Row)⟩,⟨60,(zkg 65:DT ty (yE))⟩,⟨63,(zbcY:DT ty RowID)⟩,⟨65,(zbg4:DT ty Bg)⟩,⟨69,(zkg 63:DT ty (List RowID))⟩,⟨73,(zkg 25:DT ty (List Relation))⟩,⟨75,(zbeW:DT ty Column)⟩,⟨79,(z98:DT ty Value)⟩,⟨105,(zkg 145:DT ty (yC))⟩,⟨107,(zbgv:DT ty Term)⟩,⟨110,(zkg 51:DT ty (yA))⟩,⟨120,(zkg 5:DT ty (List Int))⟩,⟨135,(zkg 137:DT ty (List pair))⟩,⟨137,(zbgM:DT ty pair)⟩,⟨141,(zkg 169:DT ty (yD))⟩,⟨143,(zbdg:DT ty At)⟩,⟨145,(zbgc:DT ty Fc)⟩,⟨155,(zkg 23:DT ty (List (yF)))⟩,⟨169,(zbgF:DT ty Wd)⟩,⟨207,(zbg5:DT ty Unit)⟩,⟨218,(zrz .u64:DT ty Int)⟩,⟨223,(zrz .u64:DT ty Int)⟩,⟨234,(zkg 3:DT ty (List Int))⟩,⟨282,(zkg 105:DT ty (List (yC)))⟩]
def z5H:List (Nat×TInfo):=[(2,⟨.int .i64,1,8,[.int .i64 (0)]⟩),
 (3,⟨.int .i64,1,8,[.int .i64 (0)]⟩),
 (4,⟨.bool,1,1,[.bool false]⟩),
 (5,⟨.int .u8,1,1,[.int .u8 (0)]⟩),
 (9,⟨.str,1,16,[.string ⟨#[]⟩]⟩),
 (22,⟨.slice 75,1,24,[.slice none 0 0]⟩),
 (23,⟨.slice 54,1,24,[.slice none 0 0]⟩),
 (25,⟨.struct [(0,22),(1,23)],2,48,[.slice none 0 0,.slice none 0 0]⟩),
 (28,⟨.slice 9,1,24,[.slice none 0 0]⟩),
 (32,⟨.slice 34,1,24,[.slice none 0 0]⟩),
 (34,⟨.slice 79,1,24,[.slice none 0 0]⟩),
 (36,⟨.struct [(0,3),(1,9),(2,22),(3,23)],4,72,[.int .i64 (0),.string ⟨#[]⟩,.slice none 0 0,.slice none 0 0]⟩),
 (39,⟨.int .i64,1,8,[.int .i64 (0)]⟩),
 (50,⟨.slice 107,1,24,[.slice none 0 0]⟩),
 (51,⟨.slice 107,1,24,[.slice none 0 0]⟩),
 (54,⟨.struct [(0,34),(1,51)],2,48,[.slice none 0 0,.slice none 0 0]⟩),
 (60,⟨.slice 65,1,24,[.slice none 0 0]⟩),
 (63,⟨.struct [(0,3),(1,3)],2,16,[.int .i64 (0),.int .i64 (0)]⟩),
 (65,⟨.struct [(0,63),(2,51)],3,40,[.int .i64 (0),.int .i64 (0),.slice none 0 0]⟩),
 (69,⟨.slice 63,1,24,[.slice none 0 0]⟩),
 (73,⟨.slice 25,1,24,[.slice none 0 0]⟩),
 (75,⟨.struct [(0,9),(1,3)],2,24,[.string ⟨#[]⟩,.int .i64 (0)]⟩),
 (79,⟨.struct [(0,3),(1,2),(2,9)],3,32,[.int .i64 (0),.int .i64 (0),.string ⟨#[]⟩]⟩),
 (105,⟨.slice 145,1,24,[.slice none 0 0]⟩),
 (107,⟨.struct [(0,2),(1,105)],2,32,[.int .i64 (0),.slice none 0 0]⟩),
 (110,⟨.slice 51,1,24,[.slice none 0 0]⟩),
 (120,⟨.slice 5,1,24,[.slice none 0 0]⟩),
 (135,⟨.slice 137,1,24,[.slice none 0 0]⟩),
 (137,⟨.struct [(0,75),(2,79)],5,56,[.string ⟨#[]⟩,.int .i64 (0),.int .i64 (0),.int .i64 (0),.string ⟨#[]⟩]⟩),
 (141,⟨.slice 169,1,24,[.slice none 0 0]⟩),
 (143,⟨.struct [(0,3),(1,63),(3,110),(4,3),(5,141),(6,3),(7,79)],10,120,[.int .i64 (0),.int .i64 (0),.int .i64 (0),.slice none 0 0,.int .i64 (0),.slice none 0 0,.int .i64 (0),.int .i64 (0),.int .i64 (0),.string ⟨#[]⟩]⟩),
 (145,⟨.struct [(0,143),(10,3)],11,128,[.int .i64 (0),.int .i64 (0),.int .i64 (0),.slice none 0 0,.int .i64 (0),.slice none 0 0,.int .i64 (0),.int .i64 (0),.int .i64 (0),.string ⟨#[]⟩,.int .i64 (0)]⟩),
 (155,⟨.slice 23,1,24,[.slice none 0 0]⟩),
 (169,⟨.struct [(0,79),(3,51)],4,56,[.int .i64 (0),.int .i64 (0),.string ⟨#[]⟩,.slice none 0 0]⟩),
 (207,⟨.map 9 3,1,8,[.map none]⟩),
 (218,⟨.int .u64,1,8,[.int .u64 (0)]⟩),
 (223,⟨.int .u64,1,8,[.int .u64 (0)]⟩),
 (234,⟨.slice 3,1,24,[.slice none 0 0]⟩),
 (282,⟨.slice 105,1,24,[.slice none 0 0]⟩)]
def zTP:List (Nat×List TD):=[(75,[.str,.int .i64]),(79,[.int .i64,.int .i64,.str]),(63,[.int .i64,.int .i64])]
def inv (w:World):Prop:=Lib.TabIs Tryz.prog w "internal/strconv.uint64pow10" .u64 Lib.pow10Tab/\(∃ m,w.cell? ⟨0,0,none⟩=some (.int .i64 m))
theorem zbcV {n:String} {g:Nat} {w w':World} (hg:Tryz.prog.globalNamed n=some g) (h:w'.heap[g]? =w.heap[g]?):w'.var? Tryz.prog n=w.var? Tryz.prog n:=by
 unfold World.var?; rw [hg]; simp only [Option.bind_some,h]
theorem zbaB (w w':World) (hi:inv w) (hb:∀ b,b<4->w'.heap[b]? =w.heap[b]?):inv w':=by
 obtain ⟨h1,⟨m,h2⟩⟩:=hi;refine ⟨(zbcV (g:=1) (by kernel_rfl) (hb 1 (by omega))).trans h1,⟨m, ?_⟩⟩
 rw [<- h2]; exact World.cell?_of_block (a:=⟨0,0,none⟩) (hb 0 (by omega))
def base:Cx ty:={ ti:=λT=>z5H.lookup T,dflt:=λ_=>default,enc:=λT=>(z7T z1t T).enc,dec:=λT=>(z7T z1t T).dec,spec:=λ_=>none,io:=λ_=>[],eqs:=λT us vs=>match zTP.lookup T with | some ts=>zbi ts us vs | none=>none,nt:=0,head:=λ_=>[],out:=λ_ _=>[],loops:=λ_=>none,ng:=4,inv:=inv }
theorem zbab:Tryz.prog.info? 2=some Tryz.t2:=by kernel_rfl
theorem zEo:Tryz.prog.info? 3=some Tryz.t3:=by kernel_rfl
theorem zbgb:Tryz.prog.info? 4=some Tryz.t4:=by kernel_rfl
theorem zbgL:Tryz.prog.info? 5=some Tryz.t5:=by kernel_rfl
theorem z5E:Tryz.prog.info? 9=some Tryz.t9:=by kernel_rfl
theorem z5R:Tryz.prog.info? 22=some Tryz.t22:=by kernel_rfl
theorem z7w:Tryz.prog.info? 23=some Tryz.t23:=by kernel_rfl
theorem zbfv:Tryz.prog.info? 25=some Tryz.t25:=by kernel_rfl
theorem zbe9:Tryz.prog.info? 28=some Tryz.t28:=by kernel_rfl
theorem zbfG:Tryz.prog.info? 32=some Tryz.t32:=by kernel_rfl
theorem zbaO:Tryz.prog.info? 34=some Tryz.t34:=by kernel_rfl
theorem zbfV:Tryz.prog.info? 36=some Tryz.t36:=by kernel_rfl
theorem zbfF:Tryz.prog.info? 39=some Tryz.t39:=by kernel_rfl
theorem zbf9:Tryz.prog.info? 50=some Tryz.t50:=by kernel_rfl
theorem z02:Tryz.prog.info? 51=some Tryz.t51:=by kernel_rfl
theorem zbfT:Tryz.prog.info? 54=some Tryz.t54:=by kernel_rfl
theorem zbfh:Tryz.prog.info? 60=some Tryz.t60:=by kernel_rfl
theorem z6Y:Tryz.prog.info? 63=some Tryz.t63:=by kernel_rfl
theorem zbft:Tryz.prog.info? 65=some Tryz.t65:=by kernel_rfl
theorem zbfA:Tryz.prog.info? 69=some Tryz.t69:=by kernel_rfl
theorem zbf8:Tryz.prog.info? 73=some Tryz.t73:=by kernel_rfl
theorem zbbF:Tryz.prog.info? 75=some Tryz.t75:=by kernel_rfl
theorem zZ7:Tryz.prog.info? 79=some Tryz.t79:=by kernel_rfl
theorem z9e:Tryz.prog.info? 105=some Tryz.t105:=by kernel_rfl
theorem zbdJ:Tryz.prog.info? 107=some Tryz.t107:=by kernel_rfl
theorem z8W:Tryz.prog.info? 110=some Tryz.t110:=by kernel_rfl
theorem zbdy:Tryz.prog.info? 120=some Tryz.t120:=by kernel_rfl
theorem zbdF:Tryz.prog.info? 135=some Tryz.t135:=by kernel_rfl
theorem zbdB:Tryz.prog.info? 137=some Tryz.t137:=by kernel_rfl
theorem z9x:Tryz.prog.info? 141=some Tryz.t141:=by kernel_rfl
theorem z8N:Tryz.prog.info? 143=some Tryz.t143:=by kernel_rfl
theorem zbd5:Tryz.prog.info? 145=some Tryz.t145:=by kernel_rfl
theorem zbew:Tryz.prog.info? 155=some Tryz.t155:=by kernel_rfl
theorem zbdD:Tryz.prog.info? 169=some Tryz.t169:=by kernel_rfl
theorem zbeq:Tryz.prog.info? 207=some Tryz.t207:=by kernel_rfl
theorem zbdv:Tryz.prog.info? 218=some Tryz.t218:=by kernel_rfl
theorem zbd3:Tryz.prog.info? 223=some Tryz.t223:=by kernel_rfl
theorem zbeS:Tryz.prog.info? 234=some Tryz.t234:=by kernel_rfl
theorem zbdK:Tryz.prog.info? 282=some Tryz.t282:=by kernel_rfl
theorem zbeL:∀ T i,z5H.lookup T=some i->InfoOK Tryz.prog T i:=by
 intro T i h;have h:=zGi _ _ _ h;simp only [z5H,qd,List.not_mem_nil,or_false,qb] at h;rcases h with ⟨rfl,rfl⟩ | ⟨rfl,rfl⟩ | ⟨rfl,rfl⟩ | ⟨rfl,rfl⟩ | ⟨rfl,rfl⟩ | ⟨rfl,rfl⟩ | ⟨rfl,rfl⟩ | ⟨rfl,rfl⟩ | ⟨rfl,rfl⟩ | ⟨rfl,rfl⟩ | ⟨rfl,rfl⟩ | ⟨rfl,rfl⟩ | ⟨rfl,rfl⟩ | ⟨rfl,rfl⟩ | ⟨rfl,rfl⟩ | ⟨rfl,rfl⟩ | ⟨rfl,rfl⟩ | ⟨rfl,rfl⟩ | ⟨rfl,rfl⟩ | ⟨rfl,rfl⟩ | ⟨rfl,rfl⟩ | ⟨rfl,rfl⟩ | ⟨rfl,rfl⟩ | ⟨rfl,rfl⟩ | ⟨rfl,rfl⟩ | ⟨rfl,rfl⟩ | ⟨rfl,rfl⟩ | ⟨rfl,rfl⟩ | ⟨rfl,rfl⟩ | ⟨rfl,rfl⟩ | ⟨rfl,rfl⟩ | ⟨rfl,rfl⟩ | ⟨rfl,rfl⟩ | ⟨rfl,rfl⟩ | ⟨rfl,rfl⟩ | ⟨rfl,rfl⟩ | ⟨rfl,rfl⟩ | ⟨rfl,rfl⟩ | ⟨rfl,rfl⟩
 ·exact ⟨Tryz.t2,_,_,zbab,underlying2,rfl,rfl,rfl,rfl,rfl,⟨by simp [zbE],λ_=>rfl⟩,rfl⟩
 ·exact ⟨Tryz.t3,_,_,zEo,underlying3,rfl,rfl,rfl,rfl,rfl,⟨by simp [zbE],λ_=>rfl⟩,rfl⟩
 ·exact ⟨Tryz.t4,_,_,zbgb,underlying4,rfl,rfl,rfl,rfl,rfl,⟨by simp [zbE],λ_=>rfl⟩,rfl⟩
 ·exact ⟨Tryz.t5,_,_,zbgL,underlying5,rfl,rfl,rfl,rfl,rfl,⟨by simp [zbE],λ_=>rfl⟩,rfl⟩
 ·exact ⟨Tryz.t9,_,_,z5E,underlying9,rfl,rfl,rfl,rfl,rfl,⟨by simp [zbE],λ_=>rfl⟩,rfl⟩
 ·exact ⟨Tryz.t22,_,_,z5R,underlying22,rfl,rfl,rfl,rfl,rfl,⟨by simp [zbE],λ_=>rfl⟩,rfl⟩
 ·exact ⟨Tryz.t23,_,_,z7w,underlying23,rfl,rfl,rfl,rfl,rfl,⟨by simp [zbE],λ_=>rfl⟩,rfl⟩
 ·exact ⟨Tryz.t25,_,_,zbfv,underlying25,rfl,rfl,rfl,rfl,rfl,⟨by simp [zbE],λh=>by cases h⟩,⟨_,rfl,rfl,λf hf=>by
   simp only [qd,List.not_mem_nil,or_false] at hf;rcases hf with rfl | rfl
   ·exact Option.isSome_iff_exists.2 ⟨_,z5R⟩
   ·exact Option.isSome_iff_exists.2 ⟨_,z7w⟩⟩⟩
 ·exact ⟨Tryz.t28,_,_,zbe9,underlying28,rfl,rfl,rfl,rfl,rfl,⟨by simp [zbE],λ_=>rfl⟩,rfl⟩
 ·exact ⟨Tryz.t32,_,_,zbfG,underlying32,rfl,rfl,rfl,rfl,rfl,⟨by simp [zbE],λ_=>rfl⟩,rfl⟩
 ·exact ⟨Tryz.t34,_,_,zbaO,underlying34,rfl,rfl,rfl,rfl,rfl,⟨by simp [zbE],λ_=>rfl⟩,rfl⟩
 ·exact ⟨Tryz.t36,_,_,zbfV,underlying36,rfl,rfl,rfl,rfl,rfl,⟨by simp [zbE],λh=>by cases h⟩,⟨_,rfl,rfl,λf hf=>by
   simp only [qd,List.not_mem_nil,or_false] at hf;rcases hf with rfl | rfl | rfl | rfl
   ·exact Option.isSome_iff_exists.2 ⟨_,zEo⟩
   ·exact Option.isSome_iff_exists.2 ⟨_,z5E⟩
   ·exact Option.isSome_iff_exists.2 ⟨_,z5R⟩
   ·exact Option.isSome_iff_exists.2 ⟨_,z7w⟩⟩⟩
 ·exact ⟨Tryz.t39,_,_,zbfF,underlying39,rfl,rfl,rfl,rfl,rfl,⟨by simp [zbE],λ_=>rfl⟩,rfl⟩
 ·exact ⟨Tryz.t50,_,_,zbf9,underlying50,rfl,rfl,rfl,rfl,rfl,⟨by simp [zbE],λ_=>rfl⟩,rfl⟩
 ·exact ⟨Tryz.t51,_,_,z02,underlying51,rfl,rfl,rfl,rfl,rfl,⟨by simp [zbE],λ_=>rfl⟩,rfl⟩
 ·exact ⟨Tryz.t54,_,_,zbfT,underlying54,rfl,rfl,rfl,rfl,rfl,⟨by simp [zbE],λh=>by cases h⟩,⟨_,rfl,rfl,λf hf=>by
   simp only [qd,List.not_mem_nil,or_false] at hf;rcases hf with rfl | rfl
   ·exact Option.isSome_iff_exists.2 ⟨_,zbaO⟩
   ·exact Option.isSome_iff_exists.2 ⟨_,z02⟩⟩⟩
 ·exact ⟨Tryz.t60,_,_,zbfh,underlying60,rfl,rfl,rfl,rfl,rfl,⟨by simp [zbE],λ_=>rfl⟩,rfl⟩
 ·exact ⟨Tryz.t63,_,_,z6Y,underlying63,rfl,rfl,rfl,rfl,rfl,⟨by simp [zbE],λh=>by cases h⟩,⟨_,rfl,rfl,λf hf=>by
   simp only [qd,List.not_mem_nil,or_false] at hf;rcases hf with rfl | rfl
   ·exact Option.isSome_iff_exists.2 ⟨_,zEo⟩
   ·exact Option.isSome_iff_exists.2 ⟨_,zEo⟩⟩⟩
 ·exact ⟨Tryz.t65,_,_,zbft,underlying65,rfl,rfl,rfl,rfl,rfl,⟨by simp [zbE],λh=>by cases h⟩,⟨_,rfl,rfl,λf hf=>by
   simp only [qd,List.not_mem_nil,or_false] at hf;rcases hf with rfl | rfl
   ·exact Option.isSome_iff_exists.2 ⟨_,z6Y⟩
   ·exact Option.isSome_iff_exists.2 ⟨_,z02⟩⟩⟩
 ·exact ⟨Tryz.t69,_,_,zbfA,underlying69,rfl,rfl,rfl,rfl,rfl,⟨by simp [zbE],λ_=>rfl⟩,rfl⟩
 ·exact ⟨Tryz.t73,_,_,zbf8,underlying73,rfl,rfl,rfl,rfl,rfl,⟨by simp [zbE],λ_=>rfl⟩,rfl⟩
 ·exact ⟨Tryz.t75,_,_,zbbF,underlying75,rfl,rfl,rfl,rfl,rfl,⟨by simp [zbE],λh=>by cases h⟩,⟨_,rfl,rfl,λf hf=>by
   simp only [qd,List.not_mem_nil,or_false] at hf;rcases hf with rfl | rfl
   ·exact Option.isSome_iff_exists.2 ⟨_,z5E⟩
   ·exact Option.isSome_iff_exists.2 ⟨_,zEo⟩⟩⟩
 ·exact ⟨Tryz.t79,_,_,zZ7,underlying79,rfl,rfl,rfl,rfl,rfl,⟨by simp [zbE],λh=>by cases h⟩,⟨_,rfl,rfl,λf hf=>by
   simp only [qd,List.not_mem_nil,or_false] at hf;rcases hf with rfl | rfl | rfl
   ·exact Option.isSome_iff_exists.2 ⟨_,zEo⟩
   ·exact Option.isSome_iff_exists.2 ⟨_,zbab⟩
   ·exact Option.isSome_iff_exists.2 ⟨_,z5E⟩⟩⟩
 ·exact ⟨Tryz.t105,_,_,z9e,underlying105,rfl,rfl,rfl,rfl,rfl,⟨by simp [zbE],λ_=>rfl⟩,rfl⟩
 ·exact ⟨Tryz.t107,_,_,zbdJ,underlying107,rfl,rfl,rfl,rfl,rfl,⟨by simp [zbE],λh=>by cases h⟩,⟨_,rfl,rfl,λf hf=>by
   simp only [qd,List.not_mem_nil,or_false] at hf;rcases hf with rfl | rfl
   ·exact Option.isSome_iff_exists.2 ⟨_,zbab⟩
   ·exact Option.isSome_iff_exists.2 ⟨_,z9e⟩⟩⟩
 ·exact ⟨Tryz.t110,_,_,z8W,underlying110,rfl,rfl,rfl,rfl,rfl,⟨by simp [zbE],λ_=>rfl⟩,rfl⟩
 ·exact ⟨Tryz.t120,_,_,zbdy,underlying120,rfl,rfl,rfl,rfl,rfl,⟨by simp [zbE],λ_=>rfl⟩,rfl⟩
 ·exact ⟨Tryz.t135,_,_,zbdF,underlying135,rfl,rfl,rfl,rfl,rfl,⟨by simp [zbE],λ_=>rfl⟩,rfl⟩
 ·exact ⟨Tryz.t137,_,_,zbdB,underlying137,rfl,rfl,rfl,rfl,rfl,⟨by simp [zbE],λh=>by cases h⟩,⟨_,rfl,rfl,λf hf=>by
   simp only [qd,List.not_mem_nil,or_false] at hf;rcases hf with rfl | rfl
   ·exact Option.isSome_iff_exists.2 ⟨_,zbbF⟩
   ·exact Option.isSome_iff_exists.2 ⟨_,zZ7⟩⟩⟩
 ·exact ⟨Tryz.t141,_,_,z9x,underlying141,rfl,rfl,rfl,rfl,rfl,⟨by simp [zbE],λ_=>rfl⟩,rfl⟩
 ·exact ⟨Tryz.t143,_,_,z8N,underlying143,rfl,rfl,rfl,rfl,rfl,⟨by simp [zbE],λh=>by cases h⟩,⟨_,rfl,rfl,λf hf=>by
   simp only [qd,List.not_mem_nil,or_false] at hf;rcases hf with rfl | rfl | rfl | rfl | rfl | rfl | rfl
   ·exact Option.isSome_iff_exists.2 ⟨_,zEo⟩
   ·exact Option.isSome_iff_exists.2 ⟨_,z6Y⟩
   ·exact Option.isSome_iff_exists.2 ⟨_,z8W⟩
   ·exact Option.isSome_iff_exists.2 ⟨_,zEo⟩
   ·exact Option.isSome_iff_exists.2 ⟨_,z9x⟩
   ·exact Option.isSome_iff_exists.2 ⟨_,zEo⟩
   ·exact Option.isSome_iff_exists.2 ⟨_,zZ7⟩⟩⟩
 ·exact ⟨Tryz.t145,_,_,zbd5,underlying145,rfl,rfl,rfl,rfl,rfl,⟨by simp [zbE],λh=>by cases h⟩,⟨_,rfl,rfl,λf hf=>by
   simp only [qd,List.not_mem_nil,or_false] at hf;rcases hf with rfl | rfl
   ·exact Option.isSome_iff_exists.2 ⟨_,z8N⟩
   ·exact Option.isSome_iff_exists.2 ⟨_,zEo⟩⟩⟩
 ·exact ⟨Tryz.t155,_,_,zbew,underlying155,rfl,rfl,rfl,rfl,rfl,⟨by simp [zbE],λ_=>rfl⟩,rfl⟩
 ·exact ⟨Tryz.t169,_,_,zbdD,underlying169,rfl,rfl,rfl,rfl,rfl,⟨by simp [zbE],λh=>by cases h⟩,⟨_,rfl,rfl,λf hf=>by
   simp only [qd,List.not_mem_nil,or_false] at hf;rcases hf with rfl | rfl
   ·exact Option.isSome_iff_exists.2 ⟨_,zZ7⟩
   ·exact Option.isSome_iff_exists.2 ⟨_,z02⟩⟩⟩
 ·exact ⟨Tryz.t207,_,_,zbeq,underlying207,rfl,rfl,rfl,rfl,rfl,⟨by simp [zbE],λ_=>rfl⟩,rfl⟩
 ·exact ⟨Tryz.t218,_,_,zbdv,underlying218,rfl,rfl,rfl,rfl,rfl,⟨by simp [zbE],λ_=>rfl⟩,rfl⟩
 ·exact ⟨Tryz.t223,_,_,zbd3,underlying223,rfl,rfl,rfl,rfl,rfl,⟨by simp [zbE],λ_=>rfl⟩,rfl⟩
 ·exact ⟨Tryz.t234,_,_,zbeS,underlying234,rfl,rfl,rfl,rfl,rfl,⟨by simp [zbE],λ_=>rfl⟩,rfl⟩
 ·exact ⟨Tryz.t282,_,_,zbdK,underlying282,rfl,rfl,rfl,rfl,rfl,⟨by simp [zbE],λ_=>rfl⟩,rfl⟩
theorem zbcI:∀ T us vs b,(match zTP.lookup T with | some ts=>zbi ts us vs | none=>none)=some b->∀ w,zbaM Tryz.prog T us vs b w:=by
 intro T us vs b h w;split at h
 ·rename_i ts hl;have hl:=zGi _ _ _ hl;simp only [zTP,qd,List.not_mem_nil,or_false,qb] at hl;rcases hl with ⟨rfl,rfl⟩ | ⟨rfl,rfl⟩ | ⟨rfl,rfl⟩
  ·refine zPB _ _ underlying75 (by kernel_rfl) (by kernel_rfl) rfl ?_ h w
   intro j f t hj ht;rcases j with _ | j
   ·simp at hj ht; subst hj ht; exact ⟨rfl,by decide,_,underlying9,rfl⟩
   rcases j with _ | j
   ·simp at hj ht; subst hj ht; exact ⟨rfl,by decide,_,underlying3,rfl⟩
   simp at hj
  ·refine zPB _ _ underlying79 (by kernel_rfl) (by kernel_rfl) rfl ?_ h w
   intro j f t hj ht;rcases j with _ | j
   ·simp at hj ht; subst hj ht; exact ⟨rfl,by decide,_,underlying3,rfl⟩
   rcases j with _ | j
   ·simp at hj ht; subst hj ht; exact ⟨rfl,by decide,_,underlying2,rfl⟩
   rcases j with _ | j
   ·simp at hj ht; subst hj ht; exact ⟨rfl,by decide,_,underlying9,rfl⟩
   simp at hj
  ·refine zPB _ _ underlying63 (by kernel_rfl) (by kernel_rfl) rfl ?_ h w
   intro j f t hj ht;rcases j with _ | j
   ·simp at hj ht; subst hj ht; exact ⟨rfl,by decide,_,underlying3,rfl⟩
   rcases j with _ | j
   ·simp at hj ht; subst hj ht; exact ⟨rfl,by decide,_,underlying3,rfl⟩
   simp at hj
 ·cases h
theorem zbcp:∀ T us vs,base.eqs T us us=some true->base.eqs T vs vs=some true->base.eqs T us vs=some (zvy us vs)/\(zvy us vs=true->us=vs)/\∀ u∈us,∀ n,Instr.sameBits n u u=true:=by
 intro T us vs h1 h2;simp only [base] at h1 h2 ⊢;cases hl:zTP.lookup T with
 | none=>rw [hl] at h1; cases h1
 | some ts=>rw [hl] at h1 h2; exact zZY ts us vs h1 h2
theorem zbct:∀ T us b,base.eqs T us us=some b->b=true:=by
 intro T us b h;simp only [base] at h;cases hl:zTP.lookup T with
 | none=>rw [hl] at h; cases h
 | some ts=>rw [hl] at h; exact zXC ts us b h
abbrev SdP:=Sound Tryz.prog base
theorem zhf:CxOK Tryz.prog base:=⟨zbeL,λT x=>by rw [show zr base T=_ from (z6Z z1t z5H rfl T).symm]; exact DT.len _ x,λT x c h=>by have:=DT.cell _ _ c h; revert this; cases c <;>exact id,λT cs x h F w us hr=>DT.ok _ base F w us cs x h hr,zbcI,zbcp,zbct,zbaB⟩
def zbw:Cx ty:={ base with dr:=false }
theorem zQf:CxOK Tryz.prog zbw:=CxOK.cg (cx:=base) (cx':=zbw) ⟨rfl,rfl,rfl,rfl,rfl,rfl⟩ zhf
theorem zzQ:Tryz.prog.follows .mixedOrders=true:=by kernel_rfl
theorem sT {cx':Cx ty} {α ρ:Type} (hspec:∀ g s,cx'.spec g=some s->SdP g s) {f:Nat} {fn:Func} (hent:∀ args w,(callFunc f args).run Tryz.prog w=.ok (.enter f args) w) (hf:Tryz.prog.funcs[f]? =some fn) (hl:zii cx' (body fn)) (sg:Sig:=⟨[.pure],[]⟩) {A:AL base α} {res:ρ->ARes ty} {W:α->Wy0 ρ} {z:ρ}
  (hb:fn.body=some (body fn):=by kernel_rfl)
  (hrun:∀ x,zeh cx' fn (body fn) sg (A.enc x)=(W x).ev noH (λr=>some (res r)) none:=by intro _; kernel_rfl)
  (hchk:∀ x,(Nat.ble (A.enc x).length fn.ntmps&&zIm (body fn) (A.enc x) sg.upd)=true:=by intro _; kernel_rfl) (hsame:base.Same cx':=by exact z6T):
  SdP f (zh A λx=>(((W x).fin z).1,res ((W x).fin z).2)):=sW zzQ zhf hsame hspec hent hf hl sg hb hrun hchk
theorem sU {cx':Cx ty} {α ρ:Type} (hspec:∀ g s,cx'.spec g=some s->Sound Tryz.prog zbw g s) {f:Nat} {fn:Func} (hent:∀ args w,(callFunc f args).run Tryz.prog w=.ok (.enter f args) w) (hf:Tryz.prog.funcs[f]? =some fn) (hl:zii cx' (body fn)) (sg:Sig:=⟨[.pure],[]⟩) {A:AL zbw α} {res:ρ->ARes ty} {W:α->Wy0 ρ} {z:ρ}
  (hb:fn.body=some (body fn):=by kernel_rfl)
  (hrun:∀ x,zeh cx' fn (body fn) sg (A.enc x)=(W x).ev noH (λr=>some (res r)) none:=by intro _; kernel_rfl)
  (hchk:∀ x,(Nat.ble (A.enc x).length fn.ntmps&&zIm (body fn) (A.enc x) sg.upd)=true:=by intro _; kernel_rfl) (hsame:zbw.Same cx':=by exact z6T):
  Sound Tryz.prog zbw f (zh A λx=>(((W x).fin z).1,res ((W x).fin z).2)):=sW zzQ zQf hsame hspec hent hf hl sg hb hrun hchk
end Go.Proofs.YtoknknbmfmddbaaGreatDoor
/- What is read of an argument, as typed data. -/
namespace Go.Proofs.YtoknknbmfmddbaaGreatDoor
open Go Go.Ab
open Go.Proofs.Tryz
def wf2 (x:Int):Prop:=(Lit.int .i64 x).wf=true
def wf3 (x:Int):Prop:=(Lit.int .i64 x).wf=true
def wf4 (x:Bool):Prop:=True
def wf5 (x:Int):Prop:=(Lit.int .u8 x).wf=true
def wf9 (x:ByteArray):Prop:=ByteArray.size x<=zZ
def zbfo (x:Column):Prop:=wf9 x.Name/\wf3 x.Type_
def zbb5 (x:yH):Prop:=(∀ y∈x,zbfo y)/\List.length x<=zZ
def zMN (x:Value):Prop:=wf3 x.Kind/\wf2 x.Int/\wf9 x.Text
def zbbY (x:yG):Prop:=(∀ y∈x,zMN y)/\List.length x<=zZ
def zYY (x:RowID):Prop:=wf3 x.Table/\wf3 x.Seq
mutual
def zhD:At->Prop
 | ⟨k,r,a,f,i,o,b⟩=>wf3 k/\zYY r/\(zvE a/\a.length<=zZ)/\wf3 f/\(zru i/\i.length<=zZ)/\wf3 o/\zMN b
def zAy:Fc->Prop
 | ⟨a,e⟩=>zhD a/\wf3 e
def zrV:yC->Prop
 | []=>True
 | x::r=>zAy x/\zrV r
def zFM:Term->Prop
 | ⟨c,f⟩=>wf2 c/\(zrV f/\f.length<=zZ)
def zgh:yB->Prop
 | []=>True
 | x::r=>zFM x/\zgh r
def zvE:yA->Prop
 | []=>True
 | x::r=>(zgh x/\x.length<=zZ)/\zvE r
def zNm:Wd->Prop
 | ⟨v,a⟩=>zMN v/\(zgh a/\a.length<=zZ)
def zru:yD->Prop
 | []=>True
 | x::r=>zNm x/\zru r
end
theorem zUC:∀ l:yC,(∀ x∈l,zAy x)->zrV l
 | [],_=>by unfold zrV; trivial
 | x::r,h=>by unfold zrV; exact ⟨h x (by simp),zUC r λy hy=>h y (by simp [hy])⟩
theorem zJg:∀ l:yB,(∀ x∈l,zFM x)->zgh l
 | [],_=>by unfold zgh; trivial
 | x::r,h=>by unfold zgh; exact ⟨h x (by simp),zJg r λy hy=>h y (by simp [hy])⟩
theorem z3u:∀ l:yA,(∀ x∈l,zgh x/\x.length<=zZ)->zvE l
 | [],_=>by unfold zvE; trivial
 | x::r,h=>by unfold zvE; exact ⟨h x (by simp),z3u r λy hy=>h y (by simp [hy])⟩
theorem z1m:∀ l:yD,(∀ x∈l,zNm x)->zru l
 | [],_=>by unfold zru; trivial
 | x::r,h=>by unfold zru; exact ⟨h x (by simp),z1m r λy hy=>h y (by simp [hy])⟩
def z5S (x:yB):Prop:=zgh x/\List.length x<=zZ
def zbgB (x:yC):Prop:=zrV x/\List.length x<=zZ
def zbgQ (x:Term):Prop:=zFM x
def zbgd (x:yA):Prop:=zvE x/\List.length x<=zZ
def zbgt (x:yD):Prop:=zru x/\List.length x<=zZ
def zbgf (x:At):Prop:=zhD x
def zbgh (x:Fc):Prop:=zAy x
def zbgq (x:Wd):Prop:=zNm x
def zbc1 (x:Row):Prop:=zbbY x.Values/\z5S x.Ann
def zbfr (x:yF):Prop:=(∀ y∈x,zbc1 y)/\List.length x<=zZ
def zbbR (x:Relation):Prop:=zbb5 x.Columns/\zbfr x.Rows
def zbc4 (x:List (yG)):Prop:=(∀ y∈x,zbbY y)/\List.length x<=zZ
def zbe6 (x:Bg):Prop:=zYY x.Row/\z5S x.To
def zbg3 (x:yE):Prop:=(∀ y∈x,zbe6 y)/\List.length x<=zZ
def wf (T:Nat):ty T->Prop:=match T with
 | 2=>wf2
 | 3=>wf3
 | 4=>wf4
 | 5=>wf5
 | 9=>wf9
 | 22=>zbb5
 | 23=>zbfr
 | 25=>zbbR
 | 32=>zbc4
 | 34=>zbbY
 | 51=>z5S
 | 54=>zbc1
 | 60=>zbg3
 | 63=>zYY
 | 65=>zbe6
 | 75=>zbfo
 | 79=>zMN
 | 105=>zbgB
 | 107=>zbgQ
 | 110=>zbgd
 | 141=>zbgt
 | 143=>zbgf
 | 145=>zbgh
 | 169=>zbgq
 | _=>λ_=>True
theorem zbfx:ztj Tryz.prog base wf 2:=z4d underlying2 (λn=>n) (λ_=>rfl) (λ_ h=>h)
theorem z73:ztj Tryz.prog base wf 3:=z4d underlying3 (λn=>n) (λ_=>rfl) (λ_ h=>h)
theorem zbbH:ztj Tryz.prog base wf 9:=zbaT underlying9 (λn=>n) (λ_=>rfl) (λ_ h=>h)
theorem zbeK:ztj Tryz.prog base wf 75:=by
 intro H en w sp held fuel cs y h hz;obtain ⟨xs,n,_,hy,hl,hlen,hf⟩:=DataW.trod_struct underlying75 h;have hs:=zN5 underlying75 hy hz;obtain ⟨x0,h0,w0⟩:=zzD (off:=0) zbbH (by kernel_rfl) hlen hf hs 0 _ rfl rfl rfl
 obtain ⟨x1,h1,w1⟩:=zzD (off:=1) z73 (by kernel_rfl) hlen hf hs 1 _ rfl rfl rfl
 have hl:cs.length=2:=hl.trans (by kernel_rfl)
 have:=zQA h0 (z6k h1 hl);exact ⟨(⟨x0,x1⟩:Column),this,⟨w0,w1⟩⟩
theorem zbef:ztj Tryz.prog base wf 22:=zMF zhf underlying22 (by kernel_rfl) (by decide) (λl=>l) (λ_=>rfl) (of_decide_eq_true (by kernel_rfl)) zbeK (λ_ h h2=>⟨h,h2⟩)
theorem zbd9:ztj Tryz.prog base wf 79:=by
 intro H en w sp held fuel cs y h hz;obtain ⟨xs,n,_,hy,hl,hlen,hf⟩:=DataW.trod_struct underlying79 h;have hs:=zN5 underlying79 hy hz;obtain ⟨x0,h0,w0⟩:=zzD (off:=0) z73 (by kernel_rfl) hlen hf hs 0 _ rfl rfl rfl
 obtain ⟨x1,h1,w1⟩:=zzD (off:=1) zbfx (by kernel_rfl) hlen hf hs 1 _ rfl rfl rfl
 obtain ⟨x2,h2,w2⟩:=zzD (off:=2) zbbH (by kernel_rfl) hlen hf hs 2 _ rfl rfl rfl
 have hl:cs.length=3:=hl.trans (by kernel_rfl)
 have:=zQA h0 (zQA h1 (z6k h2 hl));exact ⟨(⟨x0,x1,x2⟩:Value),this,⟨w0,w1,w2⟩⟩
theorem zbeC:ztj Tryz.prog base wf 34:=zMF zhf underlying34 (by kernel_rfl) (by decide) (λl=>l) (λ_=>rfl) (of_decide_eq_true (by kernel_rfl)) zbd9 (λ_ h h2=>⟨h,h2⟩)
theorem zbdG:ztj Tryz.prog base wf 32:=zMF zhf underlying32 (by kernel_rfl) (by decide) (λl=>l) (λ_=>rfl) (of_decide_eq_true (by kernel_rfl)) zbeC (λ_ h h2=>⟨h,h2⟩)
def z4Y:=zbx base 8 []
def zUu (x_:At):Wy0 (yB):=.k [TO.mk 1 [FO.mk (At.mk x_.Kind x_.Row x_.Ag x_.Func x_.Items x_.Op x_.Bd) 1]]
def zl5 (x_:At):=(zUu x_).fin default
def z27 (r:yB):ARes ty:=⟨[.own 107 r],[]⟩
def z6N:AL base (At×Unit):=zd (ze (zcd 143)) zt
def zLH:=zh z6N λx=>((zl5 x.1).1,z27 (zl5 x.1).2)
theorem zZi:SdP 118 zLH:=
 sT (cx':=z4Y) (zi trivial) call118 func118 (lOK aN) (sg:=⟨[.own 107],[]⟩)
def z6I:=zbx base 14 [(118,zLH)]
def zXL (id:RowID):Wy0 (yB):=.i (decide (id.Table<1)) (.k []) (.i (decide (id.Seq<1)) (.k []) (.k ((zl5 (At.mk 0 id [] 0 [] 0 (Value.mk 0 0 (ByteArray.mk #[])))).2)))
def zAK (id:RowID):=(zXL id).fin default
def z8l:AL base (RowID×Unit):=zd (ze (zcd 63)) zt
def zEe:=zh z8l λx=>((zAK x.1).1,z27 (zAK x.1).2)
theorem zLv:SdP 64 zEe:=
 sT (cx':=z6I) (zi ⟨zZi,trivial⟩) call64 func64 (lOK aN) (sg:=⟨[.own 107],[]⟩)
def zVy:=zbx base 11 [(64,zEe)]
def zXx (v:Value) (seq:Int):Wy0 (Row):=.bn (zAK (RowID.mk 1 seq)) λr0=>.k (⟨[v],r0⟩:Row)
def zrO (v:Value) (seq:Int):=(zXx v seq).fin default
def zTb (r:Row):ARes ty:=⟨[.pure (.agg (base.enc 54 r))],[]⟩
def zXy:AL base (Value×Int×Unit):=zd (ze (zcd 79)) (zd (ze zfx) zt)
def zB1:=zh zXy λx=>((zrO x.1 x.2.1).1,zTb (zrO x.1 x.2.1).2)
theorem zOf:SdP 86 zB1:=
 sT (cx':=zVy) (zi ⟨zLv,trivial⟩) call86 func86 (lOK aN)
def z0m:=zbx base 19 [(86,zB1)]
def z2c:Wy0 (Relation):=.k (⟨[Column.mk (ByteArray.mk #[(97:UInt8)]) 0],[(zrO (Value.mk 0 1 (ByteArray.mk #[])) 1).2,(zrO (Value.mk 0 0 (ByteArray.mk #[])) 2).2,(zrO (Value.mk 0 1 (ByteArray.mk #[])) 3).2]⟩:Relation)
def zVE:Bool×Relation:=(z2c).fin default
def zY0 (r:Relation):ARes ty:=⟨[.pure (.agg (base.enc 25 r))],[]⟩
def z16:AL base (Unit):=zt
def zHa:=zh z16 λx=>((zVE ).1,zY0 (zVE ).2)
theorem zTz:SdP 42 zHa:=
 sT (cx':=z0m) (zi ⟨zOf,trivial⟩) call42 func42 (lOK aN)
def zMl (r:Int):ARes ty:=⟨[.pure (.lit (.int .i64 r))],[]⟩
def zPO:AL base (yB×yB×Unit):=zd (ze (vSl 107)) (zd (ze (vSl 107)) zt)
def zd2 (F:yB->yB->Bool×Int):Ab.Spec ty:=zh zPO λx=>((F x.1 x.2.1).1,zMl (F x.1 x.2.1).2)
def zKe:AL base (Term×Term×Unit):=zd (ze (zcd 107)) (zd (ze (zcd 107)) zt)
def zfM (F:Term->Term->Bool×Int):Ab.Spec ty:=zh zKe λx=>((F x.1 x.2.1).1,zMl (F x.1 x.2.1).2)
def zE2:AL base (Fc×Fc×Unit):=zd (ze (zcd 145)) (zd (ze (zcd 145)) zt)
def zei (F:Fc->Fc->Bool×Int):Ab.Spec ty:=zh zE2 λx=>((F x.1 x.2.1).1,zMl (F x.1 x.2.1).2)
def zHS:AL base (At×At×Unit):=zd (ze (zcd 143)) (zd (ze (zcd 143)) zt)
def zgU (F:At->At->Bool×Int):Ab.Spec ty:=zh zHS λx=>((F x.1 x.2.1).1,zMl (F x.1 x.2.1).2)
def zH4:AL base (Wd×Wd×Unit):=zd (ze (zcd 169)) (zd (ze (zcd 169)) zt)
def zd4 (F:Wd->Wd->Bool×Int):Ab.Spec ty:=zh zH4 λx=>((F x.1 x.2.1).1,zMl (F x.1 x.2.1).2)
def ziG:AL base (yB×yB×Unit×Unit):=zd (ze (vSl 107)) (zd (ze (vSl 107)) (zd (ze (vFn 225 zc1)) zt))
def zbP (F:yB->yB->Bool×Int):Ab.Spec ty:=zh ziG λx=>((F x.1 x.2.1).1,zMl (F x.1 x.2.1).2)
def zi1:AL base (yC×yC×Unit×Unit):=zd (ze (vSl 145)) (zd (ze (vSl 145)) (zd (ze (vFn 166 zc1)) zt))
def zbR (F:yC->yC->Bool×Int):Ab.Spec ty:=zh zi1 λx=>((F x.1 x.2.1).1,zMl (F x.1 x.2.1).2)
def zfz:AL base (yA×yA×Unit×Unit):=zd (ze (vSl 51)) (zd (ze (vSl 51)) (zd (ze (vFn 170 zc1)) zt))
def zbn (F:yA->yA->Bool×Int):Ab.Spec ty:=zh zfz λx=>((F x.1 x.2.1).1,zMl (F x.1 x.2.1).2)
def zg4:AL base (yD×yD×Unit×Unit):=zd (ze (vSl 169)) (zd (ze (vSl 169)) (zd (ze (vFn 172 zc1)) zt))
def zbF (F:yD->yD->Bool×Int):Ab.Spec ty:=zh zg4 λx=>((F x.1 x.2.1).1,zMl (F x.1 x.2.1).2)
def zKb (zK:yB->yB->Bool×Int) (zL:Term->Term->Bool×Int):=zbx base 8 [(224,(zbP zK)),(225,(zfM zL))]
def zzp (zK:yB->yB->Bool×Int) (zL:Term->Term->Bool×Int) (a:yB) (b:yB):Wy0 (Int):=.bn (zK a b) λr0=>.k r0
def zoW (zK:yB->yB->Bool×Int) (zL:Term->Term->Bool×Int) (a:yB) (b:yB):=(zzp zK zL a b).fin default
theorem zF0 (zK:yB->yB->Bool×Int) (zL:Term->Term->Bool×Int) (zig:SdP 224 (zbP zK)) (zoH:SdP 225 (zfM zL)):SdP 170 (zd2 (zoW zK zL)):=
 sT (cx':=(zKb zK zL)) (zi ⟨zig,zoH,trivial⟩) call170 func170 (lOK aN)
def zTY:=zbx base 6 []
def zG7 (x_:Int):Wy0 (Bool):=.k (x_ != x_)
def zmY (x_:Int):=(zG7 x_).fin default
def zTe (r:Bool):ARes ty:=⟨[.pure (.lit (.bool r))],[]⟩
def zWK:AL base (Int×Unit):=zd (ze zfx) zt
def zCW:=zh zWK λx=>((zmY x.1).1,zTe (zmY x.1).2)
theorem zN4:SdP 232 zCW:=
 sT (cx':=zTY) (zi trivial) call232 func232 (lOK aN)
def zPV:=zbx base 20 [(232,zCW)]
def zDu (x_:Int) (y_:Int):Wy0 (Int):=.i ((zmY x_).2) (.i ((zmY y_).2) (.k 0) (.k (-1:Int))) (.i ((zmY y_).2) (.k 1) (.i (decide (x_<y_)) (.k (-1:Int)) (.i (decide (x_>y_)) (.k 1) (.k 0))))
def ziC (x_:Int) (y_:Int):=(zDu x_ y_).fin default
def zSX:AL base (Int×Int×Unit):=zd (ze zfx) (zd (ze zfx) zt)
def zlU:=zh zSX λx=>((ziC x.1 x.2.1).1,zMl (ziC x.1 x.2.1).2)
theorem zq9:SdP 195 zlU:=
 sT (cx':=zPV) (zi ⟨zN4,trivial⟩) call195 func195 (lOK aN)
abbrev zCu:=Int×List Int×Int×Int×Unit
def zGH (zero:Int) (t6:List Int) (t7:Int) (t8:Int):Wy zCu Unit (Int⊕Int):=.i (decide (t8<t7)) (.i (decide (0<=t8)&&decide (t8<Int.ofNat t6.length)) (.i (t6.getD t8.toNat default != zero) (.k (.inl (t6.getD t8.toNat default))) (.h (zero,t6,t7,(IntKind.i64.wrap (t8+1)),()) ())) .d) (.k (.inr zero))
def zRP (x:zCu) (y:Unit):=zGH x.1 x.2.1 x.2.2.1 x.2.2.2.1
def zGL (n:Nat) (zero:Int) (t6:List Int) (t7:Int) (t8:Int):=zA (zRP) (.inl default) n (zero,t6,t7,t8,()) ()
def z3d (r:Int⊕Int):LTree ty:=.ite (isL r) (.done .ret [.lit (.int .i64 (getL r))] []) (.done (.exit 0) [.lit (.int .i64 (getR r))] [])
def z4q:LL ty zCu:=za zj (za (lSl 3) (za zj (za zj zm)))
def z4x:BL ty (Unit):=zbg
def z2q (x:zCu) (y:Unit):Nat:=(Int.toNat x.1+x.2.1.length+Int.toNat x.2.2.1+Int.toNat x.2.2.2.1+1)
def zRT:=zb1 base 18 [] [] [(3,(kpL [3,6,7,8]))] [(3,1,(kpL [3])),(3,0,(kpL [2]))] [(3,spW z4q z4x (zRP) (.inl default) z3d z2q)] []
theorem z14:zJ zRT (lp (body f167) 0):=zq (id:=3) (hl:=rfl)
def zTq (vals:List Int):Wy0 (Int):=.bn (zGL (Int.toNat 0+vals.length+(Int.ofNat vals.length).toNat +Int.toNat 0+1) 0 vals (Int.ofNat vals.length) 0) λr0=>.i (isL r0) (.k (getL r0)) (.k (getR r0))
def zoy (vals:List Int):=(zTq vals).fin default
def z7P:AL base (List Int×Unit):=zd (ze (vSl 3)) zt
def zno:=zh z7P λx=>((zoy x.1).1,zMl (zoy x.1).2)
theorem zql:SdP 167 zno:=
 sT (cx':=zRT) (zi trivial) call167 func167 (lOK (aC z14 aN))
def zF5 (zcJ:Term->Term->Bool×Int):=zbx base 15 [(104,(zfM zcJ)),(167,zno),(195,zlU)]
def zw0 (zcJ:Term->Term->Bool×Int) (x_:Term) (y_:Term):Wy0 (Int):=.bn (zcJ x_ y_) λr2=>.bn (ziC x_.Cf y_.Cf) λr1=>.bn (zoy [r2,r1]) λr0=>.k r0
def zlb (zcJ:Term->Term->Bool×Int) (x_:Term) (y_:Term):=(zw0 zcJ x_ y_).fin default
theorem zC4 (zcJ:Term->Term->Bool×Int) (zFg:SdP 104 (zfM zcJ)):SdP 225 (zfM (zlb zcJ)):=
 sT (cx':=(zF5 zcJ)) (zi ⟨zFg,zql,zq9,trivial⟩) call225 func225 (lOK aN)
def zZk:=zbx base 6 []
def zLB (x_:Int):Wy0 (Bool):=.k (x_ != x_)
def zrv (x_:Int):=(zLB x_).fin default
def zET:=zh zWK λx=>((zrv x.1).1,zTe (zrv x.1).2)
theorem zR7:SdP 223 zET:=
 sT (cx':=zZk) (zi trivial) call223 func223 (lOK aN)
def zTU:=zbx base 20 [(223,zET)]
def zG1 (x_:Int) (y_:Int):Wy0 (Int):=.i ((zrv x_).2) (.i ((zrv y_).2) (.k 0) (.k (-1:Int))) (.i ((zrv y_).2) (.k 1) (.i (decide (x_<y_)) (.k (-1:Int)) (.i (decide (x_>y_)) (.k 1) (.k 0))))
def zex (x_:Int) (y_:Int):=(zG1 x_ y_).fin default
def zou:=zh zSX λx=>((zex x.1 x.2.1).1,zMl (zex x.1 x.2.1).2)
theorem ztA:SdP 168 zou:=
 sT (cx':=zTU) (zi ⟨zR7,trivial⟩) call168 func168 (lOK aN)
end Go.Proofs.YtoknknbmfmddbaaGreatDoor
/-
 DERIVED:THE SHELF's CONTRACTS AT THIS DUMP,IN PLAIN WORDS (tools/lay-plain.mjs out of 'TryzShelf.lean',which tools/lay-shelf.mjs wrote):THE SAME DECLARATIONS UNDER THE SAME NAMES:'import','namespace','open','def','theorem' AND NOTHING ELSE:no command of the shelf's:FOR A HAND-IN. Each laying:the table of numbers ('.._ren') and one theorem,a field a fact of the dump's own or the kernel's comparison; each contract:ONE APPLICATION.
-/
namespace Go.Proofs
open Go.Shelf
def Tryz.pdqTerm_ren:Go.Shelf.Ren:=⟨λ| 14=>231 | 20=>269 | 21=>270 | 22=>271 | 23=>272 | 24=>273 | 25=>274 | 26=>275 | 27=>276 | 46=>299 | 47=>289 | 48=>290 | 49=>300 | 50=>301 | 15=>205 | 57=>307 | 28=>254 | 29=>255 | n=>n,λ| 24=>107 | 22=>50 | 3=>3 | 25=>140 | 4=>4 | 0=>0 | 46=>247 | 45=>246 | 50=>208 | 66=>269 | 39=>218 | 55=>223 | 70=>273 | 76=>284 | 77=>285 | 53=>253 | 5=>5 | 9=>9 | n=>n,λ| n=>n⟩
theorem Tryz.pdqTerm:Go.Proofs.SlLaysF0.n14 Tryz.prog Tryz.pdqTerm_ren:={
 mixed:=by kernel_rfl
 f14:=⟨f231.name,by decide,func231.trans (congrArg some (by kernel_rfl))⟩
 f15:=func205.trans (congrArg some (by kernel_rfl))
 f20:=⟨f269.name,by decide,func269.trans (congrArg some (by kernel_rfl))⟩
 f21:=⟨f270.name,by decide,func270.trans (congrArg some (by kernel_rfl))⟩
 f22:=⟨f271.name,by decide,func271.trans (congrArg some (by kernel_rfl))⟩
 f23:=⟨f272.name,by decide,func272.trans (congrArg some (by kernel_rfl))⟩
 f24:=⟨f273.name,by decide,func273.trans (congrArg some (by kernel_rfl))⟩
 f25:=⟨f274.name,by decide,func274.trans (congrArg some (by kernel_rfl))⟩
 f26:=⟨f275.name,by decide,func275.trans (congrArg some (by kernel_rfl))⟩
 f27:=⟨f276.name,by decide,func276.trans (congrArg some (by kernel_rfl))⟩
 f28:=func254.trans (congrArg some (by kernel_rfl))
 f29:=func255.trans (congrArg some (by kernel_rfl))
 f46:=⟨f299.name,by decide,func299.trans (congrArg some (by kernel_rfl))⟩
 f47:=func289.trans (congrArg some (by kernel_rfl))
 f48:=func290.trans (congrArg some (by kernel_rfl))
 f49:=⟨f300.name,by decide,func300.trans (congrArg some (by kernel_rfl))⟩
 f50:=⟨f301.name,by decide,func301.trans (congrArg some (by kernel_rfl))⟩
 f57:=⟨f307.name,by decide,func307.trans (congrArg some (by kernel_rfl))⟩
 t0:=underlying0
 a0:=Tryz.isAgg0
 z0:=Tryz.sizeOf0
 v0:=Tryz.zeroValue0
 t3:=underlying3
 a3:=Tryz.isAgg3
 z3:=Tryz.sizeOf3
 v3:=Tryz.zeroValue3
 t4:=underlying4
 a4:=Tryz.isAgg4
 z4:=Tryz.sizeOf4
 v4:=Tryz.zeroValue4
 t5:=underlying5
 a5:=Tryz.isAgg5
 z5:=Tryz.sizeOf5
 v5:=Tryz.zeroValue5
 t9:=underlying9
 a9:=Tryz.isAgg9
 z9:=Tryz.sizeOf9
 v9:=Tryz.zeroValue9
 t22:=underlying50
 a22:=Tryz.isAgg50
 z22:=Tryz.sizeOf50
 v22:=Tryz.zeroValue50
 t25:=underlying140
 a25:=Tryz.isAgg140
 z25:=Tryz.sizeOf140
 v25:=Tryz.zeroValue140
 t39:=underlying218
 a39:=Tryz.isAgg218
 z39:=Tryz.sizeOf218
 v39:=Tryz.zeroValue218
 t45:=underlying246
 a45:=Tryz.isAgg246
 z45:=Tryz.sizeOf246
 v45:=Tryz.zeroValue246
 t46:=underlying247
 a46:=Tryz.isAgg247
 z46:=Tryz.sizeOf247
 v46:=Tryz.zeroValue247
 t50:=underlying208
 a50:=Tryz.isAgg208
 z50:=Tryz.sizeOf208
 v50:=Tryz.zeroValue208
 t53:=underlying253
 a53:=Tryz.isAgg253
 z53:=Tryz.sizeOf253
 v53:=Tryz.zeroValue253
 t55:=underlying223
 a55:=Tryz.isAgg223
 z55:=Tryz.sizeOf223
 v55:=Tryz.zeroValue223
 t66:=underlying269
 a66:=Tryz.isAgg269
 z66:=Tryz.sizeOf269
 v66:=Tryz.zeroValue269
 t70:=underlying273
 a70:=Tryz.isAgg273
 z70:=Tryz.sizeOf273
 v70:=Tryz.zeroValue273
 t76:=underlying284
 a76:=Tryz.isAgg284
 z76:=Tryz.sizeOf284
 v76:=Tryz.zeroValue284
 t77:=underlying285
 a77:=Tryz.isAgg285
 z77:=Tryz.sizeOf285
 v77:=Tryz.zeroValue285 }
def Tryz.insW_ren:Go.Shelf.Ren:=⟨λ| 20=>309 | n=>n,λ| 24=>169 | 22=>141 | 3=>3 | 25=>198 | 4=>4 | 0=>0 | n=>n,λ| n=>n⟩
theorem Tryz.insW:Go.Proofs.SlLaysF0.n20 Tryz.prog Tryz.insW_ren:={
 mixed:=by kernel_rfl
 f20:=⟨f309.name,by decide,func309.trans (congrArg some (by kernel_rfl))⟩
 t0:=underlying0
 a0:=Tryz.isAgg0
 z0:=Tryz.sizeOf0
 v0:=Tryz.zeroValue0
 t3:=underlying3
 a3:=Tryz.isAgg3
 z3:=Tryz.sizeOf3
 v3:=Tryz.zeroValue3
 t4:=underlying4
 a4:=Tryz.isAgg4
 z4:=Tryz.sizeOf4
 v4:=Tryz.zeroValue4
 t22:=underlying141
 a22:=Tryz.isAgg141
 z22:=Tryz.sizeOf141
 v22:=Tryz.zeroValue141
 t25:=underlying198
 a25:=Tryz.isAgg198
 z25:=Tryz.sizeOf198
 v25:=Tryz.zeroValue198 }
def Tryz.lays106_ren:Go.Shelf.Ren:=⟨λ| 106=>196 | 213=>233 | 265=>277 | n=>n,λ| 9=>9 | 3=>3 | n=>n,λ| n=>n⟩
theorem Tryz.lays106:Go.Proofs.Lays.n106 Tryz.prog Tryz.lays106_ren:={
 mixed:=by kernel_rfl
 f106:=func196.trans (congrArg some (by kernel_rfl))
 f213:=func233.trans (congrArg some (by kernel_rfl))
 f265:=func277.trans (congrArg some (by kernel_rfl))
 t3:=underlying3
 a3:=Tryz.isAgg3
 z3:=Tryz.sizeOf3
 v3:=Tryz.zeroValue3
 t9:=underlying9
 a9:=Tryz.isAgg9
 z9:=Tryz.sizeOf9
 v9:=Tryz.zeroValue9 }
def Tryz.lays125_ren:Go.Shelf.Ren:=⟨λ| 125=>205 | 128=>254 | 129=>255 | n=>n,λ| 46=>218 | 3=>3 | 51=>253 | 53=>223 | 4=>4 | 5=>5 | 9=>9 | n=>n,λ| n=>n⟩
theorem Tryz.lays125:Go.Proofs.Lays.n125 Tryz.prog Tryz.lays125_ren:={
 mixed:=by kernel_rfl
 f125:=func205.trans (congrArg some (by kernel_rfl))
 f128:=func254.trans (congrArg some (by kernel_rfl))
 f129:=func255.trans (congrArg some (by kernel_rfl))
 t3:=underlying3
 a3:=Tryz.isAgg3
 z3:=Tryz.sizeOf3
 v3:=Tryz.zeroValue3
 t4:=underlying4
 a4:=Tryz.isAgg4
 z4:=Tryz.sizeOf4
 v4:=Tryz.zeroValue4
 t5:=underlying5
 a5:=Tryz.isAgg5
 z5:=Tryz.sizeOf5
 v5:=Tryz.zeroValue5
 t9:=underlying9
 a9:=Tryz.isAgg9
 z9:=Tryz.sizeOf9
 v9:=Tryz.zeroValue9
 t46:=underlying218
 a46:=Tryz.isAgg218
 z46:=Tryz.sizeOf218
 v46:=Tryz.zeroValue218
 t51:=underlying253
 a51:=Tryz.isAgg253
 z51:=Tryz.sizeOf253
 v51:=Tryz.zeroValue253
 t53:=underlying223
 a53:=Tryz.isAgg223
 z53:=Tryz.sizeOf223
 v53:=Tryz.zeroValue223 }
def Tryz.laysM173_ren:Go.Shelf.Ren:=⟨λ| 173=>92 | 246=>152 | 283=>208 | 284=>209 | 285=>210 | 286=>211 | 129=>255 | 317=>256 | 318=>257 | 319=>258 | 320=>259 | 337=>293 | 338=>294 | n=>n,λ| 2=>2 | 3=>3 | 9=>9 | 4=>4 | 171=>222 | 0=>0 | 53=>223 | 37=>120 | 5=>5 | 173=>226 | 212=>255 | 51=>253 | 20=>20 | 213=>256 | 46=>218 | 232=>287 | 233=>288 | n=>n,λ| 17=>1 | 18=>4 | 19=>5 | n=>n⟩
theorem Tryz.laysM173:Go.Proofs.LaysM.n173 Tryz.prog Tryz.laysM173_ren:={
 mixed:=by kernel_rfl
 f129:=func255.trans (congrArg some (by kernel_rfl))
 f173:=func92.trans (congrArg some (by kernel_rfl))
 f246:=func152.trans (congrArg some (by kernel_rfl))
 f283:=func208.trans (congrArg some (by kernel_rfl))
 f284:=func209.trans (congrArg some (by kernel_rfl))
 f285:=func210.trans (congrArg some (by kernel_rfl))
 f286:=func211.trans (congrArg some (by kernel_rfl))
 f317:=func256.trans (congrArg some (by kernel_rfl))
 f318:=func257.trans (congrArg some (by kernel_rfl))
 f319:=func258.trans (congrArg some (by kernel_rfl))
 f320:=func259.trans (congrArg some (by kernel_rfl))
 f337:=func293.trans (congrArg some (by kernel_rfl))
 f338:=func294.trans (congrArg some (by kernel_rfl))
 t0:=underlying0
 a0:=Tryz.isAgg0
 z0:=Tryz.sizeOf0
 v0:=Tryz.zeroValue0
 t2:=underlying2
 a2:=Tryz.isAgg2
 z2:=Tryz.sizeOf2
 v2:=Tryz.zeroValue2
 t3:=underlying3
 a3:=Tryz.isAgg3
 z3:=Tryz.sizeOf3
 v3:=Tryz.zeroValue3
 t4:=underlying4
 a4:=Tryz.isAgg4
 z4:=Tryz.sizeOf4
 v4:=Tryz.zeroValue4
 t5:=underlying5
 a5:=Tryz.isAgg5
 z5:=Tryz.sizeOf5
 v5:=Tryz.zeroValue5
 t9:=underlying9
 a9:=Tryz.isAgg9
 z9:=Tryz.sizeOf9
 v9:=Tryz.zeroValue9
 t20:=underlying20
 a20:=Tryz.isAgg20
 z20:=Tryz.sizeOf20
 v20:=Tryz.zeroValue20
 t37:=underlying120
 a37:=Tryz.isAgg120
 z37:=Tryz.sizeOf120
 v37:=Tryz.zeroValue120
 t46:=underlying218
 a46:=Tryz.isAgg218
 z46:=Tryz.sizeOf218
 v46:=Tryz.zeroValue218
 t51:=underlying253
 a51:=Tryz.isAgg253
 z51:=Tryz.sizeOf253
 v51:=Tryz.zeroValue253
 t53:=underlying223
 a53:=Tryz.isAgg223
 z53:=Tryz.sizeOf223
 v53:=Tryz.zeroValue223
 t171:=underlying222
 a171:=Tryz.isAgg222
 z171:=Tryz.sizeOf222
 v171:=Tryz.zeroValue222
 t173:=underlying226
 a173:=Tryz.isAgg226
 z173:=Tryz.sizeOf226
 v173:=Tryz.zeroValue226
 t212:=underlying255
 a212:=Tryz.isAgg255
 z212:=Tryz.sizeOf255
 v212:=Tryz.zeroValue255
 t213:=underlying256
 a213:=Tryz.isAgg256
 z213:=Tryz.sizeOf256
 t232:=underlying287
 a232:=Tryz.isAgg287
 z232:=Tryz.sizeOf287
 v232:=Tryz.zeroValue287
 t233:=underlying288
 a233:=Tryz.isAgg288
 z233:=Tryz.sizeOf288
 v233:=Tryz.zeroValue288
 g17:=by kernel_rfl
 g18:=by kernel_rfl
 g19:=by kernel_rfl
 i0:=by kernel_rfl
 i2:=by kernel_rfl
 i3:=by kernel_rfl
 i4:=by kernel_rfl
 i5:=by kernel_rfl
 i9:=by kernel_rfl
 i20:=by kernel_rfl
 i37:=by kernel_rfl
 i46:=by kernel_rfl
 i51:=by kernel_rfl
 i53:=by kernel_rfl
 i171:=by kernel_rfl
 i173:=by kernel_rfl
 i212:=by kernel_rfl
 i232:=by kernel_rfl
 i233:=by kernel_rfl
 m17:=by kernel_rfl
 m18:=by kernel_rfl
 m19:=by kernel_rfl }
def Tryz.laysM171_ren:Go.Shelf.Ren:=⟨λ| 171=>216 | 243=>267 | 246=>152 | 283=>208 | 284=>209 | 285=>210 | 286=>211 | 129=>255 | 317=>256 | 318=>257 | 319=>258 | 320=>259 | 337=>293 | 338=>294 | n=>n,λ| 3=>3 | 9=>9 | 2=>2 | 4=>4 | 171=>222 | 0=>0 | 53=>223 | 37=>120 | 5=>5 | 173=>226 | 212=>255 | 51=>253 | 20=>20 | 213=>256 | 46=>218 | 232=>287 | 233=>288 | n=>n,λ| 17=>1 | 18=>4 | 19=>5 | n=>n⟩
theorem Tryz.laysM171:Go.Proofs.LaysM.n171 Tryz.prog Tryz.laysM171_ren:={
 mixed:=by kernel_rfl
 f129:=func255.trans (congrArg some (by kernel_rfl))
 f171:=func216.trans (congrArg some (by kernel_rfl))
 f243:=func267.trans (congrArg some (by kernel_rfl))
 f246:=func152.trans (congrArg some (by kernel_rfl))
 f283:=func208.trans (congrArg some (by kernel_rfl))
 f284:=func209.trans (congrArg some (by kernel_rfl))
 f285:=func210.trans (congrArg some (by kernel_rfl))
 f286:=func211.trans (congrArg some (by kernel_rfl))
 f317:=func256.trans (congrArg some (by kernel_rfl))
 f318:=func257.trans (congrArg some (by kernel_rfl))
 f319:=func258.trans (congrArg some (by kernel_rfl))
 f320:=func259.trans (congrArg some (by kernel_rfl))
 f337:=func293.trans (congrArg some (by kernel_rfl))
 f338:=func294.trans (congrArg some (by kernel_rfl))
 t0:=underlying0
 a0:=Tryz.isAgg0
 z0:=Tryz.sizeOf0
 v0:=Tryz.zeroValue0
 t2:=underlying2
 a2:=Tryz.isAgg2
 z2:=Tryz.sizeOf2
 v2:=Tryz.zeroValue2
 t3:=underlying3
 a3:=Tryz.isAgg3
 z3:=Tryz.sizeOf3
 v3:=Tryz.zeroValue3
 t4:=underlying4
 a4:=Tryz.isAgg4
 z4:=Tryz.sizeOf4
 v4:=Tryz.zeroValue4
 t5:=underlying5
 a5:=Tryz.isAgg5
 z5:=Tryz.sizeOf5
 v5:=Tryz.zeroValue5
 t9:=underlying9
 a9:=Tryz.isAgg9
 z9:=Tryz.sizeOf9
 v9:=Tryz.zeroValue9
 t20:=underlying20
 a20:=Tryz.isAgg20
 z20:=Tryz.sizeOf20
 v20:=Tryz.zeroValue20
 t37:=underlying120
 a37:=Tryz.isAgg120
 z37:=Tryz.sizeOf120
 v37:=Tryz.zeroValue120
 t46:=underlying218
 a46:=Tryz.isAgg218
 z46:=Tryz.sizeOf218
 v46:=Tryz.zeroValue218
 t51:=underlying253
 a51:=Tryz.isAgg253
 z51:=Tryz.sizeOf253
 v51:=Tryz.zeroValue253
 t53:=underlying223
 a53:=Tryz.isAgg223
 z53:=Tryz.sizeOf223
 v53:=Tryz.zeroValue223
 t171:=underlying222
 a171:=Tryz.isAgg222
 z171:=Tryz.sizeOf222
 v171:=Tryz.zeroValue222
 t173:=underlying226
 a173:=Tryz.isAgg226
 z173:=Tryz.sizeOf226
 v173:=Tryz.zeroValue226
 t212:=underlying255
 a212:=Tryz.isAgg255
 z212:=Tryz.sizeOf255
 v212:=Tryz.zeroValue255
 t213:=underlying256
 a213:=Tryz.isAgg256
 z213:=Tryz.sizeOf256
 t232:=underlying287
 a232:=Tryz.isAgg287
 z232:=Tryz.sizeOf287
 v232:=Tryz.zeroValue287
 t233:=underlying288
 a233:=Tryz.isAgg288
 z233:=Tryz.sizeOf288
 v233:=Tryz.zeroValue288
 g17:=by kernel_rfl
 g18:=by kernel_rfl
 g19:=by kernel_rfl
 i0:=by kernel_rfl
 i2:=by kernel_rfl
 i3:=by kernel_rfl
 i4:=by kernel_rfl
 i5:=by kernel_rfl
 i9:=by kernel_rfl
 i20:=by kernel_rfl
 i37:=by kernel_rfl
 i46:=by kernel_rfl
 i51:=by kernel_rfl
 i53:=by kernel_rfl
 i171:=by kernel_rfl
 i173:=by kernel_rfl
 i212:=by kernel_rfl
 i232:=by kernel_rfl
 i233:=by kernel_rfl
 m17:=by kernel_rfl
 m18:=by kernel_rfl
 m19:=by kernel_rfl }
def Tryz.lays155_ren:Go.Shelf.Ren:=⟨λ| 155=>93 | 154=>153 | 138=>212 | 165=>88 | 143=>213 | 166=>89 | 197=>214 | 169=>90 | 195=>260 | 218=>261 | 240=>150 | 241=>151 | 219=>262 | 260=>263 | 276=>206 | 277=>207 | 217=>295 | 225=>296 | 224=>297 | 267=>298 | 266=>305 | 314=>306 | n=>n,λ| 9=>9 | 3=>3 | 4=>4 | 72=>122 | 0=>0 | 76=>126 | 105=>228 | 21=>21 | 5=>5 | 70=>119 | 20=>20 | 37=>120 | 75=>125 | 127=>180 | 164=>219 | 46=>218 | 119=>275 | 139=>278 | 138=>277 | 146=>289 | 51=>253 | 80=>128 | n=>n,λ| 1=>0 | 3=>2 | 4=>3 | n=>n⟩
theorem Tryz.lays155:Go.Proofs.Lays.n155 Tryz.prog Tryz.lays155_ren:={
 mixed:=by kernel_rfl
 f138:=func212.trans (congrArg some (by kernel_rfl))
 f143:=func213.trans (congrArg some (by kernel_rfl))
 f154:=func153.trans (congrArg some (by kernel_rfl))
 f155:=func93.trans (congrArg some (by kernel_rfl))
 f165:=func88.trans (congrArg some (by kernel_rfl))
 f166:=func89.trans (congrArg some (by kernel_rfl))
 f169:=func90.trans (congrArg some (by kernel_rfl))
 f195:=func260.trans (congrArg some (by kernel_rfl))
 f197:=func214.trans (congrArg some (by kernel_rfl))
 f217:=func295.trans (congrArg some (by kernel_rfl))
 f218:=func261.trans (congrArg some (by kernel_rfl))
 f219:=func262.trans (congrArg some (by kernel_rfl))
 f224:=func297.trans (congrArg some (by kernel_rfl))
 f225:=func296.trans (congrArg some (by kernel_rfl))
 f240:=func150.trans (congrArg some (by kernel_rfl))
 f241:=func151.trans (congrArg some (by kernel_rfl))
 f260:=func263.trans (congrArg some (by kernel_rfl))
 f266:=func305.trans (congrArg some (by kernel_rfl))
 f267:=func298.trans (congrArg some (by kernel_rfl))
 f276:=func206.trans (congrArg some (by kernel_rfl))
 f277:=func207.trans (congrArg some (by kernel_rfl))
 f314:=func306.trans (congrArg some (by kernel_rfl))
 t0:=underlying0
 a0:=Tryz.isAgg0
 z0:=Tryz.sizeOf0
 v0:=Tryz.zeroValue0
 t3:=underlying3
 a3:=Tryz.isAgg3
 z3:=Tryz.sizeOf3
 v3:=Tryz.zeroValue3
 t4:=underlying4
 a4:=Tryz.isAgg4
 z4:=Tryz.sizeOf4
 v4:=Tryz.zeroValue4
 t5:=underlying5
 a5:=Tryz.isAgg5
 z5:=Tryz.sizeOf5
 v5:=Tryz.zeroValue5
 t9:=underlying9
 a9:=Tryz.isAgg9
 z9:=Tryz.sizeOf9
 v9:=Tryz.zeroValue9
 t20:=underlying20
 a20:=Tryz.isAgg20
 z20:=Tryz.sizeOf20
 v20:=Tryz.zeroValue20
 t21:=underlying21
 a21:=Tryz.isAgg21
 z21:=Tryz.sizeOf21
 v21:=Tryz.zeroValue21
 t37:=underlying120
 a37:=Tryz.isAgg120
 z37:=Tryz.sizeOf120
 v37:=Tryz.zeroValue120
 t46:=underlying218
 a46:=Tryz.isAgg218
 z46:=Tryz.sizeOf218
 v46:=Tryz.zeroValue218
 t51:=underlying253
 a51:=Tryz.isAgg253
 z51:=Tryz.sizeOf253
 v51:=Tryz.zeroValue253
 t70:=underlying119
 a70:=Tryz.isAgg119
 z70:=Tryz.sizeOf119
 v70:=Tryz.zeroValue119
 t72:=underlying122
 a72:=Tryz.isAgg122
 z72:=Tryz.sizeOf122
 v72:=Tryz.zeroValue122
 t75:=underlying125
 a75:=Tryz.isAgg125
 z75:=Tryz.sizeOf125
 v75:=Tryz.zeroValue125
 t76:=underlying126
 a76:=Tryz.isAgg126
 z76:=Tryz.sizeOf126
 v76:=Tryz.zeroValue126
 t105:=underlying228
 a105:=Tryz.isAgg228
 z105:=Tryz.sizeOf228
 v105:=Tryz.zeroValue228
 t119:=underlying275
 a119:=Tryz.isAgg275
 z119:=Tryz.sizeOf275
 t127:=underlying180
 a127:=Tryz.isAgg180
 z127:=Tryz.sizeOf180
 v127:=Tryz.zeroValue180
 t138:=underlying277
 a138:=Tryz.isAgg277
 z138:=Tryz.sizeOf277
 v138:=Tryz.zeroValue277
 t139:=underlying278
 a139:=Tryz.isAgg278
 z139:=Tryz.sizeOf278
 v139:=Tryz.zeroValue278
 t146:=underlying289
 a146:=Tryz.isAgg289
 z146:=Tryz.sizeOf289
 v146:=Tryz.zeroValue289
 t164:=underlying219
 a164:=Tryz.isAgg219
 z164:=Tryz.sizeOf219
 v164:=Tryz.zeroValue219
 g1:=by kernel_rfl
 g3:=by kernel_rfl
 g4:=by kernel_rfl }
theorem Tryz.Builder_Extra_155:Builder.Extra Tryz.prog Tryz.lays155_ren:={
 sizeBuilder:=by kernel_rfl
 liesBuilder:=by kernel_rfl
 t5:=underlying5
 a5:=Tryz.isAgg5
 z5:=Tryz.sizeOf5
 v5:=Tryz.zeroValue5
 infoByte:=by kernel_rfl
 cellsByte:=by kernel_rfl
 sizeByte:=by kernel_rfl
 neB5:=by decide }
def Tryz.lays156_ren:Go.Shelf.Ren:=⟨λ| 156=>44 | 165=>88 | 166=>89 | 169=>90 | 240=>150 | 241=>151 | 276=>206 | 277=>207 | n=>n,λ| 31=>28 | 9=>9 | 3=>3 | 4=>4 | 0=>0 | 20=>20 | 72=>122 | 76=>126 | 70=>119 | 37=>120 | 75=>125 | 127=>180 | 164=>219 | 5=>5 | 80=>128 | n=>n,λ| n=>n⟩
theorem Tryz.lays156:Go.Proofs.Lays.n156 Tryz.prog Tryz.lays156_ren:={
 mixed:=by kernel_rfl
 f156:=func44.trans (congrArg some (by kernel_rfl))
 f165:=func88.trans (congrArg some (by kernel_rfl))
 f166:=func89.trans (congrArg some (by kernel_rfl))
 f169:=func90.trans (congrArg some (by kernel_rfl))
 f240:=func150.trans (congrArg some (by kernel_rfl))
 f241:=func151.trans (congrArg some (by kernel_rfl))
 f276:=func206.trans (congrArg some (by kernel_rfl))
 f277:=func207.trans (congrArg some (by kernel_rfl))
 t0:=underlying0
 a0:=Tryz.isAgg0
 z0:=Tryz.sizeOf0
 v0:=Tryz.zeroValue0
 t3:=underlying3
 a3:=Tryz.isAgg3
 z3:=Tryz.sizeOf3
 v3:=Tryz.zeroValue3
 t4:=underlying4
 a4:=Tryz.isAgg4
 z4:=Tryz.sizeOf4
 v4:=Tryz.zeroValue4
 t9:=underlying9
 a9:=Tryz.isAgg9
 z9:=Tryz.sizeOf9
 v9:=Tryz.zeroValue9
 t20:=underlying20
 a20:=Tryz.isAgg20
 z20:=Tryz.sizeOf20
 v20:=Tryz.zeroValue20
 t31:=underlying28
 a31:=Tryz.isAgg28
 z31:=Tryz.sizeOf28
 v31:=Tryz.zeroValue28
 t37:=underlying120
 a37:=Tryz.isAgg120
 z37:=Tryz.sizeOf120
 v37:=Tryz.zeroValue120
 t70:=underlying119
 a70:=Tryz.isAgg119
 z70:=Tryz.sizeOf119
 v70:=Tryz.zeroValue119
 t72:=underlying122
 a72:=Tryz.isAgg122
 z72:=Tryz.sizeOf122
 v72:=Tryz.zeroValue122
 t75:=underlying125
 a75:=Tryz.isAgg125
 z75:=Tryz.sizeOf125
 v75:=Tryz.zeroValue125
 t76:=underlying126
 a76:=Tryz.isAgg126
 z76:=Tryz.sizeOf126
 v76:=Tryz.zeroValue126
 t127:=underlying180
 a127:=Tryz.isAgg180
 z127:=Tryz.sizeOf180
 v127:=Tryz.zeroValue180
 t164:=underlying219
 a164:=Tryz.isAgg219
 z164:=Tryz.sizeOf219
 v164:=Tryz.zeroValue219 }
theorem Tryz.Builder_Extra_156:Builder.Extra Tryz.prog Tryz.lays156_ren:={
 sizeBuilder:=by kernel_rfl
 liesBuilder:=by kernel_rfl
 t5:=underlying5
 a5:=Tryz.isAgg5
 z5:=Tryz.sizeOf5
 v5:=Tryz.zeroValue5
 infoByte:=by kernel_rfl
 cellsByte:=by kernel_rfl
 sizeByte:=by kernel_rfl
 neB5:=by decide }
end Go.Proofs
namespace Go.Proofs.YtoknknbmfmddbaaGreatDoor
open Go Go.Ab
open Go.Proofs.Tryz
def strings_Compare (s p:ByteArray):Bool×Int:=zI8 s p
def zCF:Ab.Spec ty:=zh (cx:=base) (zd (ze zwj) (zd (ze zwj) zt)) λx=>((strings_Compare x.1 x.2.1).1,⟨[.pure (.lit (.int .i64 (strings_Compare x.1 x.2.1).2))],[]⟩)
theorem zPd:SdP 196 zCF:=z4y zhf Go.Proofs.Tryz.lays106 call196
end Go.Proofs.YtoknknbmfmddbaaGreatDoor
namespace Go.Proofs.YtoknknbmfmddbaaGreatDoor
open Go Go.Ab
open Go.Proofs.Tryz
def zZL:=zbx base 22 [(167,zno),(168,zou),(195,zlU),(196,zCF)]
def zLh (a:Value) (b:Value):Wy0 (Int):=.bn (zex a.Kind b.Kind) λr2=>.bn (ziC a.Int b.Int) λr1=>.bn (zoy [r2,r1,(strings_Compare a.Text b.Text).2]) λr0=>.k r0
def zjc (a:Value) (b:Value):=(zLh a b).fin default
def z0I:AL base (Value×Value×Unit):=zd (ze (zcd 79)) (zd (ze (zcd 79)) zt)
def zms:=zh z0I λx=>((zjc x.1 x.2.1).1,zMl (zjc x.1 x.2.1).2)
theorem zqu:SdP 131 zms:=
 sT (cx':=zZL) (zi ⟨zql,ztA,zq9,zPd,trivial⟩) call131 func131 (lOK aN)
def zEa (zu:yA->yA->Bool×Int) (zx:yB->yB->Bool×Int) (zC:yD->yD->Bool×Int) (zG:Wd->Wd->Bool×Int):=zbx base 51 [(131,zms),(167,zno),(168,zou),(169,(zbn zu)),(170,(zd2 zx)),(171,(zbF zC)),(172,(zd4 zG))]
def zum (zu:yA->yA->Bool×Int) (zx:yB->yB->Bool×Int) (zC:yD->yD->Bool×Int) (zG:Wd->Wd->Bool×Int) (a:At) (b:At):Wy0 (Int):=.bn (zex a.Kind b.Kind) λr8=>.bn (zex a.Row.Table b.Row.Table) λr7=>.bn (zex a.Row.Seq b.Row.Seq) λr6=>.bn (zu a.Ag b.Ag) λr5=>.bn (zex a.Func b.Func) λr4=>.bn (zC a.Items b.Items) λr3=>.bn (zex a.Op b.Op) λr2=>.bn (zjc a.Bd b.Bd) λr1=>.bn (zoy [r8,r7,r6,r5,r4,r3,r2,r1]) λr0=>.k r0
def zjP (zu:yA->yA->Bool×Int) (zx:yB->yB->Bool×Int) (zC:yD->yD->Bool×Int) (zG:Wd->Wd->Bool×Int) (a:At) (b:At):=(zum zu zx zC zG a b).fin default
theorem zBw (zu:yA->yA->Bool×Int) (zx:yB->yB->Bool×Int) (zC:yD->yD->Bool×Int) (zG:Wd->Wd->Bool×Int) (zfk:SdP 169 (zbn zu)) (zi5:SdP 170 (zd2 zx)) (zgM:SdP 171 (zbF zC)) (zmq:SdP 172 (zd4 zG)):SdP 106 (zgU (zjP zu zx zC zG)):=
 sT (cx':=(zEa zu zx zC zG)) (zi ⟨zqu,zql,ztA,zfk,zi5,zgM,zmq,trivial⟩) call106 func106 (lOK aN)
def zCS (zcI:At->At->Bool×Int):=zbx base 17 [(106,(zgU zcI)),(167,zno),(168,zou)]
def zs3 (zcI:At->At->Bool×Int) (a:Fc) (b:Fc):Wy0 (Int):=.bn (zcI (At.mk a.At.Kind a.At.Row a.At.Ag a.At.Func a.At.Items a.At.Op a.At.Bd) (At.mk b.At.Kind b.At.Row b.At.Ag b.At.Func b.At.Items b.At.Op b.At.Bd)) λr2=>.bn (zex a.Exp b.Exp) λr1=>.bn (zoy [r2,r1]) λr0=>.k r0
def ziV (zcI:At->At->Bool×Int) (a:Fc) (b:Fc):=(zs3 zcI a b).fin default
theorem zzy (zcI:At->At->Bool×Int) (zE9:SdP 106 (zgU zcI)):SdP 166 (zei (ziV zcI)):=
 sT (cx':=(zCS zcI)) (zi ⟨zE9,zql,ztA,trivial⟩) call166 func166 (lOK aN)
def zD7 (zx:yB->yB->Bool×Int):=zbx base 17 [(131,zms),(167,zno),(170,(zd2 zx))]
def zuo (zx:yB->yB->Bool×Int) (a:Wd) (b:Wd):Wy0 (Int):=.bn (zjc a.Value b.Value) λr2=>.bn (zx a.Ann b.Ann) λr1=>.bn (zoy [r2,r1]) λr0=>.k r0
def zjH (zx:yB->yB->Bool×Int) (a:Wd) (b:Wd):=(zuo zx a b).fin default
theorem zBp (zx:yB->yB->Bool×Int) (zi5:SdP 170 (zd2 zx)):SdP 172 (zd4 (zjH zx)):=
 sT (cx':=(zD7 zx)) (zi ⟨zqu,zql,zi5,trivial⟩) call172 func172 (lOK aN)
def zDO (zM:yC->yC->Bool×Int) (zw:Fc->Fc->Bool×Int):=zbx base 10 [(165,(zbR zM)),(166,(zei zw))]
def zup (zM:yC->yC->Bool×Int) (zw:Fc->Fc->Bool×Int) (a:Term) (b:Term):Wy0 (Int):=.bn (zM a.Fs b.Fs) λr0=>.k r0
def zjN (zM:yC->yC->Bool×Int) (zw:Fc->Fc->Bool×Int) (a:Term) (b:Term):=(zup zM zw a b).fin default
theorem zBy (zM:yC->yC->Bool×Int) (zw:Fc->Fc->Bool×Int) (ziE:SdP 165 (zbR zM)) (zk1:SdP 166 (zei zw)):SdP 104 (zfM (zjN zM zw)):=
 sT (cx':=(zDO zM zw)) (zi ⟨ziE,zk1,trivial⟩) call104 func104 (lOK aN)
abbrev zbC:=yA×yA×Unit×yA×Int×Int×Unit
abbrev zdh:=Int⊕(yA×yA)
def ze6 (zx:yB->yB->Bool×Int) (s1:yA) (s2:yA) (t11:yA) (t12:Int) (t13:Int):Wy zbC Unit zdh:=.i (decide (t13<t12)) (.i (decide (0<=t13)&&decide (t13<Int.ofNat t11.length)) (.i (decide (t13≥Int.ofNat s2.length)) (.k (.inl 1)) (.i (decide (0<=t13)&&decide (t13<Int.ofNat s2.length)) (.bn (zx (t11.getD t13.toNat default) (s2.getD t13.toNat default)) λr0=>.i (r0 != 0) (.k (.inl (r0))) (.h (s1,s2,(),t11,t12,(IntKind.i64.wrap (t13+1)),()) ())) .d)) .d) (.k (.inr (s1,s2)))
def zcF (zx:yB->yB->Bool×Int) (x:zbC) (y:Unit):=ze6 zx x.1 x.2.1 x.2.2.2.1 x.2.2.2.2.1 x.2.2.2.2.2.1
def ze1 (zx:yB->yB->Bool×Int) (n:Nat) (s1:yA) (s2:yA) (t11:yA) (t12:Int) (t13:Int):=zA (zcF zx) (.inl default) n (s1,s2,(),t11,t12,t13,()) ()
def zeW (r:zdh):LTree ty:=.ite (isL r) (.done .ret [.lit (.int .i64 (getL r))] []) (.done (.exit 0) [.sl 51 (getR r).1,.sl 51 (getR r).2] [])
def ze7:LL ty zbC:=za (lSl 51) (za (lSl 51) (za (lFn 170 (zm)) (za (lSl 51) (za zj (za zj zm)))))
def zeX (x:zbC) (y:Unit):Nat:=(x.1.length+x.2.1.length+x.2.2.2.1.length+Int.toNat x.2.2.2.2.1+Int.toNat x.2.2.2.2.2.1+1)
def zcE (zx:yB->yB->Bool×Int):=zb1 base 39 [(170,(zd2 zx))] [] [(2,(kpL [0,1,2,11,12,13]))] [(2,1,(kpL [0,1])),(2,0,(kpL [6]))] [(2,spW ze7 z4x (zcF zx) (.inl default) zeW zeX)] []
theorem zeV (zx:yB->yB->Bool×Int):zJ (zcE zx) (lp (body f169) 0):=zq (id:=2) (hl:=rfl)
def zfh (zx:yB->yB->Bool×Int) (s1:yA) (s2:yA):Wy0 (Int):=.bn (ze1 zx (s1.length+s2.length+s1.length+(Int.ofNat s1.length).toNat +Int.toNat 0+1) s1 s2 s1 (Int.ofNat s1.length) 0) λr2=>.i (isL r2) (.k (getL r2)) (.i (decide (Int.ofNat (getR r2).1.length<Int.ofNat (getR r2).2.length)) (.k (-1:Int)) (.k 0))
def zbm (zx:yB->yB->Bool×Int) (s1:yA) (s2:yA):=(zfh zx s1 s2).fin default
theorem zeF (zx:yB->yB->Bool×Int) (zi5:SdP 170 (zd2 zx)):SdP 169 (zbn (zbm zx)):=
 sT (cx':=(zcE zx)) (zi ⟨zi5,trivial⟩) call169 func169 (lOK (aC (zeV zx) aN))
abbrev zb5:=yC×yC×Unit×yC×Int×Int×Unit
abbrev zeE:=Int⊕(yC×yC)
def zdQ (zw:Fc->Fc->Bool×Int) (s1:yC) (s2:yC) (t11:yC) (t12:Int) (t13:Int):Wy zb5 Unit zeE:=.i (decide (t13<t12)) (.i (decide (0<=t13)&&decide (t13<Int.ofNat t11.length)) (.i (decide (t13≥Int.ofNat s2.length)) (.k (.inl 1)) (.i (decide (0<=t13)&&decide (t13<Int.ofNat s2.length)) (.bn (zw (FO.mk (At.mk (t11.getD t13.toNat default).At.Kind (t11.getD t13.toNat default).At.Row (t11.getD t13.toNat default).At.Ag (t11.getD t13.toNat default).At.Func (t11.getD t13.toNat default).At.Items (t11.getD t13.toNat default).At.Op (t11.getD t13.toNat default).At.Bd) (t11.getD t13.toNat default).Exp) (FO.mk (At.mk (s2.getD t13.toNat default).At.Kind (s2.getD t13.toNat default).At.Row (s2.getD t13.toNat default).At.Ag (s2.getD t13.toNat default).At.Func (s2.getD t13.toNat default).At.Items (s2.getD t13.toNat default).At.Op (s2.getD t13.toNat default).At.Bd) (s2.getD t13.toNat default).Exp)) λr0=>.i (r0 != 0) (.k (.inl (r0))) (.h (s1,s2,(),t11,t12,(IntKind.i64.wrap (t13+1)),()) ())) .d)) .d) (.k (.inr (s1,s2)))
def zbM (zw:Fc->Fc->Bool×Int) (x:zb5) (y:Unit):=zdQ zw x.1 x.2.1 x.2.2.2.1 x.2.2.2.2.1 x.2.2.2.2.2.1
def zdR (zw:Fc->Fc->Bool×Int) (n:Nat) (s1:yC) (s2:yC) (t11:yC) (t12:Int) (t13:Int):=zA (zbM zw) (.inl default) n (s1,s2,(),t11,t12,t13,()) ()
def zib (r:zeE):LTree ty:=.ite (isL r) (.done .ret [.lit (.int .i64 (getL r))] []) (.done (.exit 0) [.sl 145 (getR r).1,.sl 145 (getR r).2] [])
def ziv:LL ty zb5:=za (lSl 145) (za (lSl 145) (za (lFn 166 (zm)) (za (lSl 145) (za zj (za zj zm)))))
def zij (x:zb5) (y:Unit):Nat:=(x.1.length+x.2.1.length+x.2.2.2.1.length+Int.toNat x.2.2.2.2.1+Int.toNat x.2.2.2.2.2.1+1)
def zdS (zw:Fc->Fc->Bool×Int):=zb1 base 39 [(166,(zei zw))] [] [(2,(kpL [0,1,2,11,12,13]))] [(2,1,(kpL [0,1])),(2,0,(kpL [6]))] [(2,spW ziv z4x (zbM zw) (.inl default) zib zij)] []
theorem zh6 (zw:Fc->Fc->Bool×Int):zJ (zdS zw) (lp (body f165) 0):=zq (id:=2) (hl:=rfl)
def zdW (zw:Fc->Fc->Bool×Int) (s1:yC) (s2:yC):Wy0 (Int):=.bn (zdR zw (s1.length+s2.length+s1.length+(Int.ofNat s1.length).toNat +Int.toNat 0+1) s1 s2 s1 (Int.ofNat s1.length) 0) λr2=>.i (isL r2) (.k (getL r2)) (.i (decide (Int.ofNat (getR r2).1.length<Int.ofNat (getR r2).2.length)) (.k (-1:Int)) (.k 0))
def zbt (zw:Fc->Fc->Bool×Int) (s1:yC) (s2:yC):=(zdW zw s1 s2).fin default
theorem zht (zw:Fc->Fc->Bool×Int) (zk1:SdP 166 (zei zw)):SdP 165 (zbR (zbt zw)):=
 sT (cx':=(zdS zw)) (zi ⟨zk1,trivial⟩) call165 func165 (lOK (aC (zh6 zw) aN))
abbrev zbQ:=yD×yD×Unit×yD×Int×Int×Unit
abbrev zd1:=Int⊕(yD×yD)
def zgt (zG:Wd->Wd->Bool×Int) (s1:yD) (s2:yD) (t11:yD) (t12:Int) (t13:Int):Wy zbQ Unit zd1:=.i (decide (t13<t12)) (.i (decide (0<=t13)&&decide (t13<Int.ofNat t11.length)) (.i (decide (t13≥Int.ofNat s2.length)) (.k (.inl 1)) (.i (decide (0<=t13)&&decide (t13<Int.ofNat s2.length)) (.bn (zG (t11.getD t13.toNat default) (s2.getD t13.toNat default)) λr0=>.i (r0 != 0) (.k (.inl (r0))) (.h (s1,s2,(),t11,t12,(IntKind.i64.wrap (t13+1)),()) ())) .d)) .d) (.k (.inr (s1,s2)))
def zc5 (zG:Wd->Wd->Bool×Int) (x:zbQ) (y:Unit):=zgt zG x.1 x.2.1 x.2.2.2.1 x.2.2.2.2.1 x.2.2.2.2.2.1
def zgo (zG:Wd->Wd->Bool×Int) (n:Nat) (s1:yD) (s2:yD) (t11:yD) (t12:Int) (t13:Int):=zA (zc5 zG) (.inl default) n (s1,s2,(),t11,t12,t13,()) ()
def zgf (r:zd1):LTree ty:=.ite (isL r) (.done .ret [.lit (.int .i64 (getL r))] []) (.done (.exit 0) [.sl 169 (getR r).1,.sl 169 (getR r).2] [])
def zgm:LL ty zbQ:=za (lSl 169) (za (lSl 169) (za (lFn 172 (zm)) (za (lSl 169) (za zj (za zj zm)))))
def zge (x:zbQ) (y:Unit):Nat:=(x.1.length+x.2.1.length+x.2.2.2.1.length+Int.toNat x.2.2.2.2.1+Int.toNat x.2.2.2.2.2.1+1)
def zc4 (zG:Wd->Wd->Bool×Int):=zb1 base 39 [(172,(zd4 zG))] [] [(2,(kpL [0,1,2,11,12,13]))] [(2,1,(kpL [0,1])),(2,0,(kpL [6]))] [(2,spW zgm z4x (zc5 zG) (.inl default) zgf zge)] []
theorem zf9 (zG:Wd->Wd->Bool×Int):zJ (zc4 zG) (lp (body f171) 0):=zq (id:=2) (hl:=rfl)
def zgJ (zG:Wd->Wd->Bool×Int) (s1:yD) (s2:yD):Wy0 (Int):=.bn (zgo zG (s1.length+s2.length+s1.length+(Int.ofNat s1.length).toNat +Int.toNat 0+1) s1 s2 s1 (Int.ofNat s1.length) 0) λr2=>.i (isL r2) (.k (getL r2)) (.i (decide (Int.ofNat (getR r2).1.length<Int.ofNat (getR r2).2.length)) (.k (-1:Int)) (.k 0))
def zbI (zG:Wd->Wd->Bool×Int) (s1:yD) (s2:yD):=(zgJ zG s1 s2).fin default
theorem zfV (zG:Wd->Wd->Bool×Int) (zmq:SdP 172 (zd4 zG)):SdP 171 (zbF (zbI zG)):=
 sT (cx':=(zc4 zG)) (zi ⟨zmq,trivial⟩) call171 func171 (lOK (aC (zf9 zG) aN))
abbrev zb0:=yB×yB×Unit×yB×Int×Int×Unit
abbrev zeq:=Int⊕(yB×yB)
def zhT (zL:Term->Term->Bool×Int) (s1:yB) (s2:yB) (t11:yB) (t12:Int) (t13:Int):Wy zb0 Unit zeq:=.i (decide (t13<t12)) (.i (decide (0<=t13)&&decide (t13<Int.ofNat t11.length)) (.i (decide (t13≥Int.ofNat s2.length)) (.k (.inl 1)) (.i (decide (0<=t13)&&decide (t13<Int.ofNat s2.length)) (.bn (zL (t11.getD t13.toNat default) (s2.getD t13.toNat default)) λr0=>.i (r0 != 0) (.k (.inl (r0))) (.h (s1,s2,(),t11,t12,(IntKind.i64.wrap (t13+1)),()) ())) .d)) .d) (.k (.inr (s1,s2)))
def zdE (zL:Term->Term->Bool×Int) (x:zb0) (y:Unit):=zhT zL x.1 x.2.1 x.2.2.2.1 x.2.2.2.2.1 x.2.2.2.2.2.1
def zhV (zL:Term->Term->Bool×Int) (n:Nat) (s1:yB) (s2:yB) (t11:yB) (t12:Int) (t13:Int):=zA (zdE zL) (.inl default) n (s1,s2,(),t11,t12,t13,()) ()
def zhB (r:zeq):LTree ty:=.ite (isL r) (.done .ret [.lit (.int .i64 (getL r))] []) (.done (.exit 0) [.sl 107 (getR r).1,.sl 107 (getR r).2] [])
def zhU:LL ty zb0:=za (lSl 107) (za (lSl 107) (za (lFn 225 (zm)) (za (lSl 107) (za zj (za zj zm)))))
def zhR (x:zb0) (y:Unit):Nat:=(x.1.length+x.2.1.length+x.2.2.2.1.length+Int.toNat x.2.2.2.2.1+Int.toNat x.2.2.2.2.2.1+1)
def zdD (zL:Term->Term->Bool×Int):=zb1 base 39 [(225,(zfM zL))] [] [(2,(kpL [0,1,2,11,12,13]))] [(2,1,(kpL [0,1])),(2,0,(kpL [6]))] [(2,spW zhU z4x (zdE zL) (.inl default) zhB zhR)] []
theorem zhE (zL:Term->Term->Bool×Int):zJ (zdD zL) (lp (body f224) 0):=zq (id:=2) (hl:=rfl)
def zh8 (zL:Term->Term->Bool×Int) (s1:yB) (s2:yB):Wy0 (Int):=.bn (zhV zL (s1.length+s2.length+s1.length+(Int.ofNat s1.length).toNat +Int.toNat 0+1) s1 s2 s1 (Int.ofNat s1.length) 0) λr2=>.i (isL r2) (.k (getL r2)) (.i (decide (Int.ofNat (getR r2).1.length<Int.ofNat (getR r2).2.length)) (.k (-1:Int)) (.k 0))
def zbO (zL:Term->Term->Bool×Int) (s1:yB) (s2:yB):=(zh8 zL s1 s2).fin default
theorem zg3 (zL:Term->Term->Bool×Int) (zoH:SdP 225 (zfM zL)):SdP 224 (zbP (zbO zL)):=
 sT (cx':=(zdD zL)) (zi ⟨zoH,trivial⟩) call224 func224 (lOK (aC (zhE zL) aN))
def zb9:Nat->(yB->yB->Bool×Int)×(Term->Term->Bool×Int)×(Term->Term->Bool×Int)×(Fc->Fc->Bool×Int)×(At->At->Bool×Int)×(Wd->Wd->Bool×Int)×(yB->yB->Bool×Int)×(yC->yC->Bool×Int)×(yA->yA->Bool×Int)×(yD->yD->Bool×Int)
 | 0=>(λ_ _=>(false,default),λ_ _=>(false,default),λ_ _=>(false,default),λ_ _=>(false,default),λ_ _=>(false,default),λ_ _=>(false,default),λ_ _=>(false,default),λ_ _=>(false,default),λ_ _=>(false,default),λ_ _=>(false,default))
 | n+1=>(zoW ((zb9 n).2.2.2.2.2.2.1) ((zb9 n).2.1),zlb ((zb9 n).2.2.1),zjN ((zb9 n).2.2.2.2.2.2.2.1) ((zb9 n).2.2.2.1),ziV ((zb9 n).2.2.2.2.1),zjP ((zb9 n).2.2.2.2.2.2.2.2.1) ((zb9 n).1) ((zb9 n).2.2.2.2.2.2.2.2.2) ((zb9 n).2.2.2.2.2.1),zjH ((zb9 n).1),zbO ((zb9 n).2.1),zbt ((zb9 n).2.2.2.1),zbm ((zb9 n).1),zbI ((zb9 n).2.2.2.2.2.1))
def zfQ (n:Nat):yB->yB->Bool×Int:=(zb9 n).1
def zix (n:Nat):Term->Term->Bool×Int:=(zb9 n).2.1
def zgV (n:Nat):Term->Term->Bool×Int:=(zb9 n).2.2.1
def zfI (n:Nat):Fc->Fc->Bool×Int:=(zb9 n).2.2.2.1
def zgX (n:Nat):At->At->Bool×Int:=(zb9 n).2.2.2.2.1
def zeQ (n:Nat):Wd->Wd->Bool×Int:=(zb9 n).2.2.2.2.2.1
def zbN (n:Nat):yB->yB->Bool×Int:=(zb9 n).2.2.2.2.2.2.1
def zbS (n:Nat):yC->yC->Bool×Int:=(zb9 n).2.2.2.2.2.2.2.1
def zbl (n:Nat):yA->yA->Bool×Int:=(zb9 n).2.2.2.2.2.2.2.2.1
def zbG (n:Nat):yD->yD->Bool×Int:=(zb9 n).2.2.2.2.2.2.2.2.2
theorem zKc (n:Nat):zfQ (n+1)=zoW (zbN n) (zix n):=rfl
theorem zGn (n:Nat):zix (n+1)=zlb (zgV n):=rfl
theorem zDE (n:Nat):zgV (n+1)=zjN (zbS n) (zfI n):=rfl
theorem zBI (n:Nat):zfI (n+1)=ziV (zgX n):=rfl
theorem zD6 (n:Nat):zgX (n+1)=zjP (zbl n) (zfQ n) (zbG n) (zeQ n):=rfl
theorem zDR (n:Nat):zeQ (n+1)=zjH (zfQ n):=rfl
theorem zhX (n:Nat):zbN (n+1)=zbO (zix n):=rfl
theorem zis (n:Nat):zbS (n+1)=zbt (zfI n):=rfl
theorem ze3 (n:Nat):zbl (n+1)=zbm (zfQ n):=rfl
theorem zgv (n:Nat):zbG (n+1)=zbI (zeQ n):=rfl
theorem zvr:∀ n,SdP 170 (zd2 (zfQ n))/\SdP 225 (zfM (zix n))/\SdP 104 (zfM (zgV n))/\SdP 166 (zei (zfI n))/\SdP 106 (zgU (zgX n))/\SdP 172 (zd4 (zeQ n))/\SdP 224 (zbP (zbN n))/\SdP 165 (zbR (zbS n))/\SdP 169 (zbn (zbl n))/\SdP 171 (zbF (zbG n))
 | 0=>⟨zbk call170 (λ_=>rfl),zbk call225 (λ_=>rfl),zbk call104 (λ_=>rfl),zbk call166 (λ_=>rfl),zbk call106 (λ_=>rfl),zbk call172 (λ_=>rfl),zbk call224 (λ_=>rfl),zbk call165 (λ_=>rfl),zbk call169 (λ_=>rfl),zbk call171 (λ_=>rfl)⟩
 | n+1=>by
  have ih:=zvr n;exact ⟨zF0 _ _ (ih.2.2.2.2.2.2.1) (ih.2.1),zC4 _ (ih.2.2.1),zBy _ _ (ih.2.2.2.2.2.2.2.1) (ih.2.2.2.1),zzy _ (ih.2.2.2.2.1),zBw _ _ _ _ (ih.2.2.2.2.2.2.2.2.1) (ih.1) (ih.2.2.2.2.2.2.2.2.2) (ih.2.2.2.2.2.1),zBp _ (ih.1),zg3 _ (ih.2.1),zht _ (ih.2.2.2.1),zeF _ (ih.1),zfV _ (ih.2.2.2.2.2.1)⟩
def zxE:yB->yB->Bool×Int:=zfQ 1000
def zyD:Ab.Spec ty:=zd2 zxE
theorem zIx:SdP 170 zyD:=(zvr 1000).1
def zbV:Term->Term->Bool×Int:=zgV 1000
def zic:Ab.Spec ty:=zfM zbV
theorem zk5:SdP 104 zic:=(zvr 1000).2.2.1
def ziw:At->At->Bool×Int:=zgX 1000
def zlJ:Ab.Spec ty:=zgU ziw
theorem zs5:SdP 106 zlJ:=(zvr 1000).2.2.2.2.1
def z6:Wd->Wd->Bool×Int:=zeQ 1000
def zfm:Ab.Spec ty:=zd4 z6
theorem zhn:SdP 172 zfm:=(zvr 1000).2.2.2.2.2.1
def zSO:=zbx base 9 [(170,zyD)]
def zEX (a:yB) (b:yB):Wy0 (Bool):=.bn (zxE a b) λr0=>.k (r0==0)
def zhA (a:yB) (b:yB):=(zEX a b).fin default
def zmZ:=zh zPO λx=>((zhA x.1 x.2.1).1,zTe (zhA x.1 x.2.1).2)
theorem zsC:SdP 115 zmZ:=
 sT (cx':=zSO) (zi ⟨zIx,trivial⟩) call115 func115 (lOK aN)
end Go.Proofs.YtoknknbmfmddbaaGreatDoor
end
