/- Texts of this claim, joined (the program, its functions in plain words, and what they compute). -/
import Derived.KernelRfl
import Derived.Test.YtoknknbmfmddbaaGreatDoorChecked
import Derived.Test.YtoknknbmfmddbaaGreatDoorProg
import Derived.Test.YtoknknbmfmddbaaGreatDoorGB1
set_option autoImplicit false
set_option linter.unusedVariables false
set_option linter.unusedSectionVars false
set_option linter.unusedSimpArgs false
set_option maxRecDepth 1000000
set_option maxHeartbeats 0
/- The types of the program, as plain data. -/
noncomputable section
namespace Go.Proofs.YtoknknbmfmddbaaGreatDoor
open Go Go.Ab
open Go.Proofs Go.Shelf
open Go.Proofs.Tryz
structure Column where
 Name:ByteArray
 Type_:Int
 deriving DecidableEq,Inhabited
structure Value where
 Kind:Int
 Int:Int
 Text:ByteArray
 deriving DecidableEq,Inhabited
structure RowID where
 Table:Int
 Seq:Int
 deriving DecidableEq,Inhabited
structure FO (A:Type) where
 At:A
 Exp:Int
structure TO (A:Type) where
 Cf:Int
 Fs:List (FO A)
structure WO (A:Type) where
 Value:Value
 Ann:List (TO A)
structure At where
 Kind:Int
 Row:RowID
 Ag:List (List (TO At))
 Func:Int
 Items:List (WO At)
 Op:Int
 Bd:Value
abbrev Fc:=FO At
abbrev Term:=TO At
abbrev Wd:=WO At
instance:Inhabited At:=⟨⟨0,default,[],0,[],0,default⟩⟩
instance:Inhabited Fc:=⟨⟨default,0⟩⟩
instance:Inhabited Term:=⟨⟨0,[]⟩⟩
instance:Inhabited Wd:=⟨⟨default,[]⟩⟩
theorem At.eta (x:At):(⟨x.Kind,x.Row,x.Ag,x.Func,x.Items,x.Op,x.Bd⟩:At)=x:=by cases x; rfl
mutual
def z6j:(x y:At)->Decidable (x=y)
 | ⟨k,r,a,f,i,o,b⟩,⟨k',r',a',f',i',o',b'⟩=>
  match decEq k k',decEq r r',z6x a a',decEq f f',z4F i i',decEq o o',decEq b b' with
  | .isTrue h1,.isTrue h2,.isTrue h3,.isTrue h4,.isTrue h5,.isTrue h6,.isTrue h7=>.isTrue (by subst h1 h2 h3 h4 h5 h6 h7; rfl)
  | .isFalse h,_,_,_,_,_,_=>.isFalse (λe=>by cases e; exact h rfl)
  | _,.isFalse h,_,_,_,_,_=>.isFalse (λe=>by cases e; exact h rfl)
  | _,_,.isFalse h,_,_,_,_=>.isFalse (λe=>by cases e; exact h rfl)
  | _,_,_,.isFalse h,_,_,_=>.isFalse (λe=>by cases e; exact h rfl)
  | _,_,_,_,.isFalse h,_,_=>.isFalse (λe=>by cases e; exact h rfl)
  | _,_,_,_,_,.isFalse h,_=>.isFalse (λe=>by cases e; exact h rfl)
  | _,_,_,_,_,_,.isFalse h=>.isFalse (λe=>by cases e; exact h rfl)
def z1m:(x y:Fc)->Decidable (x=y)
 | ⟨a,e⟩,⟨a',e'⟩=>match z6j a a',decEq e e' with
  | .isTrue h1,.isTrue h2=>.isTrue (by subst h1 h2; rfl)
  | .isFalse h,_=>.isFalse (λe=>by cases e; exact h rfl)
  | _,.isFalse h=>.isFalse (λe=>by cases e; exact h rfl)
def zYu:(x y:List Fc)->Decidable (x=y)
 | [],[]=>.isTrue rfl
 | [],_::_=>.isFalse (by simp)
 | _::_,[]=>.isFalse (by simp)
 | x::r,y::s=>match z1m x y,zYu r s with
  | .isTrue h1,.isTrue h2=>.isTrue (by subst h1 h2; rfl)
  | .isFalse h,_=>.isFalse (λe=>by cases e; exact h rfl)
  | _,.isFalse h=>.isFalse (λe=>by cases e; exact h rfl)
def z6A:(x y:Term)->Decidable (x=y)
 | ⟨a,e⟩,⟨a',e'⟩=>match decEq a a',zYu e e' with
  | .isTrue h1,.isTrue h2=>.isTrue (by subst h1 h2; rfl)
  | .isFalse h,_=>.isFalse (λe=>by cases e; exact h rfl)
  | _,.isFalse h=>.isFalse (λe=>by cases e; exact h rfl)
def z4a:(x y:List Term)->Decidable (x=y)
 | [],[]=>.isTrue rfl
 | [],_::_=>.isFalse (by simp)
 | _::_,[]=>.isFalse (by simp)
 | x::r,y::s=>match z6A x y,z4a r s with
  | .isTrue h1,.isTrue h2=>.isTrue (by subst h1 h2; rfl)
  | .isFalse h,_=>.isFalse (λe=>by cases e; exact h rfl)
  | _,.isFalse h=>.isFalse (λe=>by cases e; exact h rfl)
def z6x:(x y:List (List Term))->Decidable (x=y)
 | [],[]=>.isTrue rfl
 | [],_::_=>.isFalse (by simp)
 | _::_,[]=>.isFalse (by simp)
 | x::r,y::s=>match z4a x y,z6x r s with
  | .isTrue h1,.isTrue h2=>.isTrue (by subst h1 h2; rfl)
  | .isFalse h,_=>.isFalse (λe=>by cases e; exact h rfl)
  | _,.isFalse h=>.isFalse (λe=>by cases e; exact h rfl)
def z6s:(x y:Wd)->Decidable (x=y)
 | ⟨a,e⟩,⟨a',e'⟩=>match decEq a a',z4a e e' with
  | .isTrue h1,.isTrue h2=>.isTrue (by subst h1 h2; rfl)
  | .isFalse h,_=>.isFalse (λe=>by cases e; exact h rfl)
  | _,.isFalse h=>.isFalse (λe=>by cases e; exact h rfl)
def z4F:(x y:List Wd)->Decidable (x=y)
 | [],[]=>.isTrue rfl
 | [],_::_=>.isFalse (by simp)
 | _::_,[]=>.isFalse (by simp)
 | x::r,y::s=>match z6s x y,z4F r s with
  | .isTrue h1,.isTrue h2=>.isTrue (by subst h1 h2; rfl)
  | .isFalse h,_=>.isFalse (λe=>by cases e; exact h rfl)
  | _,.isFalse h=>.isFalse (λe=>by cases e; exact h rfl)
end
instance:DecidableEq At:=z6j
instance:DecidableEq Fc:=z1m
instance:DecidableEq Term:=z6A
instance:DecidableEq Wd:=z6s
structure Row where
 Values:List Value
 Ann:List Term
 deriving DecidableEq,Inhabited
structure Relation where
 Columns:List Column
 Rows:List Row
 deriving DecidableEq,Inhabited
structure Table where
 ID:Int
 Name:ByteArray
 Columns:List Column
 Rows:List Row
 deriving DecidableEq,Inhabited
structure Bg where
 Row:RowID
 To:List Term
 deriving DecidableEq,Inhabited
structure pair where
 c:Column
 v:Value
 deriving DecidableEq,Inhabited
abbrev yA:=List (List Term)
abbrev yB:=List Term
abbrev yC:=List Fc
abbrev yD:=List Wd
abbrev yE:=List Bg
abbrev yF:=List Row
abbrev yG:=List Value
abbrev yH:=List Column
def ty:Nat->Type
 | 2=>Int
 | 3=>Int
 | 4=>Bool
 | 5=>Int
 | 9=>ByteArray
 | 22=>yH
 | 23=>yF
 | 25=>Relation
 | 28=>List ByteArray
 | 32=>List (yG)
 | 34=>yG
 | 36=>Table
 | 39=>Int
 | 50=>yB
 | 51=>yB
 | 54=>Row
 | 60=>yE
 | 63=>RowID
 | 65=>Bg
 | 69=>List RowID
 | 73=>List Relation
 | 75=>Column
 | 79=>Value
 | 105=>yC
 | 107=>Term
 | 110=>yA
 | 120=>List Int
 | 135=>List pair
 | 137=>pair
 | 141=>yD
 | 143=>At
 | 145=>Fc
 | 155=>List (yF)
 | 169=>Wd
 | 207=>Unit
 | 218=>Int
 | 223=>Int
 | 234=>List Int
 | 282=>List (yC)
 | _=>Unit
instance:(T:Nat)->Inhabited (ty T):=λT=>by
 unfold ty;split <;>infer_instance
def zbdz:DT ty Column:=zzT (λx=>⟨x.1,x.2⟩) (λx=>(x.Name,x.Type_)) (λ_=>rfl) (zjJ (z2T) (zr8 .i64))
def z7Z:DT ty Value:=zzT (λx=>⟨x.1,x.2.1,x.2.2⟩) (λx=>(x.Kind,x.Int,x.Text)) (λ_=>rfl) (zjJ (zr8 .i64) (zjJ (zr8 .i64) (z2T)))
def zbar:DT ty RowID:=zzT (λx=>⟨x.1,x.2⟩) (λx=>(x.Table,x.Seq)) (λ_=>rfl) (zjJ (zr8 .i64) (zr8 .i64))
def zba0:DT ty At:=zzT (λx=>⟨x.1,x.2.1,x.2.2.1,x.2.2.2.1,x.2.2.2.2.1,x.2.2.2.2.2.1,x.2.2.2.2.2.2⟩) (λx=>(x.Kind,x.Row,x.Ag,x.Func,x.Items,x.Op,x.Bd)) (λ_=>rfl) (zjJ (zr8 .i64) (zjJ (zbar) (zjJ (zkE 51) (zjJ (zr8 .i64) (zjJ (zkE 169) (zjJ (zr8 .i64) (z7Z)))))))
def zbeh:DT ty Fc:=zzT (λx=>⟨x.1,x.2⟩) (λx=>(x.At,x.Exp)) (λ_=>rfl) (zjJ (zba0) (zr8 .i64))
def zbeq:DT ty Term:=zzT (λx=>⟨x.1,x.2⟩) (λx=>(x.Cf,x.Fs)) (λ_=>rfl) (zjJ (zr8 .i64) (zkE 145))
def zbev:DT ty Wd:=zzT (λx=>⟨x.1,x.2⟩) (λx=>(x.Value,x.Ann)) (λ_=>rfl) (zjJ (z7Z) (zkE 107))
def zbeV:DT ty Row:=zzT (λx=>⟨x.1,x.2⟩) (λx=>(x.Values,x.Ann)) (λ_=>rfl) (zjJ (zkE 79) (zkE 107))
def zbeL:DT ty Relation:=zzT (λx=>⟨x.1,x.2⟩) (λx=>(x.Columns,x.Rows)) (λ_=>rfl) (zjJ (zkE 75) (zkE 54))
def zbeU:DT ty Table:=zzT (λx=>⟨x.1,x.2.1,x.2.2.1,x.2.2.2⟩) (λx=>(x.ID,x.Name,x.Columns,x.Rows)) (λ_=>rfl) (zjJ (zr8 .i64) (zjJ (z2T) (zjJ (zkE 75) (zkE 54))))
def zbeG:DT ty Bg:=zzT (λx=>⟨x.1,x.2⟩) (λx=>(x.Row,x.To)) (λ_=>rfl) (zjJ (zbar) (zkE 107))
def zbet:DT ty pair:=zzT (λx=>⟨x.1,x.2⟩) (λx=>(x.c,x.v)) (λ_=>rfl) (zjJ (zbdz) (z7Z))
def zYY:List ((T:Nat)×DT ty (ty T)):=[⟨2,(zr8 .i64:DT ty Int)⟩,⟨3,(zr8 .i64:DT ty Int)⟩,⟨4,(zbdP:DT ty Bool)⟩,⟨5,(zr8 .u8:DT ty Int)⟩,⟨9,(z2T:DT ty ByteArray)⟩,⟨22,(zkE 75:DT ty (yH))⟩,⟨23,(zkE 54:DT ty (yF))⟩,⟨25,(zbeL:DT ty Relation)⟩,⟨28,(zkE 9:DT ty (List ByteArray))⟩,⟨32,(zkE 34:DT ty (List (yG)))⟩,⟨34,(zkE 79:DT ty (yG))⟩,⟨36,(zbeU:DT ty Table)⟩,⟨39,(zr8 .i64:DT ty Int)⟩,⟨50,(zkE 107:DT ty (yB))⟩,⟨51,(zkE 107:DT ty (yB))⟩,⟨54,(zbeV:DT ty Row)⟩,⟨60,(zkE 65:DT ty (yE))⟩,⟨63,(zbar:DT ty RowID)⟩,⟨65,(zbeG:DT ty Bg)⟩,⟨69,(zkE 63:DT ty (List RowID))⟩,⟨73,(zkE 25:DT ty (List Relation))⟩,⟨75,(zbdz:DT ty Column)⟩,⟨79,(z7Z:DT ty Value)⟩,⟨105,(zkE 145:DT ty (yC))⟩,⟨107,(zbeq:DT ty Term)⟩,⟨110,(zkE 51:DT ty (yA))⟩,⟨120,(zkE 5:DT ty (List Int))⟩,⟨135,(zkE 137:DT ty (List pair))⟩,⟨137,(zbet:DT ty pair)⟩,⟨141,(zkE 169:DT ty (yD))⟩,⟨143,(zba0:DT ty At)⟩,⟨145,(zbeh:DT ty Fc)⟩,⟨155,(zkE 23:DT ty (List (yF)))⟩,⟨169,(zbev:DT ty Wd)⟩,⟨207,(zbeT:DT ty Unit)⟩,⟨218,(zr8 .u64:DT ty Int)⟩,⟨223,(zr8 .u64:DT ty Int)⟩,⟨234,(zkE 3:DT ty (List Int))⟩,⟨282,(zkE 105:DT ty (List (yC)))⟩]
def z2Z:List (Nat×TInfo):=[(2,⟨.int .i64,1,8,[.int .i64 (0)]⟩),
 (3,⟨.int .i64,1,8,[.int .i64 (0)]⟩),
 (4,⟨.bool,1,1,[.bool false]⟩),
 (5,⟨.int .u8,1,1,[.int .u8 (0)]⟩),
 (9,⟨.str,1,16,[.string ⟨#[]⟩]⟩),
 (22,⟨.slice 75,1,24,[.slice none 0 0]⟩),
 (23,⟨.slice 54,1,24,[.slice none 0 0]⟩),
 (25,⟨.struct [(0,22),(1,23)],2,48,[.slice none 0 0,.slice none 0 0]⟩),
 (28,⟨.slice 9,1,24,[.slice none 0 0]⟩),
 (32,⟨.slice 34,1,24,[.slice none 0 0]⟩),
 (34,⟨.slice 79,1,24,[.slice none 0 0]⟩),
 (36,⟨.struct [(0,3),(1,9),(2,22),(3,23)],4,72,[.int .i64 (0),.string ⟨#[]⟩,.slice none 0 0,.slice none 0 0]⟩),
 (39,⟨.int .i64,1,8,[.int .i64 (0)]⟩),
 (50,⟨.slice 107,1,24,[.slice none 0 0]⟩),
 (51,⟨.slice 107,1,24,[.slice none 0 0]⟩),
 (54,⟨.struct [(0,34),(1,51)],2,48,[.slice none 0 0,.slice none 0 0]⟩),
 (60,⟨.slice 65,1,24,[.slice none 0 0]⟩),
 (63,⟨.struct [(0,3),(1,3)],2,16,[.int .i64 (0),.int .i64 (0)]⟩),
 (65,⟨.struct [(0,63),(2,51)],3,40,[.int .i64 (0),.int .i64 (0),.slice none 0 0]⟩),
 (69,⟨.slice 63,1,24,[.slice none 0 0]⟩),
 (73,⟨.slice 25,1,24,[.slice none 0 0]⟩),
 (75,⟨.struct [(0,9),(1,3)],2,24,[.string ⟨#[]⟩,.int .i64 (0)]⟩),
 (79,⟨.struct [(0,3),(1,2),(2,9)],3,32,[.int .i64 (0),.int .i64 (0),.string ⟨#[]⟩]⟩),
 (105,⟨.slice 145,1,24,[.slice none 0 0]⟩),
 (107,⟨.struct [(0,2),(1,105)],2,32,[.int .i64 (0),.slice none 0 0]⟩),
 (110,⟨.slice 51,1,24,[.slice none 0 0]⟩),
 (120,⟨.slice 5,1,24,[.slice none 0 0]⟩),
 (135,⟨.slice 137,1,24,[.slice none 0 0]⟩),
 (137,⟨.struct [(0,75),(2,79)],5,56,[.string ⟨#[]⟩,.int .i64 (0),.int .i64 (0),.int .i64 (0),.string ⟨#[]⟩]⟩),
 (141,⟨.slice 169,1,24,[.slice none 0 0]⟩),
 (143,⟨.struct [(0,3),(1,63),(3,110),(4,3),(5,141),(6,3),(7,79)],10,120,[.int .i64 (0),.int .i64 (0),.int .i64 (0),.slice none 0 0,.int .i64 (0),.slice none 0 0,.int .i64 (0),.int .i64 (0),.int .i64 (0),.string ⟨#[]⟩]⟩),
 (145,⟨.struct [(0,143),(10,3)],11,128,[.int .i64 (0),.int .i64 (0),.int .i64 (0),.slice none 0 0,.int .i64 (0),.slice none 0 0,.int .i64 (0),.int .i64 (0),.int .i64 (0),.string ⟨#[]⟩,.int .i64 (0)]⟩),
 (155,⟨.slice 23,1,24,[.slice none 0 0]⟩),
 (169,⟨.struct [(0,79),(3,51)],4,56,[.int .i64 (0),.int .i64 (0),.string ⟨#[]⟩,.slice none 0 0]⟩),
 (207,⟨.map 9 3,1,8,[.map none]⟩),
 (218,⟨.int .u64,1,8,[.int .u64 (0)]⟩),
 (223,⟨.int .u64,1,8,[.int .u64 (0)]⟩),
 (234,⟨.slice 3,1,24,[.slice none 0 0]⟩),
 (282,⟨.slice 105,1,24,[.slice none 0 0]⟩)]
def zUU:List (Nat×List TD):=[(75,[.str,.int .i64]),(79,[.int .i64,.int .i64,.str]),(63,[.int .i64,.int .i64])]
def inv (w:World):Prop:=Lib.TabIs Tryz.prog w "internal/strconv.uint64pow10" .u64 Lib.pow10Tab/\(∃ m,w.cell? ⟨0,0,none⟩=some (.int .i64 m))
theorem zbaF {n:String} {g:Nat} {w w':World} (hg:Tryz.prog.globalNamed n=some g) (h:w'.heap[g]? =w.heap[g]?):w'.var? Tryz.prog n=w.var? Tryz.prog n:=by
 unfold World.var?; rw [hg]; simp only [Option.bind_some,h]
theorem z7B (w w':World) (hi:inv w) (hb:∀ b,b<4->w'.heap[b]? =w.heap[b]?):inv w':=by
 obtain ⟨h1,⟨m,h2⟩⟩:=hi;refine ⟨(zbaF (g:=1) (by kernel_rfl) (hb 1 (by omega))).trans h1,⟨m, ?_⟩⟩
 rw [<- h2]; exact World.cell?_of_block (a:=⟨0,0,none⟩) (hb 0 (by omega))
def base:Cx ty:={ ti:=λT=>z2Z.lookup T,dflt:=λ_=>default,enc:=λT=>(z3K zYY T).enc,dec:=λT=>(z3K zYY T).dec,spec:=λ_=>none,io:=λ_=>[],eqs:=λT us vs=>match zUU.lookup T with | some ts=>zbe ts us vs | none=>none,nt:=0,head:=λ_=>[],out:=λ_ _=>[],loops:=λ_=>none,ng:=4,inv:=inv }
theorem z7l:Tryz.prog.info? 2=some Tryz.t2:=by kernel_rfl
theorem zDW:Tryz.prog.info? 3=some Tryz.t3:=by kernel_rfl
theorem zbeo:Tryz.prog.info? 4=some Tryz.t4:=by kernel_rfl
theorem zbd0:Tryz.prog.info? 5=some Tryz.t5:=by kernel_rfl
theorem z23:Tryz.prog.info? 9=some Tryz.t9:=by kernel_rfl
theorem z28:Tryz.prog.info? 22=some Tryz.t22:=by kernel_rfl
theorem z4e:Tryz.prog.info? 23=some Tryz.t23:=by kernel_rfl
theorem zbdA:Tryz.prog.info? 25=some Tryz.t25:=by kernel_rfl
theorem zbde:Tryz.prog.info? 28=some Tryz.t28:=by kernel_rfl
theorem zbcR:Tryz.prog.info? 32=some Tryz.t32:=by kernel_rfl
theorem z9b:Tryz.prog.info? 34=some Tryz.t34:=by kernel_rfl
theorem zbdx:Tryz.prog.info? 36=some Tryz.t36:=by kernel_rfl
theorem zbds:Tryz.prog.info? 39=some Tryz.t39:=by kernel_rfl
theorem zbc5:Tryz.prog.info? 50=some Tryz.t50:=by kernel_rfl
theorem zZg:Tryz.prog.info? 51=some Tryz.t51:=by kernel_rfl
theorem zbdQ:Tryz.prog.info? 54=some Tryz.t54:=by kernel_rfl
theorem zbdR:Tryz.prog.info? 60=some Tryz.t60:=by kernel_rfl
theorem z3h:Tryz.prog.info? 63=some Tryz.t63:=by kernel_rfl
theorem zbdm:Tryz.prog.info? 65=some Tryz.t65:=by kernel_rfl
theorem zbdg:Tryz.prog.info? 69=some Tryz.t69:=by kernel_rfl
theorem zbc1:Tryz.prog.info? 73=some Tryz.t73:=by kernel_rfl
theorem z86:Tryz.prog.info? 75=some Tryz.t75:=by kernel_rfl
theorem zYj:Tryz.prog.info? 79=some Tryz.t79:=by kernel_rfl
theorem z6g:Tryz.prog.info? 105=some Tryz.t105:=by kernel_rfl
theorem zbbI:Tryz.prog.info? 107=some Tryz.t107:=by kernel_rfl
theorem z56:Tryz.prog.info? 110=some Tryz.t110:=by kernel_rfl
theorem zbbN:Tryz.prog.info? 120=some Tryz.t120:=by kernel_rfl
theorem zbce:Tryz.prog.info? 135=some Tryz.t135:=by kernel_rfl
theorem zbbE:Tryz.prog.info? 137=some Tryz.t137:=by kernel_rfl
theorem z6P:Tryz.prog.info? 141=some Tryz.t141:=by kernel_rfl
theorem z6w:Tryz.prog.info? 143=some Tryz.t143:=by kernel_rfl
theorem zbcm:Tryz.prog.info? 145=some Tryz.t145:=by kernel_rfl
theorem zbbz:Tryz.prog.info? 155=some Tryz.t155:=by kernel_rfl
theorem zbcj:Tryz.prog.info? 169=some Tryz.t169:=by kernel_rfl
theorem zbbi:Tryz.prog.info? 207=some Tryz.t207:=by kernel_rfl
theorem zbcb:Tryz.prog.info? 218=some Tryz.t218:=by kernel_rfl
theorem zbcg:Tryz.prog.info? 223=some Tryz.t223:=by kernel_rfl
theorem zbch:Tryz.prog.info? 234=some Tryz.t234:=by kernel_rfl
theorem zbcr:Tryz.prog.info? 282=some Tryz.t282:=by kernel_rfl
theorem zbb2:∀ T i,z2Z.lookup T=some i->InfoOK Tryz.prog T i:=by
 intro T i h;have h:=zGh _ _ _ h;simp only [z2Z,qd,List.not_mem_nil,or_false,qb] at h;rcases h with ⟨rfl,rfl⟩ | ⟨rfl,rfl⟩ | ⟨rfl,rfl⟩ | ⟨rfl,rfl⟩ | ⟨rfl,rfl⟩ | ⟨rfl,rfl⟩ | ⟨rfl,rfl⟩ | ⟨rfl,rfl⟩ | ⟨rfl,rfl⟩ | ⟨rfl,rfl⟩ | ⟨rfl,rfl⟩ | ⟨rfl,rfl⟩ | ⟨rfl,rfl⟩ | ⟨rfl,rfl⟩ | ⟨rfl,rfl⟩ | ⟨rfl,rfl⟩ | ⟨rfl,rfl⟩ | ⟨rfl,rfl⟩ | ⟨rfl,rfl⟩ | ⟨rfl,rfl⟩ | ⟨rfl,rfl⟩ | ⟨rfl,rfl⟩ | ⟨rfl,rfl⟩ | ⟨rfl,rfl⟩ | ⟨rfl,rfl⟩ | ⟨rfl,rfl⟩ | ⟨rfl,rfl⟩ | ⟨rfl,rfl⟩ | ⟨rfl,rfl⟩ | ⟨rfl,rfl⟩ | ⟨rfl,rfl⟩ | ⟨rfl,rfl⟩ | ⟨rfl,rfl⟩ | ⟨rfl,rfl⟩ | ⟨rfl,rfl⟩ | ⟨rfl,rfl⟩ | ⟨rfl,rfl⟩ | ⟨rfl,rfl⟩ | ⟨rfl,rfl⟩
 ·exact ⟨Tryz.t2,_,_,z7l,underlying2,rfl,rfl,rfl,rfl,rfl,⟨by simp [zbC],λ_=>rfl⟩,rfl⟩
 ·exact ⟨Tryz.t3,_,_,zDW,underlying3,rfl,rfl,rfl,rfl,rfl,⟨by simp [zbC],λ_=>rfl⟩,rfl⟩
 ·exact ⟨Tryz.t4,_,_,zbeo,underlying4,rfl,rfl,rfl,rfl,rfl,⟨by simp [zbC],λ_=>rfl⟩,rfl⟩
 ·exact ⟨Tryz.t5,_,_,zbd0,underlying5,rfl,rfl,rfl,rfl,rfl,⟨by simp [zbC],λ_=>rfl⟩,rfl⟩
 ·exact ⟨Tryz.t9,_,_,z23,underlying9,rfl,rfl,rfl,rfl,rfl,⟨by simp [zbC],λ_=>rfl⟩,rfl⟩
 ·exact ⟨Tryz.t22,_,_,z28,underlying22,rfl,rfl,rfl,rfl,rfl,⟨by simp [zbC],λ_=>rfl⟩,rfl⟩
 ·exact ⟨Tryz.t23,_,_,z4e,underlying23,rfl,rfl,rfl,rfl,rfl,⟨by simp [zbC],λ_=>rfl⟩,rfl⟩
 ·exact ⟨Tryz.t25,_,_,zbdA,underlying25,rfl,rfl,rfl,rfl,rfl,⟨by simp [zbC],λh=>by cases h⟩,⟨_,rfl,rfl,λf hf=>by
   simp only [qd,List.not_mem_nil,or_false] at hf;rcases hf with rfl | rfl
   ·exact Option.isSome_iff_exists.2 ⟨_,z28⟩
   ·exact Option.isSome_iff_exists.2 ⟨_,z4e⟩⟩⟩
 ·exact ⟨Tryz.t28,_,_,zbde,underlying28,rfl,rfl,rfl,rfl,rfl,⟨by simp [zbC],λ_=>rfl⟩,rfl⟩
 ·exact ⟨Tryz.t32,_,_,zbcR,underlying32,rfl,rfl,rfl,rfl,rfl,⟨by simp [zbC],λ_=>rfl⟩,rfl⟩
 ·exact ⟨Tryz.t34,_,_,z9b,underlying34,rfl,rfl,rfl,rfl,rfl,⟨by simp [zbC],λ_=>rfl⟩,rfl⟩
 ·exact ⟨Tryz.t36,_,_,zbdx,underlying36,rfl,rfl,rfl,rfl,rfl,⟨by simp [zbC],λh=>by cases h⟩,⟨_,rfl,rfl,λf hf=>by
   simp only [qd,List.not_mem_nil,or_false] at hf;rcases hf with rfl | rfl | rfl | rfl
   ·exact Option.isSome_iff_exists.2 ⟨_,zDW⟩
   ·exact Option.isSome_iff_exists.2 ⟨_,z23⟩
   ·exact Option.isSome_iff_exists.2 ⟨_,z28⟩
   ·exact Option.isSome_iff_exists.2 ⟨_,z4e⟩⟩⟩
 ·exact ⟨Tryz.t39,_,_,zbds,underlying39,rfl,rfl,rfl,rfl,rfl,⟨by simp [zbC],λ_=>rfl⟩,rfl⟩
 ·exact ⟨Tryz.t50,_,_,zbc5,underlying50,rfl,rfl,rfl,rfl,rfl,⟨by simp [zbC],λ_=>rfl⟩,rfl⟩
 ·exact ⟨Tryz.t51,_,_,zZg,underlying51,rfl,rfl,rfl,rfl,rfl,⟨by simp [zbC],λ_=>rfl⟩,rfl⟩
 ·exact ⟨Tryz.t54,_,_,zbdQ,underlying54,rfl,rfl,rfl,rfl,rfl,⟨by simp [zbC],λh=>by cases h⟩,⟨_,rfl,rfl,λf hf=>by
   simp only [qd,List.not_mem_nil,or_false] at hf;rcases hf with rfl | rfl
   ·exact Option.isSome_iff_exists.2 ⟨_,z9b⟩
   ·exact Option.isSome_iff_exists.2 ⟨_,zZg⟩⟩⟩
 ·exact ⟨Tryz.t60,_,_,zbdR,underlying60,rfl,rfl,rfl,rfl,rfl,⟨by simp [zbC],λ_=>rfl⟩,rfl⟩
 ·exact ⟨Tryz.t63,_,_,z3h,underlying63,rfl,rfl,rfl,rfl,rfl,⟨by simp [zbC],λh=>by cases h⟩,⟨_,rfl,rfl,λf hf=>by
   simp only [qd,List.not_mem_nil,or_false] at hf;rcases hf with rfl | rfl
   ·exact Option.isSome_iff_exists.2 ⟨_,zDW⟩
   ·exact Option.isSome_iff_exists.2 ⟨_,zDW⟩⟩⟩
 ·exact ⟨Tryz.t65,_,_,zbdm,underlying65,rfl,rfl,rfl,rfl,rfl,⟨by simp [zbC],λh=>by cases h⟩,⟨_,rfl,rfl,λf hf=>by
   simp only [qd,List.not_mem_nil,or_false] at hf;rcases hf with rfl | rfl
   ·exact Option.isSome_iff_exists.2 ⟨_,z3h⟩
   ·exact Option.isSome_iff_exists.2 ⟨_,zZg⟩⟩⟩
 ·exact ⟨Tryz.t69,_,_,zbdg,underlying69,rfl,rfl,rfl,rfl,rfl,⟨by simp [zbC],λ_=>rfl⟩,rfl⟩
 ·exact ⟨Tryz.t73,_,_,zbc1,underlying73,rfl,rfl,rfl,rfl,rfl,⟨by simp [zbC],λ_=>rfl⟩,rfl⟩
 ·exact ⟨Tryz.t75,_,_,z86,underlying75,rfl,rfl,rfl,rfl,rfl,⟨by simp [zbC],λh=>by cases h⟩,⟨_,rfl,rfl,λf hf=>by
   simp only [qd,List.not_mem_nil,or_false] at hf;rcases hf with rfl | rfl
   ·exact Option.isSome_iff_exists.2 ⟨_,z23⟩
   ·exact Option.isSome_iff_exists.2 ⟨_,zDW⟩⟩⟩
 ·exact ⟨Tryz.t79,_,_,zYj,underlying79,rfl,rfl,rfl,rfl,rfl,⟨by simp [zbC],λh=>by cases h⟩,⟨_,rfl,rfl,λf hf=>by
   simp only [qd,List.not_mem_nil,or_false] at hf;rcases hf with rfl | rfl | rfl
   ·exact Option.isSome_iff_exists.2 ⟨_,zDW⟩
   ·exact Option.isSome_iff_exists.2 ⟨_,z7l⟩
   ·exact Option.isSome_iff_exists.2 ⟨_,z23⟩⟩⟩
 ·exact ⟨Tryz.t105,_,_,z6g,underlying105,rfl,rfl,rfl,rfl,rfl,⟨by simp [zbC],λ_=>rfl⟩,rfl⟩
 ·exact ⟨Tryz.t107,_,_,zbbI,underlying107,rfl,rfl,rfl,rfl,rfl,⟨by simp [zbC],λh=>by cases h⟩,⟨_,rfl,rfl,λf hf=>by
   simp only [qd,List.not_mem_nil,or_false] at hf;rcases hf with rfl | rfl
   ·exact Option.isSome_iff_exists.2 ⟨_,z7l⟩
   ·exact Option.isSome_iff_exists.2 ⟨_,z6g⟩⟩⟩
 ·exact ⟨Tryz.t110,_,_,z56,underlying110,rfl,rfl,rfl,rfl,rfl,⟨by simp [zbC],λ_=>rfl⟩,rfl⟩
 ·exact ⟨Tryz.t120,_,_,zbbN,underlying120,rfl,rfl,rfl,rfl,rfl,⟨by simp [zbC],λ_=>rfl⟩,rfl⟩
 ·exact ⟨Tryz.t135,_,_,zbce,underlying135,rfl,rfl,rfl,rfl,rfl,⟨by simp [zbC],λ_=>rfl⟩,rfl⟩
 ·exact ⟨Tryz.t137,_,_,zbbE,underlying137,rfl,rfl,rfl,rfl,rfl,⟨by simp [zbC],λh=>by cases h⟩,⟨_,rfl,rfl,λf hf=>by
   simp only [qd,List.not_mem_nil,or_false] at hf;rcases hf with rfl | rfl
   ·exact Option.isSome_iff_exists.2 ⟨_,z86⟩
   ·exact Option.isSome_iff_exists.2 ⟨_,zYj⟩⟩⟩
 ·exact ⟨Tryz.t141,_,_,z6P,underlying141,rfl,rfl,rfl,rfl,rfl,⟨by simp [zbC],λ_=>rfl⟩,rfl⟩
 ·exact ⟨Tryz.t143,_,_,z6w,underlying143,rfl,rfl,rfl,rfl,rfl,⟨by simp [zbC],λh=>by cases h⟩,⟨_,rfl,rfl,λf hf=>by
   simp only [qd,List.not_mem_nil,or_false] at hf;rcases hf with rfl | rfl | rfl | rfl | rfl | rfl | rfl
   ·exact Option.isSome_iff_exists.2 ⟨_,zDW⟩
   ·exact Option.isSome_iff_exists.2 ⟨_,z3h⟩
   ·exact Option.isSome_iff_exists.2 ⟨_,z56⟩
   ·exact Option.isSome_iff_exists.2 ⟨_,zDW⟩
   ·exact Option.isSome_iff_exists.2 ⟨_,z6P⟩
   ·exact Option.isSome_iff_exists.2 ⟨_,zDW⟩
   ·exact Option.isSome_iff_exists.2 ⟨_,zYj⟩⟩⟩
 ·exact ⟨Tryz.t145,_,_,zbcm,underlying145,rfl,rfl,rfl,rfl,rfl,⟨by simp [zbC],λh=>by cases h⟩,⟨_,rfl,rfl,λf hf=>by
   simp only [qd,List.not_mem_nil,or_false] at hf;rcases hf with rfl | rfl
   ·exact Option.isSome_iff_exists.2 ⟨_,z6w⟩
   ·exact Option.isSome_iff_exists.2 ⟨_,zDW⟩⟩⟩
 ·exact ⟨Tryz.t155,_,_,zbbz,underlying155,rfl,rfl,rfl,rfl,rfl,⟨by simp [zbC],λ_=>rfl⟩,rfl⟩
 ·exact ⟨Tryz.t169,_,_,zbcj,underlying169,rfl,rfl,rfl,rfl,rfl,⟨by simp [zbC],λh=>by cases h⟩,⟨_,rfl,rfl,λf hf=>by
   simp only [qd,List.not_mem_nil,or_false] at hf;rcases hf with rfl | rfl
   ·exact Option.isSome_iff_exists.2 ⟨_,zYj⟩
   ·exact Option.isSome_iff_exists.2 ⟨_,zZg⟩⟩⟩
 ·exact ⟨Tryz.t207,_,_,zbbi,underlying207,rfl,rfl,rfl,rfl,rfl,⟨by simp [zbC],λ_=>rfl⟩,rfl⟩
 ·exact ⟨Tryz.t218,_,_,zbcb,underlying218,rfl,rfl,rfl,rfl,rfl,⟨by simp [zbC],λ_=>rfl⟩,rfl⟩
 ·exact ⟨Tryz.t223,_,_,zbcg,underlying223,rfl,rfl,rfl,rfl,rfl,⟨by simp [zbC],λ_=>rfl⟩,rfl⟩
 ·exact ⟨Tryz.t234,_,_,zbch,underlying234,rfl,rfl,rfl,rfl,rfl,⟨by simp [zbC],λ_=>rfl⟩,rfl⟩
 ·exact ⟨Tryz.t282,_,_,zbcr,underlying282,rfl,rfl,rfl,rfl,rfl,⟨by simp [zbC],λ_=>rfl⟩,rfl⟩
theorem zbaB:∀ T us vs b,(match zUU.lookup T with | some ts=>zbe ts us vs | none=>none)=some b->∀ w,z68 Tryz.prog T us vs b w:=by
 intro T us vs b h w;split at h
 ·rename_i ts hl;have hl:=zGh _ _ _ hl;simp only [zUU,qd,List.not_mem_nil,or_false,qb] at hl;rcases hl with ⟨rfl,rfl⟩ | ⟨rfl,rfl⟩ | ⟨rfl,rfl⟩
  ·refine zQh _ _ underlying75 (by kernel_rfl) (by kernel_rfl) rfl ?_ h w
   intro j f t hj ht;rcases j with _ | j
   ·simp at hj ht; subst hj ht; exact ⟨rfl,by decide,_,underlying9,rfl⟩
   rcases j with _ | j
   ·simp at hj ht; subst hj ht; exact ⟨rfl,by decide,_,underlying3,rfl⟩
   simp at hj
  ·refine zQh _ _ underlying79 (by kernel_rfl) (by kernel_rfl) rfl ?_ h w
   intro j f t hj ht;rcases j with _ | j
   ·simp at hj ht; subst hj ht; exact ⟨rfl,by decide,_,underlying3,rfl⟩
   rcases j with _ | j
   ·simp at hj ht; subst hj ht; exact ⟨rfl,by decide,_,underlying2,rfl⟩
   rcases j with _ | j
   ·simp at hj ht; subst hj ht; exact ⟨rfl,by decide,_,underlying9,rfl⟩
   simp at hj
  ·refine zQh _ _ underlying63 (by kernel_rfl) (by kernel_rfl) rfl ?_ h w
   intro j f t hj ht;rcases j with _ | j
   ·simp at hj ht; subst hj ht; exact ⟨rfl,by decide,_,underlying3,rfl⟩
   rcases j with _ | j
   ·simp at hj ht; subst hj ht; exact ⟨rfl,by decide,_,underlying3,rfl⟩
   simp at hj
 ·cases h
theorem zbay:∀ T us vs,base.eqs T us us=some true->base.eqs T vs vs=some true->base.eqs T us vs=some (zwd us vs)/\(zwd us vs=true->us=vs)/\∀ u∈us,∀ n,Instr.sameBits n u u=true:=by
 intro T us vs h1 h2;simp only [base] at h1 h2 ⊢;cases hl:zUU.lookup T with
 | none=>rw [hl] at h1; cases h1
 | some ts=>rw [hl] at h1 h2; exact zYR ts us vs h1 h2
theorem z97:∀ T us b,base.eqs T us us=some b->b=true:=by
 intro T us b h;simp only [base] at h;cases hl:zUU.lookup T with
 | none=>rw [hl] at h; cases h
 | some ts=>rw [hl] at h; exact zV9 ts us b h
abbrev SdP:=Sound Tryz.prog base
theorem ze1:CxOK Tryz.prog base:=⟨zbb2,λT x=>by rw [show zq base T=_ from (z43 zYY z2Z rfl T).symm]; exact DT.len _ x,λT x c h=>by have:=DT.cell _ _ c h; revert this; cases c <;>exact id,λT cs x h F w us hr=>DT.ok _ base F w us cs x h hr,zbaB,zbay,z97,z7B⟩
def zbE:Cx ty:={ base with dr:=false }
theorem zPp:CxOK Tryz.prog zbE:=CxOK.cg (cx:=base) (cx':=zbE) ⟨rfl,rfl,rfl,rfl,rfl,rfl⟩ ze1
theorem zzP:Tryz.prog.follows .mixedOrders=true:=by kernel_rfl
theorem sT {cx':Cx ty} {α ρ:Type} (hspec:∀ g s,cx'.spec g=some s->SdP g s) {f:Nat} {fn:Func} (hent:∀ args w,(callFunc f args).run Tryz.prog w=.ok (.enter f args) w) (hf:Tryz.prog.funcs[f]? =some fn) (hl:zit cx' (body fn)) (sg:Sig:=⟨[.pure],[]⟩) {A:AL base α} {res:ρ->ARes ty} {W:α->Wy0 ρ} {z:ρ}
  (hb:fn.body=some (body fn):=by kernel_rfl)
  (hrun:∀ x,zet cx' fn (body fn) sg (A.enc x)=(W x).ev noH (λr=>some (res r)) none:=by intro _; kernel_rfl)
  (hchk:∀ x,(Nat.ble (A.enc x).length fn.ntmps&&zJw (body fn) (A.enc x) sg.upd)=true:=by intro _; kernel_rfl) (hsame:base.Same cx':=by exact z4L):
  SdP f (zh A λx=>(((W x).fin z).1,res ((W x).fin z).2)):=sW zzP ze1 hsame hspec hent hf hl sg hb hrun hchk
theorem sU {cx':Cx ty} {α ρ:Type} (hspec:∀ g s,cx'.spec g=some s->Sound Tryz.prog zbE g s) {f:Nat} {fn:Func} (hent:∀ args w,(callFunc f args).run Tryz.prog w=.ok (.enter f args) w) (hf:Tryz.prog.funcs[f]? =some fn) (hl:zit cx' (body fn)) (sg:Sig:=⟨[.pure],[]⟩) {A:AL zbE α} {res:ρ->ARes ty} {W:α->Wy0 ρ} {z:ρ}
  (hb:fn.body=some (body fn):=by kernel_rfl)
  (hrun:∀ x,zet cx' fn (body fn) sg (A.enc x)=(W x).ev noH (λr=>some (res r)) none:=by intro _; kernel_rfl)
  (hchk:∀ x,(Nat.ble (A.enc x).length fn.ntmps&&zJw (body fn) (A.enc x) sg.upd)=true:=by intro _; kernel_rfl) (hsame:zbE.Same cx':=by exact z4L):
  Sound Tryz.prog zbE f (zh A λx=>(((W x).fin z).1,res ((W x).fin z).2)):=sW zzP zPp hsame hspec hent hf hl sg hb hrun hchk
end Go.Proofs.YtoknknbmfmddbaaGreatDoor
/- What is read of an argument, as typed data. -/
namespace Go.Proofs.YtoknknbmfmddbaaGreatDoor
open Go Go.Ab
open Go.Proofs.Tryz
def wf2 (x:Int):Prop:=(Lit.int .i64 x).wf=true
def wf3 (x:Int):Prop:=(Lit.int .i64 x).wf=true
def wf4 (x:Bool):Prop:=True
def wf5 (x:Int):Prop:=(Lit.int .u8 x).wf=true
def wf9 (x:ByteArray):Prop:=ByteArray.size x<=zX
def zbcQ (x:Column):Prop:=wf9 x.Name/\wf3 x.Type_
def zbcG (x:yH):Prop:=(∀ y∈x,zbcQ y)/\List.length x<=zX
def zMF (x:Value):Prop:=wf3 x.Kind/\wf2 x.Int/\wf9 x.Text
def zbaH (x:yG):Prop:=(∀ y∈x,zMF y)/\List.length x<=zX
def zWL (x:RowID):Prop:=wf3 x.Table/\wf3 x.Seq
mutual
def zgz:At->Prop
 | ⟨k,r,a,f,i,o,b⟩=>wf3 k/\zWL r/\(zv5 a/\a.length<=zX)/\wf3 f/\(zr2 i/\i.length<=zX)/\wf3 o/\zMF b
def zvE:Fc->Prop
 | ⟨a,e⟩=>zgz a/\wf3 e
def zsH:yC->Prop
 | []=>True
 | x::r=>zvE x/\zsH r
def zzr:Term->Prop
 | ⟨c,f⟩=>wf2 c/\(zsH f/\f.length<=zX)
def zgC:yB->Prop
 | []=>True
 | x::r=>zzr x/\zgC r
def zv5:yA->Prop
 | []=>True
 | x::r=>(zgC x/\x.length<=zX)/\zv5 r
def zEW:Wd->Prop
 | ⟨v,a⟩=>zMF v/\(zgC a/\a.length<=zX)
def zr2:yD->Prop
 | []=>True
 | x::r=>zEW x/\zr2 r
end
theorem zIY:∀ l:yC,(∀ x∈l,zvE x)->zsH l
 | [],_=>by unfold zsH; trivial
 | x::r,h=>by unfold zsH; exact ⟨h x (by simp),zIY r λy hy=>h y (by simp [hy])⟩
theorem zDn:∀ l:yB,(∀ x∈l,zzr x)->zgC l
 | [],_=>by unfold zgC; trivial
 | x::r,h=>by unfold zgC; exact ⟨h x (by simp),zDn r λy hy=>h y (by simp [hy])⟩
theorem zUb:∀ l:yA,(∀ x∈l,zgC x/\x.length<=zX)->zv5 l
 | [],_=>by unfold zv5; trivial
 | x::r,h=>by unfold zv5; exact ⟨h x (by simp),zUb r λy hy=>h y (by simp [hy])⟩
theorem zPn:∀ l:yD,(∀ x∈l,zEW x)->zr2 l
 | [],_=>by unfold zr2; trivial
 | x::r,h=>by unfold zr2; exact ⟨h x (by simp),zPn r λy hy=>h y (by simp [hy])⟩
def z3C (x:yB):Prop:=zgC x/\List.length x<=zX
def zben (x:yC):Prop:=zsH x/\List.length x<=zX
def zbd9 (x:Term):Prop:=zzr x
def zbep (x:yA):Prop:=zv5 x/\List.length x<=zX
def zbel (x:yD):Prop:=zr2 x/\List.length x<=zX
def zbew (x:At):Prop:=zgz x
def zbeB (x:Fc):Prop:=zvE x
def zbey (x:Wd):Prop:=zEW x
def zbaq (x:Row):Prop:=zbaH x.Values/\z3C x.Ann
def zbcE (x:yF):Prop:=(∀ y∈x,zbaq y)/\List.length x<=zX
def z78 (x:Relation):Prop:=zbcG x.Columns/\zbcE x.Rows
def zbeR (x:List (yG)):Prop:=(∀ y∈x,zbaH y)/\List.length x<=zX
def zbcT (x:Bg):Prop:=zWL x.Row/\z3C x.To
def zbeS (x:yE):Prop:=(∀ y∈x,zbcT y)/\List.length x<=zX
def wf (T:Nat):ty T->Prop:=match T with
 | 2=>wf2
 | 3=>wf3
 | 4=>wf4
 | 5=>wf5
 | 9=>wf9
 | 22=>zbcG
 | 23=>zbcE
 | 25=>z78
 | 32=>zbeR
 | 34=>zbaH
 | 51=>z3C
 | 54=>zbaq
 | 60=>zbeS
 | 63=>zWL
 | 65=>zbcT
 | 75=>zbcQ
 | 79=>zMF
 | 105=>zben
 | 107=>zbd9
 | 110=>zbep
 | 141=>zbel
 | 143=>zbew
 | 145=>zbeB
 | 169=>zbey
 | _=>λ_=>True
theorem z8u:zln Tryz.prog base wf 2:=zSB underlying2 (λn=>n) (λ_=>rfl) (λ_ h=>h)
theorem zEL:zln Tryz.prog base wf 3:=zSB underlying3 (λn=>n) (λ_=>rfl) (λ_ h=>h)
theorem zbdh:zln Tryz.prog base wf 5:=zSB underlying5 (λn=>n) (λ_=>rfl) (λ_ h=>h)
theorem z8v:zln Tryz.prog base wf 9:=z9n underlying9 (λn=>n) (λ_=>rfl) (λ_ h=>h)
theorem zbco:zln Tryz.prog base wf 75:=by
 intro H en w sp held fuel cs y h hz;obtain ⟨xs,n,_,hy,hl,hlen,hf⟩:=DataW.trod_struct underlying75 h;have hs:=zis underlying75 hy hz;obtain ⟨x0,h0,w0⟩:=zjg (off:=0) z8v (by kernel_rfl) hlen hf hs 0 _ rfl rfl rfl
 obtain ⟨x1,h1,w1⟩:=zjg (off:=1) zEL (by kernel_rfl) hlen hf hs 1 _ rfl rfl rfl
 have hl:cs.length=2:=hl.trans (by kernel_rfl)
 have:=zf6 h0 (zvA h1 hl);exact ⟨(⟨x0,x1⟩:Column),this,⟨w0,w1⟩⟩
theorem zbcx:zln Tryz.prog base wf 22:=zMj ze1 underlying22 (by kernel_rfl) (by decide) (λl=>l) (λ_=>rfl) (of_decide_eq_true (by kernel_rfl)) zbco (λ_ h h2=>⟨h,h2⟩)
theorem z0p:zln Tryz.prog base wf 79:=by
 intro H en w sp held fuel cs y h hz;obtain ⟨xs,n,_,hy,hl,hlen,hf⟩:=DataW.trod_struct underlying79 h;have hs:=zis underlying79 hy hz;obtain ⟨x0,h0,w0⟩:=zjg (off:=0) zEL (by kernel_rfl) hlen hf hs 0 _ rfl rfl rfl
 obtain ⟨x1,h1,w1⟩:=zjg (off:=1) z8u (by kernel_rfl) hlen hf hs 1 _ rfl rfl rfl
 obtain ⟨x2,h2,w2⟩:=zjg (off:=2) z8v (by kernel_rfl) hlen hf hs 2 _ rfl rfl rfl
 have hl:cs.length=3:=hl.trans (by kernel_rfl)
 have:=zf6 h0 (zf6 h1 (zvA h2 hl));exact ⟨(⟨x0,x1,x2⟩:Value),this,⟨w0,w1,w2⟩⟩
theorem zbbh:zln Tryz.prog base wf 34:=zMj ze1 underlying34 (by kernel_rfl) (by decide) (λl=>l) (λ_=>rfl) (of_decide_eq_true (by kernel_rfl)) z0p (λ_ h h2=>⟨h,h2⟩)
theorem zbbc:zln Tryz.prog base wf 63:=by
 intro H en w sp held fuel cs y h hz;obtain ⟨xs,n,_,hy,hl,hlen,hf⟩:=DataW.trod_struct underlying63 h;have hs:=zis underlying63 hy hz;obtain ⟨x0,h0,w0⟩:=zjg (off:=0) zEL (by kernel_rfl) hlen hf hs 0 _ rfl rfl rfl
 obtain ⟨x1,h1,w1⟩:=zjg (off:=1) zEL (by kernel_rfl) hlen hf hs 1 _ rfl rfl rfl
 have hl:cs.length=2:=hl.trans (by kernel_rfl)
 have:=zf6 h0 (zvA h1 hl);exact ⟨(⟨x0,x1⟩:RowID),this,⟨w0,w1⟩⟩
theorem z3m:∀ m,zsR Tryz.prog base wf m 51/\zsR Tryz.prog base wf m 105/\zsR Tryz.prog base wf m 107/\zsR Tryz.prog base wf m 110/\zsR Tryz.prog base wf m 141/\zsR Tryz.prog base wf m 143/\zsR Tryz.prog base wf m 145/\zsR Tryz.prog base wf m 169
 | 0=>⟨zps,zps,zps,zps,zps,zps,zps,zps⟩
 | m+1=>by
  obtain ⟨h51,h105,h107,h110,h141,h143,h145,h169⟩:=z3m m;refine ⟨?_, ?_, ?_, ?_, ?_, ?_, ?_, ?_⟩
  ·exact zya ze1 underlying51 (by kernel_rfl) (by decide) (λl=>l) (λ_=>rfl) (of_decide_eq_true (by kernel_rfl)) h107 (λl h h2=>⟨zDn l h,h2⟩)
  ·exact zya ze1 underlying105 (by kernel_rfl) (by decide) (λl=>l) (λ_=>rfl) (of_decide_eq_true (by kernel_rfl)) h145 (λl h h2=>⟨zIY l h,h2⟩)
  ·intro H en w sp held fuel cs y hfu h hz;obtain ⟨xs,n,hn,hy,hl,hlen,hf⟩:=DataW.trod_struct underlying107 h;have hs:=zis underlying107 hy hz;have hn:n<=m:=by omega
   obtain ⟨x0,hx0,w0⟩:=zfx (off:=0) (z8u.at m) (by kernel_rfl) hn hlen hf hs 0 _ rfl rfl rfl
   obtain ⟨x1,hx1,w1⟩:=zfx (off:=1) h105 (by kernel_rfl) hn hlen hf hs 1 _ rfl rfl rfl
   have hl:cs.length=2:=hl.trans (by kernel_rfl)
   have:=zf6 hx0 (zvA hx1 hl);exact ⟨(⟨x0,x1⟩:Term),this,by show zzr (⟨x0,x1⟩:Term); unfold zzr; exact ⟨w0,w1⟩⟩
  ·exact zya ze1 underlying110 (by kernel_rfl) (by decide) (λl=>l) (λ_=>rfl) (of_decide_eq_true (by kernel_rfl)) h51 (λl h h2=>⟨zUb l h,h2⟩)
  ·exact zya ze1 underlying141 (by kernel_rfl) (by decide) (λl=>l) (λ_=>rfl) (of_decide_eq_true (by kernel_rfl)) h169 (λl h h2=>⟨zPn l h,h2⟩)
  ·intro H en w sp held fuel cs y hfu h hz;obtain ⟨xs,n,hn,hy,hl,hlen,hf⟩:=DataW.trod_struct underlying143 h;have hs:=zis underlying143 hy hz;have hn:n<=m:=by omega
   obtain ⟨x0,hx0,w0⟩:=zfx (off:=0) (zEL.at m) (by kernel_rfl) hn hlen hf hs 0 _ rfl rfl rfl
   obtain ⟨x1,hx1,w1⟩:=zfx (off:=1) (zbbc.at m) (by kernel_rfl) hn hlen hf hs 1 _ rfl rfl rfl
   obtain ⟨x2,hx2,w2⟩:=zfx (off:=3) h110 (by kernel_rfl) hn hlen hf hs 2 _ rfl rfl rfl
   obtain ⟨x3,hx3,w3⟩:=zfx (off:=4) (zEL.at m) (by kernel_rfl) hn hlen hf hs 3 _ rfl rfl rfl
   obtain ⟨x4,hx4,w4⟩:=zfx (off:=5) h141 (by kernel_rfl) hn hlen hf hs 4 _ rfl rfl rfl
   obtain ⟨x5,hx5,w5⟩:=zfx (off:=6) (zEL.at m) (by kernel_rfl) hn hlen hf hs 5 _ rfl rfl rfl
   obtain ⟨x6,hx6,w6⟩:=zfx (off:=7) (z0p.at m) (by kernel_rfl) hn hlen hf hs 6 _ rfl rfl rfl
   have hl:cs.length=10:=hl.trans (by kernel_rfl)
   have:=zf6 hx0 (zf6 hx1 (zf6 hx2 (zf6 hx3 (zf6 hx4 (zf6 hx5 (zvA hx6 hl))))));exact ⟨(⟨x0,x1,x2,x3,x4,x5,x6⟩:At),this,by show zgz (⟨x0,x1,x2,x3,x4,x5,x6⟩:At); unfold zgz; exact ⟨w0,w1,w2,w3,w4,w5,w6⟩⟩
  ·intro H en w sp held fuel cs y hfu h hz;obtain ⟨xs,n,hn,hy,hl,hlen,hf⟩:=DataW.trod_struct underlying145 h;have hs:=zis underlying145 hy hz;have hn:n<=m:=by omega
   obtain ⟨x0,hx0,w0⟩:=zfx (off:=0) h143 (by kernel_rfl) hn hlen hf hs 0 _ rfl rfl rfl
   obtain ⟨x1,hx1,w1⟩:=zfx (off:=10) (zEL.at m) (by kernel_rfl) hn hlen hf hs 1 _ rfl rfl rfl
   have hl:cs.length=11:=hl.trans (by kernel_rfl)
   have:=zf6 hx0 (zvA hx1 hl);exact ⟨(⟨x0,x1⟩:Fc),this,by show zvE (⟨x0,x1⟩:Fc); unfold zvE; exact ⟨w0,w1⟩⟩
  ·intro H en w sp held fuel cs y hfu h hz;obtain ⟨xs,n,hn,hy,hl,hlen,hf⟩:=DataW.trod_struct underlying169 h;have hs:=zis underlying169 hy hz;have hn:n<=m:=by omega
   obtain ⟨x0,hx0,w0⟩:=zfx (off:=0) (z0p.at m) (by kernel_rfl) hn hlen hf hs 0 _ rfl rfl rfl
   obtain ⟨x1,hx1,w1⟩:=zfx (off:=3) h51 (by kernel_rfl) hn hlen hf hs 1 _ rfl rfl rfl
   have hl:cs.length=4:=hl.trans (by kernel_rfl)
   have:=zf6 hx0 (zvA hx1 hl);exact ⟨(⟨x0,x1⟩:Wd),this,by show zEW (⟨x0,x1⟩:Wd); unfold zEW; exact ⟨w0,w1⟩⟩
theorem zbbo:zln Tryz.prog base wf 51:=z9e λm=>(z3m m).1
theorem zbb9:zln Tryz.prog base wf 54:=by
 intro H en w sp held fuel cs y h hz;obtain ⟨xs,n,_,hy,hl,hlen,hf⟩:=DataW.trod_struct underlying54 h;have hs:=zis underlying54 hy hz;obtain ⟨x0,h0,w0⟩:=zjg (off:=0) zbbh (by kernel_rfl) hlen hf hs 0 _ rfl rfl rfl
 obtain ⟨x1,h1,w1⟩:=zjg (off:=1) zbbo (by kernel_rfl) hlen hf hs 1 _ rfl rfl rfl
 have hl:cs.length=2:=hl.trans (by kernel_rfl)
 have:=zf6 h0 (zvA h1 hl);exact ⟨(⟨x0,x1⟩:Row),this,⟨w0,w1⟩⟩
theorem zbbk:zln Tryz.prog base wf 23:=zMj ze1 underlying23 (by kernel_rfl) (by decide) (λl=>l) (λ_=>rfl) (of_decide_eq_true (by kernel_rfl)) zbb9 (λ_ h h2=>⟨h,h2⟩)
theorem zbbF:zln Tryz.prog base wf 25:=by
 intro H en w sp held fuel cs y h hz;obtain ⟨xs,n,_,hy,hl,hlen,hf⟩:=DataW.trod_struct underlying25 h;have hs:=zis underlying25 hy hz;obtain ⟨x0,h0,w0⟩:=zjg (off:=0) zbcx (by kernel_rfl) hlen hf hs 0 _ rfl rfl rfl
 obtain ⟨x1,h1,w1⟩:=zjg (off:=1) zbbk (by kernel_rfl) hlen hf hs 1 _ rfl rfl rfl
 have hl:cs.length=2:=hl.trans (by kernel_rfl)
 have:=zf6 h0 (zvA h1 hl);exact ⟨(⟨x0,x1⟩:Relation),this,⟨w0,w1⟩⟩
def z1S:=zbM base 8 []
def zT1 (x_:At):Wy0 (yB):=.k [TO.mk 1 [FO.mk (At.mk x_.Kind x_.Row x_.Ag x_.Func x_.Items x_.Op x_.Bd) 1]]
def zmd (x_:At):=(zT1 x_).fin default
def z0A (r:yB):ARes ty:=⟨[.own 107 r],[]⟩
def z3p:AL base (At×Unit):=zf (zg (zcT 143)) zA
def zK5:=zh z3p λx=>((zmd x.1).1,z0A (zmd x.1).2)
theorem zXe:SdP 118 zK5:=
 sT (cx':=z1S) (zk trivial) call118 func118 (lOK aN) (sg:=⟨[.own 107],[]⟩)
def z44:=zbM base 14 [(118,zK5)]
def zWB (id:RowID):Wy0 (yB):=.i (decide (id.Table<1)) (.k []) (.i (decide (id.Seq<1)) (.k []) (.k ((zmd (At.mk 0 id [] 0 [] 0 (Value.mk 0 0 (ByteArray.mk #[])))).2)))
def zFf (id:RowID):=(zWB id).fin default
def z5r:AL base (RowID×Unit):=zf (zg (zcT 63)) zA
def zOm:=zh z5r λx=>((zFf x.1).1,z0A (zFf x.1).2)
theorem zYy:SdP 64 zOm:=
 sT (cx':=z44) (zk ⟨zXe,trivial⟩) call64 func64 (lOK aN) (sg:=⟨[.own 107],[]⟩)
def zUh:=zbM base 11 [(64,zOm)]
def zVO (v:Value) (seq:Int):Wy0 (Row):=.bn (zFf (RowID.mk 1 seq)) λr0=>.k (⟨[v],r0⟩:Row)
def zsW (v:Value) (seq:Int):=(zVO v seq).fin default
def zSx (r:Row):ARes ty:=⟨[.pure (.agg (base.enc 54 r))],[]⟩
def zVt:AL base (Value×Int×Unit):=zf (zg (zcT 79)) (zf (zg ziU) zA)
def zBU:=zh zVt λx=>((zsW x.1 x.2.1).1,zSx (zsW x.1 x.2.1).2)
theorem zNU:SdP 86 zBU:=
 sT (cx':=zUh) (zk ⟨zYy,trivial⟩) call86 func86 (lOK aN)
def zY3:=zbM base 19 [(86,zBU)]
def z0G:Wy0 (Relation):=.k (⟨[Column.mk (ByteArray.mk #[(97:UInt8)]) 0],[(zsW (Value.mk 0 1 (ByteArray.mk #[])) 1).2,(zsW (Value.mk 0 0 (ByteArray.mk #[])) 2).2,(zsW (Value.mk 0 1 (ByteArray.mk #[])) 3).2]⟩:Relation)
def zUk:Bool×Relation:=(z0G).fin default
def zW6 (r:Relation):ARes ty:=⟨[.pure (.agg (base.enc 25 r))],[]⟩
def zZP:AL base (Unit):=zA
def zGE:=zh zZP λx=>((zUk ).1,zW6 (zUk ).2)
theorem zUt:SdP 42 zGE:=
 sT (cx':=zY3) (zk ⟨zNU,trivial⟩) call42 func42 (lOK aN)
def zMi (r:Int):ARes ty:=⟨[.pure (.lit (.int .i64 r))],[]⟩
def zPj:AL base (yB×yB×Unit):=zf (zg (vSl 107)) (zf (zg (vSl 107)) zA)
def zej (F:yB->yB->Bool×Int):Ab.Spec ty:=zh zPj λx=>((F x.1 x.2.1).1,zMi (F x.1 x.2.1).2)
def zKA:AL base (Term×Term×Unit):=zf (zg (zcT 107)) (zf (zg (zcT 107)) zA)
def zf2 (F:Term->Term->Bool×Int):Ab.Spec ty:=zh zKA λx=>((F x.1 x.2.1).1,zMi (F x.1 x.2.1).2)
def zEJ:AL base (Fc×Fc×Unit):=zf (zg (zcT 145)) (zf (zg (zcT 145)) zA)
def zeC (F:Fc->Fc->Bool×Int):Ab.Spec ty:=zh zEJ λx=>((F x.1 x.2.1).1,zMi (F x.1 x.2.1).2)
def zHL:AL base (At×At×Unit):=zf (zg (zcT 143)) (zf (zg (zcT 143)) zA)
def zhd (F:At->At->Bool×Int):Ab.Spec ty:=zh zHL λx=>((F x.1 x.2.1).1,zMi (F x.1 x.2.1).2)
def zG9:AL base (Wd×Wd×Unit):=zf (zg (zcT 169)) (zf (zg (zcT 169)) zA)
def zeh (F:Wd->Wd->Bool×Int):Ab.Spec ty:=zh zG9 λx=>((F x.1 x.2.1).1,zMi (F x.1 x.2.1).2)
def ziQ:AL base (yB×yB×Unit×Unit):=zf (zg (vSl 107)) (zf (zg (vSl 107)) (zf (zg (vFn 225 zc6)) zA))
def zbQ (F:yB->yB->Bool×Int):Ab.Spec ty:=zh ziQ λx=>((F x.1 x.2.1).1,zMi (F x.1 x.2.1).2)
def zjo:AL base (yC×yC×Unit×Unit):=zf (zg (vSl 145)) (zf (zg (vSl 145)) (zf (zg (vFn 166 zc6)) zA))
def zbT (F:yC->yC->Bool×Int):Ab.Spec ty:=zh zjo λx=>((F x.1 x.2.1).1,zMi (F x.1 x.2.1).2)
def zfR:AL base (yA×yA×Unit×Unit):=zf (zg (vSl 51)) (zf (zg (vSl 51)) (zf (zg (vFn 170 zc6)) zA))
def zbj (F:yA->yA->Bool×Int):Ab.Spec ty:=zh zfR λx=>((F x.1 x.2.1).1,zMi (F x.1 x.2.1).2)
def zho:AL base (yD×yD×Unit×Unit):=zf (zg (vSl 169)) (zf (zg (vSl 169)) (zf (zg (vFn 172 zc6)) zA))
def zbG (F:yD->yD->Bool×Int):Ab.Spec ty:=zh zho λx=>((F x.1 x.2.1).1,zMi (F x.1 x.2.1).2)
def zKI (zJ:yB->yB->Bool×Int) (zK:Term->Term->Bool×Int):=zbM base 8 [(224,(zbQ zJ)),(225,(zf2 zK))]
def zzH (zJ:yB->yB->Bool×Int) (zK:Term->Term->Bool×Int) (a:yB) (b:yB):Wy0 (Int):=.bn (zJ a b) λr0=>.k r0
def zo4 (zJ:yB->yB->Bool×Int) (zK:Term->Term->Bool×Int) (a:yB) (b:yB):=(zzH zJ zK a b).fin default
theorem zF1 (zJ:yB->yB->Bool×Int) (zK:Term->Term->Bool×Int) (zix:SdP 224 (zbQ zJ)) (zoY:SdP 225 (zf2 zK)):SdP 170 (zej (zo4 zJ zK)):=
 sT (cx':=(zKI zJ zK)) (zk ⟨zix,zoY,trivial⟩) call170 func170 (lOK aN)
def zT6:=zbM base 6 []
def zGD (x_:Int):Wy0 (Bool):=.k (x_ != x_)
def znm (x_:Int):=(zGD x_).fin default
def zRy (r:Bool):ARes ty:=⟨[.pure (.lit (.bool r))],[]⟩
def zVs:AL base (Int×Unit):=zf (zg ziU) zA
def zBz:=zh zVs λx=>((znm x.1).1,zRy (znm x.1).2)
theorem zNl:SdP 232 zBz:=
 sT (cx':=zT6) (zk trivial) call232 func232 (lOK aN)
def zPq:=zbM base 20 [(232,zBz)]
def zC1 (x_:Int) (y_:Int):Wy0 (Int):=.i ((znm x_).2) (.i ((znm y_).2) (.k 0) (.k (-1:Int))) (.i ((znm y_).2) (.k 1) (.i (decide (x_<y_)) (.k (-1:Int)) (.i (decide (x_>y_)) (.k 1) (.k 0))))
def ziR (x_:Int) (y_:Int):=(zC1 x_ y_).fin default
def zSd:AL base (Int×Int×Unit):=zf (zg ziU) (zf (zg ziU) zA)
def zmo:=zh zSd λx=>((ziR x.1 x.2.1).1,zMi (ziR x.1 x.2.1).2)
theorem zrR:SdP 195 zmo:=
 sT (cx':=zPq) (zk ⟨zNl,trivial⟩) call195 func195 (lOK aN)
abbrev zCx:=Int×List Int×Int×Int×Unit
def zFL (zero:Int) (t6:List Int) (t7:Int) (t8:Int):Wy zCx Unit (Int⊕Int):=.i (decide (t8<t7)) (.i (decide (0<=t8)&&decide (t8<Int.ofNat t6.length)) (.i (t6.getD t8.toNat default != zero) (.k (.inl (t6.getD t8.toNat default))) (.h (zero,t6,t7,(IntKind.i64.wrap (t8+1)),()) ())) .d) (.k (.inr zero))
def zRd (x:zCx) (y:Unit):=zFL x.1 x.2.1 x.2.2.1 x.2.2.2.1
def zGy (n:Nat) (zero:Int) (t6:List Int) (t7:Int) (t8:Int):=zx (zRd) (.inl default) n (zero,t6,t7,t8,()) ()
def zZM (r:Int⊕Int):LTree ty:=.ite (isL r) (.done .ret [.lit (.int .i64 (getL r))] []) (.done (.exit 0) [.lit (.int .i64 (getR r))] [])
def z2e:LL ty zCx:=za zi (za (lSl 3) (za zi (za zi zo)))
def z2p:BL ty (Unit):=zbu
def z0h (x:zCx) (y:Unit):Nat:=(Int.toNat x.1+x.2.1.length+Int.toNat x.2.2.1+Int.toNat x.2.2.2.1+1)
def zRo:=zcG base 18 [] [] [(3,(kpL [3,6,7,8]))] [(3,1,(kpL [3])),(3,0,(kpL [2]))] [(3,spW z2e z2p (zRd) (.inl default) zZM z0h)] []
theorem zZT:zR zRo (lp (body f167) 0):=zD (id:=3) (hl:=rfl)
def zUH (vals:List Int):Wy0 (Int):=.bn (zGy (Int.toNat 0+vals.length+(Int.ofNat vals.length).toNat +Int.toNat 0+1) 0 vals (Int.ofNat vals.length) 0) λr0=>.i (isL r0) (.k (getL r0)) (.k (getR r0))
def zoN (vals:List Int):=(zUH vals).fin default
def z3V:AL base (List Int×Unit):=zf (zg (vSl 3)) zA
def znt:=zh z3V λx=>((zoN x.1).1,zMi (zoN x.1).2)
theorem zqH:SdP 167 znt:=
 sT (cx':=zRo) (zk trivial) call167 func167 (lOK (aC zZT aN))
def zF0 (zcQ:Term->Term->Bool×Int):=zbM base 15 [(104,(zf2 zcQ)),(167,znt),(195,zmo)]
def zw3 (zcQ:Term->Term->Bool×Int) (x_:Term) (y_:Term):Wy0 (Int):=.bn (zcQ x_ y_) λr2=>.bn (ziR x_.Cf y_.Cf) λr1=>.bn (zoN [r2,r1]) λr0=>.k r0
def zls (zcQ:Term->Term->Bool×Int) (x_:Term) (y_:Term):=(zw3 zcQ x_ y_).fin default
theorem zCJ (zcQ:Term->Term->Bool×Int) (zEc:SdP 104 (zf2 zcQ)):SdP 225 (zf2 (zls zcQ)):=
 sT (cx':=(zF0 zcQ)) (zk ⟨zEc,zqH,zrR,trivial⟩) call225 func225 (lOK aN)
def zXF:=zbM base 6 []
def zK7 (x_:Int):Wy0 (Bool):=.k (x_ != x_)
def zr3 (x_:Int):=(zK7 x_).fin default
def zE3:=zh zVs λx=>((zr3 x.1).1,zRy (zr3 x.1).2)
theorem zRS:SdP 223 zE3:=
 sT (cx':=zXF) (zk trivial) call223 func223 (lOK aN)
def zUM:=zbM base 20 [(223,zE3)]
def zGQ (x_:Int) (y_:Int):Wy0 (Int):=.i ((zr3 x_).2) (.i ((zr3 y_).2) (.k 0) (.k (-1:Int))) (.i ((zr3 y_).2) (.k 1) (.i (decide (x_<y_)) (.k (-1:Int)) (.i (decide (x_>y_)) (.k 1) (.k 0))))
def zeL (x_:Int) (y_:Int):=(zGQ x_ y_).fin default
def zoD:=zh zSd λx=>((zeL x.1 x.2.1).1,zMi (zeL x.1 x.2.1).2)
theorem zt3:SdP 168 zoD:=
 sT (cx':=zUM) (zk ⟨zRS,trivial⟩) call168 func168 (lOK aN)
end Go.Proofs.YtoknknbmfmddbaaGreatDoor
/-
 DERIVED:THE SHELF's CONTRACTS AT THIS DUMP,IN PLAIN WORDS (tools/lay-plain.mjs out of 'TryzShelf.lean',which tools/lay-shelf.mjs wrote):THE SAME DECLARATIONS UNDER THE SAME NAMES:'import','namespace','open','def','theorem' AND NOTHING ELSE:no command of the shelf's:FOR A HAND-IN. Each laying:the table of numbers ('.._ren') and one theorem,a field a fact of the dump's own or the kernel's comparison; each contract:ONE APPLICATION.
-/
namespace Go.Proofs
open Go.Shelf
def Tryz.pdqTerm_ren:Go.Shelf.Ren:=⟨λ| 14=>231 | 20=>269 | 21=>270 | 22=>271 | 23=>272 | 24=>273 | 25=>274 | 26=>275 | 27=>276 | 46=>299 | 47=>289 | 48=>290 | 49=>300 | 50=>301 | 15=>205 | 57=>307 | 28=>254 | 29=>255 | n=>n,λ| 24=>107 | 22=>50 | 3=>3 | 25=>140 | 4=>4 | 0=>0 | 46=>247 | 45=>246 | 50=>208 | 66=>269 | 39=>218 | 55=>223 | 70=>273 | 76=>284 | 77=>285 | 53=>253 | 5=>5 | 9=>9 | n=>n,λ| n=>n⟩
theorem Tryz.pdqTerm:Go.Proofs.SlLaysF0.n14 Tryz.prog Tryz.pdqTerm_ren:={
 mixed:=by kernel_rfl
 f14:=⟨f231.name,by decide,func231.trans (congrArg some (by kernel_rfl))⟩
 f15:=func205.trans (congrArg some (by kernel_rfl))
 f20:=⟨f269.name,by decide,func269.trans (congrArg some (by kernel_rfl))⟩
 f21:=⟨f270.name,by decide,func270.trans (congrArg some (by kernel_rfl))⟩
 f22:=⟨f271.name,by decide,func271.trans (congrArg some (by kernel_rfl))⟩
 f23:=⟨f272.name,by decide,func272.trans (congrArg some (by kernel_rfl))⟩
 f24:=⟨f273.name,by decide,func273.trans (congrArg some (by kernel_rfl))⟩
 f25:=⟨f274.name,by decide,func274.trans (congrArg some (by kernel_rfl))⟩
 f26:=⟨f275.name,by decide,func275.trans (congrArg some (by kernel_rfl))⟩
 f27:=⟨f276.name,by decide,func276.trans (congrArg some (by kernel_rfl))⟩
 f28:=func254.trans (congrArg some (by kernel_rfl))
 f29:=func255.trans (congrArg some (by kernel_rfl))
 f46:=⟨f299.name,by decide,func299.trans (congrArg some (by kernel_rfl))⟩
 f47:=func289.trans (congrArg some (by kernel_rfl))
 f48:=func290.trans (congrArg some (by kernel_rfl))
 f49:=⟨f300.name,by decide,func300.trans (congrArg some (by kernel_rfl))⟩
 f50:=⟨f301.name,by decide,func301.trans (congrArg some (by kernel_rfl))⟩
 f57:=⟨f307.name,by decide,func307.trans (congrArg some (by kernel_rfl))⟩
 t0:=underlying0
 a0:=Tryz.isAgg0
 z0:=Tryz.sizeOf0
 v0:=Tryz.zeroValue0
 t3:=underlying3
 a3:=Tryz.isAgg3
 z3:=Tryz.sizeOf3
 v3:=Tryz.zeroValue3
 t4:=underlying4
 a4:=Tryz.isAgg4
 z4:=Tryz.sizeOf4
 v4:=Tryz.zeroValue4
 t5:=underlying5
 a5:=Tryz.isAgg5
 z5:=Tryz.sizeOf5
 v5:=Tryz.zeroValue5
 t9:=underlying9
 a9:=Tryz.isAgg9
 z9:=Tryz.sizeOf9
 v9:=Tryz.zeroValue9
 t22:=underlying50
 a22:=Tryz.isAgg50
 z22:=Tryz.sizeOf50
 v22:=Tryz.zeroValue50
 t25:=underlying140
 a25:=Tryz.isAgg140
 z25:=Tryz.sizeOf140
 v25:=Tryz.zeroValue140
 t39:=underlying218
 a39:=Tryz.isAgg218
 z39:=Tryz.sizeOf218
 v39:=Tryz.zeroValue218
 t45:=underlying246
 a45:=Tryz.isAgg246
 z45:=Tryz.sizeOf246
 v45:=Tryz.zeroValue246
 t46:=underlying247
 a46:=Tryz.isAgg247
 z46:=Tryz.sizeOf247
 v46:=Tryz.zeroValue247
 t50:=underlying208
 a50:=Tryz.isAgg208
 z50:=Tryz.sizeOf208
 v50:=Tryz.zeroValue208
 t53:=underlying253
 a53:=Tryz.isAgg253
 z53:=Tryz.sizeOf253
 v53:=Tryz.zeroValue253
 t55:=underlying223
 a55:=Tryz.isAgg223
 z55:=Tryz.sizeOf223
 v55:=Tryz.zeroValue223
 t66:=underlying269
 a66:=Tryz.isAgg269
 z66:=Tryz.sizeOf269
 v66:=Tryz.zeroValue269
 t70:=underlying273
 a70:=Tryz.isAgg273
 z70:=Tryz.sizeOf273
 v70:=Tryz.zeroValue273
 t76:=underlying284
 a76:=Tryz.isAgg284
 z76:=Tryz.sizeOf284
 v76:=Tryz.zeroValue284
 t77:=underlying285
 a77:=Tryz.isAgg285
 z77:=Tryz.sizeOf285
 v77:=Tryz.zeroValue285 }
def Tryz.insW_ren:Go.Shelf.Ren:=⟨λ| 20=>309 | n=>n,λ| 24=>169 | 22=>141 | 3=>3 | 25=>198 | 4=>4 | 0=>0 | n=>n,λ| n=>n⟩
theorem Tryz.insW:Go.Proofs.SlLaysF0.n20 Tryz.prog Tryz.insW_ren:={
 mixed:=by kernel_rfl
 f20:=⟨f309.name,by decide,func309.trans (congrArg some (by kernel_rfl))⟩
 t0:=underlying0
 a0:=Tryz.isAgg0
 z0:=Tryz.sizeOf0
 v0:=Tryz.zeroValue0
 t3:=underlying3
 a3:=Tryz.isAgg3
 z3:=Tryz.sizeOf3
 v3:=Tryz.zeroValue3
 t4:=underlying4
 a4:=Tryz.isAgg4
 z4:=Tryz.sizeOf4
 v4:=Tryz.zeroValue4
 t22:=underlying141
 a22:=Tryz.isAgg141
 z22:=Tryz.sizeOf141
 v22:=Tryz.zeroValue141
 t25:=underlying198
 a25:=Tryz.isAgg198
 z25:=Tryz.sizeOf198
 v25:=Tryz.zeroValue198 }
def Tryz.lays106_ren:Go.Shelf.Ren:=⟨λ| 106=>196 | 213=>233 | 265=>277 | n=>n,λ| 9=>9 | 3=>3 | n=>n,λ| n=>n⟩
theorem Tryz.lays106:Go.Proofs.Lays.n106 Tryz.prog Tryz.lays106_ren:={
 mixed:=by kernel_rfl
 f106:=func196.trans (congrArg some (by kernel_rfl))
 f213:=func233.trans (congrArg some (by kernel_rfl))
 f265:=func277.trans (congrArg some (by kernel_rfl))
 t3:=underlying3
 a3:=Tryz.isAgg3
 z3:=Tryz.sizeOf3
 v3:=Tryz.zeroValue3
 t9:=underlying9
 a9:=Tryz.isAgg9
 z9:=Tryz.sizeOf9
 v9:=Tryz.zeroValue9 }
def Tryz.lays125_ren:Go.Shelf.Ren:=⟨λ| 125=>205 | 128=>254 | 129=>255 | n=>n,λ| 46=>218 | 3=>3 | 51=>253 | 53=>223 | 4=>4 | 5=>5 | 9=>9 | n=>n,λ| n=>n⟩
theorem Tryz.lays125:Go.Proofs.Lays.n125 Tryz.prog Tryz.lays125_ren:={
 mixed:=by kernel_rfl
 f125:=func205.trans (congrArg some (by kernel_rfl))
 f128:=func254.trans (congrArg some (by kernel_rfl))
 f129:=func255.trans (congrArg some (by kernel_rfl))
 t3:=underlying3
 a3:=Tryz.isAgg3
 z3:=Tryz.sizeOf3
 v3:=Tryz.zeroValue3
 t4:=underlying4
 a4:=Tryz.isAgg4
 z4:=Tryz.sizeOf4
 v4:=Tryz.zeroValue4
 t5:=underlying5
 a5:=Tryz.isAgg5
 z5:=Tryz.sizeOf5
 v5:=Tryz.zeroValue5
 t9:=underlying9
 a9:=Tryz.isAgg9
 z9:=Tryz.sizeOf9
 v9:=Tryz.zeroValue9
 t46:=underlying218
 a46:=Tryz.isAgg218
 z46:=Tryz.sizeOf218
 v46:=Tryz.zeroValue218
 t51:=underlying253
 a51:=Tryz.isAgg253
 z51:=Tryz.sizeOf253
 v51:=Tryz.zeroValue253
 t53:=underlying223
 a53:=Tryz.isAgg223
 z53:=Tryz.sizeOf223
 v53:=Tryz.zeroValue223 }
def Tryz.laysM173_ren:Go.Shelf.Ren:=⟨λ| 173=>92 | 246=>152 | 283=>208 | 284=>209 | 285=>210 | 286=>211 | 129=>255 | 317=>256 | 318=>257 | 319=>258 | 320=>259 | 337=>293 | 338=>294 | n=>n,λ| 2=>2 | 3=>3 | 9=>9 | 4=>4 | 171=>222 | 0=>0 | 53=>223 | 37=>120 | 5=>5 | 173=>226 | 212=>255 | 51=>253 | 20=>20 | 213=>256 | 46=>218 | 232=>287 | 233=>288 | n=>n,λ| 17=>1 | 18=>4 | 19=>5 | n=>n⟩
theorem Tryz.laysM173:Go.Proofs.LaysM.n173 Tryz.prog Tryz.laysM173_ren:={
 mixed:=by kernel_rfl
 f129:=func255.trans (congrArg some (by kernel_rfl))
 f173:=func92.trans (congrArg some (by kernel_rfl))
 f246:=func152.trans (congrArg some (by kernel_rfl))
 f283:=func208.trans (congrArg some (by kernel_rfl))
 f284:=func209.trans (congrArg some (by kernel_rfl))
 f285:=func210.trans (congrArg some (by kernel_rfl))
 f286:=func211.trans (congrArg some (by kernel_rfl))
 f317:=func256.trans (congrArg some (by kernel_rfl))
 f318:=func257.trans (congrArg some (by kernel_rfl))
 f319:=func258.trans (congrArg some (by kernel_rfl))
 f320:=func259.trans (congrArg some (by kernel_rfl))
 f337:=func293.trans (congrArg some (by kernel_rfl))
 f338:=func294.trans (congrArg some (by kernel_rfl))
 t0:=underlying0
 a0:=Tryz.isAgg0
 z0:=Tryz.sizeOf0
 v0:=Tryz.zeroValue0
 t2:=underlying2
 a2:=Tryz.isAgg2
 z2:=Tryz.sizeOf2
 v2:=Tryz.zeroValue2
 t3:=underlying3
 a3:=Tryz.isAgg3
 z3:=Tryz.sizeOf3
 v3:=Tryz.zeroValue3
 t4:=underlying4
 a4:=Tryz.isAgg4
 z4:=Tryz.sizeOf4
 v4:=Tryz.zeroValue4
 t5:=underlying5
 a5:=Tryz.isAgg5
 z5:=Tryz.sizeOf5
 v5:=Tryz.zeroValue5
 t9:=underlying9
 a9:=Tryz.isAgg9
 z9:=Tryz.sizeOf9
 v9:=Tryz.zeroValue9
 t20:=underlying20
 a20:=Tryz.isAgg20
 z20:=Tryz.sizeOf20
 v20:=Tryz.zeroValue20
 t37:=underlying120
 a37:=Tryz.isAgg120
 z37:=Tryz.sizeOf120
 v37:=Tryz.zeroValue120
 t46:=underlying218
 a46:=Tryz.isAgg218
 z46:=Tryz.sizeOf218
 v46:=Tryz.zeroValue218
 t51:=underlying253
 a51:=Tryz.isAgg253
 z51:=Tryz.sizeOf253
 v51:=Tryz.zeroValue253
 t53:=underlying223
 a53:=Tryz.isAgg223
 z53:=Tryz.sizeOf223
 v53:=Tryz.zeroValue223
 t171:=underlying222
 a171:=Tryz.isAgg222
 z171:=Tryz.sizeOf222
 v171:=Tryz.zeroValue222
 t173:=underlying226
 a173:=Tryz.isAgg226
 z173:=Tryz.sizeOf226
 v173:=Tryz.zeroValue226
 t212:=underlying255
 a212:=Tryz.isAgg255
 z212:=Tryz.sizeOf255
 v212:=Tryz.zeroValue255
 t213:=underlying256
 a213:=Tryz.isAgg256
 z213:=Tryz.sizeOf256
 t232:=underlying287
 a232:=Tryz.isAgg287
 z232:=Tryz.sizeOf287
 v232:=Tryz.zeroValue287
 t233:=underlying288
 a233:=Tryz.isAgg288
 z233:=Tryz.sizeOf288
 v233:=Tryz.zeroValue288
 g17:=by kernel_rfl
 g18:=by kernel_rfl
 g19:=by kernel_rfl
 i0:=by kernel_rfl
 i2:=by kernel_rfl
 i3:=by kernel_rfl
 i4:=by kernel_rfl
 i5:=by kernel_rfl
 i9:=by kernel_rfl
 i20:=by kernel_rfl
 i37:=by kernel_rfl
 i46:=by kernel_rfl
 i51:=by kernel_rfl
 i53:=by kernel_rfl
 i171:=by kernel_rfl
 i173:=by kernel_rfl
 i212:=by kernel_rfl
 i232:=by kernel_rfl
 i233:=by kernel_rfl
 m17:=by kernel_rfl
 m18:=by kernel_rfl
 m19:=by kernel_rfl }
def Tryz.laysM171_ren:Go.Shelf.Ren:=⟨λ| 171=>216 | 243=>267 | 246=>152 | 283=>208 | 284=>209 | 285=>210 | 286=>211 | 129=>255 | 317=>256 | 318=>257 | 319=>258 | 320=>259 | 337=>293 | 338=>294 | n=>n,λ| 3=>3 | 9=>9 | 2=>2 | 4=>4 | 171=>222 | 0=>0 | 53=>223 | 37=>120 | 5=>5 | 173=>226 | 212=>255 | 51=>253 | 20=>20 | 213=>256 | 46=>218 | 232=>287 | 233=>288 | n=>n,λ| 17=>1 | 18=>4 | 19=>5 | n=>n⟩
theorem Tryz.laysM171:Go.Proofs.LaysM.n171 Tryz.prog Tryz.laysM171_ren:={
 mixed:=by kernel_rfl
 f129:=func255.trans (congrArg some (by kernel_rfl))
 f171:=func216.trans (congrArg some (by kernel_rfl))
 f243:=func267.trans (congrArg some (by kernel_rfl))
 f246:=func152.trans (congrArg some (by kernel_rfl))
 f283:=func208.trans (congrArg some (by kernel_rfl))
 f284:=func209.trans (congrArg some (by kernel_rfl))
 f285:=func210.trans (congrArg some (by kernel_rfl))
 f286:=func211.trans (congrArg some (by kernel_rfl))
 f317:=func256.trans (congrArg some (by kernel_rfl))
 f318:=func257.trans (congrArg some (by kernel_rfl))
 f319:=func258.trans (congrArg some (by kernel_rfl))
 f320:=func259.trans (congrArg some (by kernel_rfl))
 f337:=func293.trans (congrArg some (by kernel_rfl))
 f338:=func294.trans (congrArg some (by kernel_rfl))
 t0:=underlying0
 a0:=Tryz.isAgg0
 z0:=Tryz.sizeOf0
 v0:=Tryz.zeroValue0
 t2:=underlying2
 a2:=Tryz.isAgg2
 z2:=Tryz.sizeOf2
 v2:=Tryz.zeroValue2
 t3:=underlying3
 a3:=Tryz.isAgg3
 z3:=Tryz.sizeOf3
 v3:=Tryz.zeroValue3
 t4:=underlying4
 a4:=Tryz.isAgg4
 z4:=Tryz.sizeOf4
 v4:=Tryz.zeroValue4
 t5:=underlying5
 a5:=Tryz.isAgg5
 z5:=Tryz.sizeOf5
 v5:=Tryz.zeroValue5
 t9:=underlying9
 a9:=Tryz.isAgg9
 z9:=Tryz.sizeOf9
 v9:=Tryz.zeroValue9
 t20:=underlying20
 a20:=Tryz.isAgg20
 z20:=Tryz.sizeOf20
 v20:=Tryz.zeroValue20
 t37:=underlying120
 a37:=Tryz.isAgg120
 z37:=Tryz.sizeOf120
 v37:=Tryz.zeroValue120
 t46:=underlying218
 a46:=Tryz.isAgg218
 z46:=Tryz.sizeOf218
 v46:=Tryz.zeroValue218
 t51:=underlying253
 a51:=Tryz.isAgg253
 z51:=Tryz.sizeOf253
 v51:=Tryz.zeroValue253
 t53:=underlying223
 a53:=Tryz.isAgg223
 z53:=Tryz.sizeOf223
 v53:=Tryz.zeroValue223
 t171:=underlying222
 a171:=Tryz.isAgg222
 z171:=Tryz.sizeOf222
 v171:=Tryz.zeroValue222
 t173:=underlying226
 a173:=Tryz.isAgg226
 z173:=Tryz.sizeOf226
 v173:=Tryz.zeroValue226
 t212:=underlying255
 a212:=Tryz.isAgg255
 z212:=Tryz.sizeOf255
 v212:=Tryz.zeroValue255
 t213:=underlying256
 a213:=Tryz.isAgg256
 z213:=Tryz.sizeOf256
 t232:=underlying287
 a232:=Tryz.isAgg287
 z232:=Tryz.sizeOf287
 v232:=Tryz.zeroValue287
 t233:=underlying288
 a233:=Tryz.isAgg288
 z233:=Tryz.sizeOf288
 v233:=Tryz.zeroValue288
 g17:=by kernel_rfl
 g18:=by kernel_rfl
 g19:=by kernel_rfl
 i0:=by kernel_rfl
 i2:=by kernel_rfl
 i3:=by kernel_rfl
 i4:=by kernel_rfl
 i5:=by kernel_rfl
 i9:=by kernel_rfl
 i20:=by kernel_rfl
 i37:=by kernel_rfl
 i46:=by kernel_rfl
 i51:=by kernel_rfl
 i53:=by kernel_rfl
 i171:=by kernel_rfl
 i173:=by kernel_rfl
 i212:=by kernel_rfl
 i232:=by kernel_rfl
 i233:=by kernel_rfl
 m17:=by kernel_rfl
 m18:=by kernel_rfl
 m19:=by kernel_rfl }
def Tryz.lays155_ren:Go.Shelf.Ren:=⟨λ| 155=>93 | 154=>153 | 138=>212 | 165=>88 | 143=>213 | 166=>89 | 197=>214 | 169=>90 | 195=>260 | 218=>261 | 240=>150 | 241=>151 | 219=>262 | 260=>263 | 276=>206 | 277=>207 | 217=>295 | 225=>296 | 224=>297 | 267=>298 | 266=>305 | 314=>306 | n=>n,λ| 9=>9 | 3=>3 | 4=>4 | 72=>122 | 0=>0 | 76=>126 | 105=>228 | 21=>21 | 5=>5 | 70=>119 | 20=>20 | 37=>120 | 75=>125 | 127=>180 | 164=>219 | 46=>218 | 119=>275 | 139=>278 | 138=>277 | 146=>289 | 51=>253 | 80=>128 | n=>n,λ| 1=>0 | 3=>2 | 4=>3 | n=>n⟩
theorem Tryz.lays155:Go.Proofs.Lays.n155 Tryz.prog Tryz.lays155_ren:={
 mixed:=by kernel_rfl
 f138:=func212.trans (congrArg some (by kernel_rfl))
 f143:=func213.trans (congrArg some (by kernel_rfl))
 f154:=func153.trans (congrArg some (by kernel_rfl))
 f155:=func93.trans (congrArg some (by kernel_rfl))
 f165:=func88.trans (congrArg some (by kernel_rfl))
 f166:=func89.trans (congrArg some (by kernel_rfl))
 f169:=func90.trans (congrArg some (by kernel_rfl))
 f195:=func260.trans (congrArg some (by kernel_rfl))
 f197:=func214.trans (congrArg some (by kernel_rfl))
 f217:=func295.trans (congrArg some (by kernel_rfl))
 f218:=func261.trans (congrArg some (by kernel_rfl))
 f219:=func262.trans (congrArg some (by kernel_rfl))
 f224:=func297.trans (congrArg some (by kernel_rfl))
 f225:=func296.trans (congrArg some (by kernel_rfl))
 f240:=func150.trans (congrArg some (by kernel_rfl))
 f241:=func151.trans (congrArg some (by kernel_rfl))
 f260:=func263.trans (congrArg some (by kernel_rfl))
 f266:=func305.trans (congrArg some (by kernel_rfl))
 f267:=func298.trans (congrArg some (by kernel_rfl))
 f276:=func206.trans (congrArg some (by kernel_rfl))
 f277:=func207.trans (congrArg some (by kernel_rfl))
 f314:=func306.trans (congrArg some (by kernel_rfl))
 t0:=underlying0
 a0:=Tryz.isAgg0
 z0:=Tryz.sizeOf0
 v0:=Tryz.zeroValue0
 t3:=underlying3
 a3:=Tryz.isAgg3
 z3:=Tryz.sizeOf3
 v3:=Tryz.zeroValue3
 t4:=underlying4
 a4:=Tryz.isAgg4
 z4:=Tryz.sizeOf4
 v4:=Tryz.zeroValue4
 t5:=underlying5
 a5:=Tryz.isAgg5
 z5:=Tryz.sizeOf5
 v5:=Tryz.zeroValue5
 t9:=underlying9
 a9:=Tryz.isAgg9
 z9:=Tryz.sizeOf9
 v9:=Tryz.zeroValue9
 t20:=underlying20
 a20:=Tryz.isAgg20
 z20:=Tryz.sizeOf20
 v20:=Tryz.zeroValue20
 t21:=underlying21
 a21:=Tryz.isAgg21
 z21:=Tryz.sizeOf21
 v21:=Tryz.zeroValue21
 t37:=underlying120
 a37:=Tryz.isAgg120
 z37:=Tryz.sizeOf120
 v37:=Tryz.zeroValue120
 t46:=underlying218
 a46:=Tryz.isAgg218
 z46:=Tryz.sizeOf218
 v46:=Tryz.zeroValue218
 t51:=underlying253
 a51:=Tryz.isAgg253
 z51:=Tryz.sizeOf253
 v51:=Tryz.zeroValue253
 t70:=underlying119
 a70:=Tryz.isAgg119
 z70:=Tryz.sizeOf119
 v70:=Tryz.zeroValue119
 t72:=underlying122
 a72:=Tryz.isAgg122
 z72:=Tryz.sizeOf122
 v72:=Tryz.zeroValue122
 t75:=underlying125
 a75:=Tryz.isAgg125
 z75:=Tryz.sizeOf125
 v75:=Tryz.zeroValue125
 t76:=underlying126
 a76:=Tryz.isAgg126
 z76:=Tryz.sizeOf126
 v76:=Tryz.zeroValue126
 t105:=underlying228
 a105:=Tryz.isAgg228
 z105:=Tryz.sizeOf228
 v105:=Tryz.zeroValue228
 t119:=underlying275
 a119:=Tryz.isAgg275
 z119:=Tryz.sizeOf275
 t127:=underlying180
 a127:=Tryz.isAgg180
 z127:=Tryz.sizeOf180
 v127:=Tryz.zeroValue180
 t138:=underlying277
 a138:=Tryz.isAgg277
 z138:=Tryz.sizeOf277
 v138:=Tryz.zeroValue277
 t139:=underlying278
 a139:=Tryz.isAgg278
 z139:=Tryz.sizeOf278
 v139:=Tryz.zeroValue278
 t146:=underlying289
 a146:=Tryz.isAgg289
 z146:=Tryz.sizeOf289
 v146:=Tryz.zeroValue289
 t164:=underlying219
 a164:=Tryz.isAgg219
 z164:=Tryz.sizeOf219
 v164:=Tryz.zeroValue219
 g1:=by kernel_rfl
 g3:=by kernel_rfl
 g4:=by kernel_rfl }
theorem Tryz.Builder_Extra_155:Builder.Extra Tryz.prog Tryz.lays155_ren:={
 sizeBuilder:=by kernel_rfl
 liesBuilder:=by kernel_rfl
 t5:=underlying5
 a5:=Tryz.isAgg5
 z5:=Tryz.sizeOf5
 v5:=Tryz.zeroValue5
 infoByte:=by kernel_rfl
 cellsByte:=by kernel_rfl
 sizeByte:=by kernel_rfl
 neB5:=by decide }
def Tryz.lays156_ren:Go.Shelf.Ren:=⟨λ| 156=>44 | 165=>88 | 166=>89 | 169=>90 | 240=>150 | 241=>151 | 276=>206 | 277=>207 | n=>n,λ| 31=>28 | 9=>9 | 3=>3 | 4=>4 | 0=>0 | 20=>20 | 72=>122 | 76=>126 | 70=>119 | 37=>120 | 75=>125 | 127=>180 | 164=>219 | 5=>5 | 80=>128 | n=>n,λ| n=>n⟩
theorem Tryz.lays156:Go.Proofs.Lays.n156 Tryz.prog Tryz.lays156_ren:={
 mixed:=by kernel_rfl
 f156:=func44.trans (congrArg some (by kernel_rfl))
 f165:=func88.trans (congrArg some (by kernel_rfl))
 f166:=func89.trans (congrArg some (by kernel_rfl))
 f169:=func90.trans (congrArg some (by kernel_rfl))
 f240:=func150.trans (congrArg some (by kernel_rfl))
 f241:=func151.trans (congrArg some (by kernel_rfl))
 f276:=func206.trans (congrArg some (by kernel_rfl))
 f277:=func207.trans (congrArg some (by kernel_rfl))
 t0:=underlying0
 a0:=Tryz.isAgg0
 z0:=Tryz.sizeOf0
 v0:=Tryz.zeroValue0
 t3:=underlying3
 a3:=Tryz.isAgg3
 z3:=Tryz.sizeOf3
 v3:=Tryz.zeroValue3
 t4:=underlying4
 a4:=Tryz.isAgg4
 z4:=Tryz.sizeOf4
 v4:=Tryz.zeroValue4
 t9:=underlying9
 a9:=Tryz.isAgg9
 z9:=Tryz.sizeOf9
 v9:=Tryz.zeroValue9
 t20:=underlying20
 a20:=Tryz.isAgg20
 z20:=Tryz.sizeOf20
 v20:=Tryz.zeroValue20
 t31:=underlying28
 a31:=Tryz.isAgg28
 z31:=Tryz.sizeOf28
 v31:=Tryz.zeroValue28
 t37:=underlying120
 a37:=Tryz.isAgg120
 z37:=Tryz.sizeOf120
 v37:=Tryz.zeroValue120
 t70:=underlying119
 a70:=Tryz.isAgg119
 z70:=Tryz.sizeOf119
 v70:=Tryz.zeroValue119
 t72:=underlying122
 a72:=Tryz.isAgg122
 z72:=Tryz.sizeOf122
 v72:=Tryz.zeroValue122
 t75:=underlying125
 a75:=Tryz.isAgg125
 z75:=Tryz.sizeOf125
 v75:=Tryz.zeroValue125
 t76:=underlying126
 a76:=Tryz.isAgg126
 z76:=Tryz.sizeOf126
 v76:=Tryz.zeroValue126
 t127:=underlying180
 a127:=Tryz.isAgg180
 z127:=Tryz.sizeOf180
 v127:=Tryz.zeroValue180
 t164:=underlying219
 a164:=Tryz.isAgg219
 z164:=Tryz.sizeOf219
 v164:=Tryz.zeroValue219 }
theorem Tryz.Builder_Extra_156:Builder.Extra Tryz.prog Tryz.lays156_ren:={
 sizeBuilder:=by kernel_rfl
 liesBuilder:=by kernel_rfl
 t5:=underlying5
 a5:=Tryz.isAgg5
 z5:=Tryz.sizeOf5
 v5:=Tryz.zeroValue5
 infoByte:=by kernel_rfl
 cellsByte:=by kernel_rfl
 sizeByte:=by kernel_rfl
 neB5:=by decide }
end Go.Proofs
namespace Go.Proofs.YtoknknbmfmddbaaGreatDoor
open Go Go.Ab
open Go.Proofs.Tryz
def strings_Compare (s p:ByteArray):Bool×Int:=zJc s p
def zBy:Ab.Spec ty:=zh (cx:=base) (zf (zg zwS) (zf (zg zwS) zA)) λx=>((strings_Compare x.1 x.2.1).1,⟨[.pure (.lit (.int .i64 (strings_Compare x.1 x.2.1).2))],[]⟩)
theorem zOg:SdP 196 zBy:=z14 ze1 Go.Proofs.Tryz.lays106 call196
end Go.Proofs.YtoknknbmfmddbaaGreatDoor
namespace Go.Proofs.YtoknknbmfmddbaaGreatDoor
open Go Go.Ab
open Go.Proofs.Tryz
def zXc:=zbM base 22 [(167,znt),(168,zoD),(195,zmo),(196,zBy)]
def zK4 (a:Value) (b:Value):Wy0 (Int):=.bn (zeL a.Kind b.Kind) λr2=>.bn (ziR a.Int b.Int) λr1=>.bn (zoN [r2,r1,(strings_Compare a.Text b.Text).2]) λr0=>.k r0
def zjw (a:Value) (b:Value):=(zK4 a b).fin default
def zXV:AL base (Value×Value×Unit):=zf (zg (zcT 79)) (zf (zg (zcT 79)) zA)
def zmy:=zh zXV λx=>((zjw x.1 x.2.1).1,zMi (zjw x.1 x.2.1).2)
theorem zq1:SdP 131 zmy:=
 sT (cx':=zXc) (zk ⟨zqH,zt3,zrR,zOg,trivial⟩) call131 func131 (lOK aN)
def zDO (zr:yA->yA->Bool×Int) (zw:yB->yB->Bool×Int) (zC:yD->yD->Bool×Int) (zF:Wd->Wd->Bool×Int):=zbM base 51 [(131,zmy),(167,znt),(168,zoD),(169,(zbj zr)),(170,(zej zw)),(171,(zbG zC)),(172,(zeh zF))]
def zuH (zr:yA->yA->Bool×Int) (zw:yB->yB->Bool×Int) (zC:yD->yD->Bool×Int) (zF:Wd->Wd->Bool×Int) (a:At) (b:At):Wy0 (Int):=.bn (zeL a.Kind b.Kind) λr8=>.bn (zeL a.Row.Table b.Row.Table) λr7=>.bn (zeL a.Row.Seq b.Row.Seq) λr6=>.bn (zr a.Ag b.Ag) λr5=>.bn (zeL a.Func b.Func) λr4=>.bn (zC a.Items b.Items) λr3=>.bn (zeL a.Op b.Op) λr2=>.bn (zjw a.Bd b.Bd) λr1=>.bn (zoN [r8,r7,r6,r5,r4,r3,r2,r1]) λr0=>.k r0
def zj3 (zr:yA->yA->Bool×Int) (zw:yB->yB->Bool×Int) (zC:yD->yD->Bool×Int) (zF:Wd->Wd->Bool×Int) (a:At) (b:At):=(zuH zr zw zC zF a b).fin default
theorem zBi (zr:yA->yA->Bool×Int) (zw:yB->yB->Bool×Int) (zC:yD->yD->Bool×Int) (zF:Wd->Wd->Bool×Int) (zfB:SdP 169 (zbj zr)) (zjm:SdP 170 (zej zw)) (zg6:SdP 171 (zbG zC)) (zmV:SdP 172 (zeh zF)):SdP 106 (zhd (zj3 zr zw zC zF)):=
 sT (cx':=(zDO zr zw zC zF)) (zk ⟨zq1,zqH,zt3,zfB,zjm,zg6,zmV,trivial⟩) call106 func106 (lOK aN)
def zBN (zcP:At->At->Bool×Int):=zbM base 17 [(106,(zhd zcP)),(167,znt),(168,zoD)]
def ztl (zcP:At->At->Bool×Int) (a:Fc) (b:Fc):Wy0 (Int):=.bn (zcP (At.mk a.At.Kind a.At.Row a.At.Ag a.At.Func a.At.Items a.At.Op a.At.Bd) (At.mk b.At.Kind b.At.Row b.At.Ag b.At.Func b.At.Items b.At.Op b.At.Bd)) λr2=>.bn (zeL a.Exp b.Exp) λr1=>.bn (zoN [r2,r1]) λr0=>.k r0
def zja (zcP:At->At->Bool×Int) (a:Fc) (b:Fc):=(ztl zcP a b).fin default
theorem zzx (zcP:At->At->Bool×Int) (zEe:SdP 106 (zhd zcP)):SdP 166 (zeC (zja zcP)):=
 sT (cx':=(zBN zcP)) (zk ⟨zEe,zqH,zt3,trivial⟩) call166 func166 (lOK aN)
def zDD (zw:yB->yB->Bool×Int):=zbM base 17 [(131,zmy),(167,znt),(170,(zej zw))]
def zuP (zw:yB->yB->Bool×Int) (a:Wd) (b:Wd):Wy0 (Int):=.bn (zjw a.Value b.Value) λr2=>.bn (zw a.Ann b.Ann) λr1=>.bn (zoN [r2,r1]) λr0=>.k r0
def zjY (zw:yB->yB->Bool×Int) (a:Wd) (b:Wd):=(zuP zw a b).fin default
theorem zBe (zw:yB->yB->Bool×Int) (zjm:SdP 170 (zej zw)):SdP 172 (zeh (zjY zw)):=
 sT (cx':=(zDD zw)) (zk ⟨zq1,zqH,zjm,trivial⟩) call172 func172 (lOK aN)
def zDG (zL:yC->yC->Bool×Int) (zu:Fc->Fc->Bool×Int):=zbM base 10 [(165,(zbT zL)),(166,(zeC zu))]
def zuK (zL:yC->yC->Bool×Int) (zu:Fc->Fc->Bool×Int) (a:Term) (b:Term):Wy0 (Int):=.bn (zL a.Fs b.Fs) λr0=>.k r0
def zjZ (zL:yC->yC->Bool×Int) (zu:Fc->Fc->Bool×Int) (a:Term) (b:Term):=(zuK zL zu a b).fin default
theorem zBk (zL:yC->yC->Bool×Int) (zu:Fc->Fc->Bool×Int) (ziT:SdP 165 (zbT zL)) (zli:SdP 166 (zeC zu)):SdP 104 (zf2 (zjZ zL zu)):=
 sT (cx':=(zDG zL zu)) (zk ⟨ziT,zli,trivial⟩) call104 func104 (lOK aN)
abbrev zbA:=yA×yA×Unit×yA×Int×Int×Unit
abbrev zdt:=Int⊕(yA×yA)
def zfi (zw:yB->yB->Bool×Int) (s1:yA) (s2:yA) (t11:yA) (t12:Int) (t13:Int):Wy zbA Unit zdt:=.i (decide (t13<t12)) (.i (decide (0<=t13)&&decide (t13<Int.ofNat t11.length)) (.i (decide (t13≥Int.ofNat s2.length)) (.k (.inl 1)) (.i (decide (0<=t13)&&decide (t13<Int.ofNat s2.length)) (.bn (zw (t11.getD t13.toNat default) (s2.getD t13.toNat default)) λr0=>.i (r0 != 0) (.k (.inl (r0))) (.h (s1,s2,(),t11,t12,(IntKind.i64.wrap (t13+1)),()) ())) .d)) .d) (.k (.inr (s1,s2)))
def zcK (zw:yB->yB->Bool×Int) (x:zbA) (y:Unit):=zfi zw x.1 x.2.1 x.2.2.2.1 x.2.2.2.2.1 x.2.2.2.2.2.1
def zfp (zw:yB->yB->Bool×Int) (n:Nat) (s1:yA) (s2:yA) (t11:yA) (t12:Int) (t13:Int):=zx (zcK zw) (.inl default) n (s1,s2,(),t11,t12,t13,()) ()
def zfc (r:zdt):LTree ty:=.ite (isL r) (.done .ret [.lit (.int .i64 (getL r))] []) (.done (.exit 0) [.sl 51 (getR r).1,.sl 51 (getR r).2] [])
def zfk:LL ty zbA:=za (lSl 51) (za (lSl 51) (za (lFn 170 (zo)) (za (lSl 51) (za zi (za zi zo)))))
def zfe (x:zbA) (y:Unit):Nat:=(x.1.length+x.2.1.length+x.2.2.2.1.length+Int.toNat x.2.2.2.2.1+Int.toNat x.2.2.2.2.2.1+1)
def zcI (zw:yB->yB->Bool×Int):=zcG base 39 [(170,(zej zw))] [] [(2,(kpL [0,1,2,11,12,13]))] [(2,1,(kpL [0,1])),(2,0,(kpL [6]))] [(2,spW zfk z2p (zcK zw) (.inl default) zfc zfe)] []
theorem zfd (zw:yB->yB->Bool×Int):zR (zcI zw) (lp (body f169) 0):=zD (id:=2) (hl:=rfl)
def zfE (zw:yB->yB->Bool×Int) (s1:yA) (s2:yA):Wy0 (Int):=.bn (zfp zw (s1.length+s2.length+s1.length+(Int.ofNat s1.length).toNat +Int.toNat 0+1) s1 s2 s1 (Int.ofNat s1.length) 0) λr2=>.i (isL r2) (.k (getL r2)) (.i (decide (Int.ofNat (getR r2).1.length<Int.ofNat (getR r2).2.length)) (.k (-1:Int)) (.k 0))
def zbi (zw:yB->yB->Bool×Int) (s1:yA) (s2:yA):=(zfE zw s1 s2).fin default
theorem zeV (zw:yB->yB->Bool×Int) (zjm:SdP 170 (zej zw)):SdP 169 (zbj (zbi zw)):=
 sT (cx':=(zcI zw)) (zk ⟨zjm,trivial⟩) call169 func169 (lOK (aC (zfd zw) aN))
abbrev zb8:=yC×yC×Unit×yC×Int×Int×Unit
abbrev zeS:=Int⊕(yC×yC)
def zd7 (zu:Fc->Fc->Bool×Int) (s1:yC) (s2:yC) (t11:yC) (t12:Int) (t13:Int):Wy zb8 Unit zeS:=.i (decide (t13<t12)) (.i (decide (0<=t13)&&decide (t13<Int.ofNat t11.length)) (.i (decide (t13≥Int.ofNat s2.length)) (.k (.inl 1)) (.i (decide (0<=t13)&&decide (t13<Int.ofNat s2.length)) (.bn (zu (FO.mk (At.mk (t11.getD t13.toNat default).At.Kind (t11.getD t13.toNat default).At.Row (t11.getD t13.toNat default).At.Ag (t11.getD t13.toNat default).At.Func (t11.getD t13.toNat default).At.Items (t11.getD t13.toNat default).At.Op (t11.getD t13.toNat default).At.Bd) (t11.getD t13.toNat default).Exp) (FO.mk (At.mk (s2.getD t13.toNat default).At.Kind (s2.getD t13.toNat default).At.Row (s2.getD t13.toNat default).At.Ag (s2.getD t13.toNat default).At.Func (s2.getD t13.toNat default).At.Items (s2.getD t13.toNat default).At.Op (s2.getD t13.toNat default).At.Bd) (s2.getD t13.toNat default).Exp)) λr0=>.i (r0 != 0) (.k (.inl (r0))) (.h (s1,s2,(),t11,t12,(IntKind.i64.wrap (t13+1)),()) ())) .d)) .d) (.k (.inr (s1,s2)))
def zbL (zu:Fc->Fc->Bool×Int) (x:zb8) (y:Unit):=zd7 zu x.1 x.2.1 x.2.2.2.1 x.2.2.2.2.1 x.2.2.2.2.2.1
def zd6 (zu:Fc->Fc->Bool×Int) (n:Nat) (s1:yC) (s2:yC) (t11:yC) (t12:Int) (t13:Int):=zx (zbL zu) (.inl default) n (s1,s2,(),t11,t12,t13,()) ()
def zim (r:zeS):LTree ty:=.ite (isL r) (.done .ret [.lit (.int .i64 (getL r))] []) (.done (.exit 0) [.sl 145 (getR r).1,.sl 145 (getR r).2] [])
def ziK:LL ty zb8:=za (lSl 145) (za (lSl 145) (za (lFn 166 (zo)) (za (lSl 145) (za zi (za zi zo)))))
def zin (x:zb8) (y:Unit):Nat:=(x.1.length+x.2.1.length+x.2.2.2.1.length+Int.toNat x.2.2.2.2.1+Int.toNat x.2.2.2.2.2.1+1)
def zd5 (zu:Fc->Fc->Bool×Int):=zcG base 39 [(166,(zeC zu))] [] [(2,(kpL [0,1,2,11,12,13]))] [(2,1,(kpL [0,1])),(2,0,(kpL [6]))] [(2,spW ziK z2p (zbL zu) (.inl default) zim zin)] []
theorem zio (zu:Fc->Fc->Bool×Int):zR (zd5 zu) (lp (body f165) 0):=zD (id:=2) (hl:=rfl)
def zed (zu:Fc->Fc->Bool×Int) (s1:yC) (s2:yC):Wy0 (Int):=.bn (zd6 zu (s1.length+s2.length+s1.length+(Int.ofNat s1.length).toNat +Int.toNat 0+1) s1 s2 s1 (Int.ofNat s1.length) 0) λr2=>.i (isL r2) (.k (getL r2)) (.i (decide (Int.ofNat (getR r2).1.length<Int.ofNat (getR r2).2.length)) (.k (-1:Int)) (.k 0))
def zbp (zu:Fc->Fc->Bool×Int) (s1:yC) (s2:yC):=(zed zu s1 s2).fin default
theorem zh0 (zu:Fc->Fc->Bool×Int) (zli:SdP 166 (zeC zu)):SdP 165 (zbT (zbp zu)):=
 sT (cx':=(zd5 zu)) (zk ⟨zli,trivial⟩) call165 func165 (lOK (aC (zio zu) aN))
abbrev zbR:=yD×yD×Unit×yD×Int×Int×Unit
abbrev zef:=Int⊕(yD×yD)
def zgG (zF:Wd->Wd->Bool×Int) (s1:yD) (s2:yD) (t11:yD) (t12:Int) (t13:Int):Wy zbR Unit zef:=.i (decide (t13<t12)) (.i (decide (0<=t13)&&decide (t13<Int.ofNat t11.length)) (.i (decide (t13≥Int.ofNat s2.length)) (.k (.inl 1)) (.i (decide (0<=t13)&&decide (t13<Int.ofNat s2.length)) (.bn (zF (t11.getD t13.toNat default) (s2.getD t13.toNat default)) λr0=>.i (r0 != 0) (.k (.inl (r0))) (.h (s1,s2,(),t11,t12,(IntKind.i64.wrap (t13+1)),()) ())) .d)) .d) (.k (.inr (s1,s2)))
def zdb (zF:Wd->Wd->Bool×Int) (x:zbR) (y:Unit):=zgG zF x.1 x.2.1 x.2.2.2.1 x.2.2.2.2.1 x.2.2.2.2.2.1
def zgI (zF:Wd->Wd->Bool×Int) (n:Nat) (s1:yD) (s2:yD) (t11:yD) (t12:Int) (t13:Int):=zx (zdb zF) (.inl default) n (s1,s2,(),t11,t12,t13,()) ()
def zgv (r:zef):LTree ty:=.ite (isL r) (.done .ret [.lit (.int .i64 (getL r))] []) (.done (.exit 0) [.sl 169 (getR r).1,.sl 169 (getR r).2] [])
def zgL:LL ty zbR:=za (lSl 169) (za (lSl 169) (za (lFn 172 (zo)) (za (lSl 169) (za zi (za zi zo)))))
def zgw (x:zbR) (y:Unit):Nat:=(x.1.length+x.2.1.length+x.2.2.2.1.length+Int.toNat x.2.2.2.2.1+Int.toNat x.2.2.2.2.2.1+1)
def zdc (zF:Wd->Wd->Bool×Int):=zcG base 39 [(172,(zeh zF))] [] [(2,(kpL [0,1,2,11,12,13]))] [(2,1,(kpL [0,1])),(2,0,(kpL [6]))] [(2,spW zgL z2p (zdb zF) (.inl default) zgv zgw)] []
theorem zgo (zF:Wd->Wd->Bool×Int):zR (zdc zF) (lp (body f171) 0):=zD (id:=2) (hl:=rfl)
def zg3 (zF:Wd->Wd->Bool×Int) (s1:yD) (s2:yD):Wy0 (Int):=.bn (zgI zF (s1.length+s2.length+s1.length+(Int.ofNat s1.length).toNat +Int.toNat 0+1) s1 s2 s1 (Int.ofNat s1.length) 0) λr2=>.i (isL r2) (.k (getL r2)) (.i (decide (Int.ofNat (getR r2).1.length<Int.ofNat (getR r2).2.length)) (.k (-1:Int)) (.k 0))
def zbF (zF:Wd->Wd->Bool×Int) (s1:yD) (s2:yD):=(zg3 zF s1 s2).fin default
theorem zf3 (zF:Wd->Wd->Bool×Int) (zmV:SdP 172 (zeh zF)):SdP 171 (zbG (zbF zF)):=
 sT (cx':=(zdc zF)) (zk ⟨zmV,trivial⟩) call171 func171 (lOK (aC (zgo zF) aN))
abbrev zb3:=yB×yB×Unit×yB×Int×Int×Unit
abbrev zeF:=Int⊕(yB×yB)
def zid (zK:Term->Term->Bool×Int) (s1:yB) (s2:yB) (t11:yB) (t12:Int) (t13:Int):Wy zb3 Unit zeF:=.i (decide (t13<t12)) (.i (decide (0<=t13)&&decide (t13<Int.ofNat t11.length)) (.i (decide (t13≥Int.ofNat s2.length)) (.k (.inl 1)) (.i (decide (0<=t13)&&decide (t13<Int.ofNat s2.length)) (.bn (zK (t11.getD t13.toNat default) (s2.getD t13.toNat default)) λr0=>.i (r0 != 0) (.k (.inl (r0))) (.h (s1,s2,(),t11,t12,(IntKind.i64.wrap (t13+1)),()) ())) .d)) .d) (.k (.inr (s1,s2)))
def zdP (zK:Term->Term->Bool×Int) (x:zb3) (y:Unit):=zid zK x.1 x.2.1 x.2.2.2.1 x.2.2.2.2.1 x.2.2.2.2.2.1
def zib (zK:Term->Term->Bool×Int) (n:Nat) (s1:yB) (s2:yB) (t11:yB) (t12:Int) (t13:Int):=zx (zdP zK) (.inl default) n (s1,s2,(),t11,t12,t13,()) ()
def zhW (r:zeF):LTree ty:=.ite (isL r) (.done .ret [.lit (.int .i64 (getL r))] []) (.done (.exit 0) [.sl 107 (getR r).1,.sl 107 (getR r).2] [])
def zia:LL ty zb3:=za (lSl 107) (za (lSl 107) (za (lFn 225 (zo)) (za (lSl 107) (za zi (za zi zo)))))
def zh3 (x:zb3) (y:Unit):Nat:=(x.1.length+x.2.1.length+x.2.2.2.1.length+Int.toNat x.2.2.2.2.1+Int.toNat x.2.2.2.2.2.1+1)
def zdQ (zK:Term->Term->Bool×Int):=zcG base 39 [(225,(zf2 zK))] [] [(2,(kpL [0,1,2,11,12,13]))] [(2,1,(kpL [0,1])),(2,0,(kpL [6]))] [(2,spW zia z2p (zdP zK) (.inl default) zhW zh3)] []
theorem zh5 (zK:Term->Term->Bool×Int):zR (zdQ zK) (lp (body f224) 0):=zD (id:=2) (hl:=rfl)
def ziv (zK:Term->Term->Bool×Int) (s1:yB) (s2:yB):Wy0 (Int):=.bn (zib zK (s1.length+s2.length+s1.length+(Int.ofNat s1.length).toNat +Int.toNat 0+1) s1 s2 s1 (Int.ofNat s1.length) 0) λr2=>.i (isL r2) (.k (getL r2)) (.i (decide (Int.ofNat (getR r2).1.length<Int.ofNat (getR r2).2.length)) (.k (-1:Int)) (.k 0))
def zbP (zK:Term->Term->Bool×Int) (s1:yB) (s2:yB):=(ziv zK s1 s2).fin default
theorem zhm (zK:Term->Term->Bool×Int) (zoY:SdP 225 (zf2 zK)):SdP 224 (zbQ (zbP zK)):=
 sT (cx':=(zdQ zK)) (zk ⟨zoY,trivial⟩) call224 func224 (lOK (aC (zh5 zK) aN))
def zcc:Nat->(yB->yB->Bool×Int)×(Term->Term->Bool×Int)×(Term->Term->Bool×Int)×(Fc->Fc->Bool×Int)×(At->At->Bool×Int)×(Wd->Wd->Bool×Int)×(yB->yB->Bool×Int)×(yC->yC->Bool×Int)×(yA->yA->Bool×Int)×(yD->yD->Bool×Int)
 | 0=>(λ_ _=>(false,default),λ_ _=>(false,default),λ_ _=>(false,default),λ_ _=>(false,default),λ_ _=>(false,default),λ_ _=>(false,default),λ_ _=>(false,default),λ_ _=>(false,default),λ_ _=>(false,default),λ_ _=>(false,default))
 | n+1=>(zo4 ((zcc n).2.2.2.2.2.2.1) ((zcc n).2.1),zls ((zcc n).2.2.1),zjZ ((zcc n).2.2.2.2.2.2.2.1) ((zcc n).2.2.2.1),zja ((zcc n).2.2.2.2.1),zj3 ((zcc n).2.2.2.2.2.2.2.2.1) ((zcc n).1) ((zcc n).2.2.2.2.2.2.2.2.2) ((zcc n).2.2.2.2.2.1),zjY ((zcc n).1),zbP ((zcc n).2.1),zbp ((zcc n).2.2.2.1),zbi ((zcc n).1),zbF ((zcc n).2.2.2.2.2.1))
def zf4 (n:Nat):yB->yB->Bool×Int:=(zcc n).1
def ziM (n:Nat):Term->Term->Bool×Int:=(zcc n).2.1
def zg9 (n:Nat):Term->Term->Bool×Int:=(zcc n).2.2.1
def zfT (n:Nat):Fc->Fc->Bool×Int:=(zcc n).2.2.2.1
def zhh (n:Nat):At->At->Bool×Int:=(zcc n).2.2.2.2.1
def ze7 (n:Nat):Wd->Wd->Bool×Int:=(zcc n).2.2.2.2.2.1
def zbO (n:Nat):yB->yB->Bool×Int:=(zcc n).2.2.2.2.2.2.1
def zbU (n:Nat):yC->yC->Bool×Int:=(zcc n).2.2.2.2.2.2.2.1
def zbk (n:Nat):yA->yA->Bool×Int:=(zcc n).2.2.2.2.2.2.2.2.1
def zbD (n:Nat):yD->yD->Bool×Int:=(zcc n).2.2.2.2.2.2.2.2.2
theorem zKC (n:Nat):zf4 (n+1)=zo4 (zbO n) (ziM n):=rfl
theorem zFS (n:Nat):ziM (n+1)=zls (zg9 n):=rfl
theorem zDw (n:Nat):zg9 (n+1)=zjZ (zbU n) (zfT n):=rfl
theorem zBS (n:Nat):zfT (n+1)=zja (zhh n):=rfl
theorem zDy (n:Nat):zhh (n+1)=zj3 (zbk n) (zf4 n) (zbD n) (ze7 n):=rfl
theorem zDK (n:Nat):ze7 (n+1)=zjY (zf4 n):=rfl
theorem zic (n:Nat):zbO (n+1)=zbP (ziM n):=rfl
theorem ziC (n:Nat):zbU (n+1)=zbp (zfT n):=rfl
theorem zfn (n:Nat):zbk (n+1)=zbi (zf4 n):=rfl
theorem zgN (n:Nat):zbD (n+1)=zbF (ze7 n):=rfl
theorem zv4:∀ n,SdP 170 (zej (zf4 n))/\SdP 225 (zf2 (ziM n))/\SdP 104 (zf2 (zg9 n))/\SdP 166 (zeC (zfT n))/\SdP 106 (zhd (zhh n))/\SdP 172 (zeh (ze7 n))/\SdP 224 (zbQ (zbO n))/\SdP 165 (zbT (zbU n))/\SdP 169 (zbj (zbk n))/\SdP 171 (zbG (zbD n))
 | 0=>⟨zbs call170 (λ_=>rfl),zbs call225 (λ_=>rfl),zbs call104 (λ_=>rfl),zbs call166 (λ_=>rfl),zbs call106 (λ_=>rfl),zbs call172 (λ_=>rfl),zbs call224 (λ_=>rfl),zbs call165 (λ_=>rfl),zbs call169 (λ_=>rfl),zbs call171 (λ_=>rfl)⟩
 | n+1=>by
  have ih:=zv4 n;exact ⟨zF1 _ _ (ih.2.2.2.2.2.2.1) (ih.2.1),zCJ _ (ih.2.2.1),zBk _ _ (ih.2.2.2.2.2.2.2.1) (ih.2.2.2.1),zzx _ (ih.2.2.2.2.1),zBi _ _ _ _ (ih.2.2.2.2.2.2.2.2.1) (ih.1) (ih.2.2.2.2.2.2.2.2.2) (ih.2.2.2.2.2.1),zBe _ (ih.1),zhm _ (ih.2.1),zh0 _ (ih.2.2.2.1),zeV _ (ih.1),zf3 _ (ih.2.2.2.2.2.1)⟩
def zxT:yB->yB->Bool×Int:=zf4 1000
def zyJ:Ab.Spec ty:=zej zxT
theorem zJR:SdP 170 zyJ:=(zv4 1000).1
def zbX:Term->Term->Bool×Int:=zg9 1000
def ziz:Ab.Spec ty:=zf2 zbX
theorem zlg:SdP 104 ziz:=(zv4 1000).2.2.1
def ziE:At->At->Bool×Int:=zhh 1000
def zl3:Ab.Spec ty:=zhd ziE
theorem ztp:SdP 106 zl3:=(zv4 1000).2.2.2.2.1
def zY:Wd->Wd->Bool×Int:=ze7 1000
def zfD:Ab.Spec ty:=zeh zY
theorem zhH:SdP 172 zfD:=(zv4 1000).2.2.2.2.2.1
def zR2:=zbM base 9 [(170,zyJ)]
def zEt (a:yB) (b:yB):Wy0 (Bool):=.bn (zxT a b) λr0=>.k (r0==0)
def zf7 (a:yB) (b:yB):=(zEt a b).fin default
def znF:=zh zPj λx=>((zf7 x.1 x.2.1).1,zRy (zf7 x.1 x.2.1).2)
theorem ztd:SdP 115 znF:=
 sT (cx':=zR2) (zk ⟨zJR,trivial⟩) call115 func115 (lOK aN)
end Go.Proofs.YtoknknbmfmddbaaGreatDoor
end
