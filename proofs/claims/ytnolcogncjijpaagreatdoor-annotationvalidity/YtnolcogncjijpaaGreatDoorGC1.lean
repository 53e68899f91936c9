/- Texts of this claim, joined (the program, its functions in plain words, and what they compute). -/
import Derived.KernelRfl
import Derived.Shelf.Strconv.Itoa3
import Derived.Test.YtnolcogncjijpaaGreatDoorChecked
import Derived.Test.YtnolcogncjijpaaGreatDoorGA3
set_option autoImplicit false
set_option linter.unusedVariables false
set_option linter.unusedSectionVars false
set_option linter.unusedSimpArgs false
set_option maxRecDepth 1000000
set_option maxHeartbeats 0
/- The types of the program, as plain data. -/
noncomputable section
namespace Go.Proofs.YtnolcogncjijpaaGreatDoor
open Go Go.Ab
open Go.Proofs Go.Shelf
open Go.Proofs.Tryz
structure RowID where
 Table:Int
 Seq:Int
 deriving DecidableEq,Inhabited
structure Value where
 Kind:Int
 Int:Int
 Text:ByteArray
 deriving DecidableEq,Inhabited
structure FO (A:Type) where
 At:A
 Exp:Int
structure TO (A:Type) where
 Cf:Int
 Fs:List (FO A)
structure WO (A:Type) where
 Value:Value
 Ann:List (TO A)
structure At where
 Kind:Int
 Row:RowID
 Ag:List (List (TO At))
 Func:Int
 Items:List (WO At)
 Op:Int
 Bd:Value
abbrev Fc:=FO At
abbrev Term:=TO At
abbrev Wd:=WO At
instance:Inhabited At:=⟨⟨0,default,[],0,[],0,default⟩⟩
instance:Inhabited Fc:=⟨⟨default,0⟩⟩
instance:Inhabited Term:=⟨⟨0,[]⟩⟩
instance:Inhabited Wd:=⟨⟨default,[]⟩⟩
theorem At.eta (x:At):(⟨x.Kind,x.Row,x.Ag,x.Func,x.Items,x.Op,x.Bd⟩:At)=x:=by cases x; rfl
mutual
def zVU:(x y:At)->Decidable (x=y)
 | ⟨k,r,a,f,i,o,b⟩,⟨k',r',a',f',i',o',b'⟩=>
  match decEq k k',decEq r r',zVV a a',decEq f f',zUY i i',decEq o o',decEq b b' with
  | .isTrue h1,.isTrue h2,.isTrue h3,.isTrue h4,.isTrue h5,.isTrue h6,.isTrue h7=>.isTrue (by subst h1 h2 h3 h4 h5 h6 h7; rfl)
  | .isFalse h,_,_,_,_,_,_=>.isFalse (λe=>by cases e; exact h rfl)
  | _,.isFalse h,_,_,_,_,_=>.isFalse (λe=>by cases e; exact h rfl)
  | _,_,.isFalse h,_,_,_,_=>.isFalse (λe=>by cases e; exact h rfl)
  | _,_,_,.isFalse h,_,_,_=>.isFalse (λe=>by cases e; exact h rfl)
  | _,_,_,_,.isFalse h,_,_=>.isFalse (λe=>by cases e; exact h rfl)
  | _,_,_,_,_,.isFalse h,_=>.isFalse (λe=>by cases e; exact h rfl)
  | _,_,_,_,_,_,.isFalse h=>.isFalse (λe=>by cases e; exact h rfl)
def zSS:(x y:Fc)->Decidable (x=y)
 | ⟨a,e⟩,⟨a',e'⟩=>match zVU a a',decEq e e' with
  | .isTrue h1,.isTrue h2=>.isTrue (by subst h1 h2; rfl)
  | .isFalse h,_=>.isFalse (λe=>by cases e; exact h rfl)
  | _,.isFalse h=>.isFalse (λe=>by cases e; exact h rfl)
def zQH:(x y:List Fc)->Decidable (x=y)
 | [],[]=>.isTrue rfl
 | [],_::_=>.isFalse (by simp)
 | _::_,[]=>.isFalse (by simp)
 | x::r,y::s=>match zSS x y,zQH r s with
  | .isTrue h1,.isTrue h2=>.isTrue (by subst h1 h2; rfl)
  | .isFalse h,_=>.isFalse (λe=>by cases e; exact h rfl)
  | _,.isFalse h=>.isFalse (λe=>by cases e; exact h rfl)
def zV0:(x y:Term)->Decidable (x=y)
 | ⟨a,e⟩,⟨a',e'⟩=>match decEq a a',zQH e e' with
  | .isTrue h1,.isTrue h2=>.isTrue (by subst h1 h2; rfl)
  | .isFalse h,_=>.isFalse (λe=>by cases e; exact h rfl)
  | _,.isFalse h=>.isFalse (λe=>by cases e; exact h rfl)
def zU3:(x y:List Term)->Decidable (x=y)
 | [],[]=>.isTrue rfl
 | [],_::_=>.isFalse (by simp)
 | _::_,[]=>.isFalse (by simp)
 | x::r,y::s=>match zV0 x y,zU3 r s with
  | .isTrue h1,.isTrue h2=>.isTrue (by subst h1 h2; rfl)
  | .isFalse h,_=>.isFalse (λe=>by cases e; exact h rfl)
  | _,.isFalse h=>.isFalse (λe=>by cases e; exact h rfl)
def zVV:(x y:List (List Term))->Decidable (x=y)
 | [],[]=>.isTrue rfl
 | [],_::_=>.isFalse (by simp)
 | _::_,[]=>.isFalse (by simp)
 | x::r,y::s=>match zU3 x y,zVV r s with
  | .isTrue h1,.isTrue h2=>.isTrue (by subst h1 h2; rfl)
  | .isFalse h,_=>.isFalse (λe=>by cases e; exact h rfl)
  | _,.isFalse h=>.isFalse (λe=>by cases e; exact h rfl)
def zWe:(x y:Wd)->Decidable (x=y)
 | ⟨a,e⟩,⟨a',e'⟩=>match decEq a a',zU3 e e' with
  | .isTrue h1,.isTrue h2=>.isTrue (by subst h1 h2; rfl)
  | .isFalse h,_=>.isFalse (λe=>by cases e; exact h rfl)
  | _,.isFalse h=>.isFalse (λe=>by cases e; exact h rfl)
def zUY:(x y:List Wd)->Decidable (x=y)
 | [],[]=>.isTrue rfl
 | [],_::_=>.isFalse (by simp)
 | _::_,[]=>.isFalse (by simp)
 | x::r,y::s=>match zWe x y,zUY r s with
  | .isTrue h1,.isTrue h2=>.isTrue (by subst h1 h2; rfl)
  | .isFalse h,_=>.isFalse (λe=>by cases e; exact h rfl)
  | _,.isFalse h=>.isFalse (λe=>by cases e; exact h rfl)
end
instance:DecidableEq At:=zVU
instance:DecidableEq Fc:=zSS
instance:DecidableEq Term:=zV0
instance:DecidableEq Wd:=zWe
structure Bg where
 Row:RowID
 To:List Term
 deriving DecidableEq,Inhabited
abbrev yA:=List (List Term)
abbrev yB:=List Term
abbrev yC:=List Fc
abbrev yD:=List Wd
abbrev yE:=List RowID
abbrev yF:=List Bg
abbrev yG:=List Value
def ty:Nat->Type
 | 2=>Int
 | 3=>Int
 | 4=>Bool
 | 5=>Int
 | 9=>ByteArray
 | 22=>yB
 | 23=>yB
 | 25=>RowID
 | 28=>Int
 | 40=>yC
 | 42=>Term
 | 43=>yA
 | 44=>yD
 | 46=>Value
 | 48=>At
 | 50=>Fc
 | 52=>Wd
 | 59=>yF
 | 65=>yE
 | 69=>Bg
 | 106=>Unit
 | 128=>List Int
 | 136=>List ByteArray
 | 143=>Int
 | 144=>List (yC)
 | _=>Unit
instance:(T:Nat)->Inhabited (ty T):=λT=>by
 unfold ty;split <;>infer_instance
def zYN:DT ty RowID:=zJM (λx=>⟨x.1,x.2⟩) (λx=>(x.Table,x.Seq)) (λ_=>rfl) (zqt (zsU .i64) (zsU .i64))
def zYl:DT ty Value:=zJM (λx=>⟨x.1,x.2.1,x.2.2⟩) (λx=>(x.Kind,x.Int,x.Text)) (λ_=>rfl) (zqt (zsU .i64) (zqt (zsU .i64) (zZo)))
def z0U:DT ty At:=zJM (λx=>⟨x.1,x.2.1,x.2.2.1,x.2.2.2.1,x.2.2.2.2.1,x.2.2.2.2.2.1,x.2.2.2.2.2.2⟩) (λx=>(x.Kind,x.Row,x.Ag,x.Func,x.Items,x.Op,x.Bd)) (λ_=>rfl) (zqt (zsU .i64) (zqt (zYN) (zqt (zvi 23) (zqt (zsU .i64) (zqt (zvi 52) (zqt (zsU .i64) (zYl)))))))
def z1w:DT ty Fc:=zJM (λx=>⟨x.1,x.2⟩) (λx=>(x.At,x.Exp)) (λ_=>rfl) (zqt (z0U) (zsU .i64))
def z1E:DT ty Term:=zJM (λx=>⟨x.1,x.2⟩) (λx=>(x.Cf,x.Fs)) (λ_=>rfl) (zqt (zsU .i64) (zvi 50))
def z1m:DT ty Wd:=zJM (λx=>⟨x.1,x.2⟩) (λx=>(x.Value,x.Ann)) (λ_=>rfl) (zqt (zYl) (zvi 42))
def z1C:DT ty Bg:=zJM (λx=>⟨x.1,x.2⟩) (λx=>(x.Row,x.To)) (λ_=>rfl) (zqt (zYN) (zvi 42))
def zQr:List ((T:Nat)×DT ty (ty T)):=[⟨2,(zsU .i64:DT ty Int)⟩,⟨3,(zsU .i64:DT ty Int)⟩,⟨4,(z0F:DT ty Bool)⟩,⟨5,(zsU .u8:DT ty Int)⟩,⟨9,(zZo:DT ty ByteArray)⟩,⟨22,(zvi 42:DT ty (yB))⟩,⟨23,(zvi 42:DT ty (yB))⟩,⟨25,(zYN:DT ty RowID)⟩,⟨28,(zsU .i64:DT ty Int)⟩,⟨40,(zvi 50:DT ty (yC))⟩,⟨42,(z1E:DT ty Term)⟩,⟨43,(zvi 23:DT ty (yA))⟩,⟨44,(zvi 52:DT ty (yD))⟩,⟨46,(zYl:DT ty Value)⟩,⟨48,(z0U:DT ty At)⟩,⟨50,(z1w:DT ty Fc)⟩,⟨52,(z1m:DT ty Wd)⟩,⟨59,(zvi 69:DT ty (yF))⟩,⟨65,(zvi 25:DT ty (yE))⟩,⟨69,(z1C:DT ty Bg)⟩,⟨106,(z1r:DT ty Unit)⟩,⟨128,(zvi 3:DT ty (List Int))⟩,⟨136,(zvi 9:DT ty (List ByteArray))⟩,⟨143,(zsU .u64:DT ty Int)⟩,⟨144,(zvi 40:DT ty (List (yC)))⟩]
def zTM:List (Nat×TInfo):=[(2,⟨.int .i64,1,8,[.int .i64 (0)]⟩),
 (3,⟨.int .i64,1,8,[.int .i64 (0)]⟩),
 (4,⟨.bool,1,1,[.bool false]⟩),
 (5,⟨.int .u8,1,1,[.int .u8 (0)]⟩),
 (9,⟨.str,1,16,[.string ⟨#[]⟩]⟩),
 (22,⟨.slice 42,1,24,[.slice none 0 0]⟩),
 (23,⟨.slice 42,1,24,[.slice none 0 0]⟩),
 (25,⟨.struct [(0,3),(1,3)],2,16,[.int .i64 (0),.int .i64 (0)]⟩),
 (28,⟨.int .i64,1,8,[.int .i64 (0)]⟩),
 (40,⟨.slice 50,1,24,[.slice none 0 0]⟩),
 (42,⟨.struct [(0,2),(1,40)],2,32,[.int .i64 (0),.slice none 0 0]⟩),
 (43,⟨.slice 23,1,24,[.slice none 0 0]⟩),
 (44,⟨.slice 52,1,24,[.slice none 0 0]⟩),
 (46,⟨.struct [(0,3),(1,2),(2,9)],3,32,[.int .i64 (0),.int .i64 (0),.string ⟨#[]⟩]⟩),
 (48,⟨.struct [(0,3),(1,25),(3,43),(4,3),(5,44),(6,3),(7,46)],10,120,[.int .i64 (0),.int .i64 (0),.int .i64 (0),.slice none 0 0,.int .i64 (0),.slice none 0 0,.int .i64 (0),.int .i64 (0),.int .i64 (0),.string ⟨#[]⟩]⟩),
 (50,⟨.struct [(0,48),(10,3)],11,128,[.int .i64 (0),.int .i64 (0),.int .i64 (0),.slice none 0 0,.int .i64 (0),.slice none 0 0,.int .i64 (0),.int .i64 (0),.int .i64 (0),.string ⟨#[]⟩,.int .i64 (0)]⟩),
 (52,⟨.struct [(0,46),(3,23)],4,56,[.int .i64 (0),.int .i64 (0),.string ⟨#[]⟩,.slice none 0 0]⟩),
 (59,⟨.slice 69,1,24,[.slice none 0 0]⟩),
 (65,⟨.slice 25,1,24,[.slice none 0 0]⟩),
 (69,⟨.struct [(0,25),(2,23)],3,40,[.int .i64 (0),.int .i64 (0),.slice none 0 0]⟩),
 (106,⟨.map 9 3,1,8,[.map none]⟩),
 (128,⟨.slice 3,1,24,[.slice none 0 0]⟩),
 (136,⟨.slice 9,1,24,[.slice none 0 0]⟩),
 (143,⟨.int .u64,1,8,[.int .u64 (0)]⟩),
 (144,⟨.slice 40,1,24,[.slice none 0 0]⟩)]
def zMM:List (Nat×List TD):=[(25,[.int .i64,.int .i64]),(46,[.int .i64,.int .i64,.str])]
def inv (w:World):Prop:=Lib.TabIs Tryz.prog w "internal/strconv.uint64pow10" .u64 Lib.pow10Tab/\(∃ m,w.cell? ⟨0,0,none⟩=some (.int .i64 m))
theorem zYo {n:String} {g:Nat} {w w':World} (hg:Tryz.prog.globalNamed n=some g) (h:w'.heap[g]? =w.heap[g]?):w'.var? Tryz.prog n=w.var? Tryz.prog n:=by
 unfold World.var?; rw [hg]; simp only [Option.bind_some,h]
theorem zWu (w w':World) (hi:inv w) (hb:∀ b,b<4->w'.heap[b]? =w.heap[b]?):inv w':=by
 obtain ⟨h1,⟨m,h2⟩⟩:=hi;refine ⟨(zYo (g:=1) (by kernel_rfl) (hb 1 (by omega))).trans h1,⟨m, ?_⟩⟩
 rw [<- h2]; exact World.cell?_of_block (a:=⟨0,0,none⟩) (hb 0 (by omega))
def base:Cx ty:={ ti:=λT=>zTM.lookup T,dflt:=λ_=>default,enc:=λT=>(zUJ zQr T).enc,dec:=λT=>(zUJ zQr T).dec,spec:=λ_=>none,io:=λ_=>[],eqs:=λT us vs=>match zMM.lookup T with | some ts=>zba ts us vs | none=>none,nt:=0,head:=λ_=>[],out:=λ_ _=>[],loops:=λ_=>none,ng:=4,inv:=inv }
theorem zW9:Tryz.prog.info? 2=some Tryz.t2:=by kernel_rfl
theorem zE4:Tryz.prog.info? 3=some Tryz.t3:=by kernel_rfl
theorem z0Y:Tryz.prog.info? 4=some Tryz.t4:=by kernel_rfl
theorem z0V:Tryz.prog.info? 5=some Tryz.t5:=by kernel_rfl
theorem zZn:Tryz.prog.info? 9=some Tryz.t9:=by kernel_rfl
theorem z0o:Tryz.prog.info? 22=some Tryz.t22:=by kernel_rfl
theorem zT7:Tryz.prog.info? 23=some Tryz.t23:=by kernel_rfl
theorem zVe:Tryz.prog.info? 25=some Tryz.t25:=by kernel_rfl
theorem z0g:Tryz.prog.info? 28=some Tryz.t28:=by kernel_rfl
theorem zXM:Tryz.prog.info? 40=some Tryz.t40:=by kernel_rfl
theorem z0l:Tryz.prog.info? 42=some Tryz.t42:=by kernel_rfl
theorem zXO:Tryz.prog.info? 43=some Tryz.t43:=by kernel_rfl
theorem zX1:Tryz.prog.info? 44=some Tryz.t44:=by kernel_rfl
theorem zT3:Tryz.prog.info? 46=some Tryz.t46:=by kernel_rfl
theorem zXG:Tryz.prog.info? 48=some Tryz.t48:=by kernel_rfl
theorem z0j:Tryz.prog.info? 50=some Tryz.t50:=by kernel_rfl
theorem z0N:Tryz.prog.info? 52=some Tryz.t52:=by kernel_rfl
theorem z0p:Tryz.prog.info? 59=some Tryz.t59:=by kernel_rfl
theorem z0M:Tryz.prog.info? 65=some Tryz.t65:=by kernel_rfl
theorem z0R:Tryz.prog.info? 69=some Tryz.t69:=by kernel_rfl
theorem zZU:Tryz.prog.info? 106=some Tryz.t106:=by kernel_rfl
theorem zZT:Tryz.prog.info? 128=some Tryz.t128:=by kernel_rfl
theorem zZV:Tryz.prog.info? 136=some Tryz.t136:=by kernel_rfl
theorem zZq:Tryz.prog.info? 143=some Tryz.t143:=by kernel_rfl
theorem zZI:Tryz.prog.info? 144=some Tryz.t144:=by kernel_rfl
theorem zZB:∀ T i,zTM.lookup T=some i->InfoOK Tryz.prog T i:=by
 intro T i h;have h:=zBb _ _ _ h;simp only [zTM,qd,List.not_mem_nil,or_false,qb] at h;rcases h with ⟨rfl,rfl⟩ | ⟨rfl,rfl⟩ | ⟨rfl,rfl⟩ | ⟨rfl,rfl⟩ | ⟨rfl,rfl⟩ | ⟨rfl,rfl⟩ | ⟨rfl,rfl⟩ | ⟨rfl,rfl⟩ | ⟨rfl,rfl⟩ | ⟨rfl,rfl⟩ | ⟨rfl,rfl⟩ | ⟨rfl,rfl⟩ | ⟨rfl,rfl⟩ | ⟨rfl,rfl⟩ | ⟨rfl,rfl⟩ | ⟨rfl,rfl⟩ | ⟨rfl,rfl⟩ | ⟨rfl,rfl⟩ | ⟨rfl,rfl⟩ | ⟨rfl,rfl⟩ | ⟨rfl,rfl⟩ | ⟨rfl,rfl⟩ | ⟨rfl,rfl⟩ | ⟨rfl,rfl⟩ | ⟨rfl,rfl⟩
 ·exact ⟨Tryz.t2,_,_,zW9,underlying2,rfl,rfl,rfl,rfl,rfl,⟨by simp [zb7],λ_=>rfl⟩,rfl⟩
 ·exact ⟨Tryz.t3,_,_,zE4,underlying3,rfl,rfl,rfl,rfl,rfl,⟨by simp [zb7],λ_=>rfl⟩,rfl⟩
 ·exact ⟨Tryz.t4,_,_,z0Y,underlying4,rfl,rfl,rfl,rfl,rfl,⟨by simp [zb7],λ_=>rfl⟩,rfl⟩
 ·exact ⟨Tryz.t5,_,_,z0V,underlying5,rfl,rfl,rfl,rfl,rfl,⟨by simp [zb7],λ_=>rfl⟩,rfl⟩
 ·exact ⟨Tryz.t9,_,_,zZn,underlying9,rfl,rfl,rfl,rfl,rfl,⟨by simp [zb7],λ_=>rfl⟩,rfl⟩
 ·exact ⟨Tryz.t22,_,_,z0o,underlying22,rfl,rfl,rfl,rfl,rfl,⟨by simp [zb7],λ_=>rfl⟩,rfl⟩
 ·exact ⟨Tryz.t23,_,_,zT7,underlying23,rfl,rfl,rfl,rfl,rfl,⟨by simp [zb7],λ_=>rfl⟩,rfl⟩
 ·exact ⟨Tryz.t25,_,_,zVe,underlying25,rfl,rfl,rfl,rfl,rfl,⟨by simp [zb7],λh=>by cases h⟩,⟨_,rfl,rfl,λf hf=>by
   simp only [qd,List.not_mem_nil,or_false] at hf;rcases hf with rfl | rfl
   ·exact Option.isSome_iff_exists.2 ⟨_,zE4⟩
   ·exact Option.isSome_iff_exists.2 ⟨_,zE4⟩⟩⟩
 ·exact ⟨Tryz.t28,_,_,z0g,underlying28,rfl,rfl,rfl,rfl,rfl,⟨by simp [zb7],λ_=>rfl⟩,rfl⟩
 ·exact ⟨Tryz.t40,_,_,zXM,underlying40,rfl,rfl,rfl,rfl,rfl,⟨by simp [zb7],λ_=>rfl⟩,rfl⟩
 ·exact ⟨Tryz.t42,_,_,z0l,underlying42,rfl,rfl,rfl,rfl,rfl,⟨by simp [zb7],λh=>by cases h⟩,⟨_,rfl,rfl,λf hf=>by
   simp only [qd,List.not_mem_nil,or_false] at hf;rcases hf with rfl | rfl
   ·exact Option.isSome_iff_exists.2 ⟨_,zW9⟩
   ·exact Option.isSome_iff_exists.2 ⟨_,zXM⟩⟩⟩
 ·exact ⟨Tryz.t43,_,_,zXO,underlying43,rfl,rfl,rfl,rfl,rfl,⟨by simp [zb7],λ_=>rfl⟩,rfl⟩
 ·exact ⟨Tryz.t44,_,_,zX1,underlying44,rfl,rfl,rfl,rfl,rfl,⟨by simp [zb7],λ_=>rfl⟩,rfl⟩
 ·exact ⟨Tryz.t46,_,_,zT3,underlying46,rfl,rfl,rfl,rfl,rfl,⟨by simp [zb7],λh=>by cases h⟩,⟨_,rfl,rfl,λf hf=>by
   simp only [qd,List.not_mem_nil,or_false] at hf;rcases hf with rfl | rfl | rfl
   ·exact Option.isSome_iff_exists.2 ⟨_,zE4⟩
   ·exact Option.isSome_iff_exists.2 ⟨_,zW9⟩
   ·exact Option.isSome_iff_exists.2 ⟨_,zZn⟩⟩⟩
 ·exact ⟨Tryz.t48,_,_,zXG,underlying48,rfl,rfl,rfl,rfl,rfl,⟨by simp [zb7],λh=>by cases h⟩,⟨_,rfl,rfl,λf hf=>by
   simp only [qd,List.not_mem_nil,or_false] at hf;rcases hf with rfl | rfl | rfl | rfl | rfl | rfl | rfl
   ·exact Option.isSome_iff_exists.2 ⟨_,zE4⟩
   ·exact Option.isSome_iff_exists.2 ⟨_,zVe⟩
   ·exact Option.isSome_iff_exists.2 ⟨_,zXO⟩
   ·exact Option.isSome_iff_exists.2 ⟨_,zE4⟩
   ·exact Option.isSome_iff_exists.2 ⟨_,zX1⟩
   ·exact Option.isSome_iff_exists.2 ⟨_,zE4⟩
   ·exact Option.isSome_iff_exists.2 ⟨_,zT3⟩⟩⟩
 ·exact ⟨Tryz.t50,_,_,z0j,underlying50,rfl,rfl,rfl,rfl,rfl,⟨by simp [zb7],λh=>by cases h⟩,⟨_,rfl,rfl,λf hf=>by
   simp only [qd,List.not_mem_nil,or_false] at hf;rcases hf with rfl | rfl
   ·exact Option.isSome_iff_exists.2 ⟨_,zXG⟩
   ·exact Option.isSome_iff_exists.2 ⟨_,zE4⟩⟩⟩
 ·exact ⟨Tryz.t52,_,_,z0N,underlying52,rfl,rfl,rfl,rfl,rfl,⟨by simp [zb7],λh=>by cases h⟩,⟨_,rfl,rfl,λf hf=>by
   simp only [qd,List.not_mem_nil,or_false] at hf;rcases hf with rfl | rfl
   ·exact Option.isSome_iff_exists.2 ⟨_,zT3⟩
   ·exact Option.isSome_iff_exists.2 ⟨_,zT7⟩⟩⟩
 ·exact ⟨Tryz.t59,_,_,z0p,underlying59,rfl,rfl,rfl,rfl,rfl,⟨by simp [zb7],λ_=>rfl⟩,rfl⟩
 ·exact ⟨Tryz.t65,_,_,z0M,underlying65,rfl,rfl,rfl,rfl,rfl,⟨by simp [zb7],λ_=>rfl⟩,rfl⟩
 ·exact ⟨Tryz.t69,_,_,z0R,underlying69,rfl,rfl,rfl,rfl,rfl,⟨by simp [zb7],λh=>by cases h⟩,⟨_,rfl,rfl,λf hf=>by
   simp only [qd,List.not_mem_nil,or_false] at hf;rcases hf with rfl | rfl
   ·exact Option.isSome_iff_exists.2 ⟨_,zVe⟩
   ·exact Option.isSome_iff_exists.2 ⟨_,zT7⟩⟩⟩
 ·exact ⟨Tryz.t106,_,_,zZU,underlying106,rfl,rfl,rfl,rfl,rfl,⟨by simp [zb7],λ_=>rfl⟩,rfl⟩
 ·exact ⟨Tryz.t128,_,_,zZT,underlying128,rfl,rfl,rfl,rfl,rfl,⟨by simp [zb7],λ_=>rfl⟩,rfl⟩
 ·exact ⟨Tryz.t136,_,_,zZV,underlying136,rfl,rfl,rfl,rfl,rfl,⟨by simp [zb7],λ_=>rfl⟩,rfl⟩
 ·exact ⟨Tryz.t143,_,_,zZq,underlying143,rfl,rfl,rfl,rfl,rfl,⟨by simp [zb7],λ_=>rfl⟩,rfl⟩
 ·exact ⟨Tryz.t144,_,_,zZI,underlying144,rfl,rfl,rfl,rfl,rfl,⟨by simp [zb7],λ_=>rfl⟩,rfl⟩
theorem zYn:∀ T us vs b,(match zMM.lookup T with | some ts=>zba ts us vs | none=>none)=some b->∀ w,zWo Tryz.prog T us vs b w:=by
 intro T us vs b h w;split at h
 ·rename_i ts hl;have hl:=zBb _ _ _ hl;simp only [zMM,qd,List.not_mem_nil,or_false,qb] at hl;rcases hl with ⟨rfl,rfl⟩ | ⟨rfl,rfl⟩
  ·refine zQk _ _ underlying25 (by kernel_rfl) (by kernel_rfl) rfl ?_ h w
   intro j f t hj ht;rcases j with _ | j
   ·simp at hj ht; subst hj ht; exact ⟨rfl,by decide,_,underlying3,rfl⟩
   rcases j with _ | j
   ·simp at hj ht; subst hj ht; exact ⟨rfl,by decide,_,underlying3,rfl⟩
   simp at hj
  ·refine zQk _ _ underlying46 (by kernel_rfl) (by kernel_rfl) rfl ?_ h w
   intro j f t hj ht;rcases j with _ | j
   ·simp at hj ht; subst hj ht; exact ⟨rfl,by decide,_,underlying3,rfl⟩
   rcases j with _ | j
   ·simp at hj ht; subst hj ht; exact ⟨rfl,by decide,_,underlying2,rfl⟩
   rcases j with _ | j
   ·simp at hj ht; subst hj ht; exact ⟨rfl,by decide,_,underlying9,rfl⟩
   simp at hj
 ·cases h
theorem zYB:∀ T us vs,base.eqs T us us=some true->base.eqs T vs vs=some true->base.eqs T us vs=some (zrT us vs)/\(zrT us vs=true->us=vs)/\∀ u∈us,∀ n,Instr.sameBits n u u=true:=by
 intro T us vs h1 h2;simp only [base] at h1 h2 ⊢;cases hl:zMM.lookup T with
 | none=>rw [hl] at h1; cases h1
 | some ts=>rw [hl] at h1 h2; exact zQB ts us vs h1 h2
theorem zYQ:∀ T us b,base.eqs T us us=some b->b=true:=by
 intro T us b h;simp only [base] at h;cases hl:zMM.lookup T with
 | none=>rw [hl] at h; cases h
 | some ts=>rw [hl] at h; exact zOT ts us b h
abbrev SdP:=Sound Tryz.prog base
theorem zeA:CxOK Tryz.prog base:={ ti:=zZB,len:=(λT x=>by rw [show zl base T=_ from (zUn zQr zTM rfl T).symm]; exact DT.len _ x),cell:=(λT x c h=>by have:=DT.cell _ _ c h; revert this; cases c <;>exact id),dec:=(λT cs x h F w us hr=>DT.ok _ base F w us cs x h hr),eqs:=zYn,eqk:=zYB,eqr:=zYQ,stable:=zWu }
def zbK:Cx ty:={ base with dr:=false }
theorem zJw:CxOK Tryz.prog zbK:=CxOK.cg (cx:=base) (cx':=zbK) ⟨rfl,rfl,rfl,rfl,rfl,rfl⟩ zeA
theorem ztY:Tryz.prog.follows .mixedOrders=true:=by kernel_rfl
theorem sT {cx':Cx ty} {α ρ:Type} (hspec:∀ g s,cx'.spec g=some s->SdP g s) {f:Nat} {fn:Func} (hent:∀ args w,(callFunc f args).run Tryz.prog w=.ok (.enter f args) w) (hf:Tryz.prog.funcs[f]? =some fn) (hl:zfn cx' (body fn)) (sg:Sig:=⟨[.pure],[]⟩) {A:AL base α} {res:ρ->ARes ty} {W:α->Wy0 ρ} {z:ρ}
  (hb:fn.body=some (body fn):=by kernel_rfl)
  (hrun:∀ x,ze0 cx' fn (body fn) sg (A.enc x)=(W x).ev noH (λr=>some (res r)) none:=by intro _; kernel_rfl)
  (hchk:∀ x,(Nat.ble (A.enc x).length fn.ntmps&&zDh (body fn) (A.enc x) sg.upd)=true:=by intro _; kernel_rfl) (hsame:base.Same cx':=by exact zG5):
  SdP f (zi A λx=>(((W x).fin z).1,res ((W x).fin z).2)):=sW ztY zeA hsame hspec hent hf hl sg hb hrun hchk
theorem sU {cx':Cx ty} {α ρ:Type} (hspec:∀ g s,cx'.spec g=some s->Sound Tryz.prog zbK g s) {f:Nat} {fn:Func} (hent:∀ args w,(callFunc f args).run Tryz.prog w=.ok (.enter f args) w) (hf:Tryz.prog.funcs[f]? =some fn) (hl:zfn cx' (body fn)) (sg:Sig:=⟨[.pure],[]⟩) {A:AL zbK α} {res:ρ->ARes ty} {W:α->Wy0 ρ} {z:ρ}
  (hb:fn.body=some (body fn):=by kernel_rfl)
  (hrun:∀ x,ze0 cx' fn (body fn) sg (A.enc x)=(W x).ev noH (λr=>some (res r)) none:=by intro _; kernel_rfl)
  (hchk:∀ x,(Nat.ble (A.enc x).length fn.ntmps&&zDh (body fn) (A.enc x) sg.upd)=true:=by intro _; kernel_rfl) (hsame:zbK.Same cx':=by exact zG5):
  Sound Tryz.prog zbK f (zi A λx=>(((W x).fin z).1,res ((W x).fin z).2)):=sW ztY zJw hsame hspec hent hf hl sg hb hrun hchk
end Go.Proofs.YtnolcogncjijpaaGreatDoor
/- What is read of an argument, as typed data. -/
namespace Go.Proofs.YtnolcogncjijpaaGreatDoor
open Go Go.Ab
open Go.Proofs.Tryz
def wf2 (x:Int):Prop:=(Lit.int .i64 x).wf=true
def wf3 (x:Int):Prop:=(Lit.int .i64 x).wf=true
def wf4 (x:Bool):Prop:=True
def wf5 (x:Int):Prop:=(Lit.int .u8 x).wf=true
def wf9 (x:ByteArray):Prop:=ByteArray.size x<=zby
def zWI (x:RowID):Prop:=wf3 x.Table/\wf3 x.Seq
def zUS (x:Value):Prop:=wf3 x.Kind/\wf2 x.Int/\wf9 x.Text
mutual
def ztC:At->Prop
 | ⟨k,r,a,f,i,o,b⟩=>wf3 k/\zWI r/\(zw6 a/\a.length<=zby)/\wf3 f/\(ztN i/\i.length<=zby)/\wf3 o/\zUS b
def zty:Fc->Prop
 | ⟨a,e⟩=>ztC a/\wf3 e
def zoM:yC->Prop
 | []=>True
 | x::r=>zty x/\zoM r
def zy4:Term->Prop
 | ⟨c,f⟩=>wf2 c/\(zoM f/\f.length<=zby)
def zjY:yB->Prop
 | []=>True
 | x::r=>zy4 x/\zjY r
def zw6:yA->Prop
 | []=>True
 | x::r=>(zjY x/\x.length<=zby)/\zw6 r
def zHS:Wd->Prop
 | ⟨v,a⟩=>zUS v/\(zjY a/\a.length<=zby)
def ztN:yD->Prop
 | []=>True
 | x::r=>zHS x/\ztN r
end
theorem zMV:∀ l:yC,(∀ x∈l,zty x)->zoM l
 | [],_=>by unfold zoM; trivial
 | x::r,h=>by unfold zoM; exact ⟨h x (by simp),zMV r λy hy=>h y (by simp [hy])⟩
theorem zUz:∀ l:yB,(∀ x∈l,zy4 x)->zjY l
 | [],_=>by unfold zjY; trivial
 | x::r,h=>by unfold zjY; exact ⟨h x (by simp),zUz r λy hy=>h y (by simp [hy])⟩
theorem zSI:∀ l:yA,(∀ x∈l,zjY x/\x.length<=zby)->zw6 l
 | [],_=>by unfold zw6; trivial
 | x::r,h=>by unfold zw6; exact ⟨h x (by simp),zSI r λy hy=>h y (by simp [hy])⟩
theorem zQn:∀ l:yD,(∀ x∈l,zHS x)->ztN l
 | [],_=>by unfold ztN; trivial
 | x::r,h=>by unfold ztN; exact ⟨h x (by simp),zQn r λy hy=>h y (by simp [hy])⟩
def zXf (x:yB):Prop:=zjY x/\List.length x<=zby
def z1v (x:yC):Prop:=zoM x/\List.length x<=zby
def z1A (x:Term):Prop:=zy4 x
def z1x (x:yA):Prop:=zw6 x/\List.length x<=zby
def z1y (x:yD):Prop:=ztN x/\List.length x<=zby
def z1p (x:At):Prop:=ztC x
def z1l (x:Fc):Prop:=zty x
def z1F (x:Wd):Prop:=zHS x
def z0O (x:Bg):Prop:=zWI x.Row/\zXf x.To
def z1G (x:yF):Prop:=(∀ y∈x,z0O y)/\List.length x<=zby
def wf (T:Nat):ty T->Prop:=match T with
 | 2=>wf2
 | 3=>wf3
 | 4=>wf4
 | 5=>wf5
 | 9=>wf9
 | 23=>zXf
 | 25=>zWI
 | 40=>z1v
 | 42=>z1A
 | 43=>z1x
 | 44=>z1y
 | 46=>zUS
 | 48=>z1p
 | 50=>z1l
 | 52=>z1F
 | 59=>z1G
 | 69=>z0O
 | _=>λ_=>True
theorem zXo:ztU Tryz.prog base wf 2:=zS6 underlying2 (λn=>n) (λ_=>rfl) (λ_ h=>h)
theorem zCJ:ztU Tryz.prog base wf 3:=zS6 underlying3 (λn=>n) (λ_=>rfl) (λ_ h=>h)
theorem z0J:ztU Tryz.prog base wf 9:=zXU underlying9 (λn=>n) (λ_=>rfl) (λ_ h=>h)
theorem zZX:ztU Tryz.prog base wf 25:=by
 intro H en w sp held fuel cs y h hz;obtain ⟨xs,n,_,hy,hl,hlen,hf⟩:=DataW.trod_struct underlying25 h;have hs:=zmB underlying25 hy hz;obtain ⟨x0,h0,w0⟩:=zuO (off:=0) zCJ (by kernel_rfl) hlen hf hs 0 _ rfl rfl rfl
 obtain ⟨x1,h1,w1⟩:=zuO (off:=1) zCJ (by kernel_rfl) hlen hf hs 1 _ rfl rfl rfl
 have hl:cs.length=2:=hl.trans (by kernel_rfl)
 have:=zhO h0 (zyn h1 hl);exact ⟨(⟨x0,x1⟩:RowID),this,⟨w0,w1⟩⟩
theorem zVZ:ztU Tryz.prog base wf 46:=by
 intro H en w sp held fuel cs y h hz;obtain ⟨xs,n,_,hy,hl,hlen,hf⟩:=DataW.trod_struct underlying46 h;have hs:=zmB underlying46 hy hz;obtain ⟨x0,h0,w0⟩:=zuO (off:=0) zCJ (by kernel_rfl) hlen hf hs 0 _ rfl rfl rfl
 obtain ⟨x1,h1,w1⟩:=zuO (off:=1) zXo (by kernel_rfl) hlen hf hs 1 _ rfl rfl rfl
 obtain ⟨x2,h2,w2⟩:=zuO (off:=2) z0J (by kernel_rfl) hlen hf hs 2 _ rfl rfl rfl
 have hl:cs.length=3:=hl.trans (by kernel_rfl)
 have:=zhO h0 (zhO h1 (zyn h2 hl));exact ⟨(⟨x0,x1,x2⟩:Value),this,⟨w0,w1,w2⟩⟩
theorem zUA:∀ m,zoN Tryz.prog base wf m 23/\zoN Tryz.prog base wf m 40/\zoN Tryz.prog base wf m 42/\zoN Tryz.prog base wf m 43/\zoN Tryz.prog base wf m 44/\zoN Tryz.prog base wf m 48/\zoN Tryz.prog base wf m 50/\zoN Tryz.prog base wf m 52
 | 0=>⟨zmo,zmo,zmo,zmo,zmo,zmo,zmo,zmo⟩
 | m+1=>by
  obtain ⟨h23,h40,h42,h43,h44,h48,h50,h52⟩:=zUA m;refine ⟨?_, ?_, ?_, ?_, ?_, ?_, ?_, ?_⟩
  ·exact zw2 zeA underlying23 (by kernel_rfl) (by decide) (λl=>l) (λ_=>rfl) (of_decide_eq_true (by kernel_rfl)) h42 (λl h h2=>⟨zUz l h,h2⟩)
  ·exact zw2 zeA underlying40 (by kernel_rfl) (by decide) (λl=>l) (λ_=>rfl) (of_decide_eq_true (by kernel_rfl)) h50 (λl h h2=>⟨zMV l h,h2⟩)
  ·intro H en w sp held fuel cs y hfu h hz;obtain ⟨xs,n,hn,hy,hl,hlen,hf⟩:=DataW.trod_struct underlying42 h;have hs:=zmB underlying42 hy hz;have hn:n<=m:=by omega
   obtain ⟨x0,hx0,w0⟩:=zep (off:=0) (zXo.at m) (by kernel_rfl) hn hlen hf hs 0 _ rfl rfl rfl
   obtain ⟨x1,hx1,w1⟩:=zep (off:=1) h40 (by kernel_rfl) hn hlen hf hs 1 _ rfl rfl rfl
   have hl:cs.length=2:=hl.trans (by kernel_rfl)
   have:=zhO hx0 (zyn hx1 hl);exact ⟨(⟨x0,x1⟩:Term),this,by show zy4 (⟨x0,x1⟩:Term); unfold zy4; exact ⟨w0,w1⟩⟩
  ·exact zw2 zeA underlying43 (by kernel_rfl) (by decide) (λl=>l) (λ_=>rfl) (of_decide_eq_true (by kernel_rfl)) h23 (λl h h2=>⟨zSI l h,h2⟩)
  ·exact zw2 zeA underlying44 (by kernel_rfl) (by decide) (λl=>l) (λ_=>rfl) (of_decide_eq_true (by kernel_rfl)) h52 (λl h h2=>⟨zQn l h,h2⟩)
  ·intro H en w sp held fuel cs y hfu h hz;obtain ⟨xs,n,hn,hy,hl,hlen,hf⟩:=DataW.trod_struct underlying48 h;have hs:=zmB underlying48 hy hz;have hn:n<=m:=by omega
   obtain ⟨x0,hx0,w0⟩:=zep (off:=0) (zCJ.at m) (by kernel_rfl) hn hlen hf hs 0 _ rfl rfl rfl
   obtain ⟨x1,hx1,w1⟩:=zep (off:=1) (zZX.at m) (by kernel_rfl) hn hlen hf hs 1 _ rfl rfl rfl
   obtain ⟨x2,hx2,w2⟩:=zep (off:=3) h43 (by kernel_rfl) hn hlen hf hs 2 _ rfl rfl rfl
   obtain ⟨x3,hx3,w3⟩:=zep (off:=4) (zCJ.at m) (by kernel_rfl) hn hlen hf hs 3 _ rfl rfl rfl
   obtain ⟨x4,hx4,w4⟩:=zep (off:=5) h44 (by kernel_rfl) hn hlen hf hs 4 _ rfl rfl rfl
   obtain ⟨x5,hx5,w5⟩:=zep (off:=6) (zCJ.at m) (by kernel_rfl) hn hlen hf hs 5 _ rfl rfl rfl
   obtain ⟨x6,hx6,w6⟩:=zep (off:=7) (zVZ.at m) (by kernel_rfl) hn hlen hf hs 6 _ rfl rfl rfl
   have hl:cs.length=10:=hl.trans (by kernel_rfl)
   have:=zhO hx0 (zhO hx1 (zhO hx2 (zhO hx3 (zhO hx4 (zhO hx5 (zyn hx6 hl))))));exact ⟨(⟨x0,x1,x2,x3,x4,x5,x6⟩:At),this,by show ztC (⟨x0,x1,x2,x3,x4,x5,x6⟩:At); unfold ztC; exact ⟨w0,w1,w2,w3,w4,w5,w6⟩⟩
  ·intro H en w sp held fuel cs y hfu h hz;obtain ⟨xs,n,hn,hy,hl,hlen,hf⟩:=DataW.trod_struct underlying50 h;have hs:=zmB underlying50 hy hz;have hn:n<=m:=by omega
   obtain ⟨x0,hx0,w0⟩:=zep (off:=0) h48 (by kernel_rfl) hn hlen hf hs 0 _ rfl rfl rfl
   obtain ⟨x1,hx1,w1⟩:=zep (off:=10) (zCJ.at m) (by kernel_rfl) hn hlen hf hs 1 _ rfl rfl rfl
   have hl:cs.length=11:=hl.trans (by kernel_rfl)
   have:=zhO hx0 (zyn hx1 hl);exact ⟨(⟨x0,x1⟩:Fc),this,by show zty (⟨x0,x1⟩:Fc); unfold zty; exact ⟨w0,w1⟩⟩
  ·intro H en w sp held fuel cs y hfu h hz;obtain ⟨xs,n,hn,hy,hl,hlen,hf⟩:=DataW.trod_struct underlying52 h;have hs:=zmB underlying52 hy hz;have hn:n<=m:=by omega
   obtain ⟨x0,hx0,w0⟩:=zep (off:=0) (zVZ.at m) (by kernel_rfl) hn hlen hf hs 0 _ rfl rfl rfl
   obtain ⟨x1,hx1,w1⟩:=zep (off:=3) h23 (by kernel_rfl) hn hlen hf hs 1 _ rfl rfl rfl
   have hl:cs.length=4:=hl.trans (by kernel_rfl)
   have:=zhO hx0 (zyn hx1 hl);exact ⟨(⟨x0,x1⟩:Wd),this,by show zHS (⟨x0,x1⟩:Wd); unfold zHS; exact ⟨w0,w1⟩⟩
theorem z0a:ztU Tryz.prog base wf 23:=zXA λm=>(zUA m).1
end Go.Proofs.YtnolcogncjijpaaGreatDoor
/- What lies inside lists of terms and factors: fuel for loops. -/
namespace Go.Proofs.YtnolcogncjijpaaGreatDoor
open Go.Proofs.Tryz
def zWB:yC->Nat
 | []=>0
 | f::r=>f.Exp.toNat +f.At.Ag.length+f.At.Items.length+1+zWB r
def zdi:yB->Nat
 | []=>0
 | t::r=>zWB t.Fs+1+zdi r
end Go.Proofs.YtnolcogncjijpaaGreatDoor
namespace Go.Proofs.YtnolcogncjijpaaGreatDoor
open Go Go.Ab
open Go.Proofs.Tryz
def zRK (r:Int):ARes ty:=⟨[.pure (.lit (.int .i64 r))],[]⟩
def zT8:AL base (yB×Unit):=zf (zg (vSl 42)) zF
def zs9 (F:yB->Bool×Int):Ab.Spec ty:=zi zT8 λx=>((F x.1).1,zRK (F x.1).2)
abbrev zjf:=yB×Int×Int×Int×Unit×Int×Unit
abbrev zKk:=yB×Int×Int×Int×At
abbrev zJ6:=yB×Int×Int×Int
abbrev zu9:=yB×Int×Int×Int×Unit
abbrev zKa:=yB×Int×Int
abbrev zvg:=yB×Int×Int×Unit
def zmX (zM:yB->Bool×Int) (a:yB) (n_:Int) (i:Int) (k:Int) (j:Int) (x_:At):Wy zjf (At×Unit) zKk:=.i (decide (j<Int.ofNat x_.Ag.length)) (.i (decide (0<=j)&&decide (j<Int.ofNat x_.Ag.length)) (.bn (zM (x_.Ag.getD j.toNat default)) λr0=>.h (a,(IntKind.i64.wrap (n_+r0)),i,k,(),(IntKind.i64.wrap (j+1)),()) (x_,())) .d) (.k (a,n_,i,k,x_))
def zvp (zM:yB->Bool×Int) (x:zjf) (y:At×Unit):=zmX zM x.1 x.2.1 x.2.2.1 x.2.2.2.1 x.2.2.2.2.2.1 y.1
def zCW (zM:yB->Bool×Int) (n:Nat) (a:yB) (n_:Int) (i:Int) (k:Int) (j:Int) (x_:At):=zN (zvp zM) default n (a,n_,i,k,(),j,()) (x_,())
def zOA (r:zKk):LTree ty:=.done (.exit 4) [.sl 42 r.1,.lit (.int .i64 r.2.1),.lit (.int .i64 r.2.2.1),.lit (.int .i64 r.2.2.2.1),.ptr 284 0] [.box (base.enc 48 r.2.2.2.2) false]
def zPY:LL ty zjf:=za (lSl 42) (za zm (za zm (za zm (za (zeB 284 0) (za zm zr)))))
def zP5:BL ty (At×Unit):=zhD (zhu (λx=>(⟨x.1,⟨x.2.1,x.2.2.1⟩,x.2.2.2.1,x.2.2.2.2.1,x.2.2.2.2.2.1,x.2.2.2.2.2.2.1,⟨x.2.2.2.2.2.2.2.1,x.2.2.2.2.2.2.2.2.1,x.2.2.2.2.2.2.2.2.2.1⟩⟩:At)) (λx=>(x.Kind,x.Row.Table,x.Row.Seq,x.Ag,x.Func,x.Items,x.Op,x.Bd.Kind,x.Bd.Int,x.Bd.Text,())) (λ_=>rfl) (za (zA .i64) (za (zA .i64) (za (zA .i64) (za (lSl 23) (za (zA .i64) (za (lSl 52) (za (zA .i64) (za (zA .i64) (za (zA .i64) (za zmf zr))))))))))) false (zbv)
def zmM (zM:yB->Bool×Int) (a:yB) (n_:Int) (i:Int) (k:Int) (j:Int) (x_:At):Wy zjf (At×Unit) zJ6:=.i (decide (j<Int.ofNat x_.Items.length)) (.i (decide (0<=j)&&decide (j<Int.ofNat x_.Items.length)) (.bn (zM (x_.Items.getD j.toNat default).Ann) λr2=>.h (a,(IntKind.i64.wrap (IntKind.i64.wrap (n_+1)+r2)),i,k,(),(IntKind.i64.wrap (j+1)),()) (x_,())) .d) (.k (a,n_,i,k))
def zvo (zM:yB->Bool×Int) (x:zjf) (y:At×Unit):=zmM zM x.1 x.2.1 x.2.2.1 x.2.2.2.1 x.2.2.2.2.2.1 y.1
def zDf (zM:yB->Bool×Int) (n:Nat) (a:yB) (n_:Int) (i:Int) (k:Int) (j:Int) (x_:At):=zN (zvo zM) default n (a,n_,i,k,(),j,()) (x_,())
def zN4 (r:zJ6):LTree ty:=.done (.exit 6) [.sl 42 r.1,.lit (.int .i64 r.2.1),.lit (.int .i64 r.2.2.1),.lit (.int .i64 r.2.2.2)] []
def zo5 (zM:yB->Bool×Int) (a:yB) (n_:Int) (i:Int) (k:Int):Wy zu9 Unit zKa:=.i (decide (0<=i)&&decide (i<Int.ofNat a.length)) (.i (decide (k<Int.ofNat (a.getD i.toNat default).Fs.length)) (.i (decide (0<=i)&&decide (i<Int.ofNat a.length)) (.i (decide (0<=k)&&decide (k<Int.ofNat (a.getD i.toNat default).Fs.length)) (.bn (zCW zM (((a.length+(IntKind.i64.wrap (n_+1)).toNat +i.toNat +k.toNat +Int.toNat 0+1)+(At.mk ((a.getD i.toNat default).Fs.getD k.toNat default).At.Kind ((a.getD i.toNat default).Fs.getD k.toNat default).At.Row ((a.getD i.toNat default).Fs.getD k.toNat default).At.Ag ((a.getD i.toNat default).Fs.getD k.toNat default).At.Func ((a.getD i.toNat default).Fs.getD k.toNat default).At.Items ((a.getD i.toNat default).Fs.getD k.toNat default).At.Op ((a.getD i.toNat default).Fs.getD k.toNat default).At.Bd).Ag.length+(At.mk ((a.getD i.toNat default).Fs.getD k.toNat default).At.Kind ((a.getD i.toNat default).Fs.getD k.toNat default).At.Row ((a.getD i.toNat default).Fs.getD k.toNat default).At.Ag ((a.getD i.toNat default).Fs.getD k.toNat default).At.Func ((a.getD i.toNat default).Fs.getD k.toNat default).At.Items ((a.getD i.toNat default).Fs.getD k.toNat default).At.Op ((a.getD i.toNat default).Fs.getD k.toNat default).At.Bd).Items.length)+zdi a) a (IntKind.i64.wrap (n_+1)) i k 0 (At.mk ((a.getD i.toNat default).Fs.getD k.toNat default).At.Kind ((a.getD i.toNat default).Fs.getD k.toNat default).At.Row ((a.getD i.toNat default).Fs.getD k.toNat default).At.Ag ((a.getD i.toNat default).Fs.getD k.toNat default).At.Func ((a.getD i.toNat default).Fs.getD k.toNat default).At.Items ((a.getD i.toNat default).Fs.getD k.toNat default).At.Op ((a.getD i.toNat default).Fs.getD k.toNat default).At.Bd)) λr5=>.bn (zDf zM (((r5.1.length+r5.2.1.toNat +r5.2.2.1.toNat +r5.2.2.2.1.toNat +Int.toNat 0+1)+(At.mk r5.2.2.2.2.Kind r5.2.2.2.2.Row r5.2.2.2.2.Ag r5.2.2.2.2.Func r5.2.2.2.2.Items r5.2.2.2.2.Op r5.2.2.2.2.Bd).Ag.length+(At.mk r5.2.2.2.2.Kind r5.2.2.2.2.Row r5.2.2.2.2.Ag r5.2.2.2.2.Func r5.2.2.2.2.Items r5.2.2.2.2.Op r5.2.2.2.2.Bd).Items.length)+zdi r5.1) r5.1 r5.2.1 r5.2.2.1 r5.2.2.2.1 0 (At.mk r5.2.2.2.2.Kind r5.2.2.2.2.Row r5.2.2.2.2.Ag r5.2.2.2.2.Func r5.2.2.2.2.Items r5.2.2.2.2.Op r5.2.2.2.2.Bd)) λr4=>.h ((r4.1),(r4.2.1),(r4.2.2.1),(IntKind.i64.wrap (r4.2.2.2+1)),()) ()) .d) .d) (.k (a,n_,i))) .d
def zwN (zM:yB->Bool×Int) (x:zu9) (y:Unit):=zo5 zM x.1 x.2.1 x.2.2.1 x.2.2.2.1
def zFh (zM:yB->Bool×Int) (n:Nat) (a:yB) (n_:Int) (i:Int) (k:Int):=zN (zwN zM) default n (a,n_,i,k,()) ()
def zQa (r:zKa):LTree ty:=.done (.exit 2) [.sl 42 r.1,.lit (.int .i64 r.2.1),.lit (.int .i64 r.2.2)] []
def zQv:LL ty zu9:=za (lSl 42) (za zm (za zm (za zm zr)))
def zQf:BL ty (Unit):=zbv
def zoP (zM:yB->Bool×Int) (a:yB) (n_:Int) (i:Int):Wy zvg Unit (Int):=.i (decide (i<Int.ofNat a.length)) (.bn (zFh zM ((a.length+(IntKind.i64.wrap (n_+1)).toNat +i.toNat +Int.toNat 0+1)+zdi a) a (IntKind.i64.wrap (n_+1)) i 0) λr8=>.h ((r8.1),(r8.2.1),(IntKind.i64.wrap (r8.2.2+1)),()) ()) (.k n_)
def zwo (zM:yB->Bool×Int) (x:zvg) (y:Unit):=zoP zM x.1 x.2.1 x.2.2.1
def zE6 (zM:yB->Bool×Int) (n:Nat) (a:yB) (n_:Int) (i:Int):=zN (zwo zM) default n (a,n_,i,()) ()
def zPk (r:Int):LTree ty:=.done (.exit 0) [.lit (.int .i64 r)] []
def zRp:LL ty zvg:=za (lSl 42) (za zm (za zm zr))
def zOv (x:zjf) (y:At×Unit):Nat:=(((x.1.length+Int.toNat x.2.1+Int.toNat x.2.2.1+Int.toNat x.2.2.2.1+Int.toNat x.2.2.2.2.2.1+1)+y.1.Ag.length+y.1.Items.length)+zdi x.1)
def zPp (x:zu9) (y:Unit):Nat:=((x.1.length+Int.toNat x.2.1+Int.toNat x.2.2.1+Int.toNat x.2.2.2.1+1)+zdi x.1)
def zPF (x:zvg) (y:Unit):Nat:=((x.1.length+Int.toNat x.2.1+Int.toNat x.2.2.1+1)+zdi x.1)
def zoJ (zM:yB->Bool×Int):=zcC base 71 [(48,(zs9 zM))] [] [(3,(kpL [0,3,4])),(7,(kpL [0,3,4,5])),(12,(kpL [0,3,4,5,6,7])),(16,(kpL [0,3,4,5,6,8]))] [(3,1,(kpL [3])),(7,3,(kpL [0,3,4])),(12,5,(kpL [0,3,4,5,6])),(16,7,(kpL [0,3,4,5]))] [(12,spW zPY zP5 (zvp zM) default zOA zOv),(16,spW zPY zP5 (zvo zM) default zN4 zOv),(7,spW zQv zQf (zwN zM) default zQa zPp),(3,spW zRp zQf (zwo zM) default zPk zPF)] []
theorem zNW (zM:yB->Bool×Int):zR (zoJ zM) (lp (body f48) 2):=zD (id:=12) (hl:=rfl)
theorem zOj (zM:yB->Bool×Int):zR (zoJ zM) (lp (body f48) 3):=zD (id:=16) (hl:=rfl)
theorem zP4 (zM:yB->Bool×Int):zR (zoJ zM) (lp (body f48) 1):=zD (id:=7) (hl:=rfl)
theorem zPR (zM:yB->Bool×Int):zR (zoJ zM) (lp (body f48) 0):=zD (id:=3) (hl:=rfl)
def zHX (zM:yB->Bool×Int) (a:yB):Wy0 (Int):=.bn (zE6 zM ((a.length+Int.toNat 0+Int.toNat 0+1)+zdi a) a 0 0) λr10=>.k r10
def zwU (zM:yB->Bool×Int) (a:yB):=(zHX zM a).fin default
theorem zM5 (zM:yB->Bool×Int) (zSl:SdP 48 (zs9 zM)):SdP 48 (zs9 (zwU zM)):=
 sT (cx':=(zoJ zM)) (zn ⟨zSl,trivial⟩) call48 func48 (lOK (aC (zPR zM) (aC (zP4 zM) (aC (zNW zM) (aC (zOj zM) aN)))))
def zS9:Nat->(yB->Bool×Int)
 | 0=>λ_=>(false,default)
 | n+1=>zwU (zS9 n)
def zqq (n:Nat):yB->Bool×Int:=zS9 n
theorem zRn (n:Nat):zqq (n+1)=zwU (zqq n):=rfl
theorem zOX:∀ n,SdP 48 (zs9 (zqq n))
 | 0=>zbd call48 (λ_=>rfl)
 | n+1=>by
  have ih:=zOX n;exact zM5 _ (ih)
def zwX:yB->Bool×Int:=zqq 1000
def zwu:Ab.Spec ty:=zs9 zwX
theorem zDT:SdP 48 zwu:=(zOX 1000)
def zQF:AL base (yB×yB×Unit):=zf (zg (vSl 42)) (zf (zg (vSl 42)) zF)
def ziR (F:yB->yB->Bool×Int):Ab.Spec ty:=zi zQF λx=>((F x.1 x.2.1).1,zRK (F x.1 x.2.1).2)
def zGp:AL base (yC×yC×Unit):=zf (zg (vSl 50)) (zf (zg (vSl 50)) zF)
def zhK (F:yC->yC->Bool×Int):Ab.Spec ty:=zi zGp λx=>((F x.1 x.2.1).1,zRK (F x.1 x.2.1).2)
def zKs:AL base (At×At×Unit):=zf (zg (zdh 48)) (zf (zg (zdh 48)) zF)
def zjG (F:At->At->Bool×Int):Ab.Spec ty:=zi zKs λx=>((F x.1 x.2.1).1,zRK (F x.1 x.2.1).2)
def zJs:AL base (yD×yD×Unit):=zf (zg (vSl 52)) (zf (zg (vSl 52)) zF)
def ziU (F:yD->yD->Bool×Int):Ab.Spec ty:=zi zJs λx=>((F x.1 x.2.1).1,zRK (F x.1 x.2.1).2)
def zRo:=zbR base 11 []
def zH1 (a:Int) (b:Int):Wy0 (Int):=.i (decide (a<b)) (.k (-1:Int)) (.i (decide (a>b)) (.k 1) (.k 0))
def zcB (a:Int) (b:Int):=(zH1 a b).fin default
def zSB:AL base (Int×Int×Unit):=zf (zg zlk) (zf (zg zlk) zF)
def zja:=zi zSB λx=>((zcB x.1 x.2.1).1,zRK (zcB x.1 x.2.1).2)
theorem zkq:SdP 82 zja:=
 sT (cx':=zRo) (zn trivial) call82 func82 (lOK aN)
abbrev zq1:=yB×yB×Int×Unit
abbrev zDj:=Int⊕(yB×yB)
def zLR (z8:yC->yC->Bool×Int) (a:yB) (b:yB) (i:Int):Wy zq1 Unit zDj:=.i (decide (i<Int.ofNat a.length)) (.i (decide (i<Int.ofNat b.length)) (.i (decide (0<=i)&&decide (i<Int.ofNat a.length)) (.i (decide (0<=i)&&decide (i<Int.ofNat b.length)) (.bn (z8 (a.getD i.toNat default).Fs (b.getD i.toNat default).Fs) λr1=>.i (r1 != 0) (.k (.inl (r1))) (.i (decide (0<=i)&&decide (i<Int.ofNat a.length)) (.i (decide (0<=i)&&decide (i<Int.ofNat b.length)) (.bn (zcB (a.getD i.toNat default).Cf (b.getD i.toNat default).Cf) λr0=>.i (r0 != 0) (.k (.inl (r0))) (.h (a,b,(IntKind.i64.wrap (i+1)),()) ())) .d) .d)) .d) .d) (.k (.inr (a,b)))) (.k (.inr (a,b)))
def zzh (z8:yC->yC->Bool×Int) (x:zq1) (y:Unit):=zLR z8 x.1 x.2.1 x.2.2.1
def zLL (z8:yC->yC->Bool×Int) (n:Nat) (a:yB) (b:yB) (i:Int):=zN (zzh z8) (.inl default) n (a,b,i,()) ()
def zK1 (r:zDj):LTree ty:=.ite (isL r) (.done .ret [.lit (.int .i64 (getL r))] []) (.done (.exit 0) [.sl 42 (getR r).1,.sl 42 (getR r).2] [])
def zMC:LL ty zq1:=za (lSl 42) (za (lSl 42) (za zm zr))
def zKU (x:zq1) (y:Unit):Nat:=(x.1.length+x.2.1.length+Int.toNat x.2.2.1+1)
def zzK (z8:yC->yC->Bool×Int):=zcC base 53 [(82,zja),(89,(zhK z8))] [] [(2,(kpL [0,1,5]))] [(2,1,(kpL [0,1])),(2,0,(kpL [4]))] [(2,spW zMC zQf (zzh z8) (.inl default) zK1 zKU)] []
theorem zLe (z8:yC->yC->Bool×Int):zR (zzK z8) (lp (body f39) 0):=zD (id:=2) (hl:=rfl)
def zN8 (z8:yC->yC->Bool×Int) (a:yB) (b:yB):Wy0 (Int):=.bn (zLL z8 (a.length+b.length+Int.toNat 0+1) a b 0) λr5=>.i (isL r5) (.k (getL r5)) (.bn (zcB (Int.ofNat (getR r5).1.length) (Int.ofNat (getR r5).2.length)) λr4=>.k r4)
def zsG (z8:yC->yC->Bool×Int) (a:yB) (b:yB):=(zN8 z8 a b).fin default
theorem zGR (z8:yC->yC->Bool×Int) (zCC:SdP 89 (zhK z8)):SdP 39 (ziR (zsG z8)):=
 sT (cx':=(zzK z8)) (zn ⟨zkq,zCC,trivial⟩) call39 func39 (lOK (aC (zLe z8) aN))
def zTi:=zbR base 4 []
def zLQ (less:Bool):Wy0 (Int):=.i (less) (.k (-1:Int)) (.k 1)
def ztX (less:Bool):=(zLQ less).fin default
def zUh:AL base (Bool×Unit):=zf (zg z1e) zF
def zFc:=zi zUh λx=>((ztX x.1).1,zRK (ztX x.1).2)
theorem zQe:SdP 138 zFc:=
 sT (cx':=zTi) (zn trivial) call138 func138 (lOK aN)
def zPu:=zbR base 38 [(138,zFc)]
def zEV (a:Value) (b:Value):Wy0 (Int):=.i (a.Kind != b.Kind) (.bn (ztX (decide (a.Kind<b.Kind))) λr0=>.k r0) (.i (a.Int != b.Int) (.bn (ztX (decide (a.Int<b.Int))) λr1=>.k r1) (.i (!a.Text.toList==b.Text.toList) (.bn (ztX (Op.bytesLess a.Text.toList b.Text.toList)) λr2=>.k r2) (.k 0)))
def zlm (a:Value) (b:Value):=(zEV a b).fin default
def zQZ:AL base (Value×Value×Unit):=zf (zg (zdh 46)) (zf (zg (zdh 46)) zF)
def ztI:=zi zQZ λx=>((zlm x.1 x.2.1).1,zRK (zlm x.1 x.2.1).2)
theorem zxM:SdP 83 ztI:=
 sT (cx':=zPu) (zn ⟨zQe,trivial⟩) call83 func83 (lOK aN)
def zKt:=zbR base 19 [(82,zja)]
def zzv (a:RowID) (b:RowID):Wy0 (Int):=.bn (zcB a.Table b.Table) λr1=>.i (r1 != 0) (.k r1) (.bn (zcB a.Seq b.Seq) λr0=>.k r0)
def zhS (a:RowID) (b:RowID):=(zzv a b).fin default
def zNe:AL base (RowID×RowID×Unit):=zf (zg (zdh 25)) (zf (zg (zdh 25)) zF)
def zqp:=zi zNe λx=>((zhS x.1 x.2.1).1,zRK (zhS x.1 x.2.1).2)
theorem zuT:SdP 146 zqp:=
 sT (cx':=zKt) (zn ⟨zkq,trivial⟩) call146 func146 (lOK aN)
abbrev zl9:=Unit×Unit×Int×Unit
abbrev zlW:=At×At×Unit
abbrev zwy:=Int⊕(At×At)
def zpe (zbk:yD->yD->Bool×Int) (zO:yB->yB->Bool×Int) (i:Int) (a:At) (b:At):Wy zl9 zlW zwy:=.i (decide (i<Int.ofNat a.Ag.length)) (.i (decide (i<Int.ofNat b.Ag.length)) (.i (decide (0<=i)&&decide (i<Int.ofNat a.Ag.length)) (.i (decide (0<=i)&&decide (i<Int.ofNat b.Ag.length)) (.bn (zO (a.Ag.getD i.toNat default) (b.Ag.getD i.toNat default)) λr0=>.i (r0 != 0) (.k (.inl (r0))) (.h ((),(),(IntKind.i64.wrap (i+1)),()) (a,b,()))) .d) .d) (.k (.inr (a,b)))) (.k (.inr (a,b)))
def zuP (zbk:yD->yD->Bool×Int) (zO:yB->yB->Bool×Int) (x:zl9) (y:zlW):=zpe zbk zO x.2.2.1 y.1 y.2.1
def zpg (zbk:yD->yD->Bool×Int) (zO:yB->yB->Bool×Int) (n:Nat) (i:Int) (a:At) (b:At):=zN (zuP zbk zO) (.inl default) n ((),(),i,()) (a,b,())
def zEt (r:zwy):LTree ty:=.ite (isL r) (.done .ret [.lit (.int .i64 (getL r))] []) (.done (.exit 0) [.ptr 384 0,.ptr 385 0] [.box (base.enc 48 (getR r).1) false,.box (base.enc 48 (getR r).2) false])
def zGu:LL ty zl9:=za (zeB 384 0) (za (zeB 385 0) (za zm zr))
def zGt:BL ty zlW:=zhD (zhu (λx=>(⟨x.1,⟨x.2.1,x.2.2.1⟩,x.2.2.2.1,x.2.2.2.2.1,x.2.2.2.2.2.1,x.2.2.2.2.2.2.1,⟨x.2.2.2.2.2.2.2.1,x.2.2.2.2.2.2.2.2.1,x.2.2.2.2.2.2.2.2.2.1⟩⟩:At)) (λx=>(x.Kind,x.Row.Table,x.Row.Seq,x.Ag,x.Func,x.Items,x.Op,x.Bd.Kind,x.Bd.Int,x.Bd.Text,())) (λ_=>rfl) (za (zA .i64) (za (zA .i64) (za (zA .i64) (za (lSl 23) (za (zA .i64) (za (lSl 52) (za (zA .i64) (za (zA .i64) (za (zA .i64) (za zmf zr))))))))))) false (zhD (zhu (λx=>(⟨x.1,⟨x.2.1,x.2.2.1⟩,x.2.2.2.1,x.2.2.2.2.1,x.2.2.2.2.2.1,x.2.2.2.2.2.2.1,⟨x.2.2.2.2.2.2.2.1,x.2.2.2.2.2.2.2.2.1,x.2.2.2.2.2.2.2.2.2.1⟩⟩:At)) (λx=>(x.Kind,x.Row.Table,x.Row.Seq,x.Ag,x.Func,x.Items,x.Op,x.Bd.Kind,x.Bd.Int,x.Bd.Text,())) (λ_=>rfl) (za (zA .i64) (za (zA .i64) (za (zA .i64) (za (lSl 23) (za (zA .i64) (za (lSl 52) (za (zA .i64) (za (zA .i64) (za (zA .i64) (za zmf zr))))))))))) false (zbv))
def zEe (x:zl9) (y:zlW):Nat:=((Int.toNat x.2.2.1+1)+y.1.Ag.length+y.1.Items.length+y.2.1.Ag.length+y.2.1.Items.length)
def zuF (zbk:yD->yD->Bool×Int) (zO:yB->yB->Bool×Int):=zcC base 96 [(35,(ziU zbk)),(39,(ziR zO)),(82,zja),(83,ztI),(146,zqp)] [] [(8,(kpL [2,3,7]))] [(8,1,(kpL [2,3])),(8,0,(kpL [4]))] [(8,spW zGu zGt (zuP zbk zO) (.inl default) zEt zEe)] []
theorem zEh (zbk:yD->yD->Bool×Int) (zO:yB->yB->Bool×Int):zR (zuF zbk zO) (lp (body f104) 0):=zD (id:=8) (hl:=rfl)
def zv2 (zbk:yD->yD->Bool×Int) (zO:yB->yB->Bool×Int) (a:At) (b:At):Wy0 (Int):=.bn (zcB a.Kind b.Kind) λr9=>.i (r9 != 0) (.k r9) (.bn (zhS a.Row b.Row) λr8=>.i (r8 != 0) (.k r8) (.bn (zpg zbk zO ((Int.toNat 0+1)+(At.mk a.Kind a.Row a.Ag a.Func a.Items a.Op a.Bd).Ag.length+(At.mk a.Kind a.Row a.Ag a.Func a.Items a.Op a.Bd).Items.length+(At.mk b.Kind b.Row b.Ag b.Func b.Items b.Op b.Bd).Ag.length+(At.mk b.Kind b.Row b.Ag b.Func b.Items b.Op b.Bd).Items.length) 0 (At.mk a.Kind a.Row a.Ag a.Func a.Items a.Op a.Bd) (At.mk b.Kind b.Row b.Ag b.Func b.Items b.Op b.Bd)) λr7=>.i (isL r7) (.k (getL r7)) (.bn (zcB (Int.ofNat (getR r7).1.Ag.length) (Int.ofNat (getR r7).2.Ag.length)) λr6=>.i (r6 != 0) (.k r6) (.bn (zcB (getR r7).1.Func (getR r7).2.Func) λr5=>.i (r5 != 0) (.k r5) (.bn (zbk (getR r7).1.Items (getR r7).2.Items) λr4=>.i (r4 != 0) (.k r4) (.bn (zcB (getR r7).1.Op (getR r7).2.Op) λr3=>.i (r3 != 0) (.k r3) (.bn (zlm (getR r7).1.Bd (getR r7).2.Bd) λr2=>.k r2)))))))
def zjz (zbk:yD->yD->Bool×Int) (zO:yB->yB->Bool×Int) (a:At) (b:At):=(zv2 zbk zO a b).fin default
theorem zBL (zbk:yD->yD->Bool×Int) (zO:yB->yB->Bool×Int) (zFX:SdP 35 (ziU zbk)) (zuv:SdP 39 (ziR zO)):SdP 104 (zjG (zjz zbk zO)):=
 sT (cx':=(zuF zbk zO)) (zn ⟨zFX,zuv,zkq,zxM,zuT,trivial⟩) call104 func104 (lOK (aC (zEh zbk zO) aN))
abbrev zjr:=yC×yC×Int×Unit
abbrev zub:=Int⊕(yC×yC)
def zsP (zbp:At->At->Bool×Int) (a:yC) (b:yC) (i:Int):Wy zjr Unit zub:=.i (decide (i<Int.ofNat a.length)) (.i (decide (i<Int.ofNat b.length)) (.i (decide (0<=i)&&decide (i<Int.ofNat a.length)) (.i (decide (0<=i)&&decide (i<Int.ofNat b.length)) (.bn (zbp (At.mk (a.getD i.toNat default).At.Kind (a.getD i.toNat default).At.Row (a.getD i.toNat default).At.Ag (a.getD i.toNat default).At.Func (a.getD i.toNat default).At.Items (a.getD i.toNat default).At.Op (a.getD i.toNat default).At.Bd) (At.mk (b.getD i.toNat default).At.Kind (b.getD i.toNat default).At.Row (b.getD i.toNat default).At.Ag (b.getD i.toNat default).At.Func (b.getD i.toNat default).At.Items (b.getD i.toNat default).At.Op (b.getD i.toNat default).At.Bd)) λr1=>.i (r1 != 0) (.k (.inl (r1))) (.i (decide (0<=i)&&decide (i<Int.ofNat a.length)) (.i (decide (0<=i)&&decide (i<Int.ofNat b.length)) (.bn (zcB (a.getD i.toNat default).Exp (b.getD i.toNat default).Exp) λr0=>.i (r0 != 0) (.k (.inl (r0))) (.h (a,b,(IntKind.i64.wrap (i+1)),()) ())) .d) .d)) .d) .d) (.k (.inr (a,b)))) (.k (.inr (a,b)))
def zig (zbp:At->At->Bool×Int) (x:zjr) (y:Unit):=zsP zbp x.1 x.2.1 x.2.2.1
def zsQ (zbp:At->At->Bool×Int) (n:Nat) (a:yC) (b:yC) (i:Int):=zN (zig zbp) (.inl default) n (a,b,i,()) ()
def zAx (r:zub):LTree ty:=.ite (isL r) (.done .ret [.lit (.int .i64 (getL r))] []) (.done (.exit 0) [.sl 50 (getR r).1,.sl 50 (getR r).2] [])
def zBK:LL ty zjr:=za (lSl 50) (za (lSl 50) (za zm zr))
def zBd (x:zjr) (y:Unit):Nat:=(x.1.length+x.2.1.length+Int.toNat x.2.2.1+1)
def zsO (zbp:At->At->Bool×Int):=zcC base 53 [(82,zja),(104,(zjG zbp))] [] [(2,(kpL [0,1,5]))] [(2,1,(kpL [0,1])),(2,0,(kpL [4]))] [(2,spW zBK zQf (zig zbp) (.inl default) zAx zBd)] []
theorem zAW (zbp:At->At->Bool×Int):zR (zsO zbp) (lp (body f89) 0):=zD (id:=2) (hl:=rfl)
def zta (zbp:At->At->Bool×Int) (a:yC) (b:yC):Wy0 (Int):=.bn (zsQ zbp (a.length+b.length+Int.toNat 0+1) a b 0) λr5=>.i (isL r5) (.k (getL r5)) (.bn (zcB (Int.ofNat (getR r5).1.length) (Int.ofNat (getR r5).2.length)) λr4=>.k r4)
def zhI (zbp:At->At->Bool×Int) (a:yC) (b:yC):=(zta zbp a b).fin default
theorem zyd (zbp:At->At->Bool×Int) (zHA:SdP 104 (zjG zbp)):SdP 89 (zhK (zhI zbp)):=
 sT (cx':=(zsO zbp)) (zn ⟨zkq,zHA,trivial⟩) call89 func89 (lOK (aC (zAW zbp) aN))
abbrev zkN:=yD×yD×Int×Unit
abbrev zvO:=Int⊕(yD×yD)
def zEr (zO:yB->yB->Bool×Int) (a:yD) (b:yD) (i:Int):Wy zkN Unit zvO:=.i (decide (i<Int.ofNat a.length)) (.i (decide (i<Int.ofNat b.length)) (.i (decide (0<=i)&&decide (i<Int.ofNat a.length)) (.i (decide (0<=i)&&decide (i<Int.ofNat b.length)) (.bn (zlm (a.getD i.toNat default).Value (b.getD i.toNat default).Value) λr1=>.i (r1 != 0) (.k (.inl (r1))) (.i (decide (0<=i)&&decide (i<Int.ofNat a.length)) (.i (decide (0<=i)&&decide (i<Int.ofNat b.length)) (.bn (zO (a.getD i.toNat default).Ann (b.getD i.toNat default).Ann) λr0=>.i (r0 != 0) (.k (.inl (r0))) (.h (a,b,(IntKind.i64.wrap (i+1)),()) ())) .d) .d)) .d) .d) (.k (.inr (a,b)))) (.k (.inr (a,b)))
def zuh (zO:yB->yB->Bool×Int) (x:zkN) (y:Unit):=zEr zO x.1 x.2.1 x.2.2.1
def zEz (zO:yB->yB->Bool×Int) (n:Nat) (a:yD) (b:yD) (i:Int):=zN (zuh zO) (.inl default) n (a,b,i,()) ()
def zDF (r:zvO):LTree ty:=.ite (isL r) (.done .ret [.lit (.int .i64 (getL r))] []) (.done (.exit 0) [.sl 52 (getR r).1,.sl 52 (getR r).2] [])
def zEy:LL ty zkN:=za (lSl 52) (za (lSl 52) (za zm zr))
def zCM (x:zkN) (y:Unit):Nat:=(x.1.length+x.2.1.length+Int.toNat x.2.2.1+1)
def zud (zO:yB->yB->Bool×Int):=zcC base 53 [(39,(ziR zO)),(82,zja),(83,ztI)] [] [(2,(kpL [0,1,5]))] [(2,1,(kpL [0,1])),(2,0,(kpL [4]))] [(2,spW zEy zQf (zuh zO) (.inl default) zDF zCM)] []
theorem zCF (zO:yB->yB->Bool×Int):zR (zud zO) (lp (body f35) 0):=zD (id:=2) (hl:=rfl)
def zF6 (zO:yB->yB->Bool×Int) (a:yD) (b:yD):Wy0 (Int):=.bn (zEz zO (a.length+b.length+Int.toNat 0+1) a b 0) λr5=>.i (isL r5) (.k (getL r5)) (.bn (zcB (Int.ofNat (getR r5).1.length) (Int.ofNat (getR r5).2.length)) λr4=>.k r4)
def zl6 (zO:yB->yB->Bool×Int) (a:yD) (b:yD):=(zF6 zO a b).fin default
theorem zAp (zO:yB->yB->Bool×Int) (zuv:SdP 39 (ziR zO)):SdP 35 (ziU (zl6 zO)):=
 sT (cx':=(zud zO)) (zn ⟨zuv,zkq,zxM,trivial⟩) call35 func35 (lOK (aC (zCF zO) aN))
def ziz:Nat->(yB->yB->Bool×Int)×(yC->yC->Bool×Int)×(At->At->Bool×Int)×(yD->yD->Bool×Int)
 | 0=>(λ_ _=>(false,default),λ_ _=>(false,default),λ_ _=>(false,default),λ_ _=>(false,default))
 | n+1=>(zsG ((ziz n).2.1),zhI ((ziz n).2.2.1),zjz ((ziz n).2.2.2) ((ziz n).1),zl6 ((ziz n).1))
def zkK (n:Nat):yB->yB->Bool×Int:=(ziz n).1
def zhG (n:Nat):yC->yC->Bool×Int:=(ziz n).2.1
def zjI (n:Nat):At->At->Bool×Int:=(ziz n).2.2.1
def ziC (n:Nat):yD->yD->Bool×Int:=(ziz n).2.2.2
theorem zMS (n:Nat):zkK (n+1)=zsG (zhG n):=rfl
theorem zCa (n:Nat):zhG (n+1)=zhI (zjI n):=rfl
theorem zFM (n:Nat):zjI (n+1)=zjz (ziC n) (zkK n):=rfl
theorem zEi (n:Nat):ziC (n+1)=zl6 (zkK n):=rfl
theorem zpX:∀ n,SdP 39 (ziR (zkK n))/\SdP 89 (zhK (zhG n))/\SdP 104 (zjG (zjI n))/\SdP 35 (ziU (ziC n))
 | 0=>⟨zbd call39 (λ_=>rfl),zbd call89 (λ_=>rfl),zbd call104 (λ_=>rfl),zbd call35 (λ_=>rfl)⟩
 | n+1=>by
  have ih:=zpX n;exact ⟨zGR _ (ih.2.1),zyd _ (ih.2.2.1),zBL _ _ (ih.2.2.2) (ih.1),zAp _ (ih.1)⟩
def zBi:yB->yB->Bool×Int:=zkK 1000
def zz9:Ab.Spec ty:=ziR zBi
theorem zKp:SdP 39 zz9:=(zpX 1000).1
def zrx:yC->yC->Bool×Int:=zhG 1000
def zsI:Ab.Spec ty:=zhK zrx
theorem zAI:SdP 89 zsI:=(zpX 1000).2.1
def zpC:At->At->Bool×Int:=zjI 1000
def zu0:Ab.Spec ty:=zjG zpC
theorem zEL:SdP 104 zu0:=(zpX 1000).2.2.1
def ztH:yD->yD->Bool×Int:=ziC 1000
def zug:Ab.Spec ty:=ziU ztH
theorem zCK:SdP 35 zug:=(zpX 1000).2.2.2
def zRi (r:Bool):ARes ty:=⟨[.pure (.lit (.bool r))],[]⟩
def zrO (F:yB->Bool×Bool):Ab.Spec ty:=zi zT8 λx=>((F x.1).1,zRi (F x.1).2)
def zOs:AL base (At×Unit):=zf (zg (zdh 48)) zF
def zpJ (F:At->Bool×Bool):Ab.Spec ty:=zi zOs λx=>((F x.1).1,zRi (F x.1).2)
abbrev zgs:=yB×Int×Int×Int×Unit×Int×Int×Unit
abbrev zC9:=yB×Int×Int×Int×Int×At
abbrev zDt:=yB×Int×Int×Int×Int
abbrev zra:=yB×Int×Int×Int×Unit
abbrev zDE:=yB×Int×Int
abbrev zrr:=yB×Int×Int×Unit
def zjv (zw:yB->Bool×Int) (a:yB) (most:Int) (i:Int) (k:Int) (n_:Int) (j:Int) (x_:At):Wy zgs (At×Unit) zC9:=.i (decide (j<Int.ofNat x_.Ag.length)) (.i (decide (0<=j)&&decide (j<Int.ofNat x_.Ag.length)) (.bn (zw (x_.Ag.getD j.toNat default)) λr0=>.h (a,most,i,k,(),(if IntKind.i64.wrap (1+r0)>n_ then IntKind.i64.wrap (1+r0) else n_),(IntKind.i64.wrap (j+1)),()) (x_,())) .d) (.k (a,most,i,k,n_,x_))
def zsx (zw:yB->Bool×Int) (x:zgs) (y:At×Unit):=zjv zw x.1 x.2.1 x.2.2.1 x.2.2.2.1 x.2.2.2.2.2.1 x.2.2.2.2.2.2.1 y.1
def zsp (zw:yB->Bool×Int) (n:Nat) (a:yB) (most:Int) (i:Int) (k:Int) (n_:Int) (j:Int) (x_:At):=zN (zsx zw) default n (a,most,i,k,(),n_,j,()) (x_,())
def zID (r:zC9):LTree ty:=.done (.exit 4) [.sl 42 r.1,.lit (.int .i64 r.2.1),.lit (.int .i64 r.2.2.1),.lit (.int .i64 r.2.2.2.1),.ptr 300 0,.lit (.int .i64 r.2.2.2.2.1)] [.box (base.enc 48 r.2.2.2.2.2) false]
def zKr:LL ty zgs:=za (lSl 42) (za zm (za zm (za zm (za (zeB 300 0) (za zm (za zm zr))))))
def zjD (zw:yB->Bool×Int) (a:yB) (most:Int) (i:Int) (k:Int) (n_:Int) (j:Int) (x_:At):Wy zgs (At×Unit) zDt:=.i (decide (j<Int.ofNat x_.Items.length)) (.i (decide (0<=j)&&decide (j<Int.ofNat x_.Items.length)) (.bn (zw (x_.Items.getD j.toNat default).Ann) λr2=>.h (a,most,i,k,(),(if IntKind.i64.wrap (1+r2)>n_ then IntKind.i64.wrap (1+r2) else n_),(IntKind.i64.wrap (j+1)),()) (x_,())) .d) (.k (a,most,i,k,n_))
def zsz (zw:yB->Bool×Int) (x:zgs) (y:At×Unit):=zjD zw x.1 x.2.1 x.2.2.1 x.2.2.2.1 x.2.2.2.2.2.1 x.2.2.2.2.2.2.1 y.1
def zxR (zw:yB->Bool×Int) (n:Nat) (a:yB) (most:Int) (i:Int) (k:Int) (n_:Int) (j:Int) (x_:At):=zN (zsz zw) default n (a,most,i,k,(),n_,j,()) (x_,())
def zJS (r:zDt):LTree ty:=.done (.exit 6) [.sl 42 r.1,.lit (.int .i64 r.2.1),.lit (.int .i64 r.2.2.1),.lit (.int .i64 r.2.2.2.1),.lit (.int .i64 r.2.2.2.2)] []
def zkk (zw:yB->Bool×Int) (a:yB) (most:Int) (i:Int) (k:Int):Wy zra Unit zDE:=.i (decide (0<=i)&&decide (i<Int.ofNat a.length)) (.i (decide (k<Int.ofNat (a.getD i.toNat default).Fs.length)) (.i (decide (0<=i)&&decide (i<Int.ofNat a.length)) (.i (decide (0<=k)&&decide (k<Int.ofNat (a.getD i.toNat default).Fs.length)) (.i (((a.getD i.toNat default).Fs.getD k.toNat default).At.Kind==0) (.h (a,most,i,(IntKind.i64.wrap (k+1)),()) ()) (.bn (zsp zw (((a.length+most.toNat +i.toNat +k.toNat +Int.toNat 1+Int.toNat 0+1)+(At.mk ((a.getD i.toNat default).Fs.getD k.toNat default).At.Kind ((a.getD i.toNat default).Fs.getD k.toNat default).At.Row ((a.getD i.toNat default).Fs.getD k.toNat default).At.Ag ((a.getD i.toNat default).Fs.getD k.toNat default).At.Func ((a.getD i.toNat default).Fs.getD k.toNat default).At.Items ((a.getD i.toNat default).Fs.getD k.toNat default).At.Op ((a.getD i.toNat default).Fs.getD k.toNat default).At.Bd).Ag.length+(At.mk ((a.getD i.toNat default).Fs.getD k.toNat default).At.Kind ((a.getD i.toNat default).Fs.getD k.toNat default).At.Row ((a.getD i.toNat default).Fs.getD k.toNat default).At.Ag ((a.getD i.toNat default).Fs.getD k.toNat default).At.Func ((a.getD i.toNat default).Fs.getD k.toNat default).At.Items ((a.getD i.toNat default).Fs.getD k.toNat default).At.Op ((a.getD i.toNat default).Fs.getD k.toNat default).At.Bd).Items.length)+zdi a) a most i k 1 0 (At.mk ((a.getD i.toNat default).Fs.getD k.toNat default).At.Kind ((a.getD i.toNat default).Fs.getD k.toNat default).At.Row ((a.getD i.toNat default).Fs.getD k.toNat default).At.Ag ((a.getD i.toNat default).Fs.getD k.toNat default).At.Func ((a.getD i.toNat default).Fs.getD k.toNat default).At.Items ((a.getD i.toNat default).Fs.getD k.toNat default).At.Op ((a.getD i.toNat default).Fs.getD k.toNat default).At.Bd)) λr5=>.bn (zxR zw (((r5.1.length+r5.2.1.toNat +r5.2.2.1.toNat +r5.2.2.2.1.toNat +r5.2.2.2.2.1.toNat +Int.toNat 0+1)+(At.mk r5.2.2.2.2.2.Kind r5.2.2.2.2.2.Row r5.2.2.2.2.2.Ag r5.2.2.2.2.2.Func r5.2.2.2.2.2.Items r5.2.2.2.2.2.Op r5.2.2.2.2.2.Bd).Ag.length+(At.mk r5.2.2.2.2.2.Kind r5.2.2.2.2.2.Row r5.2.2.2.2.2.Ag r5.2.2.2.2.2.Func r5.2.2.2.2.2.Items r5.2.2.2.2.2.Op r5.2.2.2.2.2.Bd).Items.length)+zdi r5.1) r5.1 r5.2.1 r5.2.2.1 r5.2.2.2.1 r5.2.2.2.2.1 0 (At.mk r5.2.2.2.2.2.Kind r5.2.2.2.2.2.Row r5.2.2.2.2.2.Ag r5.2.2.2.2.2.Func r5.2.2.2.2.2.Items r5.2.2.2.2.2.Op r5.2.2.2.2.2.Bd)) λr4=>.h ((r4.1),(if r4.2.2.2.2>r4.2.1 then r4.2.2.2.2 else r4.2.1),(r4.2.2.1),(IntKind.i64.wrap (r4.2.2.2.1+1)),()) ())) .d) .d) (.k (a,most,i))) .d
def ztj (zw:yB->Bool×Int) (x:zra) (y:Unit):=zkk zw x.1 x.2.1 x.2.2.1 x.2.2.2.1
def zz8 (zw:yB->Bool×Int) (n:Nat) (a:yB) (most:Int) (i:Int) (k:Int):=zN (ztj zw) default n (a,most,i,k,()) ()
def zKZ (r:zDE):LTree ty:=.done (.exit 2) [.sl 42 r.1,.lit (.int .i64 r.2.1),.lit (.int .i64 r.2.2)] []
def zMZ:LL ty zra:=za (lSl 42) (za zm (za zm (za zm zr)))
def zkn (zw:yB->Bool×Int) (a:yB) (most:Int) (i:Int):Wy zrr Unit (Int):=.i (decide (i<Int.ofNat a.length)) (.bn (zz8 zw ((a.length+most.toNat +i.toNat +Int.toNat 0+1)+zdi a) a most i 0) λr8=>.h ((r8.1),(r8.2.1),(IntKind.i64.wrap (r8.2.2+1)),()) ()) (.k most)
def zto (zw:yB->Bool×Int) (x:zrr) (y:Unit):=zkn zw x.1 x.2.1 x.2.2.1
def zy3 (zw:yB->Bool×Int) (n:Nat) (a:yB) (most:Int) (i:Int):=zN (zto zw) default n (a,most,i,()) ()
def zMK:LL ty zrr:=za (lSl 42) (za zm (za zm zr))
def zIf (x:zgs) (y:At×Unit):Nat:=(((x.1.length+Int.toNat x.2.1+Int.toNat x.2.2.1+Int.toNat x.2.2.2.1+Int.toNat x.2.2.2.2.2.1+Int.toNat x.2.2.2.2.2.2.1+1)+y.1.Ag.length+y.1.Items.length)+zdi x.1)
def zLg (x:zra) (y:Unit):Nat:=((x.1.length+Int.toNat x.2.1+Int.toNat x.2.2.1+Int.toNat x.2.2.2.1+1)+zdi x.1)
def zKz (x:zrr) (y:Unit):Nat:=((x.1.length+Int.toNat x.2.1+Int.toNat x.2.2.1+1)+zdi x.1)
def zkj (zw:yB->Bool×Int):=zcC base 75 [(147,(zs9 zw))] [] [(3,(kpL [0,3,4])),(6,(kpL [0,3,4,5])),(12,(kpL [0,3,4,5,6,7,8])),(16,(kpL [0,3,4,5,6,7,9]))] [(3,1,(kpL [3])),(6,3,(kpL [0,3,4])),(12,5,(kpL [0,3,4,5,6,7])),(16,7,(kpL [0,3,4,5,7]))] [(12,spW zKr zP5 (zsx zw) default zID zIf),(16,spW zKr zP5 (zsz zw) default zJS zIf),(6,spW zMZ zQf (ztj zw) default zKZ zLg),(3,spW zMK zQf (zto zw) default zPk zKz)] []
theorem zIZ (zw:yB->Bool×Int):zR (zkj zw) (lp (body f147) 2):=zD (id:=12) (hl:=rfl)
theorem zJI (zw:yB->Bool×Int):zR (zkj zw) (lp (body f147) 3):=zD (id:=16) (hl:=rfl)
theorem zLh (zw:yB->Bool×Int):zR (zkj zw) (lp (body f147) 1):=zD (id:=6) (hl:=rfl)
theorem zLn (zw:yB->Bool×Int):zR (zkj zw) (lp (body f147) 0):=zD (id:=3) (hl:=rfl)
def zBr (zw:yB->Bool×Int) (a:yB):Wy0 (Int):=.bn (zy3 zw ((a.length+Int.toNat 0+Int.toNat 0+1)+zdi a) a 0 0) λr10=>.k r10
def zsR (zw:yB->Bool×Int) (a:yB):=(zBr zw a).fin default
theorem zHf (zw:yB->Bool×Int) (zOE:SdP 147 (zs9 zw)):SdP 147 (zs9 (zsR zw)):=
 sT (cx':=(zkj zw)) (zn ⟨zOE,trivial⟩) call147 func147 (lOK (aC (zLn zw) (aC (zLh zw) (aC (zIZ zw) (aC (zJI zw) aN)))))
def zME:Nat->(yB->Bool×Int)
 | 0=>λ_=>(false,default)
 | n+1=>zsR (zME n)
def ziT (n:Nat):yB->Bool×Int:=zME n
theorem zNs (n:Nat):ziT (n+1)=zsR (ziT n):=rfl
theorem zHh:∀ n,SdP 147 (zs9 (ziT n))
 | 0=>zbd call147 (λ_=>rfl)
 | n+1=>by
  have ih:=zHh n;exact zHf _ (ih)
def zAy:yB->Bool×Int:=ziT 1000
def zzI:Ab.Spec ty:=zs9 zAy
theorem zK9:SdP 147 zzI:=(zHh 1000)
abbrev zvb:=yB×Int×Int×Unit
abbrev zKe:=Bool⊕(yB×Int)
abbrev zvd:=yB×Int×Unit
def zrF (a:yB) (i:Int) (k:Int):Wy zvb Unit zKe:=.i (decide (0<=i)&&decide (i<Int.ofNat a.length)) (.i (decide (k<Int.ofNat (a.getD i.toNat default).Fs.length)) (.i (decide (0<=i)&&decide (i<Int.ofNat a.length)) (.i (decide (0<=k)&&decide (k<Int.ofNat (a.getD i.toNat default).Fs.length)) (.i (decide (((a.getD i.toNat default).Fs.getD k.toNat default).Exp>64)) (.k (.inl false)) (.i (decide (0<=i)&&decide (i<Int.ofNat a.length)) (.i (decide (0<=k)&&decide (k<Int.ofNat (a.getD i.toNat default).Fs.length)) (.i (decide (Int.ofNat ((a.getD i.toNat default).Fs.getD k.toNat default).At.Items.length>1024)) (.k (.inl false)) (.h (a,i,(IntKind.i64.wrap (k+1)),()) ())) .d) .d)) .d) .d) (.k (.inr (a,i)))) .d
def zA1 (x:zvb) (y:Unit):=zrF x.1 x.2.1 x.2.2.1
def zKn (n:Nat) (a:yB) (i:Int) (k:Int):=zN (zA1) (.inl default) n (a,i,k,()) ()
def zSj (r:zKe):LTree ty:=.ite (isL r) (.done .ret [.lit (.bool (getL r))] []) (.done (.exit 2) [.sl 42 (getR r).1,.lit (.int .i64 (getR r).2)] [])
def zTv:LL ty zvb:=za (lSl 42) (za zm (za zm zr))
def zrK (a:yB) (i:Int):Wy zvd Unit (Bool⊕Unit):=.i (decide (i<Int.ofNat a.length)) (.i (decide (0<=i)&&decide (i<Int.ofNat a.length)) (.i (decide (Int.ofNat (a.getD i.toNat default).Fs.length>64)) (.k (.inl false)) (.bn (zKn ((a.length+i.toNat +Int.toNat 0+1)+zdi a) a i 0) λr0=>.i (isL r0) (.k (.inl (getL r0))) (.h ((getR r0).1,(IntKind.i64.wrap ((getR r0).2+1)),()) ()))) .d) (.k (.inr ()))
def zAl (x:zvd) (y:Unit):=zrK x.1 x.2.1
def zKh (n:Nat) (a:yB) (i:Int):=zN (zAl) (.inl default) n (a,i,()) ()
def zRH (r:Bool⊕Unit):LTree ty:=.ite (isL r) (.done .ret [.lit (.bool (getL r))] []) (.done (.exit 0) [] [])
def zTd:LL ty zvd:=za (lSl 42) (za zm zr)
def zSn (x:zvb) (y:Unit):Nat:=((x.1.length+Int.toNat x.2.1+Int.toNat x.2.2.1+1)+zdi x.1)
def zRJ (x:zvd) (y:Unit):Nat:=((x.1.length+Int.toNat x.2.1+1)+zdi x.1)
def zAQ:=zcC base 65 [(48,zwu),(147,zzI)] [] [(4,(kpL [0,3])),(9,(kpL [0,3,4]))] [(4,1,[]),(4,0,(kpL [2])),(9,3,(kpL [0,3])),(9,0,(kpL [2]))] [(9,spW zTv zQf (zA1) (.inl default) zSj zSn),(4,spW zTd zQf (zAl) (.inl default) zRH zRJ)] []
theorem zSF:zR zAQ (lp (body f102) 1):=zD (id:=9) (hl:=rfl)
theorem zRV:zR zAQ (lp (body f102) 0):=zD (id:=4) (hl:=rfl)
def zNm (a:yB):Wy0 (Bool):=.i (decide (Int.ofNat a.length>512)) (.k false) (.bn (zAy a) λr4=>.i (decide (r4>8)) (.k false) (.bn (zwX a) λr3=>.i (decide (r3>4096)) (.k false) (.bn (zKh ((a.length+Int.toNat 0+1)+zdi a) a 0) λr2=>.i (isL r2) (.k (getL r2)) (.k true))))
def zwA (a:yB):=(zNm a).fin default
def zFk:=zi zT8 λx=>((zwA x.1).1,zRi (zwA x.1).2)
theorem zPO:SdP 102 zFk:=
 sT (cx':=zAQ) (zn ⟨zDT,zK9,trivial⟩) call102 func102 (lOK (aC zRV (aC zSF aN)))
abbrev ztM:=yB×Int×Unit×Int×Unit
abbrev zGU:=Bool⊕(yB×Int)
abbrev ztW:=yB×Int×Unit
def zlK (zU:At->Bool×Bool) (a:yB) (i:Int) (k:Int) (t:Term):Wy ztM (Term×Unit) zGU:=.i (decide (k<Int.ofNat t.Fs.length)) (.i (decide (0<=k)&&decide (k<Int.ofNat t.Fs.length)) (.i (decide ((t.Fs.getD k.toNat default).Exp<1)) (.k (.inl false)) (.i (decide ((t.Fs.getD k.toNat default).Exp>1)) (.i (decide ((t.Fs.getD k.toNat default).At.Kind≥3)) (.k (.inl false)) (.bn (zU (At.mk (t.Fs.getD k.toNat default).At.Kind (t.Fs.getD k.toNat default).At.Row (t.Fs.getD k.toNat default).At.Ag (t.Fs.getD k.toNat default).At.Func (t.Fs.getD k.toNat default).At.Items (t.Fs.getD k.toNat default).At.Op (t.Fs.getD k.toNat default).At.Bd)) λr1=>.i (!r1) (.k (.inl false)) (.i (decide (k>0)) (.i (decide (0<=IntKind.i64.wrap (k - 1))&&decide (IntKind.i64.wrap (k - 1)<Int.ofNat t.Fs.length)) (.bn (zpC (At.mk (t.Fs.getD (IntKind.i64.wrap (k - 1)).toNat default).At.Kind (t.Fs.getD (IntKind.i64.wrap (k - 1)).toNat default).At.Row (t.Fs.getD (IntKind.i64.wrap (k - 1)).toNat default).At.Ag (t.Fs.getD (IntKind.i64.wrap (k - 1)).toNat default).At.Func (t.Fs.getD (IntKind.i64.wrap (k - 1)).toNat default).At.Items (t.Fs.getD (IntKind.i64.wrap (k - 1)).toNat default).At.Op (t.Fs.getD (IntKind.i64.wrap (k - 1)).toNat default).At.Bd) (At.mk (t.Fs.getD k.toNat default).At.Kind (t.Fs.getD k.toNat default).At.Row (t.Fs.getD k.toNat default).At.Ag (t.Fs.getD k.toNat default).At.Func (t.Fs.getD k.toNat default).At.Items (t.Fs.getD k.toNat default).At.Op (t.Fs.getD k.toNat default).At.Bd)) λr0=>.i (decide (r0≥0)) (.k (.inl false)) (.h (a,i,(),(IntKind.i64.wrap (k+1)),()) (t,()))) .d) (.h (a,i,(),(IntKind.i64.wrap (k+1)),()) (t,()))))) (.bn (zU (At.mk (t.Fs.getD k.toNat default).At.Kind (t.Fs.getD k.toNat default).At.Row (t.Fs.getD k.toNat default).At.Ag (t.Fs.getD k.toNat default).At.Func (t.Fs.getD k.toNat default).At.Items (t.Fs.getD k.toNat default).At.Op (t.Fs.getD k.toNat default).At.Bd)) λr3=>.i (!r3) (.k (.inl false)) (.i (decide (k>0)) (.i (decide (0<=IntKind.i64.wrap (k - 1))&&decide (IntKind.i64.wrap (k - 1)<Int.ofNat t.Fs.length)) (.bn (zpC (At.mk (t.Fs.getD (IntKind.i64.wrap (k - 1)).toNat default).At.Kind (t.Fs.getD (IntKind.i64.wrap (k - 1)).toNat default).At.Row (t.Fs.getD (IntKind.i64.wrap (k - 1)).toNat default).At.Ag (t.Fs.getD (IntKind.i64.wrap (k - 1)).toNat default).At.Func (t.Fs.getD (IntKind.i64.wrap (k - 1)).toNat default).At.Items (t.Fs.getD (IntKind.i64.wrap (k - 1)).toNat default).At.Op (t.Fs.getD (IntKind.i64.wrap (k - 1)).toNat default).At.Bd) (At.mk (t.Fs.getD k.toNat default).At.Kind (t.Fs.getD k.toNat default).At.Row (t.Fs.getD k.toNat default).At.Ag (t.Fs.getD k.toNat default).At.Func (t.Fs.getD k.toNat default).At.Items (t.Fs.getD k.toNat default).At.Op (t.Fs.getD k.toNat default).At.Bd)) λr2=>.i (decide (r2≥0)) (.k (.inl false)) (.h (a,i,(),(IntKind.i64.wrap (k+1)),()) (t,()))) .d) (.h (a,i,(),(IntKind.i64.wrap (k+1)),()) (t,())))))) .d) (.k (.inr (a,i)))
def zun (zU:At->Bool×Bool) (x:ztM) (y:Term×Unit):=zlK zU x.1 x.2.1 x.2.2.2.1 y.1
def zuC (zU:At->Bool×Bool) (n:Nat) (a:yB) (i:Int) (k:Int) (t:Term):=zN (zun zU) (.inl default) n (a,i,(),k,()) (t,())
def zMu (r:zGU):LTree ty:=.ite (isL r) (.done .ret [.lit (.bool (getL r))] []) (.done (.exit 2) [.sl 42 (getR r).1,.lit (.int .i64 (getR r).2)] [])
def zOg:LL ty ztM:=za (lSl 42) (za zm (za (zeB 372 0) (za zm zr)))
def zNY:BL ty (Term×Unit):=zhD (zhu (λx=>(⟨x.1,x.2.1⟩:Term)) (λx=>(x.Cf,x.Fs,())) (λ_=>rfl) (za (zA .i64) (za (lSl 50) zr))) false (zbv)
def zni (zU:At->Bool×Bool) (a:yB) (i:Int):Wy ztW Unit (Bool⊕Unit):=.i (decide (i<Int.ofNat a.length)) (.i (decide (0<=i)&&decide (i<Int.ofNat a.length)) (.i (decide ((a.getD i.toNat default).Cf<1)) (.k (.inl false)) (.i (decide ((a.getD i.toNat default).Cf>1152921504606846976)) (.k (.inl false)) (.i (decide (i>0)) (.i (decide (0<=IntKind.i64.wrap (i - 1))&&decide (IntKind.i64.wrap (i - 1)<Int.ofNat a.length)) (.bn (zrx (a.getD (IntKind.i64.wrap (i - 1)).toNat default).Fs (a.getD i.toNat default).Fs) λr9=>.i (decide (r9≥0)) (.k (.inl false)) (.bn (zuC zU (((a.length+i.toNat +Int.toNat 0+1)+(a.getD i.toNat default).Fs.length)+zdi a) a i 0 (a.getD i.toNat default)) λr8=>.i (isL r8) (.k (.inl (getL r8))) (.h ((getR r8).1,(IntKind.i64.wrap ((getR r8).2+1)),()) ()))) .d) (.bn (zuC zU (((a.length+i.toNat +Int.toNat 0+1)+(a.getD i.toNat default).Fs.length)+zdi a) a i 0 (a.getD i.toNat default)) λr10=>.i (isL r10) (.k (.inl (getL r10))) (.h ((getR r10).1,(IntKind.i64.wrap ((getR r10).2+1)),()) ()))))) .d) (.k (.inr ()))
def zvq (zU:At->Bool×Bool) (x:ztW) (y:Unit):=zni zU x.1 x.2.1
def zDH (zU:At->Bool×Bool) (n:Nat) (a:yB) (i:Int):=zN (zvq zU) (.inl default) n (a,i,()) ()
def zPG:LL ty ztW:=za (lSl 42) (za zm zr)
def zLI (x:ztM) (y:Term×Unit):Nat:=(((x.1.length+Int.toNat x.2.1+Int.toNat x.2.2.2.1+1)+y.1.Fs.length)+zdi x.1)
def zOh (x:ztW) (y:Unit):Nat:=((x.1.length+Int.toNat x.2.1+1)+zdi x.1)
def zvj (zU:At->Bool×Bool):=zcC base 93 [(89,zsI),(102,zFk),(103,(zpJ zU)),(104,zu0)] [] [(4,(kpL [0,3])),(10,(kpL [0,3,4,5]))] [(4,1,[]),(4,0,(kpL [2])),(10,3,(kpL [0,3])),(10,0,(kpL [2]))] [(10,spW zOg zNY (zun zU) (.inl default) zMu zLI),(4,spW zPG zQf (zvq zU) (.inl default) zRH zOh)] []
theorem zNq (zU:At->Bool×Bool):zR (zvj zU) (lp (body f46) 1):=zD (id:=10) (hl:=rfl)
theorem zOe (zU:At->Bool×Bool):zR (zvj zU) (lp (body f46) 0):=zD (id:=4) (hl:=rfl)
def zFd (zU:At->Bool×Bool) (a:yB):Wy0 (Bool):=.bn (zwA a) λr15=>.i (!r15) (.k false) (.bn (zDH zU ((a.length+Int.toNat 0+1)+zdi a) a 0) λr14=>.i (isL r14) (.k (getL r14)) (.k true))
def zr2 (zU:At->Bool×Bool) (a:yB):=(zFd zU a).fin default
theorem zLa (zU:At->Bool×Bool) (zLs:SdP 103 (zpJ zU)):SdP 46 (zrO (zr2 zU)):=
 sT (cx':=(zvj zU)) (zn ⟨zAI,zPO,zLs,zEL,trivial⟩) call46 func46 (lOK (aC (zOe zU) (aC (zNq zU) aN)))
def zTB:=zbR base 9 [(39,zz9)]
def zL9 (a:yB) (b:yB):Wy0 (Bool):=.bn (zBi a b) λr0=>.k (r0==0)
def zq3 (a:yB) (b:yB):=(zL9 a b).fin default
def zEZ:=zi zQF λx=>((zq3 x.1 x.2.1).1,zRi (zq3 x.1 x.2.1).2)
theorem zPA:SdP 24 zEZ:=
 sT (cx':=zTB) (zn ⟨zKp,trivial⟩) call24 func24 (lOK aN)
def zQP:=zbR base 42 []
def zHY (a:yB):Wy0 (Bool):=.i (Int.ofNat a.length==1) (.i (decide ((0:Int)<=(0:Int))&&decide (0<Int.ofNat a.length)) (.i ((a.getD (Int.toNat 0) default).Cf==1) (.i (decide ((0:Int)<=(0:Int))&&decide (0<Int.ofNat a.length)) (.i (Int.ofNat (a.getD (Int.toNat 0) default).Fs.length==1) (.i (decide ((0:Int)<=(0:Int))&&decide (0<Int.ofNat a.length)) (.i (decide ((0:Int)<=(0:Int))&&decide (0<Int.ofNat (a.getD (Int.toNat 0) default).Fs.length)) (.i (decide (((a.getD (Int.toNat 0) default).Fs.getD (Int.toNat 0) default).At.Kind≥2)) (.i (decide ((0:Int)<=(0:Int))&&decide (0<Int.ofNat a.length)) (.i (decide ((0:Int)<=(0:Int))&&decide (0<Int.ofNat (a.getD (Int.toNat 0) default).Fs.length)) (.k (((a.getD (Int.toNat 0) default).Fs.getD (Int.toNat 0) default).Exp==1)) .d) .d) (.k false)) .d) .d) (.k false)) .d) (.k false)) .d) (.k false)
def zpZ (a:yB):=(zHY a).fin default
def zBt:=zi zT8 λx=>((zpZ x.1).1,zRi (zpZ x.1).2)
theorem zMr:SdP 66 zBt:=
 sT (cx':=zQP) (zn trivial) call66 func66 (lOK aN)
abbrev zuy:=yB×Int×Unit
def zls (a:yB) (i:Int):Wy zuy Unit (Bool⊕Unit):=.i (decide (i<Int.ofNat a.length)) (.i (decide (0<=i)&&decide (i<Int.ofNat a.length)) (.i (Int.ofNat (a.getD i.toNat default).Fs.length==0) (.k (.inl true)) (.h (a,(IntKind.i64.wrap (i+1)),()) ())) .d) (.k (.inr ()))
def zur (x:zuy) (y:Unit):=zls x.1 x.2.1
def zBp (n:Nat) (a:yB) (i:Int):=zN (zur) (.inl default) n (a,i,()) ()
def zN7:LL ty zuy:=za (lSl 42) (za zm zr)
def zBs:=zcC base 17 [] [] [(2,(kpL [0,3]))] [(2,1,[]),(2,0,(kpL [2]))] [(2,spW zN7 zQf (zur) (.inl default) zRH λx y=>(x.1.length+Int.toNat x.2.1+1))] []
theorem zLE:zR zBs (lp (body f67) 0):=zD (id:=2) (hl:=rfl)
def zDm (a:yB):Wy0 (Bool):=.bn (zBp (a.length+Int.toNat 0+1) a 0) λr0=>.i (isL r0) (.k (getL r0)) (.k false)
def zjM (a:yB):=(zDm a).fin default
def zxN:=zi zT8 λx=>((zjM x.1).1,zRi (zjM x.1).2)
theorem zIX:SdP 67 zxN:=
 sT (cx':=zBs) (zn trivial) call67 func67 (lOK (aC zLE aN))
def zSh:=zbR base 36 []
def zKl (v:Value):Wy0 (Bool):=.i (v.Kind==0) (.k (v.Text.toList==(ByteArray.mk #[]).toList)) (.i (v.Kind==1) (.i (v.Int==0) (.k (decide (Int.ofNat v.Text.size<=255))) (.k false)) (.i (v.Kind==2) (.i (v.Text.toList==(ByteArray.mk #[]).toList) (.i (v.Int==0) (.k true) (.k (v.Int==1))) (.k false)) (.k false)))
def zsc (v:Value):=(zKl v).fin default
def zTu:AL base (Value×Unit):=zf (zg (zdh 46)) zF
def zDu:=zi zTu λx=>((zsc x.1).1,zRi (zsc x.1).2)
theorem zNS:SdP 137 zDu:=
 sT (cx':=zSh) (zn trivial) call137 func137 (lOK aN)
abbrev ztV:=Int×yD×Unit×Int×Unit
def zpS (fn:Int) (items:yD) (i:Int) (bound:Value):Wy ztV (Value×Unit) (Bool⊕Unit):=.i (decide (i<Int.ofNat items.length)) (.i (decide (0<=i)&&decide (i<Int.ofNat items.length)) (.bn (zsc (items.getD i.toNat default).Value) λr0=>.i (!r0) (.k (.inl false)) (.i ((items.getD i.toNat default).Value.Kind != bound.Kind) (.k (.inl false)) (.i (fn==0) (.i ((items.getD i.toNat default).Value.Int != 1) (.k (.inl false)) (.h (fn,items,(),(IntKind.i64.wrap (i+1)),()) (bound,()))) (.h (fn,items,(),(IntKind.i64.wrap (i+1)),()) (bound,()))))) .d) (.k (.inr ()))
def zx5 (x:ztV) (y:Value×Unit):=zpS x.1 x.2.1 x.2.2.2.1 y.1
def zxY (n:Nat) (fn:Int) (items:yD) (i:Int) (bound:Value):=zN (zx5) (.inl default) n (fn,items,(),i,()) (bound,())
def zR7:LL ty ztV:=za zm (za (lSl 52) (za (zeB 276 0) (za zm zr)))
def zR5:BL ty (Value×Unit):=zhD (zhu (λx=>(⟨x.1,x.2.1,x.2.2.1⟩:Value)) (λx=>(x.Kind,x.Int,x.Text,())) (λ_=>rfl) (za (zA .i64) (za (zA .i64) (za zmf zr)))) false (zbv)
def zQu (x:ztV) (y:Value×Unit):Nat:=(Int.toNat x.1+x.2.1.length+Int.toNat x.2.2.2.1+1)
def zG0:=zcC base 69 [(137,zDu)] [] [(4,(kpL [0,1,7,9]))] [(4,1,[]),(4,0,(kpL [8]))] [(4,spW zR7 zR5 (zx5) (.inl default) zRH zQu)] []
theorem zQg:zR zG0 (lp (body f80) 0):=zD (id:=4) (hl:=rfl)
def zKb (fn:Int) (items:yD) (op:Int) (bound:Value):Wy0 (Bool):=.i (decide (fn<0)) (.k false) (.i (decide (fn>3)) (.k false) (.i (decide (op<5)) (.k false) (.i (decide (op>10)) (.k false) (.bn (zsc bound) λr4=>.i (!r4) (.k false) (.i (decide (fn<=1)) (.i (bound.Kind != 0) (.k false) (.bn (zxY (fn.toNat +items.length+Int.toNat 0+1) fn items 0 bound) λr2=>.i (isL r2) (.k (getL r2)) (.k true))) (.bn (zxY (fn.toNat +items.length+Int.toNat 0+1) fn items 0 bound) λr3=>.i (isL r3) (.k (getL r3)) (.k true)))))))
def zuX (fn:Int) (items:yD) (op:Int) (bound:Value):=(zKb fn items op bound).fin default
def zTs:AL base (Int×yD×Int×Value×Unit):=zf (zg zlk) (zf (zg (vSl 52)) (zf (zg zlk) (zf (zg (zdh 46)) zF)))
def zDq:=zi zTs λx=>((zuX x.1 x.2.1 x.2.2.1 x.2.2.2.1).1,zRi (zuX x.1 x.2.1 x.2.2.1 x.2.2.2.1).2)
theorem zN5:SdP 80 zDq:=
 sT (cx':=zG0) (zn ⟨zNS,trivial⟩) call80 func80 (lOK (aC zQg aN))
def zSr:=zbR base 23 []
def zKd (x_:At):Wy0 (Bool):=.i (x_.Func==0) (.i (Int.ofNat x_.Items.length==0) (.i (x_.Op==0) (.k (x_.Bd.Kind==0&&(x_.Bd.Int==0&&(x_.Bd.Text.toList==(ByteArray.mk #[]).toList&&true)))) (.k false)) (.k false)) (.k false)
def zmn (x_:At):=(zKd x_).fin default
def zC6:=zi zOs λx=>((zmn x.1).1,zRi (zmn x.1).2)
theorem zN0:SdP 148 zC6:=
 sT (cx':=zSr) (zn trivial) call148 func148 (lOK aN)
abbrev zeL:=Unit×Int×Unit
def ziJ (zbj:yB->Bool×Bool) (i:Int) (x_:At):Wy zeL (At×Unit) (Bool⊕At):=.i (decide (i<Int.ofNat x_.Ag.length)) (.i (decide (0<=i)&&decide (i<Int.ofNat x_.Ag.length)) (.i (Int.ofNat (List.length (x_.Ag.getD i.toNat default))==0) (.k (.inl false)) (.i (decide (0<=i)&&decide (i<Int.ofNat x_.Ag.length)) (.bn (zbj (x_.Ag.getD i.toNat default)) λr0=>.i (!r0) (.k (.inl false)) (.h ((),(IntKind.i64.wrap (i+1)),()) (x_,()))) .d)) .d) (.k (.inr x_))
def zrk (zbj:yB->Bool×Bool) (x:zeL) (y:At×Unit):=ziJ zbj x.2.1 y.1
def zru (zbj:yB->Bool×Bool) (n:Nat) (i:Int) (x_:At):=zN (zrk zbj) (.inl default) n ((),i,()) (x_,())
def zHz (r:Bool⊕At):LTree ty:=.ite (isL r) (.done .ret [.lit (.bool (getL r))] []) (.done (.exit 0) [.ptr 824 0] [.box (base.enc 48 (getR r)) false])
def zIF:LL ty zeL:=za (zeB 824 0) (za zm zr)
def zh7 (zbj:yB->Bool×Bool) (i:Int) (x_:At):Wy zeL (At×Unit) (Bool⊕Unit):=.i (decide (i<Int.ofNat x_.Items.length)) (.i (decide (0<=i)&&decide (i<Int.ofNat x_.Items.length)) (.i (Int.ofNat (x_.Items.getD i.toNat default).Ann.length==0) (.k (.inl false)) (.i (decide (0<=i)&&decide (i<Int.ofNat x_.Items.length)) (.bn (zbj (x_.Items.getD i.toNat default).Ann) λr3=>.i (!r3) (.k (.inl false)) (.i (decide (i>0)) (.i (decide (0<=IntKind.i64.wrap (i - 1))&&decide (IntKind.i64.wrap (i - 1)<=i)&&decide (i<=Int.ofNat x_.Items.length)) (.i (decide (0<=i)&&decide (i<=IntKind.i64.wrap (i+1))&&decide (IntKind.i64.wrap (i+1)<=Int.ofNat x_.Items.length)) (.bn (ztH (List.take (i.toNat - (IntKind.i64.wrap (i - 1)).toNat) (List.drop (IntKind.i64.wrap (i - 1)).toNat x_.Items)) (List.take ((IntKind.i64.wrap (i+1)).toNat - i.toNat) (List.drop i.toNat x_.Items))) λr2=>.i (decide (r2>0)) (.k (.inl false)) (.h ((),(IntKind.i64.wrap (i+1)),()) (x_,()))) .d) .d) (.h ((),(IntKind.i64.wrap (i+1)),()) (x_,())))) .d)) .d) (.k (.inr ()))
def zqo (zbj:yB->Bool×Bool) (x:zeL) (y:At×Unit):=zh7 zbj x.2.1 y.1
def zv7 (zbj:yB->Bool×Bool) (n:Nat) (i:Int) (x_:At):=zN (zqo zbj) (.inl default) n ((),i,()) (x_,())
def zFN (r:Bool⊕Unit):LTree ty:=.ite (isL r) (.done .ret [.lit (.bool (getL r))] []) (.done (.exit 3) [] [])
def zG2 (x:zeL) (y:At×Unit):Nat:=((Int.toNat x.2.1+1)+y.1.Ag.length+y.1.Items.length)
def zq5 (zbj:yB->Bool×Bool):=zcC base 206 [(24,zEZ),(35,zug),(46,(zrO zbj)),(66,zBt),(67,zxN),(80,zDq),(148,zC6)] [] [(6,(kpL [1,3])),(21,(kpL [1,4]))] [(6,1,(kpL [1])),(6,0,(kpL [2])),(21,4,[]),(21,0,(kpL [2]))] [(6,spW zIF zP5 (zrk zbj) (.inl default) zHz zG2),(21,spW zIF zP5 (zqo zbj) (.inl default) zFN zG2)] []
theorem zHu (zbj:yB->Bool×Bool):zR (zq5 zbj) (lp (body f103) 0):=zD (id:=6) (hl:=rfl)
theorem zGk (zbj:yB->Bool×Bool):zR (zq5 zbj) (lp (body f103) 1):=zD (id:=21) (hl:=rfl)
def zxP (zbj:yB->Bool×Bool) (x_:At):Wy0 (Bool):=.i (x_.Kind==0) (.i (decide (x_.Row.Table≥1)) (.i (decide (x_.Row.Seq≥1)) (.i (Int.ofNat x_.Ag.length==0) (.bn (zmn (At.mk x_.Kind x_.Row x_.Ag x_.Func x_.Items x_.Op x_.Bd)) λr6=>.k r6) (.k false)) (.k false)) (.k false)) (.i (!(x_.Row.Table==0&&(x_.Row.Seq==0&&true))) (.k false) (.bn (zru zbj ((Int.toNat 0+1)+(At.mk x_.Kind x_.Row x_.Ag x_.Func x_.Items x_.Op x_.Bd).Ag.length+(At.mk x_.Kind x_.Row x_.Ag x_.Func x_.Items x_.Op x_.Bd).Items.length) 0 (At.mk x_.Kind x_.Row x_.Ag x_.Func x_.Items x_.Op x_.Bd)) λr17=>.i (isL r17) (.k (getL r17)) (.i ((getR r17).Kind==1) (.i (Int.ofNat (getR r17).Ag.length==2) (.bn (zmn (At.mk (getR r17).Kind (getR r17).Row (getR r17).Ag (getR r17).Func (getR r17).Items (getR r17).Op (getR r17).Bd)) λr8=>.i (r8) (.i (decide ((0:Int)<=(0:Int))&&decide (0<Int.ofNat (getR r17).Ag.length)) (.i (decide ((0:Int)<=(1:Int))&&decide (1<Int.ofNat (getR r17).Ag.length)) (.bn (zq3 ((getR r17).Ag.getD (Int.toNat 0) default) ((getR r17).Ag.getD (Int.toNat 1) default)) λr7=>.k (!r7)) .d) .d) (.k false)) (.k false)) (.i ((getR r17).Kind==2) (.i (Int.ofNat (getR r17).Ag.length==1) (.bn (zmn (At.mk (getR r17).Kind (getR r17).Row (getR r17).Ag (getR r17).Func (getR r17).Items (getR r17).Op (getR r17).Bd)) λr12=>.i (r12) (.i (decide ((0:Int)<=(0:Int))&&decide (0<Int.ofNat (getR r17).Ag.length)) (.i (Int.ofNat (List.length ((getR r17).Ag.getD (Int.toNat 0) default))==1) (.i (decide ((0:Int)<=(0:Int))&&decide (0<Int.ofNat (getR r17).Ag.length)) (.bn (zjM ((getR r17).Ag.getD (Int.toNat 0) default)) λr10=>.i (!r10) (.i (decide ((0:Int)<=(0:Int))&&decide (0<Int.ofNat (getR r17).Ag.length)) (.bn (zpZ ((getR r17).Ag.getD (Int.toNat 0) default)) λr9=>.k (!r9)) .d) (.k false)) .d) (.i (decide ((0:Int)<=(0:Int))&&decide (0<Int.ofNat (getR r17).Ag.length)) (.bn (zpZ ((getR r17).Ag.getD (Int.toNat 0) default)) λr11=>.k (!r11)) .d)) .d) (.k false)) (.k false)) (.i ((getR r17).Kind==3) (.i (Int.ofNat (getR r17).Ag.length==1) (.bn (zmn (At.mk (getR r17).Kind (getR r17).Row (getR r17).Ag (getR r17).Func (getR r17).Items (getR r17).Op (getR r17).Bd)) λr14=>.i (r14) (.i (decide ((0:Int)<=(0:Int))&&decide (0<Int.ofNat (getR r17).Ag.length)) (.bn (zjM ((getR r17).Ag.getD (Int.toNat 0) default)) λr13=>.k (!r13)) .d) (.k false)) (.k false)) (.i ((getR r17).Kind==4) (.i (Int.ofNat (getR r17).Ag.length != 0) (.k false) (.i (Int.ofNat (getR r17).Items.length==0) (.k false) (.i (decide (Int.ofNat (getR r17).Items.length>1024)) (.k false) (.bn (zuX (getR r17).Func (getR r17).Items (getR r17).Op (getR r17).Bd) λr16=>.i (!r16) (.k false) (.bn (zv7 zbj ((Int.toNat 0+1)+(At.mk (getR r17).Kind (getR r17).Row (getR r17).Ag (getR r17).Func (getR r17).Items (getR r17).Op (getR r17).Bd).Ag.length+(At.mk (getR r17).Kind (getR r17).Row (getR r17).Ag (getR r17).Func (getR r17).Items (getR r17).Op (getR r17).Bd).Items.length) 0 (At.mk (getR r17).Kind (getR r17).Row (getR r17).Ag (getR r17).Func (getR r17).Items (getR r17).Op (getR r17).Bd)) λr15=>.i (isL r15) (.k (getL r15)) (.k true)))))) (.k false)))))))
def zlH (zbj:yB->Bool×Bool) (x_:At):=(zxP zbj x_).fin default
theorem zEl (zbj:yB->Bool×Bool) (zRs:SdP 46 (zrO zbj)):SdP 103 (zpJ (zlH zbj)):=
 sT (cx':=(zq5 zbj)) (zn ⟨zPA,zCK,zRs,zMr,zIX,zN5,zN0,trivial⟩) call103 func103 (lOK (aC (zHu zbj) (aC (zGk zbj) aN)))
def zCh:Nat->(yB->Bool×Bool)×(At->Bool×Bool)
 | 0=>(λ_=>(false,default),λ_=>(false,default))
 | n+1=>(zr2 ((zCh n).2),zlH ((zCh n).1))
def zr0 (n:Nat):yB->Bool×Bool:=(zCh n).1
def zpK (n:Nat):At->Bool×Bool:=(zCh n).2
theorem zPs (n:Nat):zr0 (n+1)=zr2 (zpK n):=rfl
theorem zJc (n:Nat):zpK (n+1)=zlH (zr0 n):=rfl
theorem zML:∀ n,SdP 46 (zrO (zr0 n))/\SdP 103 (zpJ (zpK n))
 | 0=>⟨zbd call46 (λ_=>rfl),zbd call103 (λ_=>rfl)⟩
 | n+1=>by
  have ih:=zML n;exact ⟨zLa _ (ih.2),zEl _ (ih.1)⟩
def zyU:yB->Bool×Bool:=zr0 1000
def zDN:Ab.Spec ty:=zrO zyU
theorem zOG:SdP 46 zDN:=(zML 1000).1
def zLw (r:yE):ARes ty:=⟨[.pure (.sl 25 r)],[]⟩
def zlF (F:yB->Bool×yE):Ab.Spec ty:=zi zT8 λx=>((F x.1).1,zLw (F x.1).2)
abbrev zwJ:=yE×Unit×Int×Unit
abbrev zER:=yE×Int×RowID
def zoy (l:yE) (i:Int) (id:RowID):Wy zwJ (RowID×Unit) zER:=.i (decide (i<Int.ofNat l.length)) (.i (decide (0<=i)&&decide (i<Int.ofNat l.length)) (.bn (zhS (l.getD i.toNat default) id) λr0=>.i (decide (r0<0)) (.h (l,(),(IntKind.i64.wrap (i+1)),()) (id,())) (.k (l,i,id))) .d) (.k (l,i,id))
def zwG (x:zwJ) (y:RowID×Unit):=zoy x.1 x.2.2.1 y.1
def zFi (n:Nat) (l:yE) (i:Int) (id:RowID):=zN (zwG) default n (l,(),i,()) (id,())
def zPX (r:zER):LTree ty:=.done (.exit 0) [.sl 25 r.1,.ptr 184 0,.lit (.int .i64 r.2.1)] [.box (base.enc 25 r.2.2) false]
def zQX:LL ty zwJ:=za (lSl 25) (za (zeB 184 0) (za zm zr))
def zQQ:BL ty (RowID×Unit):=zhD (zhu (λx=>(⟨x.1,x.2.1⟩:RowID)) (λx=>(x.Table,x.Seq,())) (λ_=>rfl) (za (zA .i64) (za (zA .i64) zr))) false (zbv)
def zEO:=zcC base 46 [(146,zqp)] [] [(2,(kpL [0,3,5]))] [(2,1,(kpL [0,3,5]))] [(2,spW zQX zQQ (zwG) default zPX λx y=>(x.1.length+Int.toNat x.2.2.1+1))] []
theorem zPv:zR zEO (lp (body f100) 0):=zD (id:=2) (hl:=rfl)
def zGH (l:yE) (id:RowID):Wy0 (yE):=.bn (zFi (l.length+Int.toNat 0+1) l 0 id) λr2=>.i (decide (r2.2.1<Int.ofNat r2.1.length)) (.i (decide (0<=r2.2.1)&&decide (r2.2.1<Int.ofNat r2.1.length)) (.i ((r2.1.getD r2.2.1.toNat default).Table==r2.2.2.Table&&((r2.1.getD r2.2.1.toNat default).Seq==r2.2.2.Seq&&true)) (.k r2.1) (.i (decide ((0:Int)<=(0:Int))&&decide (0<=r2.2.1)&&decide (r2.2.1<=Int.ofNat r2.1.length)) (.i (decide ((0+(List.take (r2.2.1.toNat - Int.toNat 0) (List.drop (Int.toNat 0) r2.1)).length)*16<=zbO)) (.i (decide ((([]++List.take (r2.2.1.toNat - Int.toNat 0) (List.drop (Int.toNat 0) r2.1)).length+[r2.2.2].length)*16<=zbO)) (.i (decide (0<=r2.2.1)&&decide (r2.2.1<=Int.ofNat r2.1.length)&&decide (Int.ofNat r2.1.length<=Int.ofNat r2.1.length)) (.i (decide ((([]++List.take (r2.2.1.toNat - Int.toNat 0) (List.drop (Int.toNat 0) r2.1)++[r2.2.2]).length+(List.take ((Int.ofNat r2.1.length).toNat - r2.2.1.toNat) (List.drop r2.2.1.toNat r2.1)).length)*16<=zbO)) (.k ([]++List.take (r2.2.1.toNat - Int.toNat 0) (List.drop (Int.toNat 0) r2.1)++[r2.2.2]++List.take ((Int.ofNat r2.1.length).toNat - r2.2.1.toNat) (List.drop r2.2.1.toNat r2.1))) .d) .d) .d) .d) .d)) .d) (.i (decide ((0:Int)<=(0:Int))&&decide (0<=r2.2.1)&&decide (r2.2.1<=Int.ofNat r2.1.length)) (.i (decide ((0+(List.take (r2.2.1.toNat - Int.toNat 0) (List.drop (Int.toNat 0) r2.1)).length)*16<=zbO)) (.i (decide ((([]++List.take (r2.2.1.toNat - Int.toNat 0) (List.drop (Int.toNat 0) r2.1)).length+[r2.2.2].length)*16<=zbO)) (.i (decide (0<=r2.2.1)&&decide (r2.2.1<=Int.ofNat r2.1.length)&&decide (Int.ofNat r2.1.length<=Int.ofNat r2.1.length)) (.i (decide ((([]++List.take (r2.2.1.toNat - Int.toNat 0) (List.drop (Int.toNat 0) r2.1)++[r2.2.2]).length+(List.take ((Int.ofNat r2.1.length).toNat - r2.2.1.toNat) (List.drop r2.2.1.toNat r2.1)).length)*16<=zbO)) (.k ([]++List.take (r2.2.1.toNat - Int.toNat 0) (List.drop (Int.toNat 0) r2.1)++[r2.2.2]++List.take ((Int.ofNat r2.1.length).toNat - r2.2.1.toNat) (List.drop r2.2.1.toNat r2.1))) .d) .d) .d) .d) .d)
def zp0 (l:yE) (id:RowID):=(zGH l id).fin default
def zR1:AL base (yE×RowID×Unit):=zf (zg (vSl 25)) (zf (zg (zdh 25)) zF)
def zuw:=zi zR1 λx=>((zp0 x.1 x.2.1).1,zLw (zp0 x.1 x.2.1).2)
theorem zzg:SdP 100 zuw:=
 sT (cx':=zEO) (zn ⟨zuT,trivial⟩) call100 func100 (lOK (aC zPv aN))
abbrev ztS:=yE×yE×Int×Unit
def zrE (a:yE) (b:yE) (i:Int):Wy ztS Unit (yE):=.i (decide (i<Int.ofNat b.length)) (.i (decide (0<=i)&&decide (i<Int.ofNat b.length)) (.bn (zp0 a (b.getD i.toNat default)) λr0=>.h ((r0),b,(IntKind.i64.wrap (i+1)),()) ()) .d) (.k a)
def zA3 (x:ztS) (y:Unit):=zrE x.1 x.2.1 x.2.2.1
def zJ1 (n:Nat) (a:yE) (b:yE) (i:Int):=zN (zA3) default n (a,b,i,()) ()
def zR9 (r:yE):LTree ty:=.done (.exit 0) [.sl 25 r] []
def zTh:LL ty ztS:=za (lSl 25) (za (lSl 25) (za zm zr))
def zR2 (x:ztS) (y:Unit):Nat:=(x.1.length+x.2.1.length+Int.toNat x.2.2.1+1)
def zJ8:=zcC base 19 [(100,zuw)] [] [(2,(kpL [0,1,5]))] [(2,1,(kpL [0]))] [(2,spW zTh zQf (zA3) default zR9 zR2)] []
theorem zRT:zR zJ8 (lp (body f101) 0):=zD (id:=2) (hl:=rfl)
def zNr (a:yE) (b:yE):Wy0 (yE):=.bn (zJ1 (a.length+b.length+Int.toNat 0+1) a b 0) λr2=>.k r2
def ztK (a:yE) (b:yE):=(zNr a b).fin default
def zUl:AL base (yE×yE×Unit):=zf (zg (vSl 25)) (zf (zg (vSl 25)) zF)
def zE9:=zi zUl λx=>((ztK x.1 x.2.1).1,zLw (ztK x.1 x.2.1).2)
theorem zPl:SdP 101 zE9:=
 sT (cx':=zJ8) (zn ⟨zzg,trivial⟩) call101 func101 (lOK (aC zRT aN))
end Go.Proofs.YtnolcogncjijpaaGreatDoor
end
