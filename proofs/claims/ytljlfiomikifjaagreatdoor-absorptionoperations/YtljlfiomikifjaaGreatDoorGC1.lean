/- Texts of this claim, joined (the program, its functions in plain words, and what they compute). -/
import Derived.KernelRfl
import Derived.Test.YtljlfiomikifjaaGreatDoorChecked
import Derived.Test.YtljlfiomikifjaaGreatDoorProg
import Derived.Test.YtljlfiomikifjaaGreatDoorGB1
set_option autoImplicit false
set_option linter.unusedVariables false
set_option linter.unusedSectionVars false
set_option linter.unusedSimpArgs false
set_option maxRecDepth 1000000
set_option maxHeartbeats 0
/- The types of the program, as plain data. -/
noncomputable section
namespace Go.Proofs.YtljlfiomikifjaaGreatDoor
open Go Go.Ab
open Go.Proofs Go.Shelf
open Go.Proofs.Tryz
structure RowID where
 Table:Int
 Seq:Int
 deriving DecidableEq,Inhabited
structure Value where
 Kind:Int
 Int:Int
 Text:ByteArray
 deriving DecidableEq,Inhabited
structure FO (A:Type) where
 At:A
 Exp:Int
structure TO (A:Type) where
 Cf:Int
 Fs:List (FO A)
structure WO (A:Type) where
 Value:Value
 Ann:List (TO A)
structure At where
 Kind:Int
 Row:RowID
 Ag:List (List (TO At))
 Func:Int
 Items:List (WO At)
 Op:Int
 Bd:Value
abbrev Fc:=FO At
abbrev Term:=TO At
abbrev Wd:=WO At
instance:Inhabited At:=⟨⟨0,default,[],0,[],0,default⟩⟩
instance:Inhabited Fc:=⟨⟨default,0⟩⟩
instance:Inhabited Term:=⟨⟨0,[]⟩⟩
instance:Inhabited Wd:=⟨⟨default,[]⟩⟩
theorem At.eta (x:At):(⟨x.Kind,x.Row,x.Ag,x.Func,x.Items,x.Op,x.Bd⟩:At)=x:=by cases x; rfl
mutual
def zbhg:(x y:At)->Decidable (x=y)
 | ⟨k,r,a,f,i,o,b⟩,⟨k',r',a',f',i',o',b'⟩=>
  match decEq k k',decEq r r',zbhl a a',decEq f f',zbd1 i i',decEq o o',decEq b b' with
  | .isTrue h1,.isTrue h2,.isTrue h3,.isTrue h4,.isTrue h5,.isTrue h6,.isTrue h7=>.isTrue (by subst h1 h2 h3 h4 h5 h6 h7; rfl)
  | .isFalse h,_,_,_,_,_,_=>.isFalse (λe=>by cases e; exact h rfl)
  | _,.isFalse h,_,_,_,_,_=>.isFalse (λe=>by cases e; exact h rfl)
  | _,_,.isFalse h,_,_,_,_=>.isFalse (λe=>by cases e; exact h rfl)
  | _,_,_,.isFalse h,_,_,_=>.isFalse (λe=>by cases e; exact h rfl)
  | _,_,_,_,.isFalse h,_,_=>.isFalse (λe=>by cases e; exact h rfl)
  | _,_,_,_,_,.isFalse h,_=>.isFalse (λe=>by cases e; exact h rfl)
  | _,_,_,_,_,_,.isFalse h=>.isFalse (λe=>by cases e; exact h rfl)
def zbcc:(x y:Fc)->Decidable (x=y)
 | ⟨a,e⟩,⟨a',e'⟩=>match zbhg a a',decEq e e' with
  | .isTrue h1,.isTrue h2=>.isTrue (by subst h1 h2; rfl)
  | .isFalse h,_=>.isFalse (λe=>by cases e; exact h rfl)
  | _,.isFalse h=>.isFalse (λe=>by cases e; exact h rfl)
def z7u:(x y:List Fc)->Decidable (x=y)
 | [],[]=>.isTrue rfl
 | [],_::_=>.isFalse (by simp)
 | _::_,[]=>.isFalse (by simp)
 | x::r,y::s=>match zbcc x y,z7u r s with
  | .isTrue h1,.isTrue h2=>.isTrue (by subst h1 h2; rfl)
  | .isFalse h,_=>.isFalse (λe=>by cases e; exact h rfl)
  | _,.isFalse h=>.isFalse (λe=>by cases e; exact h rfl)
def zbg5:(x y:Term)->Decidable (x=y)
 | ⟨a,e⟩,⟨a',e'⟩=>match decEq a a',z7u e e' with
  | .isTrue h1,.isTrue h2=>.isTrue (by subst h1 h2; rfl)
  | .isFalse h,_=>.isFalse (λe=>by cases e; exact h rfl)
  | _,.isFalse h=>.isFalse (λe=>by cases e; exact h rfl)
def zbee:(x y:List Term)->Decidable (x=y)
 | [],[]=>.isTrue rfl
 | [],_::_=>.isFalse (by simp)
 | _::_,[]=>.isFalse (by simp)
 | x::r,y::s=>match zbg5 x y,zbee r s with
  | .isTrue h1,.isTrue h2=>.isTrue (by subst h1 h2; rfl)
  | .isFalse h,_=>.isFalse (λe=>by cases e; exact h rfl)
  | _,.isFalse h=>.isFalse (λe=>by cases e; exact h rfl)
def zbhl:(x y:List (List Term))->Decidable (x=y)
 | [],[]=>.isTrue rfl
 | [],_::_=>.isFalse (by simp)
 | _::_,[]=>.isFalse (by simp)
 | x::r,y::s=>match zbee x y,zbhl r s with
  | .isTrue h1,.isTrue h2=>.isTrue (by subst h1 h2; rfl)
  | .isFalse h,_=>.isFalse (λe=>by cases e; exact h rfl)
  | _,.isFalse h=>.isFalse (λe=>by cases e; exact h rfl)
def zbgG:(x y:Wd)->Decidable (x=y)
 | ⟨a,e⟩,⟨a',e'⟩=>match decEq a a',zbee e e' with
  | .isTrue h1,.isTrue h2=>.isTrue (by subst h1 h2; rfl)
  | .isFalse h,_=>.isFalse (λe=>by cases e; exact h rfl)
  | _,.isFalse h=>.isFalse (λe=>by cases e; exact h rfl)
def zbd1:(x y:List Wd)->Decidable (x=y)
 | [],[]=>.isTrue rfl
 | [],_::_=>.isFalse (by simp)
 | _::_,[]=>.isFalse (by simp)
 | x::r,y::s=>match zbgG x y,zbd1 r s with
  | .isTrue h1,.isTrue h2=>.isTrue (by subst h1 h2; rfl)
  | .isFalse h,_=>.isFalse (λe=>by cases e; exact h rfl)
  | _,.isFalse h=>.isFalse (λe=>by cases e; exact h rfl)
end
instance:DecidableEq At:=zbhg
instance:DecidableEq Fc:=zbcc
instance:DecidableEq Term:=zbg5
instance:DecidableEq Wd:=zbgG
structure Bg where
 Row:RowID
 To:List Term
 deriving DecidableEq,Inhabited
abbrev yA:=List (List Term)
abbrev yB:=List (List RowID)
abbrev yC:=List Term
abbrev yD:=List Fc
abbrev yE:=List Wd
abbrev yF:=List RowID
abbrev yG:=List Bg
abbrev yH:=List Value
def ty:Nat->Type
 | 2=>Int
 | 3=>Int
 | 4=>Bool
 | 5=>Int
 | 9=>ByteArray
 | 22=>yC
 | 23=>yC
 | 26=>yD
 | 28=>Term
 | 35=>Int
 | 39=>yB
 | 43=>yF
 | 47=>yG
 | 49=>RowID
 | 51=>Bg
 | 60=>yA
 | 63=>yE
 | 65=>Value
 | 67=>At
 | 69=>Fc
 | 100=>Wd
 | 121=>Unit
 | 135=>Int
 | 138=>List Int
 | 144=>List ByteArray
 | 189=>List (yD)
 | _=>Unit
instance:(T:Nat)->Inhabited (ty T):=λT=>by
 unfold ty;split <;>infer_instance
def zbk0:DT ty RowID:=zWd (λx=>⟨x.1,x.2⟩) (λx=>(x.Table,x.Seq)) (λ_=>rfl) (zwB (zAx .i64) (zAx .i64))
def zbkH:DT ty Value:=zWd (λx=>⟨x.1,x.2.1,x.2.2⟩) (λx=>(x.Kind,x.Int,x.Text)) (λ_=>rfl) (zwB (zAx .i64) (zwB (zAx .i64) (zblk)))
def zbnI:DT ty At:=zWd (λx=>⟨x.1,x.2.1,x.2.2.1,x.2.2.2.1,x.2.2.2.2.1,x.2.2.2.2.2.1,x.2.2.2.2.2.2⟩) (λx=>(x.Kind,x.Row,x.Ag,x.Func,x.Items,x.Op,x.Bd)) (λ_=>rfl) (zwB (zAx .i64) (zwB (zbk0) (zwB (zDA 23) (zwB (zAx .i64) (zwB (zDA 100) (zwB (zAx .i64) (zbkH)))))))
def zboE:DT ty Fc:=zWd (λx=>⟨x.1,x.2⟩) (λx=>(x.At,x.Exp)) (λ_=>rfl) (zwB (zbnI) (zAx .i64))
def zbox:DT ty Term:=zWd (λx=>⟨x.1,x.2⟩) (λx=>(x.Cf,x.Fs)) (λ_=>rfl) (zwB (zAx .i64) (zDA 69))
def zbof:DT ty Wd:=zWd (λx=>⟨x.1,x.2⟩) (λx=>(x.Value,x.Ann)) (λ_=>rfl) (zwB (zbkH) (zDA 28))
def zboB:DT ty Bg:=zWd (λx=>⟨x.1,x.2⟩) (λx=>(x.Row,x.To)) (λ_=>rfl) (zwB (zbk0) (zDA 28))
def z9E:List ((T:Nat)×DT ty (ty T)):=[⟨2,(zAx .i64:DT ty Int)⟩,⟨3,(zAx .i64:DT ty Int)⟩,⟨4,(zbnf:DT ty Bool)⟩,⟨5,(zAx .u8:DT ty Int)⟩,⟨9,(zblk:DT ty ByteArray)⟩,⟨22,(zDA 28:DT ty (yC))⟩,⟨23,(zDA 28:DT ty (yC))⟩,⟨26,(zDA 69:DT ty (yD))⟩,⟨28,(zbox:DT ty Term)⟩,⟨35,(zAx .i64:DT ty Int)⟩,⟨39,(zDA 43:DT ty (yB))⟩,⟨43,(zDA 49:DT ty (yF))⟩,⟨47,(zDA 51:DT ty (yG))⟩,⟨49,(zbk0:DT ty RowID)⟩,⟨51,(zboB:DT ty Bg)⟩,⟨60,(zDA 23:DT ty (yA))⟩,⟨63,(zDA 100:DT ty (yE))⟩,⟨65,(zbkH:DT ty Value)⟩,⟨67,(zbnI:DT ty At)⟩,⟨69,(zboE:DT ty Fc)⟩,⟨100,(zbof:DT ty Wd)⟩,⟨121,(zboU:DT ty Unit)⟩,⟨135,(zAx .u64:DT ty Int)⟩,⟨138,(zDA 3:DT ty (List Int))⟩,⟨144,(zDA 9:DT ty (List ByteArray))⟩,⟨189,(zDA 26:DT ty (List (yD)))⟩]
def zbdh:List (Nat×TInfo):=[(2,⟨.int .i64,1,8,[.int .i64 (0)]⟩),
 (3,⟨.int .i64,1,8,[.int .i64 (0)]⟩),
 (4,⟨.bool,1,1,[.bool false]⟩),
 (5,⟨.int .u8,1,1,[.int .u8 (0)]⟩),
 (9,⟨.str,1,16,[.string ⟨#[]⟩]⟩),
 (22,⟨.slice 28,1,24,[.slice none 0 0]⟩),
 (23,⟨.slice 28,1,24,[.slice none 0 0]⟩),
 (26,⟨.slice 69,1,24,[.slice none 0 0]⟩),
 (28,⟨.struct [(0,2),(1,26)],2,32,[.int .i64 (0),.slice none 0 0]⟩),
 (35,⟨.int .i64,1,8,[.int .i64 (0)]⟩),
 (39,⟨.slice 43,1,24,[.slice none 0 0]⟩),
 (43,⟨.slice 49,1,24,[.slice none 0 0]⟩),
 (47,⟨.slice 51,1,24,[.slice none 0 0]⟩),
 (49,⟨.struct [(0,3),(1,3)],2,16,[.int .i64 (0),.int .i64 (0)]⟩),
 (51,⟨.struct [(0,49),(2,23)],3,40,[.int .i64 (0),.int .i64 (0),.slice none 0 0]⟩),
 (60,⟨.slice 23,1,24,[.slice none 0 0]⟩),
 (63,⟨.slice 100,1,24,[.slice none 0 0]⟩),
 (65,⟨.struct [(0,3),(1,2),(2,9)],3,32,[.int .i64 (0),.int .i64 (0),.string ⟨#[]⟩]⟩),
 (67,⟨.struct [(0,3),(1,49),(3,60),(4,3),(5,63),(6,3),(7,65)],10,120,[.int .i64 (0),.int .i64 (0),.int .i64 (0),.slice none 0 0,.int .i64 (0),.slice none 0 0,.int .i64 (0),.int .i64 (0),.int .i64 (0),.string ⟨#[]⟩]⟩),
 (69,⟨.struct [(0,67),(10,3)],11,128,[.int .i64 (0),.int .i64 (0),.int .i64 (0),.slice none 0 0,.int .i64 (0),.slice none 0 0,.int .i64 (0),.int .i64 (0),.int .i64 (0),.string ⟨#[]⟩,.int .i64 (0)]⟩),
 (100,⟨.struct [(0,65),(3,23)],4,56,[.int .i64 (0),.int .i64 (0),.string ⟨#[]⟩,.slice none 0 0]⟩),
 (121,⟨.map 9 3,1,8,[.map none]⟩),
 (135,⟨.int .u64,1,8,[.int .u64 (0)]⟩),
 (138,⟨.slice 3,1,24,[.slice none 0 0]⟩),
 (144,⟨.slice 9,1,24,[.slice none 0 0]⟩),
 (189,⟨.slice 26,1,24,[.slice none 0 0]⟩)]
def z2w:List (Nat×List TD):=[(49,[.int .i64,.int .i64]),(65,[.int .i64,.int .i64,.str])]
def inv (w:World):Prop:=Lib.TabIs Tryz.prog w "internal/strconv.uint64pow10" .u64 Lib.pow10Tab/\(∃ m,w.cell? ⟨0,0,none⟩=some (.int .i64 m))
theorem zbkB {n:String} {g:Nat} {w w':World} (hg:Tryz.prog.globalNamed n=some g) (h:w'.heap[g]? =w.heap[g]?):w'.var? Tryz.prog n=w.var? Tryz.prog n:=by
 unfold World.var?; rw [hg]; simp only [Option.bind_some,h]
theorem zbhY (w w':World) (hi:inv w) (hb:∀ b,b<4->w'.heap[b]? =w.heap[b]?):inv w':=by
 obtain ⟨h1,⟨m,h2⟩⟩:=hi;refine ⟨(zbkB (g:=1) (by kernel_rfl) (hb 1 (by omega))).trans h1,⟨m, ?_⟩⟩
 rw [<- h2]; exact World.cell?_of_block (a:=⟨0,0,none⟩) (hb 0 (by omega))
def base:Cx ty:={ ti:=λT=>zbdh.lookup T,dflt:=λ_=>default,enc:=λT=>(zbeh z9E T).enc,dec:=λT=>(zbeh z9E T).dec,spec:=λ_=>none,io:=λ_=>[],eqs:=λT us vs=>match z2w.lookup T with | some ts=>zbs ts us vs | none=>none,nt:=0,head:=λ_=>[],out:=λ_ _=>[],loops:=λ_=>none,ng:=4,inv:=inv }
theorem zbhn:Tryz.prog.info? 2=some Tryz.t2:=by kernel_rfl
theorem zSe:Tryz.prog.info? 3=some Tryz.t3:=by kernel_rfl
theorem zbn5:Tryz.prog.info? 4=some Tryz.t4:=by kernel_rfl
theorem zbop:Tryz.prog.info? 5=some Tryz.t5:=by kernel_rfl
theorem zble:Tryz.prog.info? 9=some Tryz.t9:=by kernel_rfl
theorem zbne:Tryz.prog.info? 22=some Tryz.t22:=by kernel_rfl
theorem zber:Tryz.prog.info? 23=some Tryz.t23:=by kernel_rfl
theorem zbjh:Tryz.prog.info? 26=some Tryz.t26:=by kernel_rfl
theorem zbnz:Tryz.prog.info? 28=some Tryz.t28:=by kernel_rfl
theorem zbmS:Tryz.prog.info? 35=some Tryz.t35:=by kernel_rfl
theorem zbnH:Tryz.prog.info? 39=some Tryz.t39:=by kernel_rfl
theorem zbmX:Tryz.prog.info? 43=some Tryz.t43:=by kernel_rfl
theorem zbnV:Tryz.prog.info? 47=some Tryz.t47:=by kernel_rfl
theorem zbep:Tryz.prog.info? 49=some Tryz.t49:=by kernel_rfl
theorem zbnQ:Tryz.prog.info? 51=some Tryz.t51:=by kernel_rfl
theorem zbiX:Tryz.prog.info? 60=some Tryz.t60:=by kernel_rfl
theorem zbjC:Tryz.prog.info? 63=some Tryz.t63:=by kernel_rfl
theorem zbdV:Tryz.prog.info? 65=some Tryz.t65:=by kernel_rfl
theorem zbjz:Tryz.prog.info? 67=some Tryz.t67:=by kernel_rfl
theorem zbno:Tryz.prog.info? 69=some Tryz.t69:=by kernel_rfl
theorem zblX:Tryz.prog.info? 100=some Tryz.t100:=by kernel_rfl
theorem zblJ:Tryz.prog.info? 121=some Tryz.t121:=by kernel_rfl
theorem zbmB:Tryz.prog.info? 135=some Tryz.t135:=by kernel_rfl
theorem zbmr:Tryz.prog.info? 138=some Tryz.t138:=by kernel_rfl
theorem zbmC:Tryz.prog.info? 144=some Tryz.t144:=by kernel_rfl
theorem zbl3:Tryz.prog.info? 189=some Tryz.t189:=by kernel_rfl
theorem zbl1:∀ T i,zbdh.lookup T=some i->InfoOK Tryz.prog T i:=by
 intro T i h;have h:=zMk _ _ _ h;simp only [zbdh,qd,List.not_mem_nil,or_false,qb] at h;rcases h with ⟨rfl,rfl⟩ | ⟨rfl,rfl⟩ | ⟨rfl,rfl⟩ | ⟨rfl,rfl⟩ | ⟨rfl,rfl⟩ | ⟨rfl,rfl⟩ | ⟨rfl,rfl⟩ | ⟨rfl,rfl⟩ | ⟨rfl,rfl⟩ | ⟨rfl,rfl⟩ | ⟨rfl,rfl⟩ | ⟨rfl,rfl⟩ | ⟨rfl,rfl⟩ | ⟨rfl,rfl⟩ | ⟨rfl,rfl⟩ | ⟨rfl,rfl⟩ | ⟨rfl,rfl⟩ | ⟨rfl,rfl⟩ | ⟨rfl,rfl⟩ | ⟨rfl,rfl⟩ | ⟨rfl,rfl⟩ | ⟨rfl,rfl⟩ | ⟨rfl,rfl⟩ | ⟨rfl,rfl⟩ | ⟨rfl,rfl⟩ | ⟨rfl,rfl⟩
 ·exact ⟨Tryz.t2,_,_,zbhn,underlying2,rfl,rfl,rfl,rfl,rfl,⟨by simp [zct],λ_=>rfl⟩,rfl⟩
 ·exact ⟨Tryz.t3,_,_,zSe,underlying3,rfl,rfl,rfl,rfl,rfl,⟨by simp [zct],λ_=>rfl⟩,rfl⟩
 ·exact ⟨Tryz.t4,_,_,zbn5,underlying4,rfl,rfl,rfl,rfl,rfl,⟨by simp [zct],λ_=>rfl⟩,rfl⟩
 ·exact ⟨Tryz.t5,_,_,zbop,underlying5,rfl,rfl,rfl,rfl,rfl,⟨by simp [zct],λ_=>rfl⟩,rfl⟩
 ·exact ⟨Tryz.t9,_,_,zble,underlying9,rfl,rfl,rfl,rfl,rfl,⟨by simp [zct],λ_=>rfl⟩,rfl⟩
 ·exact ⟨Tryz.t22,_,_,zbne,underlying22,rfl,rfl,rfl,rfl,rfl,⟨by simp [zct],λ_=>rfl⟩,rfl⟩
 ·exact ⟨Tryz.t23,_,_,zber,underlying23,rfl,rfl,rfl,rfl,rfl,⟨by simp [zct],λ_=>rfl⟩,rfl⟩
 ·exact ⟨Tryz.t26,_,_,zbjh,underlying26,rfl,rfl,rfl,rfl,rfl,⟨by simp [zct],λ_=>rfl⟩,rfl⟩
 ·exact ⟨Tryz.t28,_,_,zbnz,underlying28,rfl,rfl,rfl,rfl,rfl,⟨by simp [zct],λh=>by cases h⟩,⟨_,rfl,rfl,λf hf=>by
   simp only [qd,List.not_mem_nil,or_false] at hf;rcases hf with rfl | rfl
   ·exact Option.isSome_iff_exists.2 ⟨_,zbhn⟩
   ·exact Option.isSome_iff_exists.2 ⟨_,zbjh⟩⟩⟩
 ·exact ⟨Tryz.t35,_,_,zbmS,underlying35,rfl,rfl,rfl,rfl,rfl,⟨by simp [zct],λ_=>rfl⟩,rfl⟩
 ·exact ⟨Tryz.t39,_,_,zbnH,underlying39,rfl,rfl,rfl,rfl,rfl,⟨by simp [zct],λ_=>rfl⟩,rfl⟩
 ·exact ⟨Tryz.t43,_,_,zbmX,underlying43,rfl,rfl,rfl,rfl,rfl,⟨by simp [zct],λ_=>rfl⟩,rfl⟩
 ·exact ⟨Tryz.t47,_,_,zbnV,underlying47,rfl,rfl,rfl,rfl,rfl,⟨by simp [zct],λ_=>rfl⟩,rfl⟩
 ·exact ⟨Tryz.t49,_,_,zbep,underlying49,rfl,rfl,rfl,rfl,rfl,⟨by simp [zct],λh=>by cases h⟩,⟨_,rfl,rfl,λf hf=>by
   simp only [qd,List.not_mem_nil,or_false] at hf;rcases hf with rfl | rfl
   ·exact Option.isSome_iff_exists.2 ⟨_,zSe⟩
   ·exact Option.isSome_iff_exists.2 ⟨_,zSe⟩⟩⟩
 ·exact ⟨Tryz.t51,_,_,zbnQ,underlying51,rfl,rfl,rfl,rfl,rfl,⟨by simp [zct],λh=>by cases h⟩,⟨_,rfl,rfl,λf hf=>by
   simp only [qd,List.not_mem_nil,or_false] at hf;rcases hf with rfl | rfl
   ·exact Option.isSome_iff_exists.2 ⟨_,zbep⟩
   ·exact Option.isSome_iff_exists.2 ⟨_,zber⟩⟩⟩
 ·exact ⟨Tryz.t60,_,_,zbiX,underlying60,rfl,rfl,rfl,rfl,rfl,⟨by simp [zct],λ_=>rfl⟩,rfl⟩
 ·exact ⟨Tryz.t63,_,_,zbjC,underlying63,rfl,rfl,rfl,rfl,rfl,⟨by simp [zct],λ_=>rfl⟩,rfl⟩
 ·exact ⟨Tryz.t65,_,_,zbdV,underlying65,rfl,rfl,rfl,rfl,rfl,⟨by simp [zct],λh=>by cases h⟩,⟨_,rfl,rfl,λf hf=>by
   simp only [qd,List.not_mem_nil,or_false] at hf;rcases hf with rfl | rfl | rfl
   ·exact Option.isSome_iff_exists.2 ⟨_,zSe⟩
   ·exact Option.isSome_iff_exists.2 ⟨_,zbhn⟩
   ·exact Option.isSome_iff_exists.2 ⟨_,zble⟩⟩⟩
 ·exact ⟨Tryz.t67,_,_,zbjz,underlying67,rfl,rfl,rfl,rfl,rfl,⟨by simp [zct],λh=>by cases h⟩,⟨_,rfl,rfl,λf hf=>by
   simp only [qd,List.not_mem_nil,or_false] at hf;rcases hf with rfl | rfl | rfl | rfl | rfl | rfl | rfl
   ·exact Option.isSome_iff_exists.2 ⟨_,zSe⟩
   ·exact Option.isSome_iff_exists.2 ⟨_,zbep⟩
   ·exact Option.isSome_iff_exists.2 ⟨_,zbiX⟩
   ·exact Option.isSome_iff_exists.2 ⟨_,zSe⟩
   ·exact Option.isSome_iff_exists.2 ⟨_,zbjC⟩
   ·exact Option.isSome_iff_exists.2 ⟨_,zSe⟩
   ·exact Option.isSome_iff_exists.2 ⟨_,zbdV⟩⟩⟩
 ·exact ⟨Tryz.t69,_,_,zbno,underlying69,rfl,rfl,rfl,rfl,rfl,⟨by simp [zct],λh=>by cases h⟩,⟨_,rfl,rfl,λf hf=>by
   simp only [qd,List.not_mem_nil,or_false] at hf;rcases hf with rfl | rfl
   ·exact Option.isSome_iff_exists.2 ⟨_,zbjz⟩
   ·exact Option.isSome_iff_exists.2 ⟨_,zSe⟩⟩⟩
 ·exact ⟨Tryz.t100,_,_,zblX,underlying100,rfl,rfl,rfl,rfl,rfl,⟨by simp [zct],λh=>by cases h⟩,⟨_,rfl,rfl,λf hf=>by
   simp only [qd,List.not_mem_nil,or_false] at hf;rcases hf with rfl | rfl
   ·exact Option.isSome_iff_exists.2 ⟨_,zbdV⟩
   ·exact Option.isSome_iff_exists.2 ⟨_,zber⟩⟩⟩
 ·exact ⟨Tryz.t121,_,_,zblJ,underlying121,rfl,rfl,rfl,rfl,rfl,⟨by simp [zct],λ_=>rfl⟩,rfl⟩
 ·exact ⟨Tryz.t135,_,_,zbmB,underlying135,rfl,rfl,rfl,rfl,rfl,⟨by simp [zct],λ_=>rfl⟩,rfl⟩
 ·exact ⟨Tryz.t138,_,_,zbmr,underlying138,rfl,rfl,rfl,rfl,rfl,⟨by simp [zct],λ_=>rfl⟩,rfl⟩
 ·exact ⟨Tryz.t144,_,_,zbmC,underlying144,rfl,rfl,rfl,rfl,rfl,⟨by simp [zct],λ_=>rfl⟩,rfl⟩
 ·exact ⟨Tryz.t189,_,_,zbl3,underlying189,rfl,rfl,rfl,rfl,rfl,⟨by simp [zct],λ_=>rfl⟩,rfl⟩
theorem zbkM:∀ T us vs b,(match z2w.lookup T with | some ts=>zbs ts us vs | none=>none)=some b->∀ w,zbhx Tryz.prog T us vs b w:=by
 intro T us vs b h w;split at h
 ·rename_i ts hl;have hl:=zMk _ _ _ hl;simp only [z2w,qd,List.not_mem_nil,or_false,qb] at hl;rcases hl with ⟨rfl,rfl⟩ | ⟨rfl,rfl⟩
  ·refine z8m _ _ underlying49 (by kernel_rfl) (by kernel_rfl) rfl ?_ h w
   intro j f t hj ht;rcases j with _ | j
   ·simp at hj ht; subst hj ht; exact ⟨rfl,by decide,_,underlying3,rfl⟩
   rcases j with _ | j
   ·simp at hj ht; subst hj ht; exact ⟨rfl,by decide,_,underlying3,rfl⟩
   simp at hj
  ·refine z8m _ _ underlying65 (by kernel_rfl) (by kernel_rfl) rfl ?_ h w
   intro j f t hj ht;rcases j with _ | j
   ·simp at hj ht; subst hj ht; exact ⟨rfl,by decide,_,underlying3,rfl⟩
   rcases j with _ | j
   ·simp at hj ht; subst hj ht; exact ⟨rfl,by decide,_,underlying2,rfl⟩
   rcases j with _ | j
   ·simp at hj ht; subst hj ht; exact ⟨rfl,by decide,_,underlying9,rfl⟩
   simp at hj
 ·cases h
theorem zbk5:∀ T us vs,base.eqs T us us=some true->base.eqs T vs vs=some true->base.eqs T us vs=some (zzb us vs)/\(zzb us vs=true->us=vs)/\∀ u∈us,∀ n,Instr.sameBits n u u=true:=by
 intro T us vs h1 h2;simp only [base] at h1 h2 ⊢;cases hl:z2w.lookup T with
 | none=>rw [hl] at h1; cases h1
 | some ts=>rw [hl] at h1 h2; exact z8U ts us vs h1 h2
theorem zbjN:∀ T us b,base.eqs T us us=some b->b=true:=by
 intro T us b h;simp only [base] at h;cases hl:z2w.lookup T with
 | none=>rw [hl] at h; cases h
 | some ts=>rw [hl] at h; exact z4Z ts us b h
abbrev SdP:=Sound Tryz.prog base
theorem zfi:CxOK Tryz.prog base:=⟨zbl1,λT x=>by rw [show zu base T=_ from (zbeO z9E zbdh rfl T).symm]; exact DT.len _ x,λT x c h=>by have:=DT.cell _ _ c h; revert this; cases c <;>exact id,λT cs x h F w us hr=>DT.ok _ base F w us cs x h hr,zbkM,zbk5,zbjN,zbhY⟩
def zbH:Cx ty:={ base with dr:=false }
theorem zQi:CxOK Tryz.prog zbH:=CxOK.cg (cx:=base) (cx':=zbH) ⟨rfl,rfl,rfl,rfl,rfl,rfl⟩ zfi
theorem zGn:Tryz.prog.follows .mixedOrders=true:=by kernel_rfl
theorem sT {cx':Cx ty} {α ρ:Type} (hspec:∀ g s,cx'.spec g=some s->SdP g s) {f:Nat} {fn:Func} (hent:∀ args w,(callFunc f args).run Tryz.prog w=.ok (.enter f args) w) (hf:Tryz.prog.funcs[f]? =some fn) (hl:ziU cx' (body fn)) (sg:Sig:=⟨[.pure],[]⟩) {A:AL base α} {res:ρ->ARes ty} {W:α->Wy0 ρ} {z:ρ}
  (hb:fn.body=some (body fn):=by kernel_rfl)
  (hrun:∀ x,zgv cx' fn (body fn) sg (A.enc x)=(W x).ev noH (λr=>some (res r)) none:=by intro _; kernel_rfl)
  (hchk:∀ x,(Nat.ble (A.enc x).length fn.ntmps&&zPa (body fn) (A.enc x) sg.upd)=true:=by intro _; kernel_rfl) (hsame:base.Same cx':=by exact zbem):
  SdP f (zh A λx=>(((W x).fin z).1,res ((W x).fin z).2)):=sW zGn zfi hsame hspec hent hf hl sg hb hrun hchk
theorem sU {cx':Cx ty} {α ρ:Type} (hspec:∀ g s,cx'.spec g=some s->Sound Tryz.prog zbH g s) {f:Nat} {fn:Func} (hent:∀ args w,(callFunc f args).run Tryz.prog w=.ok (.enter f args) w) (hf:Tryz.prog.funcs[f]? =some fn) (hl:ziU cx' (body fn)) (sg:Sig:=⟨[.pure],[]⟩) {A:AL zbH α} {res:ρ->ARes ty} {W:α->Wy0 ρ} {z:ρ}
  (hb:fn.body=some (body fn):=by kernel_rfl)
  (hrun:∀ x,zgv cx' fn (body fn) sg (A.enc x)=(W x).ev noH (λr=>some (res r)) none:=by intro _; kernel_rfl)
  (hchk:∀ x,(Nat.ble (A.enc x).length fn.ntmps&&zPa (body fn) (A.enc x) sg.upd)=true:=by intro _; kernel_rfl) (hsame:zbH.Same cx':=by exact zbem):
  Sound Tryz.prog zbH f (zh A λx=>(((W x).fin z).1,res ((W x).fin z).2)):=sW zGn zQi hsame hspec hent hf hl sg hb hrun hchk
end Go.Proofs.YtljlfiomikifjaaGreatDoor
/- What is read of an argument, as typed data. -/
namespace Go.Proofs.YtljlfiomikifjaaGreatDoor
open Go Go.Ab
open Go.Proofs.Tryz
def wf2 (x:Int):Prop:=(Lit.int .i64 x).wf=true
def wf3 (x:Int):Prop:=(Lit.int .i64 x).wf=true
def wf4 (x:Bool):Prop:=True
def wf5 (x:Int):Prop:=(Lit.int .u8 x).wf=true
def wf9 (x:ByteArray):Prop:=ByteArray.size x<=zbo
def zZ4 (x:RowID):Prop:=wf3 x.Table/\wf3 x.Seq
def zWx (x:Value):Prop:=wf3 x.Kind/\wf2 x.Int/\wf9 x.Text
mutual
def zf9:At->Prop
 | ⟨k,r,a,f,i,o,b⟩=>wf3 k/\zZ4 r/\(zzs a/\a.length<=zbo)/\wf3 f/\(ztP i/\i.length<=zbo)/\wf3 o/\zWx b
def zy5:Fc->Prop
 | ⟨a,e⟩=>zf9 a/\wf3 e
def zuF:yD->Prop
 | []=>True
 | x::r=>zy5 x/\zuF r
def zDZ:Term->Prop
 | ⟨c,f⟩=>wf2 c/\(zuF f/\f.length<=zbo)
def zgo:yC->Prop
 | []=>True
 | x::r=>zDZ x/\zgo r
def zzs:yA->Prop
 | []=>True
 | x::r=>(zgo x/\x.length<=zbo)/\zzs r
def zLa:Wd->Prop
 | ⟨v,a⟩=>zWx v/\(zgo a/\a.length<=zbo)
def ztP:yE->Prop
 | []=>True
 | x::r=>zLa x/\ztP r
end
theorem zOj:∀ l:yD,(∀ x∈l,zy5 x)->zuF l
 | [],_=>by unfold zuF; trivial
 | x::r,h=>by unfold zuF; exact ⟨h x (by simp),zOj r λy hy=>h y (by simp [hy])⟩
theorem zJA:∀ l:yC,(∀ x∈l,zDZ x)->zgo l
 | [],_=>by unfold zgo; trivial
 | x::r,h=>by unfold zgo; exact ⟨h x (by simp),zJA r λy hy=>h y (by simp [hy])⟩
theorem z08:∀ l:yA,(∀ x∈l,zgo x/\x.length<=zbo)->zzs l
 | [],_=>by unfold zzs; trivial
 | x::r,h=>by unfold zzs; exact ⟨h x (by simp),z08 r λy hy=>h y (by simp [hy])⟩
theorem zVL:∀ l:yE,(∀ x∈l,zLa x)->ztP l
 | [],_=>by unfold ztP; trivial
 | x::r,h=>by unfold ztP; exact ⟨h x (by simp),zVL r λy hy=>h y (by simp [hy])⟩
def z6m (x:yC):Prop:=zgo x/\List.length x<=zbo
def zboS (x:yD):Prop:=zuF x/\List.length x<=zbo
def zboH (x:Term):Prop:=zDZ x
def zboM (x:yA):Prop:=zzs x/\List.length x<=zbo
def zboz (x:yE):Prop:=ztP x/\List.length x<=zbo
def zboK (x:At):Prop:=zf9 x
def zboQ (x:Fc):Prop:=zy5 x
def zbog (x:Wd):Prop:=zLa x
def zbj9 (x:yF):Prop:=(∀ y∈x,zZ4 y)/\List.length x<=zbo
def zboD (x:yB):Prop:=(∀ y∈x,zbj9 y)/\List.length x<=zbo
def zbnu (x:Bg):Prop:=zZ4 x.Row/\z6m x.To
def zboy (x:yG):Prop:=(∀ y∈x,zbnu y)/\List.length x<=zbo
def wf (T:Nat):ty T->Prop:=match T with
 | 2=>wf2
 | 3=>wf3
 | 4=>wf4
 | 5=>wf5
 | 9=>wf9
 | 23=>z6m
 | 26=>zboS
 | 28=>zboH
 | 39=>zboD
 | 43=>zbj9
 | 47=>zboy
 | 49=>zZ4
 | 51=>zbnu
 | 60=>zboM
 | 63=>zboz
 | 65=>zWx
 | 67=>zboK
 | 69=>zboQ
 | 100=>zbog
 | _=>λ_=>True
theorem zbjw:zv2 Tryz.prog base wf 2:=zbcf underlying2 (λn=>n) (λ_=>rfl) (λ_ h=>h)
theorem zOt:zv2 Tryz.prog base wf 3:=zbcf underlying3 (λn=>n) (λ_=>rfl) (λ_ h=>h)
theorem zbnt:zv2 Tryz.prog base wf 9:=zbjJ underlying9 (λn=>n) (λ_=>rfl) (λ_ h=>h)
theorem zbgV:zv2 Tryz.prog base wf 49:=by
 intro H en w sp held fuel cs y h hz;obtain ⟨xs,n,_,hy,hl,hlen,hf⟩:=DataW.trod_struct underlying49 h;have hs:=zqz underlying49 hy hz;obtain ⟨x0,h0,w0⟩:=zDN (off:=0) zOt (by kernel_rfl) hlen hf hs 0 _ rfl rfl rfl
 obtain ⟨x1,h1,w1⟩:=zDN (off:=1) zOt (by kernel_rfl) hlen hf hs 1 _ rfl rfl rfl
 have hl:cs.length=2:=hl.trans (by kernel_rfl)
 have:=zkk h0 (zIF h1 hl);exact ⟨(⟨x0,x1⟩:RowID),this,⟨w0,w1⟩⟩
theorem zbgt:zv2 Tryz.prog base wf 65:=by
 intro H en w sp held fuel cs y h hz;obtain ⟨xs,n,_,hy,hl,hlen,hf⟩:=DataW.trod_struct underlying65 h;have hs:=zqz underlying65 hy hz;obtain ⟨x0,h0,w0⟩:=zDN (off:=0) zOt (by kernel_rfl) hlen hf hs 0 _ rfl rfl rfl
 obtain ⟨x1,h1,w1⟩:=zDN (off:=1) zbjw (by kernel_rfl) hlen hf hs 1 _ rfl rfl rfl
 obtain ⟨x2,h2,w2⟩:=zDN (off:=2) zbnt (by kernel_rfl) hlen hf hs 2 _ rfl rfl rfl
 have hl:cs.length=3:=hl.trans (by kernel_rfl)
 have:=zkk h0 (zkk h1 (zIF h2 hl));exact ⟨(⟨x0,x1,x2⟩:Value),this,⟨w0,w1,w2⟩⟩
theorem zbfy:∀ m,zuJ Tryz.prog base wf m 23/\zuJ Tryz.prog base wf m 26/\zuJ Tryz.prog base wf m 28/\zuJ Tryz.prog base wf m 60/\zuJ Tryz.prog base wf m 63/\zuJ Tryz.prog base wf m 67/\zuJ Tryz.prog base wf m 69/\zuJ Tryz.prog base wf m 100
 | 0=>⟨zqx,zqx,zqx,zqx,zqx,zqx,zqx,zqx⟩
 | m+1=>by
  obtain ⟨h23,h26,h28,h60,h63,h67,h69,h100⟩:=zbfy m;refine ⟨?_, ?_, ?_, ?_, ?_, ?_, ?_, ?_⟩
  ·exact zBT zfi underlying23 (by kernel_rfl) (by decide) (λl=>l) (λ_=>rfl) (of_decide_eq_true (by kernel_rfl)) h28 (λl h h2=>⟨zJA l h,h2⟩)
  ·exact zBT zfi underlying26 (by kernel_rfl) (by decide) (λl=>l) (λ_=>rfl) (of_decide_eq_true (by kernel_rfl)) h69 (λl h h2=>⟨zOj l h,h2⟩)
  ·intro H en w sp held fuel cs y hfu h hz;obtain ⟨xs,n,hn,hy,hl,hlen,hf⟩:=DataW.trod_struct underlying28 h;have hs:=zqz underlying28 hy hz;have hn:n<=m:=by omega
   obtain ⟨x0,hx0,w0⟩:=zfJ (off:=0) (zbjw.at m) (by kernel_rfl) hn hlen hf hs 0 _ rfl rfl rfl
   obtain ⟨x1,hx1,w1⟩:=zfJ (off:=1) h26 (by kernel_rfl) hn hlen hf hs 1 _ rfl rfl rfl
   have hl:cs.length=2:=hl.trans (by kernel_rfl)
   have:=zkk hx0 (zIF hx1 hl);exact ⟨(⟨x0,x1⟩:Term),this,by show zDZ (⟨x0,x1⟩:Term); unfold zDZ; exact ⟨w0,w1⟩⟩
  ·exact zBT zfi underlying60 (by kernel_rfl) (by decide) (λl=>l) (λ_=>rfl) (of_decide_eq_true (by kernel_rfl)) h23 (λl h h2=>⟨z08 l h,h2⟩)
  ·exact zBT zfi underlying63 (by kernel_rfl) (by decide) (λl=>l) (λ_=>rfl) (of_decide_eq_true (by kernel_rfl)) h100 (λl h h2=>⟨zVL l h,h2⟩)
  ·intro H en w sp held fuel cs y hfu h hz;obtain ⟨xs,n,hn,hy,hl,hlen,hf⟩:=DataW.trod_struct underlying67 h;have hs:=zqz underlying67 hy hz;have hn:n<=m:=by omega
   obtain ⟨x0,hx0,w0⟩:=zfJ (off:=0) (zOt.at m) (by kernel_rfl) hn hlen hf hs 0 _ rfl rfl rfl
   obtain ⟨x1,hx1,w1⟩:=zfJ (off:=1) (zbgV.at m) (by kernel_rfl) hn hlen hf hs 1 _ rfl rfl rfl
   obtain ⟨x2,hx2,w2⟩:=zfJ (off:=3) h60 (by kernel_rfl) hn hlen hf hs 2 _ rfl rfl rfl
   obtain ⟨x3,hx3,w3⟩:=zfJ (off:=4) (zOt.at m) (by kernel_rfl) hn hlen hf hs 3 _ rfl rfl rfl
   obtain ⟨x4,hx4,w4⟩:=zfJ (off:=5) h63 (by kernel_rfl) hn hlen hf hs 4 _ rfl rfl rfl
   obtain ⟨x5,hx5,w5⟩:=zfJ (off:=6) (zOt.at m) (by kernel_rfl) hn hlen hf hs 5 _ rfl rfl rfl
   obtain ⟨x6,hx6,w6⟩:=zfJ (off:=7) (zbgt.at m) (by kernel_rfl) hn hlen hf hs 6 _ rfl rfl rfl
   have hl:cs.length=10:=hl.trans (by kernel_rfl)
   have:=zkk hx0 (zkk hx1 (zkk hx2 (zkk hx3 (zkk hx4 (zkk hx5 (zIF hx6 hl))))));exact ⟨(⟨x0,x1,x2,x3,x4,x5,x6⟩:At),this,by show zf9 (⟨x0,x1,x2,x3,x4,x5,x6⟩:At); unfold zf9; exact ⟨w0,w1,w2,w3,w4,w5,w6⟩⟩
  ·intro H en w sp held fuel cs y hfu h hz;obtain ⟨xs,n,hn,hy,hl,hlen,hf⟩:=DataW.trod_struct underlying69 h;have hs:=zqz underlying69 hy hz;have hn:n<=m:=by omega
   obtain ⟨x0,hx0,w0⟩:=zfJ (off:=0) h67 (by kernel_rfl) hn hlen hf hs 0 _ rfl rfl rfl
   obtain ⟨x1,hx1,w1⟩:=zfJ (off:=10) (zOt.at m) (by kernel_rfl) hn hlen hf hs 1 _ rfl rfl rfl
   have hl:cs.length=11:=hl.trans (by kernel_rfl)
   have:=zkk hx0 (zIF hx1 hl);exact ⟨(⟨x0,x1⟩:Fc),this,by show zy5 (⟨x0,x1⟩:Fc); unfold zy5; exact ⟨w0,w1⟩⟩
  ·intro H en w sp held fuel cs y hfu h hz;obtain ⟨xs,n,hn,hy,hl,hlen,hf⟩:=DataW.trod_struct underlying100 h;have hs:=zqz underlying100 hy hz;have hn:n<=m:=by omega
   obtain ⟨x0,hx0,w0⟩:=zfJ (off:=0) (zbgt.at m) (by kernel_rfl) hn hlen hf hs 0 _ rfl rfl rfl
   obtain ⟨x1,hx1,w1⟩:=zfJ (off:=3) h23 (by kernel_rfl) hn hlen hf hs 1 _ rfl rfl rfl
   have hl:cs.length=4:=hl.trans (by kernel_rfl)
   have:=zkk hx0 (zIF hx1 hl);exact ⟨(⟨x0,x1⟩:Wd),this,by show zLa (⟨x0,x1⟩:Wd); unfold zLa; exact ⟨w0,w1⟩⟩
theorem zbhd:zv2 Tryz.prog base wf 23:=zbi1 λm=>(zbfy m).1
theorem zblQ:zv2 Tryz.prog base wf 43:=zbfI zfi underlying43 (by kernel_rfl) (by decide) (λl=>l) (λ_=>rfl) (of_decide_eq_true (by kernel_rfl)) zbgV (λ_ h h2=>⟨h,h2⟩)
def zTh (r:Int):ARes ty:=⟨[.pure (.lit (.int .i64 r))],[]⟩
def zWv:AL base (yC×yC×Unit):=zc (ze (vSl 28)) (zc (ze (vSl 28)) zo)
def zes (F:yC->yC->Bool×Int):Ab.Spec ty:=zh zWv λx=>((F x.1 x.2.1).1,zTh (F x.1 x.2.1).2)
def zQ3:AL base (Term×Term×Unit):=zc (ze (zcl 28)) (zc (ze (zcl 28)) zo)
def zgj (F:Term->Term->Bool×Int):Ab.Spec ty:=zh zQ3 λx=>((F x.1 x.2.1).1,zTh (F x.1 x.2.1).2)
def zKx:AL base (Fc×Fc×Unit):=zc (ze (zcl 69)) (zc (ze (zcl 69)) zo)
def zeQ (F:Fc->Fc->Bool×Int):Ab.Spec ty:=zh zKx λx=>((F x.1 x.2.1).1,zTh (F x.1 x.2.1).2)
def zNg:AL base (At×At×Unit):=zc (ze (zcl 67)) (zc (ze (zcl 67)) zo)
def zht (F:At->At->Bool×Int):Ab.Spec ty:=zh zNg λx=>((F x.1 x.2.1).1,zTh (F x.1 x.2.1).2)
def zNw:AL base (Wd×Wd×Unit):=zc (ze (zcl 100)) (zc (ze (zcl 100)) zo)
def zeu (F:Wd->Wd->Bool×Int):Ab.Spec ty:=zh zNw λx=>((F x.1 x.2.1).1,zTh (F x.1 x.2.1).2)
def zjp:AL base (yC×yC×Unit×Unit):=zc (ze (vSl 28)) (zc (ze (vSl 28)) (zc (ze (vFn 137 zbT)) zo))
def zb1 (F:yC->yC->Bool×Int):Ab.Spec ty:=zh zjp λx=>((F x.1 x.2.1).1,zTh (F x.1 x.2.1).2)
def zj8:AL base (yD×yD×Unit×Unit):=zc (ze (vSl 69)) (zc (ze (vSl 69)) (zc (ze (vFn 119 zbT)) zo))
def zb5 (F:yD->yD->Bool×Int):Ab.Spec ty:=zh zj8 λx=>((F x.1 x.2.1).1,zTh (F x.1 x.2.1).2)
def zf5:AL base (yA×yA×Unit×Unit):=zc (ze (vSl 23)) (zc (ze (vSl 23)) (zc (ze (vFn 67 zbT)) zo))
def zbA (F:yA->yA->Bool×Int):Ab.Spec ty:=zh zf5 λx=>((F x.1 x.2.1).1,zTh (F x.1 x.2.1).2)
def zhx:AL base (yE×yE×Unit×Unit):=zc (ze (vSl 100)) (zc (ze (vSl 100)) (zc (ze (vFn 124 zbT)) zo))
def zbS (F:yE->yE->Bool×Int):Ab.Spec ty:=zh zhx λx=>((F x.1 x.2.1).1,zTh (F x.1 x.2.1).2)
def zQt (zP:yC->yC->Bool×Int) (zQ:Term->Term->Bool×Int):=zbl base 8 [(136,(zb1 zP)),(137,(zgj zQ))]
def zDQ (zP:yC->yC->Bool×Int) (zQ:Term->Term->Bool×Int) (a:yC) (b:yC):Wy0 (Int):=.bn (zP a b) λr0=>.k r0
def zql (zP:yC->yC->Bool×Int) (zQ:Term->Term->Bool×Int) (a:yC) (b:yC):=(zDQ zP zQ a b).fin default
theorem zL1 (zP:yC->yC->Bool×Int) (zQ:Term->Term->Bool×Int) (ziQ:SdP 136 (zb1 zP)) (zp9:SdP 137 (zgj zQ)):SdP 67 (zes (zql zP zQ)):=
 sT (cx':=(zQt zP zQ)) (zi ⟨ziQ,zp9,trivial⟩) call67 func67 (lOK aN)
def z2h:=zbl base 6 []
def zMY (x_:Int):Wy0 (Bool):=.k (x_ != x_)
def zoy (x_:Int):=(zMY x_).fin default
def zYA (r:Bool):ARes ty:=⟨[.pure (.lit (.bool r))],[]⟩
def z4G:AL base (Int×Unit):=zc (ze zf3) zo
def zG6:=zh z4G λx=>((zoy x.1).1,zYA (zoy x.1).2)
theorem zUQ:SdP 166 zG6:=
 sT (cx':=z2h) (zi trivial) call166 func166 (lOK aN)
def zXp:=zbl base 20 [(166,zG6)]
def zH0 (x_:Int) (y_:Int):Wy0 (Int):=.i ((zoy x_).2) (.i ((zoy y_).2) (.k 0) (.k (-1:Int))) (.i ((zoy y_).2) (.k 1) (.i (decide (x_<y_)) (.k (-1:Int)) (.i (decide (x_>y_)) (.k 1) (.k 0))))
def zjn (x_:Int) (y_:Int):=(zH0 x_ y_).fin default
def zYx:AL base (Int×Int×Unit):=zc (ze zf3) (zc (ze zf3) zo)
def zno:=zh zYx λx=>((zjn x.1 x.2.1).1,zTh (zjn x.1 x.2.1).2)
theorem zto:SdP 138 zno:=
 sT (cx':=zXp) (zi ⟨zUQ,trivial⟩) call138 func138 (lOK aN)
abbrev zGF:=Int×List Int×Int×Int×Unit
def zLo (zero:Int) (t6:List Int) (t7:Int) (t8:Int):Wy zGF Unit (Int⊕Int):=.i (decide (t8<t7)) (.i (decide (0<=t8)&&decide (t8<Int.ofNat t6.length)) (.i (t6.getD t8.toNat default != zero) (.k (.inl (t6.getD t8.toNat default))) (.h (zero,t6,t7,(IntKind.i64.wrap (t8+1)),()) ())) .d) (.k (.inr zero))
def zXR (x:zGF) (y:Unit):=zLo x.1 x.2.1 x.2.2.1 x.2.2.2.1
def zMb (n:Nat) (zero:Int) (t6:List Int) (t7:Int) (t8:Int):=zy (zXR) (.inl default) n (zero,t6,t7,t8,()) ()
def zbaI (r:Int⊕Int):LTree ty:=.ite (isL r) (.done .ret [.lit (.int .i64 (getL r))] []) (.done (.exit 0) [.lit (.int .i64 (getR r))] [])
def zbcY:LL ty zGF:=za zj (za (lSl 3) (za zj (za zj zk)))
def zbcZ:BL ty (Unit):=z6
def zbbd (x:zGF) (y:Unit):Nat:=(Int.toNat x.1+x.2.1.length+Int.toNat x.2.2.1+Int.toNat x.2.2.2.1+1)
def zYp:=zbY base 18 [] [] [(3,(kpL [3,6,7,8]))] [(3,1,(kpL [3])),(3,0,(kpL [2]))] [(3,spW zbcY zbcZ (zXR) (.inl default) zbaI zbbd)] []
theorem zbbr:zA zYp (lp (body f120) 0):=zp (id:=3) (hl:=rfl)
def z16 (vals:List Int):Wy0 (Int):=.bn (zMb (Int.toNat 0+vals.length+(Int.ofNat vals.length).toNat +Int.toNat 0+1) 0 vals (Int.ofNat vals.length) 0) λr0=>.i (isL r0) (.k (getL r0)) (.k (getR r0))
def znm (vals:List Int):=(z16 vals).fin default
def zbdI:AL base (List Int×Unit):=zc (ze (vSl 3)) zo
def zlS:=zh zbdI λx=>((znm x.1).1,zTh (znm x.1).2)
theorem znd:SdP 120 zlS:=
 sT (cx':=zYp) (zi trivial) call120 func120 (lOK (aC zbbr aN))
def zMd (zc2:Term->Term->Bool×Int):=zbl base 15 [(63,(zgj zc2)),(120,zlS),(138,zno)]
def zAT (zc2:Term->Term->Bool×Int) (x_:Term) (y_:Term):Wy0 (Int):=.bn (zc2 x_ y_) λr2=>.bn (zjn x_.Cf y_.Cf) λr1=>.bn (znm [r2,r1]) λr0=>.k r0
def zmr (zc2:Term->Term->Bool×Int) (x_:Term) (y_:Term):=(zAT zc2 x_ y_).fin default
theorem zHB (zc2:Term->Term->Bool×Int) (zLl:SdP 63 (zgj zc2)):SdP 137 (zgj (zmr zc2)):=
 sT (cx':=(zMd zc2)) (zi ⟨zLl,znd,zto,trivial⟩) call137 func137 (lOK aN)
def z6u:=zbl base 6 []
def zRq (x_:Int):Wy0 (Bool):=.k (x_ != x_)
def ztN (x_:Int):=(zRq x_).fin default
def zJW:=zh z4G λx=>((ztN x.1).1,zYA (ztN x.1).2)
theorem zZK:SdP 159 zJW:=
 sT (cx':=z6u) (zi trivial) call159 func159 (lOK aN)
def z04:=zbl base 20 [(159,zJW)]
def zM0 (x_:Int) (y_:Int):Wy0 (Int):=.i ((ztN x_).2) (.i ((ztN y_).2) (.k 0) (.k (-1:Int))) (.i ((ztN y_).2) (.k 1) (.i (decide (x_<y_)) (.k (-1:Int)) (.i (decide (x_>y_)) (.k 1) (.k 0))))
def zd5 (x_:Int) (y_:Int):=(zM0 x_ y_).fin default
def zlT:=zh zYx λx=>((zd5 x.1 x.2.1).1,zTh (zd5 x.1 x.2.1).2)
theorem zoA:SdP 121 zlT:=
 sT (cx':=z04) (zi ⟨zZK,trivial⟩) call121 func121 (lOK aN)
end Go.Proofs.YtljlfiomikifjaaGreatDoor
/-
 DERIVED:THE SHELF's CONTRACTS AT THIS DUMP,IN PLAIN WORDS (tools/lay-plain.mjs out of 'TryzShelf.lean',which tools/lay-shelf.mjs wrote):THE SAME DECLARATIONS UNDER THE SAME NAMES:'import','namespace','open','def','theorem' AND NOTHING ELSE:no command of the shelf's:FOR A HAND-IN. Each laying:the table of numbers ('.._ren') and one theorem,a field a fact of the dump's own or the kernel's comparison; each contract:ONE APPLICATION.
-/
namespace Go.Proofs
open Go.Shelf
def Tryz.sortRow_ren:Go.Shelf.Ren:=⟨λ| 6=>232 | 15=>156 | 14=>251 | 28=>192 | 29=>193 | 20=>270 | 21=>271 | 22=>272 | 23=>273 | 24=>274 | 25=>275 | 26=>276 | 27=>277 | 46=>289 | 47=>222 | 48=>223 | 49=>290 | 50=>291 | 57=>298 | n=>n,λ| 22=>43 | 24=>49 | 25=>102 | 3=>3 | 39=>135 | 0=>0 | 53=>163 | 55=>165 | 4=>4 | 46=>157 | 45=>156 | 50=>123 | 5=>5 | 9=>9 | 66=>191 | 70=>195 | 76=>206 | 77=>207 | n=>n,λ| n=>n⟩
theorem Tryz.sortRow:Go.Proofs.SlLaysF0.n6 Tryz.prog Tryz.sortRow_ren:={
 mixed:=by kernel_rfl
 f6:=⟨f232.name,by decide,func232.trans (congrArg some (by kernel_rfl))⟩
 f14:=⟨f251.name,by decide,func251.trans (congrArg some (by kernel_rfl))⟩
 f15:=func156.trans (congrArg some (by kernel_rfl))
 f20:=⟨f270.name,by decide,func270.trans (congrArg some (by kernel_rfl))⟩
 f21:=⟨f271.name,by decide,func271.trans (congrArg some (by kernel_rfl))⟩
 f22:=⟨f272.name,by decide,func272.trans (congrArg some (by kernel_rfl))⟩
 f23:=⟨f273.name,by decide,func273.trans (congrArg some (by kernel_rfl))⟩
 f24:=⟨f274.name,by decide,func274.trans (congrArg some (by kernel_rfl))⟩
 f25:=⟨f275.name,by decide,func275.trans (congrArg some (by kernel_rfl))⟩
 f26:=⟨f276.name,by decide,func276.trans (congrArg some (by kernel_rfl))⟩
 f27:=⟨f277.name,by decide,func277.trans (congrArg some (by kernel_rfl))⟩
 f28:=func192.trans (congrArg some (by kernel_rfl))
 f29:=func193.trans (congrArg some (by kernel_rfl))
 f46:=⟨f289.name,by decide,func289.trans (congrArg some (by kernel_rfl))⟩
 f47:=func222.trans (congrArg some (by kernel_rfl))
 f48:=func223.trans (congrArg some (by kernel_rfl))
 f49:=⟨f290.name,by decide,func290.trans (congrArg some (by kernel_rfl))⟩
 f50:=⟨f291.name,by decide,func291.trans (congrArg some (by kernel_rfl))⟩
 f57:=⟨f298.name,by decide,func298.trans (congrArg some (by kernel_rfl))⟩
 t0:=underlying0
 a0:=Tryz.isAgg0
 z0:=Tryz.sizeOf0
 v0:=Tryz.zeroValue0
 t3:=underlying3
 a3:=Tryz.isAgg3
 z3:=Tryz.sizeOf3
 v3:=Tryz.zeroValue3
 t4:=underlying4
 a4:=Tryz.isAgg4
 z4:=Tryz.sizeOf4
 v4:=Tryz.zeroValue4
 t5:=underlying5
 a5:=Tryz.isAgg5
 z5:=Tryz.sizeOf5
 v5:=Tryz.zeroValue5
 t9:=underlying9
 a9:=Tryz.isAgg9
 z9:=Tryz.sizeOf9
 v9:=Tryz.zeroValue9
 t22:=underlying43
 a22:=Tryz.isAgg43
 z22:=Tryz.sizeOf43
 v22:=Tryz.zeroValue43
 t25:=underlying102
 a25:=Tryz.isAgg102
 z25:=Tryz.sizeOf102
 v25:=Tryz.zeroValue102
 t39:=underlying135
 a39:=Tryz.isAgg135
 z39:=Tryz.sizeOf135
 v39:=Tryz.zeroValue135
 t45:=underlying156
 a45:=Tryz.isAgg156
 z45:=Tryz.sizeOf156
 v45:=Tryz.zeroValue156
 t46:=underlying157
 a46:=Tryz.isAgg157
 z46:=Tryz.sizeOf157
 v46:=Tryz.zeroValue157
 t50:=underlying123
 a50:=Tryz.isAgg123
 z50:=Tryz.sizeOf123
 v50:=Tryz.zeroValue123
 t53:=underlying163
 a53:=Tryz.isAgg163
 z53:=Tryz.sizeOf163
 v53:=Tryz.zeroValue163
 t55:=underlying165
 a55:=Tryz.isAgg165
 z55:=Tryz.sizeOf165
 v55:=Tryz.zeroValue165
 t66:=underlying191
 a66:=Tryz.isAgg191
 z66:=Tryz.sizeOf191
 v66:=Tryz.zeroValue191
 t70:=underlying195
 a70:=Tryz.isAgg195
 z70:=Tryz.sizeOf195
 v70:=Tryz.zeroValue195
 t76:=underlying206
 a76:=Tryz.isAgg206
 z76:=Tryz.sizeOf206
 v76:=Tryz.zeroValue206
 t77:=underlying207
 a77:=Tryz.isAgg207
 z77:=Tryz.sizeOf207
 v77:=Tryz.zeroValue207 }
def Tryz.sortSet_ren:Go.Shelf.Ren:=⟨λ| 6=>205 | 15=>156 | 14=>235 | 28=>192 | 29=>193 | 20=>252 | 21=>253 | 22=>254 | 23=>255 | 24=>256 | 25=>257 | 26=>258 | 27=>259 | 46=>278 | 47=>222 | 48=>223 | 49=>279 | 50=>280 | 57=>292 | n=>n,λ| 22=>39 | 24=>43 | 25=>86 | 3=>3 | 39=>135 | 0=>0 | 53=>163 | 55=>165 | 4=>4 | 46=>157 | 45=>156 | 50=>123 | 5=>5 | 9=>9 | 66=>191 | 70=>195 | 76=>206 | 77=>207 | n=>n,λ| n=>n⟩
theorem Tryz.sortSet:Go.Proofs.SlLaysF.n6 Tryz.prog Tryz.sortSet_ren:={
 mixed:=by kernel_rfl
 f6:=⟨f205.name,by decide,func205.trans (congrArg some (by kernel_rfl))⟩
 f14:=⟨f235.name,by decide,func235.trans (congrArg some (by kernel_rfl))⟩
 f15:=func156.trans (congrArg some (by kernel_rfl))
 f20:=⟨f252.name,by decide,func252.trans (congrArg some (by kernel_rfl))⟩
 f21:=⟨f253.name,by decide,func253.trans (congrArg some (by kernel_rfl))⟩
 f22:=⟨f254.name,by decide,func254.trans (congrArg some (by kernel_rfl))⟩
 f23:=⟨f255.name,by decide,func255.trans (congrArg some (by kernel_rfl))⟩
 f24:=⟨f256.name,by decide,func256.trans (congrArg some (by kernel_rfl))⟩
 f25:=⟨f257.name,by decide,func257.trans (congrArg some (by kernel_rfl))⟩
 f26:=⟨f258.name,by decide,func258.trans (congrArg some (by kernel_rfl))⟩
 f27:=⟨f259.name,by decide,func259.trans (congrArg some (by kernel_rfl))⟩
 f28:=func192.trans (congrArg some (by kernel_rfl))
 f29:=func193.trans (congrArg some (by kernel_rfl))
 f46:=⟨f278.name,by decide,func278.trans (congrArg some (by kernel_rfl))⟩
 f47:=func222.trans (congrArg some (by kernel_rfl))
 f48:=func223.trans (congrArg some (by kernel_rfl))
 f49:=⟨f279.name,by decide,func279.trans (congrArg some (by kernel_rfl))⟩
 f50:=⟨f280.name,by decide,func280.trans (congrArg some (by kernel_rfl))⟩
 f57:=⟨f292.name,by decide,func292.trans (congrArg some (by kernel_rfl))⟩
 t0:=underlying0
 a0:=Tryz.isAgg0
 z0:=Tryz.sizeOf0
 v0:=Tryz.zeroValue0
 t3:=underlying3
 a3:=Tryz.isAgg3
 z3:=Tryz.sizeOf3
 v3:=Tryz.zeroValue3
 t4:=underlying4
 a4:=Tryz.isAgg4
 z4:=Tryz.sizeOf4
 v4:=Tryz.zeroValue4
 t5:=underlying5
 a5:=Tryz.isAgg5
 z5:=Tryz.sizeOf5
 v5:=Tryz.zeroValue5
 t9:=underlying9
 a9:=Tryz.isAgg9
 z9:=Tryz.sizeOf9
 v9:=Tryz.zeroValue9
 t22:=underlying39
 a22:=Tryz.isAgg39
 z22:=Tryz.sizeOf39
 v22:=Tryz.zeroValue39
 a24:=Tryz.isAgg43
 z24:=Tryz.sizeOf43
 t25:=underlying86
 a25:=Tryz.isAgg86
 z25:=Tryz.sizeOf86
 v25:=Tryz.zeroValue86
 t39:=underlying135
 a39:=Tryz.isAgg135
 z39:=Tryz.sizeOf135
 v39:=Tryz.zeroValue135
 t45:=underlying156
 a45:=Tryz.isAgg156
 z45:=Tryz.sizeOf156
 v45:=Tryz.zeroValue156
 t46:=underlying157
 a46:=Tryz.isAgg157
 z46:=Tryz.sizeOf157
 v46:=Tryz.zeroValue157
 t50:=underlying123
 a50:=Tryz.isAgg123
 z50:=Tryz.sizeOf123
 v50:=Tryz.zeroValue123
 t53:=underlying163
 a53:=Tryz.isAgg163
 z53:=Tryz.sizeOf163
 v53:=Tryz.zeroValue163
 t55:=underlying165
 a55:=Tryz.isAgg165
 z55:=Tryz.sizeOf165
 v55:=Tryz.zeroValue165
 t66:=underlying191
 a66:=Tryz.isAgg191
 z66:=Tryz.sizeOf191
 v66:=Tryz.zeroValue191
 t70:=underlying195
 a70:=Tryz.isAgg195
 z70:=Tryz.sizeOf195
 v70:=Tryz.zeroValue195
 t76:=underlying206
 a76:=Tryz.isAgg206
 z76:=Tryz.sizeOf206
 v76:=Tryz.zeroValue206
 t77:=underlying207
 a77:=Tryz.isAgg207
 z77:=Tryz.sizeOf207
 v77:=Tryz.zeroValue207 }
def Tryz.pdqTerm_ren:Go.Shelf.Ren:=⟨λ| 14=>155 | 20=>184 | 21=>185 | 22=>186 | 23=>187 | 24=>188 | 25=>189 | 26=>190 | 27=>191 | 46=>221 | 47=>222 | 48=>223 | 49=>224 | 50=>225 | 15=>156 | 57=>243 | 28=>192 | 29=>193 | n=>n,λ| 24=>28 | 22=>22 | 3=>3 | 25=>79 | 4=>4 | 0=>0 | 46=>157 | 45=>156 | 50=>123 | 66=>191 | 39=>135 | 55=>165 | 70=>195 | 76=>206 | 77=>207 | 53=>163 | 5=>5 | 9=>9 | n=>n,λ| n=>n⟩
theorem Tryz.pdqTerm:Go.Proofs.SlLaysF0.n14 Tryz.prog Tryz.pdqTerm_ren:={
 mixed:=by kernel_rfl
 f14:=⟨f155.name,by decide,func155.trans (congrArg some (by kernel_rfl))⟩
 f15:=func156.trans (congrArg some (by kernel_rfl))
 f20:=⟨f184.name,by decide,func184.trans (congrArg some (by kernel_rfl))⟩
 f21:=⟨f185.name,by decide,func185.trans (congrArg some (by kernel_rfl))⟩
 f22:=⟨f186.name,by decide,func186.trans (congrArg some (by kernel_rfl))⟩
 f23:=⟨f187.name,by decide,func187.trans (congrArg some (by kernel_rfl))⟩
 f24:=⟨f188.name,by decide,func188.trans (congrArg some (by kernel_rfl))⟩
 f25:=⟨f189.name,by decide,func189.trans (congrArg some (by kernel_rfl))⟩
 f26:=⟨f190.name,by decide,func190.trans (congrArg some (by kernel_rfl))⟩
 f27:=⟨f191.name,by decide,func191.trans (congrArg some (by kernel_rfl))⟩
 f28:=func192.trans (congrArg some (by kernel_rfl))
 f29:=func193.trans (congrArg some (by kernel_rfl))
 f46:=⟨f221.name,by decide,func221.trans (congrArg some (by kernel_rfl))⟩
 f47:=func222.trans (congrArg some (by kernel_rfl))
 f48:=func223.trans (congrArg some (by kernel_rfl))
 f49:=⟨f224.name,by decide,func224.trans (congrArg some (by kernel_rfl))⟩
 f50:=⟨f225.name,by decide,func225.trans (congrArg some (by kernel_rfl))⟩
 f57:=⟨f243.name,by decide,func243.trans (congrArg some (by kernel_rfl))⟩
 t0:=underlying0
 a0:=Tryz.isAgg0
 z0:=Tryz.sizeOf0
 v0:=Tryz.zeroValue0
 t3:=underlying3
 a3:=Tryz.isAgg3
 z3:=Tryz.sizeOf3
 v3:=Tryz.zeroValue3
 t4:=underlying4
 a4:=Tryz.isAgg4
 z4:=Tryz.sizeOf4
 v4:=Tryz.zeroValue4
 t5:=underlying5
 a5:=Tryz.isAgg5
 z5:=Tryz.sizeOf5
 v5:=Tryz.zeroValue5
 t9:=underlying9
 a9:=Tryz.isAgg9
 z9:=Tryz.sizeOf9
 v9:=Tryz.zeroValue9
 t22:=underlying22
 a22:=Tryz.isAgg22
 z22:=Tryz.sizeOf22
 v22:=Tryz.zeroValue22
 t25:=underlying79
 a25:=Tryz.isAgg79
 z25:=Tryz.sizeOf79
 v25:=Tryz.zeroValue79
 t39:=underlying135
 a39:=Tryz.isAgg135
 z39:=Tryz.sizeOf135
 v39:=Tryz.zeroValue135
 t45:=underlying156
 a45:=Tryz.isAgg156
 z45:=Tryz.sizeOf156
 v45:=Tryz.zeroValue156
 t46:=underlying157
 a46:=Tryz.isAgg157
 z46:=Tryz.sizeOf157
 v46:=Tryz.zeroValue157
 t50:=underlying123
 a50:=Tryz.isAgg123
 z50:=Tryz.sizeOf123
 v50:=Tryz.zeroValue123
 t53:=underlying163
 a53:=Tryz.isAgg163
 z53:=Tryz.sizeOf163
 v53:=Tryz.zeroValue163
 t55:=underlying165
 a55:=Tryz.isAgg165
 z55:=Tryz.sizeOf165
 v55:=Tryz.zeroValue165
 t66:=underlying191
 a66:=Tryz.isAgg191
 z66:=Tryz.sizeOf191
 v66:=Tryz.zeroValue191
 t70:=underlying195
 a70:=Tryz.isAgg195
 z70:=Tryz.sizeOf195
 v70:=Tryz.zeroValue195
 t76:=underlying206
 a76:=Tryz.isAgg206
 z76:=Tryz.sizeOf206
 v76:=Tryz.zeroValue206
 t77:=underlying207
 a77:=Tryz.isAgg207
 z77:=Tryz.sizeOf207
 v77:=Tryz.zeroValue207 }
def Tryz.insW_ren:Go.Shelf.Ren:=⟨λ| 20=>281 | n=>n,λ| 24=>100 | 22=>63 | 3=>3 | 25=>114 | 4=>4 | 0=>0 | n=>n,λ| n=>n⟩
theorem Tryz.insW:Go.Proofs.SlLaysF0.n20 Tryz.prog Tryz.insW_ren:={
 mixed:=by kernel_rfl
 f20:=⟨f281.name,by decide,func281.trans (congrArg some (by kernel_rfl))⟩
 t0:=underlying0
 a0:=Tryz.isAgg0
 z0:=Tryz.sizeOf0
 v0:=Tryz.zeroValue0
 t3:=underlying3
 a3:=Tryz.isAgg3
 z3:=Tryz.sizeOf3
 v3:=Tryz.zeroValue3
 t4:=underlying4
 a4:=Tryz.isAgg4
 z4:=Tryz.sizeOf4
 v4:=Tryz.zeroValue4
 t22:=underlying63
 a22:=Tryz.isAgg63
 z22:=Tryz.sizeOf63
 v22:=Tryz.zeroValue63
 t25:=underlying114
 a25:=Tryz.isAgg114
 z25:=Tryz.sizeOf114
 v25:=Tryz.zeroValue114 }
def Tryz.lays106_ren:Go.Shelf.Ren:=⟨λ| 106=>160 | 213=>194 | 265=>226 | n=>n,λ| 9=>9 | 3=>3 | n=>n,λ| n=>n⟩
theorem Tryz.lays106:Go.Proofs.Lays.n106 Tryz.prog Tryz.lays106_ren:={
 mixed:=by kernel_rfl
 f106:=func160.trans (congrArg some (by kernel_rfl))
 f213:=func194.trans (congrArg some (by kernel_rfl))
 f265:=func226.trans (congrArg some (by kernel_rfl))
 t3:=underlying3
 a3:=Tryz.isAgg3
 z3:=Tryz.sizeOf3
 v3:=Tryz.zeroValue3
 t9:=underlying9
 a9:=Tryz.isAgg9
 z9:=Tryz.sizeOf9
 v9:=Tryz.zeroValue9 }
def Tryz.lays125_ren:Go.Shelf.Ren:=⟨λ| 125=>156 | 128=>192 | 129=>193 | n=>n,λ| 46=>135 | 3=>3 | 51=>163 | 53=>165 | 4=>4 | 5=>5 | 9=>9 | n=>n,λ| n=>n⟩
theorem Tryz.lays125:Go.Proofs.Lays.n125 Tryz.prog Tryz.lays125_ren:={
 mixed:=by kernel_rfl
 f125:=func156.trans (congrArg some (by kernel_rfl))
 f128:=func192.trans (congrArg some (by kernel_rfl))
 f129:=func193.trans (congrArg some (by kernel_rfl))
 t3:=underlying3
 a3:=Tryz.isAgg3
 z3:=Tryz.sizeOf3
 v3:=Tryz.zeroValue3
 t4:=underlying4
 a4:=Tryz.isAgg4
 z4:=Tryz.sizeOf4
 v4:=Tryz.zeroValue4
 t5:=underlying5
 a5:=Tryz.isAgg5
 z5:=Tryz.sizeOf5
 v5:=Tryz.zeroValue5
 t9:=underlying9
 a9:=Tryz.isAgg9
 z9:=Tryz.sizeOf9
 v9:=Tryz.zeroValue9
 t46:=underlying135
 a46:=Tryz.isAgg135
 z46:=Tryz.sizeOf135
 v46:=Tryz.zeroValue135
 t51:=underlying163
 a51:=Tryz.isAgg163
 z51:=Tryz.sizeOf163
 v51:=Tryz.zeroValue163
 t53:=underlying165
 a53:=Tryz.isAgg165
 z53:=Tryz.sizeOf165
 v53:=Tryz.zeroValue165 }
def Tryz.laysM173_ren:Go.Shelf.Ren:=⟨λ| 173=>227 | 246=>229 | 283=>245 | 284=>246 | 285=>247 | 286=>248 | 129=>193 | 317=>266 | 318=>267 | 319=>268 | 320=>269 | 337=>287 | 338=>288 | n=>n,λ| 2=>2 | 3=>3 | 9=>9 | 4=>4 | 171=>210 | 0=>0 | 53=>165 | 37=>171 | 5=>5 | 173=>212 | 212=>229 | 51=>163 | 20=>20 | 213=>230 | 46=>135 | 232=>249 | 233=>250 | n=>n,λ| 17=>1 | 18=>4 | 19=>5 | n=>n⟩
theorem Tryz.laysM173:Go.Proofs.LaysM.n173 Tryz.prog Tryz.laysM173_ren:={
 mixed:=by kernel_rfl
 f129:=func193.trans (congrArg some (by kernel_rfl))
 f173:=func227.trans (congrArg some (by kernel_rfl))
 f246:=func229.trans (congrArg some (by kernel_rfl))
 f283:=func245.trans (congrArg some (by kernel_rfl))
 f284:=func246.trans (congrArg some (by kernel_rfl))
 f285:=func247.trans (congrArg some (by kernel_rfl))
 f286:=func248.trans (congrArg some (by kernel_rfl))
 f317:=func266.trans (congrArg some (by kernel_rfl))
 f318:=func267.trans (congrArg some (by kernel_rfl))
 f319:=func268.trans (congrArg some (by kernel_rfl))
 f320:=func269.trans (congrArg some (by kernel_rfl))
 f337:=func287.trans (congrArg some (by kernel_rfl))
 f338:=func288.trans (congrArg some (by kernel_rfl))
 t0:=underlying0
 a0:=Tryz.isAgg0
 z0:=Tryz.sizeOf0
 v0:=Tryz.zeroValue0
 t2:=underlying2
 a2:=Tryz.isAgg2
 z2:=Tryz.sizeOf2
 v2:=Tryz.zeroValue2
 t3:=underlying3
 a3:=Tryz.isAgg3
 z3:=Tryz.sizeOf3
 v3:=Tryz.zeroValue3
 t4:=underlying4
 a4:=Tryz.isAgg4
 z4:=Tryz.sizeOf4
 v4:=Tryz.zeroValue4
 t5:=underlying5
 a5:=Tryz.isAgg5
 z5:=Tryz.sizeOf5
 v5:=Tryz.zeroValue5
 t9:=underlying9
 a9:=Tryz.isAgg9
 z9:=Tryz.sizeOf9
 v9:=Tryz.zeroValue9
 t20:=underlying20
 a20:=Tryz.isAgg20
 z20:=Tryz.sizeOf20
 v20:=Tryz.zeroValue20
 t37:=underlying171
 a37:=Tryz.isAgg171
 z37:=Tryz.sizeOf171
 v37:=Tryz.zeroValue171
 t46:=underlying135
 a46:=Tryz.isAgg135
 z46:=Tryz.sizeOf135
 v46:=Tryz.zeroValue135
 t51:=underlying163
 a51:=Tryz.isAgg163
 z51:=Tryz.sizeOf163
 v51:=Tryz.zeroValue163
 t53:=underlying165
 a53:=Tryz.isAgg165
 z53:=Tryz.sizeOf165
 v53:=Tryz.zeroValue165
 t171:=underlying210
 a171:=Tryz.isAgg210
 z171:=Tryz.sizeOf210
 v171:=Tryz.zeroValue210
 t173:=underlying212
 a173:=Tryz.isAgg212
 z173:=Tryz.sizeOf212
 v173:=Tryz.zeroValue212
 t212:=underlying229
 a212:=Tryz.isAgg229
 z212:=Tryz.sizeOf229
 v212:=Tryz.zeroValue229
 t213:=underlying230
 a213:=Tryz.isAgg230
 z213:=Tryz.sizeOf230
 t232:=underlying249
 a232:=Tryz.isAgg249
 z232:=Tryz.sizeOf249
 v232:=Tryz.zeroValue249
 t233:=underlying250
 a233:=Tryz.isAgg250
 z233:=Tryz.sizeOf250
 v233:=Tryz.zeroValue250
 g17:=by kernel_rfl
 g18:=by kernel_rfl
 g19:=by kernel_rfl
 i0:=by kernel_rfl
 i2:=by kernel_rfl
 i3:=by kernel_rfl
 i4:=by kernel_rfl
 i5:=by kernel_rfl
 i9:=by kernel_rfl
 i20:=by kernel_rfl
 i37:=by kernel_rfl
 i46:=by kernel_rfl
 i51:=by kernel_rfl
 i53:=by kernel_rfl
 i171:=by kernel_rfl
 i173:=by kernel_rfl
 i212:=by kernel_rfl
 i232:=by kernel_rfl
 i233:=by kernel_rfl
 m17:=by kernel_rfl
 m18:=by kernel_rfl
 m19:=by kernel_rfl }
def Tryz.laysM171_ren:Go.Shelf.Ren:=⟨λ| 171=>168 | 243=>200 | 246=>229 | 283=>245 | 284=>246 | 285=>247 | 286=>248 | 129=>193 | 317=>266 | 318=>267 | 319=>268 | 320=>269 | 337=>287 | 338=>288 | n=>n,λ| 3=>3 | 9=>9 | 2=>2 | 4=>4 | 171=>210 | 0=>0 | 53=>165 | 37=>171 | 5=>5 | 173=>212 | 212=>229 | 51=>163 | 20=>20 | 213=>230 | 46=>135 | 232=>249 | 233=>250 | n=>n,λ| 17=>1 | 18=>4 | 19=>5 | n=>n⟩
theorem Tryz.laysM171:Go.Proofs.LaysM.n171 Tryz.prog Tryz.laysM171_ren:={
 mixed:=by kernel_rfl
 f129:=func193.trans (congrArg some (by kernel_rfl))
 f171:=func168.trans (congrArg some (by kernel_rfl))
 f243:=func200.trans (congrArg some (by kernel_rfl))
 f246:=func229.trans (congrArg some (by kernel_rfl))
 f283:=func245.trans (congrArg some (by kernel_rfl))
 f284:=func246.trans (congrArg some (by kernel_rfl))
 f285:=func247.trans (congrArg some (by kernel_rfl))
 f286:=func248.trans (congrArg some (by kernel_rfl))
 f317:=func266.trans (congrArg some (by kernel_rfl))
 f318:=func267.trans (congrArg some (by kernel_rfl))
 f319:=func268.trans (congrArg some (by kernel_rfl))
 f320:=func269.trans (congrArg some (by kernel_rfl))
 f337:=func287.trans (congrArg some (by kernel_rfl))
 f338:=func288.trans (congrArg some (by kernel_rfl))
 t0:=underlying0
 a0:=Tryz.isAgg0
 z0:=Tryz.sizeOf0
 v0:=Tryz.zeroValue0
 t2:=underlying2
 a2:=Tryz.isAgg2
 z2:=Tryz.sizeOf2
 v2:=Tryz.zeroValue2
 t3:=underlying3
 a3:=Tryz.isAgg3
 z3:=Tryz.sizeOf3
 v3:=Tryz.zeroValue3
 t4:=underlying4
 a4:=Tryz.isAgg4
 z4:=Tryz.sizeOf4
 v4:=Tryz.zeroValue4
 t5:=underlying5
 a5:=Tryz.isAgg5
 z5:=Tryz.sizeOf5
 v5:=Tryz.zeroValue5
 t9:=underlying9
 a9:=Tryz.isAgg9
 z9:=Tryz.sizeOf9
 v9:=Tryz.zeroValue9
 t20:=underlying20
 a20:=Tryz.isAgg20
 z20:=Tryz.sizeOf20
 v20:=Tryz.zeroValue20
 t37:=underlying171
 a37:=Tryz.isAgg171
 z37:=Tryz.sizeOf171
 v37:=Tryz.zeroValue171
 t46:=underlying135
 a46:=Tryz.isAgg135
 z46:=Tryz.sizeOf135
 v46:=Tryz.zeroValue135
 t51:=underlying163
 a51:=Tryz.isAgg163
 z51:=Tryz.sizeOf163
 v51:=Tryz.zeroValue163
 t53:=underlying165
 a53:=Tryz.isAgg165
 z53:=Tryz.sizeOf165
 v53:=Tryz.zeroValue165
 t171:=underlying210
 a171:=Tryz.isAgg210
 z171:=Tryz.sizeOf210
 v171:=Tryz.zeroValue210
 t173:=underlying212
 a173:=Tryz.isAgg212
 z173:=Tryz.sizeOf212
 v173:=Tryz.zeroValue212
 t212:=underlying229
 a212:=Tryz.isAgg229
 z212:=Tryz.sizeOf229
 v212:=Tryz.zeroValue229
 t213:=underlying230
 a213:=Tryz.isAgg230
 z213:=Tryz.sizeOf230
 t232:=underlying249
 a232:=Tryz.isAgg249
 z232:=Tryz.sizeOf249
 v232:=Tryz.zeroValue249
 t233:=underlying250
 a233:=Tryz.isAgg250
 z233:=Tryz.sizeOf250
 v233:=Tryz.zeroValue250
 g17:=by kernel_rfl
 g18:=by kernel_rfl
 g19:=by kernel_rfl
 i0:=by kernel_rfl
 i2:=by kernel_rfl
 i3:=by kernel_rfl
 i4:=by kernel_rfl
 i5:=by kernel_rfl
 i9:=by kernel_rfl
 i20:=by kernel_rfl
 i37:=by kernel_rfl
 i46:=by kernel_rfl
 i51:=by kernel_rfl
 i53:=by kernel_rfl
 i171:=by kernel_rfl
 i173:=by kernel_rfl
 i212:=by kernel_rfl
 i232:=by kernel_rfl
 i233:=by kernel_rfl
 m17:=by kernel_rfl
 m18:=by kernel_rfl
 m19:=by kernel_rfl }
def Tryz.lays155_ren:Go.Shelf.Ren:=⟨λ| 155=>228 | 154=>244 | 138=>263 | 165=>201 | 143=>264 | 166=>202 | 197=>265 | 169=>203 | 195=>283 | 218=>284 | 240=>230 | 241=>231 | 219=>285 | 260=>286 | 276=>249 | 277=>250 | 217=>294 | 225=>295 | 224=>296 | 267=>297 | 266=>300 | 314=>301 | n=>n,λ| 9=>9 | 3=>3 | 4=>4 | 72=>173 | 0=>0 | 76=>177 | 105=>226 | 21=>21 | 5=>5 | 70=>170 | 20=>20 | 37=>171 | 75=>176 | 127=>199 | 164=>214 | 46=>135 | 119=>245 | 139=>248 | 138=>247 | 146=>252 | 51=>163 | 80=>179 | n=>n,λ| 1=>0 | 3=>2 | 4=>3 | n=>n⟩
theorem Tryz.lays155:Go.Proofs.Lays.n155 Tryz.prog Tryz.lays155_ren:={
 mixed:=by kernel_rfl
 f138:=func263.trans (congrArg some (by kernel_rfl))
 f143:=func264.trans (congrArg some (by kernel_rfl))
 f154:=func244.trans (congrArg some (by kernel_rfl))
 f155:=func228.trans (congrArg some (by kernel_rfl))
 f165:=func201.trans (congrArg some (by kernel_rfl))
 f166:=func202.trans (congrArg some (by kernel_rfl))
 f169:=func203.trans (congrArg some (by kernel_rfl))
 f195:=func283.trans (congrArg some (by kernel_rfl))
 f197:=func265.trans (congrArg some (by kernel_rfl))
 f217:=func294.trans (congrArg some (by kernel_rfl))
 f218:=func284.trans (congrArg some (by kernel_rfl))
 f219:=func285.trans (congrArg some (by kernel_rfl))
 f224:=func296.trans (congrArg some (by kernel_rfl))
 f225:=func295.trans (congrArg some (by kernel_rfl))
 f240:=func230.trans (congrArg some (by kernel_rfl))
 f241:=func231.trans (congrArg some (by kernel_rfl))
 f260:=func286.trans (congrArg some (by kernel_rfl))
 f266:=func300.trans (congrArg some (by kernel_rfl))
 f267:=func297.trans (congrArg some (by kernel_rfl))
 f276:=func249.trans (congrArg some (by kernel_rfl))
 f277:=func250.trans (congrArg some (by kernel_rfl))
 f314:=func301.trans (congrArg some (by kernel_rfl))
 t0:=underlying0
 a0:=Tryz.isAgg0
 z0:=Tryz.sizeOf0
 v0:=Tryz.zeroValue0
 t3:=underlying3
 a3:=Tryz.isAgg3
 z3:=Tryz.sizeOf3
 v3:=Tryz.zeroValue3
 t4:=underlying4
 a4:=Tryz.isAgg4
 z4:=Tryz.sizeOf4
 v4:=Tryz.zeroValue4
 t5:=underlying5
 a5:=Tryz.isAgg5
 z5:=Tryz.sizeOf5
 v5:=Tryz.zeroValue5
 t9:=underlying9
 a9:=Tryz.isAgg9
 z9:=Tryz.sizeOf9
 v9:=Tryz.zeroValue9
 t20:=underlying20
 a20:=Tryz.isAgg20
 z20:=Tryz.sizeOf20
 v20:=Tryz.zeroValue20
 t21:=underlying21
 a21:=Tryz.isAgg21
 z21:=Tryz.sizeOf21
 v21:=Tryz.zeroValue21
 t37:=underlying171
 a37:=Tryz.isAgg171
 z37:=Tryz.sizeOf171
 v37:=Tryz.zeroValue171
 t46:=underlying135
 a46:=Tryz.isAgg135
 z46:=Tryz.sizeOf135
 v46:=Tryz.zeroValue135
 t51:=underlying163
 a51:=Tryz.isAgg163
 z51:=Tryz.sizeOf163
 v51:=Tryz.zeroValue163
 t70:=underlying170
 a70:=Tryz.isAgg170
 z70:=Tryz.sizeOf170
 v70:=Tryz.zeroValue170
 t72:=underlying173
 a72:=Tryz.isAgg173
 z72:=Tryz.sizeOf173
 v72:=Tryz.zeroValue173
 t75:=underlying176
 a75:=Tryz.isAgg176
 z75:=Tryz.sizeOf176
 v75:=Tryz.zeroValue176
 t76:=underlying177
 a76:=Tryz.isAgg177
 z76:=Tryz.sizeOf177
 v76:=Tryz.zeroValue177
 t105:=underlying226
 a105:=Tryz.isAgg226
 z105:=Tryz.sizeOf226
 v105:=Tryz.zeroValue226
 t119:=underlying245
 a119:=Tryz.isAgg245
 z119:=Tryz.sizeOf245
 t127:=underlying199
 a127:=Tryz.isAgg199
 z127:=Tryz.sizeOf199
 v127:=Tryz.zeroValue199
 t138:=underlying247
 a138:=Tryz.isAgg247
 z138:=Tryz.sizeOf247
 v138:=Tryz.zeroValue247
 t139:=underlying248
 a139:=Tryz.isAgg248
 z139:=Tryz.sizeOf248
 v139:=Tryz.zeroValue248
 t146:=underlying252
 a146:=Tryz.isAgg252
 z146:=Tryz.sizeOf252
 v146:=Tryz.zeroValue252
 t164:=underlying214
 a164:=Tryz.isAgg214
 z164:=Tryz.sizeOf214
 v164:=Tryz.zeroValue214
 g1:=by kernel_rfl
 g3:=by kernel_rfl
 g4:=by kernel_rfl }
theorem Tryz.Builder_Extra_155:Builder.Extra Tryz.prog Tryz.lays155_ren:={
 sizeBuilder:=by kernel_rfl
 liesBuilder:=by kernel_rfl
 t5:=underlying5
 a5:=Tryz.isAgg5
 z5:=Tryz.sizeOf5
 v5:=Tryz.zeroValue5
 infoByte:=by kernel_rfl
 cellsByte:=by kernel_rfl
 sizeByte:=by kernel_rfl
 neB5:=by decide }
def Tryz.lays156_ren:Go.Shelf.Ren:=⟨λ| 156=>169 | 165=>201 | 166=>202 | 169=>203 | 240=>230 | 241=>231 | 276=>249 | 277=>250 | n=>n,λ| 31=>144 | 9=>9 | 3=>3 | 4=>4 | 0=>0 | 20=>20 | 72=>173 | 76=>177 | 70=>170 | 37=>171 | 75=>176 | 127=>199 | 164=>214 | 5=>5 | 80=>179 | n=>n,λ| n=>n⟩
theorem Tryz.lays156:Go.Proofs.Lays.n156 Tryz.prog Tryz.lays156_ren:={
 mixed:=by kernel_rfl
 f156:=func169.trans (congrArg some (by kernel_rfl))
 f165:=func201.trans (congrArg some (by kernel_rfl))
 f166:=func202.trans (congrArg some (by kernel_rfl))
 f169:=func203.trans (congrArg some (by kernel_rfl))
 f240:=func230.trans (congrArg some (by kernel_rfl))
 f241:=func231.trans (congrArg some (by kernel_rfl))
 f276:=func249.trans (congrArg some (by kernel_rfl))
 f277:=func250.trans (congrArg some (by kernel_rfl))
 t0:=underlying0
 a0:=Tryz.isAgg0
 z0:=Tryz.sizeOf0
 v0:=Tryz.zeroValue0
 t3:=underlying3
 a3:=Tryz.isAgg3
 z3:=Tryz.sizeOf3
 v3:=Tryz.zeroValue3
 t4:=underlying4
 a4:=Tryz.isAgg4
 z4:=Tryz.sizeOf4
 v4:=Tryz.zeroValue4
 t9:=underlying9
 a9:=Tryz.isAgg9
 z9:=Tryz.sizeOf9
 v9:=Tryz.zeroValue9
 t20:=underlying20
 a20:=Tryz.isAgg20
 z20:=Tryz.sizeOf20
 v20:=Tryz.zeroValue20
 t31:=underlying144
 a31:=Tryz.isAgg144
 z31:=Tryz.sizeOf144
 v31:=Tryz.zeroValue144
 t37:=underlying171
 a37:=Tryz.isAgg171
 z37:=Tryz.sizeOf171
 v37:=Tryz.zeroValue171
 t70:=underlying170
 a70:=Tryz.isAgg170
 z70:=Tryz.sizeOf170
 v70:=Tryz.zeroValue170
 t72:=underlying173
 a72:=Tryz.isAgg173
 z72:=Tryz.sizeOf173
 v72:=Tryz.zeroValue173
 t75:=underlying176
 a75:=Tryz.isAgg176
 z75:=Tryz.sizeOf176
 v75:=Tryz.zeroValue176
 t76:=underlying177
 a76:=Tryz.isAgg177
 z76:=Tryz.sizeOf177
 v76:=Tryz.zeroValue177
 t127:=underlying199
 a127:=Tryz.isAgg199
 z127:=Tryz.sizeOf199
 v127:=Tryz.zeroValue199
 t164:=underlying214
 a164:=Tryz.isAgg214
 z164:=Tryz.sizeOf214
 v164:=Tryz.zeroValue214 }
theorem Tryz.Builder_Extra_156:Builder.Extra Tryz.prog Tryz.lays156_ren:={
 sizeBuilder:=by kernel_rfl
 liesBuilder:=by kernel_rfl
 t5:=underlying5
 a5:=Tryz.isAgg5
 z5:=Tryz.sizeOf5
 v5:=Tryz.zeroValue5
 infoByte:=by kernel_rfl
 cellsByte:=by kernel_rfl
 sizeByte:=by kernel_rfl
 neB5:=by decide }
end Go.Proofs
namespace Go.Proofs.YtljlfiomikifjaaGreatDoor
open Go Go.Ab
open Go.Proofs.Tryz
def strings_Compare (s p:ByteArray):Bool×Int:=zPC s p
def zG9:Ab.Spec ty:=zh (cx:=base) (zc (ze zAl) (zc (ze zAl) zo)) λx=>((strings_Compare x.1 x.2.1).1,⟨[.pure (.lit (.int .i64 (strings_Compare x.1 x.2.1).2))],[]⟩)
theorem zTP:SdP 160 zG9:=zbcm zfi Go.Proofs.Tryz.lays106 call160
end Go.Proofs.YtljlfiomikifjaaGreatDoor
namespace Go.Proofs.YtljlfiomikifjaaGreatDoor
open Go Go.Ab
open Go.Proofs.Tryz
def z5N:=zbl base 22 [(120,zlS),(121,zlT),(138,zno),(160,zG9)]
def zRR (a:Value) (b:Value):Wy0 (Int):=.bn (zd5 a.Kind b.Kind) λr2=>.bn (zjn a.Int b.Int) λr1=>.bn (znm [r2,r1,(strings_Compare a.Text b.Text).2]) λr0=>.k r0
def ztO (a:Value) (b:Value):=(zRR a b).fin default
def z9z:AL base (Value×Value×Unit):=zc (ze (zcl 65)) (zc (ze (zcl 65)) zo)
def zCk:=zh z9z λx=>((ztO x.1 x.2.1).1,zTh (ztO x.1 x.2.1).2)
theorem zIl:SdP 125 zCk:=
 sT (cx':=z5N) (zi ⟨znd,zoA,zto,zTP,trivial⟩) call125 func125 (lOK aN)
def zIr (zC:yC->yC->Bool×Int) (zx:yA->yA->Bool×Int) (zJ:yE->yE->Bool×Int) (zL:Wd->Wd->Bool×Int):=zbl base 51 [(67,(zes zC)),(120,zlS),(121,zlT),(122,(zbA zx)),(123,(zbS zJ)),(124,(zeu zL)),(125,zCk)]
def zxZ (zC:yC->yC->Bool×Int) (zx:yA->yA->Bool×Int) (zJ:yE->yE->Bool×Int) (zL:Wd->Wd->Bool×Int) (a:At) (b:At):Wy0 (Int):=.bn (zd5 a.Kind b.Kind) λr8=>.bn (zd5 a.Row.Table b.Row.Table) λr7=>.bn (zd5 a.Row.Seq b.Row.Seq) λr6=>.bn (zx a.Ag b.Ag) λr5=>.bn (zd5 a.Func b.Func) λr4=>.bn (zJ a.Items b.Items) λr3=>.bn (zd5 a.Op b.Op) λr2=>.bn (ztO a.Bd b.Bd) λr1=>.bn (znm [r8,r7,r6,r5,r4,r3,r2,r1]) λr0=>.k r0
def zkW (zC:yC->yC->Bool×Int) (zx:yA->yA->Bool×Int) (zJ:yE->yE->Bool×Int) (zL:Wd->Wd->Bool×Int) (a:At) (b:At):=(zxZ zC zx zJ zL a b).fin default
theorem zFW (zC:yC->yC->Bool×Int) (zx:yA->yA->Bool×Int) (zJ:yE->yE->Bool×Int) (zL:Wd->Wd->Bool×Int) (zjT:SdP 67 (zes zC)) (zfM:SdP 122 (zbA zx)) (zhf:SdP 123 (zbS zJ)) (znE:SdP 124 (zeu zL)):SdP 65 (zht (zkW zC zx zJ zL)):=
 sT (cx':=(zIr zC zx zJ zL)) (zi ⟨zjT,znd,zoA,zfM,zhf,znE,zIl,trivial⟩) call65 func65 (lOK aN)
def zHr (zc0:At->At->Bool×Int):=zbl base 17 [(65,(zht zc0)),(120,zlS),(121,zlT)]
def zvL (zc0:At->At->Bool×Int) (a:Fc) (b:Fc):Wy0 (Int):=.bn (zc0 (At.mk a.At.Kind a.At.Row a.At.Ag a.At.Func a.At.Items a.At.Op a.At.Bd) (At.mk b.At.Kind b.At.Row b.At.Ag b.At.Func b.At.Items b.At.Op b.At.Bd)) λr2=>.bn (zd5 a.Exp b.Exp) λr1=>.bn (znm [r2,r1]) λr0=>.k r0
def zjL (zc0:At->At->Bool×Int) (a:Fc) (b:Fc):=(zvL zc0 a b).fin default
theorem zDX (zc0:At->At->Bool×Int) (zJQ:SdP 65 (zht zc0)):SdP 119 (zeQ (zjL zc0)):=
 sT (cx':=(zHr zc0)) (zi ⟨zJQ,znd,zoA,trivial⟩) call119 func119 (lOK aN)
def zIJ (zC:yC->yC->Bool×Int):=zbl base 17 [(67,(zes zC)),(120,zlS),(125,zCk)]
def zxK (zC:yC->yC->Bool×Int) (a:Wd) (b:Wd):Wy0 (Int):=.bn (ztO a.Value b.Value) λr2=>.bn (zC a.Ann b.Ann) λr1=>.bn (znm [r2,r1]) λr0=>.k r0
def zk2 (zC:yC->yC->Bool×Int) (a:Wd) (b:Wd):=(zxK zC a b).fin default
theorem zFO (zC:yC->yC->Bool×Int) (zjT:SdP 67 (zes zC)):SdP 124 (zeu (zk2 zC)):=
 sT (cx':=(zIJ zC)) (zi ⟨zjT,znd,zIl,trivial⟩) call124 func124 (lOK aN)
def zIX (zS:yD->yD->Bool×Int) (zB:Fc->Fc->Bool×Int):=zbl base 10 [(118,(zb5 zS)),(119,(zeQ zB))]
def zxY (zS:yD->yD->Bool×Int) (zB:Fc->Fc->Bool×Int) (a:Term) (b:Term):Wy0 (Int):=.bn (zS a.Fs b.Fs) λr0=>.k r0
def zkT (zS:yD->yD->Bool×Int) (zB:Fc->Fc->Bool×Int) (a:Term) (b:Term):=(zxY zS zB a b).fin default
theorem zFR (zS:yD->yD->Bool×Int) (zB:Fc->Fc->Bool×Int) (zjr:SdP 118 (zb5 zS)) (zmg:SdP 119 (zeQ zB)):SdP 63 (zgj (zkT zS zB)):=
 sT (cx':=(zIX zS zB)) (zi ⟨zjr,zmg,trivial⟩) call63 func63 (lOK aN)
abbrev zbN:=yA×yA×Unit×yA×Int×Int×Unit
abbrev zdx:=Int⊕(yA×yA)
def zfE (zC:yC->yC->Bool×Int) (s1:yA) (s2:yA) (t11:yA) (t12:Int) (t13:Int):Wy zbN Unit zdx:=.i (decide (t13<t12)) (.i (decide (0<=t13)&&decide (t13<Int.ofNat t11.length)) (.i (decide (t13≥Int.ofNat s2.length)) (.k (.inl 1)) (.i (decide (0<=t13)&&decide (t13<Int.ofNat s2.length)) (.bn (zC (t11.getD t13.toNat default) (s2.getD t13.toNat default)) λr0=>.i (r0 != 0) (.k (.inl (r0))) (.h (s1,s2,(),t11,t12,(IntKind.i64.wrap (t13+1)),()) ())) .d)) .d) (.k (.inr (s1,s2)))
def zcR (zC:yC->yC->Bool×Int) (x:zbN) (y:Unit):=zfE zC x.1 x.2.1 x.2.2.2.1 x.2.2.2.2.1 x.2.2.2.2.2.1
def zfH (zC:yC->yC->Bool×Int) (n:Nat) (s1:yA) (s2:yA) (t11:yA) (t12:Int) (t13:Int):=zy (zcR zC) (.inl default) n (s1,s2,(),t11,t12,t13,()) ()
def zfu (r:zdx):LTree ty:=.ite (isL r) (.done .ret [.lit (.int .i64 (getL r))] []) (.done (.exit 0) [.sl 23 (getR r).1,.sl 23 (getR r).2] [])
def zfA:LL ty zbN:=za (lSl 23) (za (lSl 23) (za (lFn 67 (zk)) (za (lSl 23) (za zj (za zj zk)))))
def zfv (x:zbN) (y:Unit):Nat:=(x.1.length+x.2.1.length+x.2.2.2.1.length+Int.toNat x.2.2.2.2.1+Int.toNat x.2.2.2.2.2.1+1)
def zcU (zC:yC->yC->Bool×Int):=zbY base 39 [(67,(zes zC))] [] [(2,(kpL [0,1,2,11,12,13]))] [(2,1,(kpL [0,1])),(2,0,(kpL [6]))] [(2,spW zfA zbcZ (zcR zC) (.inl default) zfu zfv)] []
theorem zft (zC:yC->yC->Bool×Int):zA (zcU zC) (lp (body f122) 0):=zp (id:=2) (hl:=rfl)
def zfP (zC:yC->yC->Bool×Int) (s1:yA) (s2:yA):Wy0 (Int):=.bn (zfH zC (s1.length+s2.length+s1.length+(Int.ofNat s1.length).toNat +Int.toNat 0+1) s1 s2 s1 (Int.ofNat s1.length) 0) λr2=>.i (isL r2) (.k (getL r2)) (.i (decide (Int.ofNat (getR r2).1.length<Int.ofNat (getR r2).2.length)) (.k (-1:Int)) (.k 0))
def zbB (zC:yC->yC->Bool×Int) (s1:yA) (s2:yA):=(zfP zC s1 s2).fin default
theorem zfg (zC:yC->yC->Bool×Int) (zjT:SdP 67 (zes zC)):SdP 122 (zbA (zbB zC)):=
 sT (cx':=(zcU zC)) (zi ⟨zjT,trivial⟩) call122 func122 (lOK (aC (zft zC) aN))
abbrev zcg:=yD×yD×Unit×yD×Int×Int×Unit
abbrev zfb:=Int⊕(yD×yD)
def zed (zB:Fc->Fc->Bool×Int) (s1:yD) (s2:yD) (t11:yD) (t12:Int) (t13:Int):Wy zcg Unit zfb:=.i (decide (t13<t12)) (.i (decide (0<=t13)&&decide (t13<Int.ofNat t11.length)) (.i (decide (t13≥Int.ofNat s2.length)) (.k (.inl 1)) (.i (decide (0<=t13)&&decide (t13<Int.ofNat s2.length)) (.bn (zB (FO.mk (At.mk (t11.getD t13.toNat default).At.Kind (t11.getD t13.toNat default).At.Row (t11.getD t13.toNat default).At.Ag (t11.getD t13.toNat default).At.Func (t11.getD t13.toNat default).At.Items (t11.getD t13.toNat default).At.Op (t11.getD t13.toNat default).At.Bd) (t11.getD t13.toNat default).Exp) (FO.mk (At.mk (s2.getD t13.toNat default).At.Kind (s2.getD t13.toNat default).At.Row (s2.getD t13.toNat default).At.Ag (s2.getD t13.toNat default).At.Func (s2.getD t13.toNat default).At.Items (s2.getD t13.toNat default).At.Op (s2.getD t13.toNat default).At.Bd) (s2.getD t13.toNat default).Exp)) λr0=>.i (r0 != 0) (.k (.inl (r0))) (.h (s1,s2,(),t11,t12,(IntKind.i64.wrap (t13+1)),()) ())) .d)) .d) (.k (.inr (s1,s2)))
def zb0 (zB:Fc->Fc->Bool×Int) (x:zcg) (y:Unit):=zed zB x.1 x.2.1 x.2.2.2.1 x.2.2.2.2.1 x.2.2.2.2.2.1
def zec (zB:Fc->Fc->Bool×Int) (n:Nat) (s1:yD) (s2:yD) (t11:yD) (t12:Int) (t13:Int):=zy (zb0 zB) (.inl default) n (s1,s2,(),t11,t12,t13,()) ()
def ziM (r:zfb):LTree ty:=.ite (isL r) (.done .ret [.lit (.int .i64 (getL r))] []) (.done (.exit 0) [.sl 69 (getR r).1,.sl 69 (getR r).2] [])
def zi8:LL ty zcg:=za (lSl 69) (za (lSl 69) (za (lFn 119 (zk)) (za (lSl 69) (za zj (za zj zk)))))
def ziR (x:zcg) (y:Unit):Nat:=(x.1.length+x.2.1.length+x.2.2.2.1.length+Int.toNat x.2.2.2.2.1+Int.toNat x.2.2.2.2.2.1+1)
def zee (zB:Fc->Fc->Bool×Int):=zbY base 39 [(119,(zeQ zB))] [] [(2,(kpL [0,1,2,11,12,13]))] [(2,1,(kpL [0,1])),(2,0,(kpL [6]))] [(2,spW zi8 zbcZ (zb0 zB) (.inl default) ziM ziR)] []
theorem ziY (zB:Fc->Fc->Bool×Int):zA (zee zB) (lp (body f118) 0):=zp (id:=2) (hl:=rfl)
def zem (zB:Fc->Fc->Bool×Int) (s1:yD) (s2:yD):Wy0 (Int):=.bn (zec zB (s1.length+s2.length+s1.length+(Int.ofNat s1.length).toNat +Int.toNat 0+1) s1 s2 s1 (Int.ofNat s1.length) 0) λr2=>.i (isL r2) (.k (getL r2)) (.i (decide (Int.ofNat (getR r2).1.length<Int.ofNat (getR r2).2.length)) (.k (-1:Int)) (.k 0))
def zbG (zB:Fc->Fc->Bool×Int) (s1:yD) (s2:yD):=(zem zB s1 s2).fin default
theorem zid (zB:Fc->Fc->Bool×Int) (zmg:SdP 119 (zeQ zB)):SdP 118 (zb5 (zbG zB)):=
 sT (cx':=(zee zB)) (zi ⟨zmg,trivial⟩) call118 func118 (lOK (aC (ziY zB) aN))
abbrev zb4:=yE×yE×Unit×yE×Int×Int×Unit
abbrev zep:=Int⊕(yE×yE)
def zgS (zL:Wd->Wd->Bool×Int) (s1:yE) (s2:yE) (t11:yE) (t12:Int) (t13:Int):Wy zb4 Unit zep:=.i (decide (t13<t12)) (.i (decide (0<=t13)&&decide (t13<Int.ofNat t11.length)) (.i (decide (t13≥Int.ofNat s2.length)) (.k (.inl 1)) (.i (decide (0<=t13)&&decide (t13<Int.ofNat s2.length)) (.bn (zL (t11.getD t13.toNat default) (s2.getD t13.toNat default)) λr0=>.i (r0 != 0) (.k (.inl (r0))) (.h (s1,s2,(),t11,t12,(IntKind.i64.wrap (t13+1)),()) ())) .d)) .d) (.k (.inr (s1,s2)))
def zdq (zL:Wd->Wd->Bool×Int) (x:zb4) (y:Unit):=zgS zL x.1 x.2.1 x.2.2.2.1 x.2.2.2.2.1 x.2.2.2.2.2.1
def zgQ (zL:Wd->Wd->Bool×Int) (n:Nat) (s1:yE) (s2:yE) (t11:yE) (t12:Int) (t13:Int):=zy (zdq zL) (.inl default) n (s1,s2,(),t11,t12,t13,()) ()
def zgM (r:zep):LTree ty:=.ite (isL r) (.done .ret [.lit (.int .i64 (getL r))] []) (.done (.exit 0) [.sl 100 (getR r).1,.sl 100 (getR r).2] [])
def zgT:LL ty zb4:=za (lSl 100) (za (lSl 100) (za (lFn 124 (zk)) (za (lSl 100) (za zj (za zj zk)))))
def zgJ (x:zb4) (y:Unit):Nat:=(x.1.length+x.2.1.length+x.2.2.2.1.length+Int.toNat x.2.2.2.2.1+Int.toNat x.2.2.2.2.2.1+1)
def zdr (zL:Wd->Wd->Bool×Int):=zbY base 39 [(124,(zeu zL))] [] [(2,(kpL [0,1,2,11,12,13]))] [(2,1,(kpL [0,1])),(2,0,(kpL [6]))] [(2,spW zgT zbcZ (zdq zL) (.inl default) zgM zgJ)] []
theorem zgL (zL:Wd->Wd->Bool×Int):zA (zdr zL) (lp (body f123) 0):=zp (id:=2) (hl:=rfl)
def zhb (zL:Wd->Wd->Bool×Int) (s1:yE) (s2:yE):Wy0 (Int):=.bn (zgQ zL (s1.length+s2.length+s1.length+(Int.ofNat s1.length).toNat +Int.toNat 0+1) s1 s2 s1 (Int.ofNat s1.length) 0) λr2=>.i (isL r2) (.k (getL r2)) (.i (decide (Int.ofNat (getR r2).1.length<Int.ofNat (getR r2).2.length)) (.k (-1:Int)) (.k 0))
def zbQ (zL:Wd->Wd->Bool×Int) (s1:yE) (s2:yE):=(zhb zL s1 s2).fin default
theorem zgy (zL:Wd->Wd->Bool×Int) (znE:SdP 124 (zeu zL)):SdP 123 (zbS (zbQ zL)):=
 sT (cx':=(zdr zL)) (zi ⟨znE,trivial⟩) call123 func123 (lOK (aC (zgL zL) aN))
abbrev zcd:=yC×yC×Unit×yC×Int×Int×Unit
abbrev zeX:=Int⊕(yC×yC)
def zio (zQ:Term->Term->Bool×Int) (s1:yC) (s2:yC) (t11:yC) (t12:Int) (t13:Int):Wy zcd Unit zeX:=.i (decide (t13<t12)) (.i (decide (0<=t13)&&decide (t13<Int.ofNat t11.length)) (.i (decide (t13≥Int.ofNat s2.length)) (.k (.inl 1)) (.i (decide (0<=t13)&&decide (t13<Int.ofNat s2.length)) (.bn (zQ (t11.getD t13.toNat default) (s2.getD t13.toNat default)) λr0=>.i (r0 != 0) (.k (.inl (r0))) (.h (s1,s2,(),t11,t12,(IntKind.i64.wrap (t13+1)),()) ())) .d)) .d) (.k (.inr (s1,s2)))
def zd1 (zQ:Term->Term->Bool×Int) (x:zcd) (y:Unit):=zio zQ x.1 x.2.1 x.2.2.2.1 x.2.2.2.2.1 x.2.2.2.2.2.1
def zir (zQ:Term->Term->Bool×Int) (n:Nat) (s1:yC) (s2:yC) (t11:yC) (t12:Int) (t13:Int):=zy (zd1 zQ) (.inl default) n (s1,s2,(),t11,t12,t13,()) ()
def zik (r:zeX):LTree ty:=.ite (isL r) (.done .ret [.lit (.int .i64 (getL r))] []) (.done (.exit 0) [.sl 28 (getR r).1,.sl 28 (getR r).2] [])
def zis:LL ty zcd:=za (lSl 28) (za (lSl 28) (za (lFn 137 (zk)) (za (lSl 28) (za zj (za zj zk)))))
def zhZ (x:zcd) (y:Unit):Nat:=(x.1.length+x.2.1.length+x.2.2.2.1.length+Int.toNat x.2.2.2.2.1+Int.toNat x.2.2.2.2.2.1+1)
def zd0 (zQ:Term->Term->Bool×Int):=zbY base 39 [(137,(zgj zQ))] [] [(2,(kpL [0,1,2,11,12,13]))] [(2,1,(kpL [0,1])),(2,0,(kpL [6]))] [(2,spW zis zbcZ (zd1 zQ) (.inl default) zik zhZ)] []
theorem zia (zQ:Term->Term->Bool×Int):zA (zd0 zQ) (lp (body f136) 0):=zp (id:=2) (hl:=rfl)
def ziJ (zQ:Term->Term->Bool×Int) (s1:yC) (s2:yC):Wy0 (Int):=.bn (zir zQ (s1.length+s2.length+s1.length+(Int.ofNat s1.length).toNat +Int.toNat 0+1) s1 s2 s1 (Int.ofNat s1.length) 0) λr2=>.i (isL r2) (.k (getL r2)) (.i (decide (Int.ofNat (getR r2).1.length<Int.ofNat (getR r2).2.length)) (.k (-1:Int)) (.k 0))
def zb2 (zQ:Term->Term->Bool×Int) (s1:yC) (s2:yC):=(ziJ zQ s1 s2).fin default
theorem zhz (zQ:Term->Term->Bool×Int) (zp9:SdP 137 (zgj zQ)):SdP 136 (zb1 (zb2 zQ)):=
 sT (cx':=(zd0 zQ)) (zi ⟨zp9,trivial⟩) call136 func136 (lOK (aC (zia zQ) aN))
def zcn:Nat->(yC->yC->Bool×Int)×(Term->Term->Bool×Int)×(Term->Term->Bool×Int)×(Fc->Fc->Bool×Int)×(At->At->Bool×Int)×(Wd->Wd->Bool×Int)×(yC->yC->Bool×Int)×(yD->yD->Bool×Int)×(yA->yA->Bool×Int)×(yE->yE->Bool×Int)
 | 0=>(λ_ _=>(false,default),λ_ _=>(false,default),λ_ _=>(false,default),λ_ _=>(false,default),λ_ _=>(false,default),λ_ _=>(false,default),λ_ _=>(false,default),λ_ _=>(false,default),λ_ _=>(false,default),λ_ _=>(false,default))
 | n+1=>(zql ((zcn n).2.2.2.2.2.2.1) ((zcn n).2.1),zmr ((zcn n).2.2.1),zkT ((zcn n).2.2.2.2.2.2.2.1) ((zcn n).2.2.2.1),zjL ((zcn n).2.2.2.2.1),zkW ((zcn n).1) ((zcn n).2.2.2.2.2.2.2.2.1) ((zcn n).2.2.2.2.2.2.2.2.2) ((zcn n).2.2.2.2.2.1),zk2 ((zcn n).1),zb2 ((zcn n).2.1),zbG ((zcn n).2.2.2.1),zbB ((zcn n).1),zbQ ((zcn n).2.2.2.2.2.1))
def zgw (n:Nat):yC->yC->Bool×Int:=(zcn n).1
def zi5 (n:Nat):Term->Term->Bool×Int:=(zcn n).2.1
def zhn (n:Nat):Term->Term->Bool×Int:=(zcn n).2.2.1
def zge (n:Nat):Fc->Fc->Bool×Int:=(zcn n).2.2.2.1
def zhw (n:Nat):At->At->Bool×Int:=(zcn n).2.2.2.2.1
def zfk (n:Nat):Wd->Wd->Bool×Int:=(zcn n).2.2.2.2.2.1
def zb3 (n:Nat):yC->yC->Bool×Int:=(zcn n).2.2.2.2.2.2.1
def zb6 (n:Nat):yD->yD->Bool×Int:=(zcn n).2.2.2.2.2.2.2.1
def zbz (n:Nat):yA->yA->Bool×Int:=(zcn n).2.2.2.2.2.2.2.2.1
def zbR (n:Nat):yE->yE->Bool×Int:=(zcn n).2.2.2.2.2.2.2.2.2
theorem zQW (n:Nat):zgw (n+1)=zql (zb3 n) (zi5 n):=rfl
theorem zMc (n:Nat):zi5 (n+1)=zmr (zhn n):=rfl
theorem zIQ (n:Nat):zhn (n+1)=zkT (zb6 n) (zge n):=rfl
theorem zGK (n:Nat):zge (n+1)=zjL (zhw n):=rfl
theorem zJm (n:Nat):zhw (n+1)=zkW (zgw n) (zbz n) (zbR n) (zfk n):=rfl
theorem zJx (n:Nat):zfk (n+1)=zk2 (zgw n):=rfl
theorem zit (n:Nat):zb3 (n+1)=zb2 (zi5 n):=rfl
theorem zjh (n:Nat):zb6 (n+1)=zbG (zge n):=rfl
theorem zfG (n:Nat):zbz (n+1)=zbB (zgw n):=rfl
theorem zgV (n:Nat):zbR (n+1)=zbQ (zfk n):=rfl
theorem zzm:∀ n,SdP 67 (zes (zgw n))/\SdP 137 (zgj (zi5 n))/\SdP 63 (zgj (zhn n))/\SdP 119 (zeQ (zge n))/\SdP 65 (zht (zhw n))/\SdP 124 (zeu (zfk n))/\SdP 136 (zb1 (zb3 n))/\SdP 118 (zb5 (zb6 n))/\SdP 122 (zbA (zbz n))/\SdP 123 (zbS (zbR n))
 | 0=>⟨z8 call67 (λ_=>rfl),z8 call137 (λ_=>rfl),z8 call63 (λ_=>rfl),z8 call119 (λ_=>rfl),z8 call65 (λ_=>rfl),z8 call124 (λ_=>rfl),z8 call136 (λ_=>rfl),z8 call118 (λ_=>rfl),z8 call122 (λ_=>rfl),z8 call123 (λ_=>rfl)⟩
 | n+1=>by
  have ih:=zzm n;exact ⟨zL1 _ _ (ih.2.2.2.2.2.2.1) (ih.2.1),zHB _ (ih.2.2.1),zFR _ _ (ih.2.2.2.2.2.2.2.1) (ih.2.2.2.1),zDX _ (ih.2.2.2.2.1),zFW _ _ _ _ (ih.1) (ih.2.2.2.2.2.2.2.2.1) (ih.2.2.2.2.2.2.2.2.2) (ih.2.2.2.2.2.1),zFO _ (ih.1),zhz _ (ih.2.1),zid _ (ih.2.2.2.1),zfg _ (ih.1),zgy _ (ih.2.2.2.2.2.1)⟩
def zuq:yC->yC->Bool×Int:=zgw 1000
def ztf:Ab.Spec ty:=zes zuq
theorem zBl:SdP 67 ztf:=(zzm 1000).1
def zb8:Term->Term->Bool×Int:=zhn 1000
def ziS:Ab.Spec ty:=zgj zb8
theorem zmn:SdP 63 ziS:=(zzm 1000).2.2.1
def zi9:At->At->Bool×Int:=zhw 1000
def zna:Ab.Spec ty:=zht zi9
theorem zvK:SdP 65 zna:=(zzm 1000).2.2.2.2.1
def zbm:Wd->Wd->Bool×Int:=zfk 1000
def zfW:Ab.Spec ty:=zeu zbm
theorem zhP:SdP 124 zfW:=(zzm 1000).2.2.2.2.2.1
def z2g:AL base (yC×Unit):=zc (ze (vSl 28)) zo
def zh3 (F:yC->Bool×Bool):Ab.Spec ty:=zh z2g λx=>((F x.1).1,zYA (F x.1).2)
def zDM:AL base (At×Unit):=zc (ze (zcl 67)) zo
def znw (F:At->Bool×Bool):Ab.Spec ty:=zh zDM λx=>((F x.1).1,zYA (F x.1).2)
def zNL:AL base (Wd×Unit):=zc (ze (zcl 100)) zo
def zdy (F:Wd->Bool×Bool):Ab.Spec ty:=zh zNL λx=>((F x.1).1,zYA (F x.1).2)
def zo7:AL base (yA×Unit×Unit):=zc (ze (vSl 23)) (zc (ze (vFn 127 zbT)) zo)
def zcN (F:yA->Bool×Int):Ab.Spec ty:=zh zo7 λx=>((F x.1).1,zTh (F x.1).2)
def zcA (F:yA->Bool×Bool):Ab.Spec ty:=zh zo7 λx=>((F x.1).1,zYA (F x.1).2)
def zry:AL base (yE×Unit×Unit):=zc (ze (vSl 100)) (zc (ze (vFn 133 zbT)) zo)
def zdi (F:yE->Bool×Int):Ab.Spec ty:=zh zry λx=>((F x.1).1,zTh (F x.1).2)
def zcV (F:yE->Bool×Bool):Ab.Spec ty:=zh zry λx=>((F x.1).1,zYA (F x.1).2)
def zPX:=zbl base 11 []
def zCO (x_:At):Wy0 (Bool):=.i (x_.Kind==3) (.k true) (.k (x_.Kind==4))
def zfT (x_:At):=(zCO x_).fin default
def zkd:=zh zDM λx=>((zfT x.1).1,zYA (zfT x.1).2)
theorem zob:SdP 64 zkd:=
 sT (cx':=zPX) (zi trivial) call64 func64 (lOK aN)
def zpi (F:yC->Bool×Int):Ab.Spec ty:=zh z2g λx=>((F x.1).1,zTh (F x.1).2)
end Go.Proofs.YtljlfiomikifjaaGreatDoor
end
