/- Texts of this claim, joined (the program, its functions in plain words, and what they compute). -/
import Derived.KernelRfl
import Derived.Test.YtljlfiomikifjaaGreatDoorChecked
import Derived.Test.YtljlfiomikifjaaGreatDoorProg
import Derived.Test.YtljlfiomikifjaaGreatDoorGB1
set_option autoImplicit false
set_option linter.unusedVariables false
set_option linter.unusedSectionVars false
set_option linter.unusedSimpArgs false
set_option maxRecDepth 1000000
set_option maxHeartbeats 0
/- The types of the program, as plain data. -/
noncomputable section
namespace Go.Proofs.YtljlfiomikifjaaGreatDoor
open Go Go.Ab
open Go.Proofs Go.Shelf
open Go.Proofs.Tryz
structure RowID where
 Table:Int
 Seq:Int
 deriving DecidableEq,Inhabited
structure Value where
 Kind:Int
 Int:Int
 Text:ByteArray
 deriving DecidableEq,Inhabited
structure FO (A:Type) where
 At:A
 Exp:Int
structure TO (A:Type) where
 Cf:Int
 Fs:List (FO A)
structure WO (A:Type) where
 Value:Value
 Ann:List (TO A)
structure At where
 Kind:Int
 Row:RowID
 Ag:List (List (TO At))
 Func:Int
 Items:List (WO At)
 Op:Int
 Bd:Value
abbrev Fc:=FO At
abbrev Term:=TO At
abbrev Wd:=WO At
instance:Inhabited At:=⟨⟨0,default,[],0,[],0,default⟩⟩
instance:Inhabited Fc:=⟨⟨default,0⟩⟩
instance:Inhabited Term:=⟨⟨0,[]⟩⟩
instance:Inhabited Wd:=⟨⟨default,[]⟩⟩
theorem At.eta (x:At):(⟨x.Kind,x.Row,x.Ag,x.Func,x.Items,x.Op,x.Bd⟩:At)=x:=by cases x; rfl
mutual
def zbef:(x y:At)->Decidable (x=y)
 | ⟨k,r,a,f,i,o,b⟩,⟨k',r',a',f',i',o',b'⟩=>
  match decEq k k',decEq r r',zbd1 a a',decEq f f',zbbV i i',decEq o o',decEq b b' with
  | .isTrue h1,.isTrue h2,.isTrue h3,.isTrue h4,.isTrue h5,.isTrue h6,.isTrue h7=>.isTrue (by subst h1 h2 h3 h4 h5 h6 h7; rfl)
  | .isFalse h,_,_,_,_,_,_=>.isFalse (λe=>by cases e; exact h rfl)
  | _,.isFalse h,_,_,_,_,_=>.isFalse (λe=>by cases e; exact h rfl)
  | _,_,.isFalse h,_,_,_,_=>.isFalse (λe=>by cases e; exact h rfl)
  | _,_,_,.isFalse h,_,_,_=>.isFalse (λe=>by cases e; exact h rfl)
  | _,_,_,_,.isFalse h,_,_=>.isFalse (λe=>by cases e; exact h rfl)
  | _,_,_,_,_,.isFalse h,_=>.isFalse (λe=>by cases e; exact h rfl)
  | _,_,_,_,_,_,.isFalse h=>.isFalse (λe=>by cases e; exact h rfl)
def z9G:(x y:Fc)->Decidable (x=y)
 | ⟨a,e⟩,⟨a',e'⟩=>match zbef a a',decEq e e' with
  | .isTrue h1,.isTrue h2=>.isTrue (by subst h1 h2; rfl)
  | .isFalse h,_=>.isFalse (λe=>by cases e; exact h rfl)
  | _,.isFalse h=>.isFalse (λe=>by cases e; exact h rfl)
def z6f:(x y:List Fc)->Decidable (x=y)
 | [],[]=>.isTrue rfl
 | [],_::_=>.isFalse (by simp)
 | _::_,[]=>.isFalse (by simp)
 | x::r,y::s=>match z9G x y,z6f r s with
  | .isTrue h1,.isTrue h2=>.isTrue (by subst h1 h2; rfl)
  | .isFalse h,_=>.isFalse (λe=>by cases e; exact h rfl)
  | _,.isFalse h=>.isFalse (λe=>by cases e; exact h rfl)
def zbd8:(x y:Term)->Decidable (x=y)
 | ⟨a,e⟩,⟨a',e'⟩=>match decEq a a',z6f e e' with
  | .isTrue h1,.isTrue h2=>.isTrue (by subst h1 h2; rfl)
  | .isFalse h,_=>.isFalse (λe=>by cases e; exact h rfl)
  | _,.isFalse h=>.isFalse (λe=>by cases e; exact h rfl)
def zbcJ:(x y:List Term)->Decidable (x=y)
 | [],[]=>.isTrue rfl
 | [],_::_=>.isFalse (by simp)
 | _::_,[]=>.isFalse (by simp)
 | x::r,y::s=>match zbd8 x y,zbcJ r s with
  | .isTrue h1,.isTrue h2=>.isTrue (by subst h1 h2; rfl)
  | .isFalse h,_=>.isFalse (λe=>by cases e; exact h rfl)
  | _,.isFalse h=>.isFalse (λe=>by cases e; exact h rfl)
def zbd1:(x y:List (List Term))->Decidable (x=y)
 | [],[]=>.isTrue rfl
 | [],_::_=>.isFalse (by simp)
 | _::_,[]=>.isFalse (by simp)
 | x::r,y::s=>match zbcJ x y,zbd1 r s with
  | .isTrue h1,.isTrue h2=>.isTrue (by subst h1 h2; rfl)
  | .isFalse h,_=>.isFalse (λe=>by cases e; exact h rfl)
  | _,.isFalse h=>.isFalse (λe=>by cases e; exact h rfl)
def zbeg:(x y:Wd)->Decidable (x=y)
 | ⟨a,e⟩,⟨a',e'⟩=>match decEq a a',zbcJ e e' with
  | .isTrue h1,.isTrue h2=>.isTrue (by subst h1 h2; rfl)
  | .isFalse h,_=>.isFalse (λe=>by cases e; exact h rfl)
  | _,.isFalse h=>.isFalse (λe=>by cases e; exact h rfl)
def zbbV:(x y:List Wd)->Decidable (x=y)
 | [],[]=>.isTrue rfl
 | [],_::_=>.isFalse (by simp)
 | _::_,[]=>.isFalse (by simp)
 | x::r,y::s=>match zbeg x y,zbbV r s with
  | .isTrue h1,.isTrue h2=>.isTrue (by subst h1 h2; rfl)
  | .isFalse h,_=>.isFalse (λe=>by cases e; exact h rfl)
  | _,.isFalse h=>.isFalse (λe=>by cases e; exact h rfl)
end
instance:DecidableEq At:=zbef
instance:DecidableEq Fc:=z9G
instance:DecidableEq Term:=zbd8
instance:DecidableEq Wd:=zbeg
structure Bg where
 Row:RowID
 To:List Term
 deriving DecidableEq,Inhabited
abbrev yA:=List (List Term)
abbrev yB:=List (List RowID)
abbrev yC:=List Term
abbrev yD:=List Fc
abbrev yE:=List Wd
abbrev yF:=List RowID
abbrev yG:=List Bg
abbrev yH:=List Value
def ty:Nat->Type
 | 2=>Int
 | 3=>Int
 | 4=>Bool
 | 5=>Int
 | 9=>ByteArray
 | 22=>yC
 | 23=>yC
 | 26=>yD
 | 28=>Term
 | 35=>Int
 | 39=>yB
 | 43=>yF
 | 47=>yG
 | 49=>RowID
 | 51=>Bg
 | 60=>yA
 | 63=>yE
 | 65=>Value
 | 67=>At
 | 69=>Fc
 | 100=>Wd
 | 121=>Unit
 | 135=>Int
 | 138=>List Int
 | 144=>List ByteArray
 | 189=>List (yD)
 | _=>Unit
instance:(T:Nat)->Inhabited (ty T):=λT=>by
 unfold ty;split <;>infer_instance
def zbip:DT ty RowID:=zU0 (λx=>⟨x.1,x.2⟩) (λx=>(x.Table,x.Seq)) (λ_=>rfl) (zxf (zBb .i64) (zBb .i64))
def zbhD:DT ty Value:=zU0 (λx=>⟨x.1,x.2.1,x.2.2⟩) (λx=>(x.Kind,x.Int,x.Text)) (λ_=>rfl) (zxf (zBb .i64) (zxf (zBb .i64) (zbiH)))
def zbk4:DT ty At:=zU0 (λx=>⟨x.1,x.2.1,x.2.2.1,x.2.2.2.1,x.2.2.2.2.1,x.2.2.2.2.2.1,x.2.2.2.2.2.2⟩) (λx=>(x.Kind,x.Row,x.Ag,x.Func,x.Items,x.Op,x.Bd)) (λ_=>rfl) (zxf (zBb .i64) (zxf (zbip) (zxf (zEc 23) (zxf (zBb .i64) (zxf (zEc 100) (zxf (zBb .i64) (zbhD)))))))
def zbmi:DT ty Fc:=zU0 (λx=>⟨x.1,x.2⟩) (λx=>(x.At,x.Exp)) (λ_=>rfl) (zxf (zbk4) (zBb .i64))
def zbl4:DT ty Term:=zU0 (λx=>⟨x.1,x.2⟩) (λx=>(x.Cf,x.Fs)) (λ_=>rfl) (zxf (zBb .i64) (zEc 69))
def zblO:DT ty Wd:=zU0 (λx=>⟨x.1,x.2⟩) (λx=>(x.Value,x.Ann)) (λ_=>rfl) (zxf (zbhD) (zEc 28))
def zbl8:DT ty Bg:=zU0 (λx=>⟨x.1,x.2⟩) (λx=>(x.Row,x.To)) (λ_=>rfl) (zxf (zbip) (zEc 28))
def z7N:List ((T:Nat)×DT ty (ty T)):=[⟨2,(zBb .i64:DT ty Int)⟩,⟨3,(zBb .i64:DT ty Int)⟩,⟨4,(zbkY:DT ty Bool)⟩,⟨5,(zBb .u8:DT ty Int)⟩,⟨9,(zbiH:DT ty ByteArray)⟩,⟨22,(zEc 28:DT ty (yC))⟩,⟨23,(zEc 28:DT ty (yC))⟩,⟨26,(zEc 69:DT ty (yD))⟩,⟨28,(zbl4:DT ty Term)⟩,⟨35,(zBb .i64:DT ty Int)⟩,⟨39,(zEc 43:DT ty (yB))⟩,⟨43,(zEc 49:DT ty (yF))⟩,⟨47,(zEc 51:DT ty (yG))⟩,⟨49,(zbip:DT ty RowID)⟩,⟨51,(zbl8:DT ty Bg)⟩,⟨60,(zEc 23:DT ty (yA))⟩,⟨63,(zEc 100:DT ty (yE))⟩,⟨65,(zbhD:DT ty Value)⟩,⟨67,(zbk4:DT ty At)⟩,⟨69,(zbmi:DT ty Fc)⟩,⟨100,(zblO:DT ty Wd)⟩,⟨121,(zbmc:DT ty Unit)⟩,⟨135,(zBb .u64:DT ty Int)⟩,⟨138,(zEc 3:DT ty (List Int))⟩,⟨144,(zEc 9:DT ty (List ByteArray))⟩,⟨189,(zEc 26:DT ty (List (yD)))⟩]
def zbbb:List (Nat×TInfo):=[(2,⟨.int .i64,1,8,[.int .i64 (0)]⟩),
 (3,⟨.int .i64,1,8,[.int .i64 (0)]⟩),
 (4,⟨.bool,1,1,[.bool false]⟩),
 (5,⟨.int .u8,1,1,[.int .u8 (0)]⟩),
 (9,⟨.str,1,16,[.string ⟨#[]⟩]⟩),
 (22,⟨.slice 28,1,24,[.slice none 0 0]⟩),
 (23,⟨.slice 28,1,24,[.slice none 0 0]⟩),
 (26,⟨.slice 69,1,24,[.slice none 0 0]⟩),
 (28,⟨.struct [(0,2),(1,26)],2,32,[.int .i64 (0),.slice none 0 0]⟩),
 (35,⟨.int .i64,1,8,[.int .i64 (0)]⟩),
 (39,⟨.slice 43,1,24,[.slice none 0 0]⟩),
 (43,⟨.slice 49,1,24,[.slice none 0 0]⟩),
 (47,⟨.slice 51,1,24,[.slice none 0 0]⟩),
 (49,⟨.struct [(0,3),(1,3)],2,16,[.int .i64 (0),.int .i64 (0)]⟩),
 (51,⟨.struct [(0,49),(2,23)],3,40,[.int .i64 (0),.int .i64 (0),.slice none 0 0]⟩),
 (60,⟨.slice 23,1,24,[.slice none 0 0]⟩),
 (63,⟨.slice 100,1,24,[.slice none 0 0]⟩),
 (65,⟨.struct [(0,3),(1,2),(2,9)],3,32,[.int .i64 (0),.int .i64 (0),.string ⟨#[]⟩]⟩),
 (67,⟨.struct [(0,3),(1,49),(3,60),(4,3),(5,63),(6,3),(7,65)],10,120,[.int .i64 (0),.int .i64 (0),.int .i64 (0),.slice none 0 0,.int .i64 (0),.slice none 0 0,.int .i64 (0),.int .i64 (0),.int .i64 (0),.string ⟨#[]⟩]⟩),
 (69,⟨.struct [(0,67),(10,3)],11,128,[.int .i64 (0),.int .i64 (0),.int .i64 (0),.slice none 0 0,.int .i64 (0),.slice none 0 0,.int .i64 (0),.int .i64 (0),.int .i64 (0),.string ⟨#[]⟩,.int .i64 (0)]⟩),
 (100,⟨.struct [(0,65),(3,23)],4,56,[.int .i64 (0),.int .i64 (0),.string ⟨#[]⟩,.slice none 0 0]⟩),
 (121,⟨.map 9 3,1,8,[.map none]⟩),
 (135,⟨.int .u64,1,8,[.int .u64 (0)]⟩),
 (138,⟨.slice 3,1,24,[.slice none 0 0]⟩),
 (144,⟨.slice 9,1,24,[.slice none 0 0]⟩),
 (189,⟨.slice 26,1,24,[.slice none 0 0]⟩)]
def zY4:List (Nat×List TD):=[(49,[.int .i64,.int .i64]),(65,[.int .i64,.int .i64,.str])]
def inv (w:World):Prop:=Lib.TabIs Tryz.prog w "internal/strconv.uint64pow10" .u64 Lib.pow10Tab/\(∃ m,w.cell? ⟨0,0,none⟩=some (.int .i64 m))
theorem zbhu {n:String} {g:Nat} {w w':World} (hg:Tryz.prog.globalNamed n=some g) (h:w'.heap[g]? =w.heap[g]?):w'.var? Tryz.prog n=w.var? Tryz.prog n:=by
 unfold World.var?; rw [hg]; simp only [Option.bind_some,h]
theorem zbe5 (w w':World) (hi:inv w) (hb:∀ b,b<4->w'.heap[b]? =w.heap[b]?):inv w':=by
 obtain ⟨h1,⟨m,h2⟩⟩:=hi;refine ⟨(zbhu (g:=1) (by kernel_rfl) (hb 1 (by omega))).trans h1,⟨m, ?_⟩⟩
 rw [<- h2]; exact World.cell?_of_block (a:=⟨0,0,none⟩) (hb 0 (by omega))
def base:Cx ty:={ ti:=λT=>zbbb.lookup T,dflt:=λ_=>default,enc:=λT=>(zbbM z7N T).enc,dec:=λT=>(zbbM z7N T).dec,spec:=λ_=>none,io:=λ_=>[],eqs:=λT us vs=>match zY4.lookup T with | some ts=>zbq ts us vs | none=>none,nt:=0,head:=λ_=>[],out:=λ_ _=>[],loops:=λ_=>none,ng:=4,inv:=inv }
theorem zbfD:Tryz.prog.info? 2=some Tryz.t2:=by kernel_rfl
theorem zRI:Tryz.prog.info? 3=some Tryz.t3:=by kernel_rfl
theorem zblT:Tryz.prog.info? 4=some Tryz.t4:=by kernel_rfl
theorem zblI:Tryz.prog.info? 5=some Tryz.t5:=by kernel_rfl
theorem zbiD:Tryz.prog.info? 9=some Tryz.t9:=by kernel_rfl
theorem zbku:Tryz.prog.info? 22=some Tryz.t22:=by kernel_rfl
theorem zbbL:Tryz.prog.info? 23=some Tryz.t23:=by kernel_rfl
theorem zbf6:Tryz.prog.info? 26=some Tryz.t26:=by kernel_rfl
theorem zbln:Tryz.prog.info? 28=some Tryz.t28:=by kernel_rfl
theorem zblj:Tryz.prog.info? 35=some Tryz.t35:=by kernel_rfl
theorem zbkI:Tryz.prog.info? 39=some Tryz.t39:=by kernel_rfl
theorem zbls:Tryz.prog.info? 43=some Tryz.t43:=by kernel_rfl
theorem zbk5:Tryz.prog.info? 47=some Tryz.t47:=by kernel_rfl
theorem zbbo:Tryz.prog.info? 49=some Tryz.t49:=by kernel_rfl
theorem zblf:Tryz.prog.info? 51=some Tryz.t51:=by kernel_rfl
theorem zbf7:Tryz.prog.info? 60=some Tryz.t60:=by kernel_rfl
theorem zbgj:Tryz.prog.info? 63=some Tryz.t63:=by kernel_rfl
theorem zbbB:Tryz.prog.info? 65=some Tryz.t65:=by kernel_rfl
theorem zbgX:Tryz.prog.info? 67=some Tryz.t67:=by kernel_rfl
theorem zbka:Tryz.prog.info? 69=some Tryz.t69:=by kernel_rfl
theorem zbjW:Tryz.prog.info? 100=some Tryz.t100:=by kernel_rfl
theorem zbjg:Tryz.prog.info? 121=some Tryz.t121:=by kernel_rfl
theorem zbjo:Tryz.prog.info? 135=some Tryz.t135:=by kernel_rfl
theorem zbjb:Tryz.prog.info? 138=some Tryz.t138:=by kernel_rfl
theorem zbjT:Tryz.prog.info? 144=some Tryz.t144:=by kernel_rfl
theorem zbjP:Tryz.prog.info? 189=some Tryz.t189:=by kernel_rfl
theorem zbiU:∀ T i,zbbb.lookup T=some i->InfoOK Tryz.prog T i:=by
 intro T i h;have h:=zMn _ _ _ h;simp only [zbbb,qd,List.not_mem_nil,or_false,qb] at h;rcases h with ⟨rfl,rfl⟩ | ⟨rfl,rfl⟩ | ⟨rfl,rfl⟩ | ⟨rfl,rfl⟩ | ⟨rfl,rfl⟩ | ⟨rfl,rfl⟩ | ⟨rfl,rfl⟩ | ⟨rfl,rfl⟩ | ⟨rfl,rfl⟩ | ⟨rfl,rfl⟩ | ⟨rfl,rfl⟩ | ⟨rfl,rfl⟩ | ⟨rfl,rfl⟩ | ⟨rfl,rfl⟩ | ⟨rfl,rfl⟩ | ⟨rfl,rfl⟩ | ⟨rfl,rfl⟩ | ⟨rfl,rfl⟩ | ⟨rfl,rfl⟩ | ⟨rfl,rfl⟩ | ⟨rfl,rfl⟩ | ⟨rfl,rfl⟩ | ⟨rfl,rfl⟩ | ⟨rfl,rfl⟩ | ⟨rfl,rfl⟩ | ⟨rfl,rfl⟩
 ·exact ⟨Tryz.t2,_,_,zbfD,underlying2,rfl,rfl,rfl,rfl,rfl,⟨by simp [zcz],λ_=>rfl⟩,rfl⟩
 ·exact ⟨Tryz.t3,_,_,zRI,underlying3,rfl,rfl,rfl,rfl,rfl,⟨by simp [zcz],λ_=>rfl⟩,rfl⟩
 ·exact ⟨Tryz.t4,_,_,zblT,underlying4,rfl,rfl,rfl,rfl,rfl,⟨by simp [zcz],λ_=>rfl⟩,rfl⟩
 ·exact ⟨Tryz.t5,_,_,zblI,underlying5,rfl,rfl,rfl,rfl,rfl,⟨by simp [zcz],λ_=>rfl⟩,rfl⟩
 ·exact ⟨Tryz.t9,_,_,zbiD,underlying9,rfl,rfl,rfl,rfl,rfl,⟨by simp [zcz],λ_=>rfl⟩,rfl⟩
 ·exact ⟨Tryz.t22,_,_,zbku,underlying22,rfl,rfl,rfl,rfl,rfl,⟨by simp [zcz],λ_=>rfl⟩,rfl⟩
 ·exact ⟨Tryz.t23,_,_,zbbL,underlying23,rfl,rfl,rfl,rfl,rfl,⟨by simp [zcz],λ_=>rfl⟩,rfl⟩
 ·exact ⟨Tryz.t26,_,_,zbf6,underlying26,rfl,rfl,rfl,rfl,rfl,⟨by simp [zcz],λ_=>rfl⟩,rfl⟩
 ·exact ⟨Tryz.t28,_,_,zbln,underlying28,rfl,rfl,rfl,rfl,rfl,⟨by simp [zcz],λh=>by cases h⟩,⟨_,rfl,rfl,λf hf=>by
   simp only [qd,List.not_mem_nil,or_false] at hf;rcases hf with rfl | rfl
   ·exact Option.isSome_iff_exists.2 ⟨_,zbfD⟩
   ·exact Option.isSome_iff_exists.2 ⟨_,zbf6⟩⟩⟩
 ·exact ⟨Tryz.t35,_,_,zblj,underlying35,rfl,rfl,rfl,rfl,rfl,⟨by simp [zcz],λ_=>rfl⟩,rfl⟩
 ·exact ⟨Tryz.t39,_,_,zbkI,underlying39,rfl,rfl,rfl,rfl,rfl,⟨by simp [zcz],λ_=>rfl⟩,rfl⟩
 ·exact ⟨Tryz.t43,_,_,zbls,underlying43,rfl,rfl,rfl,rfl,rfl,⟨by simp [zcz],λ_=>rfl⟩,rfl⟩
 ·exact ⟨Tryz.t47,_,_,zbk5,underlying47,rfl,rfl,rfl,rfl,rfl,⟨by simp [zcz],λ_=>rfl⟩,rfl⟩
 ·exact ⟨Tryz.t49,_,_,zbbo,underlying49,rfl,rfl,rfl,rfl,rfl,⟨by simp [zcz],λh=>by cases h⟩,⟨_,rfl,rfl,λf hf=>by
   simp only [qd,List.not_mem_nil,or_false] at hf;rcases hf with rfl | rfl
   ·exact Option.isSome_iff_exists.2 ⟨_,zRI⟩
   ·exact Option.isSome_iff_exists.2 ⟨_,zRI⟩⟩⟩
 ·exact ⟨Tryz.t51,_,_,zblf,underlying51,rfl,rfl,rfl,rfl,rfl,⟨by simp [zcz],λh=>by cases h⟩,⟨_,rfl,rfl,λf hf=>by
   simp only [qd,List.not_mem_nil,or_false] at hf;rcases hf with rfl | rfl
   ·exact Option.isSome_iff_exists.2 ⟨_,zbbo⟩
   ·exact Option.isSome_iff_exists.2 ⟨_,zbbL⟩⟩⟩
 ·exact ⟨Tryz.t60,_,_,zbf7,underlying60,rfl,rfl,rfl,rfl,rfl,⟨by simp [zcz],λ_=>rfl⟩,rfl⟩
 ·exact ⟨Tryz.t63,_,_,zbgj,underlying63,rfl,rfl,rfl,rfl,rfl,⟨by simp [zcz],λ_=>rfl⟩,rfl⟩
 ·exact ⟨Tryz.t65,_,_,zbbB,underlying65,rfl,rfl,rfl,rfl,rfl,⟨by simp [zcz],λh=>by cases h⟩,⟨_,rfl,rfl,λf hf=>by
   simp only [qd,List.not_mem_nil,or_false] at hf;rcases hf with rfl | rfl | rfl
   ·exact Option.isSome_iff_exists.2 ⟨_,zRI⟩
   ·exact Option.isSome_iff_exists.2 ⟨_,zbfD⟩
   ·exact Option.isSome_iff_exists.2 ⟨_,zbiD⟩⟩⟩
 ·exact ⟨Tryz.t67,_,_,zbgX,underlying67,rfl,rfl,rfl,rfl,rfl,⟨by simp [zcz],λh=>by cases h⟩,⟨_,rfl,rfl,λf hf=>by
   simp only [qd,List.not_mem_nil,or_false] at hf;rcases hf with rfl | rfl | rfl | rfl | rfl | rfl | rfl
   ·exact Option.isSome_iff_exists.2 ⟨_,zRI⟩
   ·exact Option.isSome_iff_exists.2 ⟨_,zbbo⟩
   ·exact Option.isSome_iff_exists.2 ⟨_,zbf7⟩
   ·exact Option.isSome_iff_exists.2 ⟨_,zRI⟩
   ·exact Option.isSome_iff_exists.2 ⟨_,zbgj⟩
   ·exact Option.isSome_iff_exists.2 ⟨_,zRI⟩
   ·exact Option.isSome_iff_exists.2 ⟨_,zbbB⟩⟩⟩
 ·exact ⟨Tryz.t69,_,_,zbka,underlying69,rfl,rfl,rfl,rfl,rfl,⟨by simp [zcz],λh=>by cases h⟩,⟨_,rfl,rfl,λf hf=>by
   simp only [qd,List.not_mem_nil,or_false] at hf;rcases hf with rfl | rfl
   ·exact Option.isSome_iff_exists.2 ⟨_,zbgX⟩
   ·exact Option.isSome_iff_exists.2 ⟨_,zRI⟩⟩⟩
 ·exact ⟨Tryz.t100,_,_,zbjW,underlying100,rfl,rfl,rfl,rfl,rfl,⟨by simp [zcz],λh=>by cases h⟩,⟨_,rfl,rfl,λf hf=>by
   simp only [qd,List.not_mem_nil,or_false] at hf;rcases hf with rfl | rfl
   ·exact Option.isSome_iff_exists.2 ⟨_,zbbB⟩
   ·exact Option.isSome_iff_exists.2 ⟨_,zbbL⟩⟩⟩
 ·exact ⟨Tryz.t121,_,_,zbjg,underlying121,rfl,rfl,rfl,rfl,rfl,⟨by simp [zcz],λ_=>rfl⟩,rfl⟩
 ·exact ⟨Tryz.t135,_,_,zbjo,underlying135,rfl,rfl,rfl,rfl,rfl,⟨by simp [zcz],λ_=>rfl⟩,rfl⟩
 ·exact ⟨Tryz.t138,_,_,zbjb,underlying138,rfl,rfl,rfl,rfl,rfl,⟨by simp [zcz],λ_=>rfl⟩,rfl⟩
 ·exact ⟨Tryz.t144,_,_,zbjT,underlying144,rfl,rfl,rfl,rfl,rfl,⟨by simp [zcz],λ_=>rfl⟩,rfl⟩
 ·exact ⟨Tryz.t189,_,_,zbjP,underlying189,rfl,rfl,rfl,rfl,rfl,⟨by simp [zcz],λ_=>rfl⟩,rfl⟩
theorem zbh2:∀ T us vs b,(match zY4.lookup T with | some ts=>zbq ts us vs | none=>none)=some b->∀ w,zbfV Tryz.prog T us vs b w:=by
 intro T us vs b h w;split at h
 ·rename_i ts hl;have hl:=zMn _ _ _ hl;simp only [zY4,qd,List.not_mem_nil,or_false,qb] at hl;rcases hl with ⟨rfl,rfl⟩ | ⟨rfl,rfl⟩
  ·refine z7h _ _ underlying49 (by kernel_rfl) (by kernel_rfl) rfl ?_ h w
   intro j f t hj ht;rcases j with _ | j
   ·simp at hj ht; subst hj ht; exact ⟨rfl,by decide,_,underlying3,rfl⟩
   rcases j with _ | j
   ·simp at hj ht; subst hj ht; exact ⟨rfl,by decide,_,underlying3,rfl⟩
   simp at hj
  ·refine z7h _ _ underlying65 (by kernel_rfl) (by kernel_rfl) rfl ?_ h w
   intro j f t hj ht;rcases j with _ | j
   ·simp at hj ht; subst hj ht; exact ⟨rfl,by decide,_,underlying3,rfl⟩
   rcases j with _ | j
   ·simp at hj ht; subst hj ht; exact ⟨rfl,by decide,_,underlying2,rfl⟩
   rcases j with _ | j
   ·simp at hj ht; subst hj ht; exact ⟨rfl,by decide,_,underlying9,rfl⟩
   simp at hj
 ·cases h
theorem zbhi:∀ T us vs,base.eqs T us us=some true->base.eqs T vs vs=some true->base.eqs T us vs=some (zAo us vs)/\(zAo us vs=true->us=vs)/\∀ u∈us,∀ n,Instr.sameBits n u u=true:=by
 intro T us vs h1 h2;simp only [base] at h1 h2 ⊢;cases hl:zY4.lookup T with
 | none=>rw [hl] at h1; cases h1
 | some ts=>rw [hl] at h1 h2; exact z7Z ts us vs h1 h2
theorem zbhk:∀ T us b,base.eqs T us us=some b->b=true:=by
 intro T us b h;simp only [base] at h;cases hl:zY4.lookup T with
 | none=>rw [hl] at h; cases h
 | some ts=>rw [hl] at h; exact z3z ts us b h
abbrev SdP:=Sound Tryz.prog base
theorem zkn:CxOK Tryz.prog base:=⟨zbiU,λT x=>by rw [show zx base T=_ from (zbb6 z7N zbbb rfl T).symm]; exact DT.len _ x,λT x c h=>by have:=DT.cell _ _ c h; revert this; cases c <;>exact id,λT cs x h F w us hr=>DT.ok _ base F w us cs x h hr,zbh2,zbhi,zbhk,zbe5⟩
def zb1:Cx ty:={ base with dr:=false }
theorem zO5:CxOK Tryz.prog zb1:=CxOK.cg (cx:=base) (cx':=zb1) ⟨rfl,rfl,rfl,rfl,rfl,rfl⟩ zkn
theorem zGC:Tryz.prog.follows .mixedOrders=true:=by kernel_rfl
theorem sT {cx':Cx ty} {α ρ:Type} (hspec:∀ g s,cx'.spec g=some s->SdP g s) {f:Nat} {fn:Func} (hent:∀ args w,(callFunc f args).run Tryz.prog w=.ok (.enter f args) w) (hf:Tryz.prog.funcs[f]? =some fn) (hl:zjx cx' (body fn)) (sg:Sig:=⟨[.pure],[]⟩) {A:AL base α} {res:ρ->ARes ty} {W:α->Wy0 ρ} {z:ρ}
  (hb:fn.body=some (body fn):=by kernel_rfl)
  (hrun:∀ x,zgU cx' fn (body fn) sg (A.enc x)=(W x).ev noH (λr=>some (res r)) none:=by intro _; kernel_rfl)
  (hchk:∀ x,(Nat.ble (A.enc x).length fn.ntmps&&zPj (body fn) (A.enc x) sg.upd)=true:=by intro _; kernel_rfl) (hsame:base.Same cx':=by exact zbcH):
  SdP f (zi A λx=>(((W x).fin z).1,res ((W x).fin z).2)):=sW zGC zkn hsame hspec hent hf hl sg hb hrun hchk
theorem sU {cx':Cx ty} {α ρ:Type} (hspec:∀ g s,cx'.spec g=some s->Sound Tryz.prog zb1 g s) {f:Nat} {fn:Func} (hent:∀ args w,(callFunc f args).run Tryz.prog w=.ok (.enter f args) w) (hf:Tryz.prog.funcs[f]? =some fn) (hl:zjx cx' (body fn)) (sg:Sig:=⟨[.pure],[]⟩) {A:AL zb1 α} {res:ρ->ARes ty} {W:α->Wy0 ρ} {z:ρ}
  (hb:fn.body=some (body fn):=by kernel_rfl)
  (hrun:∀ x,zgU cx' fn (body fn) sg (A.enc x)=(W x).ev noH (λr=>some (res r)) none:=by intro _; kernel_rfl)
  (hchk:∀ x,(Nat.ble (A.enc x).length fn.ntmps&&zPj (body fn) (A.enc x) sg.upd)=true:=by intro _; kernel_rfl) (hsame:zb1.Same cx':=by exact zbcH):
  Sound Tryz.prog zb1 f (zi A λx=>(((W x).fin z).1,res ((W x).fin z).2)):=sW zGC zO5 hsame hspec hent hf hl sg hb hrun hchk
end Go.Proofs.YtljlfiomikifjaaGreatDoor
/- What is read of an argument, as typed data. -/
namespace Go.Proofs.YtljlfiomikifjaaGreatDoor
open Go Go.Ab
open Go.Proofs.Tryz
def wf2 (x:Int):Prop:=(Lit.int .i64 x).wf=true
def wf3 (x:Int):Prop:=(Lit.int .i64 x).wf=true
def wf4 (x:Bool):Prop:=True
def wf5 (x:Int):Prop:=(Lit.int .u8 x).wf=true
def wf9 (x:ByteArray):Prop:=ByteArray.size x<=zbl
def zZh (x:RowID):Prop:=wf3 x.Table/\wf3 x.Seq
def zVI (x:Value):Prop:=wf3 x.Kind/\wf2 x.Int/\wf9 x.Text
mutual
def zgN:At->Prop
 | ⟨k,r,a,f,i,o,b⟩=>wf3 k/\zZh r/\(zzV a/\a.length<=zbl)/\wf3 f/\(zug i/\i.length<=zbl)/\wf3 o/\zVI b
def zzs:Fc->Prop
 | ⟨a,e⟩=>zgN a/\wf3 e
def zuA:yD->Prop
 | []=>True
 | x::r=>zzs x/\zuA r
def zEJ:Term->Prop
 | ⟨c,f⟩=>wf2 c/\(zuA f/\f.length<=zbl)
def zgX:yC->Prop
 | []=>True
 | x::r=>zEJ x/\zgX r
def zzV:yA->Prop
 | []=>True
 | x::r=>(zgX x/\x.length<=zbl)/\zzV r
def zLm:Wd->Prop
 | ⟨v,a⟩=>zVI v/\(zgX a/\a.length<=zbl)
def zug:yE->Prop
 | []=>True
 | x::r=>zLm x/\zug r
end
theorem zPG:∀ l:yD,(∀ x∈l,zzs x)->zuA l
 | [],_=>by unfold zuA; trivial
 | x::r,h=>by unfold zuA; exact ⟨h x (by simp),zPG r λy hy=>h y (by simp [hy])⟩
theorem zIV:∀ l:yC,(∀ x∈l,zEJ x)->zgX l
 | [],_=>by unfold zgX; trivial
 | x::r,h=>by unfold zgX; exact ⟨h x (by simp),zIV r λy hy=>h y (by simp [hy])⟩
theorem z0a:∀ l:yA,(∀ x∈l,zgX x/\x.length<=zbl)->zzV l
 | [],_=>by unfold zzV; trivial
 | x::r,h=>by unfold zzV; exact ⟨h x (by simp),z0a r λy hy=>h y (by simp [hy])⟩
theorem zVA:∀ l:yE,(∀ x∈l,zLm x)->zug l
 | [],_=>by unfold zug; trivial
 | x::r,h=>by unfold zug; exact ⟨h x (by simp),zVA r λy hy=>h y (by simp [hy])⟩
def zbbF (x:yC):Prop:=zgX x/\List.length x<=zbl
def zbl3 (x:yD):Prop:=zuA x/\List.length x<=zbl
def zbme (x:Term):Prop:=zEJ x
def zblX (x:yA):Prop:=zzV x/\List.length x<=zbl
def zblW (x:yE):Prop:=zug x/\List.length x<=zbl
def zbmd (x:At):Prop:=zgN x
def zblY (x:Fc):Prop:=zzs x
def zblG (x:Wd):Prop:=zLm x
def zblb (x:yF):Prop:=(∀ y∈x,zZh y)/\List.length x<=zbl
def zbma (x:yB):Prop:=(∀ y∈x,zblb y)/\List.length x<=zbl
def zble (x:Bg):Prop:=zZh x.Row/\zbbF x.To
def zbl7 (x:yG):Prop:=(∀ y∈x,zble y)/\List.length x<=zbl
def wf (T:Nat):ty T->Prop:=match T with
 | 2=>wf2
 | 3=>wf3
 | 4=>wf4
 | 5=>wf5
 | 9=>wf9
 | 23=>zbbF
 | 26=>zbl3
 | 28=>zbme
 | 39=>zbma
 | 43=>zblb
 | 47=>zbl7
 | 49=>zZh
 | 51=>zble
 | 60=>zblX
 | 63=>zblW
 | 65=>zVI
 | 67=>zbmd
 | 69=>zblY
 | 100=>zblG
 | _=>λ_=>True
theorem zbgR:zDr Tryz.prog base wf 2:=z9Z underlying2 (λn=>n) (λ_=>rfl) (λ_ h=>h)
theorem zOn:zDr Tryz.prog base wf 3:=z9Z underlying3 (λn=>n) (λ_=>rfl) (λ_ h=>h)
theorem zbkr:zDr Tryz.prog base wf 9:=zbf3 underlying9 (λn=>n) (λ_=>rfl) (λ_ h=>h)
theorem zbi2:zDr Tryz.prog base wf 49:=by
 intro H en w sp held fuel cs y h hz;obtain ⟨xs,n,_,hy,hl,hlen,hf⟩:=DataW.trod_struct underlying49 h;have hs:=zrd underlying49 hy hz;obtain ⟨x0,h0,w0⟩:=zEG (off:=0) zOn (by kernel_rfl) hlen hf hs 0 _ rfl rfl rfl
 obtain ⟨x1,h1,w1⟩:=zEG (off:=1) zOn (by kernel_rfl) hlen hf hs 1 _ rfl rfl rfl
 have hl:cs.length=2:=hl.trans (by kernel_rfl)
 have:=zkQ h0 (zIP h1 hl);exact ⟨(⟨x0,x1⟩:RowID),this,⟨w0,w1⟩⟩
theorem zbet:zDr Tryz.prog base wf 65:=by
 intro H en w sp held fuel cs y h hz;obtain ⟨xs,n,_,hy,hl,hlen,hf⟩:=DataW.trod_struct underlying65 h;have hs:=zrd underlying65 hy hz;obtain ⟨x0,h0,w0⟩:=zEG (off:=0) zOn (by kernel_rfl) hlen hf hs 0 _ rfl rfl rfl
 obtain ⟨x1,h1,w1⟩:=zEG (off:=1) zbgR (by kernel_rfl) hlen hf hs 1 _ rfl rfl rfl
 obtain ⟨x2,h2,w2⟩:=zEG (off:=2) zbkr (by kernel_rfl) hlen hf hs 2 _ rfl rfl rfl
 have hl:cs.length=3:=hl.trans (by kernel_rfl)
 have:=zkQ h0 (zkQ h1 (zIP h2 hl));exact ⟨(⟨x0,x1,x2⟩:Value),this,⟨w0,w1,w2⟩⟩
theorem zbb5:∀ m,zuW Tryz.prog base wf m 23/\zuW Tryz.prog base wf m 26/\zuW Tryz.prog base wf m 28/\zuW Tryz.prog base wf m 60/\zuW Tryz.prog base wf m 63/\zuW Tryz.prog base wf m 67/\zuW Tryz.prog base wf m 69/\zuW Tryz.prog base wf m 100
 | 0=>⟨zra,zra,zra,zra,zra,zra,zra,zra⟩
 | m+1=>by
  obtain ⟨h23,h26,h28,h60,h63,h67,h69,h100⟩:=zbb5 m;refine ⟨?_, ?_, ?_, ?_, ?_, ?_, ?_, ?_⟩
  ·exact zHH zkn underlying23 (by kernel_rfl) (by decide) (λl=>l) (λ_=>rfl) (of_decide_eq_true (by kernel_rfl)) h28 (λl h h2=>⟨zIV l h,h2⟩)
  ·exact zHH zkn underlying26 (by kernel_rfl) (by decide) (λl=>l) (λ_=>rfl) (of_decide_eq_true (by kernel_rfl)) h69 (λl h h2=>⟨zPG l h,h2⟩)
  ·intro H en w sp held fuel cs y hfu h hz;obtain ⟨xs,n,hn,hy,hl,hlen,hf⟩:=DataW.trod_struct underlying28 h;have hs:=zrd underlying28 hy hz;have hn:n<=m:=by omega
   obtain ⟨x0,hx0,w0⟩:=zgg (off:=0) (zbgR.at m) (by kernel_rfl) hn hlen hf hs 0 _ rfl rfl rfl
   obtain ⟨x1,hx1,w1⟩:=zgg (off:=1) h26 (by kernel_rfl) hn hlen hf hs 1 _ rfl rfl rfl
   have hl:cs.length=2:=hl.trans (by kernel_rfl)
   have:=zkQ hx0 (zIP hx1 hl);exact ⟨(⟨x0,x1⟩:Term),this,by show zEJ (⟨x0,x1⟩:Term); unfold zEJ; exact ⟨w0,w1⟩⟩
  ·exact zHH zkn underlying60 (by kernel_rfl) (by decide) (λl=>l) (λ_=>rfl) (of_decide_eq_true (by kernel_rfl)) h23 (λl h h2=>⟨z0a l h,h2⟩)
  ·exact zHH zkn underlying63 (by kernel_rfl) (by decide) (λl=>l) (λ_=>rfl) (of_decide_eq_true (by kernel_rfl)) h100 (λl h h2=>⟨zVA l h,h2⟩)
  ·intro H en w sp held fuel cs y hfu h hz;obtain ⟨xs,n,hn,hy,hl,hlen,hf⟩:=DataW.trod_struct underlying67 h;have hs:=zrd underlying67 hy hz;have hn:n<=m:=by omega
   obtain ⟨x0,hx0,w0⟩:=zgg (off:=0) (zOn.at m) (by kernel_rfl) hn hlen hf hs 0 _ rfl rfl rfl
   obtain ⟨x1,hx1,w1⟩:=zgg (off:=1) (zbi2.at m) (by kernel_rfl) hn hlen hf hs 1 _ rfl rfl rfl
   obtain ⟨x2,hx2,w2⟩:=zgg (off:=3) h60 (by kernel_rfl) hn hlen hf hs 2 _ rfl rfl rfl
   obtain ⟨x3,hx3,w3⟩:=zgg (off:=4) (zOn.at m) (by kernel_rfl) hn hlen hf hs 3 _ rfl rfl rfl
   obtain ⟨x4,hx4,w4⟩:=zgg (off:=5) h63 (by kernel_rfl) hn hlen hf hs 4 _ rfl rfl rfl
   obtain ⟨x5,hx5,w5⟩:=zgg (off:=6) (zOn.at m) (by kernel_rfl) hn hlen hf hs 5 _ rfl rfl rfl
   obtain ⟨x6,hx6,w6⟩:=zgg (off:=7) (zbet.at m) (by kernel_rfl) hn hlen hf hs 6 _ rfl rfl rfl
   have hl:cs.length=10:=hl.trans (by kernel_rfl)
   have:=zkQ hx0 (zkQ hx1 (zkQ hx2 (zkQ hx3 (zkQ hx4 (zkQ hx5 (zIP hx6 hl))))));exact ⟨(⟨x0,x1,x2,x3,x4,x5,x6⟩:At),this,by show zgN (⟨x0,x1,x2,x3,x4,x5,x6⟩:At); unfold zgN; exact ⟨w0,w1,w2,w3,w4,w5,w6⟩⟩
  ·intro H en w sp held fuel cs y hfu h hz;obtain ⟨xs,n,hn,hy,hl,hlen,hf⟩:=DataW.trod_struct underlying69 h;have hs:=zrd underlying69 hy hz;have hn:n<=m:=by omega
   obtain ⟨x0,hx0,w0⟩:=zgg (off:=0) h67 (by kernel_rfl) hn hlen hf hs 0 _ rfl rfl rfl
   obtain ⟨x1,hx1,w1⟩:=zgg (off:=10) (zOn.at m) (by kernel_rfl) hn hlen hf hs 1 _ rfl rfl rfl
   have hl:cs.length=11:=hl.trans (by kernel_rfl)
   have:=zkQ hx0 (zIP hx1 hl);exact ⟨(⟨x0,x1⟩:Fc),this,by show zzs (⟨x0,x1⟩:Fc); unfold zzs; exact ⟨w0,w1⟩⟩
  ·intro H en w sp held fuel cs y hfu h hz;obtain ⟨xs,n,hn,hy,hl,hlen,hf⟩:=DataW.trod_struct underlying100 h;have hs:=zrd underlying100 hy hz;have hn:n<=m:=by omega
   obtain ⟨x0,hx0,w0⟩:=zgg (off:=0) (zbet.at m) (by kernel_rfl) hn hlen hf hs 0 _ rfl rfl rfl
   obtain ⟨x1,hx1,w1⟩:=zgg (off:=3) h23 (by kernel_rfl) hn hlen hf hs 1 _ rfl rfl rfl
   have hl:cs.length=4:=hl.trans (by kernel_rfl)
   have:=zkQ hx0 (zIP hx1 hl);exact ⟨(⟨x0,x1⟩:Wd),this,by show zLm (⟨x0,x1⟩:Wd); unfold zLm; exact ⟨w0,w1⟩⟩
theorem zbj0:zDr Tryz.prog base wf 23:=zbgZ λm=>(zbb5 m).1
def zSM (r:Int):ARes ty:=⟨[.pure (.lit (.int .i64 r))],[]⟩
def zWy:AL base (yC×yC×Unit):=ze (zf (vSl 28)) (ze (zf (vSl 28)) zu)
def zeP (F:yC->yC->Bool×Int):Ab.Spec ty:=zi zWy λx=>((F x.1 x.2.1).1,zSM (F x.1 x.2.1).2)
def zQk:AL base (Term×Term×Unit):=ze (zf (zcK 28)) (ze (zf (zcK 28)) zu)
def zgQ (F:Term->Term->Bool×Int):Ab.Spec ty:=zi zQk λx=>((F x.1 x.2.1).1,zSM (F x.1 x.2.1).2)
def zKk:AL base (Fc×Fc×Unit):=ze (zf (zcK 69)) (ze (zf (zcK 69)) zu)
def ze7 (F:Fc->Fc->Bool×Int):Ab.Spec ty:=zi zKk λx=>((F x.1 x.2.1).1,zSM (F x.1 x.2.1).2)
def zNV:AL base (At×At×Unit):=ze (zf (zcK 67)) (ze (zf (zcK 67)) zu)
def zhZ (F:At->At->Bool×Int):Ab.Spec ty:=zi zNV λx=>((F x.1 x.2.1).1,zSM (F x.1 x.2.1).2)
def zNd:AL base (Wd×Wd×Unit):=ze (zf (zcK 100)) (ze (zf (zcK 100)) zu)
def zeQ (F:Wd->Wd->Bool×Int):Ab.Spec ty:=zi zNd λx=>((F x.1 x.2.1).1,zSM (F x.1 x.2.1).2)
def zj1:AL base (yC×yC×Unit×Unit):=ze (zf (vSl 28)) (ze (zf (vSl 28)) (ze (zf (vFn 137 zb5)) zu))
def zbX (F:yC->yC->Bool×Int):Ab.Spec ty:=zi zj1 λx=>((F x.1 x.2.1).1,zSM (F x.1 x.2.1).2)
def zkz:AL base (yD×yD×Unit×Unit):=ze (zf (vSl 69)) (ze (zf (vSl 69)) (ze (zf (vFn 119 zb5)) zu))
def zb3 (F:yD->yD->Bool×Int):Ab.Spec ty:=zi zkz λx=>((F x.1 x.2.1).1,zSM (F x.1 x.2.1).2)
def zgy:AL base (yA×yA×Unit×Unit):=ze (zf (vSl 23)) (ze (zf (vSl 23)) (ze (zf (vFn 67 zb5)) zu))
def zbv (F:yA->yA->Bool×Int):Ab.Spec ty:=zi zgy λx=>((F x.1 x.2.1).1,zSM (F x.1 x.2.1).2)
def zia:AL base (yE×yE×Unit×Unit):=ze (zf (vSl 100)) (ze (zf (vSl 100)) (ze (zf (vFn 124 zb5)) zu))
def zbJ (F:yE->yE->Bool×Int):Ab.Spec ty:=zi zia λx=>((F x.1 x.2.1).1,zSM (F x.1 x.2.1).2)
def zQi (zO:yC->yC->Bool×Int) (zQ:Term->Term->Bool×Int):=zbr base 8 [(136,(zbX zO)),(137,(zgQ zQ))]
def zE0 (zO:yC->yC->Bool×Int) (zQ:Term->Term->Bool×Int) (a:yC) (b:yC):Wy0 (Int):=.bn (zO a b) λr0=>.k r0
def zqm (zO:yC->yC->Bool×Int) (zQ:Term->Term->Bool×Int) (a:yC) (b:yC):=(zE0 zO zQ a b).fin default
theorem zMo (zO:yC->yC->Bool×Int) (zQ:Term->Term->Bool×Int) (zju:SdP 136 (zbX zO)) (zqV:SdP 137 (zgQ zQ)):SdP 67 (zeP (zqm zO zQ)):=
 sT (cx':=(zQi zO zQ)) (zk ⟨zju,zqV,trivial⟩) call67 func67 (lOK aN)
def z0Q:=zbr base 6 []
def zMz (x_:Int):Wy0 (Bool):=.k (x_ != x_)
def zpq (x_:Int):=(zMz x_).fin default
def zYq (r:Bool):ARes ty:=⟨[.pure (.lit (.bool r))],[]⟩
def z2V:AL base (Int×Unit):=ze (zf zfh) zu
def zHI:=zi z2V λx=>((zpq x.1).1,zYq (zpq x.1).2)
theorem zUV:SdP 166 zHI:=
 sT (cx':=z0Q) (zk trivial) call166 func166 (lOK aN)
def zWe:=zbr base 20 [(166,zHI)]
def zIy (x_:Int) (y_:Int):Wy0 (Int):=.i ((zpq x_).2) (.i ((zpq y_).2) (.k 0) (.k (-1:Int))) (.i ((zpq y_).2) (.k 1) (.i (decide (x_<y_)) (.k (-1:Int)) (.i (decide (x_>y_)) (.k 1) (.k 0))))
def zjZ (x_:Int) (y_:Int):=(zIy x_ y_).fin default
def zYl:AL base (Int×Int×Unit):=ze (zf zfh) (ze (zf zfh) zu)
def znT:=zi zYl λx=>((zjZ x.1 x.2.1).1,zSM (zjZ x.1 x.2.1).2)
theorem ztw:SdP 138 znT:=
 sT (cx':=zWe) (zk ⟨zUV,trivial⟩) call138 func138 (lOK aN)
abbrev zHe:=Int×List Int×Int×Int×Unit
def zLO (zero:Int) (t6:List Int) (t7:Int) (t8:Int):Wy zHe Unit (Int⊕Int):=.i (decide (t8<t7)) (.i (decide (0<=t8)&&decide (t8<Int.ofNat t6.length)) (.i (t6.getD t8.toNat default != zero) (.k (.inl (t6.getD t8.toNat default))) (.h (zero,t6,t7,(IntKind.i64.wrap (t8+1)),()) ())) .d) (.k (.inr zero))
def zXt (x:zHe) (y:Unit):=zLO x.1 x.2.1 x.2.2.1 x.2.2.2.1
def zLL (n:Nat) (zero:Int) (t6:List Int) (t7:Int) (t8:Int):=zC (zXt) (.inl default) n (zero,t6,t7,t8,()) ()
def z82 (r:Int⊕Int):LTree ty:=.ite (isL r) (.done .ret [.lit (.int .i64 (getL r))] []) (.done (.exit 0) [.lit (.int .i64 (getR r))] [])
def zbam:LL ty zHe:=za zj (za (lSl 3) (za zj (za zj zl)))
def zba6:BL ty (Unit):=zbd
def z85 (x:zHe) (y:Unit):Nat:=(Int.toNat x.1+x.2.1.length+Int.toNat x.2.2.1+Int.toNat x.2.2.2.1+1)
def zW6:=zbV base 18 [] [] [(3,(kpL [3,6,7,8]))] [(3,1,(kpL [3])),(3,0,(kpL [2]))] [(3,spW zbam zba6 (zXt) (.inl default) z82 z85)] []
theorem z8z:zF zW6 (lp (body f120) 0):=zq (id:=3) (hl:=rfl)
def zYK (vals:List Int):Wy0 (Int):=.bn (zLL (Int.toNat 0+vals.length+(Int.ofNat vals.length).toNat +Int.toNat 0+1) 0 vals (Int.ofNat vals.length) 0) λr0=>.i (isL r0) (.k (getL r0)) (.k (getR r0))
def zn2 (vals:List Int):=(zYK vals).fin default
def zbbp:AL base (List Int×Unit):=ze (zf (vSl 3)) zu
def zlZ:=zi zbbp λx=>((zn2 x.1).1,zSM (zn2 x.1).2)
theorem znL:SdP 120 zlZ:=
 sT (cx':=zW6) (zk trivial) call120 func120 (lOK (aC z8z aN))
def zLV (zdc:Term->Term->Bool×Int):=zbr base 15 [(63,(zgQ zdc)),(120,zlZ),(138,znT)]
def zA3 (zdc:Term->Term->Bool×Int) (x_:Term) (y_:Term):Wy0 (Int):=.bn (zdc x_ y_) λr2=>.bn (zjZ x_.Cf y_.Cf) λr1=>.bn (zn2 [r2,r1]) λr0=>.k r0
def zm3 (zdc:Term->Term->Bool×Int) (x_:Term) (y_:Term):=(zA3 zdc x_ y_).fin default
theorem zIb (zdc:Term->Term->Bool×Int) (zKf:SdP 63 (zgQ zdc)):SdP 137 (zgQ (zm3 zdc)):=
 sT (cx':=(zLV zdc)) (zk ⟨zKf,znL,ztw,trivial⟩) call137 func137 (lOK aN)
def z4i:=zbr base 6 []
def zRz (x_:Int):Wy0 (Bool):=.k (x_ != x_)
def zue (x_:Int):=(zRz x_).fin default
def zKM:=zi z2V λx=>((zue x.1).1,zYq (zue x.1).2)
theorem zX7:SdP 159 zKM:=
 sT (cx':=z4i) (zk trivial) call159 func159 (lOK aN)
def zYI:=zbr base 20 [(159,zKM)]
def zMU (x_:Int) (y_:Int):Wy0 (Int):=.i ((zue x_).2) (.i ((zue y_).2) (.k 0) (.k (-1:Int))) (.i ((zue y_).2) (.k 1) (.i (decide (x_<y_)) (.k (-1:Int)) (.i (decide (x_>y_)) (.k 1) (.k 0))))
def zep (x_:Int) (y_:Int):=(zMU x_ y_).fin default
def zme:=zi zYl λx=>((zep x.1 x.2.1).1,zSM (zep x.1 x.2.1).2)
theorem zpc:SdP 121 zme:=
 sT (cx':=zYI) (zk ⟨zX7,trivial⟩) call121 func121 (lOK aN)
end Go.Proofs.YtljlfiomikifjaaGreatDoor
/-
 DERIVED:THE SHELF's CONTRACTS AT THIS DUMP,IN PLAIN WORDS (tools/lay-plain.mjs out of 'TryzShelf.lean',which tools/lay-shelf.mjs wrote):THE SAME DECLARATIONS UNDER THE SAME NAMES:'import','namespace','open','def','theorem' AND NOTHING ELSE:no command of the shelf's:FOR A HAND-IN. Each laying:the table of numbers ('.._ren') and one theorem,a field a fact of the dump's own or the kernel's comparison; each contract:ONE APPLICATION.
-/
namespace Go.Proofs
open Go.Shelf
def Tryz.sortRow_ren:Go.Shelf.Ren:=⟨λ| 6=>232 | 15=>156 | 14=>251 | 28=>192 | 29=>193 | 20=>270 | 21=>271 | 22=>272 | 23=>273 | 24=>274 | 25=>275 | 26=>276 | 27=>277 | 46=>289 | 47=>222 | 48=>223 | 49=>290 | 50=>291 | 57=>298 | n=>n,λ| 22=>43 | 24=>49 | 25=>102 | 3=>3 | 39=>135 | 0=>0 | 53=>163 | 55=>165 | 4=>4 | 46=>157 | 45=>156 | 50=>123 | 5=>5 | 9=>9 | 66=>191 | 70=>195 | 76=>206 | 77=>207 | n=>n,λ| n=>n⟩
theorem Tryz.sortRow:Go.Proofs.SlLaysF0.n6 Tryz.prog Tryz.sortRow_ren:={
 mixed:=by kernel_rfl
 f6:=⟨f232.name,by decide,func232.trans (congrArg some (by kernel_rfl))⟩
 f14:=⟨f251.name,by decide,func251.trans (congrArg some (by kernel_rfl))⟩
 f15:=func156.trans (congrArg some (by kernel_rfl))
 f20:=⟨f270.name,by decide,func270.trans (congrArg some (by kernel_rfl))⟩
 f21:=⟨f271.name,by decide,func271.trans (congrArg some (by kernel_rfl))⟩
 f22:=⟨f272.name,by decide,func272.trans (congrArg some (by kernel_rfl))⟩
 f23:=⟨f273.name,by decide,func273.trans (congrArg some (by kernel_rfl))⟩
 f24:=⟨f274.name,by decide,func274.trans (congrArg some (by kernel_rfl))⟩
 f25:=⟨f275.name,by decide,func275.trans (congrArg some (by kernel_rfl))⟩
 f26:=⟨f276.name,by decide,func276.trans (congrArg some (by kernel_rfl))⟩
 f27:=⟨f277.name,by decide,func277.trans (congrArg some (by kernel_rfl))⟩
 f28:=func192.trans (congrArg some (by kernel_rfl))
 f29:=func193.trans (congrArg some (by kernel_rfl))
 f46:=⟨f289.name,by decide,func289.trans (congrArg some (by kernel_rfl))⟩
 f47:=func222.trans (congrArg some (by kernel_rfl))
 f48:=func223.trans (congrArg some (by kernel_rfl))
 f49:=⟨f290.name,by decide,func290.trans (congrArg some (by kernel_rfl))⟩
 f50:=⟨f291.name,by decide,func291.trans (congrArg some (by kernel_rfl))⟩
 f57:=⟨f298.name,by decide,func298.trans (congrArg some (by kernel_rfl))⟩
 t0:=underlying0
 a0:=Tryz.isAgg0
 z0:=Tryz.sizeOf0
 v0:=Tryz.zeroValue0
 t3:=underlying3
 a3:=Tryz.isAgg3
 z3:=Tryz.sizeOf3
 v3:=Tryz.zeroValue3
 t4:=underlying4
 a4:=Tryz.isAgg4
 z4:=Tryz.sizeOf4
 v4:=Tryz.zeroValue4
 t5:=underlying5
 a5:=Tryz.isAgg5
 z5:=Tryz.sizeOf5
 v5:=Tryz.zeroValue5
 t9:=underlying9
 a9:=Tryz.isAgg9
 z9:=Tryz.sizeOf9
 v9:=Tryz.zeroValue9
 t22:=underlying43
 a22:=Tryz.isAgg43
 z22:=Tryz.sizeOf43
 v22:=Tryz.zeroValue43
 t25:=underlying102
 a25:=Tryz.isAgg102
 z25:=Tryz.sizeOf102
 v25:=Tryz.zeroValue102
 t39:=underlying135
 a39:=Tryz.isAgg135
 z39:=Tryz.sizeOf135
 v39:=Tryz.zeroValue135
 t45:=underlying156
 a45:=Tryz.isAgg156
 z45:=Tryz.sizeOf156
 v45:=Tryz.zeroValue156
 t46:=underlying157
 a46:=Tryz.isAgg157
 z46:=Tryz.sizeOf157
 v46:=Tryz.zeroValue157
 t50:=underlying123
 a50:=Tryz.isAgg123
 z50:=Tryz.sizeOf123
 v50:=Tryz.zeroValue123
 t53:=underlying163
 a53:=Tryz.isAgg163
 z53:=Tryz.sizeOf163
 v53:=Tryz.zeroValue163
 t55:=underlying165
 a55:=Tryz.isAgg165
 z55:=Tryz.sizeOf165
 v55:=Tryz.zeroValue165
 t66:=underlying191
 a66:=Tryz.isAgg191
 z66:=Tryz.sizeOf191
 v66:=Tryz.zeroValue191
 t70:=underlying195
 a70:=Tryz.isAgg195
 z70:=Tryz.sizeOf195
 v70:=Tryz.zeroValue195
 t76:=underlying206
 a76:=Tryz.isAgg206
 z76:=Tryz.sizeOf206
 v76:=Tryz.zeroValue206
 t77:=underlying207
 a77:=Tryz.isAgg207
 z77:=Tryz.sizeOf207
 v77:=Tryz.zeroValue207 }
def Tryz.sortSet_ren:Go.Shelf.Ren:=⟨λ| 6=>205 | 15=>156 | 14=>235 | 28=>192 | 29=>193 | 20=>252 | 21=>253 | 22=>254 | 23=>255 | 24=>256 | 25=>257 | 26=>258 | 27=>259 | 46=>278 | 47=>222 | 48=>223 | 49=>279 | 50=>280 | 57=>292 | n=>n,λ| 22=>39 | 24=>43 | 25=>86 | 3=>3 | 39=>135 | 0=>0 | 53=>163 | 55=>165 | 4=>4 | 46=>157 | 45=>156 | 50=>123 | 5=>5 | 9=>9 | 66=>191 | 70=>195 | 76=>206 | 77=>207 | n=>n,λ| n=>n⟩
theorem Tryz.sortSet:Go.Proofs.SlLaysF.n6 Tryz.prog Tryz.sortSet_ren:={
 mixed:=by kernel_rfl
 f6:=⟨f205.name,by decide,func205.trans (congrArg some (by kernel_rfl))⟩
 f14:=⟨f235.name,by decide,func235.trans (congrArg some (by kernel_rfl))⟩
 f15:=func156.trans (congrArg some (by kernel_rfl))
 f20:=⟨f252.name,by decide,func252.trans (congrArg some (by kernel_rfl))⟩
 f21:=⟨f253.name,by decide,func253.trans (congrArg some (by kernel_rfl))⟩
 f22:=⟨f254.name,by decide,func254.trans (congrArg some (by kernel_rfl))⟩
 f23:=⟨f255.name,by decide,func255.trans (congrArg some (by kernel_rfl))⟩
 f24:=⟨f256.name,by decide,func256.trans (congrArg some (by kernel_rfl))⟩
 f25:=⟨f257.name,by decide,func257.trans (congrArg some (by kernel_rfl))⟩
 f26:=⟨f258.name,by decide,func258.trans (congrArg some (by kernel_rfl))⟩
 f27:=⟨f259.name,by decide,func259.trans (congrArg some (by kernel_rfl))⟩
 f28:=func192.trans (congrArg some (by kernel_rfl))
 f29:=func193.trans (congrArg some (by kernel_rfl))
 f46:=⟨f278.name,by decide,func278.trans (congrArg some (by kernel_rfl))⟩
 f47:=func222.trans (congrArg some (by kernel_rfl))
 f48:=func223.trans (congrArg some (by kernel_rfl))
 f49:=⟨f279.name,by decide,func279.trans (congrArg some (by kernel_rfl))⟩
 f50:=⟨f280.name,by decide,func280.trans (congrArg some (by kernel_rfl))⟩
 f57:=⟨f292.name,by decide,func292.trans (congrArg some (by kernel_rfl))⟩
 t0:=underlying0
 a0:=Tryz.isAgg0
 z0:=Tryz.sizeOf0
 v0:=Tryz.zeroValue0
 t3:=underlying3
 a3:=Tryz.isAgg3
 z3:=Tryz.sizeOf3
 v3:=Tryz.zeroValue3
 t4:=underlying4
 a4:=Tryz.isAgg4
 z4:=Tryz.sizeOf4
 v4:=Tryz.zeroValue4
 t5:=underlying5
 a5:=Tryz.isAgg5
 z5:=Tryz.sizeOf5
 v5:=Tryz.zeroValue5
 t9:=underlying9
 a9:=Tryz.isAgg9
 z9:=Tryz.sizeOf9
 v9:=Tryz.zeroValue9
 t22:=underlying39
 a22:=Tryz.isAgg39
 z22:=Tryz.sizeOf39
 v22:=Tryz.zeroValue39
 a24:=Tryz.isAgg43
 z24:=Tryz.sizeOf43
 t25:=underlying86
 a25:=Tryz.isAgg86
 z25:=Tryz.sizeOf86
 v25:=Tryz.zeroValue86
 t39:=underlying135
 a39:=Tryz.isAgg135
 z39:=Tryz.sizeOf135
 v39:=Tryz.zeroValue135
 t45:=underlying156
 a45:=Tryz.isAgg156
 z45:=Tryz.sizeOf156
 v45:=Tryz.zeroValue156
 t46:=underlying157
 a46:=Tryz.isAgg157
 z46:=Tryz.sizeOf157
 v46:=Tryz.zeroValue157
 t50:=underlying123
 a50:=Tryz.isAgg123
 z50:=Tryz.sizeOf123
 v50:=Tryz.zeroValue123
 t53:=underlying163
 a53:=Tryz.isAgg163
 z53:=Tryz.sizeOf163
 v53:=Tryz.zeroValue163
 t55:=underlying165
 a55:=Tryz.isAgg165
 z55:=Tryz.sizeOf165
 v55:=Tryz.zeroValue165
 t66:=underlying191
 a66:=Tryz.isAgg191
 z66:=Tryz.sizeOf191
 v66:=Tryz.zeroValue191
 t70:=underlying195
 a70:=Tryz.isAgg195
 z70:=Tryz.sizeOf195
 v70:=Tryz.zeroValue195
 t76:=underlying206
 a76:=Tryz.isAgg206
 z76:=Tryz.sizeOf206
 v76:=Tryz.zeroValue206
 t77:=underlying207
 a77:=Tryz.isAgg207
 z77:=Tryz.sizeOf207
 v77:=Tryz.zeroValue207 }
def Tryz.pdqTerm_ren:Go.Shelf.Ren:=⟨λ| 14=>155 | 20=>184 | 21=>185 | 22=>186 | 23=>187 | 24=>188 | 25=>189 | 26=>190 | 27=>191 | 46=>221 | 47=>222 | 48=>223 | 49=>224 | 50=>225 | 15=>156 | 57=>243 | 28=>192 | 29=>193 | n=>n,λ| 24=>28 | 22=>22 | 3=>3 | 25=>79 | 4=>4 | 0=>0 | 46=>157 | 45=>156 | 50=>123 | 66=>191 | 39=>135 | 55=>165 | 70=>195 | 76=>206 | 77=>207 | 53=>163 | 5=>5 | 9=>9 | n=>n,λ| n=>n⟩
theorem Tryz.pdqTerm:Go.Proofs.SlLaysF0.n14 Tryz.prog Tryz.pdqTerm_ren:={
 mixed:=by kernel_rfl
 f14:=⟨f155.name,by decide,func155.trans (congrArg some (by kernel_rfl))⟩
 f15:=func156.trans (congrArg some (by kernel_rfl))
 f20:=⟨f184.name,by decide,func184.trans (congrArg some (by kernel_rfl))⟩
 f21:=⟨f185.name,by decide,func185.trans (congrArg some (by kernel_rfl))⟩
 f22:=⟨f186.name,by decide,func186.trans (congrArg some (by kernel_rfl))⟩
 f23:=⟨f187.name,by decide,func187.trans (congrArg some (by kernel_rfl))⟩
 f24:=⟨f188.name,by decide,func188.trans (congrArg some (by kernel_rfl))⟩
 f25:=⟨f189.name,by decide,func189.trans (congrArg some (by kernel_rfl))⟩
 f26:=⟨f190.name,by decide,func190.trans (congrArg some (by kernel_rfl))⟩
 f27:=⟨f191.name,by decide,func191.trans (congrArg some (by kernel_rfl))⟩
 f28:=func192.trans (congrArg some (by kernel_rfl))
 f29:=func193.trans (congrArg some (by kernel_rfl))
 f46:=⟨f221.name,by decide,func221.trans (congrArg some (by kernel_rfl))⟩
 f47:=func222.trans (congrArg some (by kernel_rfl))
 f48:=func223.trans (congrArg some (by kernel_rfl))
 f49:=⟨f224.name,by decide,func224.trans (congrArg some (by kernel_rfl))⟩
 f50:=⟨f225.name,by decide,func225.trans (congrArg some (by kernel_rfl))⟩
 f57:=⟨f243.name,by decide,func243.trans (congrArg some (by kernel_rfl))⟩
 t0:=underlying0
 a0:=Tryz.isAgg0
 z0:=Tryz.sizeOf0
 v0:=Tryz.zeroValue0
 t3:=underlying3
 a3:=Tryz.isAgg3
 z3:=Tryz.sizeOf3
 v3:=Tryz.zeroValue3
 t4:=underlying4
 a4:=Tryz.isAgg4
 z4:=Tryz.sizeOf4
 v4:=Tryz.zeroValue4
 t5:=underlying5
 a5:=Tryz.isAgg5
 z5:=Tryz.sizeOf5
 v5:=Tryz.zeroValue5
 t9:=underlying9
 a9:=Tryz.isAgg9
 z9:=Tryz.sizeOf9
 v9:=Tryz.zeroValue9
 t22:=underlying22
 a22:=Tryz.isAgg22
 z22:=Tryz.sizeOf22
 v22:=Tryz.zeroValue22
 t25:=underlying79
 a25:=Tryz.isAgg79
 z25:=Tryz.sizeOf79
 v25:=Tryz.zeroValue79
 t39:=underlying135
 a39:=Tryz.isAgg135
 z39:=Tryz.sizeOf135
 v39:=Tryz.zeroValue135
 t45:=underlying156
 a45:=Tryz.isAgg156
 z45:=Tryz.sizeOf156
 v45:=Tryz.zeroValue156
 t46:=underlying157
 a46:=Tryz.isAgg157
 z46:=Tryz.sizeOf157
 v46:=Tryz.zeroValue157
 t50:=underlying123
 a50:=Tryz.isAgg123
 z50:=Tryz.sizeOf123
 v50:=Tryz.zeroValue123
 t53:=underlying163
 a53:=Tryz.isAgg163
 z53:=Tryz.sizeOf163
 v53:=Tryz.zeroValue163
 t55:=underlying165
 a55:=Tryz.isAgg165
 z55:=Tryz.sizeOf165
 v55:=Tryz.zeroValue165
 t66:=underlying191
 a66:=Tryz.isAgg191
 z66:=Tryz.sizeOf191
 v66:=Tryz.zeroValue191
 t70:=underlying195
 a70:=Tryz.isAgg195
 z70:=Tryz.sizeOf195
 v70:=Tryz.zeroValue195
 t76:=underlying206
 a76:=Tryz.isAgg206
 z76:=Tryz.sizeOf206
 v76:=Tryz.zeroValue206
 t77:=underlying207
 a77:=Tryz.isAgg207
 z77:=Tryz.sizeOf207
 v77:=Tryz.zeroValue207 }
def Tryz.lays106_ren:Go.Shelf.Ren:=⟨λ| 106=>160 | 213=>194 | 265=>226 | n=>n,λ| 9=>9 | 3=>3 | n=>n,λ| n=>n⟩
theorem Tryz.lays106:Go.Proofs.Lays.n106 Tryz.prog Tryz.lays106_ren:={
 mixed:=by kernel_rfl
 f106:=func160.trans (congrArg some (by kernel_rfl))
 f213:=func194.trans (congrArg some (by kernel_rfl))
 f265:=func226.trans (congrArg some (by kernel_rfl))
 t3:=underlying3
 a3:=Tryz.isAgg3
 z3:=Tryz.sizeOf3
 v3:=Tryz.zeroValue3
 t9:=underlying9
 a9:=Tryz.isAgg9
 z9:=Tryz.sizeOf9
 v9:=Tryz.zeroValue9 }
def Tryz.lays125_ren:Go.Shelf.Ren:=⟨λ| 125=>156 | 128=>192 | 129=>193 | n=>n,λ| 46=>135 | 3=>3 | 51=>163 | 53=>165 | 4=>4 | 5=>5 | 9=>9 | n=>n,λ| n=>n⟩
theorem Tryz.lays125:Go.Proofs.Lays.n125 Tryz.prog Tryz.lays125_ren:={
 mixed:=by kernel_rfl
 f125:=func156.trans (congrArg some (by kernel_rfl))
 f128:=func192.trans (congrArg some (by kernel_rfl))
 f129:=func193.trans (congrArg some (by kernel_rfl))
 t3:=underlying3
 a3:=Tryz.isAgg3
 z3:=Tryz.sizeOf3
 v3:=Tryz.zeroValue3
 t4:=underlying4
 a4:=Tryz.isAgg4
 z4:=Tryz.sizeOf4
 v4:=Tryz.zeroValue4
 t5:=underlying5
 a5:=Tryz.isAgg5
 z5:=Tryz.sizeOf5
 v5:=Tryz.zeroValue5
 t9:=underlying9
 a9:=Tryz.isAgg9
 z9:=Tryz.sizeOf9
 v9:=Tryz.zeroValue9
 t46:=underlying135
 a46:=Tryz.isAgg135
 z46:=Tryz.sizeOf135
 v46:=Tryz.zeroValue135
 t51:=underlying163
 a51:=Tryz.isAgg163
 z51:=Tryz.sizeOf163
 v51:=Tryz.zeroValue163
 t53:=underlying165
 a53:=Tryz.isAgg165
 z53:=Tryz.sizeOf165
 v53:=Tryz.zeroValue165 }
def Tryz.laysM173_ren:Go.Shelf.Ren:=⟨λ| 173=>227 | 246=>229 | 283=>245 | 284=>246 | 285=>247 | 286=>248 | 129=>193 | 317=>266 | 318=>267 | 319=>268 | 320=>269 | 337=>287 | 338=>288 | n=>n,λ| 2=>2 | 3=>3 | 9=>9 | 4=>4 | 171=>210 | 0=>0 | 53=>165 | 37=>171 | 5=>5 | 173=>212 | 212=>229 | 51=>163 | 20=>20 | 213=>230 | 46=>135 | 232=>249 | 233=>250 | n=>n,λ| 17=>1 | 18=>4 | 19=>5 | n=>n⟩
theorem Tryz.laysM173:Go.Proofs.LaysM.n173 Tryz.prog Tryz.laysM173_ren:={
 mixed:=by kernel_rfl
 f129:=func193.trans (congrArg some (by kernel_rfl))
 f173:=func227.trans (congrArg some (by kernel_rfl))
 f246:=func229.trans (congrArg some (by kernel_rfl))
 f283:=func245.trans (congrArg some (by kernel_rfl))
 f284:=func246.trans (congrArg some (by kernel_rfl))
 f285:=func247.trans (congrArg some (by kernel_rfl))
 f286:=func248.trans (congrArg some (by kernel_rfl))
 f317:=func266.trans (congrArg some (by kernel_rfl))
 f318:=func267.trans (congrArg some (by kernel_rfl))
 f319:=func268.trans (congrArg some (by kernel_rfl))
 f320:=func269.trans (congrArg some (by kernel_rfl))
 f337:=func287.trans (congrArg some (by kernel_rfl))
 f338:=func288.trans (congrArg some (by kernel_rfl))
 t0:=underlying0
 a0:=Tryz.isAgg0
 z0:=Tryz.sizeOf0
 v0:=Tryz.zeroValue0
 t2:=underlying2
 a2:=Tryz.isAgg2
 z2:=Tryz.sizeOf2
 v2:=Tryz.zeroValue2
 t3:=underlying3
 a3:=Tryz.isAgg3
 z3:=Tryz.sizeOf3
 v3:=Tryz.zeroValue3
 t4:=underlying4
 a4:=Tryz.isAgg4
 z4:=Tryz.sizeOf4
 v4:=Tryz.zeroValue4
 t5:=underlying5
 a5:=Tryz.isAgg5
 z5:=Tryz.sizeOf5
 v5:=Tryz.zeroValue5
 t9:=underlying9
 a9:=Tryz.isAgg9
 z9:=Tryz.sizeOf9
 v9:=Tryz.zeroValue9
 t20:=underlying20
 a20:=Tryz.isAgg20
 z20:=Tryz.sizeOf20
 v20:=Tryz.zeroValue20
 t37:=underlying171
 a37:=Tryz.isAgg171
 z37:=Tryz.sizeOf171
 v37:=Tryz.zeroValue171
 t46:=underlying135
 a46:=Tryz.isAgg135
 z46:=Tryz.sizeOf135
 v46:=Tryz.zeroValue135
 t51:=underlying163
 a51:=Tryz.isAgg163
 z51:=Tryz.sizeOf163
 v51:=Tryz.zeroValue163
 t53:=underlying165
 a53:=Tryz.isAgg165
 z53:=Tryz.sizeOf165
 v53:=Tryz.zeroValue165
 t171:=underlying210
 a171:=Tryz.isAgg210
 z171:=Tryz.sizeOf210
 v171:=Tryz.zeroValue210
 t173:=underlying212
 a173:=Tryz.isAgg212
 z173:=Tryz.sizeOf212
 v173:=Tryz.zeroValue212
 t212:=underlying229
 a212:=Tryz.isAgg229
 z212:=Tryz.sizeOf229
 v212:=Tryz.zeroValue229
 t213:=underlying230
 a213:=Tryz.isAgg230
 z213:=Tryz.sizeOf230
 t232:=underlying249
 a232:=Tryz.isAgg249
 z232:=Tryz.sizeOf249
 v232:=Tryz.zeroValue249
 t233:=underlying250
 a233:=Tryz.isAgg250
 z233:=Tryz.sizeOf250
 v233:=Tryz.zeroValue250
 g17:=by kernel_rfl
 g18:=by kernel_rfl
 g19:=by kernel_rfl
 i0:=by kernel_rfl
 i2:=by kernel_rfl
 i3:=by kernel_rfl
 i4:=by kernel_rfl
 i5:=by kernel_rfl
 i9:=by kernel_rfl
 i20:=by kernel_rfl
 i37:=by kernel_rfl
 i46:=by kernel_rfl
 i51:=by kernel_rfl
 i53:=by kernel_rfl
 i171:=by kernel_rfl
 i173:=by kernel_rfl
 i212:=by kernel_rfl
 i232:=by kernel_rfl
 i233:=by kernel_rfl
 m17:=by kernel_rfl
 m18:=by kernel_rfl
 m19:=by kernel_rfl }
def Tryz.laysM171_ren:Go.Shelf.Ren:=⟨λ| 171=>168 | 243=>200 | 246=>229 | 283=>245 | 284=>246 | 285=>247 | 286=>248 | 129=>193 | 317=>266 | 318=>267 | 319=>268 | 320=>269 | 337=>287 | 338=>288 | n=>n,λ| 3=>3 | 9=>9 | 2=>2 | 4=>4 | 171=>210 | 0=>0 | 53=>165 | 37=>171 | 5=>5 | 173=>212 | 212=>229 | 51=>163 | 20=>20 | 213=>230 | 46=>135 | 232=>249 | 233=>250 | n=>n,λ| 17=>1 | 18=>4 | 19=>5 | n=>n⟩
theorem Tryz.laysM171:Go.Proofs.LaysM.n171 Tryz.prog Tryz.laysM171_ren:={
 mixed:=by kernel_rfl
 f129:=func193.trans (congrArg some (by kernel_rfl))
 f171:=func168.trans (congrArg some (by kernel_rfl))
 f243:=func200.trans (congrArg some (by kernel_rfl))
 f246:=func229.trans (congrArg some (by kernel_rfl))
 f283:=func245.trans (congrArg some (by kernel_rfl))
 f284:=func246.trans (congrArg some (by kernel_rfl))
 f285:=func247.trans (congrArg some (by kernel_rfl))
 f286:=func248.trans (congrArg some (by kernel_rfl))
 f317:=func266.trans (congrArg some (by kernel_rfl))
 f318:=func267.trans (congrArg some (by kernel_rfl))
 f319:=func268.trans (congrArg some (by kernel_rfl))
 f320:=func269.trans (congrArg some (by kernel_rfl))
 f337:=func287.trans (congrArg some (by kernel_rfl))
 f338:=func288.trans (congrArg some (by kernel_rfl))
 t0:=underlying0
 a0:=Tryz.isAgg0
 z0:=Tryz.sizeOf0
 v0:=Tryz.zeroValue0
 t2:=underlying2
 a2:=Tryz.isAgg2
 z2:=Tryz.sizeOf2
 v2:=Tryz.zeroValue2
 t3:=underlying3
 a3:=Tryz.isAgg3
 z3:=Tryz.sizeOf3
 v3:=Tryz.zeroValue3
 t4:=underlying4
 a4:=Tryz.isAgg4
 z4:=Tryz.sizeOf4
 v4:=Tryz.zeroValue4
 t5:=underlying5
 a5:=Tryz.isAgg5
 z5:=Tryz.sizeOf5
 v5:=Tryz.zeroValue5
 t9:=underlying9
 a9:=Tryz.isAgg9
 z9:=Tryz.sizeOf9
 v9:=Tryz.zeroValue9
 t20:=underlying20
 a20:=Tryz.isAgg20
 z20:=Tryz.sizeOf20
 v20:=Tryz.zeroValue20
 t37:=underlying171
 a37:=Tryz.isAgg171
 z37:=Tryz.sizeOf171
 v37:=Tryz.zeroValue171
 t46:=underlying135
 a46:=Tryz.isAgg135
 z46:=Tryz.sizeOf135
 v46:=Tryz.zeroValue135
 t51:=underlying163
 a51:=Tryz.isAgg163
 z51:=Tryz.sizeOf163
 v51:=Tryz.zeroValue163
 t53:=underlying165
 a53:=Tryz.isAgg165
 z53:=Tryz.sizeOf165
 v53:=Tryz.zeroValue165
 t171:=underlying210
 a171:=Tryz.isAgg210
 z171:=Tryz.sizeOf210
 v171:=Tryz.zeroValue210
 t173:=underlying212
 a173:=Tryz.isAgg212
 z173:=Tryz.sizeOf212
 v173:=Tryz.zeroValue212
 t212:=underlying229
 a212:=Tryz.isAgg229
 z212:=Tryz.sizeOf229
 v212:=Tryz.zeroValue229
 t213:=underlying230
 a213:=Tryz.isAgg230
 z213:=Tryz.sizeOf230
 t232:=underlying249
 a232:=Tryz.isAgg249
 z232:=Tryz.sizeOf249
 v232:=Tryz.zeroValue249
 t233:=underlying250
 a233:=Tryz.isAgg250
 z233:=Tryz.sizeOf250
 v233:=Tryz.zeroValue250
 g17:=by kernel_rfl
 g18:=by kernel_rfl
 g19:=by kernel_rfl
 i0:=by kernel_rfl
 i2:=by kernel_rfl
 i3:=by kernel_rfl
 i4:=by kernel_rfl
 i5:=by kernel_rfl
 i9:=by kernel_rfl
 i20:=by kernel_rfl
 i37:=by kernel_rfl
 i46:=by kernel_rfl
 i51:=by kernel_rfl
 i53:=by kernel_rfl
 i171:=by kernel_rfl
 i173:=by kernel_rfl
 i212:=by kernel_rfl
 i232:=by kernel_rfl
 i233:=by kernel_rfl
 m17:=by kernel_rfl
 m18:=by kernel_rfl
 m19:=by kernel_rfl }
def Tryz.lays155_ren:Go.Shelf.Ren:=⟨λ| 155=>228 | 154=>244 | 138=>263 | 165=>201 | 143=>264 | 166=>202 | 197=>265 | 169=>203 | 195=>283 | 218=>284 | 240=>230 | 241=>231 | 219=>285 | 260=>286 | 276=>249 | 277=>250 | 217=>294 | 225=>295 | 224=>296 | 267=>297 | 266=>300 | 314=>301 | n=>n,λ| 9=>9 | 3=>3 | 4=>4 | 72=>173 | 0=>0 | 76=>177 | 105=>226 | 21=>21 | 5=>5 | 70=>170 | 20=>20 | 37=>171 | 75=>176 | 127=>199 | 164=>214 | 46=>135 | 119=>245 | 139=>248 | 138=>247 | 146=>252 | 51=>163 | 80=>179 | n=>n,λ| 1=>0 | 3=>2 | 4=>3 | n=>n⟩
theorem Tryz.lays155:Go.Proofs.Lays.n155 Tryz.prog Tryz.lays155_ren:={
 mixed:=by kernel_rfl
 f138:=func263.trans (congrArg some (by kernel_rfl))
 f143:=func264.trans (congrArg some (by kernel_rfl))
 f154:=func244.trans (congrArg some (by kernel_rfl))
 f155:=func228.trans (congrArg some (by kernel_rfl))
 f165:=func201.trans (congrArg some (by kernel_rfl))
 f166:=func202.trans (congrArg some (by kernel_rfl))
 f169:=func203.trans (congrArg some (by kernel_rfl))
 f195:=func283.trans (congrArg some (by kernel_rfl))
 f197:=func265.trans (congrArg some (by kernel_rfl))
 f217:=func294.trans (congrArg some (by kernel_rfl))
 f218:=func284.trans (congrArg some (by kernel_rfl))
 f219:=func285.trans (congrArg some (by kernel_rfl))
 f224:=func296.trans (congrArg some (by kernel_rfl))
 f225:=func295.trans (congrArg some (by kernel_rfl))
 f240:=func230.trans (congrArg some (by kernel_rfl))
 f241:=func231.trans (congrArg some (by kernel_rfl))
 f260:=func286.trans (congrArg some (by kernel_rfl))
 f266:=func300.trans (congrArg some (by kernel_rfl))
 f267:=func297.trans (congrArg some (by kernel_rfl))
 f276:=func249.trans (congrArg some (by kernel_rfl))
 f277:=func250.trans (congrArg some (by kernel_rfl))
 f314:=func301.trans (congrArg some (by kernel_rfl))
 t0:=underlying0
 a0:=Tryz.isAgg0
 z0:=Tryz.sizeOf0
 v0:=Tryz.zeroValue0
 t3:=underlying3
 a3:=Tryz.isAgg3
 z3:=Tryz.sizeOf3
 v3:=Tryz.zeroValue3
 t4:=underlying4
 a4:=Tryz.isAgg4
 z4:=Tryz.sizeOf4
 v4:=Tryz.zeroValue4
 t5:=underlying5
 a5:=Tryz.isAgg5
 z5:=Tryz.sizeOf5
 v5:=Tryz.zeroValue5
 t9:=underlying9
 a9:=Tryz.isAgg9
 z9:=Tryz.sizeOf9
 v9:=Tryz.zeroValue9
 t20:=underlying20
 a20:=Tryz.isAgg20
 z20:=Tryz.sizeOf20
 v20:=Tryz.zeroValue20
 t21:=underlying21
 a21:=Tryz.isAgg21
 z21:=Tryz.sizeOf21
 v21:=Tryz.zeroValue21
 t37:=underlying171
 a37:=Tryz.isAgg171
 z37:=Tryz.sizeOf171
 v37:=Tryz.zeroValue171
 t46:=underlying135
 a46:=Tryz.isAgg135
 z46:=Tryz.sizeOf135
 v46:=Tryz.zeroValue135
 t51:=underlying163
 a51:=Tryz.isAgg163
 z51:=Tryz.sizeOf163
 v51:=Tryz.zeroValue163
 t70:=underlying170
 a70:=Tryz.isAgg170
 z70:=Tryz.sizeOf170
 v70:=Tryz.zeroValue170
 t72:=underlying173
 a72:=Tryz.isAgg173
 z72:=Tryz.sizeOf173
 v72:=Tryz.zeroValue173
 t75:=underlying176
 a75:=Tryz.isAgg176
 z75:=Tryz.sizeOf176
 v75:=Tryz.zeroValue176
 t76:=underlying177
 a76:=Tryz.isAgg177
 z76:=Tryz.sizeOf177
 v76:=Tryz.zeroValue177
 t105:=underlying226
 a105:=Tryz.isAgg226
 z105:=Tryz.sizeOf226
 v105:=Tryz.zeroValue226
 t119:=underlying245
 a119:=Tryz.isAgg245
 z119:=Tryz.sizeOf245
 t127:=underlying199
 a127:=Tryz.isAgg199
 z127:=Tryz.sizeOf199
 v127:=Tryz.zeroValue199
 t138:=underlying247
 a138:=Tryz.isAgg247
 z138:=Tryz.sizeOf247
 v138:=Tryz.zeroValue247
 t139:=underlying248
 a139:=Tryz.isAgg248
 z139:=Tryz.sizeOf248
 v139:=Tryz.zeroValue248
 t146:=underlying252
 a146:=Tryz.isAgg252
 z146:=Tryz.sizeOf252
 v146:=Tryz.zeroValue252
 t164:=underlying214
 a164:=Tryz.isAgg214
 z164:=Tryz.sizeOf214
 v164:=Tryz.zeroValue214
 g1:=by kernel_rfl
 g3:=by kernel_rfl
 g4:=by kernel_rfl }
theorem Tryz.Builder_Extra_155:Builder.Extra Tryz.prog Tryz.lays155_ren:={
 sizeBuilder:=by kernel_rfl
 liesBuilder:=by kernel_rfl
 t5:=underlying5
 a5:=Tryz.isAgg5
 z5:=Tryz.sizeOf5
 v5:=Tryz.zeroValue5
 infoByte:=by kernel_rfl
 cellsByte:=by kernel_rfl
 sizeByte:=by kernel_rfl
 neB5:=by decide }
def Tryz.lays156_ren:Go.Shelf.Ren:=⟨λ| 156=>169 | 165=>201 | 166=>202 | 169=>203 | 240=>230 | 241=>231 | 276=>249 | 277=>250 | n=>n,λ| 31=>144 | 9=>9 | 3=>3 | 4=>4 | 0=>0 | 20=>20 | 72=>173 | 76=>177 | 70=>170 | 37=>171 | 75=>176 | 127=>199 | 164=>214 | 5=>5 | 80=>179 | n=>n,λ| n=>n⟩
theorem Tryz.lays156:Go.Proofs.Lays.n156 Tryz.prog Tryz.lays156_ren:={
 mixed:=by kernel_rfl
 f156:=func169.trans (congrArg some (by kernel_rfl))
 f165:=func201.trans (congrArg some (by kernel_rfl))
 f166:=func202.trans (congrArg some (by kernel_rfl))
 f169:=func203.trans (congrArg some (by kernel_rfl))
 f240:=func230.trans (congrArg some (by kernel_rfl))
 f241:=func231.trans (congrArg some (by kernel_rfl))
 f276:=func249.trans (congrArg some (by kernel_rfl))
 f277:=func250.trans (congrArg some (by kernel_rfl))
 t0:=underlying0
 a0:=Tryz.isAgg0
 z0:=Tryz.sizeOf0
 v0:=Tryz.zeroValue0
 t3:=underlying3
 a3:=Tryz.isAgg3
 z3:=Tryz.sizeOf3
 v3:=Tryz.zeroValue3
 t4:=underlying4
 a4:=Tryz.isAgg4
 z4:=Tryz.sizeOf4
 v4:=Tryz.zeroValue4
 t9:=underlying9
 a9:=Tryz.isAgg9
 z9:=Tryz.sizeOf9
 v9:=Tryz.zeroValue9
 t20:=underlying20
 a20:=Tryz.isAgg20
 z20:=Tryz.sizeOf20
 v20:=Tryz.zeroValue20
 t31:=underlying144
 a31:=Tryz.isAgg144
 z31:=Tryz.sizeOf144
 v31:=Tryz.zeroValue144
 t37:=underlying171
 a37:=Tryz.isAgg171
 z37:=Tryz.sizeOf171
 v37:=Tryz.zeroValue171
 t70:=underlying170
 a70:=Tryz.isAgg170
 z70:=Tryz.sizeOf170
 v70:=Tryz.zeroValue170
 t72:=underlying173
 a72:=Tryz.isAgg173
 z72:=Tryz.sizeOf173
 v72:=Tryz.zeroValue173
 t75:=underlying176
 a75:=Tryz.isAgg176
 z75:=Tryz.sizeOf176
 v75:=Tryz.zeroValue176
 t76:=underlying177
 a76:=Tryz.isAgg177
 z76:=Tryz.sizeOf177
 v76:=Tryz.zeroValue177
 t127:=underlying199
 a127:=Tryz.isAgg199
 z127:=Tryz.sizeOf199
 v127:=Tryz.zeroValue199
 t164:=underlying214
 a164:=Tryz.isAgg214
 z164:=Tryz.sizeOf214
 v164:=Tryz.zeroValue214 }
theorem Tryz.Builder_Extra_156:Builder.Extra Tryz.prog Tryz.lays156_ren:={
 sizeBuilder:=by kernel_rfl
 liesBuilder:=by kernel_rfl
 t5:=underlying5
 a5:=Tryz.isAgg5
 z5:=Tryz.sizeOf5
 v5:=Tryz.zeroValue5
 infoByte:=by kernel_rfl
 cellsByte:=by kernel_rfl
 sizeByte:=by kernel_rfl
 neB5:=by decide }
end Go.Proofs
namespace Go.Proofs.YtljlfiomikifjaaGreatDoor
open Go Go.Ab
open Go.Proofs.Tryz
def strings_Compare (s p:ByteArray):Bool×Int:=zPK s p
def zHc:Ab.Spec ty:=zi (cx:=base) (ze (zf zAU) (ze (zf zAU) zu)) λx=>((strings_Compare x.1 x.2.1).1,⟨[.pure (.lit (.int .i64 (strings_Compare x.1 x.2.1).2))],[]⟩)
theorem zT9:SdP 160 zHc:=zbaL zkn Go.Proofs.Tryz.lays106 call160
end Go.Proofs.YtljlfiomikifjaaGreatDoor
namespace Go.Proofs.YtljlfiomikifjaaGreatDoor
open Go Go.Ab
open Go.Proofs.Tryz
def z4y:=zbr base 22 [(120,zlZ),(121,zme),(138,znT),(160,zHc)]
def zRx (a:Value) (b:Value):Wy0 (Int):=.bn (zep a.Kind b.Kind) λr2=>.bn (zjZ a.Int b.Int) λr1=>.bn (zn2 [r2,r1,(strings_Compare a.Text b.Text).2]) λr0=>.k r0
def zuk (a:Value) (b:Value):=(zRx a b).fin default
def z6X:AL base (Value×Value×Unit):=ze (zf (zcK 65)) (ze (zf (zcK 65)) zu)
def zCn:=zi z6X λx=>((zuk x.1 x.2.1).1,zSM (zuk x.1 x.2.1).2)
theorem zIj:SdP 125 zCn:=
 sT (cx':=z4y) (zk ⟨znL,zpc,ztw,zT9,trivial⟩) call125 func125 (lOK aN)
def zII (zB:yC->yC->Bool×Int) (zy:yA->yA->Bool×Int) (zI:yE->yE->Bool×Int) (zJ:Wd->Wd->Bool×Int):=zbr base 51 [(67,(zeP zB)),(120,zlZ),(121,zme),(122,(zbv zy)),(123,(zbJ zI)),(124,(zeQ zJ)),(125,zCn)]
def zyw (zB:yC->yC->Bool×Int) (zy:yA->yA->Bool×Int) (zI:yE->yE->Bool×Int) (zJ:Wd->Wd->Bool×Int) (a:At) (b:At):Wy0 (Int):=.bn (zep a.Kind b.Kind) λr8=>.bn (zep a.Row.Table b.Row.Table) λr7=>.bn (zep a.Row.Seq b.Row.Seq) λr6=>.bn (zy a.Ag b.Ag) λr5=>.bn (zep a.Func b.Func) λr4=>.bn (zI a.Items b.Items) λr3=>.bn (zep a.Op b.Op) λr2=>.bn (zuk a.Bd b.Bd) λr1=>.bn (zn2 [r8,r7,r6,r5,r4,r3,r2,r1]) λr0=>.k r0
def zls (zB:yC->yC->Bool×Int) (zy:yA->yA->Bool×Int) (zI:yE->yE->Bool×Int) (zJ:Wd->Wd->Bool×Int) (a:At) (b:At):=(zyw zB zy zI zJ a b).fin default
theorem zGp (zB:yC->yC->Bool×Int) (zy:yA->yA->Bool×Int) (zI:yE->yE->Bool×Int) (zJ:Wd->Wd->Bool×Int) (zkK:SdP 67 (zeP zB)) (zgp:SdP 122 (zbv zy)) (zhM:SdP 123 (zbJ zI)) (zos:SdP 124 (zeQ zJ)):SdP 65 (zhZ (zls zB zy zI zJ)):=
 sT (cx':=(zII zB zy zI zJ)) (zk ⟨zkK,znL,zpc,zgp,zhM,zos,zIj,trivial⟩) call65 func65 (lOK aN)
def zHt (zdb:At->At->Bool×Int):=zbr base 17 [(65,(zhZ zdb)),(120,zlZ),(121,zme)]
def zv4 (zdb:At->At->Bool×Int) (a:Fc) (b:Fc):Wy0 (Int):=.bn (zdb (At.mk a.At.Kind a.At.Row a.At.Ag a.At.Func a.At.Items a.At.Op a.At.Bd) (At.mk b.At.Kind b.At.Row b.At.Ag b.At.Func b.At.Items b.At.Op b.At.Bd)) λr2=>.bn (zep a.Exp b.Exp) λr1=>.bn (zn2 [r2,r1]) λr0=>.k r0
def zkh (zdb:At->At->Bool×Int) (a:Fc) (b:Fc):=(zv4 zdb a b).fin default
theorem zEz (zdb:At->At->Bool×Int) (zKV:SdP 65 (zhZ zdb)):SdP 119 (ze7 (zkh zdb)):=
 sT (cx':=(zHt zdb)) (zk ⟨zKV,znL,zpc,trivial⟩) call119 func119 (lOK aN)
def zJe (zB:yC->yC->Bool×Int):=zbr base 17 [(67,(zeP zB)),(120,zlZ),(125,zCn)]
def zys (zB:yC->yC->Bool×Int) (a:Wd) (b:Wd):Wy0 (Int):=.bn (zuk a.Value b.Value) λr2=>.bn (zB a.Ann b.Ann) λr1=>.bn (zn2 [r2,r1]) λr0=>.k r0
def zlv (zB:yC->yC->Bool×Int) (a:Wd) (b:Wd):=(zys zB a b).fin default
theorem zGr (zB:yC->yC->Bool×Int) (zkK:SdP 67 (zeP zB)):SdP 124 (zeQ (zlv zB)):=
 sT (cx':=(zJe zB)) (zk ⟨zkK,znL,zIj,trivial⟩) call124 func124 (lOK aN)
def zIN (zS:yD->yD->Bool×Int) (zA:Fc->Fc->Bool×Int):=zbr base 10 [(118,(zb3 zS)),(119,(ze7 zA))]
def zyr (zS:yD->yD->Bool×Int) (zA:Fc->Fc->Bool×Int) (a:Term) (b:Term):Wy0 (Int):=.bn (zS a.Fs b.Fs) λr0=>.k r0
def zlm (zS:yD->yD->Bool×Int) (zA:Fc->Fc->Bool×Int) (a:Term) (b:Term):=(zyr zS zA a b).fin default
theorem zGv (zS:yD->yD->Bool×Int) (zA:Fc->Fc->Bool×Int) (zj0:SdP 118 (zb3 zS)) (zmX:SdP 119 (ze7 zA)):SdP 63 (zgQ (zlm zS zA)):=
 sT (cx':=(zIN zS zA)) (zk ⟨zj0,zmX,trivial⟩) call63 func63 (lOK aN)
abbrev zbH:=yA×yA×Unit×yA×Int×Int×Unit
abbrev zdM:=Int⊕(yA×yA)
def zf0 (zB:yC->yC->Bool×Int) (s1:yA) (s2:yA) (t11:yA) (t12:Int) (t13:Int):Wy zbH Unit zdM:=.i (decide (t13<t12)) (.i (decide (0<=t13)&&decide (t13<Int.ofNat t11.length)) (.i (decide (t13≥Int.ofNat s2.length)) (.k (.inl 1)) (.i (decide (0<=t13)&&decide (t13<Int.ofNat s2.length)) (.bn (zB (t11.getD t13.toNat default) (s2.getD t13.toNat default)) λr0=>.i (r0 != 0) (.k (.inl (r0))) (.h (s1,s2,(),t11,t12,(IntKind.i64.wrap (t13+1)),()) ())) .d)) .d) (.k (.inr (s1,s2)))
def zcY (zB:yC->yC->Bool×Int) (x:zbH) (y:Unit):=zf0 zB x.1 x.2.1 x.2.2.2.1 x.2.2.2.2.1 x.2.2.2.2.2.1
def zf9 (zB:yC->yC->Bool×Int) (n:Nat) (s1:yA) (s2:yA) (t11:yA) (t12:Int) (t13:Int):=zC (zcY zB) (.inl default) n (s1,s2,(),t11,t12,t13,()) ()
def zfV (r:zdM):LTree ty:=.ite (isL r) (.done .ret [.lit (.int .i64 (getL r))] []) (.done (.exit 0) [.sl 23 (getR r).1,.sl 23 (getR r).2] [])
def zf8:LL ty zbH:=za (lSl 23) (za (lSl 23) (za (lFn 67 (zl)) (za (lSl 23) (za zj (za zj zl)))))
def zfU (x:zbH) (y:Unit):Nat:=(x.1.length+x.2.1.length+x.2.2.2.1.length+Int.toNat x.2.2.2.2.1+Int.toNat x.2.2.2.2.2.1+1)
def zcX (zB:yC->yC->Bool×Int):=zbV base 39 [(67,(zeP zB))] [] [(2,(kpL [0,1,2,11,12,13]))] [(2,1,(kpL [0,1])),(2,0,(kpL [6]))] [(2,spW zf8 zba6 (zcY zB) (.inl default) zfV zfU)] []
theorem zfW (zB:yC->yC->Bool×Int):zF (zcX zB) (lp (body f122) 0):=zq (id:=2) (hl:=rfl)
def zgm (zB:yC->yC->Bool×Int) (s1:yA) (s2:yA):Wy0 (Int):=.bn (zf9 zB (s1.length+s2.length+s1.length+(Int.ofNat s1.length).toNat +Int.toNat 0+1) s1 s2 s1 (Int.ofNat s1.length) 0) λr2=>.i (isL r2) (.k (getL r2)) (.i (decide (Int.ofNat (getR r2).1.length<Int.ofNat (getR r2).2.length)) (.k (-1:Int)) (.k 0))
def zbu (zB:yC->yC->Bool×Int) (s1:yA) (s2:yA):=(zgm zB s1 s2).fin default
theorem zfB (zB:yC->yC->Bool×Int) (zkK:SdP 67 (zeP zB)):SdP 122 (zbv (zbu zB)):=
 sT (cx':=(zcX zB)) (zk ⟨zkK,trivial⟩) call122 func122 (lOK (aC (zfW zB) aN))
abbrev zck:=yD×yD×Unit×yD×Int×Int×Unit
abbrev zfA:=Int⊕(yD×yD)
def zes (zA:Fc->Fc->Bool×Int) (s1:yD) (s2:yD) (t11:yD) (t12:Int) (t13:Int):Wy zck Unit zfA:=.i (decide (t13<t12)) (.i (decide (0<=t13)&&decide (t13<Int.ofNat t11.length)) (.i (decide (t13≥Int.ofNat s2.length)) (.k (.inl 1)) (.i (decide (0<=t13)&&decide (t13<Int.ofNat s2.length)) (.bn (zA (FO.mk (At.mk (t11.getD t13.toNat default).At.Kind (t11.getD t13.toNat default).At.Row (t11.getD t13.toNat default).At.Ag (t11.getD t13.toNat default).At.Func (t11.getD t13.toNat default).At.Items (t11.getD t13.toNat default).At.Op (t11.getD t13.toNat default).At.Bd) (t11.getD t13.toNat default).Exp) (FO.mk (At.mk (s2.getD t13.toNat default).At.Kind (s2.getD t13.toNat default).At.Row (s2.getD t13.toNat default).At.Ag (s2.getD t13.toNat default).At.Func (s2.getD t13.toNat default).At.Items (s2.getD t13.toNat default).At.Op (s2.getD t13.toNat default).At.Bd) (s2.getD t13.toNat default).Exp)) λr0=>.i (r0 != 0) (.k (.inl (r0))) (.h (s1,s2,(),t11,t12,(IntKind.i64.wrap (t13+1)),()) ())) .d)) .d) (.k (.inr (s1,s2)))
def zbT (zA:Fc->Fc->Bool×Int) (x:zck) (y:Unit):=zes zA x.1 x.2.1 x.2.2.2.1 x.2.2.2.2.1 x.2.2.2.2.2.1
def zet (zA:Fc->Fc->Bool×Int) (n:Nat) (s1:yD) (s2:yD) (t11:yD) (t12:Int) (t13:Int):=zC (zbT zA) (.inl default) n (s1,s2,(),t11,t12,t13,()) ()
def zjp (r:zfA):LTree ty:=.ite (isL r) (.done .ret [.lit (.int .i64 (getL r))] []) (.done (.exit 0) [.sl 69 (getR r).1,.sl 69 (getR r).2] [])
def zjB:LL ty zck:=za (lSl 69) (za (lSl 69) (za (lFn 119 (zl)) (za (lSl 69) (za zj (za zj zl)))))
def zjt (x:zck) (y:Unit):Nat:=(x.1.length+x.2.1.length+x.2.2.2.1.length+Int.toNat x.2.2.2.2.1+Int.toNat x.2.2.2.2.2.1+1)
def zeu (zA:Fc->Fc->Bool×Int):=zbV base 39 [(119,(ze7 zA))] [] [(2,(kpL [0,1,2,11,12,13]))] [(2,1,(kpL [0,1])),(2,0,(kpL [6]))] [(2,spW zjB zba6 (zbT zA) (.inl default) zjp zjt)] []
theorem zjs (zA:Fc->Fc->Bool×Int):zF (zeu zA) (lp (body f118) 0):=zq (id:=2) (hl:=rfl)
def zeG (zA:Fc->Fc->Bool×Int) (s1:yD) (s2:yD):Wy0 (Int):=.bn (zet zA (s1.length+s2.length+s1.length+(Int.ofNat s1.length).toNat +Int.toNat 0+1) s1 s2 s1 (Int.ofNat s1.length) 0) λr2=>.i (isL r2) (.k (getL r2)) (.i (decide (Int.ofNat (getR r2).1.length<Int.ofNat (getR r2).2.length)) (.k (-1:Int)) (.k 0))
def zbB (zA:Fc->Fc->Bool×Int) (s1:yD) (s2:yD):=(zeG zA s1 s2).fin default
theorem ziE (zA:Fc->Fc->Bool×Int) (zmX:SdP 119 (ze7 zA)):SdP 118 (zb3 (zbB zA)):=
 sT (cx':=(zeu zA)) (zk ⟨zmX,trivial⟩) call118 func118 (lOK (aC (zjs zA) aN))
abbrev zbZ:=yE×yE×Unit×yE×Int×Int×Unit
abbrev zeI:=Int⊕(yE×yE)
def zhs (zJ:Wd->Wd->Bool×Int) (s1:yE) (s2:yE) (t11:yE) (t12:Int) (t13:Int):Wy zbZ Unit zeI:=.i (decide (t13<t12)) (.i (decide (0<=t13)&&decide (t13<Int.ofNat t11.length)) (.i (decide (t13≥Int.ofNat s2.length)) (.k (.inl 1)) (.i (decide (0<=t13)&&decide (t13<Int.ofNat s2.length)) (.bn (zJ (t11.getD t13.toNat default) (s2.getD t13.toNat default)) λr0=>.i (r0 != 0) (.k (.inl (r0))) (.h (s1,s2,(),t11,t12,(IntKind.i64.wrap (t13+1)),()) ())) .d)) .d) (.k (.inr (s1,s2)))
def zdC (zJ:Wd->Wd->Bool×Int) (x:zbZ) (y:Unit):=zhs zJ x.1 x.2.1 x.2.2.2.1 x.2.2.2.2.1 x.2.2.2.2.2.1
def zhr (zJ:Wd->Wd->Bool×Int) (n:Nat) (s1:yE) (s2:yE) (t11:yE) (t12:Int) (t13:Int):=zC (zdC zJ) (.inl default) n (s1,s2,(),t11,t12,t13,()) ()
def zhj (r:zeI):LTree ty:=.ite (isL r) (.done .ret [.lit (.int .i64 (getL r))] []) (.done (.exit 0) [.sl 100 (getR r).1,.sl 100 (getR r).2] [])
def zht:LL ty zbZ:=za (lSl 100) (za (lSl 100) (za (lFn 124 (zl)) (za (lSl 100) (za zj (za zj zl)))))
def zhd (x:zbZ) (y:Unit):Nat:=(x.1.length+x.2.1.length+x.2.2.2.1.length+Int.toNat x.2.2.2.2.1+Int.toNat x.2.2.2.2.2.1+1)
def zdD (zJ:Wd->Wd->Bool×Int):=zbV base 39 [(124,(zeQ zJ))] [] [(2,(kpL [0,1,2,11,12,13]))] [(2,1,(kpL [0,1])),(2,0,(kpL [6]))] [(2,spW zht zba6 (zdC zJ) (.inl default) zhj zhd)] []
theorem zhm (zJ:Wd->Wd->Bool×Int):zF (zdD zJ) (lp (body f123) 0):=zq (id:=2) (hl:=rfl)
def zhN (zJ:Wd->Wd->Bool×Int) (s1:yE) (s2:yE):Wy0 (Int):=.bn (zhr zJ (s1.length+s2.length+s1.length+(Int.ofNat s1.length).toNat +Int.toNat 0+1) s1 s2 s1 (Int.ofNat s1.length) 0) λr2=>.i (isL r2) (.k (getL r2)) (.i (decide (Int.ofNat (getR r2).1.length<Int.ofNat (getR r2).2.length)) (.k (-1:Int)) (.k 0))
def zbK (zJ:Wd->Wd->Bool×Int) (s1:yE) (s2:yE):=(zhN zJ s1 s2).fin default
theorem zgT (zJ:Wd->Wd->Bool×Int) (zos:SdP 124 (zeQ zJ)):SdP 123 (zbJ (zbK zJ)):=
 sT (cx':=(zdD zJ)) (zk ⟨zos,trivial⟩) call123 func123 (lOK (aC (zhm zJ) aN))
abbrev zch:=yC×yC×Unit×yC×Int×Int×Unit
abbrev zfj:=Int⊕(yC×yC)
def zi7 (zQ:Term->Term->Bool×Int) (s1:yC) (s2:yC) (t11:yC) (t12:Int) (t13:Int):Wy zch Unit zfj:=.i (decide (t13<t12)) (.i (decide (0<=t13)&&decide (t13<Int.ofNat t11.length)) (.i (decide (t13≥Int.ofNat s2.length)) (.k (.inl 1)) (.i (decide (0<=t13)&&decide (t13<Int.ofNat s2.length)) (.bn (zQ (t11.getD t13.toNat default) (s2.getD t13.toNat default)) λr0=>.i (r0 != 0) (.k (.inl (r0))) (.h (s1,s2,(),t11,t12,(IntKind.i64.wrap (t13+1)),()) ())) .d)) .d) (.k (.inr (s1,s2)))
def zej (zQ:Term->Term->Bool×Int) (x:zch) (y:Unit):=zi7 zQ x.1 x.2.1 x.2.2.2.1 x.2.2.2.2.1 x.2.2.2.2.2.1
def zi4 (zQ:Term->Term->Bool×Int) (n:Nat) (s1:yC) (s2:yC) (t11:yC) (t12:Int) (t13:Int):=zC (zej zQ) (.inl default) n (s1,s2,(),t11,t12,t13,()) ()
def ziO (r:zfj):LTree ty:=.ite (isL r) (.done .ret [.lit (.int .i64 (getL r))] []) (.done (.exit 0) [.sl 28 (getR r).1,.sl 28 (getR r).2] [])
def zi3:LL ty zch:=za (lSl 28) (za (lSl 28) (za (lFn 137 (zl)) (za (lSl 28) (za zj (za zj zl)))))
def ziC (x:zch) (y:Unit):Nat:=(x.1.length+x.2.1.length+x.2.2.2.1.length+Int.toNat x.2.2.2.2.1+Int.toNat x.2.2.2.2.2.1+1)
def zei (zQ:Term->Term->Bool×Int):=zbV base 39 [(137,(zgQ zQ))] [] [(2,(kpL [0,1,2,11,12,13]))] [(2,1,(kpL [0,1])),(2,0,(kpL [6]))] [(2,spW zi3 zba6 (zej zQ) (.inl default) ziO ziC)] []
theorem ziI (zQ:Term->Term->Bool×Int):zF (zei zQ) (lp (body f136) 0):=zq (id:=2) (hl:=rfl)
def zjo (zQ:Term->Term->Bool×Int) (s1:yC) (s2:yC):Wy0 (Int):=.bn (zi4 zQ (s1.length+s2.length+s1.length+(Int.ofNat s1.length).toNat +Int.toNat 0+1) s1 s2 s1 (Int.ofNat s1.length) 0) λr2=>.i (isL r2) (.k (getL r2)) (.i (decide (Int.ofNat (getR r2).1.length<Int.ofNat (getR r2).2.length)) (.k (-1:Int)) (.k 0))
def zbU (zQ:Term->Term->Bool×Int) (s1:yC) (s2:yC):=(zjo zQ s1 s2).fin default
theorem zh9 (zQ:Term->Term->Bool×Int) (zqV:SdP 137 (zgQ zQ)):SdP 136 (zbX (zbU zQ)):=
 sT (cx':=(zei zQ)) (zk ⟨zqV,trivial⟩) call136 func136 (lOK (aC (ziI zQ) aN))
def zcr:Nat->(yC->yC->Bool×Int)×(Term->Term->Bool×Int)×(Term->Term->Bool×Int)×(Fc->Fc->Bool×Int)×(At->At->Bool×Int)×(Wd->Wd->Bool×Int)×(yC->yC->Bool×Int)×(yD->yD->Bool×Int)×(yA->yA->Bool×Int)×(yE->yE->Bool×Int)
 | 0=>(λ_ _=>(false,default),λ_ _=>(false,default),λ_ _=>(false,default),λ_ _=>(false,default),λ_ _=>(false,default),λ_ _=>(false,default),λ_ _=>(false,default),λ_ _=>(false,default),λ_ _=>(false,default),λ_ _=>(false,default))
 | n+1=>(zqm ((zcr n).2.2.2.2.2.2.1) ((zcr n).2.1),zm3 ((zcr n).2.2.1),zlm ((zcr n).2.2.2.2.2.2.2.1) ((zcr n).2.2.2.1),zkh ((zcr n).2.2.2.2.1),zls ((zcr n).1) ((zcr n).2.2.2.2.2.2.2.2.1) ((zcr n).2.2.2.2.2.2.2.2.2) ((zcr n).2.2.2.2.2.1),zlv ((zcr n).1),zbU ((zcr n).2.1),zbB ((zcr n).2.2.2.1),zbu ((zcr n).1),zbK ((zcr n).2.2.2.2.2.1))
def zg3 (n:Nat):yC->yC->Bool×Int:=(zcr n).1
def zjS (n:Nat):Term->Term->Bool×Int:=(zcr n).2.1
def zhT (n:Nat):Term->Term->Bool×Int:=(zcr n).2.2.1
def zgH (n:Nat):Fc->Fc->Bool×Int:=(zcr n).2.2.2.1
def zh6 (n:Nat):At->At->Bool×Int:=(zcr n).2.2.2.2.1
def zfK (n:Nat):Wd->Wd->Bool×Int:=(zcr n).2.2.2.2.2.1
def zbW (n:Nat):yC->yC->Bool×Int:=(zcr n).2.2.2.2.2.2.1
def zb4 (n:Nat):yD->yD->Bool×Int:=(zcr n).2.2.2.2.2.2.2.1
def zbw (n:Nat):yA->yA->Bool×Int:=(zcr n).2.2.2.2.2.2.2.2.1
def zbL (n:Nat):yE->yE->Bool×Int:=(zcr n).2.2.2.2.2.2.2.2.2
theorem zQD (n:Nat):zg3 (n+1)=zqm (zbW n) (zjS n):=rfl
theorem zL6 (n:Nat):zjS (n+1)=zm3 (zhT n):=rfl
theorem zJD (n:Nat):zhT (n+1)=zlm (zb4 n) (zgH n):=rfl
theorem zHs (n:Nat):zgH (n+1)=zkh (zh6 n):=rfl
theorem zJc (n:Nat):zh6 (n+1)=zls (zg3 n) (zbw n) (zbL n) (zfK n):=rfl
theorem zI7 (n:Nat):zfK (n+1)=zlv (zg3 n):=rfl
theorem zi5 (n:Nat):zbW (n+1)=zbU (zjS n):=rfl
theorem zjF (n:Nat):zb4 (n+1)=zbB (zgH n):=rfl
theorem zf4 (n:Nat):zbw (n+1)=zbu (zg3 n):=rfl
theorem zhx (n:Nat):zbL (n+1)=zbK (zfK n):=rfl
theorem zzR:∀ n,SdP 67 (zeP (zg3 n))/\SdP 137 (zgQ (zjS n))/\SdP 63 (zgQ (zhT n))/\SdP 119 (ze7 (zgH n))/\SdP 65 (zhZ (zh6 n))/\SdP 124 (zeQ (zfK n))/\SdP 136 (zbX (zbW n))/\SdP 118 (zb3 (zb4 n))/\SdP 122 (zbv (zbw n))/\SdP 123 (zbJ (zbL n))
 | 0=>⟨zbb call67 (λ_=>rfl),zbb call137 (λ_=>rfl),zbb call63 (λ_=>rfl),zbb call119 (λ_=>rfl),zbb call65 (λ_=>rfl),zbb call124 (λ_=>rfl),zbb call136 (λ_=>rfl),zbb call118 (λ_=>rfl),zbb call122 (λ_=>rfl),zbb call123 (λ_=>rfl)⟩
 | n+1=>by
  have ih:=zzR n;exact ⟨zMo _ _ (ih.2.2.2.2.2.2.1) (ih.2.1),zIb _ (ih.2.2.1),zGv _ _ (ih.2.2.2.2.2.2.2.1) (ih.2.2.2.1),zEz _ (ih.2.2.2.2.1),zGp _ _ _ _ (ih.1) (ih.2.2.2.2.2.2.2.2.1) (ih.2.2.2.2.2.2.2.2.2) (ih.2.2.2.2.2.1),zGr _ (ih.1),zh9 _ (ih.2.1),ziE _ (ih.2.2.2.1),zfB _ (ih.1),zgT _ (ih.2.2.2.2.2.1)⟩
def zDd:yC->yC->Bool×Int:=zg3 1000
def zDZ:Ab.Spec ty:=zeP zDd
theorem zOg:SdP 67 zDZ:=(zzR 1000).1
def zb9:Term->Term->Bool×Int:=zhT 1000
def zjk:Ab.Spec ty:=zgQ zb9
theorem zmN:SdP 63 zjk:=(zzR 1000).2.2.1
def zjO:At->At->Bool×Int:=zh6 1000
def znP:Ab.Spec ty:=zhZ zjO
theorem zv7:SdP 65 znP:=(zzR 1000).2.2.2.2.1
def zbP:Wd->Wd->Bool×Int:=zfK 1000
def zce:Ab.Spec ty:=zeQ zbP
theorem zco:SdP 124 zce:=(zzR 1000).2.2.2.2.2.1
def zZm:AL base (yC×Unit):=ze (zf (vSl 28)) zu
def ziP (F:yC->Bool×Bool):Ab.Spec ty:=zi zZm λx=>((F x.1).1,zYq (F x.1).2)
def zEP:AL base (At×Unit):=ze (zf (zcK 67)) zu
def znX (F:At->Bool×Bool):Ab.Spec ty:=zi zEP λx=>((F x.1).1,zYq (F x.1).2)
def zNq:AL base (Wd×Unit):=ze (zf (zcK 100)) zu
def zdT (F:Wd->Bool×Bool):Ab.Spec ty:=zi zNq λx=>((F x.1).1,zYq (F x.1).2)
def zpA:AL base (yA×Unit×Unit):=ze (zf (vSl 23)) (ze (zf (vFn 127 zb5)) zu)
def zcQ (F:yA->Bool×Int):Ab.Spec ty:=zi zpA λx=>((F x.1).1,zSM (F x.1).2)
def zcE (F:yA->Bool×Bool):Ab.Spec ty:=zi zpA λx=>((F x.1).1,zYq (F x.1).2)
def zsG:AL base (yE×Unit×Unit):=ze (zf (vSl 100)) (ze (zf (vFn 133 zb5)) zu)
def zdq (F:yE->Bool×Int):Ab.Spec ty:=zi zsG λx=>((F x.1).1,zSM (F x.1).2)
def zc2 (F:yE->Bool×Bool):Ab.Spec ty:=zi zsG λx=>((F x.1).1,zYq (F x.1).2)
def zPX:=zbr base 11 []
def zDT (x_:At):Wy0 (Bool):=.i (x_.Kind==3) (.k true) (.k (x_.Kind==4))
def zgn (x_:At):=(zDT x_).fin default
def zkM:=zi zEP λx=>((zgn x.1).1,zYq (zgn x.1).2)
theorem zoN:SdP 64 zkM:=
 sT (cx':=zPX) (zk trivial) call64 func64 (lOK aN)
def zpY (F:yC->Bool×Int):Ab.Spec ty:=zi zZm λx=>((F x.1).1,zSM (F x.1).2)
end Go.Proofs.YtljlfiomikifjaaGreatDoor
end
