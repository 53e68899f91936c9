/- Texts of this claim, joined (the program, its functions in plain words, and what they compute). -/
import Derived.KernelRfl
import Derived.Test.YtljlfiomikifjaaGreatDoorChecked
import Derived.Test.YtljlfiomikifjaaGreatDoorProg
import Derived.Test.YtljlfiomikifjaaGreatDoorGB1
set_option autoImplicit false
set_option linter.unusedVariables false
set_option linter.unusedSectionVars false
set_option linter.unusedSimpArgs false
set_option maxRecDepth 1000000
set_option maxHeartbeats 0
/- The types of the program, as plain data. -/
noncomputable section
namespace Go.Proofs.YtljlfiomikifjaaGreatDoor
open Go Go.Ab
open Go.Proofs Go.Shelf
open Go.Proofs.Tryz
structure RowID where
 Table:Int
 Seq:Int
 deriving DecidableEq,Inhabited
structure Value where
 Kind:Int
 Int:Int
 Text:ByteArray
 deriving DecidableEq,Inhabited
structure FO (A:Type) where
 At:A
 Exp:Int
structure TO (A:Type) where
 Cf:Int
 Fs:List (FO A)
structure WO (A:Type) where
 Value:Value
 Ann:List (TO A)
structure At where
 Kind:Int
 Row:RowID
 Ag:List (List (TO At))
 Func:Int
 Items:List (WO At)
 Op:Int
 Bd:Value
abbrev Fc:=FO At
abbrev Term:=TO At
abbrev Wd:=WO At
instance:Inhabited At:=⟨⟨0,default,[],0,[],0,default⟩⟩
instance:Inhabited Fc:=⟨⟨default,0⟩⟩
instance:Inhabited Term:=⟨⟨0,[]⟩⟩
instance:Inhabited Wd:=⟨⟨default,[]⟩⟩
theorem At.eta (x:At):(⟨x.Kind,x.Row,x.Ag,x.Func,x.Items,x.Op,x.Bd⟩:At)=x:=by cases x; rfl
mutual
def zbhy:(x y:At)->Decidable (x=y)
 | ⟨k,r,a,f,i,o,b⟩,⟨k',r',a',f',i',o',b'⟩=>
  match decEq k k',decEq r r',zbhu a a',decEq f f',zbfC i i',decEq o o',decEq b b' with
  | .isTrue h1,.isTrue h2,.isTrue h3,.isTrue h4,.isTrue h5,.isTrue h6,.isTrue h7=>.isTrue (by subst h1 h2 h3 h4 h5 h6 h7; rfl)
  | .isFalse h,_,_,_,_,_,_=>.isFalse (λe=>by cases e; exact h rfl)
  | _,.isFalse h,_,_,_,_,_=>.isFalse (λe=>by cases e; exact h rfl)
  | _,_,.isFalse h,_,_,_,_=>.isFalse (λe=>by cases e; exact h rfl)
  | _,_,_,.isFalse h,_,_,_=>.isFalse (λe=>by cases e; exact h rfl)
  | _,_,_,_,.isFalse h,_,_=>.isFalse (λe=>by cases e; exact h rfl)
  | _,_,_,_,_,.isFalse h,_=>.isFalse (λe=>by cases e; exact h rfl)
  | _,_,_,_,_,_,.isFalse h=>.isFalse (λe=>by cases e; exact h rfl)
def zbcv:(x y:Fc)->Decidable (x=y)
 | ⟨a,e⟩,⟨a',e'⟩=>match zbhy a a',decEq e e' with
  | .isTrue h1,.isTrue h2=>.isTrue (by subst h1 h2; rfl)
  | .isFalse h,_=>.isFalse (λe=>by cases e; exact h rfl)
  | _,.isFalse h=>.isFalse (λe=>by cases e; exact h rfl)
def z9Z:(x y:List Fc)->Decidable (x=y)
 | [],[]=>.isTrue rfl
 | [],_::_=>.isFalse (by simp)
 | _::_,[]=>.isFalse (by simp)
 | x::r,y::s=>match zbcv x y,z9Z r s with
  | .isTrue h1,.isTrue h2=>.isTrue (by subst h1 h2; rfl)
  | .isFalse h,_=>.isFalse (λe=>by cases e; exact h rfl)
  | _,.isFalse h=>.isFalse (λe=>by cases e; exact h rfl)
def zbhJ:(x y:Term)->Decidable (x=y)
 | ⟨a,e⟩,⟨a',e'⟩=>match decEq a a',z9Z e e' with
  | .isTrue h1,.isTrue h2=>.isTrue (by subst h1 h2; rfl)
  | .isFalse h,_=>.isFalse (λe=>by cases e; exact h rfl)
  | _,.isFalse h=>.isFalse (λe=>by cases e; exact h rfl)
def zbeU:(x y:List Term)->Decidable (x=y)
 | [],[]=>.isTrue rfl
 | [],_::_=>.isFalse (by simp)
 | _::_,[]=>.isFalse (by simp)
 | x::r,y::s=>match zbhJ x y,zbeU r s with
  | .isTrue h1,.isTrue h2=>.isTrue (by subst h1 h2; rfl)
  | .isFalse h,_=>.isFalse (λe=>by cases e; exact h rfl)
  | _,.isFalse h=>.isFalse (λe=>by cases e; exact h rfl)
def zbhu:(x y:List (List Term))->Decidable (x=y)
 | [],[]=>.isTrue rfl
 | [],_::_=>.isFalse (by simp)
 | _::_,[]=>.isFalse (by simp)
 | x::r,y::s=>match zbeU x y,zbhu r s with
  | .isTrue h1,.isTrue h2=>.isTrue (by subst h1 h2; rfl)
  | .isFalse h,_=>.isFalse (λe=>by cases e; exact h rfl)
  | _,.isFalse h=>.isFalse (λe=>by cases e; exact h rfl)
def zbhC:(x y:Wd)->Decidable (x=y)
 | ⟨a,e⟩,⟨a',e'⟩=>match decEq a a',zbeU e e' with
  | .isTrue h1,.isTrue h2=>.isTrue (by subst h1 h2; rfl)
  | .isFalse h,_=>.isFalse (λe=>by cases e; exact h rfl)
  | _,.isFalse h=>.isFalse (λe=>by cases e; exact h rfl)
def zbfC:(x y:List Wd)->Decidable (x=y)
 | [],[]=>.isTrue rfl
 | [],_::_=>.isFalse (by simp)
 | _::_,[]=>.isFalse (by simp)
 | x::r,y::s=>match zbhC x y,zbfC r s with
  | .isTrue h1,.isTrue h2=>.isTrue (by subst h1 h2; rfl)
  | .isFalse h,_=>.isFalse (λe=>by cases e; exact h rfl)
  | _,.isFalse h=>.isFalse (λe=>by cases e; exact h rfl)
end
instance:DecidableEq At:=zbhy
instance:DecidableEq Fc:=zbcv
instance:DecidableEq Term:=zbhJ
instance:DecidableEq Wd:=zbhC
structure Bg where
 Row:RowID
 To:List Term
 deriving DecidableEq,Inhabited
abbrev yA:=List (List Term)
abbrev yB:=List (List RowID)
abbrev yC:=List Term
abbrev yD:=List Fc
abbrev yE:=List Wd
abbrev yF:=List RowID
abbrev yG:=List Bg
abbrev yH:=List Value
def ty:Nat->Type
 | 2=>Int
 | 3=>Int
 | 4=>Bool
 | 5=>Int
 | 9=>ByteArray
 | 22=>yC
 | 23=>yC
 | 26=>yD
 | 28=>Term
 | 35=>Int
 | 39=>yB
 | 43=>yF
 | 47=>yG
 | 49=>RowID
 | 51=>Bg
 | 60=>yA
 | 63=>yE
 | 65=>Value
 | 67=>At
 | 69=>Fc
 | 100=>Wd
 | 121=>Unit
 | 135=>Int
 | 138=>List Int
 | 144=>List ByteArray
 | 189=>List (yD)
 | _=>Unit
instance:(T:Nat)->Inhabited (ty T):=λT=>by
 unfold ty;split <;>infer_instance
def zbkK:DT ty RowID:=zXd (λx=>⟨x.1,x.2⟩) (λx=>(x.Table,x.Seq)) (λ_=>rfl) (zvJ (zzv .i64) (zzv .i64))
def zblb:DT ty Value:=zXd (λx=>⟨x.1,x.2.1,x.2.2⟩) (λx=>(x.Kind,x.Int,x.Text)) (λ_=>rfl) (zvJ (zzv .i64) (zvJ (zzv .i64) (zblW)))
def zboc:DT ty At:=zXd (λx=>⟨x.1,x.2.1,x.2.2.1,x.2.2.2.1,x.2.2.2.2.1,x.2.2.2.2.2.1,x.2.2.2.2.2.2⟩) (λx=>(x.Kind,x.Row,x.Ag,x.Func,x.Items,x.Op,x.Bd)) (λ_=>rfl) (zvJ (zzv .i64) (zvJ (zbkK) (zvJ (zCR 23) (zvJ (zzv .i64) (zvJ (zCR 100) (zvJ (zzv .i64) (zblb)))))))
def zboQ:DT ty Fc:=zXd (λx=>⟨x.1,x.2⟩) (λx=>(x.At,x.Exp)) (λ_=>rfl) (zvJ (zboc) (zzv .i64))
def zbo3:DT ty Term:=zXd (λx=>⟨x.1,x.2⟩) (λx=>(x.Cf,x.Fs)) (λ_=>rfl) (zvJ (zzv .i64) (zCR 69))
def zboi:DT ty Wd:=zXd (λx=>⟨x.1,x.2⟩) (λx=>(x.Value,x.Ann)) (λ_=>rfl) (zvJ (zblb) (zCR 28))
def zboR:DT ty Bg:=zXd (λx=>⟨x.1,x.2⟩) (λx=>(x.Row,x.To)) (λ_=>rfl) (zvJ (zbkK) (zCR 28))
def z91:List ((T:Nat)×DT ty (ty T)):=[⟨2,(zzv .i64:DT ty Int)⟩,⟨3,(zzv .i64:DT ty Int)⟩,⟨4,(zbn4:DT ty Bool)⟩,⟨5,(zzv .u8:DT ty Int)⟩,⟨9,(zblW:DT ty ByteArray)⟩,⟨22,(zCR 28:DT ty (yC))⟩,⟨23,(zCR 28:DT ty (yC))⟩,⟨26,(zCR 69:DT ty (yD))⟩,⟨28,(zbo3:DT ty Term)⟩,⟨35,(zzv .i64:DT ty Int)⟩,⟨39,(zCR 43:DT ty (yB))⟩,⟨43,(zCR 49:DT ty (yF))⟩,⟨47,(zCR 51:DT ty (yG))⟩,⟨49,(zbkK:DT ty RowID)⟩,⟨51,(zboR:DT ty Bg)⟩,⟨60,(zCR 23:DT ty (yA))⟩,⟨63,(zCR 100:DT ty (yE))⟩,⟨65,(zblb:DT ty Value)⟩,⟨67,(zboc:DT ty At)⟩,⟨69,(zboQ:DT ty Fc)⟩,⟨100,(zboi:DT ty Wd)⟩,⟨121,(zbo2:DT ty Unit)⟩,⟨135,(zzv .u64:DT ty Int)⟩,⟨138,(zCR 3:DT ty (List Int))⟩,⟨144,(zCR 9:DT ty (List ByteArray))⟩,⟨189,(zCR 26:DT ty (List (yD)))⟩]
def zbd9:List (Nat×TInfo):=[(2,⟨.int .i64,1,8,[.int .i64 (0)]⟩),
 (3,⟨.int .i64,1,8,[.int .i64 (0)]⟩),
 (4,⟨.bool,1,1,[.bool false]⟩),
 (5,⟨.int .u8,1,1,[.int .u8 (0)]⟩),
 (9,⟨.str,1,16,[.string ⟨#[]⟩]⟩),
 (22,⟨.slice 28,1,24,[.slice none 0 0]⟩),
 (23,⟨.slice 28,1,24,[.slice none 0 0]⟩),
 (26,⟨.slice 69,1,24,[.slice none 0 0]⟩),
 (28,⟨.struct [(0,2),(1,26)],2,32,[.int .i64 (0),.slice none 0 0]⟩),
 (35,⟨.int .i64,1,8,[.int .i64 (0)]⟩),
 (39,⟨.slice 43,1,24,[.slice none 0 0]⟩),
 (43,⟨.slice 49,1,24,[.slice none 0 0]⟩),
 (47,⟨.slice 51,1,24,[.slice none 0 0]⟩),
 (49,⟨.struct [(0,3),(1,3)],2,16,[.int .i64 (0),.int .i64 (0)]⟩),
 (51,⟨.struct [(0,49),(2,23)],3,40,[.int .i64 (0),.int .i64 (0),.slice none 0 0]⟩),
 (60,⟨.slice 23,1,24,[.slice none 0 0]⟩),
 (63,⟨.slice 100,1,24,[.slice none 0 0]⟩),
 (65,⟨.struct [(0,3),(1,2),(2,9)],3,32,[.int .i64 (0),.int .i64 (0),.string ⟨#[]⟩]⟩),
 (67,⟨.struct [(0,3),(1,49),(3,60),(4,3),(5,63),(6,3),(7,65)],10,120,[.int .i64 (0),.int .i64 (0),.int .i64 (0),.slice none 0 0,.int .i64 (0),.slice none 0 0,.int .i64 (0),.int .i64 (0),.int .i64 (0),.string ⟨#[]⟩]⟩),
 (69,⟨.struct [(0,67),(10,3)],11,128,[.int .i64 (0),.int .i64 (0),.int .i64 (0),.slice none 0 0,.int .i64 (0),.slice none 0 0,.int .i64 (0),.int .i64 (0),.int .i64 (0),.string ⟨#[]⟩,.int .i64 (0)]⟩),
 (100,⟨.struct [(0,65),(3,23)],4,56,[.int .i64 (0),.int .i64 (0),.string ⟨#[]⟩,.slice none 0 0]⟩),
 (121,⟨.map 9 3,1,8,[.map none]⟩),
 (135,⟨.int .u64,1,8,[.int .u64 (0)]⟩),
 (138,⟨.slice 3,1,24,[.slice none 0 0]⟩),
 (144,⟨.slice 9,1,24,[.slice none 0 0]⟩),
 (189,⟨.slice 26,1,24,[.slice none 0 0]⟩)]
def z0c:List (Nat×List TD):=[(49,[.int .i64,.int .i64]),(65,[.int .i64,.int .i64,.str])]
def inv (w:World):Prop:=Lib.TabIs Tryz.prog w "internal/strconv.uint64pow10" .u64 Lib.pow10Tab/\(∃ m,w.cell? ⟨0,0,none⟩=some (.int .i64 m))
theorem zbk8 {n:String} {g:Nat} {w w':World} (hg:Tryz.prog.globalNamed n=some g) (h:w'.heap[g]? =w.heap[g]?):w'.var? Tryz.prog n=w.var? Tryz.prog n:=by
 unfold World.var?; rw [hg]; simp only [Option.bind_some,h]
theorem zbie (w w':World) (hi:inv w) (hb:∀ b,b<4->w'.heap[b]? =w.heap[b]?):inv w':=by
 obtain ⟨h1,⟨m,h2⟩⟩:=hi;refine ⟨(zbk8 (g:=1) (by kernel_rfl) (hb 1 (by omega))).trans h1,⟨m, ?_⟩⟩
 rw [<- h2]; exact World.cell?_of_block (a:=⟨0,0,none⟩) (hb 0 (by omega))
def base:Cx ty:={ ti:=λT=>zbd9.lookup T,dflt:=λ_=>default,enc:=λT=>(zbgg z91 T).enc,dec:=λT=>(zbgg z91 T).dec,spec:=λ_=>none,io:=λ_=>[],eqs:=λT us vs=>match z0c.lookup T with | some ts=>zbu ts us vs | none=>none,nt:=0,head:=λ_=>[],out:=λ_ _=>[],loops:=λ_=>none,ng:=4,inv:=inv }
theorem zbh7:Tryz.prog.info? 2=some Tryz.t2:=by kernel_rfl
theorem zQy:Tryz.prog.info? 3=some Tryz.t3:=by kernel_rfl
theorem zbov:Tryz.prog.info? 4=some Tryz.t4:=by kernel_rfl
theorem zboD:Tryz.prog.info? 5=some Tryz.t5:=by kernel_rfl
theorem zblP:Tryz.prog.info? 9=some Tryz.t9:=by kernel_rfl
theorem zbnr:Tryz.prog.info? 22=some Tryz.t22:=by kernel_rfl
theorem zbeF:Tryz.prog.info? 23=some Tryz.t23:=by kernel_rfl
theorem zbjT:Tryz.prog.info? 26=some Tryz.t26:=by kernel_rfl
theorem zbnL:Tryz.prog.info? 28=some Tryz.t28:=by kernel_rfl
theorem zbn7:Tryz.prog.info? 35=some Tryz.t35:=by kernel_rfl
theorem zbnK:Tryz.prog.info? 39=some Tryz.t39:=by kernel_rfl
theorem zbnw:Tryz.prog.info? 43=some Tryz.t43:=by kernel_rfl
theorem zbnY:Tryz.prog.info? 47=some Tryz.t47:=by kernel_rfl
theorem zbfq:Tryz.prog.info? 49=some Tryz.t49:=by kernel_rfl
theorem zbnt:Tryz.prog.info? 51=some Tryz.t51:=by kernel_rfl
theorem zbjh:Tryz.prog.info? 60=some Tryz.t60:=by kernel_rfl
theorem zbjM:Tryz.prog.info? 63=some Tryz.t63:=by kernel_rfl
theorem zbfu:Tryz.prog.info? 65=some Tryz.t65:=by kernel_rfl
theorem zbkd:Tryz.prog.info? 67=some Tryz.t67:=by kernel_rfl
theorem zbnz:Tryz.prog.info? 69=some Tryz.t69:=by kernel_rfl
theorem zbl5:Tryz.prog.info? 100=some Tryz.t100:=by kernel_rfl
theorem zbmo:Tryz.prog.info? 121=some Tryz.t121:=by kernel_rfl
theorem zbmi:Tryz.prog.info? 135=some Tryz.t135:=by kernel_rfl
theorem zbmt:Tryz.prog.info? 138=some Tryz.t138:=by kernel_rfl
theorem zbmC:Tryz.prog.info? 144=some Tryz.t144:=by kernel_rfl
theorem zbl4:Tryz.prog.info? 189=some Tryz.t189:=by kernel_rfl
theorem zbms:∀ T i,zbd9.lookup T=some i->InfoOK Tryz.prog T i:=by
 intro T i h;have h:=zK9 _ _ _ h;simp only [zbd9,qd,List.not_mem_nil,or_false,qb] at h;rcases h with ⟨rfl,rfl⟩ | ⟨rfl,rfl⟩ | ⟨rfl,rfl⟩ | ⟨rfl,rfl⟩ | ⟨rfl,rfl⟩ | ⟨rfl,rfl⟩ | ⟨rfl,rfl⟩ | ⟨rfl,rfl⟩ | ⟨rfl,rfl⟩ | ⟨rfl,rfl⟩ | ⟨rfl,rfl⟩ | ⟨rfl,rfl⟩ | ⟨rfl,rfl⟩ | ⟨rfl,rfl⟩ | ⟨rfl,rfl⟩ | ⟨rfl,rfl⟩ | ⟨rfl,rfl⟩ | ⟨rfl,rfl⟩ | ⟨rfl,rfl⟩ | ⟨rfl,rfl⟩ | ⟨rfl,rfl⟩ | ⟨rfl,rfl⟩ | ⟨rfl,rfl⟩ | ⟨rfl,rfl⟩ | ⟨rfl,rfl⟩ | ⟨rfl,rfl⟩
 ·exact ⟨Tryz.t2,_,_,zbh7,underlying2,rfl,rfl,rfl,rfl,rfl,⟨by simp [zcr],λ_=>rfl⟩,rfl⟩
 ·exact ⟨Tryz.t3,_,_,zQy,underlying3,rfl,rfl,rfl,rfl,rfl,⟨by simp [zcr],λ_=>rfl⟩,rfl⟩
 ·exact ⟨Tryz.t4,_,_,zbov,underlying4,rfl,rfl,rfl,rfl,rfl,⟨by simp [zcr],λ_=>rfl⟩,rfl⟩
 ·exact ⟨Tryz.t5,_,_,zboD,underlying5,rfl,rfl,rfl,rfl,rfl,⟨by simp [zcr],λ_=>rfl⟩,rfl⟩
 ·exact ⟨Tryz.t9,_,_,zblP,underlying9,rfl,rfl,rfl,rfl,rfl,⟨by simp [zcr],λ_=>rfl⟩,rfl⟩
 ·exact ⟨Tryz.t22,_,_,zbnr,underlying22,rfl,rfl,rfl,rfl,rfl,⟨by simp [zcr],λ_=>rfl⟩,rfl⟩
 ·exact ⟨Tryz.t23,_,_,zbeF,underlying23,rfl,rfl,rfl,rfl,rfl,⟨by simp [zcr],λ_=>rfl⟩,rfl⟩
 ·exact ⟨Tryz.t26,_,_,zbjT,underlying26,rfl,rfl,rfl,rfl,rfl,⟨by simp [zcr],λ_=>rfl⟩,rfl⟩
 ·exact ⟨Tryz.t28,_,_,zbnL,underlying28,rfl,rfl,rfl,rfl,rfl,⟨by simp [zcr],λh=>by cases h⟩,⟨_,rfl,rfl,λf hf=>by
   simp only [qd,List.not_mem_nil,or_false] at hf;rcases hf with rfl | rfl
   ·exact Option.isSome_iff_exists.2 ⟨_,zbh7⟩
   ·exact Option.isSome_iff_exists.2 ⟨_,zbjT⟩⟩⟩
 ·exact ⟨Tryz.t35,_,_,zbn7,underlying35,rfl,rfl,rfl,rfl,rfl,⟨by simp [zcr],λ_=>rfl⟩,rfl⟩
 ·exact ⟨Tryz.t39,_,_,zbnK,underlying39,rfl,rfl,rfl,rfl,rfl,⟨by simp [zcr],λ_=>rfl⟩,rfl⟩
 ·exact ⟨Tryz.t43,_,_,zbnw,underlying43,rfl,rfl,rfl,rfl,rfl,⟨by simp [zcr],λ_=>rfl⟩,rfl⟩
 ·exact ⟨Tryz.t47,_,_,zbnY,underlying47,rfl,rfl,rfl,rfl,rfl,⟨by simp [zcr],λ_=>rfl⟩,rfl⟩
 ·exact ⟨Tryz.t49,_,_,zbfq,underlying49,rfl,rfl,rfl,rfl,rfl,⟨by simp [zcr],λh=>by cases h⟩,⟨_,rfl,rfl,λf hf=>by
   simp only [qd,List.not_mem_nil,or_false] at hf;rcases hf with rfl | rfl
   ·exact Option.isSome_iff_exists.2 ⟨_,zQy⟩
   ·exact Option.isSome_iff_exists.2 ⟨_,zQy⟩⟩⟩
 ·exact ⟨Tryz.t51,_,_,zbnt,underlying51,rfl,rfl,rfl,rfl,rfl,⟨by simp [zcr],λh=>by cases h⟩,⟨_,rfl,rfl,λf hf=>by
   simp only [qd,List.not_mem_nil,or_false] at hf;rcases hf with rfl | rfl
   ·exact Option.isSome_iff_exists.2 ⟨_,zbfq⟩
   ·exact Option.isSome_iff_exists.2 ⟨_,zbeF⟩⟩⟩
 ·exact ⟨Tryz.t60,_,_,zbjh,underlying60,rfl,rfl,rfl,rfl,rfl,⟨by simp [zcr],λ_=>rfl⟩,rfl⟩
 ·exact ⟨Tryz.t63,_,_,zbjM,underlying63,rfl,rfl,rfl,rfl,rfl,⟨by simp [zcr],λ_=>rfl⟩,rfl⟩
 ·exact ⟨Tryz.t65,_,_,zbfu,underlying65,rfl,rfl,rfl,rfl,rfl,⟨by simp [zcr],λh=>by cases h⟩,⟨_,rfl,rfl,λf hf=>by
   simp only [qd,List.not_mem_nil,or_false] at hf;rcases hf with rfl | rfl | rfl
   ·exact Option.isSome_iff_exists.2 ⟨_,zQy⟩
   ·exact Option.isSome_iff_exists.2 ⟨_,zbh7⟩
   ·exact Option.isSome_iff_exists.2 ⟨_,zblP⟩⟩⟩
 ·exact ⟨Tryz.t67,_,_,zbkd,underlying67,rfl,rfl,rfl,rfl,rfl,⟨by simp [zcr],λh=>by cases h⟩,⟨_,rfl,rfl,λf hf=>by
   simp only [qd,List.not_mem_nil,or_false] at hf;rcases hf with rfl | rfl | rfl | rfl | rfl | rfl | rfl
   ·exact Option.isSome_iff_exists.2 ⟨_,zQy⟩
   ·exact Option.isSome_iff_exists.2 ⟨_,zbfq⟩
   ·exact Option.isSome_iff_exists.2 ⟨_,zbjh⟩
   ·exact Option.isSome_iff_exists.2 ⟨_,zQy⟩
   ·exact Option.isSome_iff_exists.2 ⟨_,zbjM⟩
   ·exact Option.isSome_iff_exists.2 ⟨_,zQy⟩
   ·exact Option.isSome_iff_exists.2 ⟨_,zbfu⟩⟩⟩
 ·exact ⟨Tryz.t69,_,_,zbnz,underlying69,rfl,rfl,rfl,rfl,rfl,⟨by simp [zcr],λh=>by cases h⟩,⟨_,rfl,rfl,λf hf=>by
   simp only [qd,List.not_mem_nil,or_false] at hf;rcases hf with rfl | rfl
   ·exact Option.isSome_iff_exists.2 ⟨_,zbkd⟩
   ·exact Option.isSome_iff_exists.2 ⟨_,zQy⟩⟩⟩
 ·exact ⟨Tryz.t100,_,_,zbl5,underlying100,rfl,rfl,rfl,rfl,rfl,⟨by simp [zcr],λh=>by cases h⟩,⟨_,rfl,rfl,λf hf=>by
   simp only [qd,List.not_mem_nil,or_false] at hf;rcases hf with rfl | rfl
   ·exact Option.isSome_iff_exists.2 ⟨_,zbfu⟩
   ·exact Option.isSome_iff_exists.2 ⟨_,zbeF⟩⟩⟩
 ·exact ⟨Tryz.t121,_,_,zbmo,underlying121,rfl,rfl,rfl,rfl,rfl,⟨by simp [zcr],λ_=>rfl⟩,rfl⟩
 ·exact ⟨Tryz.t135,_,_,zbmi,underlying135,rfl,rfl,rfl,rfl,rfl,⟨by simp [zcr],λ_=>rfl⟩,rfl⟩
 ·exact ⟨Tryz.t138,_,_,zbmt,underlying138,rfl,rfl,rfl,rfl,rfl,⟨by simp [zcr],λ_=>rfl⟩,rfl⟩
 ·exact ⟨Tryz.t144,_,_,zbmC,underlying144,rfl,rfl,rfl,rfl,rfl,⟨by simp [zcr],λ_=>rfl⟩,rfl⟩
 ·exact ⟨Tryz.t189,_,_,zbl4,underlying189,rfl,rfl,rfl,rfl,rfl,⟨by simp [zcr],λ_=>rfl⟩,rfl⟩
theorem zbkp:∀ T us vs b,(match z0c.lookup T with | some ts=>zbu ts us vs | none=>none)=some b->∀ w,zbif Tryz.prog T us vs b w:=by
 intro T us vs b h w;split at h
 ·rename_i ts hl;have hl:=zK9 _ _ _ hl;simp only [z0c,qd,List.not_mem_nil,or_false,qb] at hl;rcases hl with ⟨rfl,rfl⟩ | ⟨rfl,rfl⟩
  ·refine z8t _ _ underlying49 (by kernel_rfl) (by kernel_rfl) rfl ?_ h w
   intro j f t hj ht;rcases j with _ | j
   ·simp at hj ht; subst hj ht; exact ⟨rfl,by decide,_,underlying3,rfl⟩
   rcases j with _ | j
   ·simp at hj ht; subst hj ht; exact ⟨rfl,by decide,_,underlying3,rfl⟩
   simp at hj
  ·refine z8t _ _ underlying65 (by kernel_rfl) (by kernel_rfl) rfl ?_ h w
   intro j f t hj ht;rcases j with _ | j
   ·simp at hj ht; subst hj ht; exact ⟨rfl,by decide,_,underlying3,rfl⟩
   rcases j with _ | j
   ·simp at hj ht; subst hj ht; exact ⟨rfl,by decide,_,underlying2,rfl⟩
   rcases j with _ | j
   ·simp at hj ht; subst hj ht; exact ⟨rfl,by decide,_,underlying9,rfl⟩
   simp at hj
 ·cases h
theorem zbkP:∀ T us vs,base.eqs T us us=some true->base.eqs T vs vs=some true->base.eqs T us vs=some (zyu us vs)/\(zyu us vs=true->us=vs)/\∀ u∈us,∀ n,Instr.sameBits n u u=true:=by
 intro T us vs h1 h2;simp only [base] at h1 h2 ⊢;cases hl:z0c.lookup T with
 | none=>rw [hl] at h1; cases h1
 | some ts=>rw [hl] at h1 h2; exact zbam ts us vs h1 h2
theorem zblI:∀ T us b,base.eqs T us us=some b->b=true:=by
 intro T us b h;simp only [base] at h;cases hl:z0c.lookup T with
 | none=>rw [hl] at h; cases h
 | some ts=>rw [hl] at h; exact z5K ts us b h
abbrev SdP:=Sound Tryz.prog base
theorem zgn:CxOK Tryz.prog base:=⟨zbms,λT x=>by rw [show zr base T=_ from (zbfY z91 zbd9 rfl T).symm]; exact DT.len _ x,λT x c h=>by have:=DT.cell _ _ c h; revert this; cases c <;>exact id,λT cs x h F w us hr=>DT.ok _ base F w us cs x h hr,zbkp,zbkP,zblI,zbie⟩
def zb5:Cx ty:={ base with dr:=false }
theorem zPg:CxOK Tryz.prog zb5:=CxOK.cg (cx:=base) (cx':=zb5) ⟨rfl,rfl,rfl,rfl,rfl,rfl⟩ zgn
theorem zGk:Tryz.prog.follows .mixedOrders=true:=by kernel_rfl
theorem sT {cx':Cx ty} {α ρ:Type} (hspec:∀ g s,cx'.spec g=some s->SdP g s) {f:Nat} {fn:Func} (hent:∀ args w,(callFunc f args).run Tryz.prog w=.ok (.enter f args) w) (hf:Tryz.prog.funcs[f]? =some fn) (hl:ziP cx' (body fn)) (sg:Sig:=⟨[.pure],[]⟩) {A:AL base α} {res:ρ->ARes ty} {W:α->Wy0 ρ} {z:ρ}
  (hb:fn.body=some (body fn):=by kernel_rfl)
  (hrun:∀ x,zgD cx' fn (body fn) sg (A.enc x)=(W x).ev noH (λr=>some (res r)) none:=by intro _; kernel_rfl)
  (hchk:∀ x,(Nat.ble (A.enc x).length fn.ntmps&&zOU (body fn) (A.enc x) sg.upd)=true:=by intro _; kernel_rfl) (hsame:base.Same cx':=by exact zbfN):
  SdP f (zh A λx=>(((W x).fin z).1,res ((W x).fin z).2)):=sW zGk zgn hsame hspec hent hf hl sg hb hrun hchk
theorem sU {cx':Cx ty} {α ρ:Type} (hspec:∀ g s,cx'.spec g=some s->Sound Tryz.prog zb5 g s) {f:Nat} {fn:Func} (hent:∀ args w,(callFunc f args).run Tryz.prog w=.ok (.enter f args) w) (hf:Tryz.prog.funcs[f]? =some fn) (hl:ziP cx' (body fn)) (sg:Sig:=⟨[.pure],[]⟩) {A:AL zb5 α} {res:ρ->ARes ty} {W:α->Wy0 ρ} {z:ρ}
  (hb:fn.body=some (body fn):=by kernel_rfl)
  (hrun:∀ x,zgD cx' fn (body fn) sg (A.enc x)=(W x).ev noH (λr=>some (res r)) none:=by intro _; kernel_rfl)
  (hchk:∀ x,(Nat.ble (A.enc x).length fn.ntmps&&zOU (body fn) (A.enc x) sg.upd)=true:=by intro _; kernel_rfl) (hsame:zb5.Same cx':=by exact zbfN):
  Sound Tryz.prog zb5 f (zh A λx=>(((W x).fin z).1,res ((W x).fin z).2)):=sW zGk zPg hsame hspec hent hf hl sg hb hrun hchk
end Go.Proofs.YtljlfiomikifjaaGreatDoor
/- What is read of an argument, as typed data. -/
namespace Go.Proofs.YtljlfiomikifjaaGreatDoor
open Go Go.Ab
open Go.Proofs.Tryz
def wf2 (x:Int):Prop:=(Lit.int .i64 x).wf=true
def wf3 (x:Int):Prop:=(Lit.int .i64 x).wf=true
def wf4 (x:Bool):Prop:=True
def wf5 (x:Int):Prop:=(Lit.int .u8 x).wf=true
def wf9 (x:ByteArray):Prop:=ByteArray.size x<=zbo
def z0k (x:RowID):Prop:=wf3 x.Table/\wf3 x.Seq
def zXk (x:Value):Prop:=wf3 x.Kind/\wf2 x.Int/\wf9 x.Text
mutual
def zjk:At->Prop
 | ⟨k,r,a,f,i,o,b⟩=>wf3 k/\z0k r/\(zyy a/\a.length<=zbo)/\wf3 f/\(zte i/\i.length<=zbo)/\wf3 o/\zXk b
def zxr:Fc->Prop
 | ⟨a,e⟩=>zjk a/\wf3 e
def zud:yD->Prop
 | []=>True
 | x::r=>zxr x/\zud r
def zC6:Term->Prop
 | ⟨c,f⟩=>wf2 c/\(zud f/\f.length<=zbo)
def zhV:yC->Prop
 | []=>True
 | x::r=>zC6 x/\zhV r
def zyy:yA->Prop
 | []=>True
 | x::r=>(zhV x/\x.length<=zbo)/\zyy r
def zIw:Wd->Prop
 | ⟨v,a⟩=>zXk v/\(zhV a/\a.length<=zbo)
def zte:yE->Prop
 | []=>True
 | x::r=>zIw x/\zte r
end
theorem zNy:∀ l:yD,(∀ x∈l,zxr x)->zud l
 | [],_=>by unfold zud; trivial
 | x::r,h=>by unfold zud; exact ⟨h x (by simp),zNy r λy hy=>h y (by simp [hy])⟩
theorem zHC:∀ l:yC,(∀ x∈l,zC6 x)->zhV l
 | [],_=>by unfold zhV; trivial
 | x::r,h=>by unfold zhV; exact ⟨h x (by simp),zHC r λy hy=>h y (by simp [hy])⟩
theorem z1s:∀ l:yA,(∀ x∈l,zhV x/\x.length<=zbo)->zyy l
 | [],_=>by unfold zyy; trivial
 | x::r,h=>by unfold zyy; exact ⟨h x (by simp),z1s r λy hy=>h y (by simp [hy])⟩
theorem zWJ:∀ l:yE,(∀ x∈l,zIw x)->zte l
 | [],_=>by unfold zte; trivial
 | x::r,h=>by unfold zte; exact ⟨h x (by simp),zWJ r λy hy=>h y (by simp [hy])⟩
def zbe6 (x:yC):Prop:=zhV x/\List.length x<=zbo
def zboW (x:yD):Prop:=zud x/\List.length x<=zbo
def zboZ (x:Term):Prop:=zC6 x
def zboO (x:yA):Prop:=zyy x/\List.length x<=zbo
def zboP (x:yE):Prop:=zte x/\List.length x<=zbo
def zboU (x:At):Prop:=zjk x
def zbo0 (x:Fc):Prop:=zxr x
def zboI (x:Wd):Prop:=zIw x
def zblF (x:yF):Prop:=(∀ y∈x,z0k y)/\List.length x<=zbo
def zboT (x:yB):Prop:=(∀ y∈x,zblF y)/\List.length x<=zbo
def zbn1 (x:Bg):Prop:=z0k x.Row/\zbe6 x.To
def zboX (x:yG):Prop:=(∀ y∈x,zbn1 y)/\List.length x<=zbo
def wf (T:Nat):ty T->Prop:=match T with
 | 2=>wf2
 | 3=>wf3
 | 4=>wf4
 | 5=>wf5
 | 9=>wf9
 | 23=>zbe6
 | 26=>zboW
 | 28=>zboZ
 | 39=>zboT
 | 43=>zblF
 | 47=>zboX
 | 49=>z0k
 | 51=>zbn1
 | 60=>zboO
 | 63=>zboP
 | 65=>zXk
 | 67=>zboU
 | 69=>zbo0
 | 100=>zboI
 | _=>λ_=>True
theorem zbjl:zvr Tryz.prog base wf 2:=zbco underlying2 (λn=>n) (λ_=>rfl) (λ_ h=>h)
theorem zPw:zvr Tryz.prog base wf 3:=zbco underlying3 (λn=>n) (λ_=>rfl) (λ_ h=>h)
theorem zbnQ:zvr Tryz.prog base wf 9:=zbjr underlying9 (λn=>n) (λ_=>rfl) (λ_ h=>h)
theorem zbhG:zvr Tryz.prog base wf 49:=by
 intro H en w sp held fuel cs y h hz;obtain ⟨xs,n,_,hy,hl,hlen,hf⟩:=DataW.trod_struct underlying49 h;have hs:=zqe underlying49 hy hz;obtain ⟨x0,h0,w0⟩:=zDg (off:=0) zPw (by kernel_rfl) hlen hf hs 0 _ rfl rfl rfl
 obtain ⟨x1,h1,w1⟩:=zDg (off:=1) zPw (by kernel_rfl) hlen hf hs 1 _ rfl rfl rfl
 have hl:cs.length=2:=hl.trans (by kernel_rfl)
 have:=zj2 h0 (zHQ h1 hl);exact ⟨(⟨x0,x1⟩:RowID),this,⟨w0,w1⟩⟩
theorem zbhW:zvr Tryz.prog base wf 65:=by
 intro H en w sp held fuel cs y h hz;obtain ⟨xs,n,_,hy,hl,hlen,hf⟩:=DataW.trod_struct underlying65 h;have hs:=zqe underlying65 hy hz;obtain ⟨x0,h0,w0⟩:=zDg (off:=0) zPw (by kernel_rfl) hlen hf hs 0 _ rfl rfl rfl
 obtain ⟨x1,h1,w1⟩:=zDg (off:=1) zbjl (by kernel_rfl) hlen hf hs 1 _ rfl rfl rfl
 obtain ⟨x2,h2,w2⟩:=zDg (off:=2) zbnQ (by kernel_rfl) hlen hf hs 2 _ rfl rfl rfl
 have hl:cs.length=3:=hl.trans (by kernel_rfl)
 have:=zj2 h0 (zj2 h1 (zHQ h2 hl));exact ⟨(⟨x0,x1,x2⟩:Value),this,⟨w0,w1,w2⟩⟩
theorem zbe8:∀ m,zui Tryz.prog base wf m 23/\zui Tryz.prog base wf m 26/\zui Tryz.prog base wf m 28/\zui Tryz.prog base wf m 60/\zui Tryz.prog base wf m 63/\zui Tryz.prog base wf m 67/\zui Tryz.prog base wf m 69/\zui Tryz.prog base wf m 100
 | 0=>⟨zp6,zp6,zp6,zp6,zp6,zp6,zp6,zp6⟩
 | m+1=>by
  obtain ⟨h23,h26,h28,h60,h63,h67,h69,h100⟩:=zbe8 m;refine ⟨?_, ?_, ?_, ?_, ?_, ?_, ?_, ?_⟩
  ·exact zAO zgn underlying23 (by kernel_rfl) (by decide) (λl=>l) (λ_=>rfl) (of_decide_eq_true (by kernel_rfl)) h28 (λl h h2=>⟨zHC l h,h2⟩)
  ·exact zAO zgn underlying26 (by kernel_rfl) (by decide) (λl=>l) (λ_=>rfl) (of_decide_eq_true (by kernel_rfl)) h69 (λl h h2=>⟨zNy l h,h2⟩)
  ·intro H en w sp held fuel cs y hfu h hz;obtain ⟨xs,n,hn,hy,hl,hlen,hf⟩:=DataW.trod_struct underlying28 h;have hs:=zqe underlying28 hy hz;have hn:n<=m:=by omega
   obtain ⟨x0,hx0,w0⟩:=zfV (off:=0) (zbjl.at m) (by kernel_rfl) hn hlen hf hs 0 _ rfl rfl rfl
   obtain ⟨x1,hx1,w1⟩:=zfV (off:=1) h26 (by kernel_rfl) hn hlen hf hs 1 _ rfl rfl rfl
   have hl:cs.length=2:=hl.trans (by kernel_rfl)
   have:=zj2 hx0 (zHQ hx1 hl);exact ⟨(⟨x0,x1⟩:Term),this,by show zC6 (⟨x0,x1⟩:Term); unfold zC6; exact ⟨w0,w1⟩⟩
  ·exact zAO zgn underlying60 (by kernel_rfl) (by decide) (λl=>l) (λ_=>rfl) (of_decide_eq_true (by kernel_rfl)) h23 (λl h h2=>⟨z1s l h,h2⟩)
  ·exact zAO zgn underlying63 (by kernel_rfl) (by decide) (λl=>l) (λ_=>rfl) (of_decide_eq_true (by kernel_rfl)) h100 (λl h h2=>⟨zWJ l h,h2⟩)
  ·intro H en w sp held fuel cs y hfu h hz;obtain ⟨xs,n,hn,hy,hl,hlen,hf⟩:=DataW.trod_struct underlying67 h;have hs:=zqe underlying67 hy hz;have hn:n<=m:=by omega
   obtain ⟨x0,hx0,w0⟩:=zfV (off:=0) (zPw.at m) (by kernel_rfl) hn hlen hf hs 0 _ rfl rfl rfl
   obtain ⟨x1,hx1,w1⟩:=zfV (off:=1) (zbhG.at m) (by kernel_rfl) hn hlen hf hs 1 _ rfl rfl rfl
   obtain ⟨x2,hx2,w2⟩:=zfV (off:=3) h60 (by kernel_rfl) hn hlen hf hs 2 _ rfl rfl rfl
   obtain ⟨x3,hx3,w3⟩:=zfV (off:=4) (zPw.at m) (by kernel_rfl) hn hlen hf hs 3 _ rfl rfl rfl
   obtain ⟨x4,hx4,w4⟩:=zfV (off:=5) h63 (by kernel_rfl) hn hlen hf hs 4 _ rfl rfl rfl
   obtain ⟨x5,hx5,w5⟩:=zfV (off:=6) (zPw.at m) (by kernel_rfl) hn hlen hf hs 5 _ rfl rfl rfl
   obtain ⟨x6,hx6,w6⟩:=zfV (off:=7) (zbhW.at m) (by kernel_rfl) hn hlen hf hs 6 _ rfl rfl rfl
   have hl:cs.length=10:=hl.trans (by kernel_rfl)
   have:=zj2 hx0 (zj2 hx1 (zj2 hx2 (zj2 hx3 (zj2 hx4 (zj2 hx5 (zHQ hx6 hl))))));exact ⟨(⟨x0,x1,x2,x3,x4,x5,x6⟩:At),this,by show zjk (⟨x0,x1,x2,x3,x4,x5,x6⟩:At); unfold zjk; exact ⟨w0,w1,w2,w3,w4,w5,w6⟩⟩
  ·intro H en w sp held fuel cs y hfu h hz;obtain ⟨xs,n,hn,hy,hl,hlen,hf⟩:=DataW.trod_struct underlying69 h;have hs:=zqe underlying69 hy hz;have hn:n<=m:=by omega
   obtain ⟨x0,hx0,w0⟩:=zfV (off:=0) h67 (by kernel_rfl) hn hlen hf hs 0 _ rfl rfl rfl
   obtain ⟨x1,hx1,w1⟩:=zfV (off:=10) (zPw.at m) (by kernel_rfl) hn hlen hf hs 1 _ rfl rfl rfl
   have hl:cs.length=11:=hl.trans (by kernel_rfl)
   have:=zj2 hx0 (zHQ hx1 hl);exact ⟨(⟨x0,x1⟩:Fc),this,by show zxr (⟨x0,x1⟩:Fc); unfold zxr; exact ⟨w0,w1⟩⟩
  ·intro H en w sp held fuel cs y hfu h hz;obtain ⟨xs,n,hn,hy,hl,hlen,hf⟩:=DataW.trod_struct underlying100 h;have hs:=zqe underlying100 hy hz;have hn:n<=m:=by omega
   obtain ⟨x0,hx0,w0⟩:=zfV (off:=0) (zbhW.at m) (by kernel_rfl) hn hlen hf hs 0 _ rfl rfl rfl
   obtain ⟨x1,hx1,w1⟩:=zfV (off:=3) h23 (by kernel_rfl) hn hlen hf hs 1 _ rfl rfl rfl
   have hl:cs.length=4:=hl.trans (by kernel_rfl)
   have:=zj2 hx0 (zHQ hx1 hl);exact ⟨(⟨x0,x1⟩:Wd),this,by show zIw (⟨x0,x1⟩:Wd); unfold zIw; exact ⟨w0,w1⟩⟩
theorem zbmm:zvr Tryz.prog base wf 23:=zbjc λm=>(zbe8 m).1
theorem zbmf:zvr Tryz.prog base wf 43:=zbgW zgn underlying43 (by kernel_rfl) (by decide) (λl=>l) (λ_=>rfl) (of_decide_eq_true (by kernel_rfl)) zbhG (λ_ h h2=>⟨h,h2⟩)
def zRZ (r:Int):ARes ty:=⟨[.pure (.lit (.int .i64 r))],[]⟩
def zWi:AL base (yC×yC×Unit):=zc (ze (vSl 28)) (zc (ze (vSl 28)) zo)
def zem (F:yC->yC->Bool×Int):Ab.Spec ty:=zh zWi λx=>((F x.1 x.2.1).1,zRZ (F x.1 x.2.1).2)
def zPJ:AL base (Term×Term×Unit):=zc (ze (zcy 28)) (zc (ze (zcy 28)) zo)
def zgo (F:Term->Term->Bool×Int):Ab.Spec ty:=zh zPJ λx=>((F x.1 x.2.1).1,zRZ (F x.1 x.2.1).2)
def zJ4:AL base (Fc×Fc×Unit):=zc (ze (zcy 69)) (zc (ze (zcy 69)) zo)
def zeN (F:Fc->Fc->Bool×Int):Ab.Spec ty:=zh zJ4 λx=>((F x.1 x.2.1).1,zRZ (F x.1 x.2.1).2)
def zL9:AL base (At×At×Unit):=zc (ze (zcy 67)) (zc (ze (zcy 67)) zo)
def zhp (F:At->At->Bool×Int):Ab.Spec ty:=zh zL9 λx=>((F x.1 x.2.1).1,zRZ (F x.1 x.2.1).2)
def zM9:AL base (Wd×Wd×Unit):=zc (ze (zcy 100)) (zc (ze (zcy 100)) zo)
def zeq (F:Wd->Wd->Bool×Int):Ab.Spec ty:=zh zM9 λx=>((F x.1 x.2.1).1,zRZ (F x.1 x.2.1).2)
def zjr:AL base (yC×yC×Unit×Unit):=zc (ze (vSl 28)) (zc (ze (vSl 28)) (zc (ze (vFn 137 zb4)) zo))
def zb2 (F:yC->yC->Bool×Int):Ab.Spec ty:=zh zjr λx=>((F x.1 x.2.1).1,zRZ (F x.1 x.2.1).2)
def zjW:AL base (yD×yD×Unit×Unit):=zc (ze (vSl 69)) (zc (ze (vSl 69)) (zc (ze (vFn 119 zb4)) zo))
def zb8 (F:yD->yD->Bool×Int):Ab.Spec ty:=zh zjW λx=>((F x.1 x.2.1).1,zRZ (F x.1 x.2.1).2)
def zga:AL base (yA×yA×Unit×Unit):=zc (ze (vSl 23)) (zc (ze (vSl 23)) (zc (ze (vFn 67 zb4)) zo))
def zbB (F:yA->yA->Bool×Int):Ab.Spec ty:=zh zga λx=>((F x.1 x.2.1).1,zRZ (F x.1 x.2.1).2)
def zhz:AL base (yE×yE×Unit×Unit):=zc (ze (vSl 100)) (zc (ze (vSl 100)) (zc (ze (vFn 124 zb4)) zo))
def zbT (F:yE->yE->Bool×Int):Ab.Spec ty:=zh zhz λx=>((F x.1 x.2.1).1,zRZ (F x.1 x.2.1).2)
def zQt (zN:yC->yC->Bool×Int) (zO:Term->Term->Bool×Int):=zbt base 8 [(136,(zb2 zN)),(137,(zgo zO))]
def zDh (zN:yC->yC->Bool×Int) (zO:Term->Term->Bool×Int) (a:yC) (b:yC):Wy0 (Int):=.bn (zN a b) λr0=>.k r0
def zpe (zN:yC->yC->Bool×Int) (zO:Term->Term->Bool×Int) (a:yC) (b:yC):=(zDh zN zO a b).fin default
theorem zLx (zN:yC->yC->Bool×Int) (zO:Term->Term->Bool×Int) (ziN:SdP 136 (zb2 zN)) (zpS:SdP 137 (zgo zO)):SdP 67 (zem (zpe zN zO)):=
 sT (cx':=(zQt zN zO)) (zi ⟨ziN,zpS,trivial⟩) call67 func67 (lOK aN)
def z1R:=zbt base 6 []
def zLN (x_:Int):Wy0 (Bool):=.k (x_ != x_)
def znV (x_:Int):=(zLN x_).fin default
def zZL (r:Bool):ARes ty:=⟨[.pure (.lit (.bool r))],[]⟩
def z4Y:AL base (Int×Unit):=zc (ze zf9) zo
def zFY:=zh z4Y λx=>((znV x.1).1,zZL (znV x.1).2)
theorem zUH:SdP 166 zFY:=
 sT (cx':=z1R) (zi trivial) call166 func166 (lOK aN)
def zVT:=zbt base 20 [(166,zFY)]
def zGP (x_:Int) (y_:Int):Wy0 (Int):=.i ((znV x_).2) (.i ((znV y_).2) (.k 0) (.k (-1:Int))) (.i ((znV y_).2) (.k 1) (.i (decide (x_<y_)) (.k (-1:Int)) (.i (decide (x_>y_)) (.k 1) (.k 0))))
def zjn (x_:Int) (y_:Int):=(zGP x_ y_).fin default
def zYS:AL base (Int×Int×Unit):=zc (ze zf9) (zc (ze zf9) zo)
def zmT:=zh zYS λx=>((zjn x.1 x.2.1).1,zRZ (zjn x.1 x.2.1).2)
theorem zsE:SdP 138 zmT:=
 sT (cx':=zVT) (zi ⟨zUH,trivial⟩) call138 func138 (lOK aN)
abbrev zF5:=Int×List Int×Int×Int×Unit
def zKt (zero:Int) (t6:List Int) (t7:Int) (t8:Int):Wy zF5 Unit (Int⊕Int):=.i (decide (t8<t7)) (.i (decide (0<=t8)&&decide (t8<Int.ofNat t6.length)) (.i (t6.getD t8.toNat default != zero) (.k (.inl (t6.getD t8.toNat default))) (.h (zero,t6,t7,(IntKind.i64.wrap (t8+1)),()) ())) .d) (.k (.inr zero))
def zXJ (x:zF5) (y:Unit):=zKt x.1 x.2.1 x.2.2.1 x.2.2.2.1
def zKY (n:Nat) (zero:Int) (t6:List Int) (t7:Int) (t8:Int):=zA (zXJ) (.inl default) n (zero,t6,t7,t8,()) ()
def zbbQ (r:Int⊕Int):LTree ty:=.ite (isL r) (.done .ret [.lit (.int .i64 (getL r))] []) (.done (.exit 0) [.lit (.int .i64 (getR r))] [])
def zbdr:LL ty zF5:=za zj (za (lSl 3) (za zj (za zj zk)))
def zbc9:BL ty (Unit):=z8
def zbcc (x:zF5) (y:Unit):Nat:=(Int.toNat x.1+x.2.1.length+Int.toNat x.2.2.1+Int.toNat x.2.2.2.1+1)
def zXZ:=zbY base 18 [] [] [(3,(kpL [3,6,7,8]))] [(3,1,(kpL [3])),(3,0,(kpL [2]))] [(3,spW zbdr zbc9 (zXJ) (.inl default) zbbQ zbcc)] []
theorem zbby:zy zXZ (lp (body f120) 0):=zm (id:=3) (hl:=rfl)
def z2b (vals:List Int):Wy0 (Int):=.bn (zKY (Int.toNat 0+vals.length+(Int.ofNat vals.length).toNat +Int.toNat 0+1) 0 vals (Int.ofNat vals.length) 0) λr0=>.i (isL r0) (.k (getL r0)) (.k (getR r0))
def zlK (vals:List Int):=(z2b vals).fin default
def zbfb:AL base (List Int×Unit):=zc (ze (vSl 3)) zo
def zlg:=zh zbfb λx=>((zlK x.1).1,zRZ (zlK x.1).2)
theorem zmz:SdP 120 zlg:=
 sT (cx':=zXZ) (zi trivial) call120 func120 (lOK (aC zbby aN))
def zKw (zc3:Term->Term->Bool×Int):=zbt base 15 [(63,(zgo zc3)),(120,zlg),(138,zmT)]
def zzV (zc3:Term->Term->Bool×Int) (x_:Term) (y_:Term):Wy0 (Int):=.bn (zc3 x_ y_) λr2=>.bn (zjn x_.Cf y_.Cf) λr1=>.bn (zlK [r2,r1]) λr0=>.k r0
def zme (zc3:Term->Term->Bool×Int) (x_:Term) (y_:Term):=(zzV zc3 x_ y_).fin default
theorem zGs (zc3:Term->Term->Bool×Int) (zID:SdP 63 (zgo zc3)):SdP 137 (zgo (zme zc3)):=
 sT (cx':=(zKw zc3)) (zi ⟨zID,zmz,zsE,trivial⟩) call137 func137 (lOK aN)
def z6C:=zbt base 6 []
def zQX (x_:Int):Wy0 (Bool):=.k (x_ != x_)
def zta (x_:Int):=(zQX x_).fin default
def zJf:=zh z4Y λx=>((zta x.1).1,zZL (zta x.1).2)
theorem zZP:SdP 159 zJf:=
 sT (cx':=z6C) (zi trivial) call159 func159 (lOK aN)
def z0V:=zbt base 20 [(159,zJf)]
def zLL (x_:Int) (y_:Int):Wy0 (Int):=.i ((zta x_).2) (.i ((zta y_).2) (.k 0) (.k (-1:Int))) (.i ((zta y_).2) (.k 1) (.i (decide (x_<y_)) (.k (-1:Int)) (.i (decide (x_>y_)) (.k 1) (.k 0))))
def zdb (x_:Int) (y_:Int):=(zLL x_ y_).fin default
def zlk:=zh zYS λx=>((zdb x.1 x.2.1).1,zRZ (zdb x.1 x.2.1).2)
theorem znO:SdP 121 zlk:=
 sT (cx':=z0V) (zi ⟨zZP,trivial⟩) call121 func121 (lOK aN)
end Go.Proofs.YtljlfiomikifjaaGreatDoor
/-
 DERIVED:THE SHELF's CONTRACTS AT THIS DUMP,IN PLAIN WORDS (tools/lay-plain.mjs out of 'TryzShelf.lean',which tools/lay-shelf.mjs wrote):THE SAME DECLARATIONS UNDER THE SAME NAMES:'import','namespace','open','def','theorem' AND NOTHING ELSE:no command of the shelf's:FOR A HAND-IN. Each laying:the table of numbers ('.._ren') and one theorem,a field a fact of the dump's own or the kernel's comparison; each contract:ONE APPLICATION.
-/
namespace Go.Proofs
open Go.Shelf
def Tryz.sortRow_ren:Go.Shelf.Ren:=⟨λ| 6=>232 | 15=>156 | 14=>251 | 28=>192 | 29=>193 | 20=>270 | 21=>271 | 22=>272 | 23=>273 | 24=>274 | 25=>275 | 26=>276 | 27=>277 | 46=>289 | 47=>222 | 48=>223 | 49=>290 | 50=>291 | 57=>298 | n=>n,λ| 22=>43 | 24=>49 | 25=>102 | 3=>3 | 39=>135 | 0=>0 | 53=>163 | 55=>165 | 4=>4 | 46=>157 | 45=>156 | 50=>123 | 5=>5 | 9=>9 | 66=>191 | 70=>195 | 76=>206 | 77=>207 | n=>n,λ| n=>n⟩
theorem Tryz.sortRow:Go.Proofs.SlLaysF0.n6 Tryz.prog Tryz.sortRow_ren:={
 mixed:=by kernel_rfl
 f6:=⟨f232.name,by decide,func232.trans (congrArg some (by kernel_rfl))⟩
 f14:=⟨f251.name,by decide,func251.trans (congrArg some (by kernel_rfl))⟩
 f15:=func156.trans (congrArg some (by kernel_rfl))
 f20:=⟨f270.name,by decide,func270.trans (congrArg some (by kernel_rfl))⟩
 f21:=⟨f271.name,by decide,func271.trans (congrArg some (by kernel_rfl))⟩
 f22:=⟨f272.name,by decide,func272.trans (congrArg some (by kernel_rfl))⟩
 f23:=⟨f273.name,by decide,func273.trans (congrArg some (by kernel_rfl))⟩
 f24:=⟨f274.name,by decide,func274.trans (congrArg some (by kernel_rfl))⟩
 f25:=⟨f275.name,by decide,func275.trans (congrArg some (by kernel_rfl))⟩
 f26:=⟨f276.name,by decide,func276.trans (congrArg some (by kernel_rfl))⟩
 f27:=⟨f277.name,by decide,func277.trans (congrArg some (by kernel_rfl))⟩
 f28:=func192.trans (congrArg some (by kernel_rfl))
 f29:=func193.trans (congrArg some (by kernel_rfl))
 f46:=⟨f289.name,by decide,func289.trans (congrArg some (by kernel_rfl))⟩
 f47:=func222.trans (congrArg some (by kernel_rfl))
 f48:=func223.trans (congrArg some (by kernel_rfl))
 f49:=⟨f290.name,by decide,func290.trans (congrArg some (by kernel_rfl))⟩
 f50:=⟨f291.name,by decide,func291.trans (congrArg some (by kernel_rfl))⟩
 f57:=⟨f298.name,by decide,func298.trans (congrArg some (by kernel_rfl))⟩
 t0:=underlying0
 a0:=Tryz.isAgg0
 z0:=Tryz.sizeOf0
 v0:=Tryz.zeroValue0
 t3:=underlying3
 a3:=Tryz.isAgg3
 z3:=Tryz.sizeOf3
 v3:=Tryz.zeroValue3
 t4:=underlying4
 a4:=Tryz.isAgg4
 z4:=Tryz.sizeOf4
 v4:=Tryz.zeroValue4
 t5:=underlying5
 a5:=Tryz.isAgg5
 z5:=Tryz.sizeOf5
 v5:=Tryz.zeroValue5
 t9:=underlying9
 a9:=Tryz.isAgg9
 z9:=Tryz.sizeOf9
 v9:=Tryz.zeroValue9
 t22:=underlying43
 a22:=Tryz.isAgg43
 z22:=Tryz.sizeOf43
 v22:=Tryz.zeroValue43
 t25:=underlying102
 a25:=Tryz.isAgg102
 z25:=Tryz.sizeOf102
 v25:=Tryz.zeroValue102
 t39:=underlying135
 a39:=Tryz.isAgg135
 z39:=Tryz.sizeOf135
 v39:=Tryz.zeroValue135
 t45:=underlying156
 a45:=Tryz.isAgg156
 z45:=Tryz.sizeOf156
 v45:=Tryz.zeroValue156
 t46:=underlying157
 a46:=Tryz.isAgg157
 z46:=Tryz.sizeOf157
 v46:=Tryz.zeroValue157
 t50:=underlying123
 a50:=Tryz.isAgg123
 z50:=Tryz.sizeOf123
 v50:=Tryz.zeroValue123
 t53:=underlying163
 a53:=Tryz.isAgg163
 z53:=Tryz.sizeOf163
 v53:=Tryz.zeroValue163
 t55:=underlying165
 a55:=Tryz.isAgg165
 z55:=Tryz.sizeOf165
 v55:=Tryz.zeroValue165
 t66:=underlying191
 a66:=Tryz.isAgg191
 z66:=Tryz.sizeOf191
 v66:=Tryz.zeroValue191
 t70:=underlying195
 a70:=Tryz.isAgg195
 z70:=Tryz.sizeOf195
 v70:=Tryz.zeroValue195
 t76:=underlying206
 a76:=Tryz.isAgg206
 z76:=Tryz.sizeOf206
 v76:=Tryz.zeroValue206
 t77:=underlying207
 a77:=Tryz.isAgg207
 z77:=Tryz.sizeOf207
 v77:=Tryz.zeroValue207 }
def Tryz.sortSet_ren:Go.Shelf.Ren:=⟨λ| 6=>205 | 15=>156 | 14=>235 | 28=>192 | 29=>193 | 20=>252 | 21=>253 | 22=>254 | 23=>255 | 24=>256 | 25=>257 | 26=>258 | 27=>259 | 46=>278 | 47=>222 | 48=>223 | 49=>279 | 50=>280 | 57=>292 | n=>n,λ| 22=>39 | 24=>43 | 25=>86 | 3=>3 | 39=>135 | 0=>0 | 53=>163 | 55=>165 | 4=>4 | 46=>157 | 45=>156 | 50=>123 | 5=>5 | 9=>9 | 66=>191 | 70=>195 | 76=>206 | 77=>207 | n=>n,λ| n=>n⟩
theorem Tryz.sortSet:Go.Proofs.SlLaysF.n6 Tryz.prog Tryz.sortSet_ren:={
 mixed:=by kernel_rfl
 f6:=⟨f205.name,by decide,func205.trans (congrArg some (by kernel_rfl))⟩
 f14:=⟨f235.name,by decide,func235.trans (congrArg some (by kernel_rfl))⟩
 f15:=func156.trans (congrArg some (by kernel_rfl))
 f20:=⟨f252.name,by decide,func252.trans (congrArg some (by kernel_rfl))⟩
 f21:=⟨f253.name,by decide,func253.trans (congrArg some (by kernel_rfl))⟩
 f22:=⟨f254.name,by decide,func254.trans (congrArg some (by kernel_rfl))⟩
 f23:=⟨f255.name,by decide,func255.trans (congrArg some (by kernel_rfl))⟩
 f24:=⟨f256.name,by decide,func256.trans (congrArg some (by kernel_rfl))⟩
 f25:=⟨f257.name,by decide,func257.trans (congrArg some (by kernel_rfl))⟩
 f26:=⟨f258.name,by decide,func258.trans (congrArg some (by kernel_rfl))⟩
 f27:=⟨f259.name,by decide,func259.trans (congrArg some (by kernel_rfl))⟩
 f28:=func192.trans (congrArg some (by kernel_rfl))
 f29:=func193.trans (congrArg some (by kernel_rfl))
 f46:=⟨f278.name,by decide,func278.trans (congrArg some (by kernel_rfl))⟩
 f47:=func222.trans (congrArg some (by kernel_rfl))
 f48:=func223.trans (congrArg some (by kernel_rfl))
 f49:=⟨f279.name,by decide,func279.trans (congrArg some (by kernel_rfl))⟩
 f50:=⟨f280.name,by decide,func280.trans (congrArg some (by kernel_rfl))⟩
 f57:=⟨f292.name,by decide,func292.trans (congrArg some (by kernel_rfl))⟩
 t0:=underlying0
 a0:=Tryz.isAgg0
 z0:=Tryz.sizeOf0
 v0:=Tryz.zeroValue0
 t3:=underlying3
 a3:=Tryz.isAgg3
 z3:=Tryz.sizeOf3
 v3:=Tryz.zeroValue3
 t4:=underlying4
 a4:=Tryz.isAgg4
 z4:=Tryz.sizeOf4
 v4:=Tryz.zeroValue4
 t5:=underlying5
 a5:=Tryz.isAgg5
 z5:=Tryz.sizeOf5
 v5:=Tryz.zeroValue5
 t9:=underlying9
 a9:=Tryz.isAgg9
 z9:=Tryz.sizeOf9
 v9:=Tryz.zeroValue9
 t22:=underlying39
 a22:=Tryz.isAgg39
 z22:=Tryz.sizeOf39
 v22:=Tryz.zeroValue39
 a24:=Tryz.isAgg43
 z24:=Tryz.sizeOf43
 t25:=underlying86
 a25:=Tryz.isAgg86
 z25:=Tryz.sizeOf86
 v25:=Tryz.zeroValue86
 t39:=underlying135
 a39:=Tryz.isAgg135
 z39:=Tryz.sizeOf135
 v39:=Tryz.zeroValue135
 t45:=underlying156
 a45:=Tryz.isAgg156
 z45:=Tryz.sizeOf156
 v45:=Tryz.zeroValue156
 t46:=underlying157
 a46:=Tryz.isAgg157
 z46:=Tryz.sizeOf157
 v46:=Tryz.zeroValue157
 t50:=underlying123
 a50:=Tryz.isAgg123
 z50:=Tryz.sizeOf123
 v50:=Tryz.zeroValue123
 t53:=underlying163
 a53:=Tryz.isAgg163
 z53:=Tryz.sizeOf163
 v53:=Tryz.zeroValue163
 t55:=underlying165
 a55:=Tryz.isAgg165
 z55:=Tryz.sizeOf165
 v55:=Tryz.zeroValue165
 t66:=underlying191
 a66:=Tryz.isAgg191
 z66:=Tryz.sizeOf191
 v66:=Tryz.zeroValue191
 t70:=underlying195
 a70:=Tryz.isAgg195
 z70:=Tryz.sizeOf195
 v70:=Tryz.zeroValue195
 t76:=underlying206
 a76:=Tryz.isAgg206
 z76:=Tryz.sizeOf206
 v76:=Tryz.zeroValue206
 t77:=underlying207
 a77:=Tryz.isAgg207
 z77:=Tryz.sizeOf207
 v77:=Tryz.zeroValue207 }
def Tryz.pdqTerm_ren:Go.Shelf.Ren:=⟨λ| 14=>155 | 20=>184 | 21=>185 | 22=>186 | 23=>187 | 24=>188 | 25=>189 | 26=>190 | 27=>191 | 46=>221 | 47=>222 | 48=>223 | 49=>224 | 50=>225 | 15=>156 | 57=>243 | 28=>192 | 29=>193 | n=>n,λ| 24=>28 | 22=>22 | 3=>3 | 25=>79 | 4=>4 | 0=>0 | 46=>157 | 45=>156 | 50=>123 | 66=>191 | 39=>135 | 55=>165 | 70=>195 | 76=>206 | 77=>207 | 53=>163 | 5=>5 | 9=>9 | n=>n,λ| n=>n⟩
theorem Tryz.pdqTerm:Go.Proofs.SlLaysF0.n14 Tryz.prog Tryz.pdqTerm_ren:={
 mixed:=by kernel_rfl
 f14:=⟨f155.name,by decide,func155.trans (congrArg some (by kernel_rfl))⟩
 f15:=func156.trans (congrArg some (by kernel_rfl))
 f20:=⟨f184.name,by decide,func184.trans (congrArg some (by kernel_rfl))⟩
 f21:=⟨f185.name,by decide,func185.trans (congrArg some (by kernel_rfl))⟩
 f22:=⟨f186.name,by decide,func186.trans (congrArg some (by kernel_rfl))⟩
 f23:=⟨f187.name,by decide,func187.trans (congrArg some (by kernel_rfl))⟩
 f24:=⟨f188.name,by decide,func188.trans (congrArg some (by kernel_rfl))⟩
 f25:=⟨f189.name,by decide,func189.trans (congrArg some (by kernel_rfl))⟩
 f26:=⟨f190.name,by decide,func190.trans (congrArg some (by kernel_rfl))⟩
 f27:=⟨f191.name,by decide,func191.trans (congrArg some (by kernel_rfl))⟩
 f28:=func192.trans (congrArg some (by kernel_rfl))
 f29:=func193.trans (congrArg some (by kernel_rfl))
 f46:=⟨f221.name,by decide,func221.trans (congrArg some (by kernel_rfl))⟩
 f47:=func222.trans (congrArg some (by kernel_rfl))
 f48:=func223.trans (congrArg some (by kernel_rfl))
 f49:=⟨f224.name,by decide,func224.trans (congrArg some (by kernel_rfl))⟩
 f50:=⟨f225.name,by decide,func225.trans (congrArg some (by kernel_rfl))⟩
 f57:=⟨f243.name,by decide,func243.trans (congrArg some (by kernel_rfl))⟩
 t0:=underlying0
 a0:=Tryz.isAgg0
 z0:=Tryz.sizeOf0
 v0:=Tryz.zeroValue0
 t3:=underlying3
 a3:=Tryz.isAgg3
 z3:=Tryz.sizeOf3
 v3:=Tryz.zeroValue3
 t4:=underlying4
 a4:=Tryz.isAgg4
 z4:=Tryz.sizeOf4
 v4:=Tryz.zeroValue4
 t5:=underlying5
 a5:=Tryz.isAgg5
 z5:=Tryz.sizeOf5
 v5:=Tryz.zeroValue5
 t9:=underlying9
 a9:=Tryz.isAgg9
 z9:=Tryz.sizeOf9
 v9:=Tryz.zeroValue9
 t22:=underlying22
 a22:=Tryz.isAgg22
 z22:=Tryz.sizeOf22
 v22:=Tryz.zeroValue22
 t25:=underlying79
 a25:=Tryz.isAgg79
 z25:=Tryz.sizeOf79
 v25:=Tryz.zeroValue79
 t39:=underlying135
 a39:=Tryz.isAgg135
 z39:=Tryz.sizeOf135
 v39:=Tryz.zeroValue135
 t45:=underlying156
 a45:=Tryz.isAgg156
 z45:=Tryz.sizeOf156
 v45:=Tryz.zeroValue156
 t46:=underlying157
 a46:=Tryz.isAgg157
 z46:=Tryz.sizeOf157
 v46:=Tryz.zeroValue157
 t50:=underlying123
 a50:=Tryz.isAgg123
 z50:=Tryz.sizeOf123
 v50:=Tryz.zeroValue123
 t53:=underlying163
 a53:=Tryz.isAgg163
 z53:=Tryz.sizeOf163
 v53:=Tryz.zeroValue163
 t55:=underlying165
 a55:=Tryz.isAgg165
 z55:=Tryz.sizeOf165
 v55:=Tryz.zeroValue165
 t66:=underlying191
 a66:=Tryz.isAgg191
 z66:=Tryz.sizeOf191
 v66:=Tryz.zeroValue191
 t70:=underlying195
 a70:=Tryz.isAgg195
 z70:=Tryz.sizeOf195
 v70:=Tryz.zeroValue195
 t76:=underlying206
 a76:=Tryz.isAgg206
 z76:=Tryz.sizeOf206
 v76:=Tryz.zeroValue206
 t77:=underlying207
 a77:=Tryz.isAgg207
 z77:=Tryz.sizeOf207
 v77:=Tryz.zeroValue207 }
def Tryz.insW_ren:Go.Shelf.Ren:=⟨λ| 20=>281 | n=>n,λ| 24=>100 | 22=>63 | 3=>3 | 25=>114 | 4=>4 | 0=>0 | n=>n,λ| n=>n⟩
theorem Tryz.insW:Go.Proofs.SlLaysF0.n20 Tryz.prog Tryz.insW_ren:={
 mixed:=by kernel_rfl
 f20:=⟨f281.name,by decide,func281.trans (congrArg some (by kernel_rfl))⟩
 t0:=underlying0
 a0:=Tryz.isAgg0
 z0:=Tryz.sizeOf0
 v0:=Tryz.zeroValue0
 t3:=underlying3
 a3:=Tryz.isAgg3
 z3:=Tryz.sizeOf3
 v3:=Tryz.zeroValue3
 t4:=underlying4
 a4:=Tryz.isAgg4
 z4:=Tryz.sizeOf4
 v4:=Tryz.zeroValue4
 t22:=underlying63
 a22:=Tryz.isAgg63
 z22:=Tryz.sizeOf63
 v22:=Tryz.zeroValue63
 t25:=underlying114
 a25:=Tryz.isAgg114
 z25:=Tryz.sizeOf114
 v25:=Tryz.zeroValue114 }
def Tryz.lays106_ren:Go.Shelf.Ren:=⟨λ| 106=>160 | 213=>194 | 265=>226 | n=>n,λ| 9=>9 | 3=>3 | n=>n,λ| n=>n⟩
theorem Tryz.lays106:Go.Proofs.Lays.n106 Tryz.prog Tryz.lays106_ren:={
 mixed:=by kernel_rfl
 f106:=func160.trans (congrArg some (by kernel_rfl))
 f213:=func194.trans (congrArg some (by kernel_rfl))
 f265:=func226.trans (congrArg some (by kernel_rfl))
 t3:=underlying3
 a3:=Tryz.isAgg3
 z3:=Tryz.sizeOf3
 v3:=Tryz.zeroValue3
 t9:=underlying9
 a9:=Tryz.isAgg9
 z9:=Tryz.sizeOf9
 v9:=Tryz.zeroValue9 }
def Tryz.lays125_ren:Go.Shelf.Ren:=⟨λ| 125=>156 | 128=>192 | 129=>193 | n=>n,λ| 46=>135 | 3=>3 | 51=>163 | 53=>165 | 4=>4 | 5=>5 | 9=>9 | n=>n,λ| n=>n⟩
theorem Tryz.lays125:Go.Proofs.Lays.n125 Tryz.prog Tryz.lays125_ren:={
 mixed:=by kernel_rfl
 f125:=func156.trans (congrArg some (by kernel_rfl))
 f128:=func192.trans (congrArg some (by kernel_rfl))
 f129:=func193.trans (congrArg some (by kernel_rfl))
 t3:=underlying3
 a3:=Tryz.isAgg3
 z3:=Tryz.sizeOf3
 v3:=Tryz.zeroValue3
 t4:=underlying4
 a4:=Tryz.isAgg4
 z4:=Tryz.sizeOf4
 v4:=Tryz.zeroValue4
 t5:=underlying5
 a5:=Tryz.isAgg5
 z5:=Tryz.sizeOf5
 v5:=Tryz.zeroValue5
 t9:=underlying9
 a9:=Tryz.isAgg9
 z9:=Tryz.sizeOf9
 v9:=Tryz.zeroValue9
 t46:=underlying135
 a46:=Tryz.isAgg135
 z46:=Tryz.sizeOf135
 v46:=Tryz.zeroValue135
 t51:=underlying163
 a51:=Tryz.isAgg163
 z51:=Tryz.sizeOf163
 v51:=Tryz.zeroValue163
 t53:=underlying165
 a53:=Tryz.isAgg165
 z53:=Tryz.sizeOf165
 v53:=Tryz.zeroValue165 }
def Tryz.laysM173_ren:Go.Shelf.Ren:=⟨λ| 173=>227 | 246=>229 | 283=>245 | 284=>246 | 285=>247 | 286=>248 | 129=>193 | 317=>266 | 318=>267 | 319=>268 | 320=>269 | 337=>287 | 338=>288 | n=>n,λ| 2=>2 | 3=>3 | 9=>9 | 4=>4 | 171=>210 | 0=>0 | 53=>165 | 37=>171 | 5=>5 | 173=>212 | 212=>229 | 51=>163 | 20=>20 | 213=>230 | 46=>135 | 232=>249 | 233=>250 | n=>n,λ| 17=>1 | 18=>4 | 19=>5 | n=>n⟩
theorem Tryz.laysM173:Go.Proofs.LaysM.n173 Tryz.prog Tryz.laysM173_ren:={
 mixed:=by kernel_rfl
 f129:=func193.trans (congrArg some (by kernel_rfl))
 f173:=func227.trans (congrArg some (by kernel_rfl))
 f246:=func229.trans (congrArg some (by kernel_rfl))
 f283:=func245.trans (congrArg some (by kernel_rfl))
 f284:=func246.trans (congrArg some (by kernel_rfl))
 f285:=func247.trans (congrArg some (by kernel_rfl))
 f286:=func248.trans (congrArg some (by kernel_rfl))
 f317:=func266.trans (congrArg some (by kernel_rfl))
 f318:=func267.trans (congrArg some (by kernel_rfl))
 f319:=func268.trans (congrArg some (by kernel_rfl))
 f320:=func269.trans (congrArg some (by kernel_rfl))
 f337:=func287.trans (congrArg some (by kernel_rfl))
 f338:=func288.trans (congrArg some (by kernel_rfl))
 t0:=underlying0
 a0:=Tryz.isAgg0
 z0:=Tryz.sizeOf0
 v0:=Tryz.zeroValue0
 t2:=underlying2
 a2:=Tryz.isAgg2
 z2:=Tryz.sizeOf2
 v2:=Tryz.zeroValue2
 t3:=underlying3
 a3:=Tryz.isAgg3
 z3:=Tryz.sizeOf3
 v3:=Tryz.zeroValue3
 t4:=underlying4
 a4:=Tryz.isAgg4
 z4:=Tryz.sizeOf4
 v4:=Tryz.zeroValue4
 t5:=underlying5
 a5:=Tryz.isAgg5
 z5:=Tryz.sizeOf5
 v5:=Tryz.zeroValue5
 t9:=underlying9
 a9:=Tryz.isAgg9
 z9:=Tryz.sizeOf9
 v9:=Tryz.zeroValue9
 t20:=underlying20
 a20:=Tryz.isAgg20
 z20:=Tryz.sizeOf20
 v20:=Tryz.zeroValue20
 t37:=underlying171
 a37:=Tryz.isAgg171
 z37:=Tryz.sizeOf171
 v37:=Tryz.zeroValue171
 t46:=underlying135
 a46:=Tryz.isAgg135
 z46:=Tryz.sizeOf135
 v46:=Tryz.zeroValue135
 t51:=underlying163
 a51:=Tryz.isAgg163
 z51:=Tryz.sizeOf163
 v51:=Tryz.zeroValue163
 t53:=underlying165
 a53:=Tryz.isAgg165
 z53:=Tryz.sizeOf165
 v53:=Tryz.zeroValue165
 t171:=underlying210
 a171:=Tryz.isAgg210
 z171:=Tryz.sizeOf210
 v171:=Tryz.zeroValue210
 t173:=underlying212
 a173:=Tryz.isAgg212
 z173:=Tryz.sizeOf212
 v173:=Tryz.zeroValue212
 t212:=underlying229
 a212:=Tryz.isAgg229
 z212:=Tryz.sizeOf229
 v212:=Tryz.zeroValue229
 t213:=underlying230
 a213:=Tryz.isAgg230
 z213:=Tryz.sizeOf230
 t232:=underlying249
 a232:=Tryz.isAgg249
 z232:=Tryz.sizeOf249
 v232:=Tryz.zeroValue249
 t233:=underlying250
 a233:=Tryz.isAgg250
 z233:=Tryz.sizeOf250
 v233:=Tryz.zeroValue250
 g17:=by kernel_rfl
 g18:=by kernel_rfl
 g19:=by kernel_rfl
 i0:=by kernel_rfl
 i2:=by kernel_rfl
 i3:=by kernel_rfl
 i4:=by kernel_rfl
 i5:=by kernel_rfl
 i9:=by kernel_rfl
 i20:=by kernel_rfl
 i37:=by kernel_rfl
 i46:=by kernel_rfl
 i51:=by kernel_rfl
 i53:=by kernel_rfl
 i171:=by kernel_rfl
 i173:=by kernel_rfl
 i212:=by kernel_rfl
 i232:=by kernel_rfl
 i233:=by kernel_rfl
 m17:=by kernel_rfl
 m18:=by kernel_rfl
 m19:=by kernel_rfl }
def Tryz.laysM171_ren:Go.Shelf.Ren:=⟨λ| 171=>168 | 243=>200 | 246=>229 | 283=>245 | 284=>246 | 285=>247 | 286=>248 | 129=>193 | 317=>266 | 318=>267 | 319=>268 | 320=>269 | 337=>287 | 338=>288 | n=>n,λ| 3=>3 | 9=>9 | 2=>2 | 4=>4 | 171=>210 | 0=>0 | 53=>165 | 37=>171 | 5=>5 | 173=>212 | 212=>229 | 51=>163 | 20=>20 | 213=>230 | 46=>135 | 232=>249 | 233=>250 | n=>n,λ| 17=>1 | 18=>4 | 19=>5 | n=>n⟩
theorem Tryz.laysM171:Go.Proofs.LaysM.n171 Tryz.prog Tryz.laysM171_ren:={
 mixed:=by kernel_rfl
 f129:=func193.trans (congrArg some (by kernel_rfl))
 f171:=func168.trans (congrArg some (by kernel_rfl))
 f243:=func200.trans (congrArg some (by kernel_rfl))
 f246:=func229.trans (congrArg some (by kernel_rfl))
 f283:=func245.trans (congrArg some (by kernel_rfl))
 f284:=func246.trans (congrArg some (by kernel_rfl))
 f285:=func247.trans (congrArg some (by kernel_rfl))
 f286:=func248.trans (congrArg some (by kernel_rfl))
 f317:=func266.trans (congrArg some (by kernel_rfl))
 f318:=func267.trans (congrArg some (by kernel_rfl))
 f319:=func268.trans (congrArg some (by kernel_rfl))
 f320:=func269.trans (congrArg some (by kernel_rfl))
 f337:=func287.trans (congrArg some (by kernel_rfl))
 f338:=func288.trans (congrArg some (by kernel_rfl))
 t0:=underlying0
 a0:=Tryz.isAgg0
 z0:=Tryz.sizeOf0
 v0:=Tryz.zeroValue0
 t2:=underlying2
 a2:=Tryz.isAgg2
 z2:=Tryz.sizeOf2
 v2:=Tryz.zeroValue2
 t3:=underlying3
 a3:=Tryz.isAgg3
 z3:=Tryz.sizeOf3
 v3:=Tryz.zeroValue3
 t4:=underlying4
 a4:=Tryz.isAgg4
 z4:=Tryz.sizeOf4
 v4:=Tryz.zeroValue4
 t5:=underlying5
 a5:=Tryz.isAgg5
 z5:=Tryz.sizeOf5
 v5:=Tryz.zeroValue5
 t9:=underlying9
 a9:=Tryz.isAgg9
 z9:=Tryz.sizeOf9
 v9:=Tryz.zeroValue9
 t20:=underlying20
 a20:=Tryz.isAgg20
 z20:=Tryz.sizeOf20
 v20:=Tryz.zeroValue20
 t37:=underlying171
 a37:=Tryz.isAgg171
 z37:=Tryz.sizeOf171
 v37:=Tryz.zeroValue171
 t46:=underlying135
 a46:=Tryz.isAgg135
 z46:=Tryz.sizeOf135
 v46:=Tryz.zeroValue135
 t51:=underlying163
 a51:=Tryz.isAgg163
 z51:=Tryz.sizeOf163
 v51:=Tryz.zeroValue163
 t53:=underlying165
 a53:=Tryz.isAgg165
 z53:=Tryz.sizeOf165
 v53:=Tryz.zeroValue165
 t171:=underlying210
 a171:=Tryz.isAgg210
 z171:=Tryz.sizeOf210
 v171:=Tryz.zeroValue210
 t173:=underlying212
 a173:=Tryz.isAgg212
 z173:=Tryz.sizeOf212
 v173:=Tryz.zeroValue212
 t212:=underlying229
 a212:=Tryz.isAgg229
 z212:=Tryz.sizeOf229
 v212:=Tryz.zeroValue229
 t213:=underlying230
 a213:=Tryz.isAgg230
 z213:=Tryz.sizeOf230
 t232:=underlying249
 a232:=Tryz.isAgg249
 z232:=Tryz.sizeOf249
 v232:=Tryz.zeroValue249
 t233:=underlying250
 a233:=Tryz.isAgg250
 z233:=Tryz.sizeOf250
 v233:=Tryz.zeroValue250
 g17:=by kernel_rfl
 g18:=by kernel_rfl
 g19:=by kernel_rfl
 i0:=by kernel_rfl
 i2:=by kernel_rfl
 i3:=by kernel_rfl
 i4:=by kernel_rfl
 i5:=by kernel_rfl
 i9:=by kernel_rfl
 i20:=by kernel_rfl
 i37:=by kernel_rfl
 i46:=by kernel_rfl
 i51:=by kernel_rfl
 i53:=by kernel_rfl
 i171:=by kernel_rfl
 i173:=by kernel_rfl
 i212:=by kernel_rfl
 i232:=by kernel_rfl
 i233:=by kernel_rfl
 m17:=by kernel_rfl
 m18:=by kernel_rfl
 m19:=by kernel_rfl }
def Tryz.lays155_ren:Go.Shelf.Ren:=⟨λ| 155=>228 | 154=>244 | 138=>263 | 165=>201 | 143=>264 | 166=>202 | 197=>265 | 169=>203 | 195=>283 | 218=>284 | 240=>230 | 241=>231 | 219=>285 | 260=>286 | 276=>249 | 277=>250 | 217=>294 | 225=>295 | 224=>296 | 267=>297 | 266=>300 | 314=>301 | n=>n,λ| 9=>9 | 3=>3 | 4=>4 | 72=>173 | 0=>0 | 76=>177 | 105=>226 | 21=>21 | 5=>5 | 70=>170 | 20=>20 | 37=>171 | 75=>176 | 127=>199 | 164=>214 | 46=>135 | 119=>245 | 139=>248 | 138=>247 | 146=>252 | 51=>163 | 80=>179 | n=>n,λ| 1=>0 | 3=>2 | 4=>3 | n=>n⟩
theorem Tryz.lays155:Go.Proofs.Lays.n155 Tryz.prog Tryz.lays155_ren:={
 mixed:=by kernel_rfl
 f138:=func263.trans (congrArg some (by kernel_rfl))
 f143:=func264.trans (congrArg some (by kernel_rfl))
 f154:=func244.trans (congrArg some (by kernel_rfl))
 f155:=func228.trans (congrArg some (by kernel_rfl))
 f165:=func201.trans (congrArg some (by kernel_rfl))
 f166:=func202.trans (congrArg some (by kernel_rfl))
 f169:=func203.trans (congrArg some (by kernel_rfl))
 f195:=func283.trans (congrArg some (by kernel_rfl))
 f197:=func265.trans (congrArg some (by kernel_rfl))
 f217:=func294.trans (congrArg some (by kernel_rfl))
 f218:=func284.trans (congrArg some (by kernel_rfl))
 f219:=func285.trans (congrArg some (by kernel_rfl))
 f224:=func296.trans (congrArg some (by kernel_rfl))
 f225:=func295.trans (congrArg some (by kernel_rfl))
 f240:=func230.trans (congrArg some (by kernel_rfl))
 f241:=func231.trans (congrArg some (by kernel_rfl))
 f260:=func286.trans (congrArg some (by kernel_rfl))
 f266:=func300.trans (congrArg some (by kernel_rfl))
 f267:=func297.trans (congrArg some (by kernel_rfl))
 f276:=func249.trans (congrArg some (by kernel_rfl))
 f277:=func250.trans (congrArg some (by kernel_rfl))
 f314:=func301.trans (congrArg some (by kernel_rfl))
 t0:=underlying0
 a0:=Tryz.isAgg0
 z0:=Tryz.sizeOf0
 v0:=Tryz.zeroValue0
 t3:=underlying3
 a3:=Tryz.isAgg3
 z3:=Tryz.sizeOf3
 v3:=Tryz.zeroValue3
 t4:=underlying4
 a4:=Tryz.isAgg4
 z4:=Tryz.sizeOf4
 v4:=Tryz.zeroValue4
 t5:=underlying5
 a5:=Tryz.isAgg5
 z5:=Tryz.sizeOf5
 v5:=Tryz.zeroValue5
 t9:=underlying9
 a9:=Tryz.isAgg9
 z9:=Tryz.sizeOf9
 v9:=Tryz.zeroValue9
 t20:=underlying20
 a20:=Tryz.isAgg20
 z20:=Tryz.sizeOf20
 v20:=Tryz.zeroValue20
 t21:=underlying21
 a21:=Tryz.isAgg21
 z21:=Tryz.sizeOf21
 v21:=Tryz.zeroValue21
 t37:=underlying171
 a37:=Tryz.isAgg171
 z37:=Tryz.sizeOf171
 v37:=Tryz.zeroValue171
 t46:=underlying135
 a46:=Tryz.isAgg135
 z46:=Tryz.sizeOf135
 v46:=Tryz.zeroValue135
 t51:=underlying163
 a51:=Tryz.isAgg163
 z51:=Tryz.sizeOf163
 v51:=Tryz.zeroValue163
 t70:=underlying170
 a70:=Tryz.isAgg170
 z70:=Tryz.sizeOf170
 v70:=Tryz.zeroValue170
 t72:=underlying173
 a72:=Tryz.isAgg173
 z72:=Tryz.sizeOf173
 v72:=Tryz.zeroValue173
 t75:=underlying176
 a75:=Tryz.isAgg176
 z75:=Tryz.sizeOf176
 v75:=Tryz.zeroValue176
 t76:=underlying177
 a76:=Tryz.isAgg177
 z76:=Tryz.sizeOf177
 v76:=Tryz.zeroValue177
 t105:=underlying226
 a105:=Tryz.isAgg226
 z105:=Tryz.sizeOf226
 v105:=Tryz.zeroValue226
 t119:=underlying245
 a119:=Tryz.isAgg245
 z119:=Tryz.sizeOf245
 t127:=underlying199
 a127:=Tryz.isAgg199
 z127:=Tryz.sizeOf199
 v127:=Tryz.zeroValue199
 t138:=underlying247
 a138:=Tryz.isAgg247
 z138:=Tryz.sizeOf247
 v138:=Tryz.zeroValue247
 t139:=underlying248
 a139:=Tryz.isAgg248
 z139:=Tryz.sizeOf248
 v139:=Tryz.zeroValue248
 t146:=underlying252
 a146:=Tryz.isAgg252
 z146:=Tryz.sizeOf252
 v146:=Tryz.zeroValue252
 t164:=underlying214
 a164:=Tryz.isAgg214
 z164:=Tryz.sizeOf214
 v164:=Tryz.zeroValue214
 g1:=by kernel_rfl
 g3:=by kernel_rfl
 g4:=by kernel_rfl }
theorem Tryz.Builder_Extra_155:Builder.Extra Tryz.prog Tryz.lays155_ren:={
 sizeBuilder:=by kernel_rfl
 liesBuilder:=by kernel_rfl
 t5:=underlying5
 a5:=Tryz.isAgg5
 z5:=Tryz.sizeOf5
 v5:=Tryz.zeroValue5
 infoByte:=by kernel_rfl
 cellsByte:=by kernel_rfl
 sizeByte:=by kernel_rfl
 neB5:=by decide }
def Tryz.lays156_ren:Go.Shelf.Ren:=⟨λ| 156=>169 | 165=>201 | 166=>202 | 169=>203 | 240=>230 | 241=>231 | 276=>249 | 277=>250 | n=>n,λ| 31=>144 | 9=>9 | 3=>3 | 4=>4 | 0=>0 | 20=>20 | 72=>173 | 76=>177 | 70=>170 | 37=>171 | 75=>176 | 127=>199 | 164=>214 | 5=>5 | 80=>179 | n=>n,λ| n=>n⟩
theorem Tryz.lays156:Go.Proofs.Lays.n156 Tryz.prog Tryz.lays156_ren:={
 mixed:=by kernel_rfl
 f156:=func169.trans (congrArg some (by kernel_rfl))
 f165:=func201.trans (congrArg some (by kernel_rfl))
 f166:=func202.trans (congrArg some (by kernel_rfl))
 f169:=func203.trans (congrArg some (by kernel_rfl))
 f240:=func230.trans (congrArg some (by kernel_rfl))
 f241:=func231.trans (congrArg some (by kernel_rfl))
 f276:=func249.trans (congrArg some (by kernel_rfl))
 f277:=func250.trans (congrArg some (by kernel_rfl))
 t0:=underlying0
 a0:=Tryz.isAgg0
 z0:=Tryz.sizeOf0
 v0:=Tryz.zeroValue0
 t3:=underlying3
 a3:=Tryz.isAgg3
 z3:=Tryz.sizeOf3
 v3:=Tryz.zeroValue3
 t4:=underlying4
 a4:=Tryz.isAgg4
 z4:=Tryz.sizeOf4
 v4:=Tryz.zeroValue4
 t9:=underlying9
 a9:=Tryz.isAgg9
 z9:=Tryz.sizeOf9
 v9:=Tryz.zeroValue9
 t20:=underlying20
 a20:=Tryz.isAgg20
 z20:=Tryz.sizeOf20
 v20:=Tryz.zeroValue20
 t31:=underlying144
 a31:=Tryz.isAgg144
 z31:=Tryz.sizeOf144
 v31:=Tryz.zeroValue144
 t37:=underlying171
 a37:=Tryz.isAgg171
 z37:=Tryz.sizeOf171
 v37:=Tryz.zeroValue171
 t70:=underlying170
 a70:=Tryz.isAgg170
 z70:=Tryz.sizeOf170
 v70:=Tryz.zeroValue170
 t72:=underlying173
 a72:=Tryz.isAgg173
 z72:=Tryz.sizeOf173
 v72:=Tryz.zeroValue173
 t75:=underlying176
 a75:=Tryz.isAgg176
 z75:=Tryz.sizeOf176
 v75:=Tryz.zeroValue176
 t76:=underlying177
 a76:=Tryz.isAgg177
 z76:=Tryz.sizeOf177
 v76:=Tryz.zeroValue177
 t127:=underlying199
 a127:=Tryz.isAgg199
 z127:=Tryz.sizeOf199
 v127:=Tryz.zeroValue199
 t164:=underlying214
 a164:=Tryz.isAgg214
 z164:=Tryz.sizeOf214
 v164:=Tryz.zeroValue214 }
theorem Tryz.Builder_Extra_156:Builder.Extra Tryz.prog Tryz.lays156_ren:={
 sizeBuilder:=by kernel_rfl
 liesBuilder:=by kernel_rfl
 t5:=underlying5
 a5:=Tryz.isAgg5
 z5:=Tryz.sizeOf5
 v5:=Tryz.zeroValue5
 infoByte:=by kernel_rfl
 cellsByte:=by kernel_rfl
 sizeByte:=by kernel_rfl
 neB5:=by decide }
end Go.Proofs
namespace Go.Proofs.YtljlfiomikifjaaGreatDoor
open Go Go.Ab
open Go.Proofs.Tryz
def strings_Compare (s p:ByteArray):Bool×Int:=zPt s p
def zFk:Ab.Spec ty:=zh (cx:=base) (zc (ze zzg) (zc (ze zzg) zo)) λx=>((strings_Compare x.1 x.2.1).1,⟨[.pure (.lit (.int .i64 (strings_Compare x.1 x.2.1).2))],[]⟩)
theorem zUT:SdP 160 zFk:=zbdL zgn Go.Proofs.Tryz.lays106 call160
end Go.Proofs.YtljlfiomikifjaaGreatDoor
namespace Go.Proofs.YtljlfiomikifjaaGreatDoor
open Go Go.Ab
open Go.Proofs.Tryz
def z6H:=zbt base 22 [(120,zlg),(121,zlk),(138,zmT),(160,zFk)]
def zRh (a:Value) (b:Value):Wy0 (Int):=.bn (zdb a.Kind b.Kind) λr2=>.bn (zjn a.Int b.Int) λr1=>.bn (zlK [r2,r1,(strings_Compare a.Text b.Text).2]) λr0=>.k r0
def zs9 (a:Value) (b:Value):=(zRh a b).fin default
def z8y:AL base (Value×Value×Unit):=zc (ze (zcy 65)) (zc (ze (zcy 65)) zo)
def zAn:=zh z8y λx=>((zs9 x.1 x.2.1).1,zRZ (zs9 x.1 x.2.1).2)
theorem zGU:SdP 125 zAn:=
 sT (cx':=z6H) (zi ⟨zmz,znO,zsE,zUT,trivial⟩) call125 func125 (lOK aN)
def zHq (zD:yC->yC->Bool×Int) (zx:yA->yA->Bool×Int) (zH:yE->yE->Bool×Int) (zK:Wd->Wd->Bool×Int):=zbt base 51 [(67,(zem zD)),(120,zlg),(121,zlk),(122,(zbB zx)),(123,(zbT zH)),(124,(zeq zK)),(125,zAn)]
def zxb (zD:yC->yC->Bool×Int) (zx:yA->yA->Bool×Int) (zH:yE->yE->Bool×Int) (zK:Wd->Wd->Bool×Int) (a:At) (b:At):Wy0 (Int):=.bn (zdb a.Kind b.Kind) λr8=>.bn (zdb a.Row.Table b.Row.Table) λr7=>.bn (zdb a.Row.Seq b.Row.Seq) λr6=>.bn (zx a.Ag b.Ag) λr5=>.bn (zdb a.Func b.Func) λr4=>.bn (zH a.Items b.Items) λr3=>.bn (zdb a.Op b.Op) λr2=>.bn (zs9 a.Bd b.Bd) λr1=>.bn (zlK [r8,r7,r6,r5,r4,r3,r2,r1]) λr0=>.k r0
def zkH (zD:yC->yC->Bool×Int) (zx:yA->yA->Bool×Int) (zH:yE->yE->Bool×Int) (zK:Wd->Wd->Bool×Int) (a:At) (b:At):=(zxb zD zx zH zK a b).fin default
theorem zET (zD:yC->yC->Bool×Int) (zx:yA->yA->Bool×Int) (zH:yE->yE->Bool×Int) (zK:Wd->Wd->Bool×Int) (zj0:SdP 67 (zem zD)) (zfN:SdP 122 (zbB zx)) (zhg:SdP 123 (zbT zH)) (znt:SdP 124 (zeq zK)):SdP 65 (zhp (zkH zD zx zH zK)):=
 sT (cx':=(zHq zD zx zH zK)) (zi ⟨zj0,zmz,znO,zfN,zhg,znt,zGU,trivial⟩) call65 func65 (lOK aN)
def zGb (zc6:At->At->Bool×Int):=zbt base 17 [(65,(zhp zc6)),(120,zlg),(121,zlk)]
def zu3 (zc6:At->At->Bool×Int) (a:Fc) (b:Fc):Wy0 (Int):=.bn (zc6 (At.mk a.At.Kind a.At.Row a.At.Ag a.At.Func a.At.Items a.At.Op a.At.Bd) (At.mk b.At.Kind b.At.Row b.At.Ag b.At.Func b.At.Items b.At.Op b.At.Bd)) λr2=>.bn (zdb a.Exp b.Exp) λr1=>.bn (zlK [r2,r1]) λr0=>.k r0
def zjB (zc6:At->At->Bool×Int) (a:Fc) (b:Fc):=(zu3 zc6 a b).fin default
theorem zCY (zc6:At->At->Bool×Int) (zJ5:SdP 65 (zhp zc6)):SdP 119 (zeN (zjB zc6)):=
 sT (cx':=(zGb zc6)) (zi ⟨zJ5,zmz,znO,trivial⟩) call119 func119 (lOK aN)
def zIf (zD:yC->yC->Bool×Int):=zbt base 17 [(67,(zem zD)),(120,zlg),(125,zAn)]
def zw1 (zD:yC->yC->Bool×Int) (a:Wd) (b:Wd):Wy0 (Int):=.bn (zs9 a.Value b.Value) λr2=>.bn (zD a.Ann b.Ann) λr1=>.bn (zlK [r2,r1]) λr0=>.k r0
def zkN (zD:yC->yC->Bool×Int) (a:Wd) (b:Wd):=(zw1 zD a b).fin default
theorem zEV (zD:yC->yC->Bool×Int) (zj0:SdP 67 (zem zD)):SdP 124 (zeq (zkN zD)):=
 sT (cx':=(zIf zD)) (zi ⟨zj0,zmz,zGU,trivial⟩) call124 func124 (lOK aN)
def zIg (zR:yD->yD->Bool×Int) (zC:Fc->Fc->Bool×Int):=zbt base 10 [(118,(zb8 zR)),(119,(zeN zC))]
def zxc (zR:yD->yD->Bool×Int) (zC:Fc->Fc->Bool×Int) (a:Term) (b:Term):Wy0 (Int):=.bn (zR a.Fs b.Fs) λr0=>.k r0
def zkE (zR:yD->yD->Bool×Int) (zC:Fc->Fc->Bool×Int) (a:Term) (b:Term):=(zxc zR zC a b).fin default
theorem zE1 (zR:yD->yD->Bool×Int) (zC:Fc->Fc->Bool×Int) (zjo:SdP 118 (zb8 zR)) (zl6:SdP 119 (zeN zC)):SdP 63 (zgo (zkE zR zC)):=
 sT (cx':=(zIg zR zC)) (zi ⟨zjo,zl6,trivial⟩) call63 func63 (lOK aN)
abbrev zbO:=yA×yA×Unit×yA×Int×Int×Unit
abbrev zdC:=Int⊕(yA×yA)
def zfL (zD:yC->yC->Bool×Int) (s1:yA) (s2:yA) (t11:yA) (t12:Int) (t13:Int):Wy zbO Unit zdC:=.i (decide (t13<t12)) (.i (decide (0<=t13)&&decide (t13<Int.ofNat t11.length)) (.i (decide (t13≥Int.ofNat s2.length)) (.k (.inl 1)) (.i (decide (0<=t13)&&decide (t13<Int.ofNat s2.length)) (.bn (zD (t11.getD t13.toNat default) (s2.getD t13.toNat default)) λr0=>.i (r0 != 0) (.k (.inl (r0))) (.h (s1,s2,(),t11,t12,(IntKind.i64.wrap (t13+1)),()) ())) .d)) .d) (.k (.inr (s1,s2)))
def zcV (zD:yC->yC->Bool×Int) (x:zbO) (y:Unit):=zfL zD x.1 x.2.1 x.2.2.2.1 x.2.2.2.2.1 x.2.2.2.2.2.1
def zfI (zD:yC->yC->Bool×Int) (n:Nat) (s1:yA) (s2:yA) (t11:yA) (t12:Int) (t13:Int):=zA (zcV zD) (.inl default) n (s1,s2,(),t11,t12,t13,()) ()
def zfA (r:zdC):LTree ty:=.ite (isL r) (.done .ret [.lit (.int .i64 (getL r))] []) (.done (.exit 0) [.sl 23 (getR r).1,.sl 23 (getR r).2] [])
def zfE:LL ty zbO:=za (lSl 23) (za (lSl 23) (za (lFn 67 (zk)) (za (lSl 23) (za zj (za zj zk)))))
def zfz (x:zbO) (y:Unit):Nat:=(x.1.length+x.2.1.length+x.2.2.2.1.length+Int.toNat x.2.2.2.2.1+Int.toNat x.2.2.2.2.2.1+1)
def zcT (zD:yC->yC->Bool×Int):=zbY base 39 [(67,(zem zD))] [] [(2,(kpL [0,1,2,11,12,13]))] [(2,1,(kpL [0,1])),(2,0,(kpL [6]))] [(2,spW zfE zbc9 (zcV zD) (.inl default) zfA zfz)] []
theorem zfx (zD:yC->yC->Bool×Int):zy (zcT zD) (lp (body f122) 0):=zm (id:=2) (hl:=rfl)
def zfU (zD:yC->yC->Bool×Int) (s1:yA) (s2:yA):Wy0 (Int):=.bn (zfI zD (s1.length+s2.length+s1.length+(Int.ofNat s1.length).toNat +Int.toNat 0+1) s1 s2 s1 (Int.ofNat s1.length) 0) λr2=>.i (isL r2) (.k (getL r2)) (.i (decide (Int.ofNat (getR r2).1.length<Int.ofNat (getR r2).2.length)) (.k (-1:Int)) (.k 0))
def zbA (zD:yC->yC->Bool×Int) (s1:yA) (s2:yA):=(zfU zD s1 s2).fin default
theorem zfk (zD:yC->yC->Bool×Int) (zj0:SdP 67 (zem zD)):SdP 122 (zbB (zbA zD)):=
 sT (cx':=(zcT zD)) (zi ⟨zj0,trivial⟩) call122 func122 (lOK (aC (zfx zD) aN))
abbrev zcn:=yD×yD×Unit×yD×Int×Int×Unit
abbrev zfb:=Int⊕(yD×yD)
def zea (zC:Fc->Fc->Bool×Int) (s1:yD) (s2:yD) (t11:yD) (t12:Int) (t13:Int):Wy zcn Unit zfb:=.i (decide (t13<t12)) (.i (decide (0<=t13)&&decide (t13<Int.ofNat t11.length)) (.i (decide (t13≥Int.ofNat s2.length)) (.k (.inl 1)) (.i (decide (0<=t13)&&decide (t13<Int.ofNat s2.length)) (.bn (zC (FO.mk (At.mk (t11.getD t13.toNat default).At.Kind (t11.getD t13.toNat default).At.Row (t11.getD t13.toNat default).At.Ag (t11.getD t13.toNat default).At.Func (t11.getD t13.toNat default).At.Items (t11.getD t13.toNat default).At.Op (t11.getD t13.toNat default).At.Bd) (t11.getD t13.toNat default).Exp) (FO.mk (At.mk (s2.getD t13.toNat default).At.Kind (s2.getD t13.toNat default).At.Row (s2.getD t13.toNat default).At.Ag (s2.getD t13.toNat default).At.Func (s2.getD t13.toNat default).At.Items (s2.getD t13.toNat default).At.Op (s2.getD t13.toNat default).At.Bd) (s2.getD t13.toNat default).Exp)) λr0=>.i (r0 != 0) (.k (.inl (r0))) (.h (s1,s2,(),t11,t12,(IntKind.i64.wrap (t13+1)),()) ())) .d)) .d) (.k (.inr (s1,s2)))
def zbZ (zC:Fc->Fc->Bool×Int) (x:zcn) (y:Unit):=zea zC x.1 x.2.1 x.2.2.2.1 x.2.2.2.2.1 x.2.2.2.2.2.1
def zd8 (zC:Fc->Fc->Bool×Int) (n:Nat) (s1:yD) (s2:yD) (t11:yD) (t12:Int) (t13:Int):=zA (zbZ zC) (.inl default) n (s1,s2,(),t11,t12,t13,()) ()
def ziY (r:zfb):LTree ty:=.ite (isL r) (.done .ret [.lit (.int .i64 (getL r))] []) (.done (.exit 0) [.sl 69 (getR r).1,.sl 69 (getR r).2] [])
def zjb:LL ty zcn:=za (lSl 69) (za (lSl 69) (za (lFn 119 (zk)) (za (lSl 69) (za zj (za zj zk)))))
def ziT (x:zcn) (y:Unit):Nat:=(x.1.length+x.2.1.length+x.2.2.2.1.length+Int.toNat x.2.2.2.2.1+Int.toNat x.2.2.2.2.2.1+1)
def zd9 (zC:Fc->Fc->Bool×Int):=zbY base 39 [(119,(zeN zC))] [] [(2,(kpL [0,1,2,11,12,13]))] [(2,1,(kpL [0,1])),(2,0,(kpL [6]))] [(2,spW zjb zbc9 (zbZ zC) (.inl default) ziY ziT)] []
theorem ziK (zC:Fc->Fc->Bool×Int):zy (zd9 zC) (lp (body f118) 0):=zm (id:=2) (hl:=rfl)
def zeg (zC:Fc->Fc->Bool×Int) (s1:yD) (s2:yD):Wy0 (Int):=.bn (zd8 zC (s1.length+s2.length+s1.length+(Int.ofNat s1.length).toNat +Int.toNat 0+1) s1 s2 s1 (Int.ofNat s1.length) 0) λr2=>.i (isL r2) (.k (getL r2)) (.i (decide (Int.ofNat (getR r2).1.length<Int.ofNat (getR r2).2.length)) (.k (-1:Int)) (.k 0))
def zbH (zC:Fc->Fc->Bool×Int) (s1:yD) (s2:yD):=(zeg zC s1 s2).fin default
theorem zif (zC:Fc->Fc->Bool×Int) (zl6:SdP 119 (zeN zC)):SdP 118 (zb8 (zbH zC)):=
 sT (cx':=(zd9 zC)) (zi ⟨zl6,trivial⟩) call118 func118 (lOK (aC (ziK zC) aN))
abbrev zb6:=yE×yE×Unit×yE×Int×Int×Unit
abbrev zei:=Int⊕(yE×yE)
def zgT (zK:Wd->Wd->Bool×Int) (s1:yE) (s2:yE) (t11:yE) (t12:Int) (t13:Int):Wy zb6 Unit zei:=.i (decide (t13<t12)) (.i (decide (0<=t13)&&decide (t13<Int.ofNat t11.length)) (.i (decide (t13≥Int.ofNat s2.length)) (.k (.inl 1)) (.i (decide (0<=t13)&&decide (t13<Int.ofNat s2.length)) (.bn (zK (t11.getD t13.toNat default) (s2.getD t13.toNat default)) λr0=>.i (r0 != 0) (.k (.inl (r0))) (.h (s1,s2,(),t11,t12,(IntKind.i64.wrap (t13+1)),()) ())) .d)) .d) (.k (.inr (s1,s2)))
def zdp (zK:Wd->Wd->Bool×Int) (x:zb6) (y:Unit):=zgT zK x.1 x.2.1 x.2.2.2.1 x.2.2.2.2.1 x.2.2.2.2.2.1
def zgX (zK:Wd->Wd->Bool×Int) (n:Nat) (s1:yE) (s2:yE) (t11:yE) (t12:Int) (t13:Int):=zA (zdp zK) (.inl default) n (s1,s2,(),t11,t12,t13,()) ()
def zgK (r:zei):LTree ty:=.ite (isL r) (.done .ret [.lit (.int .i64 (getL r))] []) (.done (.exit 0) [.sl 100 (getR r).1,.sl 100 (getR r).2] [])
def zgS:LL ty zb6:=za (lSl 100) (za (lSl 100) (za (lFn 124 (zk)) (za (lSl 100) (za zj (za zj zk)))))
def zgH (x:zb6) (y:Unit):Nat:=(x.1.length+x.2.1.length+x.2.2.2.1.length+Int.toNat x.2.2.2.2.1+Int.toNat x.2.2.2.2.2.1+1)
def zdq (zK:Wd->Wd->Bool×Int):=zbY base 39 [(124,(zeq zK))] [] [(2,(kpL [0,1,2,11,12,13]))] [(2,1,(kpL [0,1])),(2,0,(kpL [6]))] [(2,spW zgS zbc9 (zdp zK) (.inl default) zgK zgH)] []
theorem zgG (zK:Wd->Wd->Bool×Int):zy (zdq zK) (lp (body f123) 0):=zm (id:=2) (hl:=rfl)
def zhd (zK:Wd->Wd->Bool×Int) (s1:yE) (s2:yE):Wy0 (Int):=.bn (zgX zK (s1.length+s2.length+s1.length+(Int.ofNat s1.length).toNat +Int.toNat 0+1) s1 s2 s1 (Int.ofNat s1.length) 0) λr2=>.i (isL r2) (.k (getL r2)) (.i (decide (Int.ofNat (getR r2).1.length<Int.ofNat (getR r2).2.length)) (.k (-1:Int)) (.k 0))
def zbS (zK:Wd->Wd->Bool×Int) (s1:yE) (s2:yE):=(zhd zK s1 s2).fin default
theorem zgw (zK:Wd->Wd->Bool×Int) (znt:SdP 124 (zeq zK)):SdP 123 (zbT (zbS zK)):=
 sT (cx':=(zdq zK)) (zi ⟨znt,trivial⟩) call123 func123 (lOK (aC (zgG zK) aN))
abbrev zch:=yC×yC×Unit×yC×Int×Int×Unit
abbrev zeW:=Int⊕(yC×yC)
def ziu (zO:Term->Term->Bool×Int) (s1:yC) (s2:yC) (t11:yC) (t12:Int) (t13:Int):Wy zch Unit zeW:=.i (decide (t13<t12)) (.i (decide (0<=t13)&&decide (t13<Int.ofNat t11.length)) (.i (decide (t13≥Int.ofNat s2.length)) (.k (.inl 1)) (.i (decide (0<=t13)&&decide (t13<Int.ofNat s2.length)) (.bn (zO (t11.getD t13.toNat default) (s2.getD t13.toNat default)) λr0=>.i (r0 != 0) (.k (.inl (r0))) (.h (s1,s2,(),t11,t12,(IntKind.i64.wrap (t13+1)),()) ())) .d)) .d) (.k (.inr (s1,s2)))
def zdZ (zO:Term->Term->Bool×Int) (x:zch) (y:Unit):=ziu zO x.1 x.2.1 x.2.2.2.1 x.2.2.2.2.1 x.2.2.2.2.2.1
def ziw (zO:Term->Term->Bool×Int) (n:Nat) (s1:yC) (s2:yC) (t11:yC) (t12:Int) (t13:Int):=zA (zdZ zO) (.inl default) n (s1,s2,(),t11,t12,t13,()) ()
def zh6 (r:zeW):LTree ty:=.ite (isL r) (.done .ret [.lit (.int .i64 (getL r))] []) (.done (.exit 0) [.sl 28 (getR r).1,.sl 28 (getR r).2] [])
def zix:LL ty zch:=za (lSl 28) (za (lSl 28) (za (lFn 137 (zk)) (za (lSl 28) (za zj (za zj zk)))))
def zik (x:zch) (y:Unit):Nat:=(x.1.length+x.2.1.length+x.2.2.2.1.length+Int.toNat x.2.2.2.2.1+Int.toNat x.2.2.2.2.2.1+1)
def zd0 (zO:Term->Term->Bool×Int):=zbY base 39 [(137,(zgo zO))] [] [(2,(kpL [0,1,2,11,12,13]))] [(2,1,(kpL [0,1])),(2,0,(kpL [6]))] [(2,spW zix zbc9 (zdZ zO) (.inl default) zh6 zik)] []
theorem ziq (zO:Term->Term->Bool×Int):zy (zd0 zO) (lp (body f136) 0):=zm (id:=2) (hl:=rfl)
def ziX (zO:Term->Term->Bool×Int) (s1:yC) (s2:yC):Wy0 (Int):=.bn (ziw zO (s1.length+s2.length+s1.length+(Int.ofNat s1.length).toNat +Int.toNat 0+1) s1 s2 s1 (Int.ofNat s1.length) 0) λr2=>.i (isL r2) (.k (getL r2)) (.i (decide (Int.ofNat (getR r2).1.length<Int.ofNat (getR r2).2.length)) (.k (-1:Int)) (.k 0))
def zb1 (zO:Term->Term->Bool×Int) (s1:yC) (s2:yC):=(ziX zO s1 s2).fin default
theorem zhB (zO:Term->Term->Bool×Int) (zpS:SdP 137 (zgo zO)):SdP 136 (zb2 (zb1 zO)):=
 sT (cx':=(zd0 zO)) (zi ⟨zpS,trivial⟩) call136 func136 (lOK (aC (ziq zO) aN))
def zcq:Nat->(yC->yC->Bool×Int)×(Term->Term->Bool×Int)×(Term->Term->Bool×Int)×(Fc->Fc->Bool×Int)×(At->At->Bool×Int)×(Wd->Wd->Bool×Int)×(yC->yC->Bool×Int)×(yD->yD->Bool×Int)×(yA->yA->Bool×Int)×(yE->yE->Bool×Int)
 | 0=>(λ_ _=>(false,default),λ_ _=>(false,default),λ_ _=>(false,default),λ_ _=>(false,default),λ_ _=>(false,default),λ_ _=>(false,default),λ_ _=>(false,default),λ_ _=>(false,default),λ_ _=>(false,default),λ_ _=>(false,default))
 | n+1=>(zpe ((zcq n).2.2.2.2.2.2.1) ((zcq n).2.1),zme ((zcq n).2.2.1),zkE ((zcq n).2.2.2.2.2.2.2.1) ((zcq n).2.2.2.1),zjB ((zcq n).2.2.2.2.1),zkH ((zcq n).1) ((zcq n).2.2.2.2.2.2.2.2.1) ((zcq n).2.2.2.2.2.2.2.2.2) ((zcq n).2.2.2.2.2.1),zkN ((zcq n).1),zb1 ((zcq n).2.1),zbH ((zcq n).2.2.2.1),zbA ((zcq n).1),zbS ((zcq n).2.2.2.2.2.1))
def zgE (n:Nat):yC->yC->Bool×Int:=(zcq n).1
def zi5 (n:Nat):Term->Term->Bool×Int:=(zcq n).2.1
def zhm (n:Nat):Term->Term->Bool×Int:=(zcq n).2.2.1
def zgl (n:Nat):Fc->Fc->Bool×Int:=(zcq n).2.2.2.1
def zhl (n:Nat):At->At->Bool×Int:=(zcq n).2.2.2.2.1
def zfo (n:Nat):Wd->Wd->Bool×Int:=(zcq n).2.2.2.2.2.1
def zb3 (n:Nat):yC->yC->Bool×Int:=(zcq n).2.2.2.2.2.2.1
def zb7 (n:Nat):yD->yD->Bool×Int:=(zcq n).2.2.2.2.2.2.2.1
def zbC (n:Nat):yA->yA->Bool×Int:=(zcq n).2.2.2.2.2.2.2.2.1
def zbU (n:Nat):yE->yE->Bool×Int:=(zcq n).2.2.2.2.2.2.2.2.2
theorem zQo (n:Nat):zgE (n+1)=zpe (zb3 n) (zi5 n):=rfl
theorem zKE (n:Nat):zi5 (n+1)=zme (zhm n):=rfl
theorem zHL (n:Nat):zhm (n+1)=zkE (zb7 n) (zgl n):=rfl
theorem zF7 (n:Nat):zgl (n+1)=zjB (zhl n):=rfl
theorem zH6 (n:Nat):zhl (n+1)=zkH (zgE n) (zbC n) (zbU n) (zfo n):=rfl
theorem zH5 (n:Nat):zfo (n+1)=zkN (zgE n):=rfl
theorem ziv (n:Nat):zb3 (n+1)=zb1 (zi5 n):=rfl
theorem zje (n:Nat):zb7 (n+1)=zbH (zgl n):=rfl
theorem zfG (n:Nat):zbC (n+1)=zbA (zgE n):=rfl
theorem zgR (n:Nat):zbU (n+1)=zbS (zfo n):=rfl
theorem zyN:∀ n,SdP 67 (zem (zgE n))/\SdP 137 (zgo (zi5 n))/\SdP 63 (zgo (zhm n))/\SdP 119 (zeN (zgl n))/\SdP 65 (zhp (zhl n))/\SdP 124 (zeq (zfo n))/\SdP 136 (zb2 (zb3 n))/\SdP 118 (zb8 (zb7 n))/\SdP 122 (zbB (zbC n))/\SdP 123 (zbT (zbU n))
 | 0=>⟨zba call67 (λ_=>rfl),zba call137 (λ_=>rfl),zba call63 (λ_=>rfl),zba call119 (λ_=>rfl),zba call65 (λ_=>rfl),zba call124 (λ_=>rfl),zba call136 (λ_=>rfl),zba call118 (λ_=>rfl),zba call122 (λ_=>rfl),zba call123 (λ_=>rfl)⟩
 | n+1=>by
  have ih:=zyN n;exact ⟨zLx _ _ (ih.2.2.2.2.2.2.1) (ih.2.1),zGs _ (ih.2.2.1),zE1 _ _ (ih.2.2.2.2.2.2.2.1) (ih.2.2.2.1),zCY _ (ih.2.2.2.2.1),zET _ _ _ _ (ih.1) (ih.2.2.2.2.2.2.2.2.1) (ih.2.2.2.2.2.2.2.2.2) (ih.2.2.2.2.2.1),zEV _ (ih.1),zhB _ (ih.2.1),zif _ (ih.2.2.2.1),zfk _ (ih.1),zgw _ (ih.2.2.2.2.2.1)⟩
def zAR:yC->yC->Bool×Int:=zgE 1000
def zCe:Ab.Spec ty:=zem zAR
theorem zPh:SdP 67 zCe:=(zyN 1000).1
def zcx:Term->Term->Bool×Int:=zhm 1000
def zi1:Ab.Spec ty:=zgo zcx
theorem zlY:SdP 63 zi1:=(zyN 1000).2.2.1
def zi8:At->At->Bool×Int:=zhl 1000
def zmG:Ab.Spec ty:=zhp zi8
theorem zu4:SdP 65 zmG:=(zyN 1000).2.2.2.2.1
def zbv:Wd->Wd->Bool×Int:=zfo 1000
def zfS:Ab.Spec ty:=zeq zbv
theorem zhT:SdP 124 zfS:=(zyN 1000).2.2.2.2.2.1
def z0t:AL base (yC×Unit):=zc (ze (vSl 28)) zo
def zh1 (F:yC->Bool×Bool):Ab.Spec ty:=zh z0t λx=>((F x.1).1,zZL (F x.1).2)
def zC1:AL base (At×Unit):=zc (ze (zcy 67)) zo
def zmW (F:At->Bool×Bool):Ab.Spec ty:=zh zC1 λx=>((F x.1).1,zZL (F x.1).2)
def zMn:AL base (Wd×Unit):=zc (ze (zcy 100)) zo
def zdA (F:Wd->Bool×Bool):Ab.Spec ty:=zh zMn λx=>((F x.1).1,zZL (F x.1).2)
def zox:AL base (yA×Unit×Unit):=zc (ze (vSl 23)) (zc (ze (vFn 127 zb4)) zo)
def zcN (F:yA->Bool×Int):Ab.Spec ty:=zh zox λx=>((F x.1).1,zRZ (F x.1).2)
def zcC (F:yA->Bool×Bool):Ab.Spec ty:=zh zox λx=>((F x.1).1,zZL (F x.1).2)
def zrg:AL base (yE×Unit×Unit):=zc (ze (vSl 100)) (zc (ze (vFn 133 zb4)) zo)
def zde (F:yE->Bool×Int):Ab.Spec ty:=zh zrg λx=>((F x.1).1,zRZ (F x.1).2)
def zcW (F:yE->Bool×Bool):Ab.Spec ty:=zh zrg λx=>((F x.1).1,zZL (F x.1).2)
def zN9:=zbt base 11 []
def zB6 (x_:At):Wy0 (Bool):=.i (x_.Kind==3) (.k true) (.k (x_.Kind==4))
def zfX (x_:At):=(zB6 x_).fin default
def zj3:=zh zC1 λx=>((zfX x.1).1,zZL (zfX x.1).2)
theorem znl:SdP 64 zj3:=
 sT (cx':=zN9) (zi trivial) call64 func64 (lOK aN)
def zoP (F:yC->Bool×Int):Ab.Spec ty:=zh z0t λx=>((F x.1).1,zRZ (F x.1).2)
end Go.Proofs.YtljlfiomikifjaaGreatDoor
end
