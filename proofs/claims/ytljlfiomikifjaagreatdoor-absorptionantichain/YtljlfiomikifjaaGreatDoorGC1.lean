/- Texts of this claim, joined (the program, its functions in plain words, and what they compute). -/
import Derived.KernelRfl
import Derived.Test.YtljlfiomikifjaaGreatDoorChecked
import Derived.Test.YtljlfiomikifjaaGreatDoorProg
import Derived.Test.YtljlfiomikifjaaGreatDoorGB1
set_option autoImplicit false
set_option linter.unusedVariables false
set_option linter.unusedSectionVars false
set_option linter.unusedSimpArgs false
set_option maxRecDepth 1000000
set_option maxHeartbeats 0
/- The types of the program, as plain data. -/
noncomputable section
namespace Go.Proofs.YtljlfiomikifjaaGreatDoor
open Go Go.Ab
open Go.Proofs Go.Shelf
open Go.Proofs.Tryz
structure RowID where
 Table:Int
 Seq:Int
 deriving DecidableEq,Inhabited
structure Value where
 Kind:Int
 Int:Int
 Text:ByteArray
 deriving DecidableEq,Inhabited
structure FO (A:Type) where
 At:A
 Exp:Int
structure TO (A:Type) where
 Cf:Int
 Fs:List (FO A)
structure WO (A:Type) where
 Value:Value
 Ann:List (TO A)
structure At where
 Kind:Int
 Row:RowID
 Ag:List (List (TO At))
 Func:Int
 Items:List (WO At)
 Op:Int
 Bd:Value
abbrev Fc:=FO At
abbrev Term:=TO At
abbrev Wd:=WO At
instance:Inhabited At:=⟨⟨0,default,[],0,[],0,default⟩⟩
instance:Inhabited Fc:=⟨⟨default,0⟩⟩
instance:Inhabited Term:=⟨⟨0,[]⟩⟩
instance:Inhabited Wd:=⟨⟨default,[]⟩⟩
theorem At.eta (x:At):(⟨x.Kind,x.Row,x.Ag,x.Func,x.Items,x.Op,x.Bd⟩:At)=x:=by cases x; rfl
mutual
def zbd5:(x y:At)->Decidable (x=y)
 | ⟨k,r,a,f,i,o,b⟩,⟨k',r',a',f',i',o',b'⟩=>
  match decEq k k',decEq r r',zbd1 a a',decEq f f',zbcA i i',decEq o o',decEq b b' with
  | .isTrue h1,.isTrue h2,.isTrue h3,.isTrue h4,.isTrue h5,.isTrue h6,.isTrue h7=>.isTrue (by subst h1 h2 h3 h4 h5 h6 h7; rfl)
  | .isFalse h,_,_,_,_,_,_=>.isFalse (λe=>by cases e; exact h rfl)
  | _,.isFalse h,_,_,_,_,_=>.isFalse (λe=>by cases e; exact h rfl)
  | _,_,.isFalse h,_,_,_,_=>.isFalse (λe=>by cases e; exact h rfl)
  | _,_,_,.isFalse h,_,_,_=>.isFalse (λe=>by cases e; exact h rfl)
  | _,_,_,_,.isFalse h,_,_=>.isFalse (λe=>by cases e; exact h rfl)
  | _,_,_,_,_,.isFalse h,_=>.isFalse (λe=>by cases e; exact h rfl)
  | _,_,_,_,_,_,.isFalse h=>.isFalse (λe=>by cases e; exact h rfl)
def z9E:(x y:Fc)->Decidable (x=y)
 | ⟨a,e⟩,⟨a',e'⟩=>match zbd5 a a',decEq e e' with
  | .isTrue h1,.isTrue h2=>.isTrue (by subst h1 h2; rfl)
  | .isFalse h,_=>.isFalse (λe=>by cases e; exact h rfl)
  | _,.isFalse h=>.isFalse (λe=>by cases e; exact h rfl)
def z5W:(x y:List Fc)->Decidable (x=y)
 | [],[]=>.isTrue rfl
 | [],_::_=>.isFalse (by simp)
 | _::_,[]=>.isFalse (by simp)
 | x::r,y::s=>match z9E x y,z5W r s with
  | .isTrue h1,.isTrue h2=>.isTrue (by subst h1 h2; rfl)
  | .isFalse h,_=>.isFalse (λe=>by cases e; exact h rfl)
  | _,.isFalse h=>.isFalse (λe=>by cases e; exact h rfl)
def zbd7:(x y:Term)->Decidable (x=y)
 | ⟨a,e⟩,⟨a',e'⟩=>match decEq a a',z5W e e' with
  | .isTrue h1,.isTrue h2=>.isTrue (by subst h1 h2; rfl)
  | .isFalse h,_=>.isFalse (λe=>by cases e; exact h rfl)
  | _,.isFalse h=>.isFalse (λe=>by cases e; exact h rfl)
def zbbU:(x y:List Term)->Decidable (x=y)
 | [],[]=>.isTrue rfl
 | [],_::_=>.isFalse (by simp)
 | _::_,[]=>.isFalse (by simp)
 | x::r,y::s=>match zbd7 x y,zbbU r s with
  | .isTrue h1,.isTrue h2=>.isTrue (by subst h1 h2; rfl)
  | .isFalse h,_=>.isFalse (λe=>by cases e; exact h rfl)
  | _,.isFalse h=>.isFalse (λe=>by cases e; exact h rfl)
def zbd1:(x y:List (List Term))->Decidable (x=y)
 | [],[]=>.isTrue rfl
 | [],_::_=>.isFalse (by simp)
 | _::_,[]=>.isFalse (by simp)
 | x::r,y::s=>match zbbU x y,zbd1 r s with
  | .isTrue h1,.isTrue h2=>.isTrue (by subst h1 h2; rfl)
  | .isFalse h,_=>.isFalse (λe=>by cases e; exact h rfl)
  | _,.isFalse h=>.isFalse (λe=>by cases e; exact h rfl)
def zbdN:(x y:Wd)->Decidable (x=y)
 | ⟨a,e⟩,⟨a',e'⟩=>match decEq a a',zbbU e e' with
  | .isTrue h1,.isTrue h2=>.isTrue (by subst h1 h2; rfl)
  | .isFalse h,_=>.isFalse (λe=>by cases e; exact h rfl)
  | _,.isFalse h=>.isFalse (λe=>by cases e; exact h rfl)
def zbcA:(x y:List Wd)->Decidable (x=y)
 | [],[]=>.isTrue rfl
 | [],_::_=>.isFalse (by simp)
 | _::_,[]=>.isFalse (by simp)
 | x::r,y::s=>match zbdN x y,zbcA r s with
  | .isTrue h1,.isTrue h2=>.isTrue (by subst h1 h2; rfl)
  | .isFalse h,_=>.isFalse (λe=>by cases e; exact h rfl)
  | _,.isFalse h=>.isFalse (λe=>by cases e; exact h rfl)
end
instance:DecidableEq At:=zbd5
instance:DecidableEq Fc:=z9E
instance:DecidableEq Term:=zbd7
instance:DecidableEq Wd:=zbdN
structure Bg where
 Row:RowID
 To:List Term
 deriving DecidableEq,Inhabited
abbrev yA:=List (List Term)
abbrev yB:=List (List RowID)
abbrev yC:=List Term
abbrev yD:=List Fc
abbrev yE:=List Wd
abbrev yF:=List RowID
abbrev yG:=List Bg
abbrev yH:=List Value
def ty:Nat->Type
 | 2=>Int
 | 3=>Int
 | 4=>Bool
 | 5=>Int
 | 9=>ByteArray
 | 22=>yC
 | 23=>yC
 | 26=>yD
 | 28=>Term
 | 35=>Int
 | 39=>yB
 | 43=>yF
 | 47=>yG
 | 49=>RowID
 | 51=>Bg
 | 60=>yA
 | 63=>yE
 | 65=>Value
 | 67=>At
 | 69=>Fc
 | 100=>Wd
 | 121=>Unit
 | 135=>Int
 | 138=>List Int
 | 144=>List ByteArray
 | 189=>List (yD)
 | _=>Unit
instance:(T:Nat)->Inhabited (ty T):=λT=>by
 unfold ty;split <;>infer_instance
def zbhA:DT ty RowID:=zWw (λx=>⟨x.1,x.2⟩) (λx=>(x.Table,x.Seq)) (λ_=>rfl) (zxr (zBz .i64) (zBz .i64))
def zbhq:DT ty Value:=zWw (λx=>⟨x.1,x.2.1,x.2.2⟩) (λx=>(x.Kind,x.Int,x.Text)) (λ_=>rfl) (zxr (zBz .i64) (zxr (zBz .i64) (zbh0)))
def zbkh:DT ty At:=zWw (λx=>⟨x.1,x.2.1,x.2.2.1,x.2.2.2.1,x.2.2.2.2.1,x.2.2.2.2.2.1,x.2.2.2.2.2.2⟩) (λx=>(x.Kind,x.Row,x.Ag,x.Func,x.Items,x.Op,x.Bd)) (λ_=>rfl) (zxr (zBz .i64) (zxr (zbhA) (zxr (zEA 23) (zxr (zBz .i64) (zxr (zEA 100) (zxr (zBz .i64) (zbhq)))))))
def zbly:DT ty Fc:=zWw (λx=>⟨x.1,x.2⟩) (λx=>(x.At,x.Exp)) (λ_=>rfl) (zxr (zbkh) (zBz .i64))
def zbln:DT ty Term:=zWw (λx=>⟨x.1,x.2⟩) (λx=>(x.Cf,x.Fs)) (λ_=>rfl) (zxr (zBz .i64) (zEA 69))
def zbkZ:DT ty Wd:=zWw (λx=>⟨x.1,x.2⟩) (λx=>(x.Value,x.Ann)) (λ_=>rfl) (zxr (zbhq) (zEA 28))
def zblp:DT ty Bg:=zWw (λx=>⟨x.1,x.2⟩) (λx=>(x.Row,x.To)) (λ_=>rfl) (zxr (zbhA) (zEA 28))
def z5G:List ((T:Nat)×DT ty (ty T)):=[⟨2,(zBz .i64:DT ty Int)⟩,⟨3,(zBz .i64:DT ty Int)⟩,⟨4,(zbkK:DT ty Bool)⟩,⟨5,(zBz .u8:DT ty Int)⟩,⟨9,(zbh0:DT ty ByteArray)⟩,⟨22,(zEA 28:DT ty (yC))⟩,⟨23,(zEA 28:DT ty (yC))⟩,⟨26,(zEA 69:DT ty (yD))⟩,⟨28,(zbln:DT ty Term)⟩,⟨35,(zBz .i64:DT ty Int)⟩,⟨39,(zEA 43:DT ty (yB))⟩,⟨43,(zEA 49:DT ty (yF))⟩,⟨47,(zEA 51:DT ty (yG))⟩,⟨49,(zbhA:DT ty RowID)⟩,⟨51,(zblp:DT ty Bg)⟩,⟨60,(zEA 23:DT ty (yA))⟩,⟨63,(zEA 100:DT ty (yE))⟩,⟨65,(zbhq:DT ty Value)⟩,⟨67,(zbkh:DT ty At)⟩,⟨69,(zbly:DT ty Fc)⟩,⟨100,(zbkZ:DT ty Wd)⟩,⟨121,(zblG:DT ty Unit)⟩,⟨135,(zBz .u64:DT ty Int)⟩,⟨138,(zEA 3:DT ty (List Int))⟩,⟨144,(zEA 9:DT ty (List ByteArray))⟩,⟨189,(zEA 26:DT ty (List (yD)))⟩]
def zbaI:List (Nat×TInfo):=[(2,⟨.int .i64,1,8,[.int .i64 (0)]⟩),
 (3,⟨.int .i64,1,8,[.int .i64 (0)]⟩),
 (4,⟨.bool,1,1,[.bool false]⟩),
 (5,⟨.int .u8,1,1,[.int .u8 (0)]⟩),
 (9,⟨.str,1,16,[.string ⟨#[]⟩]⟩),
 (22,⟨.slice 28,1,24,[.slice none 0 0]⟩),
 (23,⟨.slice 28,1,24,[.slice none 0 0]⟩),
 (26,⟨.slice 69,1,24,[.slice none 0 0]⟩),
 (28,⟨.struct [(0,2),(1,26)],2,32,[.int .i64 (0),.slice none 0 0]⟩),
 (35,⟨.int .i64,1,8,[.int .i64 (0)]⟩),
 (39,⟨.slice 43,1,24,[.slice none 0 0]⟩),
 (43,⟨.slice 49,1,24,[.slice none 0 0]⟩),
 (47,⟨.slice 51,1,24,[.slice none 0 0]⟩),
 (49,⟨.struct [(0,3),(1,3)],2,16,[.int .i64 (0),.int .i64 (0)]⟩),
 (51,⟨.struct [(0,49),(2,23)],3,40,[.int .i64 (0),.int .i64 (0),.slice none 0 0]⟩),
 (60,⟨.slice 23,1,24,[.slice none 0 0]⟩),
 (63,⟨.slice 100,1,24,[.slice none 0 0]⟩),
 (65,⟨.struct [(0,3),(1,2),(2,9)],3,32,[.int .i64 (0),.int .i64 (0),.string ⟨#[]⟩]⟩),
 (67,⟨.struct [(0,3),(1,49),(3,60),(4,3),(5,63),(6,3),(7,65)],10,120,[.int .i64 (0),.int .i64 (0),.int .i64 (0),.slice none 0 0,.int .i64 (0),.slice none 0 0,.int .i64 (0),.int .i64 (0),.int .i64 (0),.string ⟨#[]⟩]⟩),
 (69,⟨.struct [(0,67),(10,3)],11,128,[.int .i64 (0),.int .i64 (0),.int .i64 (0),.slice none 0 0,.int .i64 (0),.slice none 0 0,.int .i64 (0),.int .i64 (0),.int .i64 (0),.string ⟨#[]⟩,.int .i64 (0)]⟩),
 (100,⟨.struct [(0,65),(3,23)],4,56,[.int .i64 (0),.int .i64 (0),.string ⟨#[]⟩,.slice none 0 0]⟩),
 (121,⟨.map 9 3,1,8,[.map none]⟩),
 (135,⟨.int .u64,1,8,[.int .u64 (0)]⟩),
 (138,⟨.slice 3,1,24,[.slice none 0 0]⟩),
 (144,⟨.slice 9,1,24,[.slice none 0 0]⟩),
 (189,⟨.slice 26,1,24,[.slice none 0 0]⟩)]
def z0c:List (Nat×List TD):=[(49,[.int .i64,.int .i64]),(65,[.int .i64,.int .i64,.str])]
def inv (w:World):Prop:=Lib.TabIs Tryz.prog w "internal/strconv.uint64pow10" .u64 Lib.pow10Tab/\(∃ m,w.cell? ⟨0,0,none⟩=some (.int .i64 m))
theorem zbhc {n:String} {g:Nat} {w w':World} (hg:Tryz.prog.globalNamed n=some g) (h:w'.heap[g]? =w.heap[g]?):w'.var? Tryz.prog n=w.var? Tryz.prog n:=by
 unfold World.var?; rw [hg]; simp only [Option.bind_some,h]
theorem zbe6 (w w':World) (hi:inv w) (hb:∀ b,b<4->w'.heap[b]? =w.heap[b]?):inv w':=by
 obtain ⟨h1,⟨m,h2⟩⟩:=hi;refine ⟨(zbhc (g:=1) (by kernel_rfl) (hb 1 (by omega))).trans h1,⟨m, ?_⟩⟩
 rw [<- h2]; exact World.cell?_of_block (a:=⟨0,0,none⟩) (hb 0 (by omega))
def base:Cx ty:={ ti:=λT=>zbaI.lookup T,dflt:=λ_=>default,enc:=λT=>(zbcL z5G T).enc,dec:=λT=>(zbcL z5G T).dec,spec:=λ_=>none,io:=λ_=>[],eqs:=λT us vs=>match z0c.lookup T with | some ts=>zbr ts us vs | none=>none,nt:=0,head:=λ_=>[],out:=λ_ _=>[],loops:=λ_=>none,ng:=4,inv:=inv }
theorem zbeF:Tryz.prog.info? 2=some Tryz.t2:=by kernel_rfl
theorem zRq:Tryz.prog.info? 3=some Tryz.t3:=by kernel_rfl
theorem zbk6:Tryz.prog.info? 4=some Tryz.t4:=by kernel_rfl
theorem zblj:Tryz.prog.info? 5=some Tryz.t5:=by kernel_rfl
theorem zbh2:Tryz.prog.info? 9=some Tryz.t9:=by kernel_rfl
theorem zbkk:Tryz.prog.info? 22=some Tryz.t22:=by kernel_rfl
theorem zbbt:Tryz.prog.info? 23=some Tryz.t23:=by kernel_rfl
theorem zbgo:Tryz.prog.info? 26=some Tryz.t26:=by kernel_rfl
theorem zbkj:Tryz.prog.info? 28=some Tryz.t28:=by kernel_rfl
theorem zbkB:Tryz.prog.info? 35=some Tryz.t35:=by kernel_rfl
theorem zbjL:Tryz.prog.info? 39=some Tryz.t39:=by kernel_rfl
theorem zbj9:Tryz.prog.info? 43=some Tryz.t43:=by kernel_rfl
theorem zbjS:Tryz.prog.info? 47=some Tryz.t47:=by kernel_rfl
theorem zbcg:Tryz.prog.info? 49=some Tryz.t49:=by kernel_rfl
theorem zbkn:Tryz.prog.info? 51=some Tryz.t51:=by kernel_rfl
theorem zbf4:Tryz.prog.info? 60=some Tryz.t60:=by kernel_rfl
theorem zbfE:Tryz.prog.info? 63=some Tryz.t63:=by kernel_rfl
theorem zbb3:Tryz.prog.info? 65=some Tryz.t65:=by kernel_rfl
theorem zbf5:Tryz.prog.info? 67=some Tryz.t67:=by kernel_rfl
theorem zbkE:Tryz.prog.info? 69=some Tryz.t69:=by kernel_rfl
theorem zbjn:Tryz.prog.info? 100=some Tryz.t100:=by kernel_rfl
theorem zbiu:Tryz.prog.info? 121=some Tryz.t121:=by kernel_rfl
theorem zbjf:Tryz.prog.info? 135=some Tryz.t135:=by kernel_rfl
theorem zbih:Tryz.prog.info? 138=some Tryz.t138:=by kernel_rfl
theorem zbju:Tryz.prog.info? 144=some Tryz.t144:=by kernel_rfl
theorem zbi9:Tryz.prog.info? 189=some Tryz.t189:=by kernel_rfl
theorem zbi5:∀ T i,zbaI.lookup T=some i->InfoOK Tryz.prog T i:=by
 intro T i h;have h:=zMs _ _ _ h;simp only [zbaI,qd,List.not_mem_nil,or_false,qb] at h;rcases h with ⟨rfl,rfl⟩ | ⟨rfl,rfl⟩ | ⟨rfl,rfl⟩ | ⟨rfl,rfl⟩ | ⟨rfl,rfl⟩ | ⟨rfl,rfl⟩ | ⟨rfl,rfl⟩ | ⟨rfl,rfl⟩ | ⟨rfl,rfl⟩ | ⟨rfl,rfl⟩ | ⟨rfl,rfl⟩ | ⟨rfl,rfl⟩ | ⟨rfl,rfl⟩ | ⟨rfl,rfl⟩ | ⟨rfl,rfl⟩ | ⟨rfl,rfl⟩ | ⟨rfl,rfl⟩ | ⟨rfl,rfl⟩ | ⟨rfl,rfl⟩ | ⟨rfl,rfl⟩ | ⟨rfl,rfl⟩ | ⟨rfl,rfl⟩ | ⟨rfl,rfl⟩ | ⟨rfl,rfl⟩ | ⟨rfl,rfl⟩ | ⟨rfl,rfl⟩
 ·exact ⟨Tryz.t2,_,_,zbeF,underlying2,rfl,rfl,rfl,rfl,rfl,⟨by simp [zcx],λ_=>rfl⟩,rfl⟩
 ·exact ⟨Tryz.t3,_,_,zRq,underlying3,rfl,rfl,rfl,rfl,rfl,⟨by simp [zcx],λ_=>rfl⟩,rfl⟩
 ·exact ⟨Tryz.t4,_,_,zbk6,underlying4,rfl,rfl,rfl,rfl,rfl,⟨by simp [zcx],λ_=>rfl⟩,rfl⟩
 ·exact ⟨Tryz.t5,_,_,zblj,underlying5,rfl,rfl,rfl,rfl,rfl,⟨by simp [zcx],λ_=>rfl⟩,rfl⟩
 ·exact ⟨Tryz.t9,_,_,zbh2,underlying9,rfl,rfl,rfl,rfl,rfl,⟨by simp [zcx],λ_=>rfl⟩,rfl⟩
 ·exact ⟨Tryz.t22,_,_,zbkk,underlying22,rfl,rfl,rfl,rfl,rfl,⟨by simp [zcx],λ_=>rfl⟩,rfl⟩
 ·exact ⟨Tryz.t23,_,_,zbbt,underlying23,rfl,rfl,rfl,rfl,rfl,⟨by simp [zcx],λ_=>rfl⟩,rfl⟩
 ·exact ⟨Tryz.t26,_,_,zbgo,underlying26,rfl,rfl,rfl,rfl,rfl,⟨by simp [zcx],λ_=>rfl⟩,rfl⟩
 ·exact ⟨Tryz.t28,_,_,zbkj,underlying28,rfl,rfl,rfl,rfl,rfl,⟨by simp [zcx],λh=>by cases h⟩,⟨_,rfl,rfl,λf hf=>by
   simp only [qd,List.not_mem_nil,or_false] at hf;rcases hf with rfl | rfl
   ·exact Option.isSome_iff_exists.2 ⟨_,zbeF⟩
   ·exact Option.isSome_iff_exists.2 ⟨_,zbgo⟩⟩⟩
 ·exact ⟨Tryz.t35,_,_,zbkB,underlying35,rfl,rfl,rfl,rfl,rfl,⟨by simp [zcx],λ_=>rfl⟩,rfl⟩
 ·exact ⟨Tryz.t39,_,_,zbjL,underlying39,rfl,rfl,rfl,rfl,rfl,⟨by simp [zcx],λ_=>rfl⟩,rfl⟩
 ·exact ⟨Tryz.t43,_,_,zbj9,underlying43,rfl,rfl,rfl,rfl,rfl,⟨by simp [zcx],λ_=>rfl⟩,rfl⟩
 ·exact ⟨Tryz.t47,_,_,zbjS,underlying47,rfl,rfl,rfl,rfl,rfl,⟨by simp [zcx],λ_=>rfl⟩,rfl⟩
 ·exact ⟨Tryz.t49,_,_,zbcg,underlying49,rfl,rfl,rfl,rfl,rfl,⟨by simp [zcx],λh=>by cases h⟩,⟨_,rfl,rfl,λf hf=>by
   simp only [qd,List.not_mem_nil,or_false] at hf;rcases hf with rfl | rfl
   ·exact Option.isSome_iff_exists.2 ⟨_,zRq⟩
   ·exact Option.isSome_iff_exists.2 ⟨_,zRq⟩⟩⟩
 ·exact ⟨Tryz.t51,_,_,zbkn,underlying51,rfl,rfl,rfl,rfl,rfl,⟨by simp [zcx],λh=>by cases h⟩,⟨_,rfl,rfl,λf hf=>by
   simp only [qd,List.not_mem_nil,or_false] at hf;rcases hf with rfl | rfl
   ·exact Option.isSome_iff_exists.2 ⟨_,zbcg⟩
   ·exact Option.isSome_iff_exists.2 ⟨_,zbbt⟩⟩⟩
 ·exact ⟨Tryz.t60,_,_,zbf4,underlying60,rfl,rfl,rfl,rfl,rfl,⟨by simp [zcx],λ_=>rfl⟩,rfl⟩
 ·exact ⟨Tryz.t63,_,_,zbfE,underlying63,rfl,rfl,rfl,rfl,rfl,⟨by simp [zcx],λ_=>rfl⟩,rfl⟩
 ·exact ⟨Tryz.t65,_,_,zbb3,underlying65,rfl,rfl,rfl,rfl,rfl,⟨by simp [zcx],λh=>by cases h⟩,⟨_,rfl,rfl,λf hf=>by
   simp only [qd,List.not_mem_nil,or_false] at hf;rcases hf with rfl | rfl | rfl
   ·exact Option.isSome_iff_exists.2 ⟨_,zRq⟩
   ·exact Option.isSome_iff_exists.2 ⟨_,zbeF⟩
   ·exact Option.isSome_iff_exists.2 ⟨_,zbh2⟩⟩⟩
 ·exact ⟨Tryz.t67,_,_,zbf5,underlying67,rfl,rfl,rfl,rfl,rfl,⟨by simp [zcx],λh=>by cases h⟩,⟨_,rfl,rfl,λf hf=>by
   simp only [qd,List.not_mem_nil,or_false] at hf;rcases hf with rfl | rfl | rfl | rfl | rfl | rfl | rfl
   ·exact Option.isSome_iff_exists.2 ⟨_,zRq⟩
   ·exact Option.isSome_iff_exists.2 ⟨_,zbcg⟩
   ·exact Option.isSome_iff_exists.2 ⟨_,zbf4⟩
   ·exact Option.isSome_iff_exists.2 ⟨_,zRq⟩
   ·exact Option.isSome_iff_exists.2 ⟨_,zbfE⟩
   ·exact Option.isSome_iff_exists.2 ⟨_,zRq⟩
   ·exact Option.isSome_iff_exists.2 ⟨_,zbb3⟩⟩⟩
 ·exact ⟨Tryz.t69,_,_,zbkE,underlying69,rfl,rfl,rfl,rfl,rfl,⟨by simp [zcx],λh=>by cases h⟩,⟨_,rfl,rfl,λf hf=>by
   simp only [qd,List.not_mem_nil,or_false] at hf;rcases hf with rfl | rfl
   ·exact Option.isSome_iff_exists.2 ⟨_,zbf5⟩
   ·exact Option.isSome_iff_exists.2 ⟨_,zRq⟩⟩⟩
 ·exact ⟨Tryz.t100,_,_,zbjn,underlying100,rfl,rfl,rfl,rfl,rfl,⟨by simp [zcx],λh=>by cases h⟩,⟨_,rfl,rfl,λf hf=>by
   simp only [qd,List.not_mem_nil,or_false] at hf;rcases hf with rfl | rfl
   ·exact Option.isSome_iff_exists.2 ⟨_,zbb3⟩
   ·exact Option.isSome_iff_exists.2 ⟨_,zbbt⟩⟩⟩
 ·exact ⟨Tryz.t121,_,_,zbiu,underlying121,rfl,rfl,rfl,rfl,rfl,⟨by simp [zcx],λ_=>rfl⟩,rfl⟩
 ·exact ⟨Tryz.t135,_,_,zbjf,underlying135,rfl,rfl,rfl,rfl,rfl,⟨by simp [zcx],λ_=>rfl⟩,rfl⟩
 ·exact ⟨Tryz.t138,_,_,zbih,underlying138,rfl,rfl,rfl,rfl,rfl,⟨by simp [zcx],λ_=>rfl⟩,rfl⟩
 ·exact ⟨Tryz.t144,_,_,zbju,underlying144,rfl,rfl,rfl,rfl,rfl,⟨by simp [zcx],λ_=>rfl⟩,rfl⟩
 ·exact ⟨Tryz.t189,_,_,zbi9,underlying189,rfl,rfl,rfl,rfl,rfl,⟨by simp [zcx],λ_=>rfl⟩,rfl⟩
theorem zbhi:∀ T us vs b,(match z0c.lookup T with | some ts=>zbr ts us vs | none=>none)=some b->∀ w,zbeB Tryz.prog T us vs b w:=by
 intro T us vs b h w;split at h
 ·rename_i ts hl;have hl:=zMs _ _ _ hl;simp only [z0c,qd,List.not_mem_nil,or_false,qb] at hl;rcases hl with ⟨rfl,rfl⟩ | ⟨rfl,rfl⟩
  ·refine z5X _ _ underlying49 (by kernel_rfl) (by kernel_rfl) rfl ?_ h w
   intro j f t hj ht;rcases j with _ | j
   ·simp at hj ht; subst hj ht; exact ⟨rfl,by decide,_,underlying3,rfl⟩
   rcases j with _ | j
   ·simp at hj ht; subst hj ht; exact ⟨rfl,by decide,_,underlying3,rfl⟩
   simp at hj
  ·refine z5X _ _ underlying65 (by kernel_rfl) (by kernel_rfl) rfl ?_ h w
   intro j f t hj ht;rcases j with _ | j
   ·simp at hj ht; subst hj ht; exact ⟨rfl,by decide,_,underlying3,rfl⟩
   rcases j with _ | j
   ·simp at hj ht; subst hj ht; exact ⟨rfl,by decide,_,underlying2,rfl⟩
   rcases j with _ | j
   ·simp at hj ht; subst hj ht; exact ⟨rfl,by decide,_,underlying9,rfl⟩
   simp at hj
 ·cases h
theorem zbhn:∀ T us vs,base.eqs T us us=some true->base.eqs T vs vs=some true->base.eqs T us vs=some (zz8 us vs)/\(zz8 us vs=true->us=vs)/\∀ u∈us,∀ n,Instr.sameBits n u u=true:=by
 intro T us vs h1 h2;simp only [base] at h1 h2 ⊢;cases hl:z0c.lookup T with
 | none=>rw [hl] at h1; cases h1
 | some ts=>rw [hl] at h1 h2; exact z64 ts us vs h1 h2
theorem zbhx:∀ T us b,base.eqs T us us=some b->b=true:=by
 intro T us b h;simp only [base] at h;cases hl:z0c.lookup T with
 | none=>rw [hl] at h; cases h
 | some ts=>rw [hl] at h; exact z3M ts us b h
abbrev SdP:=Sound Tryz.prog base
theorem zkz:CxOK Tryz.prog base:=⟨zbi5,λT x=>by rw [show zx base T=_ from (zbbV z5G zbaI rfl T).symm]; exact DT.len _ x,λT x c h=>by have:=DT.cell _ _ c h; revert this; cases c <;>exact id,λT cs x h F w us hr=>DT.ok _ base F w us cs x h hr,zbhi,zbhn,zbhx,zbe6⟩
def zb2:Cx ty:={ base with dr:=false }
theorem zP6:CxOK Tryz.prog zb2:=CxOK.cg (cx:=base) (cx':=zb2) ⟨rfl,rfl,rfl,rfl,rfl,rfl⟩ zkz
theorem zG3:Tryz.prog.follows .mixedOrders=true:=by kernel_rfl
theorem sT {cx':Cx ty} {α ρ:Type} (hspec:∀ g s,cx'.spec g=some s->SdP g s) {f:Nat} {fn:Func} (hent:∀ args w,(callFunc f args).run Tryz.prog w=.ok (.enter f args) w) (hf:Tryz.prog.funcs[f]? =some fn) (hl:zjv cx' (body fn)) (sg:Sig:=⟨[.pure],[]⟩) {A:AL base α} {res:ρ->ARes ty} {W:α->Wy0 ρ} {z:ρ}
  (hb:fn.body=some (body fn):=by kernel_rfl)
  (hrun:∀ x,zgW cx' fn (body fn) sg (A.enc x)=(W x).ev noH (λr=>some (res r)) none:=by intro _; kernel_rfl)
  (hchk:∀ x,(Nat.ble (A.enc x).length fn.ntmps&&zPv (body fn) (A.enc x) sg.upd)=true:=by intro _; kernel_rfl) (hsame:base.Same cx':=by exact zbbI):
  SdP f (zi A λx=>(((W x).fin z).1,res ((W x).fin z).2)):=sW zG3 zkz hsame hspec hent hf hl sg hb hrun hchk
theorem sU {cx':Cx ty} {α ρ:Type} (hspec:∀ g s,cx'.spec g=some s->Sound Tryz.prog zb2 g s) {f:Nat} {fn:Func} (hent:∀ args w,(callFunc f args).run Tryz.prog w=.ok (.enter f args) w) (hf:Tryz.prog.funcs[f]? =some fn) (hl:zjv cx' (body fn)) (sg:Sig:=⟨[.pure],[]⟩) {A:AL zb2 α} {res:ρ->ARes ty} {W:α->Wy0 ρ} {z:ρ}
  (hb:fn.body=some (body fn):=by kernel_rfl)
  (hrun:∀ x,zgW cx' fn (body fn) sg (A.enc x)=(W x).ev noH (λr=>some (res r)) none:=by intro _; kernel_rfl)
  (hchk:∀ x,(Nat.ble (A.enc x).length fn.ntmps&&zPv (body fn) (A.enc x) sg.upd)=true:=by intro _; kernel_rfl) (hsame:zb2.Same cx':=by exact zbbI):
  Sound Tryz.prog zb2 f (zi A λx=>(((W x).fin z).1,res ((W x).fin z).2)):=sW zG3 zP6 hsame hspec hent hf hl sg hb hrun hchk
end Go.Proofs.YtljlfiomikifjaaGreatDoor
/- What is read of an argument, as typed data. -/
namespace Go.Proofs.YtljlfiomikifjaaGreatDoor
open Go Go.Ab
open Go.Proofs.Tryz
def wf2 (x:Int):Prop:=(Lit.int .i64 x).wf=true
def wf3 (x:Int):Prop:=(Lit.int .i64 x).wf=true
def wf4 (x:Bool):Prop:=True
def wf5 (x:Int):Prop:=(Lit.int .u8 x).wf=true
def wf9 (x:ByteArray):Prop:=ByteArray.size x<=zbm
def zZn (x:RowID):Prop:=wf3 x.Table/\wf3 x.Seq
def zWL (x:Value):Prop:=wf3 x.Kind/\wf2 x.Int/\wf9 x.Text
mutual
def zgG:At->Prop
 | ⟨k,r,a,f,i,o,b⟩=>wf3 k/\zZn r/\(zz4 a/\a.length<=zbm)/\wf3 f/\(zuq i/\i.length<=zbm)/\wf3 o/\zWL b
def zze:Fc->Prop
 | ⟨a,e⟩=>zgG a/\wf3 e
def zu5:yD->Prop
 | []=>True
 | x::r=>zze x/\zu5 r
def zEH:Term->Prop
 | ⟨c,f⟩=>wf2 c/\(zu5 f/\f.length<=zbm)
def zg3:yC->Prop
 | []=>True
 | x::r=>zEH x/\zg3 r
def zz4:yA->Prop
 | []=>True
 | x::r=>(zg3 x/\x.length<=zbm)/\zz4 r
def zKk:Wd->Prop
 | ⟨v,a⟩=>zWL v/\(zg3 a/\a.length<=zbm)
def zuq:yE->Prop
 | []=>True
 | x::r=>zKk x/\zuq r
end
theorem zPT:∀ l:yD,(∀ x∈l,zze x)->zu5 l
 | [],_=>by unfold zu5; trivial
 | x::r,h=>by unfold zu5; exact ⟨h x (by simp),zPT r λy hy=>h y (by simp [hy])⟩
theorem zI7:∀ l:yC,(∀ x∈l,zEH x)->zg3 l
 | [],_=>by unfold zg3; trivial
 | x::r,h=>by unfold zg3; exact ⟨h x (by simp),zI7 r λy hy=>h y (by simp [hy])⟩
theorem z0f:∀ l:yA,(∀ x∈l,zg3 x/\x.length<=zbm)->zz4 l
 | [],_=>by unfold zz4; trivial
 | x::r,h=>by unfold zz4; exact ⟨h x (by simp),z0f r λy hy=>h y (by simp [hy])⟩
theorem zVg:∀ l:yE,(∀ x∈l,zKk x)->zuq l
 | [],_=>by unfold zuq; trivial
 | x::r,h=>by unfold zuq; exact ⟨h x (by simp),zVg r λy hy=>h y (by simp [hy])⟩
def zbaW (x:yC):Prop:=zg3 x/\List.length x<=zbm
def zbls (x:yD):Prop:=zu5 x/\List.length x<=zbm
def zblz (x:Term):Prop:=zEH x
def zblt (x:yA):Prop:=zz4 x/\List.length x<=zbm
def zblH (x:yE):Prop:=zuq x/\List.length x<=zbm
def zblE (x:At):Prop:=zgG x
def zblm (x:Fc):Prop:=zze x
def zbkT (x:Wd):Prop:=zKk x
def zbjA (x:yF):Prop:=(∀ y∈x,zZn y)/\List.length x<=zbm
def zblx (x:yB):Prop:=(∀ y∈x,zbjA y)/\List.length x<=zbm
def zbjR (x:Bg):Prop:=zZn x.Row/\zbaW x.To
def zblo (x:yG):Prop:=(∀ y∈x,zbjR y)/\List.length x<=zbm
def wf (T:Nat):ty T->Prop:=match T with
 | 2=>wf2
 | 3=>wf3
 | 4=>wf4
 | 5=>wf5
 | 9=>wf9
 | 23=>zbaW
 | 26=>zbls
 | 28=>zblz
 | 39=>zblx
 | 43=>zbjA
 | 47=>zblo
 | 49=>zZn
 | 51=>zbjR
 | 60=>zblt
 | 63=>zblH
 | 65=>zWL
 | 67=>zblE
 | 69=>zblm
 | 100=>zbkT
 | _=>λ_=>True
theorem zbfF:zDL Tryz.prog base wf 2:=z9r underlying2 (λn=>n) (λ_=>rfl) (λ_ h=>h)
theorem zOR:zDL Tryz.prog base wf 3:=z9r underlying3 (λn=>n) (λ_=>rfl) (λ_ h=>h)
theorem zbj0:zDL Tryz.prog base wf 9:=zbgj underlying9 (λn=>n) (λ_=>rfl) (λ_ h=>h)
theorem zbjh:zDL Tryz.prog base wf 49:=by
 intro H en w sp held fuel cs y h hz;obtain ⟨xs,n,_,hy,hl,hlen,hf⟩:=DataW.trod_struct underlying49 h;have hs:=zrY underlying49 hy hz;obtain ⟨x0,h0,w0⟩:=zE3 (off:=0) zOR (by kernel_rfl) hlen hf hs 0 _ rfl rfl rfl
 obtain ⟨x1,h1,w1⟩:=zE3 (off:=1) zOR (by kernel_rfl) hlen hf hs 1 _ rfl rfl rfl
 have hl:cs.length=2:=hl.trans (by kernel_rfl)
 have:=zkY h0 (zIM h1 hl);exact ⟨(⟨x0,x1⟩:RowID),this,⟨w0,w1⟩⟩
theorem zbdU:zDL Tryz.prog base wf 65:=by
 intro H en w sp held fuel cs y h hz;obtain ⟨xs,n,_,hy,hl,hlen,hf⟩:=DataW.trod_struct underlying65 h;have hs:=zrY underlying65 hy hz;obtain ⟨x0,h0,w0⟩:=zE3 (off:=0) zOR (by kernel_rfl) hlen hf hs 0 _ rfl rfl rfl
 obtain ⟨x1,h1,w1⟩:=zE3 (off:=1) zbfF (by kernel_rfl) hlen hf hs 1 _ rfl rfl rfl
 obtain ⟨x2,h2,w2⟩:=zE3 (off:=2) zbj0 (by kernel_rfl) hlen hf hs 2 _ rfl rfl rfl
 have hl:cs.length=3:=hl.trans (by kernel_rfl)
 have:=zkY h0 (zkY h1 (zIM h2 hl));exact ⟨(⟨x0,x1,x2⟩:Value),this,⟨w0,w1,w2⟩⟩
theorem zbaV:∀ m,zu7 Tryz.prog base wf m 23/\zu7 Tryz.prog base wf m 26/\zu7 Tryz.prog base wf m 28/\zu7 Tryz.prog base wf m 60/\zu7 Tryz.prog base wf m 63/\zu7 Tryz.prog base wf m 67/\zu7 Tryz.prog base wf m 69/\zu7 Tryz.prog base wf m 100
 | 0=>⟨zrp,zrp,zrp,zrp,zrp,zrp,zrp,zrp⟩
 | m+1=>by
  obtain ⟨h23,h26,h28,h60,h63,h67,h69,h100⟩:=zbaV m;refine ⟨?_, ?_, ?_, ?_, ?_, ?_, ?_, ?_⟩
  ·exact zHv zkz underlying23 (by kernel_rfl) (by decide) (λl=>l) (λ_=>rfl) (of_decide_eq_true (by kernel_rfl)) h28 (λl h h2=>⟨zI7 l h,h2⟩)
  ·exact zHv zkz underlying26 (by kernel_rfl) (by decide) (λl=>l) (λ_=>rfl) (of_decide_eq_true (by kernel_rfl)) h69 (λl h h2=>⟨zPT l h,h2⟩)
  ·intro H en w sp held fuel cs y hfu h hz;obtain ⟨xs,n,hn,hy,hl,hlen,hf⟩:=DataW.trod_struct underlying28 h;have hs:=zrY underlying28 hy hz;have hn:n<=m:=by omega
   obtain ⟨x0,hx0,w0⟩:=zgf (off:=0) (zbfF.at m) (by kernel_rfl) hn hlen hf hs 0 _ rfl rfl rfl
   obtain ⟨x1,hx1,w1⟩:=zgf (off:=1) h26 (by kernel_rfl) hn hlen hf hs 1 _ rfl rfl rfl
   have hl:cs.length=2:=hl.trans (by kernel_rfl)
   have:=zkY hx0 (zIM hx1 hl);exact ⟨(⟨x0,x1⟩:Term),this,by show zEH (⟨x0,x1⟩:Term); unfold zEH; exact ⟨w0,w1⟩⟩
  ·exact zHv zkz underlying60 (by kernel_rfl) (by decide) (λl=>l) (λ_=>rfl) (of_decide_eq_true (by kernel_rfl)) h23 (λl h h2=>⟨z0f l h,h2⟩)
  ·exact zHv zkz underlying63 (by kernel_rfl) (by decide) (λl=>l) (λ_=>rfl) (of_decide_eq_true (by kernel_rfl)) h100 (λl h h2=>⟨zVg l h,h2⟩)
  ·intro H en w sp held fuel cs y hfu h hz;obtain ⟨xs,n,hn,hy,hl,hlen,hf⟩:=DataW.trod_struct underlying67 h;have hs:=zrY underlying67 hy hz;have hn:n<=m:=by omega
   obtain ⟨x0,hx0,w0⟩:=zgf (off:=0) (zOR.at m) (by kernel_rfl) hn hlen hf hs 0 _ rfl rfl rfl
   obtain ⟨x1,hx1,w1⟩:=zgf (off:=1) (zbjh.at m) (by kernel_rfl) hn hlen hf hs 1 _ rfl rfl rfl
   obtain ⟨x2,hx2,w2⟩:=zgf (off:=3) h60 (by kernel_rfl) hn hlen hf hs 2 _ rfl rfl rfl
   obtain ⟨x3,hx3,w3⟩:=zgf (off:=4) (zOR.at m) (by kernel_rfl) hn hlen hf hs 3 _ rfl rfl rfl
   obtain ⟨x4,hx4,w4⟩:=zgf (off:=5) h63 (by kernel_rfl) hn hlen hf hs 4 _ rfl rfl rfl
   obtain ⟨x5,hx5,w5⟩:=zgf (off:=6) (zOR.at m) (by kernel_rfl) hn hlen hf hs 5 _ rfl rfl rfl
   obtain ⟨x6,hx6,w6⟩:=zgf (off:=7) (zbdU.at m) (by kernel_rfl) hn hlen hf hs 6 _ rfl rfl rfl
   have hl:cs.length=10:=hl.trans (by kernel_rfl)
   have:=zkY hx0 (zkY hx1 (zkY hx2 (zkY hx3 (zkY hx4 (zkY hx5 (zIM hx6 hl))))));exact ⟨(⟨x0,x1,x2,x3,x4,x5,x6⟩:At),this,by show zgG (⟨x0,x1,x2,x3,x4,x5,x6⟩:At); unfold zgG; exact ⟨w0,w1,w2,w3,w4,w5,w6⟩⟩
  ·intro H en w sp held fuel cs y hfu h hz;obtain ⟨xs,n,hn,hy,hl,hlen,hf⟩:=DataW.trod_struct underlying69 h;have hs:=zrY underlying69 hy hz;have hn:n<=m:=by omega
   obtain ⟨x0,hx0,w0⟩:=zgf (off:=0) h67 (by kernel_rfl) hn hlen hf hs 0 _ rfl rfl rfl
   obtain ⟨x1,hx1,w1⟩:=zgf (off:=10) (zOR.at m) (by kernel_rfl) hn hlen hf hs 1 _ rfl rfl rfl
   have hl:cs.length=11:=hl.trans (by kernel_rfl)
   have:=zkY hx0 (zIM hx1 hl);exact ⟨(⟨x0,x1⟩:Fc),this,by show zze (⟨x0,x1⟩:Fc); unfold zze; exact ⟨w0,w1⟩⟩
  ·intro H en w sp held fuel cs y hfu h hz;obtain ⟨xs,n,hn,hy,hl,hlen,hf⟩:=DataW.trod_struct underlying100 h;have hs:=zrY underlying100 hy hz;have hn:n<=m:=by omega
   obtain ⟨x0,hx0,w0⟩:=zgf (off:=0) (zbdU.at m) (by kernel_rfl) hn hlen hf hs 0 _ rfl rfl rfl
   obtain ⟨x1,hx1,w1⟩:=zgf (off:=3) h23 (by kernel_rfl) hn hlen hf hs 1 _ rfl rfl rfl
   have hl:cs.length=4:=hl.trans (by kernel_rfl)
   have:=zkY hx0 (zIM hx1 hl);exact ⟨(⟨x0,x1⟩:Wd),this,by show zKk (⟨x0,x1⟩:Wd); unfold zKk; exact ⟨w0,w1⟩⟩
theorem zbiV:zDL Tryz.prog base wf 23:=zbfr λm=>(zbaV m).1
def z2L (r:Int):ARes ty:=⟨[.pure (.lit (.int .i64 r))],[]⟩
def z6l:AL base (yC×yC×Unit):=ze (zf (vSl 28)) (ze (zf (vSl 28)) zu)
def zl7 (F:yC->yC->Bool×Int):Ab.Spec ty:=zi z6l λx=>((F x.1 x.2.1).1,z2L (F x.1 x.2.1).2)
def zSf:AL base (yD×yD×Unit):=ze (zf (vSl 69)) (ze (zf (vSl 69)) zu)
def zkO (F:yD->yD->Bool×Int):Ab.Spec ty:=zi zSf λx=>((F x.1 x.2.1).1,z2L (F x.1 x.2.1).2)
def zXK:AL base (At×At×Unit):=ze (zf (zcV 67)) (ze (zf (zcV 67)) zu)
def znK (F:At->At->Bool×Int):Ab.Spec ty:=zi zXK λx=>((F x.1 x.2.1).1,z2L (F x.1 x.2.1).2)
def zVc:AL base (yE×yE×Unit):=ze (zf (vSl 100)) (ze (zf (vSl 100)) zu)
def zmr (F:yE->yE->Bool×Int):Ab.Spec ty:=zi zVc λx=>((F x.1 x.2.1).1,z2L (F x.1 x.2.1).2)
def z5D:=zbt base 11 []
def zTn (a:Int) (b:Int):Wy0 (Int):=.i (decide (a<b)) (.k (-1:Int)) (.i (decide (a>b)) (.k 1) (.k 0))
def zdb (a:Int) (b:Int):=(zTn a b).fin default
def z8x:AL base (Int×Int×Unit):=ze (zf zfl) (ze (zf zfl) zu)
def zmK:=zi z8x λx=>((zdb x.1 x.2.1).1,z2L (zdb x.1 x.2.1).2)
theorem zoR:SdP 91 zmK:=
 sT (cx':=z5D) (zk trivial) call91 func91 (lOK aN)
abbrev zy2:=yC×yC×Int×Unit
abbrev zP9:=Int⊕(yC×yC)
def zZv (zbq:yD->yD->Bool×Int) (a:yC) (b:yC) (i:Int):Wy zy2 Unit zP9:=.i (decide (i<Int.ofNat a.length)) (.i (decide (i<Int.ofNat b.length)) (.i (decide (0<=i)&&decide (i<Int.ofNat a.length)) (.i (decide (0<=i)&&decide (i<Int.ofNat b.length)) (.bn (zbq (a.getD i.toNat default).Fs (b.getD i.toNat default).Fs) λr1=>.i (r1 != 0) (.k (.inl (r1))) (.i (decide (0<=i)&&decide (i<Int.ofNat a.length)) (.i (decide (0<=i)&&decide (i<Int.ofNat b.length)) (.bn (zdb (a.getD i.toNat default).Cf (b.getD i.toNat default).Cf) λr0=>.i (r0 != 0) (.k (.inl (r0))) (.h (a,b,(IntKind.i64.wrap (i+1)),()) ())) .d) .d)) .d) .d) (.k (.inr (a,b)))) (.k (.inr (a,b)))
def zK0 (zbq:yD->yD->Bool×Int) (x:zy2) (y:Unit):=zZv zbq x.1 x.2.1 x.2.2.1
def zZ2 (zbq:yD->yD->Bool×Int) (n:Nat) (a:yC) (b:yC) (i:Int):=zC (zK0 zbq) (.inl default) n (a,b,i,()) ()
def zYr (r:zP9):LTree ty:=.ite (isL r) (.done .ret [.lit (.int .i64 (getL r))] []) (.done (.exit 0) [.sl 28 (getR r).1,.sl 28 (getR r).2] [])
def zZK:LL ty zy2:=za (lSl 28) (za (lSl 28) (za zj zl))
def zZe:BL ty (Unit):=zbe
def zXR (x:zy2) (y:Unit):Nat:=(x.1.length+x.2.1.length+Int.toNat x.2.2.1+1)
def zK7 (zbq:yD->yD->Bool×Int):=zb3 base 53 [(34,(zkO zbq)),(91,zmK)] [] [(2,(kpL [0,1,5]))] [(2,1,(kpL [0,1])),(2,0,(kpL [4]))] [(2,spW zZK zZe (zK0 zbq) (.inl default) zYr zXR)] []
theorem zXG (zbq:yD->yD->Bool×Int):zF (zK7 zbq) (lp (body f89) 0):=zq (id:=2) (hl:=rfl)
def z2h (zbq:yD->yD->Bool×Int) (a:yC) (b:yC):Wy0 (Int):=.bn (zZ2 zbq (a.length+b.length+Int.toNat 0+1) a b 0) λr5=>.i (isL r5) (.k (getL r5)) (.bn (zdb (Int.ofNat (getR r5).1.length) (Int.ofNat (getR r5).2.length)) λr4=>.k r4)
def zBi (zbq:yD->yD->Bool×Int) (a:yC) (b:yC):=(z2h zbq a b).fin default
theorem zUV (zbq:yD->yD->Bool×Int) (zP0:SdP 34 (zkO zbq)):SdP 89 (zl7 (zBi zbq)):=
 sT (cx':=(zK7 zbq)) (zk ⟨zP0,zoR,trivial⟩) call89 func89 (lOK (aC (zXG zbq) aN))
def zbax:=zbt base 4 []
def zZk (less:Bool):Wy0 (Int):=.i (less) (.k (-1:Int)) (.k 1)
def zDE (less:Bool):=(zZk less).fin default
def zbb6:AL base (Bool×Unit):=ze (zf zbk7) zu
def zQ5:=zi zbb6 λx=>((zDE x.1).1,z2L (zDE x.1).2)
theorem z36:SdP 157 zQ5:=
 sT (cx':=zbax) (zk trivial) call157 func157 (lOK aN)
def z4s:=zbt base 38 [(157,zQ5)]
def zRC (a:Value) (b:Value):Wy0 (Int):=.i (a.Kind != b.Kind) (.bn (zDE (decide (a.Kind<b.Kind))) λr0=>.k r0) (.i (a.Int != b.Int) (.bn (zDE (decide (a.Int<b.Int))) λr1=>.k r1) (.i (!a.Text.toList==b.Text.toList) (.bn (zDE (Op.bytesLess a.Text.toList b.Text.toList)) λr2=>.k r2) (.k 0)))
def zpQ (a:Value) (b:Value):=(zRC a b).fin default
def z7n:AL base (Value×Value×Unit):=ze (zf (zcV 65)) (ze (zf (zcV 65)) zu)
def zCg:=zi z7n λx=>((zpQ x.1 x.2.1).1,z2L (zpQ x.1 x.2.1).2)
theorem zIx:SdP 107 zCg:=
 sT (cx':=z4s) (zk ⟨z36,trivial⟩) call107 func107 (lOK aN)
def zXF:=zbt base 19 [(91,zmK)]
def zLf (a:RowID) (b:RowID):Wy0 (Int):=.bn (zdb a.Table b.Table) λr1=>.i (r1 != 0) (.k r1) (.bn (zdb a.Seq b.Seq) λr0=>.k r0)
def znM (a:RowID) (b:RowID):=(zLf a b).fin default
def z0z:AL base (RowID×RowID×Unit):=ze (zf (zcV 49)) (ze (zf (zcV 49)) zu)
def zxs:=zi z0z λx=>((znM x.1 x.2.1).1,z2L (znM x.1 x.2.1).2)
theorem zEW:SdP 105 zxs:=
 sT (cx':=zXF) (zk ⟨zoR,trivial⟩) call105 func105 (lOK aN)
abbrev zqQ:=Unit×Unit×Int×Unit
abbrev zrd:=At×At×Unit
abbrev zHP:=Int⊕(At×At)
def zv1 (zY:yC->yC->Bool×Int) (zbB:yE->yE->Bool×Int) (i:Int) (a:At) (b:At):Wy zqQ zrd zHP:=.i (decide (i<Int.ofNat a.Ag.length)) (.i (decide (i<Int.ofNat b.Ag.length)) (.i (decide (0<=i)&&decide (i<Int.ofNat a.Ag.length)) (.i (decide (0<=i)&&decide (i<Int.ofNat b.Ag.length)) (.bn (zY (a.Ag.getD i.toNat default) (b.Ag.getD i.toNat default)) λr0=>.i (r0 != 0) (.k (.inl (r0))) (.h ((),(),(IntKind.i64.wrap (i+1)),()) (a,b,()))) .d) .d) (.k (.inr (a,b)))) (.k (.inr (a,b)))
def zE2 (zY:yC->yC->Bool×Int) (zbB:yE->yE->Bool×Int) (x:zqQ) (y:zrd):=zv1 zY zbB x.2.2.1 y.1 y.2.1
def zvW (zY:yC->yC->Bool×Int) (zbB:yE->yE->Bool×Int) (n:Nat) (i:Int) (a:At) (b:At):=zC (zE2 zY zbB) (.inl default) n ((),(),i,()) (a,b,())
def zQt (r:zHP):LTree ty:=.ite (isL r) (.done .ret [.lit (.int .i64 (getL r))] []) (.done (.exit 0) [.ptr 384 0,.ptr 385 0] [.box (base.enc 67 (getR r).1) false,.box (base.enc 67 (getR r).2) false])
def zSp:LL ty zqQ:=za (zgc 384 0) (za (zgc 385 0) (za zj zl))
def zS7:BL ty zrd:=zj7 (zh1 (λx=>(⟨x.1,⟨x.2.1,x.2.2.1⟩,x.2.2.2.1,x.2.2.2.2.1,x.2.2.2.2.2.1,x.2.2.2.2.2.2.1,⟨x.2.2.2.2.2.2.2.1,x.2.2.2.2.2.2.2.2.1,x.2.2.2.2.2.2.2.2.2.1⟩⟩:At)) (λx=>(x.Kind,x.Row.Table,x.Row.Seq,x.Ag,x.Func,x.Items,x.Op,x.Bd.Kind,x.Bd.Int,x.Bd.Text,())) (λ_=>rfl) (za (zT .i64) (za (zT .i64) (za (zT .i64) (za (lSl 23) (za (zT .i64) (za (lSl 100) (za (zT .i64) (za (zT .i64) (za (zT .i64) (za zsR zl))))))))))) false (zj7 (zh1 (λx=>(⟨x.1,⟨x.2.1,x.2.2.1⟩,x.2.2.2.1,x.2.2.2.2.1,x.2.2.2.2.2.1,x.2.2.2.2.2.2.1,⟨x.2.2.2.2.2.2.2.1,x.2.2.2.2.2.2.2.2.1,x.2.2.2.2.2.2.2.2.2.1⟩⟩:At)) (λx=>(x.Kind,x.Row.Table,x.Row.Seq,x.Ag,x.Func,x.Items,x.Op,x.Bd.Kind,x.Bd.Int,x.Bd.Text,())) (λ_=>rfl) (za (zT .i64) (za (zT .i64) (za (zT .i64) (za (lSl 23) (za (zT .i64) (za (lSl 100) (za (zT .i64) (za (zT .i64) (za (zT .i64) (za zsR zl))))))))))) false (zbe))
def zQS (x:zqQ) (y:zrd):Nat:=(Int.toNat x.2.2.1+y.1.Ag.length+y.1.Items.length+y.2.1.Ag.length+y.2.1.Items.length+1)
def zEG (zY:yC->yC->Bool×Int) (zbB:yE->yE->Bool×Int):=zb3 base 96 [(89,(zl7 zY)),(91,zmK),(105,zxs),(106,(zmr zbB)),(107,zCg)] [] [(8,(kpL [2,3,7]))] [(8,1,(kpL [2,3])),(8,0,(kpL [4]))] [(8,spW zSp zS7 (zE2 zY zbB) (.inl default) zQt zQS)] []
theorem zQL (zY:yC->yC->Bool×Int) (zbB:yE->yE->Bool×Int):zF (zEG zY zbB) (lp (body f53) 0):=zq (id:=8) (hl:=rfl)
def zGh (zY:yC->yC->Bool×Int) (zbB:yE->yE->Bool×Int) (a:At) (b:At):Wy0 (Int):=.bn (zdb a.Kind b.Kind) λr9=>.i (r9 != 0) (.k r9) (.bn (znM a.Row b.Row) λr8=>.i (r8 != 0) (.k r8) (.bn (zvW zY zbB (Int.toNat 0+a.Ag.length+a.Items.length+b.Ag.length+b.Items.length+1) 0 (At.mk a.Kind a.Row a.Ag a.Func a.Items a.Op a.Bd) (At.mk b.Kind b.Row b.Ag b.Func b.Items b.Op b.Bd)) λr7=>.i (isL r7) (.k (getL r7)) (.bn (zdb (Int.ofNat (getR r7).1.Ag.length) (Int.ofNat (getR r7).2.Ag.length)) λr6=>.i (r6 != 0) (.k r6) (.bn (zdb (getR r7).1.Func (getR r7).2.Func) λr5=>.i (r5 != 0) (.k r5) (.bn (zbB (getR r7).1.Items (getR r7).2.Items) λr4=>.i (r4 != 0) (.k r4) (.bn (zdb (getR r7).1.Op (getR r7).2.Op) λr3=>.i (r3 != 0) (.k r3) (.bn (zpQ (getR r7).1.Bd (getR r7).2.Bd) λr2=>.k r2)))))))
def znA (zY:yC->yC->Bool×Int) (zbB:yE->yE->Bool×Int) (a:At) (b:At):=(zGh zY zbB a b).fin default
theorem zNS (zY:yC->yC->Bool×Int) (zbB:yE->yE->Bool×Int) (zEc:SdP 89 (zl7 zY)) (zS4:SdP 106 (zmr zbB)):SdP 53 (znK (znA zY zbB)):=
 sT (cx':=(zEG zY zbB)) (zk ⟨zEc,zoR,zEW,zS4,zIx,trivial⟩) call53 func53 (lOK (aC (zQL zY zbB) aN))
abbrev zm9:=yD×yD×Int×Unit
abbrev zD6:=Int⊕(yD×yD)
def zBy (zbG:At->At->Bool×Int) (a:yD) (b:yD) (i:Int):Wy zm9 Unit zD6:=.i (decide (i<Int.ofNat a.length)) (.i (decide (i<Int.ofNat b.length)) (.i (decide (0<=i)&&decide (i<Int.ofNat a.length)) (.i (decide (0<=i)&&decide (i<Int.ofNat b.length)) (.bn (zbG (At.mk (a.getD i.toNat default).At.Kind (a.getD i.toNat default).At.Row (a.getD i.toNat default).At.Ag (a.getD i.toNat default).At.Func (a.getD i.toNat default).At.Items (a.getD i.toNat default).At.Op (a.getD i.toNat default).At.Bd) (At.mk (b.getD i.toNat default).At.Kind (b.getD i.toNat default).At.Row (b.getD i.toNat default).At.Ag (b.getD i.toNat default).At.Func (b.getD i.toNat default).At.Items (b.getD i.toNat default).At.Op (b.getD i.toNat default).At.Bd)) λr1=>.i (r1 != 0) (.k (.inl (r1))) (.i (decide (0<=i)&&decide (i<Int.ofNat a.length)) (.i (decide (0<=i)&&decide (i<Int.ofNat b.length)) (.bn (zdb (a.getD i.toNat default).Exp (b.getD i.toNat default).Exp) λr0=>.i (r0 != 0) (.k (.inl (r0))) (.h (a,b,(IntKind.i64.wrap (i+1)),()) ())) .d) .d)) .d) .d) (.k (.inr (a,b)))) (.k (.inr (a,b)))
def zlG (zbG:At->At->Bool×Int) (x:zm9) (y:Unit):=zBy zbG x.1 x.2.1 x.2.2.1
def zBv (zbG:At->At->Bool×Int) (n:Nat) (a:yD) (b:yD) (i:Int):=zC (zlG zbG) (.inl default) n (a,b,i,()) ()
def zLK (r:zD6):LTree ty:=.ite (isL r) (.done .ret [.lit (.int .i64 (getL r))] []) (.done (.exit 0) [.sl 69 (getR r).1,.sl 69 (getR r).2] [])
def zNX:LL ty zm9:=za (lSl 69) (za (lSl 69) (za zj zl))
def zL1 (x:zm9) (y:Unit):Nat:=(x.1.length+x.2.1.length+Int.toNat x.2.2.1+1)
def zBd (zbG:At->At->Bool×Int):=zb3 base 53 [(53,(znK zbG)),(91,zmK)] [] [(2,(kpL [0,1,5]))] [(2,1,(kpL [0,1])),(2,0,(kpL [4]))] [(2,spW zNX zZe (zlG zbG) (.inl default) zLK zL1)] []
theorem zL6 (zbG:At->At->Bool×Int):zF (zBd zbG) (lp (body f34) 0):=zq (id:=2) (hl:=rfl)
def zB6 (zbG:At->At->Bool×Int) (a:yD) (b:yD):Wy0 (Int):=.bn (zBv zbG (a.length+b.length+Int.toNat 0+1) a b 0) λr5=>.i (isL r5) (.k (getL r5)) (.bn (zdb (Int.ofNat (getR r5).1.length) (Int.ofNat (getR r5).2.length)) λr4=>.k r4)
def zkH (zbG:At->At->Bool×Int) (a:yD) (b:yD):=(zB6 zbG a b).fin default
theorem zJy (zbG:At->At->Bool×Int) (zT5:SdP 53 (znK zbG)):SdP 34 (zkO (zkH zbG)):=
 sT (cx':=(zBd zbG)) (zk ⟨zT5,zoR,trivial⟩) call34 func34 (lOK (aC (zL6 zbG) aN))
abbrev zpF:=yE×yE×Int×Unit
abbrev zFP:=Int⊕(yE×yE)
def zQI (zY:yC->yC->Bool×Int) (a:yE) (b:yE) (i:Int):Wy zpF Unit zFP:=.i (decide (i<Int.ofNat a.length)) (.i (decide (i<Int.ofNat b.length)) (.i (decide (0<=i)&&decide (i<Int.ofNat a.length)) (.i (decide (0<=i)&&decide (i<Int.ofNat b.length)) (.bn (zpQ (a.getD i.toNat default).Value (b.getD i.toNat default).Value) λr1=>.i (r1 != 0) (.k (.inl (r1))) (.i (decide (0<=i)&&decide (i<Int.ofNat a.length)) (.i (decide (0<=i)&&decide (i<Int.ofNat b.length)) (.bn (zY (a.getD i.toNat default).Ann (b.getD i.toNat default).Ann) λr0=>.i (r0 != 0) (.k (.inl (r0))) (.h (a,b,(IntKind.i64.wrap (i+1)),()) ())) .d) .d)) .d) .d) (.k (.inr (a,b)))) (.k (.inr (a,b)))
def zDN (zY:yC->yC->Bool×Int) (x:zpF) (y:Unit):=zQI zY x.1 x.2.1 x.2.2.1
def zQY (zY:yC->yC->Bool×Int) (n:Nat) (a:yE) (b:yE) (i:Int):=zC (zDN zY) (.inl default) n (a,b,i,()) ()
def zO9 (r:zFP):LTree ty:=.ite (isL r) (.done .ret [.lit (.int .i64 (getL r))] []) (.done (.exit 0) [.sl 100 (getR r).1,.sl 100 (getR r).2] [])
def zQQ:LL ty zpF:=za (lSl 100) (za (lSl 100) (za zj zl))
def zOH (x:zpF) (y:Unit):Nat:=(x.1.length+x.2.1.length+Int.toNat x.2.2.1+1)
def zDP (zY:yC->yC->Bool×Int):=zb3 base 53 [(89,(zl7 zY)),(91,zmK),(107,zCg)] [] [(2,(kpL [0,1,5]))] [(2,1,(kpL [0,1])),(2,0,(kpL [4]))] [(2,spW zQQ zZe (zDN zY) (.inl default) zO9 zOH)] []
theorem zOP (zY:yC->yC->Bool×Int):zF (zDP zY) (lp (body f106) 0):=zq (id:=2) (hl:=rfl)
def zRQ (zY:yC->yC->Bool×Int) (a:yE) (b:yE):Wy0 (Int):=.bn (zQY zY (a.length+b.length+Int.toNat 0+1) a b 0) λr5=>.i (isL r5) (.k (getL r5)) (.bn (zdb (Int.ofNat (getR r5).1.length) (Int.ofNat (getR r5).2.length)) λr4=>.k r4)
def zqM (zY:yC->yC->Bool×Int) (a:yE) (b:yE):=(zRQ zY a b).fin default
theorem zLR (zY:yC->yC->Bool×Int) (zEc:SdP 89 (zl7 zY)):SdP 106 (zmr (zqM zY)):=
 sT (cx':=(zDP zY)) (zk ⟨zEc,zoR,zIx,trivial⟩) call106 func106 (lOK (aC (zOP zY) aN))
def zme:Nat->(yC->yC->Bool×Int)×(yD->yD->Bool×Int)×(At->At->Bool×Int)×(yE->yE->Bool×Int)
 | 0=>(λ_ _=>(false,default),λ_ _=>(false,default),λ_ _=>(false,default),λ_ _=>(false,default))
 | n+1=>(zBi ((zme n).2.1),zkH ((zme n).2.2.1),znA ((zme n).1) ((zme n).2.2.2),zqM ((zme n).1))
def zpq (n:Nat):yC->yC->Bool×Int:=(zme n).1
def zkD (n:Nat):yD->yD->Bool×Int:=(zme n).2.1
def znF (n:Nat):At->At->Bool×Int:=(zme n).2.2.1
def zmB (n:Nat):yE->yE->Bool×Int:=(zme n).2.2.2
theorem zZz (n:Nat):zpq (n+1)=zBi (zkD n):=rfl
theorem zNO (n:Nat):zkD (n+1)=zkH (znF n):=rfl
theorem zSG (n:Nat):znF (n+1)=znA (zpq n) (zmB n):=rfl
theorem zQr (n:Nat):zmB (n+1)=zqM (zpq n):=rfl
theorem zwY:∀ n,SdP 89 (zl7 (zpq n))/\SdP 34 (zkO (zkD n))/\SdP 53 (znK (znF n))/\SdP 106 (zmr (zmB n))
 | 0=>⟨zbc call89 (λ_=>rfl),zbc call34 (λ_=>rfl),zbc call53 (λ_=>rfl),zbc call106 (λ_=>rfl)⟩
 | n+1=>by
  have ih:=zwY n;exact ⟨zUV _ (ih.2.1),zJy _ (ih.2.2.1),zNS _ _ (ih.1) (ih.2.2.2),zLR _ (ih.1)⟩
def zLO:yC->yC->Bool×Int:=zpq 1000
def zKw:Ab.Spec ty:=zl7 zLO
theorem zXJ:SdP 89 zKw:=(zwY 1000).1
def zjs:yD->yD->Bool×Int:=zkD 1000
def zlF:Ab.Spec ty:=zkO zjs
theorem zp2:SdP 34 zlF:=(zwY 1000).2.1
def zmM:At->At->Bool×Int:=znF 1000
def zvJ:Ab.Spec ty:=znK zmM
theorem zDU:SdP 53 zvJ:=(zwY 1000).2.2.1
def zuL:yE->yE->Bool×Int:=zmB 1000
def zDQ:Ab.Spec ty:=zmr zuL
theorem zO6:SdP 106 zDQ:=(zwY 1000).2.2.2
def zQO:AL base (Term×Term×Unit):=ze (zf (zcV 28)) (ze (zf (zcV 28)) zu)
def zgT (F:Term->Term->Bool×Int):Ab.Spec ty:=zi zQO λx=>((F x.1 x.2.1).1,z2L (F x.1 x.2.1).2)
def zKV:AL base (Fc×Fc×Unit):=ze (zf (zcV 69)) (ze (zf (zcV 69)) zu)
def zfc (F:Fc->Fc->Bool×Int):Ab.Spec ty:=zi zKV λx=>((F x.1 x.2.1).1,z2L (F x.1 x.2.1).2)
def zNt:AL base (Wd×Wd×Unit):=ze (zf (zcV 100)) (ze (zf (zcV 100)) zu)
def zeP (F:Wd->Wd->Bool×Int):Ab.Spec ty:=zi zNt λx=>((F x.1 x.2.1).1,z2L (F x.1 x.2.1).2)
def zkb:AL base (yC×yC×Unit×Unit):=ze (zf (vSl 28)) (ze (zf (vSl 28)) (ze (zf (vFn 137 zb7)) zu))
def zbW (F:yC->yC->Bool×Int):Ab.Spec ty:=zi zkb λx=>((F x.1 x.2.1).1,z2L (F x.1 x.2.1).2)
def zkG:AL base (yD×yD×Unit×Unit):=ze (zf (vSl 69)) (ze (zf (vSl 69)) (ze (zf (vFn 119 zb7)) zu))
def zb4 (F:yD->yD->Bool×Int):Ab.Spec ty:=zi zkG λx=>((F x.1 x.2.1).1,z2L (F x.1 x.2.1).2)
def zgD:AL base (yA×yA×Unit×Unit):=ze (zf (vSl 23)) (ze (zf (vSl 23)) (ze (zf (vFn 67 zb7)) zu))
def zbx (F:yA->yA->Bool×Int):Ab.Spec ty:=zi zgD λx=>((F x.1 x.2.1).1,z2L (F x.1 x.2.1).2)
def zic:AL base (yE×yE×Unit×Unit):=ze (zf (vSl 100)) (ze (zf (vSl 100)) (ze (zf (vFn 124 zb7)) zu))
def zbL (F:yE->yE->Bool×Int):Ab.Spec ty:=zi zic λx=>((F x.1 x.2.1).1,z2L (F x.1 x.2.1).2)
def zQP (zP:yC->yC->Bool×Int) (zQ:Term->Term->Bool×Int):=zbt base 8 [(136,(zbW zP)),(137,(zgT zQ))]
def zEU (zP:yC->yC->Bool×Int) (zQ:Term->Term->Bool×Int) (a:yC) (b:yC):Wy0 (Int):=.bn (zP a b) λr0=>.k r0
def zqF (zP:yC->yC->Bool×Int) (zQ:Term->Term->Bool×Int) (a:yC) (b:yC):=(zEU zP zQ a b).fin default
theorem zMw (zP:yC->yC->Bool×Int) (zQ:Term->Term->Bool×Int) (zjE:SdP 136 (zbW zP)) (zrj:SdP 137 (zgT zQ)):SdP 67 (zl7 (zqF zP zQ)):=
 sT (cx':=(zQP zP zQ)) (zk ⟨zjE,zrj,trivial⟩) call67 func67 (lOK aN)
def zZl:=zbt base 6 []
def zM1 (x_:Int):Wy0 (Bool):=.k (x_ != x_)
def zpy (x_:Int):=(zM1 x_).fin default
def zYt (r:Bool):ARes ty:=⟨[.pure (.lit (.bool r))],[]⟩
def z2k:AL base (Int×Unit):=ze (zf zfl) zu
def zGQ:=zi z2k λx=>((zpy x.1).1,zYt (zpy x.1).2)
theorem zUt:SdP 166 zGQ:=
 sT (cx':=zZl) (zk trivial) call166 func166 (lOK aN)
def zVi:=zbt base 20 [(166,zGQ)]
def zIA (x_:Int) (y_:Int):Wy0 (Int):=.i ((zpy x_).2) (.i ((zpy y_).2) (.k 0) (.k (-1:Int))) (.i ((zpy y_).2) (.k 1) (.i (decide (x_<y_)) (.k (-1:Int)) (.i (decide (x_>y_)) (.k 1) (.k 0))))
def zj9 (x_:Int) (y_:Int):=(zIA x_ y_).fin default
def zom:=zi z8x λx=>((zj9 x.1 x.2.1).1,z2L (zj9 x.1 x.2.1).2)
theorem ztE:SdP 138 zom:=
 sT (cx':=zVi) (zk ⟨zUt,trivial⟩) call138 func138 (lOK aN)
abbrev zGG:=Int×List Int×Int×Int×Unit
def zLw (zero:Int) (t6:List Int) (t7:Int) (t8:Int):Wy zGG Unit (Int⊕Int):=.i (decide (t8<t7)) (.i (decide (0<=t8)&&decide (t8<Int.ofNat t6.length)) (.i (t6.getD t8.toNat default != zero) (.k (.inl (t6.getD t8.toNat default))) (.h (zero,t6,t7,(IntKind.i64.wrap (t8+1)),()) ())) .d) (.k (.inr zero))
def zXt (x:zGG) (y:Unit):=zLw x.1 x.2.1 x.2.2.1 x.2.2.2.1
def zMi (n:Nat) (zero:Int) (t6:List Int) (t7:Int) (t8:Int):=zC (zXt) (.inl default) n (zero,t6,t7,t8,()) ()
def z7R (r:Int⊕Int):LTree ty:=.ite (isL r) (.done .ret [.lit (.int .i64 (getL r))] []) (.done (.exit 0) [.lit (.int .i64 (getR r))] [])
def z93:LL ty zGG:=za zj (za (lSl 3) (za zj (za zj zl)))
def z7y (x:zGG) (y:Unit):Nat:=(Int.toNat x.1+x.2.1.length+Int.toNat x.2.2.1+Int.toNat x.2.2.2.1+1)
def zWT:=zb3 base 18 [] [] [(3,(kpL [3,6,7,8]))] [(3,1,(kpL [3])),(3,0,(kpL [2]))] [(3,spW z93 zZe (zXt) (.inl default) z7R z7y)] []
theorem z7G:zF zWT (lp (body f120) 0):=zq (id:=3) (hl:=rfl)
def z0q (vals:List Int):Wy0 (Int):=.bn (zMi (Int.toNat 0+vals.length+(Int.ofNat vals.length).toNat +Int.toNat 0+1) 0 vals (Int.ofNat vals.length) 0) λr0=>.i (isL r0) (.k (getL r0)) (.k (getR r0))
def zof (vals:List Int):=(z0q vals).fin default
def zbbQ:AL base (List Int×Unit):=ze (zf (vSl 3)) zu
def zl3:=zi zbbQ λx=>((zof x.1).1,z2L (zof x.1).2)
theorem znS:SdP 120 zl3:=
 sT (cx':=zWT) (zk trivial) call120 func120 (lOK (aC z7G aN))
def zLV (zdd:Term->Term->Bool×Int):=zbt base 15 [(63,(zgT zdd)),(120,zl3),(138,zom)]
def zBo (zdd:Term->Term->Bool×Int) (x_:Term) (y_:Term):Wy0 (Int):=.bn (zdd x_ y_) λr2=>.bn (zj9 x_.Cf y_.Cf) λr1=>.bn (zof [r2,r1]) λr0=>.k r0
def znj (zdd:Term->Term->Bool×Int) (x_:Term) (y_:Term):=(zBo zdd x_ y_).fin default
theorem zIc (zdd:Term->Term->Bool×Int) (zLd:SdP 63 (zgT zdd)):SdP 137 (zgT (znj zdd)):=
 sT (cx':=(zLV zdd)) (zk ⟨zLd,znS,ztE,trivial⟩) call137 func137 (lOK aN)
def z34:=zbt base 6 []
def zRr (x_:Int):Wy0 (Bool):=.k (x_ != x_)
def zun (x_:Int):=(zRr x_).fin default
def zK9:=zi z2k λx=>((zun x.1).1,zYt (zun x.1).2)
theorem zXQ:SdP 159 zK9:=
 sT (cx':=z34) (zk trivial) call159 func159 (lOK aN)
def z1b:=zbt base 20 [(159,zK9)]
def zME (x_:Int) (y_:Int):Wy0 (Int):=.i ((zun x_).2) (.i ((zun y_).2) (.k 0) (.k (-1:Int))) (.i ((zun y_).2) (.k 1) (.i (decide (x_<y_)) (.k (-1:Int)) (.i (decide (x_>y_)) (.k 1) (.k 0))))
def zeq (x_:Int) (y_:Int):=(zME x_ y_).fin default
def zl4:=zi z8x λx=>((zeq x.1 x.2.1).1,z2L (zeq x.1 x.2.1).2)
theorem zpl:SdP 121 zl4:=
 sT (cx':=z1b) (zk ⟨zXQ,trivial⟩) call121 func121 (lOK aN)
end Go.Proofs.YtljlfiomikifjaaGreatDoor
/-
 DERIVED:THE SHELF's CONTRACTS AT THIS DUMP,IN PLAIN WORDS (tools/lay-plain.mjs out of 'TryzShelf.lean',which tools/lay-shelf.mjs wrote):THE SAME DECLARATIONS UNDER THE SAME NAMES:'import','namespace','open','def','theorem' AND NOTHING ELSE:no command of the shelf's:FOR A HAND-IN. Each laying:the table of numbers ('.._ren') and one theorem,a field a fact of the dump's own or the kernel's comparison; each contract:ONE APPLICATION.
-/
namespace Go.Proofs
open Go.Shelf
def Tryz.sortRow_ren:Go.Shelf.Ren:=⟨λ| 6=>232 | 15=>156 | 14=>251 | 28=>192 | 29=>193 | 20=>270 | 21=>271 | 22=>272 | 23=>273 | 24=>274 | 25=>275 | 26=>276 | 27=>277 | 46=>289 | 47=>222 | 48=>223 | 49=>290 | 50=>291 | 57=>298 | n=>n,λ| 22=>43 | 24=>49 | 25=>102 | 3=>3 | 39=>135 | 0=>0 | 53=>163 | 55=>165 | 4=>4 | 46=>157 | 45=>156 | 50=>123 | 5=>5 | 9=>9 | 66=>191 | 70=>195 | 76=>206 | 77=>207 | n=>n,λ| n=>n⟩
theorem Tryz.sortRow:Go.Proofs.SlLaysF0.n6 Tryz.prog Tryz.sortRow_ren:={
 mixed:=by kernel_rfl
 f6:=⟨f232.name,by decide,func232.trans (congrArg some (by kernel_rfl))⟩
 f14:=⟨f251.name,by decide,func251.trans (congrArg some (by kernel_rfl))⟩
 f15:=func156.trans (congrArg some (by kernel_rfl))
 f20:=⟨f270.name,by decide,func270.trans (congrArg some (by kernel_rfl))⟩
 f21:=⟨f271.name,by decide,func271.trans (congrArg some (by kernel_rfl))⟩
 f22:=⟨f272.name,by decide,func272.trans (congrArg some (by kernel_rfl))⟩
 f23:=⟨f273.name,by decide,func273.trans (congrArg some (by kernel_rfl))⟩
 f24:=⟨f274.name,by decide,func274.trans (congrArg some (by kernel_rfl))⟩
 f25:=⟨f275.name,by decide,func275.trans (congrArg some (by kernel_rfl))⟩
 f26:=⟨f276.name,by decide,func276.trans (congrArg some (by kernel_rfl))⟩
 f27:=⟨f277.name,by decide,func277.trans (congrArg some (by kernel_rfl))⟩
 f28:=func192.trans (congrArg some (by kernel_rfl))
 f29:=func193.trans (congrArg some (by kernel_rfl))
 f46:=⟨f289.name,by decide,func289.trans (congrArg some (by kernel_rfl))⟩
 f47:=func222.trans (congrArg some (by kernel_rfl))
 f48:=func223.trans (congrArg some (by kernel_rfl))
 f49:=⟨f290.name,by decide,func290.trans (congrArg some (by kernel_rfl))⟩
 f50:=⟨f291.name,by decide,func291.trans (congrArg some (by kernel_rfl))⟩
 f57:=⟨f298.name,by decide,func298.trans (congrArg some (by kernel_rfl))⟩
 t0:=underlying0
 a0:=Tryz.isAgg0
 z0:=Tryz.sizeOf0
 v0:=Tryz.zeroValue0
 t3:=underlying3
 a3:=Tryz.isAgg3
 z3:=Tryz.sizeOf3
 v3:=Tryz.zeroValue3
 t4:=underlying4
 a4:=Tryz.isAgg4
 z4:=Tryz.sizeOf4
 v4:=Tryz.zeroValue4
 t5:=underlying5
 a5:=Tryz.isAgg5
 z5:=Tryz.sizeOf5
 v5:=Tryz.zeroValue5
 t9:=underlying9
 a9:=Tryz.isAgg9
 z9:=Tryz.sizeOf9
 v9:=Tryz.zeroValue9
 t22:=underlying43
 a22:=Tryz.isAgg43
 z22:=Tryz.sizeOf43
 v22:=Tryz.zeroValue43
 t25:=underlying102
 a25:=Tryz.isAgg102
 z25:=Tryz.sizeOf102
 v25:=Tryz.zeroValue102
 t39:=underlying135
 a39:=Tryz.isAgg135
 z39:=Tryz.sizeOf135
 v39:=Tryz.zeroValue135
 t45:=underlying156
 a45:=Tryz.isAgg156
 z45:=Tryz.sizeOf156
 v45:=Tryz.zeroValue156
 t46:=underlying157
 a46:=Tryz.isAgg157
 z46:=Tryz.sizeOf157
 v46:=Tryz.zeroValue157
 t50:=underlying123
 a50:=Tryz.isAgg123
 z50:=Tryz.sizeOf123
 v50:=Tryz.zeroValue123
 t53:=underlying163
 a53:=Tryz.isAgg163
 z53:=Tryz.sizeOf163
 v53:=Tryz.zeroValue163
 t55:=underlying165
 a55:=Tryz.isAgg165
 z55:=Tryz.sizeOf165
 v55:=Tryz.zeroValue165
 t66:=underlying191
 a66:=Tryz.isAgg191
 z66:=Tryz.sizeOf191
 v66:=Tryz.zeroValue191
 t70:=underlying195
 a70:=Tryz.isAgg195
 z70:=Tryz.sizeOf195
 v70:=Tryz.zeroValue195
 t76:=underlying206
 a76:=Tryz.isAgg206
 z76:=Tryz.sizeOf206
 v76:=Tryz.zeroValue206
 t77:=underlying207
 a77:=Tryz.isAgg207
 z77:=Tryz.sizeOf207
 v77:=Tryz.zeroValue207 }
def Tryz.sortSet_ren:Go.Shelf.Ren:=⟨λ| 6=>205 | 15=>156 | 14=>235 | 28=>192 | 29=>193 | 20=>252 | 21=>253 | 22=>254 | 23=>255 | 24=>256 | 25=>257 | 26=>258 | 27=>259 | 46=>278 | 47=>222 | 48=>223 | 49=>279 | 50=>280 | 57=>292 | n=>n,λ| 22=>39 | 24=>43 | 25=>86 | 3=>3 | 39=>135 | 0=>0 | 53=>163 | 55=>165 | 4=>4 | 46=>157 | 45=>156 | 50=>123 | 5=>5 | 9=>9 | 66=>191 | 70=>195 | 76=>206 | 77=>207 | n=>n,λ| n=>n⟩
theorem Tryz.sortSet:Go.Proofs.SlLaysF.n6 Tryz.prog Tryz.sortSet_ren:={
 mixed:=by kernel_rfl
 f6:=⟨f205.name,by decide,func205.trans (congrArg some (by kernel_rfl))⟩
 f14:=⟨f235.name,by decide,func235.trans (congrArg some (by kernel_rfl))⟩
 f15:=func156.trans (congrArg some (by kernel_rfl))
 f20:=⟨f252.name,by decide,func252.trans (congrArg some (by kernel_rfl))⟩
 f21:=⟨f253.name,by decide,func253.trans (congrArg some (by kernel_rfl))⟩
 f22:=⟨f254.name,by decide,func254.trans (congrArg some (by kernel_rfl))⟩
 f23:=⟨f255.name,by decide,func255.trans (congrArg some (by kernel_rfl))⟩
 f24:=⟨f256.name,by decide,func256.trans (congrArg some (by kernel_rfl))⟩
 f25:=⟨f257.name,by decide,func257.trans (congrArg some (by kernel_rfl))⟩
 f26:=⟨f258.name,by decide,func258.trans (congrArg some (by kernel_rfl))⟩
 f27:=⟨f259.name,by decide,func259.trans (congrArg some (by kernel_rfl))⟩
 f28:=func192.trans (congrArg some (by kernel_rfl))
 f29:=func193.trans (congrArg some (by kernel_rfl))
 f46:=⟨f278.name,by decide,func278.trans (congrArg some (by kernel_rfl))⟩
 f47:=func222.trans (congrArg some (by kernel_rfl))
 f48:=func223.trans (congrArg some (by kernel_rfl))
 f49:=⟨f279.name,by decide,func279.trans (congrArg some (by kernel_rfl))⟩
 f50:=⟨f280.name,by decide,func280.trans (congrArg some (by kernel_rfl))⟩
 f57:=⟨f292.name,by decide,func292.trans (congrArg some (by kernel_rfl))⟩
 t0:=underlying0
 a0:=Tryz.isAgg0
 z0:=Tryz.sizeOf0
 v0:=Tryz.zeroValue0
 t3:=underlying3
 a3:=Tryz.isAgg3
 z3:=Tryz.sizeOf3
 v3:=Tryz.zeroValue3
 t4:=underlying4
 a4:=Tryz.isAgg4
 z4:=Tryz.sizeOf4
 v4:=Tryz.zeroValue4
 t5:=underlying5
 a5:=Tryz.isAgg5
 z5:=Tryz.sizeOf5
 v5:=Tryz.zeroValue5
 t9:=underlying9
 a9:=Tryz.isAgg9
 z9:=Tryz.sizeOf9
 v9:=Tryz.zeroValue9
 t22:=underlying39
 a22:=Tryz.isAgg39
 z22:=Tryz.sizeOf39
 v22:=Tryz.zeroValue39
 a24:=Tryz.isAgg43
 z24:=Tryz.sizeOf43
 t25:=underlying86
 a25:=Tryz.isAgg86
 z25:=Tryz.sizeOf86
 v25:=Tryz.zeroValue86
 t39:=underlying135
 a39:=Tryz.isAgg135
 z39:=Tryz.sizeOf135
 v39:=Tryz.zeroValue135
 t45:=underlying156
 a45:=Tryz.isAgg156
 z45:=Tryz.sizeOf156
 v45:=Tryz.zeroValue156
 t46:=underlying157
 a46:=Tryz.isAgg157
 z46:=Tryz.sizeOf157
 v46:=Tryz.zeroValue157
 t50:=underlying123
 a50:=Tryz.isAgg123
 z50:=Tryz.sizeOf123
 v50:=Tryz.zeroValue123
 t53:=underlying163
 a53:=Tryz.isAgg163
 z53:=Tryz.sizeOf163
 v53:=Tryz.zeroValue163
 t55:=underlying165
 a55:=Tryz.isAgg165
 z55:=Tryz.sizeOf165
 v55:=Tryz.zeroValue165
 t66:=underlying191
 a66:=Tryz.isAgg191
 z66:=Tryz.sizeOf191
 v66:=Tryz.zeroValue191
 t70:=underlying195
 a70:=Tryz.isAgg195
 z70:=Tryz.sizeOf195
 v70:=Tryz.zeroValue195
 t76:=underlying206
 a76:=Tryz.isAgg206
 z76:=Tryz.sizeOf206
 v76:=Tryz.zeroValue206
 t77:=underlying207
 a77:=Tryz.isAgg207
 z77:=Tryz.sizeOf207
 v77:=Tryz.zeroValue207 }
def Tryz.pdqTerm_ren:Go.Shelf.Ren:=⟨λ| 14=>155 | 20=>184 | 21=>185 | 22=>186 | 23=>187 | 24=>188 | 25=>189 | 26=>190 | 27=>191 | 46=>221 | 47=>222 | 48=>223 | 49=>224 | 50=>225 | 15=>156 | 57=>243 | 28=>192 | 29=>193 | n=>n,λ| 24=>28 | 22=>22 | 3=>3 | 25=>79 | 4=>4 | 0=>0 | 46=>157 | 45=>156 | 50=>123 | 66=>191 | 39=>135 | 55=>165 | 70=>195 | 76=>206 | 77=>207 | 53=>163 | 5=>5 | 9=>9 | n=>n,λ| n=>n⟩
theorem Tryz.pdqTerm:Go.Proofs.SlLaysF0.n14 Tryz.prog Tryz.pdqTerm_ren:={
 mixed:=by kernel_rfl
 f14:=⟨f155.name,by decide,func155.trans (congrArg some (by kernel_rfl))⟩
 f15:=func156.trans (congrArg some (by kernel_rfl))
 f20:=⟨f184.name,by decide,func184.trans (congrArg some (by kernel_rfl))⟩
 f21:=⟨f185.name,by decide,func185.trans (congrArg some (by kernel_rfl))⟩
 f22:=⟨f186.name,by decide,func186.trans (congrArg some (by kernel_rfl))⟩
 f23:=⟨f187.name,by decide,func187.trans (congrArg some (by kernel_rfl))⟩
 f24:=⟨f188.name,by decide,func188.trans (congrArg some (by kernel_rfl))⟩
 f25:=⟨f189.name,by decide,func189.trans (congrArg some (by kernel_rfl))⟩
 f26:=⟨f190.name,by decide,func190.trans (congrArg some (by kernel_rfl))⟩
 f27:=⟨f191.name,by decide,func191.trans (congrArg some (by kernel_rfl))⟩
 f28:=func192.trans (congrArg some (by kernel_rfl))
 f29:=func193.trans (congrArg some (by kernel_rfl))
 f46:=⟨f221.name,by decide,func221.trans (congrArg some (by kernel_rfl))⟩
 f47:=func222.trans (congrArg some (by kernel_rfl))
 f48:=func223.trans (congrArg some (by kernel_rfl))
 f49:=⟨f224.name,by decide,func224.trans (congrArg some (by kernel_rfl))⟩
 f50:=⟨f225.name,by decide,func225.trans (congrArg some (by kernel_rfl))⟩
 f57:=⟨f243.name,by decide,func243.trans (congrArg some (by kernel_rfl))⟩
 t0:=underlying0
 a0:=Tryz.isAgg0
 z0:=Tryz.sizeOf0
 v0:=Tryz.zeroValue0
 t3:=underlying3
 a3:=Tryz.isAgg3
 z3:=Tryz.sizeOf3
 v3:=Tryz.zeroValue3
 t4:=underlying4
 a4:=Tryz.isAgg4
 z4:=Tryz.sizeOf4
 v4:=Tryz.zeroValue4
 t5:=underlying5
 a5:=Tryz.isAgg5
 z5:=Tryz.sizeOf5
 v5:=Tryz.zeroValue5
 t9:=underlying9
 a9:=Tryz.isAgg9
 z9:=Tryz.sizeOf9
 v9:=Tryz.zeroValue9
 t22:=underlying22
 a22:=Tryz.isAgg22
 z22:=Tryz.sizeOf22
 v22:=Tryz.zeroValue22
 t25:=underlying79
 a25:=Tryz.isAgg79
 z25:=Tryz.sizeOf79
 v25:=Tryz.zeroValue79
 t39:=underlying135
 a39:=Tryz.isAgg135
 z39:=Tryz.sizeOf135
 v39:=Tryz.zeroValue135
 t45:=underlying156
 a45:=Tryz.isAgg156
 z45:=Tryz.sizeOf156
 v45:=Tryz.zeroValue156
 t46:=underlying157
 a46:=Tryz.isAgg157
 z46:=Tryz.sizeOf157
 v46:=Tryz.zeroValue157
 t50:=underlying123
 a50:=Tryz.isAgg123
 z50:=Tryz.sizeOf123
 v50:=Tryz.zeroValue123
 t53:=underlying163
 a53:=Tryz.isAgg163
 z53:=Tryz.sizeOf163
 v53:=Tryz.zeroValue163
 t55:=underlying165
 a55:=Tryz.isAgg165
 z55:=Tryz.sizeOf165
 v55:=Tryz.zeroValue165
 t66:=underlying191
 a66:=Tryz.isAgg191
 z66:=Tryz.sizeOf191
 v66:=Tryz.zeroValue191
 t70:=underlying195
 a70:=Tryz.isAgg195
 z70:=Tryz.sizeOf195
 v70:=Tryz.zeroValue195
 t76:=underlying206
 a76:=Tryz.isAgg206
 z76:=Tryz.sizeOf206
 v76:=Tryz.zeroValue206
 t77:=underlying207
 a77:=Tryz.isAgg207
 z77:=Tryz.sizeOf207
 v77:=Tryz.zeroValue207 }
def Tryz.lays106_ren:Go.Shelf.Ren:=⟨λ| 106=>160 | 213=>194 | 265=>226 | n=>n,λ| 9=>9 | 3=>3 | n=>n,λ| n=>n⟩
theorem Tryz.lays106:Go.Proofs.Lays.n106 Tryz.prog Tryz.lays106_ren:={
 mixed:=by kernel_rfl
 f106:=func160.trans (congrArg some (by kernel_rfl))
 f213:=func194.trans (congrArg some (by kernel_rfl))
 f265:=func226.trans (congrArg some (by kernel_rfl))
 t3:=underlying3
 a3:=Tryz.isAgg3
 z3:=Tryz.sizeOf3
 v3:=Tryz.zeroValue3
 t9:=underlying9
 a9:=Tryz.isAgg9
 z9:=Tryz.sizeOf9
 v9:=Tryz.zeroValue9 }
def Tryz.lays125_ren:Go.Shelf.Ren:=⟨λ| 125=>156 | 128=>192 | 129=>193 | n=>n,λ| 46=>135 | 3=>3 | 51=>163 | 53=>165 | 4=>4 | 5=>5 | 9=>9 | n=>n,λ| n=>n⟩
theorem Tryz.lays125:Go.Proofs.Lays.n125 Tryz.prog Tryz.lays125_ren:={
 mixed:=by kernel_rfl
 f125:=func156.trans (congrArg some (by kernel_rfl))
 f128:=func192.trans (congrArg some (by kernel_rfl))
 f129:=func193.trans (congrArg some (by kernel_rfl))
 t3:=underlying3
 a3:=Tryz.isAgg3
 z3:=Tryz.sizeOf3
 v3:=Tryz.zeroValue3
 t4:=underlying4
 a4:=Tryz.isAgg4
 z4:=Tryz.sizeOf4
 v4:=Tryz.zeroValue4
 t5:=underlying5
 a5:=Tryz.isAgg5
 z5:=Tryz.sizeOf5
 v5:=Tryz.zeroValue5
 t9:=underlying9
 a9:=Tryz.isAgg9
 z9:=Tryz.sizeOf9
 v9:=Tryz.zeroValue9
 t46:=underlying135
 a46:=Tryz.isAgg135
 z46:=Tryz.sizeOf135
 v46:=Tryz.zeroValue135
 t51:=underlying163
 a51:=Tryz.isAgg163
 z51:=Tryz.sizeOf163
 v51:=Tryz.zeroValue163
 t53:=underlying165
 a53:=Tryz.isAgg165
 z53:=Tryz.sizeOf165
 v53:=Tryz.zeroValue165 }
def Tryz.laysM173_ren:Go.Shelf.Ren:=⟨λ| 173=>227 | 246=>229 | 283=>245 | 284=>246 | 285=>247 | 286=>248 | 129=>193 | 317=>266 | 318=>267 | 319=>268 | 320=>269 | 337=>287 | 338=>288 | n=>n,λ| 2=>2 | 3=>3 | 9=>9 | 4=>4 | 171=>210 | 0=>0 | 53=>165 | 37=>171 | 5=>5 | 173=>212 | 212=>229 | 51=>163 | 20=>20 | 213=>230 | 46=>135 | 232=>249 | 233=>250 | n=>n,λ| 17=>1 | 18=>4 | 19=>5 | n=>n⟩
theorem Tryz.laysM173:Go.Proofs.LaysM.n173 Tryz.prog Tryz.laysM173_ren:={
 mixed:=by kernel_rfl
 f129:=func193.trans (congrArg some (by kernel_rfl))
 f173:=func227.trans (congrArg some (by kernel_rfl))
 f246:=func229.trans (congrArg some (by kernel_rfl))
 f283:=func245.trans (congrArg some (by kernel_rfl))
 f284:=func246.trans (congrArg some (by kernel_rfl))
 f285:=func247.trans (congrArg some (by kernel_rfl))
 f286:=func248.trans (congrArg some (by kernel_rfl))
 f317:=func266.trans (congrArg some (by kernel_rfl))
 f318:=func267.trans (congrArg some (by kernel_rfl))
 f319:=func268.trans (congrArg some (by kernel_rfl))
 f320:=func269.trans (congrArg some (by kernel_rfl))
 f337:=func287.trans (congrArg some (by kernel_rfl))
 f338:=func288.trans (congrArg some (by kernel_rfl))
 t0:=underlying0
 a0:=Tryz.isAgg0
 z0:=Tryz.sizeOf0
 v0:=Tryz.zeroValue0
 t2:=underlying2
 a2:=Tryz.isAgg2
 z2:=Tryz.sizeOf2
 v2:=Tryz.zeroValue2
 t3:=underlying3
 a3:=Tryz.isAgg3
 z3:=Tryz.sizeOf3
 v3:=Tryz.zeroValue3
 t4:=underlying4
 a4:=Tryz.isAgg4
 z4:=Tryz.sizeOf4
 v4:=Tryz.zeroValue4
 t5:=underlying5
 a5:=Tryz.isAgg5
 z5:=Tryz.sizeOf5
 v5:=Tryz.zeroValue5
 t9:=underlying9
 a9:=Tryz.isAgg9
 z9:=Tryz.sizeOf9
 v9:=Tryz.zeroValue9
 t20:=underlying20
 a20:=Tryz.isAgg20
 z20:=Tryz.sizeOf20
 v20:=Tryz.zeroValue20
 t37:=underlying171
 a37:=Tryz.isAgg171
 z37:=Tryz.sizeOf171
 v37:=Tryz.zeroValue171
 t46:=underlying135
 a46:=Tryz.isAgg135
 z46:=Tryz.sizeOf135
 v46:=Tryz.zeroValue135
 t51:=underlying163
 a51:=Tryz.isAgg163
 z51:=Tryz.sizeOf163
 v51:=Tryz.zeroValue163
 t53:=underlying165
 a53:=Tryz.isAgg165
 z53:=Tryz.sizeOf165
 v53:=Tryz.zeroValue165
 t171:=underlying210
 a171:=Tryz.isAgg210
 z171:=Tryz.sizeOf210
 v171:=Tryz.zeroValue210
 t173:=underlying212
 a173:=Tryz.isAgg212
 z173:=Tryz.sizeOf212
 v173:=Tryz.zeroValue212
 t212:=underlying229
 a212:=Tryz.isAgg229
 z212:=Tryz.sizeOf229
 v212:=Tryz.zeroValue229
 t213:=underlying230
 a213:=Tryz.isAgg230
 z213:=Tryz.sizeOf230
 t232:=underlying249
 a232:=Tryz.isAgg249
 z232:=Tryz.sizeOf249
 v232:=Tryz.zeroValue249
 t233:=underlying250
 a233:=Tryz.isAgg250
 z233:=Tryz.sizeOf250
 v233:=Tryz.zeroValue250
 g17:=by kernel_rfl
 g18:=by kernel_rfl
 g19:=by kernel_rfl
 i0:=by kernel_rfl
 i2:=by kernel_rfl
 i3:=by kernel_rfl
 i4:=by kernel_rfl
 i5:=by kernel_rfl
 i9:=by kernel_rfl
 i20:=by kernel_rfl
 i37:=by kernel_rfl
 i46:=by kernel_rfl
 i51:=by kernel_rfl
 i53:=by kernel_rfl
 i171:=by kernel_rfl
 i173:=by kernel_rfl
 i212:=by kernel_rfl
 i232:=by kernel_rfl
 i233:=by kernel_rfl
 m17:=by kernel_rfl
 m18:=by kernel_rfl
 m19:=by kernel_rfl }
def Tryz.laysM171_ren:Go.Shelf.Ren:=⟨λ| 171=>168 | 243=>200 | 246=>229 | 283=>245 | 284=>246 | 285=>247 | 286=>248 | 129=>193 | 317=>266 | 318=>267 | 319=>268 | 320=>269 | 337=>287 | 338=>288 | n=>n,λ| 3=>3 | 9=>9 | 2=>2 | 4=>4 | 171=>210 | 0=>0 | 53=>165 | 37=>171 | 5=>5 | 173=>212 | 212=>229 | 51=>163 | 20=>20 | 213=>230 | 46=>135 | 232=>249 | 233=>250 | n=>n,λ| 17=>1 | 18=>4 | 19=>5 | n=>n⟩
theorem Tryz.laysM171:Go.Proofs.LaysM.n171 Tryz.prog Tryz.laysM171_ren:={
 mixed:=by kernel_rfl
 f129:=func193.trans (congrArg some (by kernel_rfl))
 f171:=func168.trans (congrArg some (by kernel_rfl))
 f243:=func200.trans (congrArg some (by kernel_rfl))
 f246:=func229.trans (congrArg some (by kernel_rfl))
 f283:=func245.trans (congrArg some (by kernel_rfl))
 f284:=func246.trans (congrArg some (by kernel_rfl))
 f285:=func247.trans (congrArg some (by kernel_rfl))
 f286:=func248.trans (congrArg some (by kernel_rfl))
 f317:=func266.trans (congrArg some (by kernel_rfl))
 f318:=func267.trans (congrArg some (by kernel_rfl))
 f319:=func268.trans (congrArg some (by kernel_rfl))
 f320:=func269.trans (congrArg some (by kernel_rfl))
 f337:=func287.trans (congrArg some (by kernel_rfl))
 f338:=func288.trans (congrArg some (by kernel_rfl))
 t0:=underlying0
 a0:=Tryz.isAgg0
 z0:=Tryz.sizeOf0
 v0:=Tryz.zeroValue0
 t2:=underlying2
 a2:=Tryz.isAgg2
 z2:=Tryz.sizeOf2
 v2:=Tryz.zeroValue2
 t3:=underlying3
 a3:=Tryz.isAgg3
 z3:=Tryz.sizeOf3
 v3:=Tryz.zeroValue3
 t4:=underlying4
 a4:=Tryz.isAgg4
 z4:=Tryz.sizeOf4
 v4:=Tryz.zeroValue4
 t5:=underlying5
 a5:=Tryz.isAgg5
 z5:=Tryz.sizeOf5
 v5:=Tryz.zeroValue5
 t9:=underlying9
 a9:=Tryz.isAgg9
 z9:=Tryz.sizeOf9
 v9:=Tryz.zeroValue9
 t20:=underlying20
 a20:=Tryz.isAgg20
 z20:=Tryz.sizeOf20
 v20:=Tryz.zeroValue20
 t37:=underlying171
 a37:=Tryz.isAgg171
 z37:=Tryz.sizeOf171
 v37:=Tryz.zeroValue171
 t46:=underlying135
 a46:=Tryz.isAgg135
 z46:=Tryz.sizeOf135
 v46:=Tryz.zeroValue135
 t51:=underlying163
 a51:=Tryz.isAgg163
 z51:=Tryz.sizeOf163
 v51:=Tryz.zeroValue163
 t53:=underlying165
 a53:=Tryz.isAgg165
 z53:=Tryz.sizeOf165
 v53:=Tryz.zeroValue165
 t171:=underlying210
 a171:=Tryz.isAgg210
 z171:=Tryz.sizeOf210
 v171:=Tryz.zeroValue210
 t173:=underlying212
 a173:=Tryz.isAgg212
 z173:=Tryz.sizeOf212
 v173:=Tryz.zeroValue212
 t212:=underlying229
 a212:=Tryz.isAgg229
 z212:=Tryz.sizeOf229
 v212:=Tryz.zeroValue229
 t213:=underlying230
 a213:=Tryz.isAgg230
 z213:=Tryz.sizeOf230
 t232:=underlying249
 a232:=Tryz.isAgg249
 z232:=Tryz.sizeOf249
 v232:=Tryz.zeroValue249
 t233:=underlying250
 a233:=Tryz.isAgg250
 z233:=Tryz.sizeOf250
 v233:=Tryz.zeroValue250
 g17:=by kernel_rfl
 g18:=by kernel_rfl
 g19:=by kernel_rfl
 i0:=by kernel_rfl
 i2:=by kernel_rfl
 i3:=by kernel_rfl
 i4:=by kernel_rfl
 i5:=by kernel_rfl
 i9:=by kernel_rfl
 i20:=by kernel_rfl
 i37:=by kernel_rfl
 i46:=by kernel_rfl
 i51:=by kernel_rfl
 i53:=by kernel_rfl
 i171:=by kernel_rfl
 i173:=by kernel_rfl
 i212:=by kernel_rfl
 i232:=by kernel_rfl
 i233:=by kernel_rfl
 m17:=by kernel_rfl
 m18:=by kernel_rfl
 m19:=by kernel_rfl }
def Tryz.lays155_ren:Go.Shelf.Ren:=⟨λ| 155=>228 | 154=>244 | 138=>263 | 165=>201 | 143=>264 | 166=>202 | 197=>265 | 169=>203 | 195=>283 | 218=>284 | 240=>230 | 241=>231 | 219=>285 | 260=>286 | 276=>249 | 277=>250 | 217=>294 | 225=>295 | 224=>296 | 267=>297 | 266=>300 | 314=>301 | n=>n,λ| 9=>9 | 3=>3 | 4=>4 | 72=>173 | 0=>0 | 76=>177 | 105=>226 | 21=>21 | 5=>5 | 70=>170 | 20=>20 | 37=>171 | 75=>176 | 127=>199 | 164=>214 | 46=>135 | 119=>245 | 139=>248 | 138=>247 | 146=>252 | 51=>163 | 80=>179 | n=>n,λ| 1=>0 | 3=>2 | 4=>3 | n=>n⟩
theorem Tryz.lays155:Go.Proofs.Lays.n155 Tryz.prog Tryz.lays155_ren:={
 mixed:=by kernel_rfl
 f138:=func263.trans (congrArg some (by kernel_rfl))
 f143:=func264.trans (congrArg some (by kernel_rfl))
 f154:=func244.trans (congrArg some (by kernel_rfl))
 f155:=func228.trans (congrArg some (by kernel_rfl))
 f165:=func201.trans (congrArg some (by kernel_rfl))
 f166:=func202.trans (congrArg some (by kernel_rfl))
 f169:=func203.trans (congrArg some (by kernel_rfl))
 f195:=func283.trans (congrArg some (by kernel_rfl))
 f197:=func265.trans (congrArg some (by kernel_rfl))
 f217:=func294.trans (congrArg some (by kernel_rfl))
 f218:=func284.trans (congrArg some (by kernel_rfl))
 f219:=func285.trans (congrArg some (by kernel_rfl))
 f224:=func296.trans (congrArg some (by kernel_rfl))
 f225:=func295.trans (congrArg some (by kernel_rfl))
 f240:=func230.trans (congrArg some (by kernel_rfl))
 f241:=func231.trans (congrArg some (by kernel_rfl))
 f260:=func286.trans (congrArg some (by kernel_rfl))
 f266:=func300.trans (congrArg some (by kernel_rfl))
 f267:=func297.trans (congrArg some (by kernel_rfl))
 f276:=func249.trans (congrArg some (by kernel_rfl))
 f277:=func250.trans (congrArg some (by kernel_rfl))
 f314:=func301.trans (congrArg some (by kernel_rfl))
 t0:=underlying0
 a0:=Tryz.isAgg0
 z0:=Tryz.sizeOf0
 v0:=Tryz.zeroValue0
 t3:=underlying3
 a3:=Tryz.isAgg3
 z3:=Tryz.sizeOf3
 v3:=Tryz.zeroValue3
 t4:=underlying4
 a4:=Tryz.isAgg4
 z4:=Tryz.sizeOf4
 v4:=Tryz.zeroValue4
 t5:=underlying5
 a5:=Tryz.isAgg5
 z5:=Tryz.sizeOf5
 v5:=Tryz.zeroValue5
 t9:=underlying9
 a9:=Tryz.isAgg9
 z9:=Tryz.sizeOf9
 v9:=Tryz.zeroValue9
 t20:=underlying20
 a20:=Tryz.isAgg20
 z20:=Tryz.sizeOf20
 v20:=Tryz.zeroValue20
 t21:=underlying21
 a21:=Tryz.isAgg21
 z21:=Tryz.sizeOf21
 v21:=Tryz.zeroValue21
 t37:=underlying171
 a37:=Tryz.isAgg171
 z37:=Tryz.sizeOf171
 v37:=Tryz.zeroValue171
 t46:=underlying135
 a46:=Tryz.isAgg135
 z46:=Tryz.sizeOf135
 v46:=Tryz.zeroValue135
 t51:=underlying163
 a51:=Tryz.isAgg163
 z51:=Tryz.sizeOf163
 v51:=Tryz.zeroValue163
 t70:=underlying170
 a70:=Tryz.isAgg170
 z70:=Tryz.sizeOf170
 v70:=Tryz.zeroValue170
 t72:=underlying173
 a72:=Tryz.isAgg173
 z72:=Tryz.sizeOf173
 v72:=Tryz.zeroValue173
 t75:=underlying176
 a75:=Tryz.isAgg176
 z75:=Tryz.sizeOf176
 v75:=Tryz.zeroValue176
 t76:=underlying177
 a76:=Tryz.isAgg177
 z76:=Tryz.sizeOf177
 v76:=Tryz.zeroValue177
 t105:=underlying226
 a105:=Tryz.isAgg226
 z105:=Tryz.sizeOf226
 v105:=Tryz.zeroValue226
 t119:=underlying245
 a119:=Tryz.isAgg245
 z119:=Tryz.sizeOf245
 t127:=underlying199
 a127:=Tryz.isAgg199
 z127:=Tryz.sizeOf199
 v127:=Tryz.zeroValue199
 t138:=underlying247
 a138:=Tryz.isAgg247
 z138:=Tryz.sizeOf247
 v138:=Tryz.zeroValue247
 t139:=underlying248
 a139:=Tryz.isAgg248
 z139:=Tryz.sizeOf248
 v139:=Tryz.zeroValue248
 t146:=underlying252
 a146:=Tryz.isAgg252
 z146:=Tryz.sizeOf252
 v146:=Tryz.zeroValue252
 t164:=underlying214
 a164:=Tryz.isAgg214
 z164:=Tryz.sizeOf214
 v164:=Tryz.zeroValue214
 g1:=by kernel_rfl
 g3:=by kernel_rfl
 g4:=by kernel_rfl }
theorem Tryz.Builder_Extra_155:Builder.Extra Tryz.prog Tryz.lays155_ren:={
 sizeBuilder:=by kernel_rfl
 liesBuilder:=by kernel_rfl
 t5:=underlying5
 a5:=Tryz.isAgg5
 z5:=Tryz.sizeOf5
 v5:=Tryz.zeroValue5
 infoByte:=by kernel_rfl
 cellsByte:=by kernel_rfl
 sizeByte:=by kernel_rfl
 neB5:=by decide }
def Tryz.lays156_ren:Go.Shelf.Ren:=⟨λ| 156=>169 | 165=>201 | 166=>202 | 169=>203 | 240=>230 | 241=>231 | 276=>249 | 277=>250 | n=>n,λ| 31=>144 | 9=>9 | 3=>3 | 4=>4 | 0=>0 | 20=>20 | 72=>173 | 76=>177 | 70=>170 | 37=>171 | 75=>176 | 127=>199 | 164=>214 | 5=>5 | 80=>179 | n=>n,λ| n=>n⟩
theorem Tryz.lays156:Go.Proofs.Lays.n156 Tryz.prog Tryz.lays156_ren:={
 mixed:=by kernel_rfl
 f156:=func169.trans (congrArg some (by kernel_rfl))
 f165:=func201.trans (congrArg some (by kernel_rfl))
 f166:=func202.trans (congrArg some (by kernel_rfl))
 f169:=func203.trans (congrArg some (by kernel_rfl))
 f240:=func230.trans (congrArg some (by kernel_rfl))
 f241:=func231.trans (congrArg some (by kernel_rfl))
 f276:=func249.trans (congrArg some (by kernel_rfl))
 f277:=func250.trans (congrArg some (by kernel_rfl))
 t0:=underlying0
 a0:=Tryz.isAgg0
 z0:=Tryz.sizeOf0
 v0:=Tryz.zeroValue0
 t3:=underlying3
 a3:=Tryz.isAgg3
 z3:=Tryz.sizeOf3
 v3:=Tryz.zeroValue3
 t4:=underlying4
 a4:=Tryz.isAgg4
 z4:=Tryz.sizeOf4
 v4:=Tryz.zeroValue4
 t9:=underlying9
 a9:=Tryz.isAgg9
 z9:=Tryz.sizeOf9
 v9:=Tryz.zeroValue9
 t20:=underlying20
 a20:=Tryz.isAgg20
 z20:=Tryz.sizeOf20
 v20:=Tryz.zeroValue20
 t31:=underlying144
 a31:=Tryz.isAgg144
 z31:=Tryz.sizeOf144
 v31:=Tryz.zeroValue144
 t37:=underlying171
 a37:=Tryz.isAgg171
 z37:=Tryz.sizeOf171
 v37:=Tryz.zeroValue171
 t70:=underlying170
 a70:=Tryz.isAgg170
 z70:=Tryz.sizeOf170
 v70:=Tryz.zeroValue170
 t72:=underlying173
 a72:=Tryz.isAgg173
 z72:=Tryz.sizeOf173
 v72:=Tryz.zeroValue173
 t75:=underlying176
 a75:=Tryz.isAgg176
 z75:=Tryz.sizeOf176
 v75:=Tryz.zeroValue176
 t76:=underlying177
 a76:=Tryz.isAgg177
 z76:=Tryz.sizeOf177
 v76:=Tryz.zeroValue177
 t127:=underlying199
 a127:=Tryz.isAgg199
 z127:=Tryz.sizeOf199
 v127:=Tryz.zeroValue199
 t164:=underlying214
 a164:=Tryz.isAgg214
 z164:=Tryz.sizeOf214
 v164:=Tryz.zeroValue214 }
theorem Tryz.Builder_Extra_156:Builder.Extra Tryz.prog Tryz.lays156_ren:={
 sizeBuilder:=by kernel_rfl
 liesBuilder:=by kernel_rfl
 t5:=underlying5
 a5:=Tryz.isAgg5
 z5:=Tryz.sizeOf5
 v5:=Tryz.zeroValue5
 infoByte:=by kernel_rfl
 cellsByte:=by kernel_rfl
 sizeByte:=by kernel_rfl
 neB5:=by decide }
end Go.Proofs
namespace Go.Proofs.YtljlfiomikifjaaGreatDoor
open Go Go.Ab
open Go.Proofs.Tryz
def strings_Compare (s p:ByteArray):Bool×Int:=zOd s p
def zGC:Ab.Spec ty:=zi (cx:=base) (ze (zf zAZ) (ze (zf zAZ) zu)) λx=>((strings_Compare x.1 x.2.1).1,⟨[.pure (.lit (.int .i64 (strings_Compare x.1 x.2.1).2))],[]⟩)
theorem zUc:SdP 160 zGC:=zbas zkz Go.Proofs.Tryz.lays106 call160
end Go.Proofs.YtljlfiomikifjaaGreatDoor
namespace Go.Proofs.YtljlfiomikifjaaGreatDoor
open Go Go.Ab
open Go.Proofs.Tryz
def z5t:=zbt base 22 [(120,zl3),(121,zl4),(138,zom),(160,zGC)]
def zRb (a:Value) (b:Value):Wy0 (Int):=.bn (zeq a.Kind b.Kind) λr2=>.bn (zj9 a.Int b.Int) λr1=>.bn (zof [r2,r1,(strings_Compare a.Text b.Text).2]) λr0=>.k r0
def zuo (a:Value) (b:Value):=(zRb a b).fin default
def zCT:=zi z7n λx=>((zuo x.1 x.2.1).1,z2L (zuo x.1 x.2.1).2)
theorem zIK:SdP 125 zCT:=
 sT (cx':=z5t) (zk ⟨znS,zpl,ztE,zUc,trivial⟩) call125 func125 (lOK aN)
def zI9 (zB:yC->yC->Bool×Int) (zy:yA->yA->Bool×Int) (zI:yE->yE->Bool×Int) (zJ:Wd->Wd->Bool×Int):=zbt base 51 [(67,(zl7 zB)),(120,zl3),(121,zl4),(122,(zbx zy)),(123,(zbL zI)),(124,(zeP zJ)),(125,zCT)]
def zyD (zB:yC->yC->Bool×Int) (zy:yA->yA->Bool×Int) (zI:yE->yE->Bool×Int) (zJ:Wd->Wd->Bool×Int) (a:At) (b:At):Wy0 (Int):=.bn (zeq a.Kind b.Kind) λr8=>.bn (zeq a.Row.Table b.Row.Table) λr7=>.bn (zeq a.Row.Seq b.Row.Seq) λr6=>.bn (zy a.Ag b.Ag) λr5=>.bn (zeq a.Func b.Func) λr4=>.bn (zI a.Items b.Items) λr3=>.bn (zeq a.Op b.Op) λr2=>.bn (zuo a.Bd b.Bd) λr1=>.bn (zof [r8,r7,r6,r5,r4,r3,r2,r1]) λr0=>.k r0
def zlA (zB:yC->yC->Bool×Int) (zy:yA->yA->Bool×Int) (zI:yE->yE->Bool×Int) (zJ:Wd->Wd->Bool×Int) (a:At) (b:At):=(zyD zB zy zI zJ a b).fin default
theorem zGt (zB:yC->yC->Bool×Int) (zy:yA->yA->Bool×Int) (zI:yE->yE->Bool×Int) (zJ:Wd->Wd->Bool×Int) (zkQ:SdP 67 (zl7 zB)) (zgq:SdP 122 (zbx zy)) (zhM:SdP 123 (zbL zI)) (zoz:SdP 124 (zeP zJ)):SdP 65 (znK (zlA zB zy zI zJ)):=
 sT (cx':=(zI9 zB zy zI zJ)) (zk ⟨zkQ,znS,zpl,zgq,zhM,zoz,zIK,trivial⟩) call65 func65 (lOK aN)
def zHS (zde:At->At->Bool×Int):=zbt base 17 [(65,(znK zde)),(120,zl3),(121,zl4)]
def zwd (zde:At->At->Bool×Int) (a:Fc) (b:Fc):Wy0 (Int):=.bn (zde (At.mk a.At.Kind a.At.Row a.At.Ag a.At.Func a.At.Items a.At.Op a.At.Bd) (At.mk b.At.Kind b.At.Row b.At.Ag b.At.Func b.At.Items b.At.Op b.At.Bd)) λr2=>.bn (zeq a.Exp b.Exp) λr1=>.bn (zof [r2,r1]) λr0=>.k r0
def zkh (zde:At->At->Bool×Int) (a:Fc) (b:Fc):=(zwd zde a b).fin default
theorem zEN (zde:At->At->Bool×Int) (zKe:SdP 65 (znK zde)):SdP 119 (zfc (zkh zde)):=
 sT (cx':=(zHS zde)) (zk ⟨zKe,znS,zpl,trivial⟩) call119 func119 (lOK aN)
def zI8 (zB:yC->yC->Bool×Int):=zbt base 17 [(67,(zl7 zB)),(120,zl3),(125,zCT)]
def zyJ (zB:yC->yC->Bool×Int) (a:Wd) (b:Wd):Wy0 (Int):=.bn (zuo a.Value b.Value) λr2=>.bn (zB a.Ann b.Ann) λr1=>.bn (zof [r2,r1]) λr0=>.k r0
def zlJ (zB:yC->yC->Bool×Int) (a:Wd) (b:Wd):=(zyJ zB a b).fin default
theorem zGl (zB:yC->yC->Bool×Int) (zkQ:SdP 67 (zl7 zB)):SdP 124 (zeP (zlJ zB)):=
 sT (cx':=(zI8 zB)) (zk ⟨zkQ,znS,zIK,trivial⟩) call124 func124 (lOK aN)
def zI6 (zS:yD->yD->Bool×Int) (zA:Fc->Fc->Bool×Int):=zbt base 10 [(118,(zb4 zS)),(119,(zfc zA))]
def zyI (zS:yD->yD->Bool×Int) (zA:Fc->Fc->Bool×Int) (a:Term) (b:Term):Wy0 (Int):=.bn (zS a.Fs b.Fs) λr0=>.k r0
def zlD (zS:yD->yD->Bool×Int) (zA:Fc->Fc->Bool×Int) (a:Term) (b:Term):=(zyI zS zA a b).fin default
theorem zGm (zS:yD->yD->Bool×Int) (zA:Fc->Fc->Bool×Int) (zkd:SdP 118 (zb4 zS)) (zm1:SdP 119 (zfc zA)):SdP 63 (zgT (zlD zS zA)):=
 sT (cx':=(zI6 zS zA)) (zk ⟨zkd,zm1,trivial⟩) call63 func63 (lOK aN)
abbrev zbJ:=yA×yA×Unit×yA×Int×Int×Unit
abbrev zdU:=Int⊕(yA×yA)
def zgb (zB:yC->yC->Bool×Int) (s1:yA) (s2:yA) (t11:yA) (t12:Int) (t13:Int):Wy zbJ Unit zdU:=.i (decide (t13<t12)) (.i (decide (0<=t13)&&decide (t13<Int.ofNat t11.length)) (.i (decide (t13≥Int.ofNat s2.length)) (.k (.inl 1)) (.i (decide (0<=t13)&&decide (t13<Int.ofNat s2.length)) (.bn (zB (t11.getD t13.toNat default) (s2.getD t13.toNat default)) λr0=>.i (r0 != 0) (.k (.inl (r0))) (.h (s1,s2,(),t11,t12,(IntKind.i64.wrap (t13+1)),()) ())) .d)) .d) (.k (.inr (s1,s2)))
def zc3 (zB:yC->yC->Bool×Int) (x:zbJ) (y:Unit):=zgb zB x.1 x.2.1 x.2.2.2.1 x.2.2.2.2.1 x.2.2.2.2.2.1
def zgd (zB:yC->yC->Bool×Int) (n:Nat) (s1:yA) (s2:yA) (t11:yA) (t12:Int) (t13:Int):=zC (zc3 zB) (.inl default) n (s1,s2,(),t11,t12,t13,()) ()
def zfX (r:zdU):LTree ty:=.ite (isL r) (.done .ret [.lit (.int .i64 (getL r))] []) (.done (.exit 0) [.sl 23 (getR r).1,.sl 23 (getR r).2] [])
def zf6:LL ty zbJ:=za (lSl 23) (za (lSl 23) (za (lFn 67 (zl)) (za (lSl 23) (za zj (za zj zl)))))
def zfU (x:zbJ) (y:Unit):Nat:=(x.1.length+x.2.1.length+x.2.2.2.1.length+Int.toNat x.2.2.2.2.1+Int.toNat x.2.2.2.2.2.1+1)
def zc0 (zB:yC->yC->Bool×Int):=zb3 base 39 [(67,(zl7 zB))] [] [(2,(kpL [0,1,2,11,12,13]))] [(2,1,(kpL [0,1])),(2,0,(kpL [6]))] [(2,spW zf6 zZe (zc3 zB) (.inl default) zfX zfU)] []
theorem zfZ (zB:yC->yC->Bool×Int):zF (zc0 zB) (lp (body f122) 0):=zq (id:=2) (hl:=rfl)
def zgg (zB:yC->yC->Bool×Int) (s1:yA) (s2:yA):Wy0 (Int):=.bn (zgd zB (s1.length+s2.length+s1.length+(Int.ofNat s1.length).toNat +Int.toNat 0+1) s1 s2 s1 (Int.ofNat s1.length) 0) λr2=>.i (isL r2) (.k (getL r2)) (.i (decide (Int.ofNat (getR r2).1.length<Int.ofNat (getR r2).2.length)) (.k (-1:Int)) (.k 0))
def zbw (zB:yC->yC->Bool×Int) (s1:yA) (s2:yA):=(zgg zB s1 s2).fin default
theorem zfD (zB:yC->yC->Bool×Int) (zkQ:SdP 67 (zl7 zB)):SdP 122 (zbx (zbw zB)):=
 sT (cx':=(zc0 zB)) (zk ⟨zkQ,trivial⟩) call122 func122 (lOK (aC (zfZ zB) aN))
abbrev zcn:=yD×yD×Unit×yD×Int×Int×Unit
abbrev zfC:=Int⊕(yD×yD)
def zex (zA:Fc->Fc->Bool×Int) (s1:yD) (s2:yD) (t11:yD) (t12:Int) (t13:Int):Wy zcn Unit zfC:=.i (decide (t13<t12)) (.i (decide (0<=t13)&&decide (t13<Int.ofNat t11.length)) (.i (decide (t13≥Int.ofNat s2.length)) (.k (.inl 1)) (.i (decide (0<=t13)&&decide (t13<Int.ofNat s2.length)) (.bn (zA (FO.mk (At.mk (t11.getD t13.toNat default).At.Kind (t11.getD t13.toNat default).At.Row (t11.getD t13.toNat default).At.Ag (t11.getD t13.toNat default).At.Func (t11.getD t13.toNat default).At.Items (t11.getD t13.toNat default).At.Op (t11.getD t13.toNat default).At.Bd) (t11.getD t13.toNat default).Exp) (FO.mk (At.mk (s2.getD t13.toNat default).At.Kind (s2.getD t13.toNat default).At.Row (s2.getD t13.toNat default).At.Ag (s2.getD t13.toNat default).At.Func (s2.getD t13.toNat default).At.Items (s2.getD t13.toNat default).At.Op (s2.getD t13.toNat default).At.Bd) (s2.getD t13.toNat default).Exp)) λr0=>.i (r0 != 0) (.k (.inl (r0))) (.h (s1,s2,(),t11,t12,(IntKind.i64.wrap (t13+1)),()) ())) .d)) .d) (.k (.inr (s1,s2)))
def zbU (zA:Fc->Fc->Bool×Int) (x:zcn) (y:Unit):=zex zA x.1 x.2.1 x.2.2.2.1 x.2.2.2.2.1 x.2.2.2.2.2.1
def zey (zA:Fc->Fc->Bool×Int) (n:Nat) (s1:yD) (s2:yD) (t11:yD) (t12:Int) (t13:Int):=zC (zbU zA) (.inl default) n (s1,s2,(),t11,t12,t13,()) ()
def zjq (r:zfC):LTree ty:=.ite (isL r) (.done .ret [.lit (.int .i64 (getL r))] []) (.done (.exit 0) [.sl 69 (getR r).1,.sl 69 (getR r).2] [])
def zjQ:LL ty zcn:=za (lSl 69) (za (lSl 69) (za (lFn 119 (zl)) (za (lSl 69) (za zj (za zj zl)))))
def zjy (x:zcn) (y:Unit):Nat:=(x.1.length+x.2.1.length+x.2.2.2.1.length+Int.toNat x.2.2.2.2.1+Int.toNat x.2.2.2.2.2.1+1)
def zew (zA:Fc->Fc->Bool×Int):=zb3 base 39 [(119,(zfc zA))] [] [(2,(kpL [0,1,2,11,12,13]))] [(2,1,(kpL [0,1])),(2,0,(kpL [6]))] [(2,spW zjQ zZe (zbU zA) (.inl default) zjq zjy)] []
theorem zjH (zA:Fc->Fc->Bool×Int):zF (zew zA) (lp (body f118) 0):=zq (id:=2) (hl:=rfl)
def zeI (zA:Fc->Fc->Bool×Int) (s1:yD) (s2:yD):Wy0 (Int):=.bn (zey zA (s1.length+s2.length+s1.length+(Int.ofNat s1.length).toNat +Int.toNat 0+1) s1 s2 s1 (Int.ofNat s1.length) 0) λr2=>.i (isL r2) (.k (getL r2)) (.i (decide (Int.ofNat (getR r2).1.length<Int.ofNat (getR r2).2.length)) (.k (-1:Int)) (.k 0))
def zbD (zA:Fc->Fc->Bool×Int) (s1:yD) (s2:yD):=(zeI zA s1 s2).fin default
theorem ziZ (zA:Fc->Fc->Bool×Int) (zm1:SdP 119 (zfc zA)):SdP 118 (zb4 (zbD zA)):=
 sT (cx':=(zew zA)) (zk ⟨zm1,trivial⟩) call118 func118 (lOK (aC (zjH zA) aN))
abbrev zb1:=yE×yE×Unit×yE×Int×Int×Unit
abbrev zeL:=Int⊕(yE×yE)
def zht (zJ:Wd->Wd->Bool×Int) (s1:yE) (s2:yE) (t11:yE) (t12:Int) (t13:Int):Wy zb1 Unit zeL:=.i (decide (t13<t12)) (.i (decide (0<=t13)&&decide (t13<Int.ofNat t11.length)) (.i (decide (t13≥Int.ofNat s2.length)) (.k (.inl 1)) (.i (decide (0<=t13)&&decide (t13<Int.ofNat s2.length)) (.bn (zJ (t11.getD t13.toNat default) (s2.getD t13.toNat default)) λr0=>.i (r0 != 0) (.k (.inl (r0))) (.h (s1,s2,(),t11,t12,(IntKind.i64.wrap (t13+1)),()) ())) .d)) .d) (.k (.inr (s1,s2)))
def zdE (zJ:Wd->Wd->Bool×Int) (x:zb1) (y:Unit):=zht zJ x.1 x.2.1 x.2.2.2.1 x.2.2.2.2.1 x.2.2.2.2.2.1
def zhn (zJ:Wd->Wd->Bool×Int) (n:Nat) (s1:yE) (s2:yE) (t11:yE) (t12:Int) (t13:Int):=zC (zdE zJ) (.inl default) n (s1,s2,(),t11,t12,t13,()) ()
def zhi (r:zeL):LTree ty:=.ite (isL r) (.done .ret [.lit (.int .i64 (getL r))] []) (.done (.exit 0) [.sl 100 (getR r).1,.sl 100 (getR r).2] [])
def zhu:LL ty zb1:=za (lSl 100) (za (lSl 100) (za (lFn 124 (zl)) (za (lSl 100) (za zj (za zj zl)))))
def zhb (x:zb1) (y:Unit):Nat:=(x.1.length+x.2.1.length+x.2.2.2.1.length+Int.toNat x.2.2.2.2.1+Int.toNat x.2.2.2.2.2.1+1)
def zdD (zJ:Wd->Wd->Bool×Int):=zb3 base 39 [(124,(zeP zJ))] [] [(2,(kpL [0,1,2,11,12,13]))] [(2,1,(kpL [0,1])),(2,0,(kpL [6]))] [(2,spW zhu zZe (zdE zJ) (.inl default) zhi zhb)] []
theorem zhk (zJ:Wd->Wd->Bool×Int):zF (zdD zJ) (lp (body f123) 0):=zq (id:=2) (hl:=rfl)
def zhS (zJ:Wd->Wd->Bool×Int) (s1:yE) (s2:yE):Wy0 (Int):=.bn (zhn zJ (s1.length+s2.length+s1.length+(Int.ofNat s1.length).toNat +Int.toNat 0+1) s1 s2 s1 (Int.ofNat s1.length) 0) λr2=>.i (isL r2) (.k (getL r2)) (.i (decide (Int.ofNat (getR r2).1.length<Int.ofNat (getR r2).2.length)) (.k (-1:Int)) (.k 0))
def zbO (zJ:Wd->Wd->Bool×Int) (s1:yE) (s2:yE):=(zhS zJ s1 s2).fin default
theorem zgY (zJ:Wd->Wd->Bool×Int) (zoz:SdP 124 (zeP zJ)):SdP 123 (zbL (zbO zJ)):=
 sT (cx':=(zdD zJ)) (zk ⟨zoz,trivial⟩) call123 func123 (lOK (aC (zhk zJ) aN))
end Go.Proofs.YtljlfiomikifjaaGreatDoor
end
