/- Texts of this claim, joined (the program, its functions in plain words, and what they compute). -/
import Derived.KernelRfl
import Derived.Test.YtljlfiomikifjaaGreatDoorChecked
import Derived.Test.YtljlfiomikifjaaGreatDoorProg
import Derived.Test.YtljlfiomikifjaaGreatDoorGB1
set_option autoImplicit false
set_option linter.unusedVariables false
set_option linter.unusedSectionVars false
set_option linter.unusedSimpArgs false
set_option maxRecDepth 1000000
set_option maxHeartbeats 0
/- The types of the program, as plain data. -/
noncomputable section
namespace Go.Proofs.YtljlfiomikifjaaGreatDoor
open Go Go.Ab
open Go.Proofs Go.Shelf
open Go.Proofs.Tryz
structure RowID where
 Table:Int
 Seq:Int
 deriving DecidableEq,Inhabited
structure Value where
 Kind:Int
 Int:Int
 Text:ByteArray
 deriving DecidableEq,Inhabited
structure FO (A:Type) where
 At:A
 Exp:Int
structure TO (A:Type) where
 Cf:Int
 Fs:List (FO A)
structure WO (A:Type) where
 Value:Value
 Ann:List (TO A)
structure At where
 Kind:Int
 Row:RowID
 Ag:List (List (TO At))
 Func:Int
 Items:List (WO At)
 Op:Int
 Bd:Value
abbrev Fc:=FO At
abbrev Term:=TO At
abbrev Wd:=WO At
instance:Inhabited At:=⟨⟨0,default,[],0,[],0,default⟩⟩
instance:Inhabited Fc:=⟨⟨default,0⟩⟩
instance:Inhabited Term:=⟨⟨0,[]⟩⟩
instance:Inhabited Wd:=⟨⟨default,[]⟩⟩
theorem At.eta (x:At):(⟨x.Kind,x.Row,x.Ag,x.Func,x.Items,x.Op,x.Bd⟩:At)=x:=by cases x; rfl
mutual
def zbbC:(x y:At)->Decidable (x=y)
 | ⟨k,r,a,f,i,o,b⟩,⟨k',r',a',f',i',o',b'⟩=>
  match decEq k k',decEq r r',zbbj a a',decEq f f',zbap i i',decEq o o',decEq b b' with
  | .isTrue h1,.isTrue h2,.isTrue h3,.isTrue h4,.isTrue h5,.isTrue h6,.isTrue h7=>.isTrue (by subst h1 h2 h3 h4 h5 h6 h7; rfl)
  | .isFalse h,_,_,_,_,_,_=>.isFalse (λe=>by cases e; exact h rfl)
  | _,.isFalse h,_,_,_,_,_=>.isFalse (λe=>by cases e; exact h rfl)
  | _,_,.isFalse h,_,_,_,_=>.isFalse (λe=>by cases e; exact h rfl)
  | _,_,_,.isFalse h,_,_,_=>.isFalse (λe=>by cases e; exact h rfl)
  | _,_,_,_,.isFalse h,_,_=>.isFalse (λe=>by cases e; exact h rfl)
  | _,_,_,_,_,.isFalse h,_=>.isFalse (λe=>by cases e; exact h rfl)
  | _,_,_,_,_,_,.isFalse h=>.isFalse (λe=>by cases e; exact h rfl)
def z7m:(x y:Fc)->Decidable (x=y)
 | ⟨a,e⟩,⟨a',e'⟩=>match zbbC a a',decEq e e' with
  | .isTrue h1,.isTrue h2=>.isTrue (by subst h1 h2; rfl)
  | .isFalse h,_=>.isFalse (λe=>by cases e; exact h rfl)
  | _,.isFalse h=>.isFalse (λe=>by cases e; exact h rfl)
def z36:(x y:List Fc)->Decidable (x=y)
 | [],[]=>.isTrue rfl
 | [],_::_=>.isFalse (by simp)
 | _::_,[]=>.isFalse (by simp)
 | x::r,y::s=>match z7m x y,z36 r s with
  | .isTrue h1,.isTrue h2=>.isTrue (by subst h1 h2; rfl)
  | .isFalse h,_=>.isFalse (λe=>by cases e; exact h rfl)
  | _,.isFalse h=>.isFalse (λe=>by cases e; exact h rfl)
def zbbz:(x y:Term)->Decidable (x=y)
 | ⟨a,e⟩,⟨a',e'⟩=>match decEq a a',z36 e e' with
  | .isTrue h1,.isTrue h2=>.isTrue (by subst h1 h2; rfl)
  | .isFalse h,_=>.isFalse (λe=>by cases e; exact h rfl)
  | _,.isFalse h=>.isFalse (λe=>by cases e; exact h rfl)
def z9w:(x y:List Term)->Decidable (x=y)
 | [],[]=>.isTrue rfl
 | [],_::_=>.isFalse (by simp)
 | _::_,[]=>.isFalse (by simp)
 | x::r,y::s=>match zbbz x y,z9w r s with
  | .isTrue h1,.isTrue h2=>.isTrue (by subst h1 h2; rfl)
  | .isFalse h,_=>.isFalse (λe=>by cases e; exact h rfl)
  | _,.isFalse h=>.isFalse (λe=>by cases e; exact h rfl)
def zbbj:(x y:List (List Term))->Decidable (x=y)
 | [],[]=>.isTrue rfl
 | [],_::_=>.isFalse (by simp)
 | _::_,[]=>.isFalse (by simp)
 | x::r,y::s=>match z9w x y,zbbj r s with
  | .isTrue h1,.isTrue h2=>.isTrue (by subst h1 h2; rfl)
  | .isFalse h,_=>.isFalse (λe=>by cases e; exact h rfl)
  | _,.isFalse h=>.isFalse (λe=>by cases e; exact h rfl)
def zbbx:(x y:Wd)->Decidable (x=y)
 | ⟨a,e⟩,⟨a',e'⟩=>match decEq a a',z9w e e' with
  | .isTrue h1,.isTrue h2=>.isTrue (by subst h1 h2; rfl)
  | .isFalse h,_=>.isFalse (λe=>by cases e; exact h rfl)
  | _,.isFalse h=>.isFalse (λe=>by cases e; exact h rfl)
def zbap:(x y:List Wd)->Decidable (x=y)
 | [],[]=>.isTrue rfl
 | [],_::_=>.isFalse (by simp)
 | _::_,[]=>.isFalse (by simp)
 | x::r,y::s=>match zbbx x y,zbap r s with
  | .isTrue h1,.isTrue h2=>.isTrue (by subst h1 h2; rfl)
  | .isFalse h,_=>.isFalse (λe=>by cases e; exact h rfl)
  | _,.isFalse h=>.isFalse (λe=>by cases e; exact h rfl)
end
instance:DecidableEq At:=zbbC
instance:DecidableEq Fc:=z7m
instance:DecidableEq Term:=zbbz
instance:DecidableEq Wd:=zbbx
structure Bg where
 Row:RowID
 To:List Term
 deriving DecidableEq,Inhabited
abbrev yA:=List (List Term)
abbrev yB:=List (List RowID)
abbrev yC:=List Term
abbrev yD:=List Fc
abbrev yE:=List Wd
abbrev yF:=List RowID
abbrev yG:=List Bg
abbrev yH:=List Value
def ty:Nat->Type
 | 2=>Int
 | 3=>Int
 | 4=>Bool
 | 5=>Int
 | 9=>ByteArray
 | 22=>yC
 | 23=>yC
 | 26=>yD
 | 28=>Term
 | 35=>Int
 | 39=>yB
 | 43=>yF
 | 47=>yG
 | 49=>RowID
 | 51=>Bg
 | 60=>yA
 | 63=>yE
 | 65=>Value
 | 67=>At
 | 69=>Fc
 | 100=>Wd
 | 121=>Unit
 | 135=>Int
 | 138=>List Int
 | 144=>List ByteArray
 | 189=>List (yD)
 | _=>Unit
instance:(T:Nat)->Inhabited (ty T):=λT=>by
 unfold ty;split <;>infer_instance
def zbeo:DT ty RowID:=zTo (λx=>⟨x.1,x.2⟩) (λx=>(x.Table,x.Seq)) (λ_=>rfl) (zuV (zyc .i64) (zyc .i64))
def zben:DT ty Value:=zTo (λx=>⟨x.1,x.2.1,x.2.2⟩) (λx=>(x.Kind,x.Int,x.Text)) (λ_=>rfl) (zuV (zyc .i64) (zuV (zyc .i64) (zbfr)))
def zbgY:DT ty At:=zTo (λx=>⟨x.1,x.2.1,x.2.2.1,x.2.2.2.1,x.2.2.2.2.1,x.2.2.2.2.2.1,x.2.2.2.2.2.2⟩) (λx=>(x.Kind,x.Row,x.Ag,x.Func,x.Items,x.Op,x.Bd)) (λ_=>rfl) (zuV (zyc .i64) (zuV (zbeo) (zuV (zAL 23) (zuV (zyc .i64) (zuV (zAL 100) (zuV (zyc .i64) (zben)))))))
def zbig:DT ty Fc:=zTo (λx=>⟨x.1,x.2⟩) (λx=>(x.At,x.Exp)) (λ_=>rfl) (zuV (zbgY) (zyc .i64))
def zbii:DT ty Term:=zTo (λx=>⟨x.1,x.2⟩) (λx=>(x.Cf,x.Fs)) (λ_=>rfl) (zuV (zyc .i64) (zAL 69))
def zbh4:DT ty Wd:=zTo (λx=>⟨x.1,x.2⟩) (λx=>(x.Value,x.Ann)) (λ_=>rfl) (zuV (zben) (zAL 28))
def zbio:DT ty Bg:=zTo (λx=>⟨x.1,x.2⟩) (λx=>(x.Row,x.To)) (λ_=>rfl) (zuV (zbeo) (zAL 28))
def z4C:List ((T:Nat)×DT ty (ty T)):=[⟨2,(zyc .i64:DT ty Int)⟩,⟨3,(zyc .i64:DT ty Int)⟩,⟨4,(zbg3:DT ty Bool)⟩,⟨5,(zyc .u8:DT ty Int)⟩,⟨9,(zbfr:DT ty ByteArray)⟩,⟨22,(zAL 28:DT ty (yC))⟩,⟨23,(zAL 28:DT ty (yC))⟩,⟨26,(zAL 69:DT ty (yD))⟩,⟨28,(zbii:DT ty Term)⟩,⟨35,(zyc .i64:DT ty Int)⟩,⟨39,(zAL 43:DT ty (yB))⟩,⟨43,(zAL 49:DT ty (yF))⟩,⟨47,(zAL 51:DT ty (yG))⟩,⟨49,(zbeo:DT ty RowID)⟩,⟨51,(zbio:DT ty Bg)⟩,⟨60,(zAL 23:DT ty (yA))⟩,⟨63,(zAL 100:DT ty (yE))⟩,⟨65,(zben:DT ty Value)⟩,⟨67,(zbgY:DT ty At)⟩,⟨69,(zbig:DT ty Fc)⟩,⟨100,(zbh4:DT ty Wd)⟩,⟨121,(zbin:DT ty Unit)⟩,⟨135,(zyc .u64:DT ty Int)⟩,⟨138,(zAL 3:DT ty (List Int))⟩,⟨144,(zAL 9:DT ty (List ByteArray))⟩,⟨189,(zAL 26:DT ty (List (yD)))⟩]
def z8Q:List (Nat×TInfo):=[(2,⟨.int .i64,1,8,[.int .i64 (0)]⟩),
 (3,⟨.int .i64,1,8,[.int .i64 (0)]⟩),
 (4,⟨.bool,1,1,[.bool false]⟩),
 (5,⟨.int .u8,1,1,[.int .u8 (0)]⟩),
 (9,⟨.str,1,16,[.string ⟨#[]⟩]⟩),
 (22,⟨.slice 28,1,24,[.slice none 0 0]⟩),
 (23,⟨.slice 28,1,24,[.slice none 0 0]⟩),
 (26,⟨.slice 69,1,24,[.slice none 0 0]⟩),
 (28,⟨.struct [(0,2),(1,26)],2,32,[.int .i64 (0),.slice none 0 0]⟩),
 (35,⟨.int .i64,1,8,[.int .i64 (0)]⟩),
 (39,⟨.slice 43,1,24,[.slice none 0 0]⟩),
 (43,⟨.slice 49,1,24,[.slice none 0 0]⟩),
 (47,⟨.slice 51,1,24,[.slice none 0 0]⟩),
 (49,⟨.struct [(0,3),(1,3)],2,16,[.int .i64 (0),.int .i64 (0)]⟩),
 (51,⟨.struct [(0,49),(2,23)],3,40,[.int .i64 (0),.int .i64 (0),.slice none 0 0]⟩),
 (60,⟨.slice 23,1,24,[.slice none 0 0]⟩),
 (63,⟨.slice 100,1,24,[.slice none 0 0]⟩),
 (65,⟨.struct [(0,3),(1,2),(2,9)],3,32,[.int .i64 (0),.int .i64 (0),.string ⟨#[]⟩]⟩),
 (67,⟨.struct [(0,3),(1,49),(3,60),(4,3),(5,63),(6,3),(7,65)],10,120,[.int .i64 (0),.int .i64 (0),.int .i64 (0),.slice none 0 0,.int .i64 (0),.slice none 0 0,.int .i64 (0),.int .i64 (0),.int .i64 (0),.string ⟨#[]⟩]⟩),
 (69,⟨.struct [(0,67),(10,3)],11,128,[.int .i64 (0),.int .i64 (0),.int .i64 (0),.slice none 0 0,.int .i64 (0),.slice none 0 0,.int .i64 (0),.int .i64 (0),.int .i64 (0),.string ⟨#[]⟩,.int .i64 (0)]⟩),
 (100,⟨.struct [(0,65),(3,23)],4,56,[.int .i64 (0),.int .i64 (0),.string ⟨#[]⟩,.slice none 0 0]⟩),
 (121,⟨.map 9 3,1,8,[.map none]⟩),
 (135,⟨.int .u64,1,8,[.int .u64 (0)]⟩),
 (138,⟨.slice 3,1,24,[.slice none 0 0]⟩),
 (144,⟨.slice 9,1,24,[.slice none 0 0]⟩),
 (189,⟨.slice 26,1,24,[.slice none 0 0]⟩)]
def zWx:List (Nat×List TD):=[(49,[.int .i64,.int .i64]),(65,[.int .i64,.int .i64,.str])]
def inv (w:World):Prop:=Lib.TabIs Tryz.prog w "internal/strconv.uint64pow10" .u64 Lib.pow10Tab/\(∃ m,w.cell? ⟨0,0,none⟩=some (.int .i64 m))
theorem zbeF {n:String} {g:Nat} {w w':World} (hg:Tryz.prog.globalNamed n=some g) (h:w'.heap[g]? =w.heap[g]?):w'.var? Tryz.prog n=w.var? Tryz.prog n:=by
 unfold World.var?; rw [hg]; simp only [Option.bind_some,h]
theorem zbcq (w w':World) (hi:inv w) (hb:∀ b,b<4->w'.heap[b]? =w.heap[b]?):inv w':=by
 obtain ⟨h1,⟨m,h2⟩⟩:=hi;refine ⟨(zbeF (g:=1) (by kernel_rfl) (hb 1 (by omega))).trans h1,⟨m, ?_⟩⟩
 rw [<- h2]; exact World.cell?_of_block (a:=⟨0,0,none⟩) (hb 0 (by omega))
def base:Cx ty:={ ti:=λT=>z8Q.lookup T,dflt:=λ_=>default,enc:=λT=>(z9r z4C T).enc,dec:=λT=>(z9r z4C T).dec,spec:=λ_=>none,io:=λ_=>[],eqs:=λT us vs=>match zWx.lookup T with | some ts=>zbn ts us vs | none=>none,nt:=0,head:=λ_=>[],out:=λ_ _=>[],loops:=λ_=>none,ng:=4,inv:=inv }
theorem zbb4:Tryz.prog.info? 2=some Tryz.t2:=by kernel_rfl
theorem zNq:Tryz.prog.info? 3=some Tryz.t3:=by kernel_rfl
theorem zbhK:Tryz.prog.info? 4=some Tryz.t4:=by kernel_rfl
theorem zbh6:Tryz.prog.info? 5=some Tryz.t5:=by kernel_rfl
theorem zbfk:Tryz.prog.info? 9=some Tryz.t9:=by kernel_rfl
theorem zbhd:Tryz.prog.info? 22=some Tryz.t22:=by kernel_rfl
theorem z9Y:Tryz.prog.info? 23=some Tryz.t23:=by kernel_rfl
theorem zbdt:Tryz.prog.info? 26=some Tryz.t26:=by kernel_rfl
theorem zbgW:Tryz.prog.info? 28=some Tryz.t28:=by kernel_rfl
theorem zbhe:Tryz.prog.info? 35=some Tryz.t35:=by kernel_rfl
theorem zbgB:Tryz.prog.info? 39=some Tryz.t39:=by kernel_rfl
theorem zbgy:Tryz.prog.info? 43=some Tryz.t43:=by kernel_rfl
theorem zbho:Tryz.prog.info? 47=some Tryz.t47:=by kernel_rfl
theorem zbax:Tryz.prog.info? 49=some Tryz.t49:=by kernel_rfl
theorem zbhb:Tryz.prog.info? 51=some Tryz.t51:=by kernel_rfl
theorem zbdW:Tryz.prog.info? 60=some Tryz.t60:=by kernel_rfl
theorem zbdp:Tryz.prog.info? 63=some Tryz.t63:=by kernel_rfl
theorem z9l:Tryz.prog.info? 65=some Tryz.t65:=by kernel_rfl
theorem zbdT:Tryz.prog.info? 67=some Tryz.t67:=by kernel_rfl
theorem zbhw:Tryz.prog.info? 69=some Tryz.t69:=by kernel_rfl
theorem zbfN:Tryz.prog.info? 100=some Tryz.t100:=by kernel_rfl
theorem zbgu:Tryz.prog.info? 121=some Tryz.t121:=by kernel_rfl
theorem zbf1:Tryz.prog.info? 135=some Tryz.t135:=by kernel_rfl
theorem zbf9:Tryz.prog.info? 138=some Tryz.t138:=by kernel_rfl
theorem zbgj:Tryz.prog.info? 144=some Tryz.t144:=by kernel_rfl
theorem zbgm:Tryz.prog.info? 189=some Tryz.t189:=by kernel_rfl
theorem zbf6:∀ T i,z8Q.lookup T=some i->InfoOK Tryz.prog T i:=by
 intro T i h;have h:=zIw _ _ _ h;simp only [z8Q,qd,List.not_mem_nil,or_false,qb] at h;rcases h with ⟨rfl,rfl⟩ | ⟨rfl,rfl⟩ | ⟨rfl,rfl⟩ | ⟨rfl,rfl⟩ | ⟨rfl,rfl⟩ | ⟨rfl,rfl⟩ | ⟨rfl,rfl⟩ | ⟨rfl,rfl⟩ | ⟨rfl,rfl⟩ | ⟨rfl,rfl⟩ | ⟨rfl,rfl⟩ | ⟨rfl,rfl⟩ | ⟨rfl,rfl⟩ | ⟨rfl,rfl⟩ | ⟨rfl,rfl⟩ | ⟨rfl,rfl⟩ | ⟨rfl,rfl⟩ | ⟨rfl,rfl⟩ | ⟨rfl,rfl⟩ | ⟨rfl,rfl⟩ | ⟨rfl,rfl⟩ | ⟨rfl,rfl⟩ | ⟨rfl,rfl⟩ | ⟨rfl,rfl⟩ | ⟨rfl,rfl⟩ | ⟨rfl,rfl⟩
 ·exact ⟨Tryz.t2,_,_,zbb4,underlying2,rfl,rfl,rfl,rfl,rfl,⟨by simp [zcf],λ_=>rfl⟩,rfl⟩
 ·exact ⟨Tryz.t3,_,_,zNq,underlying3,rfl,rfl,rfl,rfl,rfl,⟨by simp [zcf],λ_=>rfl⟩,rfl⟩
 ·exact ⟨Tryz.t4,_,_,zbhK,underlying4,rfl,rfl,rfl,rfl,rfl,⟨by simp [zcf],λ_=>rfl⟩,rfl⟩
 ·exact ⟨Tryz.t5,_,_,zbh6,underlying5,rfl,rfl,rfl,rfl,rfl,⟨by simp [zcf],λ_=>rfl⟩,rfl⟩
 ·exact ⟨Tryz.t9,_,_,zbfk,underlying9,rfl,rfl,rfl,rfl,rfl,⟨by simp [zcf],λ_=>rfl⟩,rfl⟩
 ·exact ⟨Tryz.t22,_,_,zbhd,underlying22,rfl,rfl,rfl,rfl,rfl,⟨by simp [zcf],λ_=>rfl⟩,rfl⟩
 ·exact ⟨Tryz.t23,_,_,z9Y,underlying23,rfl,rfl,rfl,rfl,rfl,⟨by simp [zcf],λ_=>rfl⟩,rfl⟩
 ·exact ⟨Tryz.t26,_,_,zbdt,underlying26,rfl,rfl,rfl,rfl,rfl,⟨by simp [zcf],λ_=>rfl⟩,rfl⟩
 ·exact ⟨Tryz.t28,_,_,zbgW,underlying28,rfl,rfl,rfl,rfl,rfl,⟨by simp [zcf],λh=>by cases h⟩,⟨_,rfl,rfl,λf hf=>by
   simp only [qd,List.not_mem_nil,or_false] at hf;rcases hf with rfl | rfl
   ·exact Option.isSome_iff_exists.2 ⟨_,zbb4⟩
   ·exact Option.isSome_iff_exists.2 ⟨_,zbdt⟩⟩⟩
 ·exact ⟨Tryz.t35,_,_,zbhe,underlying35,rfl,rfl,rfl,rfl,rfl,⟨by simp [zcf],λ_=>rfl⟩,rfl⟩
 ·exact ⟨Tryz.t39,_,_,zbgB,underlying39,rfl,rfl,rfl,rfl,rfl,⟨by simp [zcf],λ_=>rfl⟩,rfl⟩
 ·exact ⟨Tryz.t43,_,_,zbgy,underlying43,rfl,rfl,rfl,rfl,rfl,⟨by simp [zcf],λ_=>rfl⟩,rfl⟩
 ·exact ⟨Tryz.t47,_,_,zbho,underlying47,rfl,rfl,rfl,rfl,rfl,⟨by simp [zcf],λ_=>rfl⟩,rfl⟩
 ·exact ⟨Tryz.t49,_,_,zbax,underlying49,rfl,rfl,rfl,rfl,rfl,⟨by simp [zcf],λh=>by cases h⟩,⟨_,rfl,rfl,λf hf=>by
   simp only [qd,List.not_mem_nil,or_false] at hf;rcases hf with rfl | rfl
   ·exact Option.isSome_iff_exists.2 ⟨_,zNq⟩
   ·exact Option.isSome_iff_exists.2 ⟨_,zNq⟩⟩⟩
 ·exact ⟨Tryz.t51,_,_,zbhb,underlying51,rfl,rfl,rfl,rfl,rfl,⟨by simp [zcf],λh=>by cases h⟩,⟨_,rfl,rfl,λf hf=>by
   simp only [qd,List.not_mem_nil,or_false] at hf;rcases hf with rfl | rfl
   ·exact Option.isSome_iff_exists.2 ⟨_,zbax⟩
   ·exact Option.isSome_iff_exists.2 ⟨_,z9Y⟩⟩⟩
 ·exact ⟨Tryz.t60,_,_,zbdW,underlying60,rfl,rfl,rfl,rfl,rfl,⟨by simp [zcf],λ_=>rfl⟩,rfl⟩
 ·exact ⟨Tryz.t63,_,_,zbdp,underlying63,rfl,rfl,rfl,rfl,rfl,⟨by simp [zcf],λ_=>rfl⟩,rfl⟩
 ·exact ⟨Tryz.t65,_,_,z9l,underlying65,rfl,rfl,rfl,rfl,rfl,⟨by simp [zcf],λh=>by cases h⟩,⟨_,rfl,rfl,λf hf=>by
   simp only [qd,List.not_mem_nil,or_false] at hf;rcases hf with rfl | rfl | rfl
   ·exact Option.isSome_iff_exists.2 ⟨_,zNq⟩
   ·exact Option.isSome_iff_exists.2 ⟨_,zbb4⟩
   ·exact Option.isSome_iff_exists.2 ⟨_,zbfk⟩⟩⟩
 ·exact ⟨Tryz.t67,_,_,zbdT,underlying67,rfl,rfl,rfl,rfl,rfl,⟨by simp [zcf],λh=>by cases h⟩,⟨_,rfl,rfl,λf hf=>by
   simp only [qd,List.not_mem_nil,or_false] at hf;rcases hf with rfl | rfl | rfl | rfl | rfl | rfl | rfl
   ·exact Option.isSome_iff_exists.2 ⟨_,zNq⟩
   ·exact Option.isSome_iff_exists.2 ⟨_,zbax⟩
   ·exact Option.isSome_iff_exists.2 ⟨_,zbdW⟩
   ·exact Option.isSome_iff_exists.2 ⟨_,zNq⟩
   ·exact Option.isSome_iff_exists.2 ⟨_,zbdp⟩
   ·exact Option.isSome_iff_exists.2 ⟨_,zNq⟩
   ·exact Option.isSome_iff_exists.2 ⟨_,z9l⟩⟩⟩
 ·exact ⟨Tryz.t69,_,_,zbhw,underlying69,rfl,rfl,rfl,rfl,rfl,⟨by simp [zcf],λh=>by cases h⟩,⟨_,rfl,rfl,λf hf=>by
   simp only [qd,List.not_mem_nil,or_false] at hf;rcases hf with rfl | rfl
   ·exact Option.isSome_iff_exists.2 ⟨_,zbdT⟩
   ·exact Option.isSome_iff_exists.2 ⟨_,zNq⟩⟩⟩
 ·exact ⟨Tryz.t100,_,_,zbfN,underlying100,rfl,rfl,rfl,rfl,rfl,⟨by simp [zcf],λh=>by cases h⟩,⟨_,rfl,rfl,λf hf=>by
   simp only [qd,List.not_mem_nil,or_false] at hf;rcases hf with rfl | rfl
   ·exact Option.isSome_iff_exists.2 ⟨_,z9l⟩
   ·exact Option.isSome_iff_exists.2 ⟨_,z9Y⟩⟩⟩
 ·exact ⟨Tryz.t121,_,_,zbgu,underlying121,rfl,rfl,rfl,rfl,rfl,⟨by simp [zcf],λ_=>rfl⟩,rfl⟩
 ·exact ⟨Tryz.t135,_,_,zbf1,underlying135,rfl,rfl,rfl,rfl,rfl,⟨by simp [zcf],λ_=>rfl⟩,rfl⟩
 ·exact ⟨Tryz.t138,_,_,zbf9,underlying138,rfl,rfl,rfl,rfl,rfl,⟨by simp [zcf],λ_=>rfl⟩,rfl⟩
 ·exact ⟨Tryz.t144,_,_,zbgj,underlying144,rfl,rfl,rfl,rfl,rfl,⟨by simp [zcf],λ_=>rfl⟩,rfl⟩
 ·exact ⟨Tryz.t189,_,_,zbgm,underlying189,rfl,rfl,rfl,rfl,rfl,⟨by simp [zcf],λ_=>rfl⟩,rfl⟩
theorem zbfg:∀ T us vs b,(match zWx.lookup T with | some ts=>zbn ts us vs | none=>none)=some b->∀ w,zbcg Tryz.prog T us vs b w:=by
 intro T us vs b h w;split at h
 ·rename_i ts hl;have hl:=zIw _ _ _ hl;simp only [zWx,qd,List.not_mem_nil,or_false,qb] at hl;rcases hl with ⟨rfl,rfl⟩ | ⟨rfl,rfl⟩
  ·refine z4u _ _ underlying49 (by kernel_rfl) (by kernel_rfl) rfl ?_ h w
   intro j f t hj ht;rcases j with _ | j
   ·simp at hj ht; subst hj ht; exact ⟨rfl,by decide,_,underlying3,rfl⟩
   rcases j with _ | j
   ·simp at hj ht; subst hj ht; exact ⟨rfl,by decide,_,underlying3,rfl⟩
   simp at hj
  ·refine z4u _ _ underlying65 (by kernel_rfl) (by kernel_rfl) rfl ?_ h w
   intro j f t hj ht;rcases j with _ | j
   ·simp at hj ht; subst hj ht; exact ⟨rfl,by decide,_,underlying3,rfl⟩
   rcases j with _ | j
   ·simp at hj ht; subst hj ht; exact ⟨rfl,by decide,_,underlying2,rfl⟩
   rcases j with _ | j
   ·simp at hj ht; subst hj ht; exact ⟨rfl,by decide,_,underlying9,rfl⟩
   simp at hj
 ·cases h
theorem zbey:∀ T us vs,base.eqs T us us=some true->base.eqs T vs vs=some true->base.eqs T us vs=some (zw7 us vs)/\(zw7 us vs=true->us=vs)/\∀ u∈us,∀ n,Instr.sameBits n u u=true:=by
 intro T us vs h1 h2;simp only [base] at h1 h2 ⊢;cases hl:zWx.lookup T with
 | none=>rw [hl] at h1; cases h1
 | some ts=>rw [hl] at h1 h2; exact z5x ts us vs h1 h2
theorem zbfa:∀ T us b,base.eqs T us us=some b->b=true:=by
 intro T us b h;simp only [base] at h;cases hl:zWx.lookup T with
 | none=>rw [hl] at h; cases h
 | some ts=>rw [hl] at h; exact z1k ts us b h
abbrev SdP:=Sound Tryz.prog base
theorem zgB:CxOK Tryz.prog base:=⟨zbf6,λT x=>by rw [show zr base T=_ from (z8Y z4C z8Q rfl T).symm]; exact DT.len _ x,λT x c h=>by have:=DT.cell _ _ c h; revert this; cases c <;>exact id,λT cs x h F w us hr=>DT.ok _ base F w us cs x h hr,zbfg,zbey,zbfa,zbcq⟩
def zbU:Cx ty:={ base with dr:=false }
theorem zLp:CxOK Tryz.prog zbU:=CxOK.cg (cx:=base) (cx':=zbU) ⟨rfl,rfl,rfl,rfl,rfl,rfl⟩ zgB
theorem zDg:Tryz.prog.follows .mixedOrders=true:=by kernel_rfl
theorem sT {cx':Cx ty} {α ρ:Type} (hspec:∀ g s,cx'.spec g=some s->SdP g s) {f:Nat} {fn:Func} (hent:∀ args w,(callFunc f args).run Tryz.prog w=.ok (.enter f args) w) (hf:Tryz.prog.funcs[f]? =some fn) (hl:ziq cx' (body fn)) (sg:Sig:=⟨[.pure],[]⟩) {A:AL base α} {res:ρ->ARes ty} {W:α->Wy0 ρ} {z:ρ}
  (hb:fn.body=some (body fn):=by kernel_rfl)
  (hrun:∀ x,zgd cx' fn (body fn) sg (A.enc x)=(W x).ev noH (λr=>some (res r)) none:=by intro _; kernel_rfl)
  (hchk:∀ x,(Nat.ble (A.enc x).length fn.ntmps&&zLJ (body fn) (A.enc x) sg.upd)=true:=by intro _; kernel_rfl) (hsame:base.Same cx':=by exact zbat):
  SdP f (zh A λx=>(((W x).fin z).1,res ((W x).fin z).2)):=sW zDg zgB hsame hspec hent hf hl sg hb hrun hchk
theorem sU {cx':Cx ty} {α ρ:Type} (hspec:∀ g s,cx'.spec g=some s->Sound Tryz.prog zbU g s) {f:Nat} {fn:Func} (hent:∀ args w,(callFunc f args).run Tryz.prog w=.ok (.enter f args) w) (hf:Tryz.prog.funcs[f]? =some fn) (hl:ziq cx' (body fn)) (sg:Sig:=⟨[.pure],[]⟩) {A:AL zbU α} {res:ρ->ARes ty} {W:α->Wy0 ρ} {z:ρ}
  (hb:fn.body=some (body fn):=by kernel_rfl)
  (hrun:∀ x,zgd cx' fn (body fn) sg (A.enc x)=(W x).ev noH (λr=>some (res r)) none:=by intro _; kernel_rfl)
  (hchk:∀ x,(Nat.ble (A.enc x).length fn.ntmps&&zLJ (body fn) (A.enc x) sg.upd)=true:=by intro _; kernel_rfl) (hsame:zbU.Same cx':=by exact zbat):
  Sound Tryz.prog zbU f (zh A λx=>(((W x).fin z).1,res ((W x).fin z).2)):=sW zDg zLp hsame hspec hent hf hl sg hb hrun hchk
end Go.Proofs.YtljlfiomikifjaaGreatDoor
/- What is read of an argument, as typed data. -/
namespace Go.Proofs.YtljlfiomikifjaaGreatDoor
open Go Go.Ab
open Go.Proofs.Tryz
def wf2 (x:Int):Prop:=(Lit.int .i64 x).wf=true
def wf3 (x:Int):Prop:=(Lit.int .i64 x).wf=true
def wf4 (x:Bool):Prop:=True
def wf5 (x:Int):Prop:=(Lit.int .u8 x).wf=true
def wf9 (x:ByteArray):Prop:=ByteArray.size x<=zbo
def z2Y (x:RowID):Prop:=wf3 x.Table/\wf3 x.Seq
def zTq (x:Value):Prop:=wf3 x.Kind/\wf2 x.Int/\wf9 x.Text
mutual
def zjX:At->Prop
 | ⟨k,r,a,f,i,o,b⟩=>wf3 k/\z2Y r/\(zzi a/\a.length<=zbo)/\wf3 f/\(zuo i/\i.length<=zbo)/\wf3 o/\zTq b
def zwE:Fc->Prop
 | ⟨a,e⟩=>zjX a/\wf3 e
def zsB:yD->Prop
 | []=>True
 | x::r=>zwE x/\zsB r
def zBs:Term->Prop
 | ⟨c,f⟩=>wf2 c/\(zsB f/\f.length<=zbo)
def zis:yC->Prop
 | []=>True
 | x::r=>zBs x/\zis r
def zzi:yA->Prop
 | []=>True
 | x::r=>(zis x/\x.length<=zbo)/\zzi r
def zG9:Wd->Prop
 | ⟨v,a⟩=>zTq v/\(zis a/\a.length<=zbo)
def zuo:yE->Prop
 | []=>True
 | x::r=>zG9 x/\zuo r
end
theorem zKV:∀ l:yD,(∀ x∈l,zwE x)->zsB l
 | [],_=>by unfold zsB; trivial
 | x::r,h=>by unfold zsB; exact ⟨h x (by simp),zKV r λy hy=>h y (by simp [hy])⟩
theorem zE8:∀ l:yC,(∀ x∈l,zBs x)->zis l
 | [],_=>by unfold zis; trivial
 | x::r,h=>by unfold zis; exact ⟨h x (by simp),zE8 r λy hy=>h y (by simp [hy])⟩
theorem zW2:∀ l:yA,(∀ x∈l,zis x/\x.length<=zbo)->zzi l
 | [],_=>by unfold zzi; trivial
 | x::r,h=>by unfold zzi; exact ⟨h x (by simp),zW2 r λy hy=>h y (by simp [hy])⟩
theorem zTF:∀ l:yE,(∀ x∈l,zG9 x)->zuo l
 | [],_=>by unfold zuo; trivial
 | x::r,h=>by unfold zuo; exact ⟨h x (by simp),zTF r λy hy=>h y (by simp [hy])⟩
def z9S (x:yC):Prop:=zis x/\List.length x<=zbo
def zbip (x:yD):Prop:=zsB x/\List.length x<=zbo
def zbif (x:Term):Prop:=zBs x
def zbiq (x:yA):Prop:=zzi x/\List.length x<=zbo
def zbir (x:yE):Prop:=zuo x/\List.length x<=zbo
def zbih (x:At):Prop:=zjX x
def zbib (x:Fc):Prop:=zwE x
def zbh2 (x:Wd):Prop:=zG9 x
def zbg9 (x:yF):Prop:=(∀ y∈x,z2Y y)/\List.length x<=zbo
def zbh8 (x:yB):Prop:=(∀ y∈x,zbg9 y)/\List.length x<=zbo
def zbhq (x:Bg):Prop:=z2Y x.Row/\z9S x.To
def zbim (x:yG):Prop:=(∀ y∈x,zbhq y)/\List.length x<=zbo
def wf (T:Nat):ty T->Prop:=match T with
 | 2=>wf2
 | 3=>wf3
 | 4=>wf4
 | 5=>wf5
 | 9=>wf9
 | 23=>z9S
 | 26=>zbip
 | 28=>zbif
 | 39=>zbh8
 | 43=>zbg9
 | 47=>zbim
 | 49=>z2Y
 | 51=>zbhq
 | 60=>zbiq
 | 63=>zbir
 | 65=>zTq
 | 67=>zbih
 | 69=>zbib
 | 100=>zbh2
 | _=>λ_=>True
theorem zbdb:zz0 Tryz.prog base wf 2:=z7l underlying2 (λn=>n) (λ_=>rfl) (λ_ h=>h)
theorem zMn:zz0 Tryz.prog base wf 3:=z7l underlying3 (λn=>n) (λ_=>rfl) (λ_ h=>h)
theorem zbgw:zz0 Tryz.prog base wf 9:=zbdk underlying9 (λn=>n) (λ_=>rfl) (λ_ h=>h)
theorem zbfw:zz0 Tryz.prog base wf 49:=by
 intro H en w sp held fuel cs y h hz;obtain ⟨xs,n,_,hy,hl,hlen,hf⟩:=DataW.trod_struct underlying49 h;have hs:=zpn underlying49 hy hz;obtain ⟨x0,h0,w0⟩:=zBf (off:=0) zMn (by kernel_rfl) hlen hf hs 0 _ rfl rfl rfl
 obtain ⟨x1,h1,w1⟩:=zBf (off:=1) zMn (by kernel_rfl) hlen hf hs 1 _ rfl rfl rfl
 have hl:cs.length=2:=hl.trans (by kernel_rfl)
 have:=zjB h0 (zGa h1 hl);exact ⟨(⟨x0,x1⟩:RowID),this,⟨w0,w1⟩⟩
theorem zbbB:zz0 Tryz.prog base wf 65:=by
 intro H en w sp held fuel cs y h hz;obtain ⟨xs,n,_,hy,hl,hlen,hf⟩:=DataW.trod_struct underlying65 h;have hs:=zpn underlying65 hy hz;obtain ⟨x0,h0,w0⟩:=zBf (off:=0) zMn (by kernel_rfl) hlen hf hs 0 _ rfl rfl rfl
 obtain ⟨x1,h1,w1⟩:=zBf (off:=1) zbdb (by kernel_rfl) hlen hf hs 1 _ rfl rfl rfl
 obtain ⟨x2,h2,w2⟩:=zBf (off:=2) zbgw (by kernel_rfl) hlen hf hs 2 _ rfl rfl rfl
 have hl:cs.length=3:=hl.trans (by kernel_rfl)
 have:=zjB h0 (zjB h1 (zGa h2 hl));exact ⟨(⟨x0,x1,x2⟩:Value),this,⟨w0,w1,w2⟩⟩
theorem z9j:∀ m,zsR Tryz.prog base wf m 23/\zsR Tryz.prog base wf m 26/\zsR Tryz.prog base wf m 28/\zsR Tryz.prog base wf m 60/\zsR Tryz.prog base wf m 63/\zsR Tryz.prog base wf m 67/\zsR Tryz.prog base wf m 69/\zsR Tryz.prog base wf m 100
 | 0=>⟨zo9,zo9,zo9,zo9,zo9,zo9,zo9,zo9⟩
 | m+1=>by
  obtain ⟨h23,h26,h28,h60,h63,h67,h69,h100⟩:=z9j m;refine ⟨?_, ?_, ?_, ?_, ?_, ?_, ?_, ?_⟩
  ·exact zDP zgB underlying23 (by kernel_rfl) (by decide) (λl=>l) (λ_=>rfl) (of_decide_eq_true (by kernel_rfl)) h28 (λl h h2=>⟨zE8 l h,h2⟩)
  ·exact zDP zgB underlying26 (by kernel_rfl) (by decide) (λl=>l) (λ_=>rfl) (of_decide_eq_true (by kernel_rfl)) h69 (λl h h2=>⟨zKV l h,h2⟩)
  ·intro H en w sp held fuel cs y hfu h hz;obtain ⟨xs,n,hn,hy,hl,hlen,hf⟩:=DataW.trod_struct underlying28 h;have hs:=zpn underlying28 hy hz;have hn:n<=m:=by omega
   obtain ⟨x0,hx0,w0⟩:=zfL (off:=0) (zbdb.at m) (by kernel_rfl) hn hlen hf hs 0 _ rfl rfl rfl
   obtain ⟨x1,hx1,w1⟩:=zfL (off:=1) h26 (by kernel_rfl) hn hlen hf hs 1 _ rfl rfl rfl
   have hl:cs.length=2:=hl.trans (by kernel_rfl)
   have:=zjB hx0 (zGa hx1 hl);exact ⟨(⟨x0,x1⟩:Term),this,by show zBs (⟨x0,x1⟩:Term); unfold zBs; exact ⟨w0,w1⟩⟩
  ·exact zDP zgB underlying60 (by kernel_rfl) (by decide) (λl=>l) (λ_=>rfl) (of_decide_eq_true (by kernel_rfl)) h23 (λl h h2=>⟨zW2 l h,h2⟩)
  ·exact zDP zgB underlying63 (by kernel_rfl) (by decide) (λl=>l) (λ_=>rfl) (of_decide_eq_true (by kernel_rfl)) h100 (λl h h2=>⟨zTF l h,h2⟩)
  ·intro H en w sp held fuel cs y hfu h hz;obtain ⟨xs,n,hn,hy,hl,hlen,hf⟩:=DataW.trod_struct underlying67 h;have hs:=zpn underlying67 hy hz;have hn:n<=m:=by omega
   obtain ⟨x0,hx0,w0⟩:=zfL (off:=0) (zMn.at m) (by kernel_rfl) hn hlen hf hs 0 _ rfl rfl rfl
   obtain ⟨x1,hx1,w1⟩:=zfL (off:=1) (zbfw.at m) (by kernel_rfl) hn hlen hf hs 1 _ rfl rfl rfl
   obtain ⟨x2,hx2,w2⟩:=zfL (off:=3) h60 (by kernel_rfl) hn hlen hf hs 2 _ rfl rfl rfl
   obtain ⟨x3,hx3,w3⟩:=zfL (off:=4) (zMn.at m) (by kernel_rfl) hn hlen hf hs 3 _ rfl rfl rfl
   obtain ⟨x4,hx4,w4⟩:=zfL (off:=5) h63 (by kernel_rfl) hn hlen hf hs 4 _ rfl rfl rfl
   obtain ⟨x5,hx5,w5⟩:=zfL (off:=6) (zMn.at m) (by kernel_rfl) hn hlen hf hs 5 _ rfl rfl rfl
   obtain ⟨x6,hx6,w6⟩:=zfL (off:=7) (zbbB.at m) (by kernel_rfl) hn hlen hf hs 6 _ rfl rfl rfl
   have hl:cs.length=10:=hl.trans (by kernel_rfl)
   have:=zjB hx0 (zjB hx1 (zjB hx2 (zjB hx3 (zjB hx4 (zjB hx5 (zGa hx6 hl))))));exact ⟨(⟨x0,x1,x2,x3,x4,x5,x6⟩:At),this,by show zjX (⟨x0,x1,x2,x3,x4,x5,x6⟩:At); unfold zjX; exact ⟨w0,w1,w2,w3,w4,w5,w6⟩⟩
  ·intro H en w sp held fuel cs y hfu h hz;obtain ⟨xs,n,hn,hy,hl,hlen,hf⟩:=DataW.trod_struct underlying69 h;have hs:=zpn underlying69 hy hz;have hn:n<=m:=by omega
   obtain ⟨x0,hx0,w0⟩:=zfL (off:=0) h67 (by kernel_rfl) hn hlen hf hs 0 _ rfl rfl rfl
   obtain ⟨x1,hx1,w1⟩:=zfL (off:=10) (zMn.at m) (by kernel_rfl) hn hlen hf hs 1 _ rfl rfl rfl
   have hl:cs.length=11:=hl.trans (by kernel_rfl)
   have:=zjB hx0 (zGa hx1 hl);exact ⟨(⟨x0,x1⟩:Fc),this,by show zwE (⟨x0,x1⟩:Fc); unfold zwE; exact ⟨w0,w1⟩⟩
  ·intro H en w sp held fuel cs y hfu h hz;obtain ⟨xs,n,hn,hy,hl,hlen,hf⟩:=DataW.trod_struct underlying100 h;have hs:=zpn underlying100 hy hz;have hn:n<=m:=by omega
   obtain ⟨x0,hx0,w0⟩:=zfL (off:=0) (zbbB.at m) (by kernel_rfl) hn hlen hf hs 0 _ rfl rfl rfl
   obtain ⟨x1,hx1,w1⟩:=zfL (off:=3) h23 (by kernel_rfl) hn hlen hf hs 1 _ rfl rfl rfl
   have hl:cs.length=4:=hl.trans (by kernel_rfl)
   have:=zjB hx0 (zGa hx1 hl);exact ⟨(⟨x0,x1⟩:Wd),this,by show zG9 (⟨x0,x1⟩:Wd); unfold zG9; exact ⟨w0,w1⟩⟩
theorem zbfR:zz0 Tryz.prog base wf 23:=zbdS λm=>(z9j m).1
def zOF (r:Int):ARes ty:=⟨[.pure (.lit (.int .i64 r))],[]⟩
def zSZ:AL base (yC×yC×Unit):=zd (ze (vSl 28)) (zd (ze (vSl 28)) zp)
def zd9 (F:yC->yC->Bool×Int):Ab.Spec ty:=zh zSZ λx=>((F x.1 x.2.1).1,zOF (F x.1 x.2.1).2)
def zME:AL base (Term×Term×Unit):=zd (ze (zcx 28)) (zd (ze (zcx 28)) zp)
def zf4 (F:Term->Term->Bool×Int):Ab.Spec ty:=zh zME λx=>((F x.1 x.2.1).1,zOF (F x.1 x.2.1).2)
def zGX:AL base (Fc×Fc×Unit):=zd (ze (zcx 69)) (zd (ze (zcx 69)) zp)
def zeq (F:Fc->Fc->Bool×Int):Ab.Spec ty:=zh zGX λx=>((F x.1 x.2.1).1,zOF (F x.1 x.2.1).2)
def zJS:AL base (At×At×Unit):=zd (ze (zcx 67)) (zd (ze (zcx 67)) zp)
def zg5 (F:At->At->Bool×Int):Ab.Spec ty:=zh zJS λx=>((F x.1 x.2.1).1,zOF (F x.1 x.2.1).2)
def zJ8:AL base (Wd×Wd×Unit):=zd (ze (zcx 100)) (zd (ze (zcx 100)) zp)
def zd8 (F:Wd->Wd->Bool×Int):Ab.Spec ty:=zh zJ8 λx=>((F x.1 x.2.1).1,zOF (F x.1 x.2.1).2)
def ziX:AL base (yC×yC×Unit×Unit):=zd (ze (vSl 28)) (zd (ze (vSl 28)) (zd (ze (vFn 137 zbT)) zp))
def zbQ (F:yC->yC->Bool×Int):Ab.Spec ty:=zh ziX λx=>((F x.1 x.2.1).1,zOF (F x.1 x.2.1).2)
def zjp:AL base (yD×yD×Unit×Unit):=zd (ze (vSl 69)) (zd (ze (vSl 69)) (zd (ze (vFn 119 zbT)) zp))
def zbX (F:yD->yD->Bool×Int):Ab.Spec ty:=zh zjp λx=>((F x.1 x.2.1).1,zOF (F x.1 x.2.1).2)
def zfQ:AL base (yA×yA×Unit×Unit):=zd (ze (vSl 23)) (zd (ze (vSl 23)) (zd (ze (vFn 67 zbT)) zp))
def zbt (F:yA->yA->Bool×Int):Ab.Spec ty:=zh zfQ λx=>((F x.1 x.2.1).1,zOF (F x.1 x.2.1).2)
def zhb:AL base (yE×yE×Unit×Unit):=zd (ze (vSl 100)) (zd (ze (vSl 100)) (zd (ze (vFn 124 zbT)) zp))
def zbK (F:yE->yE->Bool×Int):Ab.Spec ty:=zh zhb λx=>((F x.1 x.2.1).1,zOF (F x.1 x.2.1).2)
def zM3 (zK:yC->yC->Bool×Int) (zL:Term->Term->Bool×Int):=zbq base 8 [(136,(zbQ zK)),(137,(zf4 zL))]
def zBb (zK:yC->yC->Bool×Int) (zL:Term->Term->Bool×Int) (a:yC) (b:yC):Wy0 (Int):=.bn (zK a b) λr0=>.k r0
def zoA (zK:yC->yC->Bool×Int) (zL:Term->Term->Bool×Int) (a:yC) (b:yC):=(zBb zK zL a b).fin default
theorem zIq (zK:yC->yC->Bool×Int) (zL:Term->Term->Bool×Int) (zii:SdP 136 (zbQ zK)) (zo1:SdP 137 (zf4 zL)):SdP 67 (zd9 (zoA zK zL)):=
 sT (cx':=(zM3 zK zL)) (zi ⟨zii,zo1,trivial⟩) call67 func67 (lOK aN)
def zWv:=zbq base 6 []
def zI3 (x_:Int):Wy0 (Bool):=.k (x_ != x_)
def zno (x_:Int):=(zI3 x_).fin default
def zVf (r:Bool):ARes ty:=⟨[.pure (.lit (.bool r))],[]⟩
def zZB:AL base (Int×Unit):=zd (ze zha) zp
def zDa:=zh zZB λx=>((zno x.1).1,zVf (zno x.1).2)
theorem zQo:SdP 166 zDa:=
 sT (cx':=zWv) (zi trivial) call166 func166 (lOK aN)
def zRx:=zbq base 20 [(166,zDa)]
def zEO (x_:Int) (y_:Int):Wy0 (Int):=.i ((zno x_).2) (.i ((zno y_).2) (.k 0) (.k (-1:Int))) (.i ((zno y_).2) (.k 1) (.i (decide (x_<y_)) (.k (-1:Int)) (.i (decide (x_>y_)) (.k 1) (.k 0))))
def ziV (x_:Int) (y_:Int):=(zEO x_ y_).fin default
def zVp:AL base (Int×Int×Unit):=zd (ze zha) (zd (ze zha) zp)
def zmg:=zh zVp λx=>((ziV x.1 x.2.1).1,zOF (ziV x.1 x.2.1).2)
theorem zrW:SdP 138 zmg:=
 sT (cx':=zRx) (zi ⟨zQo,trivial⟩) call138 func138 (lOK aN)
abbrev zDC:=Int×List Int×Int×Int×Unit
def zID (zero:Int) (t6:List Int) (t7:Int) (t8:Int):Wy zDC Unit (Int⊕Int):=.i (decide (t8<t7)) (.i (decide (0<=t8)&&decide (t8<Int.ofNat t6.length)) (.i (t6.getD t8.toNat default != zero) (.k (.inl (t6.getD t8.toNat default))) (.h (zero,t6,t7,(IntKind.i64.wrap (t8+1)),()) ())) .d) (.k (.inr zero))
def zTM (x:zDC) (y:Unit):=zID x.1 x.2.1 x.2.2.1 x.2.2.2.1
def zH4 (n:Nat) (zero:Int) (t6:List Int) (t7:Int) (t8:Int):=zH (zTM) (.inl default) n (zero,t6,t7,t8,()) ()
def z6E (r:Int⊕Int):LTree ty:=.ite (isL r) (.done .ret [.lit (.int .i64 (getL r))] []) (.done (.exit 0) [.lit (.int .i64 (getR r))] [])
def z7Y:LL ty zDC:=za zj (za (lSl 3) (za zj (za zj zm)))
def z8a:BL ty (Unit):=zbg
def z6s (x:zDC) (y:Unit):Nat:=(Int.toNat x.1+x.2.1.length+Int.toNat x.2.2.1+Int.toNat x.2.2.2.1+1)
def zT5:=zbZ base 18 [] [] [(3,(kpL [3,6,7,8]))] [(3,1,(kpL [3])),(3,0,(kpL [2]))] [(3,spW z7Y z8a (zTM) (.inl default) z6E z6s)] []
theorem z5G:zD zT5 (lp (body f120) 0):=zq (id:=3) (hl:=rfl)
def zWN (vals:List Int):Wy0 (Int):=.bn (zH4 (Int.toNat 0+vals.length+(Int.ofNat vals.length).toNat +Int.toNat 0+1) 0 vals (Int.ofNat vals.length) 0) λr0=>.i (isL r0) (.k (getL r0)) (.k (getR r0))
def zkO (vals:List Int):=(zWN vals).fin default
def z9B:AL base (List Int×Unit):=zd (ze (vSl 3)) zp
def zkV:=zh z9B λx=>((zkO x.1).1,zOF (zkO x.1).2)
theorem zma:SdP 120 zkV:=
 sT (cx':=zT5) (zi trivial) call120 func120 (lOK (aC z5G aN))
def zIl (zcU:Term->Term->Bool×Int):=zbq base 15 [(63,(zf4 zcU)),(120,zkV),(138,zmg)]
def zys (zcU:Term->Term->Bool×Int) (x_:Term) (y_:Term):Wy0 (Int):=.bn (zcU x_ y_) λr2=>.bn (ziV x_.Cf y_.Cf) λr1=>.bn (zkO [r2,r1]) λr0=>.k r0
def zlz (zcU:Term->Term->Bool×Int) (x_:Term) (y_:Term):=(zys zcU x_ y_).fin default
theorem zEx (zcU:Term->Term->Bool×Int) (zG7:SdP 63 (zf4 zcU)):SdP 137 (zf4 (zlz zcU)):=
 sT (cx':=(zIl zcU)) (zi ⟨zG7,zma,zrW,trivial⟩) call137 func137 (lOK aN)
def z2q:=zbq base 6 []
def zNX (x_:Int):Wy0 (Bool):=.k (x_ != x_)
def zr8 (x_:Int):=(zNX x_).fin default
def zG3:=zh zZB λx=>((zr8 x.1).1,zVf (zr8 x.1).2)
theorem zVg:SdP 159 zG3:=
 sT (cx':=z2q) (zi trivial) call159 func159 (lOK aN)
def zWc:=zbq base 20 [(159,zG3)]
def zI2 (x_:Int) (y_:Int):Wy0 (Int):=.i ((zr8 x_).2) (.i ((zr8 y_).2) (.k 0) (.k (-1:Int))) (.i ((zr8 y_).2) (.k 1) (.i (decide (x_<y_)) (.k (-1:Int)) (.i (decide (x_>y_)) (.k 1) (.k 0))))
def zc1 (x_:Int) (y_:Int):=(zI2 x_ y_).fin default
def zkY:=zh zVp λx=>((zc1 x.1 x.2.1).1,zOF (zc1 x.1 x.2.1).2)
theorem znp:SdP 121 zkY:=
 sT (cx':=zWc) (zi ⟨zVg,trivial⟩) call121 func121 (lOK aN)
end Go.Proofs.YtljlfiomikifjaaGreatDoor
/-
 DERIVED:THE SHELF's CONTRACTS AT THIS DUMP,IN PLAIN WORDS (tools/lay-plain.mjs out of 'TryzShelf.lean',which tools/lay-shelf.mjs wrote):THE SAME DECLARATIONS UNDER THE SAME NAMES:'import','namespace','open','def','theorem' AND NOTHING ELSE:no command of the shelf's:FOR A HAND-IN. Each laying:the table of numbers ('.._ren') and one theorem,a field a fact of the dump's own or the kernel's comparison; each contract:ONE APPLICATION.
-/
namespace Go.Proofs
open Go.Shelf
def Tryz.sortRow_ren:Go.Shelf.Ren:=⟨λ| 6=>232 | 15=>156 | 14=>251 | 28=>192 | 29=>193 | 20=>270 | 21=>271 | 22=>272 | 23=>273 | 24=>274 | 25=>275 | 26=>276 | 27=>277 | 46=>289 | 47=>222 | 48=>223 | 49=>290 | 50=>291 | 57=>298 | n=>n,λ| 22=>43 | 24=>49 | 25=>102 | 3=>3 | 39=>135 | 0=>0 | 53=>163 | 55=>165 | 4=>4 | 46=>157 | 45=>156 | 50=>123 | 5=>5 | 9=>9 | 66=>191 | 70=>195 | 76=>206 | 77=>207 | n=>n,λ| n=>n⟩
theorem Tryz.sortRow:Go.Proofs.SlLaysF0.n6 Tryz.prog Tryz.sortRow_ren:={
 mixed:=by kernel_rfl
 f6:=⟨f232.name,by decide,func232.trans (congrArg some (by kernel_rfl))⟩
 f14:=⟨f251.name,by decide,func251.trans (congrArg some (by kernel_rfl))⟩
 f15:=func156.trans (congrArg some (by kernel_rfl))
 f20:=⟨f270.name,by decide,func270.trans (congrArg some (by kernel_rfl))⟩
 f21:=⟨f271.name,by decide,func271.trans (congrArg some (by kernel_rfl))⟩
 f22:=⟨f272.name,by decide,func272.trans (congrArg some (by kernel_rfl))⟩
 f23:=⟨f273.name,by decide,func273.trans (congrArg some (by kernel_rfl))⟩
 f24:=⟨f274.name,by decide,func274.trans (congrArg some (by kernel_rfl))⟩
 f25:=⟨f275.name,by decide,func275.trans (congrArg some (by kernel_rfl))⟩
 f26:=⟨f276.name,by decide,func276.trans (congrArg some (by kernel_rfl))⟩
 f27:=⟨f277.name,by decide,func277.trans (congrArg some (by kernel_rfl))⟩
 f28:=func192.trans (congrArg some (by kernel_rfl))
 f29:=func193.trans (congrArg some (by kernel_rfl))
 f46:=⟨f289.name,by decide,func289.trans (congrArg some (by kernel_rfl))⟩
 f47:=func222.trans (congrArg some (by kernel_rfl))
 f48:=func223.trans (congrArg some (by kernel_rfl))
 f49:=⟨f290.name,by decide,func290.trans (congrArg some (by kernel_rfl))⟩
 f50:=⟨f291.name,by decide,func291.trans (congrArg some (by kernel_rfl))⟩
 f57:=⟨f298.name,by decide,func298.trans (congrArg some (by kernel_rfl))⟩
 t0:=underlying0
 a0:=Tryz.isAgg0
 z0:=Tryz.sizeOf0
 v0:=Tryz.zeroValue0
 t3:=underlying3
 a3:=Tryz.isAgg3
 z3:=Tryz.sizeOf3
 v3:=Tryz.zeroValue3
 t4:=underlying4
 a4:=Tryz.isAgg4
 z4:=Tryz.sizeOf4
 v4:=Tryz.zeroValue4
 t5:=underlying5
 a5:=Tryz.isAgg5
 z5:=Tryz.sizeOf5
 v5:=Tryz.zeroValue5
 t9:=underlying9
 a9:=Tryz.isAgg9
 z9:=Tryz.sizeOf9
 v9:=Tryz.zeroValue9
 t22:=underlying43
 a22:=Tryz.isAgg43
 z22:=Tryz.sizeOf43
 v22:=Tryz.zeroValue43
 t25:=underlying102
 a25:=Tryz.isAgg102
 z25:=Tryz.sizeOf102
 v25:=Tryz.zeroValue102
 t39:=underlying135
 a39:=Tryz.isAgg135
 z39:=Tryz.sizeOf135
 v39:=Tryz.zeroValue135
 t45:=underlying156
 a45:=Tryz.isAgg156
 z45:=Tryz.sizeOf156
 v45:=Tryz.zeroValue156
 t46:=underlying157
 a46:=Tryz.isAgg157
 z46:=Tryz.sizeOf157
 v46:=Tryz.zeroValue157
 t50:=underlying123
 a50:=Tryz.isAgg123
 z50:=Tryz.sizeOf123
 v50:=Tryz.zeroValue123
 t53:=underlying163
 a53:=Tryz.isAgg163
 z53:=Tryz.sizeOf163
 v53:=Tryz.zeroValue163
 t55:=underlying165
 a55:=Tryz.isAgg165
 z55:=Tryz.sizeOf165
 v55:=Tryz.zeroValue165
 t66:=underlying191
 a66:=Tryz.isAgg191
 z66:=Tryz.sizeOf191
 v66:=Tryz.zeroValue191
 t70:=underlying195
 a70:=Tryz.isAgg195
 z70:=Tryz.sizeOf195
 v70:=Tryz.zeroValue195
 t76:=underlying206
 a76:=Tryz.isAgg206
 z76:=Tryz.sizeOf206
 v76:=Tryz.zeroValue206
 t77:=underlying207
 a77:=Tryz.isAgg207
 z77:=Tryz.sizeOf207
 v77:=Tryz.zeroValue207 }
def Tryz.sortSet_ren:Go.Shelf.Ren:=⟨λ| 6=>205 | 15=>156 | 14=>235 | 28=>192 | 29=>193 | 20=>252 | 21=>253 | 22=>254 | 23=>255 | 24=>256 | 25=>257 | 26=>258 | 27=>259 | 46=>278 | 47=>222 | 48=>223 | 49=>279 | 50=>280 | 57=>292 | n=>n,λ| 22=>39 | 24=>43 | 25=>86 | 3=>3 | 39=>135 | 0=>0 | 53=>163 | 55=>165 | 4=>4 | 46=>157 | 45=>156 | 50=>123 | 5=>5 | 9=>9 | 66=>191 | 70=>195 | 76=>206 | 77=>207 | n=>n,λ| n=>n⟩
theorem Tryz.sortSet:Go.Proofs.SlLaysF.n6 Tryz.prog Tryz.sortSet_ren:={
 mixed:=by kernel_rfl
 f6:=⟨f205.name,by decide,func205.trans (congrArg some (by kernel_rfl))⟩
 f14:=⟨f235.name,by decide,func235.trans (congrArg some (by kernel_rfl))⟩
 f15:=func156.trans (congrArg some (by kernel_rfl))
 f20:=⟨f252.name,by decide,func252.trans (congrArg some (by kernel_rfl))⟩
 f21:=⟨f253.name,by decide,func253.trans (congrArg some (by kernel_rfl))⟩
 f22:=⟨f254.name,by decide,func254.trans (congrArg some (by kernel_rfl))⟩
 f23:=⟨f255.name,by decide,func255.trans (congrArg some (by kernel_rfl))⟩
 f24:=⟨f256.name,by decide,func256.trans (congrArg some (by kernel_rfl))⟩
 f25:=⟨f257.name,by decide,func257.trans (congrArg some (by kernel_rfl))⟩
 f26:=⟨f258.name,by decide,func258.trans (congrArg some (by kernel_rfl))⟩
 f27:=⟨f259.name,by decide,func259.trans (congrArg some (by kernel_rfl))⟩
 f28:=func192.trans (congrArg some (by kernel_rfl))
 f29:=func193.trans (congrArg some (by kernel_rfl))
 f46:=⟨f278.name,by decide,func278.trans (congrArg some (by kernel_rfl))⟩
 f47:=func222.trans (congrArg some (by kernel_rfl))
 f48:=func223.trans (congrArg some (by kernel_rfl))
 f49:=⟨f279.name,by decide,func279.trans (congrArg some (by kernel_rfl))⟩
 f50:=⟨f280.name,by decide,func280.trans (congrArg some (by kernel_rfl))⟩
 f57:=⟨f292.name,by decide,func292.trans (congrArg some (by kernel_rfl))⟩
 t0:=underlying0
 a0:=Tryz.isAgg0
 z0:=Tryz.sizeOf0
 v0:=Tryz.zeroValue0
 t3:=underlying3
 a3:=Tryz.isAgg3
 z3:=Tryz.sizeOf3
 v3:=Tryz.zeroValue3
 t4:=underlying4
 a4:=Tryz.isAgg4
 z4:=Tryz.sizeOf4
 v4:=Tryz.zeroValue4
 t5:=underlying5
 a5:=Tryz.isAgg5
 z5:=Tryz.sizeOf5
 v5:=Tryz.zeroValue5
 t9:=underlying9
 a9:=Tryz.isAgg9
 z9:=Tryz.sizeOf9
 v9:=Tryz.zeroValue9
 t22:=underlying39
 a22:=Tryz.isAgg39
 z22:=Tryz.sizeOf39
 v22:=Tryz.zeroValue39
 a24:=Tryz.isAgg43
 z24:=Tryz.sizeOf43
 t25:=underlying86
 a25:=Tryz.isAgg86
 z25:=Tryz.sizeOf86
 v25:=Tryz.zeroValue86
 t39:=underlying135
 a39:=Tryz.isAgg135
 z39:=Tryz.sizeOf135
 v39:=Tryz.zeroValue135
 t45:=underlying156
 a45:=Tryz.isAgg156
 z45:=Tryz.sizeOf156
 v45:=Tryz.zeroValue156
 t46:=underlying157
 a46:=Tryz.isAgg157
 z46:=Tryz.sizeOf157
 v46:=Tryz.zeroValue157
 t50:=underlying123
 a50:=Tryz.isAgg123
 z50:=Tryz.sizeOf123
 v50:=Tryz.zeroValue123
 t53:=underlying163
 a53:=Tryz.isAgg163
 z53:=Tryz.sizeOf163
 v53:=Tryz.zeroValue163
 t55:=underlying165
 a55:=Tryz.isAgg165
 z55:=Tryz.sizeOf165
 v55:=Tryz.zeroValue165
 t66:=underlying191
 a66:=Tryz.isAgg191
 z66:=Tryz.sizeOf191
 v66:=Tryz.zeroValue191
 t70:=underlying195
 a70:=Tryz.isAgg195
 z70:=Tryz.sizeOf195
 v70:=Tryz.zeroValue195
 t76:=underlying206
 a76:=Tryz.isAgg206
 z76:=Tryz.sizeOf206
 v76:=Tryz.zeroValue206
 t77:=underlying207
 a77:=Tryz.isAgg207
 z77:=Tryz.sizeOf207
 v77:=Tryz.zeroValue207 }
def Tryz.pdqTerm_ren:Go.Shelf.Ren:=⟨λ| 14=>155 | 20=>184 | 21=>185 | 22=>186 | 23=>187 | 24=>188 | 25=>189 | 26=>190 | 27=>191 | 46=>221 | 47=>222 | 48=>223 | 49=>224 | 50=>225 | 15=>156 | 57=>243 | 28=>192 | 29=>193 | n=>n,λ| 24=>28 | 22=>22 | 3=>3 | 25=>79 | 4=>4 | 0=>0 | 46=>157 | 45=>156 | 50=>123 | 66=>191 | 39=>135 | 55=>165 | 70=>195 | 76=>206 | 77=>207 | 53=>163 | 5=>5 | 9=>9 | n=>n,λ| n=>n⟩
theorem Tryz.pdqTerm:Go.Proofs.SlLaysF0.n14 Tryz.prog Tryz.pdqTerm_ren:={
 mixed:=by kernel_rfl
 f14:=⟨f155.name,by decide,func155.trans (congrArg some (by kernel_rfl))⟩
 f15:=func156.trans (congrArg some (by kernel_rfl))
 f20:=⟨f184.name,by decide,func184.trans (congrArg some (by kernel_rfl))⟩
 f21:=⟨f185.name,by decide,func185.trans (congrArg some (by kernel_rfl))⟩
 f22:=⟨f186.name,by decide,func186.trans (congrArg some (by kernel_rfl))⟩
 f23:=⟨f187.name,by decide,func187.trans (congrArg some (by kernel_rfl))⟩
 f24:=⟨f188.name,by decide,func188.trans (congrArg some (by kernel_rfl))⟩
 f25:=⟨f189.name,by decide,func189.trans (congrArg some (by kernel_rfl))⟩
 f26:=⟨f190.name,by decide,func190.trans (congrArg some (by kernel_rfl))⟩
 f27:=⟨f191.name,by decide,func191.trans (congrArg some (by kernel_rfl))⟩
 f28:=func192.trans (congrArg some (by kernel_rfl))
 f29:=func193.trans (congrArg some (by kernel_rfl))
 f46:=⟨f221.name,by decide,func221.trans (congrArg some (by kernel_rfl))⟩
 f47:=func222.trans (congrArg some (by kernel_rfl))
 f48:=func223.trans (congrArg some (by kernel_rfl))
 f49:=⟨f224.name,by decide,func224.trans (congrArg some (by kernel_rfl))⟩
 f50:=⟨f225.name,by decide,func225.trans (congrArg some (by kernel_rfl))⟩
 f57:=⟨f243.name,by decide,func243.trans (congrArg some (by kernel_rfl))⟩
 t0:=underlying0
 a0:=Tryz.isAgg0
 z0:=Tryz.sizeOf0
 v0:=Tryz.zeroValue0
 t3:=underlying3
 a3:=Tryz.isAgg3
 z3:=Tryz.sizeOf3
 v3:=Tryz.zeroValue3
 t4:=underlying4
 a4:=Tryz.isAgg4
 z4:=Tryz.sizeOf4
 v4:=Tryz.zeroValue4
 t5:=underlying5
 a5:=Tryz.isAgg5
 z5:=Tryz.sizeOf5
 v5:=Tryz.zeroValue5
 t9:=underlying9
 a9:=Tryz.isAgg9
 z9:=Tryz.sizeOf9
 v9:=Tryz.zeroValue9
 t22:=underlying22
 a22:=Tryz.isAgg22
 z22:=Tryz.sizeOf22
 v22:=Tryz.zeroValue22
 t25:=underlying79
 a25:=Tryz.isAgg79
 z25:=Tryz.sizeOf79
 v25:=Tryz.zeroValue79
 t39:=underlying135
 a39:=Tryz.isAgg135
 z39:=Tryz.sizeOf135
 v39:=Tryz.zeroValue135
 t45:=underlying156
 a45:=Tryz.isAgg156
 z45:=Tryz.sizeOf156
 v45:=Tryz.zeroValue156
 t46:=underlying157
 a46:=Tryz.isAgg157
 z46:=Tryz.sizeOf157
 v46:=Tryz.zeroValue157
 t50:=underlying123
 a50:=Tryz.isAgg123
 z50:=Tryz.sizeOf123
 v50:=Tryz.zeroValue123
 t53:=underlying163
 a53:=Tryz.isAgg163
 z53:=Tryz.sizeOf163
 v53:=Tryz.zeroValue163
 t55:=underlying165
 a55:=Tryz.isAgg165
 z55:=Tryz.sizeOf165
 v55:=Tryz.zeroValue165
 t66:=underlying191
 a66:=Tryz.isAgg191
 z66:=Tryz.sizeOf191
 v66:=Tryz.zeroValue191
 t70:=underlying195
 a70:=Tryz.isAgg195
 z70:=Tryz.sizeOf195
 v70:=Tryz.zeroValue195
 t76:=underlying206
 a76:=Tryz.isAgg206
 z76:=Tryz.sizeOf206
 v76:=Tryz.zeroValue206
 t77:=underlying207
 a77:=Tryz.isAgg207
 z77:=Tryz.sizeOf207
 v77:=Tryz.zeroValue207 }
def Tryz.insW_ren:Go.Shelf.Ren:=⟨λ| 20=>281 | n=>n,λ| 24=>100 | 22=>63 | 3=>3 | 25=>114 | 4=>4 | 0=>0 | n=>n,λ| n=>n⟩
theorem Tryz.insW:Go.Proofs.SlLaysF0.n20 Tryz.prog Tryz.insW_ren:={
 mixed:=by kernel_rfl
 f20:=⟨f281.name,by decide,func281.trans (congrArg some (by kernel_rfl))⟩
 t0:=underlying0
 a0:=Tryz.isAgg0
 z0:=Tryz.sizeOf0
 v0:=Tryz.zeroValue0
 t3:=underlying3
 a3:=Tryz.isAgg3
 z3:=Tryz.sizeOf3
 v3:=Tryz.zeroValue3
 t4:=underlying4
 a4:=Tryz.isAgg4
 z4:=Tryz.sizeOf4
 v4:=Tryz.zeroValue4
 t22:=underlying63
 a22:=Tryz.isAgg63
 z22:=Tryz.sizeOf63
 v22:=Tryz.zeroValue63
 t25:=underlying114
 a25:=Tryz.isAgg114
 z25:=Tryz.sizeOf114
 v25:=Tryz.zeroValue114 }
def Tryz.lays106_ren:Go.Shelf.Ren:=⟨λ| 106=>160 | 213=>194 | 265=>226 | n=>n,λ| 9=>9 | 3=>3 | n=>n,λ| n=>n⟩
theorem Tryz.lays106:Go.Proofs.Lays.n106 Tryz.prog Tryz.lays106_ren:={
 mixed:=by kernel_rfl
 f106:=func160.trans (congrArg some (by kernel_rfl))
 f213:=func194.trans (congrArg some (by kernel_rfl))
 f265:=func226.trans (congrArg some (by kernel_rfl))
 t3:=underlying3
 a3:=Tryz.isAgg3
 z3:=Tryz.sizeOf3
 v3:=Tryz.zeroValue3
 t9:=underlying9
 a9:=Tryz.isAgg9
 z9:=Tryz.sizeOf9
 v9:=Tryz.zeroValue9 }
def Tryz.lays125_ren:Go.Shelf.Ren:=⟨λ| 125=>156 | 128=>192 | 129=>193 | n=>n,λ| 46=>135 | 3=>3 | 51=>163 | 53=>165 | 4=>4 | 5=>5 | 9=>9 | n=>n,λ| n=>n⟩
theorem Tryz.lays125:Go.Proofs.Lays.n125 Tryz.prog Tryz.lays125_ren:={
 mixed:=by kernel_rfl
 f125:=func156.trans (congrArg some (by kernel_rfl))
 f128:=func192.trans (congrArg some (by kernel_rfl))
 f129:=func193.trans (congrArg some (by kernel_rfl))
 t3:=underlying3
 a3:=Tryz.isAgg3
 z3:=Tryz.sizeOf3
 v3:=Tryz.zeroValue3
 t4:=underlying4
 a4:=Tryz.isAgg4
 z4:=Tryz.sizeOf4
 v4:=Tryz.zeroValue4
 t5:=underlying5
 a5:=Tryz.isAgg5
 z5:=Tryz.sizeOf5
 v5:=Tryz.zeroValue5
 t9:=underlying9
 a9:=Tryz.isAgg9
 z9:=Tryz.sizeOf9
 v9:=Tryz.zeroValue9
 t46:=underlying135
 a46:=Tryz.isAgg135
 z46:=Tryz.sizeOf135
 v46:=Tryz.zeroValue135
 t51:=underlying163
 a51:=Tryz.isAgg163
 z51:=Tryz.sizeOf163
 v51:=Tryz.zeroValue163
 t53:=underlying165
 a53:=Tryz.isAgg165
 z53:=Tryz.sizeOf165
 v53:=Tryz.zeroValue165 }
def Tryz.laysM173_ren:Go.Shelf.Ren:=⟨λ| 173=>227 | 246=>229 | 283=>245 | 284=>246 | 285=>247 | 286=>248 | 129=>193 | 317=>266 | 318=>267 | 319=>268 | 320=>269 | 337=>287 | 338=>288 | n=>n,λ| 2=>2 | 3=>3 | 9=>9 | 4=>4 | 171=>210 | 0=>0 | 53=>165 | 37=>171 | 5=>5 | 173=>212 | 212=>229 | 51=>163 | 20=>20 | 213=>230 | 46=>135 | 232=>249 | 233=>250 | n=>n,λ| 17=>1 | 18=>4 | 19=>5 | n=>n⟩
theorem Tryz.laysM173:Go.Proofs.LaysM.n173 Tryz.prog Tryz.laysM173_ren:={
 mixed:=by kernel_rfl
 f129:=func193.trans (congrArg some (by kernel_rfl))
 f173:=func227.trans (congrArg some (by kernel_rfl))
 f246:=func229.trans (congrArg some (by kernel_rfl))
 f283:=func245.trans (congrArg some (by kernel_rfl))
 f284:=func246.trans (congrArg some (by kernel_rfl))
 f285:=func247.trans (congrArg some (by kernel_rfl))
 f286:=func248.trans (congrArg some (by kernel_rfl))
 f317:=func266.trans (congrArg some (by kernel_rfl))
 f318:=func267.trans (congrArg some (by kernel_rfl))
 f319:=func268.trans (congrArg some (by kernel_rfl))
 f320:=func269.trans (congrArg some (by kernel_rfl))
 f337:=func287.trans (congrArg some (by kernel_rfl))
 f338:=func288.trans (congrArg some (by kernel_rfl))
 t0:=underlying0
 a0:=Tryz.isAgg0
 z0:=Tryz.sizeOf0
 v0:=Tryz.zeroValue0
 t2:=underlying2
 a2:=Tryz.isAgg2
 z2:=Tryz.sizeOf2
 v2:=Tryz.zeroValue2
 t3:=underlying3
 a3:=Tryz.isAgg3
 z3:=Tryz.sizeOf3
 v3:=Tryz.zeroValue3
 t4:=underlying4
 a4:=Tryz.isAgg4
 z4:=Tryz.sizeOf4
 v4:=Tryz.zeroValue4
 t5:=underlying5
 a5:=Tryz.isAgg5
 z5:=Tryz.sizeOf5
 v5:=Tryz.zeroValue5
 t9:=underlying9
 a9:=Tryz.isAgg9
 z9:=Tryz.sizeOf9
 v9:=Tryz.zeroValue9
 t20:=underlying20
 a20:=Tryz.isAgg20
 z20:=Tryz.sizeOf20
 v20:=Tryz.zeroValue20
 t37:=underlying171
 a37:=Tryz.isAgg171
 z37:=Tryz.sizeOf171
 v37:=Tryz.zeroValue171
 t46:=underlying135
 a46:=Tryz.isAgg135
 z46:=Tryz.sizeOf135
 v46:=Tryz.zeroValue135
 t51:=underlying163
 a51:=Tryz.isAgg163
 z51:=Tryz.sizeOf163
 v51:=Tryz.zeroValue163
 t53:=underlying165
 a53:=Tryz.isAgg165
 z53:=Tryz.sizeOf165
 v53:=Tryz.zeroValue165
 t171:=underlying210
 a171:=Tryz.isAgg210
 z171:=Tryz.sizeOf210
 v171:=Tryz.zeroValue210
 t173:=underlying212
 a173:=Tryz.isAgg212
 z173:=Tryz.sizeOf212
 v173:=Tryz.zeroValue212
 t212:=underlying229
 a212:=Tryz.isAgg229
 z212:=Tryz.sizeOf229
 v212:=Tryz.zeroValue229
 t213:=underlying230
 a213:=Tryz.isAgg230
 z213:=Tryz.sizeOf230
 t232:=underlying249
 a232:=Tryz.isAgg249
 z232:=Tryz.sizeOf249
 v232:=Tryz.zeroValue249
 t233:=underlying250
 a233:=Tryz.isAgg250
 z233:=Tryz.sizeOf250
 v233:=Tryz.zeroValue250
 g17:=by kernel_rfl
 g18:=by kernel_rfl
 g19:=by kernel_rfl
 i0:=by kernel_rfl
 i2:=by kernel_rfl
 i3:=by kernel_rfl
 i4:=by kernel_rfl
 i5:=by kernel_rfl
 i9:=by kernel_rfl
 i20:=by kernel_rfl
 i37:=by kernel_rfl
 i46:=by kernel_rfl
 i51:=by kernel_rfl
 i53:=by kernel_rfl
 i171:=by kernel_rfl
 i173:=by kernel_rfl
 i212:=by kernel_rfl
 i232:=by kernel_rfl
 i233:=by kernel_rfl
 m17:=by kernel_rfl
 m18:=by kernel_rfl
 m19:=by kernel_rfl }
def Tryz.laysM171_ren:Go.Shelf.Ren:=⟨λ| 171=>168 | 243=>200 | 246=>229 | 283=>245 | 284=>246 | 285=>247 | 286=>248 | 129=>193 | 317=>266 | 318=>267 | 319=>268 | 320=>269 | 337=>287 | 338=>288 | n=>n,λ| 3=>3 | 9=>9 | 2=>2 | 4=>4 | 171=>210 | 0=>0 | 53=>165 | 37=>171 | 5=>5 | 173=>212 | 212=>229 | 51=>163 | 20=>20 | 213=>230 | 46=>135 | 232=>249 | 233=>250 | n=>n,λ| 17=>1 | 18=>4 | 19=>5 | n=>n⟩
theorem Tryz.laysM171:Go.Proofs.LaysM.n171 Tryz.prog Tryz.laysM171_ren:={
 mixed:=by kernel_rfl
 f129:=func193.trans (congrArg some (by kernel_rfl))
 f171:=func168.trans (congrArg some (by kernel_rfl))
 f243:=func200.trans (congrArg some (by kernel_rfl))
 f246:=func229.trans (congrArg some (by kernel_rfl))
 f283:=func245.trans (congrArg some (by kernel_rfl))
 f284:=func246.trans (congrArg some (by kernel_rfl))
 f285:=func247.trans (congrArg some (by kernel_rfl))
 f286:=func248.trans (congrArg some (by kernel_rfl))
 f317:=func266.trans (congrArg some (by kernel_rfl))
 f318:=func267.trans (congrArg some (by kernel_rfl))
 f319:=func268.trans (congrArg some (by kernel_rfl))
 f320:=func269.trans (congrArg some (by kernel_rfl))
 f337:=func287.trans (congrArg some (by kernel_rfl))
 f338:=func288.trans (congrArg some (by kernel_rfl))
 t0:=underlying0
 a0:=Tryz.isAgg0
 z0:=Tryz.sizeOf0
 v0:=Tryz.zeroValue0
 t2:=underlying2
 a2:=Tryz.isAgg2
 z2:=Tryz.sizeOf2
 v2:=Tryz.zeroValue2
 t3:=underlying3
 a3:=Tryz.isAgg3
 z3:=Tryz.sizeOf3
 v3:=Tryz.zeroValue3
 t4:=underlying4
 a4:=Tryz.isAgg4
 z4:=Tryz.sizeOf4
 v4:=Tryz.zeroValue4
 t5:=underlying5
 a5:=Tryz.isAgg5
 z5:=Tryz.sizeOf5
 v5:=Tryz.zeroValue5
 t9:=underlying9
 a9:=Tryz.isAgg9
 z9:=Tryz.sizeOf9
 v9:=Tryz.zeroValue9
 t20:=underlying20
 a20:=Tryz.isAgg20
 z20:=Tryz.sizeOf20
 v20:=Tryz.zeroValue20
 t37:=underlying171
 a37:=Tryz.isAgg171
 z37:=Tryz.sizeOf171
 v37:=Tryz.zeroValue171
 t46:=underlying135
 a46:=Tryz.isAgg135
 z46:=Tryz.sizeOf135
 v46:=Tryz.zeroValue135
 t51:=underlying163
 a51:=Tryz.isAgg163
 z51:=Tryz.sizeOf163
 v51:=Tryz.zeroValue163
 t53:=underlying165
 a53:=Tryz.isAgg165
 z53:=Tryz.sizeOf165
 v53:=Tryz.zeroValue165
 t171:=underlying210
 a171:=Tryz.isAgg210
 z171:=Tryz.sizeOf210
 v171:=Tryz.zeroValue210
 t173:=underlying212
 a173:=Tryz.isAgg212
 z173:=Tryz.sizeOf212
 v173:=Tryz.zeroValue212
 t212:=underlying229
 a212:=Tryz.isAgg229
 z212:=Tryz.sizeOf229
 v212:=Tryz.zeroValue229
 t213:=underlying230
 a213:=Tryz.isAgg230
 z213:=Tryz.sizeOf230
 t232:=underlying249
 a232:=Tryz.isAgg249
 z232:=Tryz.sizeOf249
 v232:=Tryz.zeroValue249
 t233:=underlying250
 a233:=Tryz.isAgg250
 z233:=Tryz.sizeOf250
 v233:=Tryz.zeroValue250
 g17:=by kernel_rfl
 g18:=by kernel_rfl
 g19:=by kernel_rfl
 i0:=by kernel_rfl
 i2:=by kernel_rfl
 i3:=by kernel_rfl
 i4:=by kernel_rfl
 i5:=by kernel_rfl
 i9:=by kernel_rfl
 i20:=by kernel_rfl
 i37:=by kernel_rfl
 i46:=by kernel_rfl
 i51:=by kernel_rfl
 i53:=by kernel_rfl
 i171:=by kernel_rfl
 i173:=by kernel_rfl
 i212:=by kernel_rfl
 i232:=by kernel_rfl
 i233:=by kernel_rfl
 m17:=by kernel_rfl
 m18:=by kernel_rfl
 m19:=by kernel_rfl }
def Tryz.lays155_ren:Go.Shelf.Ren:=⟨λ| 155=>228 | 154=>244 | 138=>263 | 165=>201 | 143=>264 | 166=>202 | 197=>265 | 169=>203 | 195=>283 | 218=>284 | 240=>230 | 241=>231 | 219=>285 | 260=>286 | 276=>249 | 277=>250 | 217=>294 | 225=>295 | 224=>296 | 267=>297 | 266=>300 | 314=>301 | n=>n,λ| 9=>9 | 3=>3 | 4=>4 | 72=>173 | 0=>0 | 76=>177 | 105=>226 | 21=>21 | 5=>5 | 70=>170 | 20=>20 | 37=>171 | 75=>176 | 127=>199 | 164=>214 | 46=>135 | 119=>245 | 139=>248 | 138=>247 | 146=>252 | 51=>163 | 80=>179 | n=>n,λ| 1=>0 | 3=>2 | 4=>3 | n=>n⟩
theorem Tryz.lays155:Go.Proofs.Lays.n155 Tryz.prog Tryz.lays155_ren:={
 mixed:=by kernel_rfl
 f138:=func263.trans (congrArg some (by kernel_rfl))
 f143:=func264.trans (congrArg some (by kernel_rfl))
 f154:=func244.trans (congrArg some (by kernel_rfl))
 f155:=func228.trans (congrArg some (by kernel_rfl))
 f165:=func201.trans (congrArg some (by kernel_rfl))
 f166:=func202.trans (congrArg some (by kernel_rfl))
 f169:=func203.trans (congrArg some (by kernel_rfl))
 f195:=func283.trans (congrArg some (by kernel_rfl))
 f197:=func265.trans (congrArg some (by kernel_rfl))
 f217:=func294.trans (congrArg some (by kernel_rfl))
 f218:=func284.trans (congrArg some (by kernel_rfl))
 f219:=func285.trans (congrArg some (by kernel_rfl))
 f224:=func296.trans (congrArg some (by kernel_rfl))
 f225:=func295.trans (congrArg some (by kernel_rfl))
 f240:=func230.trans (congrArg some (by kernel_rfl))
 f241:=func231.trans (congrArg some (by kernel_rfl))
 f260:=func286.trans (congrArg some (by kernel_rfl))
 f266:=func300.trans (congrArg some (by kernel_rfl))
 f267:=func297.trans (congrArg some (by kernel_rfl))
 f276:=func249.trans (congrArg some (by kernel_rfl))
 f277:=func250.trans (congrArg some (by kernel_rfl))
 f314:=func301.trans (congrArg some (by kernel_rfl))
 t0:=underlying0
 a0:=Tryz.isAgg0
 z0:=Tryz.sizeOf0
 v0:=Tryz.zeroValue0
 t3:=underlying3
 a3:=Tryz.isAgg3
 z3:=Tryz.sizeOf3
 v3:=Tryz.zeroValue3
 t4:=underlying4
 a4:=Tryz.isAgg4
 z4:=Tryz.sizeOf4
 v4:=Tryz.zeroValue4
 t5:=underlying5
 a5:=Tryz.isAgg5
 z5:=Tryz.sizeOf5
 v5:=Tryz.zeroValue5
 t9:=underlying9
 a9:=Tryz.isAgg9
 z9:=Tryz.sizeOf9
 v9:=Tryz.zeroValue9
 t20:=underlying20
 a20:=Tryz.isAgg20
 z20:=Tryz.sizeOf20
 v20:=Tryz.zeroValue20
 t21:=underlying21
 a21:=Tryz.isAgg21
 z21:=Tryz.sizeOf21
 v21:=Tryz.zeroValue21
 t37:=underlying171
 a37:=Tryz.isAgg171
 z37:=Tryz.sizeOf171
 v37:=Tryz.zeroValue171
 t46:=underlying135
 a46:=Tryz.isAgg135
 z46:=Tryz.sizeOf135
 v46:=Tryz.zeroValue135
 t51:=underlying163
 a51:=Tryz.isAgg163
 z51:=Tryz.sizeOf163
 v51:=Tryz.zeroValue163
 t70:=underlying170
 a70:=Tryz.isAgg170
 z70:=Tryz.sizeOf170
 v70:=Tryz.zeroValue170
 t72:=underlying173
 a72:=Tryz.isAgg173
 z72:=Tryz.sizeOf173
 v72:=Tryz.zeroValue173
 t75:=underlying176
 a75:=Tryz.isAgg176
 z75:=Tryz.sizeOf176
 v75:=Tryz.zeroValue176
 t76:=underlying177
 a76:=Tryz.isAgg177
 z76:=Tryz.sizeOf177
 v76:=Tryz.zeroValue177
 t105:=underlying226
 a105:=Tryz.isAgg226
 z105:=Tryz.sizeOf226
 v105:=Tryz.zeroValue226
 t119:=underlying245
 a119:=Tryz.isAgg245
 z119:=Tryz.sizeOf245
 t127:=underlying199
 a127:=Tryz.isAgg199
 z127:=Tryz.sizeOf199
 v127:=Tryz.zeroValue199
 t138:=underlying247
 a138:=Tryz.isAgg247
 z138:=Tryz.sizeOf247
 v138:=Tryz.zeroValue247
 t139:=underlying248
 a139:=Tryz.isAgg248
 z139:=Tryz.sizeOf248
 v139:=Tryz.zeroValue248
 t146:=underlying252
 a146:=Tryz.isAgg252
 z146:=Tryz.sizeOf252
 v146:=Tryz.zeroValue252
 t164:=underlying214
 a164:=Tryz.isAgg214
 z164:=Tryz.sizeOf214
 v164:=Tryz.zeroValue214
 g1:=by kernel_rfl
 g3:=by kernel_rfl
 g4:=by kernel_rfl }
theorem Tryz.Builder_Extra_155:Builder.Extra Tryz.prog Tryz.lays155_ren:={
 sizeBuilder:=by kernel_rfl
 liesBuilder:=by kernel_rfl
 t5:=underlying5
 a5:=Tryz.isAgg5
 z5:=Tryz.sizeOf5
 v5:=Tryz.zeroValue5
 infoByte:=by kernel_rfl
 cellsByte:=by kernel_rfl
 sizeByte:=by kernel_rfl
 neB5:=by decide }
def Tryz.lays156_ren:Go.Shelf.Ren:=⟨λ| 156=>169 | 165=>201 | 166=>202 | 169=>203 | 240=>230 | 241=>231 | 276=>249 | 277=>250 | n=>n,λ| 31=>144 | 9=>9 | 3=>3 | 4=>4 | 0=>0 | 20=>20 | 72=>173 | 76=>177 | 70=>170 | 37=>171 | 75=>176 | 127=>199 | 164=>214 | 5=>5 | 80=>179 | n=>n,λ| n=>n⟩
theorem Tryz.lays156:Go.Proofs.Lays.n156 Tryz.prog Tryz.lays156_ren:={
 mixed:=by kernel_rfl
 f156:=func169.trans (congrArg some (by kernel_rfl))
 f165:=func201.trans (congrArg some (by kernel_rfl))
 f166:=func202.trans (congrArg some (by kernel_rfl))
 f169:=func203.trans (congrArg some (by kernel_rfl))
 f240:=func230.trans (congrArg some (by kernel_rfl))
 f241:=func231.trans (congrArg some (by kernel_rfl))
 f276:=func249.trans (congrArg some (by kernel_rfl))
 f277:=func250.trans (congrArg some (by kernel_rfl))
 t0:=underlying0
 a0:=Tryz.isAgg0
 z0:=Tryz.sizeOf0
 v0:=Tryz.zeroValue0
 t3:=underlying3
 a3:=Tryz.isAgg3
 z3:=Tryz.sizeOf3
 v3:=Tryz.zeroValue3
 t4:=underlying4
 a4:=Tryz.isAgg4
 z4:=Tryz.sizeOf4
 v4:=Tryz.zeroValue4
 t9:=underlying9
 a9:=Tryz.isAgg9
 z9:=Tryz.sizeOf9
 v9:=Tryz.zeroValue9
 t20:=underlying20
 a20:=Tryz.isAgg20
 z20:=Tryz.sizeOf20
 v20:=Tryz.zeroValue20
 t31:=underlying144
 a31:=Tryz.isAgg144
 z31:=Tryz.sizeOf144
 v31:=Tryz.zeroValue144
 t37:=underlying171
 a37:=Tryz.isAgg171
 z37:=Tryz.sizeOf171
 v37:=Tryz.zeroValue171
 t70:=underlying170
 a70:=Tryz.isAgg170
 z70:=Tryz.sizeOf170
 v70:=Tryz.zeroValue170
 t72:=underlying173
 a72:=Tryz.isAgg173
 z72:=Tryz.sizeOf173
 v72:=Tryz.zeroValue173
 t75:=underlying176
 a75:=Tryz.isAgg176
 z75:=Tryz.sizeOf176
 v75:=Tryz.zeroValue176
 t76:=underlying177
 a76:=Tryz.isAgg177
 z76:=Tryz.sizeOf177
 v76:=Tryz.zeroValue177
 t127:=underlying199
 a127:=Tryz.isAgg199
 z127:=Tryz.sizeOf199
 v127:=Tryz.zeroValue199
 t164:=underlying214
 a164:=Tryz.isAgg214
 z164:=Tryz.sizeOf214
 v164:=Tryz.zeroValue214 }
theorem Tryz.Builder_Extra_156:Builder.Extra Tryz.prog Tryz.lays156_ren:={
 sizeBuilder:=by kernel_rfl
 liesBuilder:=by kernel_rfl
 t5:=underlying5
 a5:=Tryz.isAgg5
 z5:=Tryz.sizeOf5
 v5:=Tryz.zeroValue5
 infoByte:=by kernel_rfl
 cellsByte:=by kernel_rfl
 sizeByte:=by kernel_rfl
 neB5:=by decide }
end Go.Proofs
namespace Go.Proofs.YtljlfiomikifjaaGreatDoor
open Go Go.Ab
open Go.Proofs.Tryz
def strings_Compare (s p:ByteArray):Bool×Int:=zMh s p
def zDp:Ab.Spec ty:=zh (cx:=base) (zd (ze zxY) (zd (ze zxY) zp)) λx=>((strings_Compare x.1 x.2.1).1,⟨[.pure (.lit (.int .i64 (strings_Compare x.1 x.2.1).2))],[]⟩)
theorem zRd:SdP 160 zDp:=z7H zgB Go.Proofs.Tryz.lays106 call160
end Go.Proofs.YtljlfiomikifjaaGreatDoor
namespace Go.Proofs.YtljlfiomikifjaaGreatDoor
open Go Go.Ab
open Go.Proofs.Tryz
def z2S:=zbq base 22 [(120,zkV),(121,zkY),(138,zmg),(160,zDp)]
def zNv (a:Value) (b:Value):Wy0 (Int):=.bn (zc1 a.Kind b.Kind) λr2=>.bn (ziV a.Int b.Int) λr1=>.bn (zkO [r2,r1,(strings_Compare a.Text b.Text).2]) λr0=>.k r0
def zr6 (a:Value) (b:Value):=(zNv a b).fin default
def z3c:AL base (Value×Value×Unit):=zd (ze (zcx 65)) (zd (ze (zcx 65)) zp)
def zyT:=zh z3c λx=>((zr6 x.1 x.2.1).1,zOF (zr6 x.1 x.2.1).2)
theorem zEY:SdP 125 zyT:=
 sT (cx':=z2S) (zi ⟨zma,znp,zrW,zRd,trivial⟩) call125 func125 (lOK aN)
def zF7 (zy:yC->yC->Bool×Int) (zw:yA->yA->Bool×Int) (zC:yE->yE->Bool×Int) (zG:Wd->Wd->Bool×Int):=zbq base 51 [(67,(zd9 zy)),(120,zkV),(121,zkY),(122,(zbt zw)),(123,(zbK zC)),(124,(zd8 zG)),(125,zyT)]
def zvF (zy:yC->yC->Bool×Int) (zw:yA->yA->Bool×Int) (zC:yE->yE->Bool×Int) (zG:Wd->Wd->Bool×Int) (a:At) (b:At):Wy0 (Int):=.bn (zc1 a.Kind b.Kind) λr8=>.bn (zc1 a.Row.Table b.Row.Table) λr7=>.bn (zc1 a.Row.Seq b.Row.Seq) λr6=>.bn (zw a.Ag b.Ag) λr5=>.bn (zc1 a.Func b.Func) λr4=>.bn (zC a.Items b.Items) λr3=>.bn (zc1 a.Op b.Op) λr2=>.bn (zr6 a.Bd b.Bd) λr1=>.bn (zkO [r8,r7,r6,r5,r4,r3,r2,r1]) λr0=>.k r0
def zki (zy:yC->yC->Bool×Int) (zw:yA->yA->Bool×Int) (zC:yE->yE->Bool×Int) (zG:Wd->Wd->Bool×Int) (a:At) (b:At):=(zvF zy zw zC zG a b).fin default
theorem zCR (zy:yC->yC->Bool×Int) (zw:yA->yA->Bool×Int) (zC:yE->yE->Bool×Int) (zG:Wd->Wd->Bool×Int) (zjl:SdP 67 (zd9 zy)) (zfM:SdP 122 (zbt zw)) (zgT:SdP 123 (zbK zC)) (zmK:SdP 124 (zd8 zG)):SdP 65 (zg5 (zki zy zw zC zG)):=
 sT (cx':=(zF7 zy zw zC zG)) (zi ⟨zjl,zma,znp,zfM,zgT,zmK,zEY,trivial⟩) call65 func65 (lOK aN)
def zDM (zcV:At->At->Bool×Int):=zbq base 17 [(65,(zg5 zcV)),(120,zkV),(121,zkY)]
def ztQ (zcV:At->At->Bool×Int) (a:Fc) (b:Fc):Wy0 (Int):=.bn (zcV (At.mk a.At.Kind a.At.Row a.At.Ag a.At.Func a.At.Items a.At.Op a.At.Bd) (At.mk b.At.Kind b.At.Row b.At.Ag b.At.Func b.At.Items b.At.Op b.At.Bd)) λr2=>.bn (zc1 a.Exp b.Exp) λr1=>.bn (zkO [r2,r1]) λr0=>.k r0
def zi9 (zcV:At->At->Bool×Int) (a:Fc) (b:Fc):=(ztQ zcV a b).fin default
theorem zBl (zcV:At->At->Bool×Int) (zGJ:SdP 65 (zg5 zcV)):SdP 119 (zeq (zi9 zcV)):=
 sT (cx':=(zDM zcV)) (zi ⟨zGJ,zma,znp,trivial⟩) call119 func119 (lOK aN)
def zFm (zy:yC->yC->Bool×Int):=zbq base 17 [(67,(zd9 zy)),(120,zkV),(125,zyT)]
def zvI (zy:yC->yC->Bool×Int) (a:Wd) (b:Wd):Wy0 (Int):=.bn (zr6 a.Value b.Value) λr2=>.bn (zy a.Ann b.Ann) λr1=>.bn (zkO [r2,r1]) λr0=>.k r0
def zkb (zy:yC->yC->Bool×Int) (a:Wd) (b:Wd):=(zvI zy a b).fin default
theorem zCS (zy:yC->yC->Bool×Int) (zjl:SdP 67 (zd9 zy)):SdP 124 (zd8 (zkb zy)):=
 sT (cx':=(zFm zy)) (zi ⟨zjl,zma,zEY,trivial⟩) call124 func124 (lOK aN)
def zE9 (zN:yD->yD->Bool×Int) (zx:Fc->Fc->Bool×Int):=zbq base 10 [(118,(zbX zN)),(119,(zeq zx))]
def zvW (zN:yD->yD->Bool×Int) (zx:Fc->Fc->Bool×Int) (a:Term) (b:Term):Wy0 (Int):=.bn (zN a.Fs b.Fs) λr0=>.k r0
def zka (zN:yD->yD->Bool×Int) (zx:Fc->Fc->Bool×Int) (a:Term) (b:Term):=(zvW zN zx a b).fin default
theorem zCV (zN:yD->yD->Bool×Int) (zx:Fc->Fc->Bool×Int) (ziY:SdP 118 (zbX zN)) (zlt:SdP 119 (zeq zx)):SdP 63 (zf4 (zka zN zx)):=
 sT (cx':=(zE9 zN zx)) (zi ⟨ziY,zlt,trivial⟩) call63 func63 (lOK aN)
abbrev zbG:=yA×yA×Unit×yA×Int×Int×Unit
abbrev zdt:=Int⊕(yA×yA)
def zfs (zy:yC->yC->Bool×Int) (s1:yA) (s2:yA) (t11:yA) (t12:Int) (t13:Int):Wy zbG Unit zdt:=.i (decide (t13<t12)) (.i (decide (0<=t13)&&decide (t13<Int.ofNat t11.length)) (.i (decide (t13≥Int.ofNat s2.length)) (.k (.inl 1)) (.i (decide (0<=t13)&&decide (t13<Int.ofNat s2.length)) (.bn (zy (t11.getD t13.toNat default) (s2.getD t13.toNat default)) λr0=>.i (r0 != 0) (.k (.inl (r0))) (.h (s1,s2,(),t11,t12,(IntKind.i64.wrap (t13+1)),()) ())) .d)) .d) (.k (.inr (s1,s2)))
def zcK (zy:yC->yC->Bool×Int) (x:zbG) (y:Unit):=zfs zy x.1 x.2.1 x.2.2.2.1 x.2.2.2.2.1 x.2.2.2.2.2.1
def zft (zy:yC->yC->Bool×Int) (n:Nat) (s1:yA) (s2:yA) (t11:yA) (t12:Int) (t13:Int):=zH (zcK zy) (.inl default) n (s1,s2,(),t11,t12,t13,()) ()
def zfj (r:zdt):LTree ty:=.ite (isL r) (.done .ret [.lit (.int .i64 (getL r))] []) (.done (.exit 0) [.sl 23 (getR r).1,.sl 23 (getR r).2] [])
def zfv:LL ty zbG:=za (lSl 23) (za (lSl 23) (za (lFn 67 (zm)) (za (lSl 23) (za zj (za zj zm)))))
def zfl (x:zbG) (y:Unit):Nat:=(x.1.length+x.2.1.length+x.2.2.2.1.length+Int.toNat x.2.2.2.2.1+Int.toNat x.2.2.2.2.2.1+1)
def zcJ (zy:yC->yC->Bool×Int):=zbZ base 39 [(67,(zd9 zy))] [] [(2,(kpL [0,1,2,11,12,13]))] [(2,1,(kpL [0,1])),(2,0,(kpL [6]))] [(2,spW zfv z8a (zcK zy) (.inl default) zfj zfl)] []
theorem zfk (zy:yC->yC->Bool×Int):zD (zcJ zy) (lp (body f122) 0):=zq (id:=2) (hl:=rfl)
def zfE (zy:yC->yC->Bool×Int) (s1:yA) (s2:yA):Wy0 (Int):=.bn (zft zy (s1.length+s2.length+s1.length+(Int.ofNat s1.length).toNat +Int.toNat 0+1) s1 s2 s1 (Int.ofNat s1.length) 0) λr2=>.i (isL r2) (.k (getL r2)) (.i (decide (Int.ofNat (getR r2).1.length<Int.ofNat (getR r2).2.length)) (.k (-1:Int)) (.k 0))
def zbs (zy:yC->yC->Bool×Int) (s1:yA) (s2:yA):=(zfE zy s1 s2).fin default
theorem ze1 (zy:yC->yC->Bool×Int) (zjl:SdP 67 (zd9 zy)):SdP 122 (zbt (zbs zy)):=
 sT (cx':=(zcJ zy)) (zi ⟨zjl,trivial⟩) call122 func122 (lOK (aC (zfk zy) aN))
abbrev zcb:=yD×yD×Unit×yD×Int×Int×Unit
abbrev zeS:=Int⊕(yD×yD)
def zdY (zx:Fc->Fc->Bool×Int) (s1:yD) (s2:yD) (t11:yD) (t12:Int) (t13:Int):Wy zcb Unit zeS:=.i (decide (t13<t12)) (.i (decide (0<=t13)&&decide (t13<Int.ofNat t11.length)) (.i (decide (t13≥Int.ofNat s2.length)) (.k (.inl 1)) (.i (decide (0<=t13)&&decide (t13<Int.ofNat s2.length)) (.bn (zx (FO.mk (At.mk (t11.getD t13.toNat default).At.Kind (t11.getD t13.toNat default).At.Row (t11.getD t13.toNat default).At.Ag (t11.getD t13.toNat default).At.Func (t11.getD t13.toNat default).At.Items (t11.getD t13.toNat default).At.Op (t11.getD t13.toNat default).At.Bd) (t11.getD t13.toNat default).Exp) (FO.mk (At.mk (s2.getD t13.toNat default).At.Kind (s2.getD t13.toNat default).At.Row (s2.getD t13.toNat default).At.Ag (s2.getD t13.toNat default).At.Func (s2.getD t13.toNat default).At.Items (s2.getD t13.toNat default).At.Op (s2.getD t13.toNat default).At.Bd) (s2.getD t13.toNat default).Exp)) λr0=>.i (r0 != 0) (.k (.inl (r0))) (.h (s1,s2,(),t11,t12,(IntKind.i64.wrap (t13+1)),()) ())) .d)) .d) (.k (.inr (s1,s2)))
def zbP (zx:Fc->Fc->Bool×Int) (x:zcb) (y:Unit):=zdY zx x.1 x.2.1 x.2.2.2.1 x.2.2.2.2.1 x.2.2.2.2.2.1
def zdZ (zx:Fc->Fc->Bool×Int) (n:Nat) (s1:yD) (s2:yD) (t11:yD) (t12:Int) (t13:Int):=zH (zbP zx) (.inl default) n (s1,s2,(),t11,t12,t13,()) ()
def ziv (r:zeS):LTree ty:=.ite (isL r) (.done .ret [.lit (.int .i64 (getL r))] []) (.done (.exit 0) [.sl 69 (getR r).1,.sl 69 (getR r).2] [])
def ziD:LL ty zcb:=za (lSl 69) (za (lSl 69) (za (lFn 119 (zm)) (za (lSl 69) (za zj (za zj zm)))))
def zif (x:zcb) (y:Unit):Nat:=(x.1.length+x.2.1.length+x.2.2.2.1.length+Int.toNat x.2.2.2.2.1+Int.toNat x.2.2.2.2.2.1+1)
def zdX (zx:Fc->Fc->Bool×Int):=zbZ base 39 [(119,(zeq zx))] [] [(2,(kpL [0,1,2,11,12,13]))] [(2,1,(kpL [0,1])),(2,0,(kpL [6]))] [(2,spW ziD z8a (zbP zx) (.inl default) ziv zif)] []
theorem zit (zx:Fc->Fc->Bool×Int):zD (zdX zx) (lp (body f118) 0):=zq (id:=2) (hl:=rfl)
def zd4 (zx:Fc->Fc->Bool×Int) (s1:yD) (s2:yD):Wy0 (Int):=.bn (zdZ zx (s1.length+s2.length+s1.length+(Int.ofNat s1.length).toNat +Int.toNat 0+1) s1 s2 s1 (Int.ofNat s1.length) 0) λr2=>.i (isL r2) (.k (getL r2)) (.i (decide (Int.ofNat (getR r2).1.length<Int.ofNat (getR r2).2.length)) (.k (-1:Int)) (.k 0))
def zby (zx:Fc->Fc->Bool×Int) (s1:yD) (s2:yD):=(zd4 zx s1 s2).fin default
theorem zhT (zx:Fc->Fc->Bool×Int) (zlt:SdP 119 (zeq zx)):SdP 118 (zbX (zby zx)):=
 sT (cx':=(zdX zx)) (zi ⟨zlt,trivial⟩) call118 func118 (lOK (aC (zit zx) aN))
abbrev zbV:=yE×yE×Unit×yE×Int×Int×Unit
abbrev zd6:=Int⊕(yE×yE)
def zgy (zG:Wd->Wd->Bool×Int) (s1:yE) (s2:yE) (t11:yE) (t12:Int) (t13:Int):Wy zbV Unit zd6:=.i (decide (t13<t12)) (.i (decide (0<=t13)&&decide (t13<Int.ofNat t11.length)) (.i (decide (t13≥Int.ofNat s2.length)) (.k (.inl 1)) (.i (decide (0<=t13)&&decide (t13<Int.ofNat s2.length)) (.bn (zG (t11.getD t13.toNat default) (s2.getD t13.toNat default)) λr0=>.i (r0 != 0) (.k (.inl (r0))) (.h (s1,s2,(),t11,t12,(IntKind.i64.wrap (t13+1)),()) ())) .d)) .d) (.k (.inr (s1,s2)))
def zdj (zG:Wd->Wd->Bool×Int) (x:zbV) (y:Unit):=zgy zG x.1 x.2.1 x.2.2.2.1 x.2.2.2.2.1 x.2.2.2.2.2.1
def zgE (zG:Wd->Wd->Bool×Int) (n:Nat) (s1:yE) (s2:yE) (t11:yE) (t12:Int) (t13:Int):=zH (zdj zG) (.inl default) n (s1,s2,(),t11,t12,t13,()) ()
def zgq (r:zd6):LTree ty:=.ite (isL r) (.done .ret [.lit (.int .i64 (getL r))] []) (.done (.exit 0) [.sl 100 (getR r).1,.sl 100 (getR r).2] [])
def zgu:LL ty zbV:=za (lSl 100) (za (lSl 100) (za (lFn 124 (zm)) (za (lSl 100) (za zj (za zj zm)))))
def zgp (x:zbV) (y:Unit):Nat:=(x.1.length+x.2.1.length+x.2.2.2.1.length+Int.toNat x.2.2.2.2.1+Int.toNat x.2.2.2.2.2.1+1)
def zdh (zG:Wd->Wd->Bool×Int):=zbZ base 39 [(124,(zd8 zG))] [] [(2,(kpL [0,1,2,11,12,13]))] [(2,1,(kpL [0,1])),(2,0,(kpL [6]))] [(2,spW zgu z8a (zdj zG) (.inl default) zgq zgp)] []
theorem zgn (zG:Wd->Wd->Bool×Int):zD (zdh zG) (lp (body f123) 0):=zq (id:=2) (hl:=rfl)
def zgS (zG:Wd->Wd->Bool×Int) (s1:yE) (s2:yE):Wy0 (Int):=.bn (zgE zG (s1.length+s2.length+s1.length+(Int.ofNat s1.length).toNat +Int.toNat 0+1) s1 s2 s1 (Int.ofNat s1.length) 0) λr2=>.i (isL r2) (.k (getL r2)) (.i (decide (Int.ofNat (getR r2).1.length<Int.ofNat (getR r2).2.length)) (.k (-1:Int)) (.k 0))
def zbI (zG:Wd->Wd->Bool×Int) (s1:yE) (s2:yE):=(zgS zG s1 s2).fin default
theorem zgj (zG:Wd->Wd->Bool×Int) (zmK:SdP 124 (zd8 zG)):SdP 123 (zbK (zbI zG)):=
 sT (cx':=(zdh zG)) (zi ⟨zmK,trivial⟩) call123 func123 (lOK (aC (zgn zG) aN))
abbrev zb6:=yC×yC×Unit×yC×Int×Int×Unit
abbrev zeB:=Int⊕(yC×yC)
def zh1 (zL:Term->Term->Bool×Int) (s1:yC) (s2:yC) (t11:yC) (t12:Int) (t13:Int):Wy zb6 Unit zeB:=.i (decide (t13<t12)) (.i (decide (0<=t13)&&decide (t13<Int.ofNat t11.length)) (.i (decide (t13≥Int.ofNat s2.length)) (.k (.inl 1)) (.i (decide (0<=t13)&&decide (t13<Int.ofNat s2.length)) (.bn (zL (t11.getD t13.toNat default) (s2.getD t13.toNat default)) λr0=>.i (r0 != 0) (.k (.inl (r0))) (.h (s1,s2,(),t11,t12,(IntKind.i64.wrap (t13+1)),()) ())) .d)) .d) (.k (.inr (s1,s2)))
def zdQ (zL:Term->Term->Bool×Int) (x:zb6) (y:Unit):=zh1 zL x.1 x.2.1 x.2.2.2.1 x.2.2.2.2.1 x.2.2.2.2.2.1
def zhZ (zL:Term->Term->Bool×Int) (n:Nat) (s1:yC) (s2:yC) (t11:yC) (t12:Int) (t13:Int):=zH (zdQ zL) (.inl default) n (s1,s2,(),t11,t12,t13,()) ()
def zhv (r:zeB):LTree ty:=.ite (isL r) (.done .ret [.lit (.int .i64 (getL r))] []) (.done (.exit 0) [.sl 28 (getR r).1,.sl 28 (getR r).2] [])
def zh0:LL ty zb6:=za (lSl 28) (za (lSl 28) (za (lFn 137 (zm)) (za (lSl 28) (za zj (za zj zm)))))
def zhz (x:zb6) (y:Unit):Nat:=(x.1.length+x.2.1.length+x.2.2.2.1.length+Int.toNat x.2.2.2.2.1+Int.toNat x.2.2.2.2.2.1+1)
def zdP (zL:Term->Term->Bool×Int):=zbZ base 39 [(137,(zf4 zL))] [] [(2,(kpL [0,1,2,11,12,13]))] [(2,1,(kpL [0,1])),(2,0,(kpL [6]))] [(2,spW zh0 z8a (zdQ zL) (.inl default) zhv zhz)] []
theorem zhQ (zL:Term->Term->Bool×Int):zD (zdP zL) (lp (body f136) 0):=zq (id:=2) (hl:=rfl)
def zik (zL:Term->Term->Bool×Int) (s1:yC) (s2:yC):Wy0 (Int):=.bn (zhZ zL (s1.length+s2.length+s1.length+(Int.ofNat s1.length).toNat +Int.toNat 0+1) s1 s2 s1 (Int.ofNat s1.length) 0) λr2=>.i (isL r2) (.k (getL r2)) (.i (decide (Int.ofNat (getR r2).1.length<Int.ofNat (getR r2).2.length)) (.k (-1:Int)) (.k 0))
def zbS (zL:Term->Term->Bool×Int) (s1:yC) (s2:yC):=(zik zL s1 s2).fin default
theorem zg9 (zL:Term->Term->Bool×Int) (zo1:SdP 137 (zf4 zL)):SdP 136 (zbQ (zbS zL)):=
 sT (cx':=(zdP zL)) (zi ⟨zo1,trivial⟩) call136 func136 (lOK (aC (zhQ zL) aN))
def zce:Nat->(yC->yC->Bool×Int)×(Term->Term->Bool×Int)×(Term->Term->Bool×Int)×(Fc->Fc->Bool×Int)×(At->At->Bool×Int)×(Wd->Wd->Bool×Int)×(yC->yC->Bool×Int)×(yD->yD->Bool×Int)×(yA->yA->Bool×Int)×(yE->yE->Bool×Int)
 | 0=>(λ_ _=>(false,default),λ_ _=>(false,default),λ_ _=>(false,default),λ_ _=>(false,default),λ_ _=>(false,default),λ_ _=>(false,default),λ_ _=>(false,default),λ_ _=>(false,default),λ_ _=>(false,default),λ_ _=>(false,default))
 | n+1=>(zoA ((zce n).2.2.2.2.2.2.1) ((zce n).2.1),zlz ((zce n).2.2.1),zka ((zce n).2.2.2.2.2.2.2.1) ((zce n).2.2.2.1),zi9 ((zce n).2.2.2.2.1),zki ((zce n).1) ((zce n).2.2.2.2.2.2.2.2.1) ((zce n).2.2.2.2.2.2.2.2.2) ((zce n).2.2.2.2.2.1),zkb ((zce n).1),zbS ((zce n).2.1),zby ((zce n).2.2.2.1),zbs ((zce n).1),zbI ((zce n).2.2.2.2.2.1))
def zgi (n:Nat):yC->yC->Bool×Int:=(zce n).1
def ziA (n:Nat):Term->Term->Bool×Int:=(zce n).2.1
def zgZ (n:Nat):Term->Term->Bool×Int:=(zce n).2.2.1
def zf0 (n:Nat):Fc->Fc->Bool×Int:=(zce n).2.2.2.1
def zg0 (n:Nat):At->At->Bool×Int:=(zce n).2.2.2.2.1
def ze7 (n:Nat):Wd->Wd->Bool×Int:=(zce n).2.2.2.2.2.1
def zbR (n:Nat):yC->yC->Bool×Int:=(zce n).2.2.2.2.2.2.1
def zbW (n:Nat):yD->yD->Bool×Int:=(zce n).2.2.2.2.2.2.2.1
def zbu (n:Nat):yA->yA->Bool×Int:=(zce n).2.2.2.2.2.2.2.2.1
def zbJ (n:Nat):yE->yE->Bool×Int:=(zce n).2.2.2.2.2.2.2.2.2
theorem zMx (n:Nat):zgi (n+1)=zoA (zbR n) (ziA n):=rfl
theorem zIM (n:Nat):ziA (n+1)=zlz (zgZ n):=rfl
theorem zF4 (n:Nat):zgZ (n+1)=zka (zbW n) (zf0 n):=rfl
theorem zDI (n:Nat):zf0 (n+1)=zi9 (zg0 n):=rfl
theorem zGc (n:Nat):zg0 (n+1)=zki (zgi n) (zbu n) (zbJ n) (ze7 n):=rfl
theorem zFQ (n:Nat):ze7 (n+1)=zkb (zgi n):=rfl
theorem zhY (n:Nat):zbR (n+1)=zbS (ziA n):=rfl
theorem ziy (n:Nat):zbW (n+1)=zby (zf0 n):=rfl
theorem zfr (n:Nat):zbu (n+1)=zbs (zgi n):=rfl
theorem zgx (n:Nat):zbJ (n+1)=zbI (ze7 n):=rfl
theorem zxy:∀ n,SdP 67 (zd9 (zgi n))/\SdP 137 (zf4 (ziA n))/\SdP 63 (zf4 (zgZ n))/\SdP 119 (zeq (zf0 n))/\SdP 65 (zg5 (zg0 n))/\SdP 124 (zd8 (ze7 n))/\SdP 136 (zbQ (zbR n))/\SdP 118 (zbX (zbW n))/\SdP 122 (zbt (zbu n))/\SdP 123 (zbK (zbJ n))
 | 0=>⟨zba call67 (λ_=>rfl),zba call137 (λ_=>rfl),zba call63 (λ_=>rfl),zba call119 (λ_=>rfl),zba call65 (λ_=>rfl),zba call124 (λ_=>rfl),zba call136 (λ_=>rfl),zba call118 (λ_=>rfl),zba call122 (λ_=>rfl),zba call123 (λ_=>rfl)⟩
 | n+1=>by
  have ih:=zxy n;exact ⟨zIq _ _ (ih.2.2.2.2.2.2.1) (ih.2.1),zEx _ (ih.2.2.1),zCV _ _ (ih.2.2.2.2.2.2.2.1) (ih.2.2.2.1),zBl _ (ih.2.2.2.2.1),zCR _ _ _ _ (ih.1) (ih.2.2.2.2.2.2.2.2.1) (ih.2.2.2.2.2.2.2.2.2) (ih.2.2.2.2.2.1),zCS _ (ih.1),zg9 _ (ih.2.1),zhT _ (ih.2.2.2.1),ze1 _ (ih.1),zgj _ (ih.2.2.2.2.2.1)⟩
def zzz:yC->yC->Bool×Int:=zgi 1000
def zAe:Ab.Spec ty:=zd9 zzz
theorem zLE:SdP 67 zAe:=(zxy 1000).1
def zcl:Term->Term->Bool×Int:=zgZ 1000
def zin:Ab.Spec ty:=zf4 zcl
theorem zlr:SdP 63 zin:=(zxy 1000).2.2.1
def ziI:At->At->Bool×Int:=zg0 1000
def zlY:Ab.Spec ty:=zg5 ziI
theorem ztS:SdP 65 zlY:=(zxy 1000).2.2.2.2.1
def zbA:Wd->Wd->Bool×Int:=ze7 1000
def zfG:Ab.Spec ty:=zd8 zbA
theorem zht:SdP 124 zfG:=(zxy 1000).2.2.2.2.2.1
def zWH:AL base (yC×Unit):=zd (ze (vSl 28)) zp
def zhO (F:yC->Bool×Bool):Ab.Spec ty:=zh zWH λx=>((F x.1).1,zVf (F x.1).2)
def zBm:AL base (At×Unit):=zd (ze (zcx 67)) zp
def zmh (F:At->Bool×Bool):Ab.Spec ty:=zh zBm λx=>((F x.1).1,zVf (F x.1).2)
def zKa:AL base (Wd×Unit):=zd (ze (zcx 100)) zp
def zdq (F:Wd->Bool×Bool):Ab.Spec ty:=zh zKa λx=>((F x.1).1,zVf (F x.1).2)
def znN:AL base (yA×Unit×Unit):=zd (ze (vSl 23)) (zd (ze (vFn 127 zbT)) zp)
def zcF (F:yA->Bool×Int):Ab.Spec ty:=zh znN λx=>((F x.1).1,zOF (F x.1).2)
def zcr (F:yA->Bool×Bool):Ab.Spec ty:=zh znN λx=>((F x.1).1,zVf (F x.1).2)
def zqw:AL base (yE×Unit×Unit):=zd (ze (vSl 100)) (zd (ze (vFn 133 zbT)) zp)
def zc4 (F:yE->Bool×Int):Ab.Spec ty:=zh zqw λx=>((F x.1).1,zOF (F x.1).2)
def zcI (F:yE->Bool×Bool):Ab.Spec ty:=zh zqw λx=>((F x.1).1,zVf (F x.1).2)
def zLy:=zbq base 11 []
def zAr (x_:At):Wy0 (Bool):=.i (x_.Kind==3) (.k true) (.k (x_.Kind==4))
def zfK (x_:At):=(zAr x_).fin default
def zjz:=zh zBm λx=>((zfK x.1).1,zVf (zfK x.1).2)
theorem zmD:SdP 64 zjz:=
 sT (cx':=zLy) (zi trivial) call64 func64 (lOK aN)
def zn2 (F:yC->Bool×Int):Ab.Spec ty:=zh zWH λx=>((F x.1).1,zOF (F x.1).2)
end Go.Proofs.YtljlfiomikifjaaGreatDoor
end
