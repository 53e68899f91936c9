/- Texts of this claim, joined (the program, its functions in plain words, and what they compute). -/
import Derived.KernelRfl
import Derived.Test.YtljlfiomikifjaaGreatDoorChecked
import Derived.Test.YtljlfiomikifjaaGreatDoorProg
import Derived.Test.YtljlfiomikifjaaGreatDoorGB1
set_option autoImplicit false
set_option linter.unusedVariables false
set_option linter.unusedSectionVars false
set_option linter.unusedSimpArgs false
set_option maxRecDepth 1000000
set_option maxHeartbeats 0
/- The types of the program, as plain data. -/
noncomputable section
namespace Go.Proofs.YtljlfiomikifjaaGreatDoor
open Go Go.Ab
open Go.Proofs Go.Shelf
open Go.Proofs.Tryz
structure RowID where
 Table:Int
 Seq:Int
 deriving DecidableEq,Inhabited
structure Value where
 Kind:Int
 Int:Int
 Text:ByteArray
 deriving DecidableEq,Inhabited
structure FO (A:Type) where
 At:A
 Exp:Int
structure TO (A:Type) where
 Cf:Int
 Fs:List (FO A)
structure WO (A:Type) where
 Value:Value
 Ann:List (TO A)
structure At where
 Kind:Int
 Row:RowID
 Ag:List (List (TO At))
 Func:Int
 Items:List (WO At)
 Op:Int
 Bd:Value
abbrev Fc:=FO At
abbrev Term:=TO At
abbrev Wd:=WO At
instance:Inhabited At:=⟨⟨0,default,[],0,[],0,default⟩⟩
instance:Inhabited Fc:=⟨⟨default,0⟩⟩
instance:Inhabited Term:=⟨⟨0,[]⟩⟩
instance:Inhabited Wd:=⟨⟨default,[]⟩⟩
theorem At.eta (x:At):(⟨x.Kind,x.Row,x.Ag,x.Func,x.Items,x.Op,x.Bd⟩:At)=x:=by cases x; rfl
mutual
def zba7:(x y:At)→Decidable (x=y)
 | ⟨k,r,a,f,i,o,b⟩,⟨k',r',a',f',i',o',b'⟩=>
  match decEq k k',decEq r r',zbbK a a',decEq f f',z8T i i',decEq o o',decEq b b' with
  | .isTrue h1,.isTrue h2,.isTrue h3,.isTrue h4,.isTrue h5,.isTrue h6,.isTrue h7=>.isTrue (by subst h1 h2 h3 h4 h5 h6 h7; rfl)
  | .isFalse h,_,_,_,_,_,_=>.isFalse (fun e=>by cases e; exact h rfl)
  | _,.isFalse h,_,_,_,_,_=>.isFalse (fun e=>by cases e; exact h rfl)
  | _,_,.isFalse h,_,_,_,_=>.isFalse (fun e=>by cases e; exact h rfl)
  | _,_,_,.isFalse h,_,_,_=>.isFalse (fun e=>by cases e; exact h rfl)
  | _,_,_,_,.isFalse h,_,_=>.isFalse (fun e=>by cases e; exact h rfl)
  | _,_,_,_,_,.isFalse h,_=>.isFalse (fun e=>by cases e; exact h rfl)
  | _,_,_,_,_,_,.isFalse h=>.isFalse (fun e=>by cases e; exact h rfl)
def z6J:(x y:Fc)→Decidable (x=y)
 | ⟨a,e⟩,⟨a',e'⟩=>match zba7 a a',decEq e e' with
  | .isTrue h1,.isTrue h2=>.isTrue (by subst h1 h2; rfl)
  | .isFalse h,_=>.isFalse (fun e=>by cases e; exact h rfl)
  | _,.isFalse h=>.isFalse (fun e=>by cases e; exact h rfl)
def z4S:(x y:List Fc)→Decidable (x=y)
 | [],[]=>.isTrue rfl
 | [],_::_=>.isFalse (by simp)
 | _::_,[]=>.isFalse (by simp)
 | x::r,y::s=>match z6J x y,z4S r s with
  | .isTrue h1,.isTrue h2=>.isTrue (by subst h1 h2; rfl)
  | .isFalse h,_=>.isFalse (fun e=>by cases e; exact h rfl)
  | _,.isFalse h=>.isFalse (fun e=>by cases e; exact h rfl)
def zba4:(x y:Term)→Decidable (x=y)
 | ⟨a,e⟩,⟨a',e'⟩=>match decEq a a',z4S e e' with
  | .isTrue h1,.isTrue h2=>.isTrue (by subst h1 h2; rfl)
  | .isFalse h,_=>.isFalse (fun e=>by cases e; exact h rfl)
  | _,.isFalse h=>.isFalse (fun e=>by cases e; exact h rfl)
def z8B:(x y:List Term)→Decidable (x=y)
 | [],[]=>.isTrue rfl
 | [],_::_=>.isFalse (by simp)
 | _::_,[]=>.isFalse (by simp)
 | x::r,y::s=>match zba4 x y,z8B r s with
  | .isTrue h1,.isTrue h2=>.isTrue (by subst h1 h2; rfl)
  | .isFalse h,_=>.isFalse (fun e=>by cases e; exact h rfl)
  | _,.isFalse h=>.isFalse (fun e=>by cases e; exact h rfl)
def zbbK:(x y:List (List Term))→Decidable (x=y)
 | [],[]=>.isTrue rfl
 | [],_::_=>.isFalse (by simp)
 | _::_,[]=>.isFalse (by simp)
 | x::r,y::s=>match z8B x y,zbbK r s with
  | .isTrue h1,.isTrue h2=>.isTrue (by subst h1 h2; rfl)
  | .isFalse h,_=>.isFalse (fun e=>by cases e; exact h rfl)
  | _,.isFalse h=>.isFalse (fun e=>by cases e; exact h rfl)
def zbbu:(x y:Wd)→Decidable (x=y)
 | ⟨a,e⟩,⟨a',e'⟩=>match decEq a a',z8B e e' with
  | .isTrue h1,.isTrue h2=>.isTrue (by subst h1 h2; rfl)
  | .isFalse h,_=>.isFalse (fun e=>by cases e; exact h rfl)
  | _,.isFalse h=>.isFalse (fun e=>by cases e; exact h rfl)
def z8T:(x y:List Wd)→Decidable (x=y)
 | [],[]=>.isTrue rfl
 | [],_::_=>.isFalse (by simp)
 | _::_,[]=>.isFalse (by simp)
 | x::r,y::s=>match zbbu x y,z8T r s with
  | .isTrue h1,.isTrue h2=>.isTrue (by subst h1 h2; rfl)
  | .isFalse h,_=>.isFalse (fun e=>by cases e; exact h rfl)
  | _,.isFalse h=>.isFalse (fun e=>by cases e; exact h rfl)
end
instance:DecidableEq At:=zba7
instance:DecidableEq Fc:=z6J
instance:DecidableEq Term:=zba4
instance:DecidableEq Wd:=zbbu
structure Bg where
 Row:RowID
 To:List Term
 deriving DecidableEq,Inhabited
abbrev yA:=List (List Term)
abbrev yB:=List (List RowID)
abbrev yC:=List Term
abbrev yD:=List Fc
abbrev yE:=List Wd
abbrev yF:=List RowID
abbrev yG:=List Bg
abbrev yH:=List Value
def ty:Nat→Type
 | 2=>Int
 | 3=>Int
 | 4=>Bool
 | 5=>Int
 | 9=>ByteArray
 | 22=>yC
 | 23=>yC
 | 26=>yD
 | 28=>Term
 | 35=>Int
 | 39=>yB
 | 43=>yF
 | 47=>yG
 | 49=>RowID
 | 51=>Bg
 | 60=>yA
 | 63=>yE
 | 65=>Value
 | 67=>At
 | 69=>Fc
 | 100=>Wd
 | 121=>Unit
 | 135=>Int
 | 138=>List Int
 | 144=>List ByteArray
 | 189=>List (yD)
 | _=>Unit
instance:(T:Nat)→Inhabited (ty T):=fun T=>by
 unfold ty;split <;>infer_instance
def zbey:DT ty RowID:=zTG (fun x=>⟨x.1,x.2⟩) (fun x=>(x.Table,x.Seq)) (fun _=>rfl) (zv4 (zzo .i64) (zzo .i64))
def zbeA:DT ty Value:=zTG (fun x=>⟨x.1,x.2.1,x.2.2⟩) (fun x=>(x.Kind,x.Int,x.Text)) (fun _=>rfl) (zv4 (zzo .i64) (zv4 (zzo .i64) (zbfA)))
def zbgU:DT ty At:=zTG (fun x=>⟨x.1,x.2.1,x.2.2.1,x.2.2.2.1,x.2.2.2.2.1,x.2.2.2.2.2.1,x.2.2.2.2.2.2⟩) (fun x=>(x.Kind,x.Row,x.Ag,x.Func,x.Items,x.Op,x.Bd)) (fun _=>rfl) (zv4 (zzo .i64) (zv4 (zbey) (zv4 (zBR 23) (zv4 (zzo .i64) (zv4 (zBR 100) (zv4 (zzo .i64) (zbeA)))))))
def zbiP:DT ty Fc:=zTG (fun x=>⟨x.1,x.2⟩) (fun x=>(x.At,x.Exp)) (fun _=>rfl) (zv4 (zbgU) (zzo .i64))
def zbiz:DT ty Term:=zTG (fun x=>⟨x.1,x.2⟩) (fun x=>(x.Cf,x.Fs)) (fun _=>rfl) (zv4 (zzo .i64) (zBR 69))
def zbii:DT ty Wd:=zTG (fun x=>⟨x.1,x.2⟩) (fun x=>(x.Value,x.Ann)) (fun _=>rfl) (zv4 (zbeA) (zBR 28))
def zbix:DT ty Bg:=zTG (fun x=>⟨x.1,x.2⟩) (fun x=>(x.Row,x.To)) (fun _=>rfl) (zv4 (zbey) (zBR 28))
def z4k:List ((T:Nat)×DT ty (ty T)):=[⟨2,(zzo .i64:DT ty Int)⟩,⟨3,(zzo .i64:DT ty Int)⟩,⟨4,(zbgV:DT ty Bool)⟩,⟨5,(zzo .u8:DT ty Int)⟩,⟨9,(zbfA:DT ty ByteArray)⟩,⟨22,(zBR 28:DT ty (yC))⟩,⟨23,(zBR 28:DT ty (yC))⟩,⟨26,(zBR 69:DT ty (yD))⟩,⟨28,(zbiz:DT ty Term)⟩,⟨35,(zzo .i64:DT ty Int)⟩,⟨39,(zBR 43:DT ty (yB))⟩,⟨43,(zBR 49:DT ty (yF))⟩,⟨47,(zBR 51:DT ty (yG))⟩,⟨49,(zbey:DT ty RowID)⟩,⟨51,(zbix:DT ty Bg)⟩,⟨60,(zBR 23:DT ty (yA))⟩,⟨63,(zBR 100:DT ty (yE))⟩,⟨65,(zbeA:DT ty Value)⟩,⟨67,(zbgU:DT ty At)⟩,⟨69,(zbiP:DT ty Fc)⟩,⟨100,(zbii:DT ty Wd)⟩,⟨121,(zbiB:DT ty Unit)⟩,⟨135,(zzo .u64:DT ty Int)⟩,⟨138,(zBR 3:DT ty (List Int))⟩,⟨144,(zBR 9:DT ty (List ByteArray))⟩,⟨189,(zBR 26:DT ty (List (yD)))⟩]
def z8q:List (Nat×TInfo):=[(2,⟨.int .i64,1,8,[.int .i64 (0)]⟩),
 (3,⟨.int .i64,1,8,[.int .i64 (0)]⟩),
 (4,⟨.bool,1,1,[.bool false]⟩),
 (5,⟨.int .u8,1,1,[.int .u8 (0)]⟩),
 (9,⟨.str,1,16,[.string ⟨#[]⟩]⟩),
 (22,⟨.slice 28,1,24,[.slice none 0 0]⟩),
 (23,⟨.slice 28,1,24,[.slice none 0 0]⟩),
 (26,⟨.slice 69,1,24,[.slice none 0 0]⟩),
 (28,⟨.struct [(0,2),(1,26)],2,32,[.int .i64 (0),.slice none 0 0]⟩),
 (35,⟨.int .i64,1,8,[.int .i64 (0)]⟩),
 (39,⟨.slice 43,1,24,[.slice none 0 0]⟩),
 (43,⟨.slice 49,1,24,[.slice none 0 0]⟩),
 (47,⟨.slice 51,1,24,[.slice none 0 0]⟩),
 (49,⟨.struct [(0,3),(1,3)],2,16,[.int .i64 (0),.int .i64 (0)]⟩),
 (51,⟨.struct [(0,49),(2,23)],3,40,[.int .i64 (0),.int .i64 (0),.slice none 0 0]⟩),
 (60,⟨.slice 23,1,24,[.slice none 0 0]⟩),
 (63,⟨.slice 100,1,24,[.slice none 0 0]⟩),
 (65,⟨.struct [(0,3),(1,2),(2,9)],3,32,[.int .i64 (0),.int .i64 (0),.string ⟨#[]⟩]⟩),
 (67,⟨.struct [(0,3),(1,49),(3,60),(4,3),(5,63),(6,3),(7,65)],10,120,[.int .i64 (0),.int .i64 (0),.int .i64 (0),.slice none 0 0,.int .i64 (0),.slice none 0 0,.int .i64 (0),.int .i64 (0),.int .i64 (0),.string ⟨#[]⟩]⟩),
 (69,⟨.struct [(0,67),(10,3)],11,128,[.int .i64 (0),.int .i64 (0),.int .i64 (0),.slice none 0 0,.int .i64 (0),.slice none 0 0,.int .i64 (0),.int .i64 (0),.int .i64 (0),.string ⟨#[]⟩,.int .i64 (0)]⟩),
 (100,⟨.struct [(0,65),(3,23)],4,56,[.int .i64 (0),.int .i64 (0),.string ⟨#[]⟩,.slice none 0 0]⟩),
 (121,⟨.map 9 3,1,8,[.map none]⟩),
 (135,⟨.int .u64,1,8,[.int .u64 (0)]⟩),
 (138,⟨.slice 3,1,24,[.slice none 0 0]⟩),
 (144,⟨.slice 9,1,24,[.slice none 0 0]⟩),
 (189,⟨.slice 26,1,24,[.slice none 0 0]⟩)]
def zYI:List (Nat×List TD):=[(49,[.int .i64,.int .i64]),(65,[.int .i64,.int .i64,.str])]
def inv (w:World):Prop:=Lib.TabIs Tryz.prog w "internal/strconv.uint64pow10" .u64 Lib.pow10Tab∧(∃ m,w.cell? ⟨0,0,none⟩=some (.int .i64 m))
theorem zben {n:String} {g:Nat} {w w':World} (hg:Tryz.prog.globalNamed n=some g) (h:w'.heap[g]? =w.heap[g]?):w'.var? Tryz.prog n=w.var? Tryz.prog n:=by
 unfold World.var?; rw [hg]; simp only [Option.bind_some,h]
theorem zbcn (w w':World) (hi:inv w) (hb:∀ b,b<4→w'.heap[b]? =w.heap[b]?):inv w':=by
 obtain ⟨h1,⟨m,h2⟩⟩:=hi;refine ⟨(zben (g:=1) (by kernel_rfl) (hb 1 (by omega))).trans h1,⟨m, ?_⟩⟩
 rw [← h2]; exact World.cell?_of_block (a:=⟨0,0,none⟩) (hb 0 (by omega))
def base:Cx ty:={ ti:=fun T=>z8q.lookup T,dflt:=fun _=>default,enc:=fun T=>(z9u z4k T).enc,dec:=fun T=>(z9u z4k T).dec,spec:=fun _=>none,io:=fun _=>[],eqs:=fun T us vs=>match zYI.lookup T with | some ts=>zbo ts us vs | none=>none,nt:=0,head:=fun _=>[],out:=fun _ _=>[],loops:=fun _=>none,ng:=4,inv:=inv }
theorem zbb9:Tryz.prog.info? 2=some Tryz.t2:=by kernel_rfl
theorem zOM:Tryz.prog.info? 3=some Tryz.t3:=by kernel_rfl
theorem zbh9:Tryz.prog.info? 4=some Tryz.t4:=by kernel_rfl
theorem zbip:Tryz.prog.info? 5=some Tryz.t5:=by kernel_rfl
theorem zbfz:Tryz.prog.info? 9=some Tryz.t9:=by kernel_rfl
theorem zbhS:Tryz.prog.info? 22=some Tryz.t22:=by kernel_rfl
theorem z9d:Tryz.prog.info? 23=some Tryz.t23:=by kernel_rfl
theorem zbdd:Tryz.prog.info? 26=some Tryz.t26:=by kernel_rfl
theorem zbht:Tryz.prog.info? 28=some Tryz.t28:=by kernel_rfl
theorem zbgZ:Tryz.prog.info? 35=some Tryz.t35:=by kernel_rfl
theorem zbhL:Tryz.prog.info? 39=some Tryz.t39:=by kernel_rfl
theorem zbhQ:Tryz.prog.info? 43=some Tryz.t43:=by kernel_rfl
theorem zbhY:Tryz.prog.info? 47=some Tryz.t47:=by kernel_rfl
theorem z9H:Tryz.prog.info? 49=some Tryz.t49:=by kernel_rfl
theorem zbhl:Tryz.prog.info? 51=some Tryz.t51:=by kernel_rfl
theorem zbdM:Tryz.prog.info? 60=some Tryz.t60:=by kernel_rfl
theorem zbeb:Tryz.prog.info? 63=some Tryz.t63:=by kernel_rfl
theorem z8J:Tryz.prog.info? 65=some Tryz.t65:=by kernel_rfl
theorem zbdj:Tryz.prog.info? 67=some Tryz.t67:=by kernel_rfl
theorem zbhR:Tryz.prog.info? 69=some Tryz.t69:=by kernel_rfl
theorem zbfQ:Tryz.prog.info? 100=some Tryz.t100:=by kernel_rfl
theorem zbfM:Tryz.prog.info? 121=some Tryz.t121:=by kernel_rfl
theorem zbfI:Tryz.prog.info? 135=some Tryz.t135:=by kernel_rfl
theorem zbgB:Tryz.prog.info? 138=some Tryz.t138:=by kernel_rfl
theorem zbgp:Tryz.prog.info? 144=some Tryz.t144:=by kernel_rfl
theorem zbgb:Tryz.prog.info? 189=some Tryz.t189:=by kernel_rfl
theorem zbf1:∀ T i,z8q.lookup T=some i→InfoOK Tryz.prog T i:=by
 intro T i h;have h:=zJl _ _ _ h;simp only [z8q,qd,List.not_mem_nil,or_false,qb] at h;rcases h with ⟨rfl,rfl⟩ | ⟨rfl,rfl⟩ | ⟨rfl,rfl⟩ | ⟨rfl,rfl⟩ | ⟨rfl,rfl⟩ | ⟨rfl,rfl⟩ | ⟨rfl,rfl⟩ | ⟨rfl,rfl⟩ | ⟨rfl,rfl⟩ | ⟨rfl,rfl⟩ | ⟨rfl,rfl⟩ | ⟨rfl,rfl⟩ | ⟨rfl,rfl⟩ | ⟨rfl,rfl⟩ | ⟨rfl,rfl⟩ | ⟨rfl,rfl⟩ | ⟨rfl,rfl⟩ | ⟨rfl,rfl⟩ | ⟨rfl,rfl⟩ | ⟨rfl,rfl⟩ | ⟨rfl,rfl⟩ | ⟨rfl,rfl⟩ | ⟨rfl,rfl⟩ | ⟨rfl,rfl⟩ | ⟨rfl,rfl⟩ | ⟨rfl,rfl⟩
 ·exact ⟨Tryz.t2,_,_,zbb9,underlying2,rfl,rfl,rfl,rfl,rfl,⟨by simp [zcl],fun _=>rfl⟩,rfl⟩
 ·exact ⟨Tryz.t3,_,_,zOM,underlying3,rfl,rfl,rfl,rfl,rfl,⟨by simp [zcl],fun _=>rfl⟩,rfl⟩
 ·exact ⟨Tryz.t4,_,_,zbh9,underlying4,rfl,rfl,rfl,rfl,rfl,⟨by simp [zcl],fun _=>rfl⟩,rfl⟩
 ·exact ⟨Tryz.t5,_,_,zbip,underlying5,rfl,rfl,rfl,rfl,rfl,⟨by simp [zcl],fun _=>rfl⟩,rfl⟩
 ·exact ⟨Tryz.t9,_,_,zbfz,underlying9,rfl,rfl,rfl,rfl,rfl,⟨by simp [zcl],fun _=>rfl⟩,rfl⟩
 ·exact ⟨Tryz.t22,_,_,zbhS,underlying22,rfl,rfl,rfl,rfl,rfl,⟨by simp [zcl],fun _=>rfl⟩,rfl⟩
 ·exact ⟨Tryz.t23,_,_,z9d,underlying23,rfl,rfl,rfl,rfl,rfl,⟨by simp [zcl],fun _=>rfl⟩,rfl⟩
 ·exact ⟨Tryz.t26,_,_,zbdd,underlying26,rfl,rfl,rfl,rfl,rfl,⟨by simp [zcl],fun _=>rfl⟩,rfl⟩
 ·exact ⟨Tryz.t28,_,_,zbht,underlying28,rfl,rfl,rfl,rfl,rfl,⟨by simp [zcl],fun h=>by cases h⟩,⟨_,rfl,rfl,fun f hf=>by
   simp only [qd,List.not_mem_nil,or_false] at hf;rcases hf with rfl | rfl
   ·exact Option.isSome_iff_exists.2 ⟨_,zbb9⟩
   ·exact Option.isSome_iff_exists.2 ⟨_,zbdd⟩⟩⟩
 ·exact ⟨Tryz.t35,_,_,zbgZ,underlying35,rfl,rfl,rfl,rfl,rfl,⟨by simp [zcl],fun _=>rfl⟩,rfl⟩
 ·exact ⟨Tryz.t39,_,_,zbhL,underlying39,rfl,rfl,rfl,rfl,rfl,⟨by simp [zcl],fun _=>rfl⟩,rfl⟩
 ·exact ⟨Tryz.t43,_,_,zbhQ,underlying43,rfl,rfl,rfl,rfl,rfl,⟨by simp [zcl],fun _=>rfl⟩,rfl⟩
 ·exact ⟨Tryz.t47,_,_,zbhY,underlying47,rfl,rfl,rfl,rfl,rfl,⟨by simp [zcl],fun _=>rfl⟩,rfl⟩
 ·exact ⟨Tryz.t49,_,_,z9H,underlying49,rfl,rfl,rfl,rfl,rfl,⟨by simp [zcl],fun h=>by cases h⟩,⟨_,rfl,rfl,fun f hf=>by
   simp only [qd,List.not_mem_nil,or_false] at hf;rcases hf with rfl | rfl
   ·exact Option.isSome_iff_exists.2 ⟨_,zOM⟩
   ·exact Option.isSome_iff_exists.2 ⟨_,zOM⟩⟩⟩
 ·exact ⟨Tryz.t51,_,_,zbhl,underlying51,rfl,rfl,rfl,rfl,rfl,⟨by simp [zcl],fun h=>by cases h⟩,⟨_,rfl,rfl,fun f hf=>by
   simp only [qd,List.not_mem_nil,or_false] at hf;rcases hf with rfl | rfl
   ·exact Option.isSome_iff_exists.2 ⟨_,z9H⟩
   ·exact Option.isSome_iff_exists.2 ⟨_,z9d⟩⟩⟩
 ·exact ⟨Tryz.t60,_,_,zbdM,underlying60,rfl,rfl,rfl,rfl,rfl,⟨by simp [zcl],fun _=>rfl⟩,rfl⟩
 ·exact ⟨Tryz.t63,_,_,zbeb,underlying63,rfl,rfl,rfl,rfl,rfl,⟨by simp [zcl],fun _=>rfl⟩,rfl⟩
 ·exact ⟨Tryz.t65,_,_,z8J,underlying65,rfl,rfl,rfl,rfl,rfl,⟨by simp [zcl],fun h=>by cases h⟩,⟨_,rfl,rfl,fun f hf=>by
   simp only [qd,List.not_mem_nil,or_false] at hf;rcases hf with rfl | rfl | rfl
   ·exact Option.isSome_iff_exists.2 ⟨_,zOM⟩
   ·exact Option.isSome_iff_exists.2 ⟨_,zbb9⟩
   ·exact Option.isSome_iff_exists.2 ⟨_,zbfz⟩⟩⟩
 ·exact ⟨Tryz.t67,_,_,zbdj,underlying67,rfl,rfl,rfl,rfl,rfl,⟨by simp [zcl],fun h=>by cases h⟩,⟨_,rfl,rfl,fun f hf=>by
   simp only [qd,List.not_mem_nil,or_false] at hf;rcases hf with rfl | rfl | rfl | rfl | rfl | rfl | rfl
   ·exact Option.isSome_iff_exists.2 ⟨_,zOM⟩
   ·exact Option.isSome_iff_exists.2 ⟨_,z9H⟩
   ·exact Option.isSome_iff_exists.2 ⟨_,zbdM⟩
   ·exact Option.isSome_iff_exists.2 ⟨_,zOM⟩
   ·exact Option.isSome_iff_exists.2 ⟨_,zbeb⟩
   ·exact Option.isSome_iff_exists.2 ⟨_,zOM⟩
   ·exact Option.isSome_iff_exists.2 ⟨_,z8J⟩⟩⟩
 ·exact ⟨Tryz.t69,_,_,zbhR,underlying69,rfl,rfl,rfl,rfl,rfl,⟨by simp [zcl],fun h=>by cases h⟩,⟨_,rfl,rfl,fun f hf=>by
   simp only [qd,List.not_mem_nil,or_false] at hf;rcases hf with rfl | rfl
   ·exact Option.isSome_iff_exists.2 ⟨_,zbdj⟩
   ·exact Option.isSome_iff_exists.2 ⟨_,zOM⟩⟩⟩
 ·exact ⟨Tryz.t100,_,_,zbfQ,underlying100,rfl,rfl,rfl,rfl,rfl,⟨by simp [zcl],fun h=>by cases h⟩,⟨_,rfl,rfl,fun f hf=>by
   simp only [qd,List.not_mem_nil,or_false] at hf;rcases hf with rfl | rfl
   ·exact Option.isSome_iff_exists.2 ⟨_,z8J⟩
   ·exact Option.isSome_iff_exists.2 ⟨_,z9d⟩⟩⟩
 ·exact ⟨Tryz.t121,_,_,zbfM,underlying121,rfl,rfl,rfl,rfl,rfl,⟨by simp [zcl],fun _=>rfl⟩,rfl⟩
 ·exact ⟨Tryz.t135,_,_,zbfI,underlying135,rfl,rfl,rfl,rfl,rfl,⟨by simp [zcl],fun _=>rfl⟩,rfl⟩
 ·exact ⟨Tryz.t138,_,_,zbgB,underlying138,rfl,rfl,rfl,rfl,rfl,⟨by simp [zcl],fun _=>rfl⟩,rfl⟩
 ·exact ⟨Tryz.t144,_,_,zbgp,underlying144,rfl,rfl,rfl,rfl,rfl,⟨by simp [zcl],fun _=>rfl⟩,rfl⟩
 ·exact ⟨Tryz.t189,_,_,zbgb,underlying189,rfl,rfl,rfl,rfl,rfl,⟨by simp [zcl],fun _=>rfl⟩,rfl⟩
theorem zbeF:∀ T us vs b,(match zYI.lookup T with | some ts=>zbo ts us vs | none=>none)=some b→∀ w,zbb0 Tryz.prog T us vs b w:=by
 intro T us vs b h w;split at h
 ·rename_i ts hl;have hl:=zJl _ _ _ hl;simp only [zYI,qd,List.not_mem_nil,or_false,qb] at hl;rcases hl with ⟨rfl,rfl⟩ | ⟨rfl,rfl⟩
  ·refine z4G _ _ underlying49 (by kernel_rfl) (by kernel_rfl) rfl ?_ h w
   intro j f t hj ht;rcases j with _ | j
   ·simp at hj ht; subst hj ht; exact ⟨rfl,by decide,_,underlying3,rfl⟩
   rcases j with _ | j
   ·simp at hj ht; subst hj ht; exact ⟨rfl,by decide,_,underlying3,rfl⟩
   simp at hj
  ·refine z4G _ _ underlying65 (by kernel_rfl) (by kernel_rfl) rfl ?_ h w
   intro j f t hj ht;rcases j with _ | j
   ·simp at hj ht; subst hj ht; exact ⟨rfl,by decide,_,underlying3,rfl⟩
   rcases j with _ | j
   ·simp at hj ht; subst hj ht; exact ⟨rfl,by decide,_,underlying2,rfl⟩
   rcases j with _ | j
   ·simp at hj ht; subst hj ht; exact ⟨rfl,by decide,_,underlying9,rfl⟩
   simp at hj
 ·cases h
theorem zbex:∀ T us vs,base.eqs T us us=some true→base.eqs T vs vs=some true→base.eqs T us vs=some (zyd us vs)∧(zyd us vs=true→us=vs)∧∀ u∈us,∀ n,Instr.sameBits n u u=true:=by
 intro T us vs h1 h2;simp only [base] at h1 h2 ⊢;cases hl:zYI.lookup T with
 | none=>rw [hl] at h1; cases h1
 | some ts=>rw [hl] at h1 h2; exact z4f ts us vs h1 h2
theorem zbfl:∀ T us b,base.eqs T us us=some b→b=true:=by
 intro T us b h;simp only [base] at h;cases hl:zYI.lookup T with
 | none=>rw [hl] at h; cases h
 | some ts=>rw [hl] at h; exact z0X ts us b h
abbrev SdP:=Sound Tryz.prog base
theorem zgL:CxOK Tryz.prog base:=⟨zbf1,fun T x=>by rw [show zq base T=_ from (zbaj z4k z8q rfl T).symm]; exact DT.len _ x,fun T x c h=>by have:=DT.cell _ _ c h; revert this; cases c <;>exact id,fun T cs x h F w us hr=>DT.ok _ base F w us cs x h hr,zbeF,zbex,zbfl,zbcn⟩
def zbP:Cx ty:={ base with dr:=false }
theorem zLm:CxOK Tryz.prog zbP:=CxOK.cg (cx:=base) (cx':=zbP) ⟨rfl,rfl,rfl,rfl,rfl,rfl⟩ zgL
theorem zEi:Tryz.prog.follows .mixedOrders=true:=by kernel_rfl
theorem sT {cx':Cx ty} {α ρ:Type} (hspec:∀ g s,cx'.spec g=some s→SdP g s) {f:Nat} {fn:Func} (hent:∀ args w,(callFunc f args).run Tryz.prog w=.ok (.enter f args) w) (hf:Tryz.prog.funcs[f]? =some fn) (hl:ziC cx' (body fn)) (sg:Sig:=⟨[.pure],[]⟩) {A:AL base α} {res:ρ→ARes ty} {W:α→Wy0 ρ} {z:ρ}
  (hb:fn.body=some (body fn):=by kernel_rfl)
  (hrun:∀ x,zgk cx' fn (body fn) sg (A.enc x)=(W x).ev noH (fun r=>some (res r)) none:=by intro _; kernel_rfl)
  (hchk:∀ x,(Nat.ble (A.enc x).length fn.ntmps&&zM0 (body fn) (A.enc x) sg.upd)=true:=by intro _; kernel_rfl) (hsame:base.Same cx':=by exact z9i):
  SdP f (zh A fun x=>(((W x).fin z).1,res ((W x).fin z).2)):=sW zEi zgL hsame hspec hent hf hl sg hb hrun hchk
theorem sU {cx':Cx ty} {α ρ:Type} (hspec:∀ g s,cx'.spec g=some s→Sound Tryz.prog zbP g s) {f:Nat} {fn:Func} (hent:∀ args w,(callFunc f args).run Tryz.prog w=.ok (.enter f args) w) (hf:Tryz.prog.funcs[f]? =some fn) (hl:ziC cx' (body fn)) (sg:Sig:=⟨[.pure],[]⟩) {A:AL zbP α} {res:ρ→ARes ty} {W:α→Wy0 ρ} {z:ρ}
  (hb:fn.body=some (body fn):=by kernel_rfl)
  (hrun:∀ x,zgk cx' fn (body fn) sg (A.enc x)=(W x).ev noH (fun r=>some (res r)) none:=by intro _; kernel_rfl)
  (hchk:∀ x,(Nat.ble (A.enc x).length fn.ntmps&&zM0 (body fn) (A.enc x) sg.upd)=true:=by intro _; kernel_rfl) (hsame:zbP.Same cx':=by exact z9i):
  Sound Tryz.prog zbP f (zh A fun x=>(((W x).fin z).1,res ((W x).fin z).2)):=sW zEi zLm hsame hspec hent hf hl sg hb hrun hchk
end Go.Proofs.YtljlfiomikifjaaGreatDoor
/- What is read of an argument, as typed data. -/
namespace Go.Proofs.YtljlfiomikifjaaGreatDoor
open Go Go.Ab
open Go.Proofs.Tryz
def wf2 (x:Int):Prop:=(Lit.int .i64 x).wf=true
def wf3 (x:Int):Prop:=(Lit.int .i64 x).wf=true
def wf4 (x:Bool):Prop:=True
def wf5 (x:Int):Prop:=(Lit.int .u8 x).wf=true
def wf9 (x:ByteArray):Prop:=ByteArray.size x≤zbk
def zWk (x:RowID):Prop:=wf3 x.Table∧wf3 x.Seq
def zTk (x:Value):Prop:=wf3 x.Kind∧wf2 x.Int∧wf9 x.Text
mutual
def zgr:At→Prop
 | ⟨k,r,a,f,i,o,b⟩=>wf3 k∧zWk r∧(zxB a∧a.length≤zbk)∧wf3 f∧(ztb i∧i.length≤zbk)∧wf3 o∧zTk b
def zwU:Fc→Prop
 | ⟨a,e⟩=>zgr a∧wf3 e
def ztP:yD→Prop
 | []=>True
 | x::r=>zwU x∧ztP r
def zCl:Term→Prop
 | ⟨c,f⟩=>wf2 c∧(ztP f∧f.length≤zbk)
def zgA:yC→Prop
 | []=>True
 | x::r=>zCl x∧zgA r
def zxB:yA→Prop
 | []=>True
 | x::r=>(zgA x∧x.length≤zbk)∧zxB r
def zHo:Wd→Prop
 | ⟨v,a⟩=>zTk v∧(zgA a∧a.length≤zbk)
def ztb:yE→Prop
 | []=>True
 | x::r=>zHo x∧ztb r
end
theorem zMd:∀ l:yD,(∀ x∈l,zwU x)→ztP l
 | [],_=>by unfold ztP; trivial
 | x::r,h=>by unfold ztP; exact ⟨h x (by simp),zMd r fun y hy=>h y (by simp [hy])⟩
theorem zGc:∀ l:yC,(∀ x∈l,zCl x)→zgA l
 | [],_=>by unfold zgA; trivial
 | x::r,h=>by unfold zgA; exact ⟨h x (by simp),zGc r fun y hy=>h y (by simp [hy])⟩
theorem zXM:∀ l:yA,(∀ x∈l,zgA x∧x.length≤zbk)→zxB l
 | [],_=>by unfold zxB; trivial
 | x::r,h=>by unfold zxB; exact ⟨h x (by simp),zXM r fun y hy=>h y (by simp [hy])⟩
theorem zSX:∀ l:yE,(∀ x∈l,zHo x)→ztb l
 | [],_=>by unfold ztb; trivial
 | x::r,h=>by unfold ztb; exact ⟨h x (by simp),zSX r fun y hy=>h y (by simp [hy])⟩
def z1B (x:yC):Prop:=zgA x∧List.length x≤zbk
def zbiJ (x:yD):Prop:=ztP x∧List.length x≤zbk
def zbiM (x:Term):Prop:=zCl x
def zbiA (x:yA):Prop:=zxB x∧List.length x≤zbk
def zbiN (x:yE):Prop:=ztb x∧List.length x≤zbk
def zbiH (x:At):Prop:=zgr x
def zbiG (x:Fc):Prop:=zwU x
def zbig (x:Wd):Prop:=zHo x
def zbgW (x:yF):Prop:=(∀ y∈x,zWk y)∧List.length x≤zbk
def zbiQ (x:yB):Prop:=(∀ y∈x,zbgW y)∧List.length x≤zbk
def zbhH (x:Bg):Prop:=zWk x.Row∧z1B x.To
def zbiR (x:yG):Prop:=(∀ y∈x,zbhH y)∧List.length x≤zbk
def wf (T:Nat):ty T→Prop:=match T with
 | 2=>wf2
 | 3=>wf3
 | 4=>wf4
 | 5=>wf5
 | 9=>wf9
 | 23=>z1B
 | 26=>zbiJ
 | 28=>zbiM
 | 39=>zbiQ
 | 43=>zbgW
 | 47=>zbiR
 | 49=>zWk
 | 51=>zbhH
 | 60=>zbiA
 | 63=>zbiN
 | 65=>zTk
 | 67=>zbiH
 | 69=>zbiG
 | 100=>zbig
 | _=>fun _=>True
theorem zbd8:zAW Tryz.prog base wf 2:=z6z underlying2 (fun n=>n) (fun _=>rfl) (fun _ h=>h)
theorem zL5:zAW Tryz.prog base wf 3:=z6z underlying3 (fun n=>n) (fun _=>rfl) (fun _ h=>h)
theorem zbhP:zAW Tryz.prog base wf 9:=zbdK underlying9 (fun n=>n) (fun _=>rfl) (fun _ h=>h)
theorem zbgA:zAW Tryz.prog base wf 49:=by
 intro H en w sp held fuel cs y h hz;obtain ⟨xs,n,_,hy,hl,hlen,hf⟩:=DataW.trod_struct underlying49 h;have hs:=zqf underlying49 hy hz;obtain ⟨x0,h0,w0⟩:=zCo (off:=0) zL5 (by kernel_rfl) hlen hf hs 0 _ rfl rfl rfl
 obtain ⟨x1,h1,w1⟩:=zCo (off:=1) zL5 (by kernel_rfl) hlen hf hs 1 _ rfl rfl rfl
 have hl:cs.length=2:=hl.trans (by kernel_rfl)
 have:=zj3 h0 (zGo h1 hl);exact ⟨(⟨x0,x1⟩:RowID),this,⟨w0,w1⟩⟩
theorem zba5:zAW Tryz.prog base wf 65:=by
 intro H en w sp held fuel cs y h hz;obtain ⟨xs,n,_,hy,hl,hlen,hf⟩:=DataW.trod_struct underlying65 h;have hs:=zqf underlying65 hy hz;obtain ⟨x0,h0,w0⟩:=zCo (off:=0) zL5 (by kernel_rfl) hlen hf hs 0 _ rfl rfl rfl
 obtain ⟨x1,h1,w1⟩:=zCo (off:=1) zbd8 (by kernel_rfl) hlen hf hs 1 _ rfl rfl rfl
 obtain ⟨x2,h2,w2⟩:=zCo (off:=2) zbhP (by kernel_rfl) hlen hf hs 2 _ rfl rfl rfl
 have hl:cs.length=3:=hl.trans (by kernel_rfl)
 have:=zj3 h0 (zj3 h1 (zGo h2 hl));exact ⟨(⟨x0,x1,x2⟩:Value),this,⟨w0,w1,w2⟩⟩
theorem z8F:∀ m,ztQ Tryz.prog base wf m 23∧ztQ Tryz.prog base wf m 26∧ztQ Tryz.prog base wf m 28∧ztQ Tryz.prog base wf m 60∧ztQ Tryz.prog base wf m 63∧ztQ Tryz.prog base wf m 67∧ztQ Tryz.prog base wf m 69∧ztQ Tryz.prog base wf m 100
 | 0=>⟨zpV,zpV,zpV,zpV,zpV,zpV,zpV,zpV⟩
 | m+1=>by
  obtain ⟨h23,h26,h28,h60,h63,h67,h69,h100⟩:=z8F m;refine ⟨?_, ?_, ?_, ?_, ?_, ?_, ?_, ?_⟩
  ·exact zDV zgL underlying23 (by kernel_rfl) (by decide) (fun l=>l) (fun _=>rfl) (of_decide_eq_true (by kernel_rfl)) h28 (fun l h h2=>⟨zGc l h,h2⟩)
  ·exact zDV zgL underlying26 (by kernel_rfl) (by decide) (fun l=>l) (fun _=>rfl) (of_decide_eq_true (by kernel_rfl)) h69 (fun l h h2=>⟨zMd l h,h2⟩)
  ·intro H en w sp held fuel cs y hfu h hz;obtain ⟨xs,n,hn,hy,hl,hlen,hf⟩:=DataW.trod_struct underlying28 h;have hs:=zqf underlying28 hy hz;have hn:n≤m:=by omega
   obtain ⟨x0,hx0,w0⟩:=zfL (off:=0) (zbd8.at m) (by kernel_rfl) hn hlen hf hs 0 _ rfl rfl rfl
   obtain ⟨x1,hx1,w1⟩:=zfL (off:=1) h26 (by kernel_rfl) hn hlen hf hs 1 _ rfl rfl rfl
   have hl:cs.length=2:=hl.trans (by kernel_rfl)
   have:=zj3 hx0 (zGo hx1 hl);exact ⟨(⟨x0,x1⟩:Term),this,by show zCl (⟨x0,x1⟩:Term); unfold zCl; exact ⟨w0,w1⟩⟩
  ·exact zDV zgL underlying60 (by kernel_rfl) (by decide) (fun l=>l) (fun _=>rfl) (of_decide_eq_true (by kernel_rfl)) h23 (fun l h h2=>⟨zXM l h,h2⟩)
  ·exact zDV zgL underlying63 (by kernel_rfl) (by decide) (fun l=>l) (fun _=>rfl) (of_decide_eq_true (by kernel_rfl)) h100 (fun l h h2=>⟨zSX l h,h2⟩)
  ·intro H en w sp held fuel cs y hfu h hz;obtain ⟨xs,n,hn,hy,hl,hlen,hf⟩:=DataW.trod_struct underlying67 h;have hs:=zqf underlying67 hy hz;have hn:n≤m:=by omega
   obtain ⟨x0,hx0,w0⟩:=zfL (off:=0) (zL5.at m) (by kernel_rfl) hn hlen hf hs 0 _ rfl rfl rfl
   obtain ⟨x1,hx1,w1⟩:=zfL (off:=1) (zbgA.at m) (by kernel_rfl) hn hlen hf hs 1 _ rfl rfl rfl
   obtain ⟨x2,hx2,w2⟩:=zfL (off:=3) h60 (by kernel_rfl) hn hlen hf hs 2 _ rfl rfl rfl
   obtain ⟨x3,hx3,w3⟩:=zfL (off:=4) (zL5.at m) (by kernel_rfl) hn hlen hf hs 3 _ rfl rfl rfl
   obtain ⟨x4,hx4,w4⟩:=zfL (off:=5) h63 (by kernel_rfl) hn hlen hf hs 4 _ rfl rfl rfl
   obtain ⟨x5,hx5,w5⟩:=zfL (off:=6) (zL5.at m) (by kernel_rfl) hn hlen hf hs 5 _ rfl rfl rfl
   obtain ⟨x6,hx6,w6⟩:=zfL (off:=7) (zba5.at m) (by kernel_rfl) hn hlen hf hs 6 _ rfl rfl rfl
   have hl:cs.length=10:=hl.trans (by kernel_rfl)
   have:=zj3 hx0 (zj3 hx1 (zj3 hx2 (zj3 hx3 (zj3 hx4 (zj3 hx5 (zGo hx6 hl))))));exact ⟨(⟨x0,x1,x2,x3,x4,x5,x6⟩:At),this,by show zgr (⟨x0,x1,x2,x3,x4,x5,x6⟩:At); unfold zgr; exact ⟨w0,w1,w2,w3,w4,w5,w6⟩⟩
  ·intro H en w sp held fuel cs y hfu h hz;obtain ⟨xs,n,hn,hy,hl,hlen,hf⟩:=DataW.trod_struct underlying69 h;have hs:=zqf underlying69 hy hz;have hn:n≤m:=by omega
   obtain ⟨x0,hx0,w0⟩:=zfL (off:=0) h67 (by kernel_rfl) hn hlen hf hs 0 _ rfl rfl rfl
   obtain ⟨x1,hx1,w1⟩:=zfL (off:=10) (zL5.at m) (by kernel_rfl) hn hlen hf hs 1 _ rfl rfl rfl
   have hl:cs.length=11:=hl.trans (by kernel_rfl)
   have:=zj3 hx0 (zGo hx1 hl);exact ⟨(⟨x0,x1⟩:Fc),this,by show zwU (⟨x0,x1⟩:Fc); unfold zwU; exact ⟨w0,w1⟩⟩
  ·intro H en w sp held fuel cs y hfu h hz;obtain ⟨xs,n,hn,hy,hl,hlen,hf⟩:=DataW.trod_struct underlying100 h;have hs:=zqf underlying100 hy hz;have hn:n≤m:=by omega
   obtain ⟨x0,hx0,w0⟩:=zfL (off:=0) (zba5.at m) (by kernel_rfl) hn hlen hf hs 0 _ rfl rfl rfl
   obtain ⟨x1,hx1,w1⟩:=zfL (off:=3) h23 (by kernel_rfl) hn hlen hf hs 1 _ rfl rfl rfl
   have hl:cs.length=4:=hl.trans (by kernel_rfl)
   have:=zj3 hx0 (zGo hx1 hl);exact ⟨(⟨x0,x1⟩:Wd),this,by show zHo (⟨x0,x1⟩:Wd); unfold zHo; exact ⟨w0,w1⟩⟩
theorem zbbz:zAW Tryz.prog base wf 23:=zbdG fun m=>(z8F m).1
def zPQ (r:Int):ARes ty:=⟨[.pure (.lit (.int .i64 r))],[]⟩
def zTM:AL base (yC×yC×Unit):=zd (ze (vSl 28)) (zd (ze (vSl 28)) zr)
def zej (F:yC→yC→Bool×Int):Ab.Spec ty:=zh zTM fun x=>((F x.1 x.2.1).1,zPQ (F x.1 x.2.1).2)
def zNY:AL base (Term×Term×Unit):=zd (ze (zcG 28)) (zd (ze (zcG 28)) zr)
def zf6 (F:Term→Term→Bool×Int):Ab.Spec ty:=zh zNY fun x=>((F x.1 x.2.1).1,zPQ (F x.1 x.2.1).2)
def zG7:AL base (Fc×Fc×Unit):=zd (ze (zcG 69)) (zd (ze (zcG 69)) zr)
def zeG (F:Fc→Fc→Bool×Int):Ab.Spec ty:=zh zG7 fun x=>((F x.1 x.2.1).1,zPQ (F x.1 x.2.1).2)
def zJZ:AL base (At×At×Unit):=zd (ze (zcG 67)) (zd (ze (zcG 67)) zr)
def zg9 (F:At→At→Bool×Int):Ab.Spec ty:=zh zJZ fun x=>((F x.1 x.2.1).1,zPQ (F x.1 x.2.1).2)
def zKs:AL base (Wd×Wd×Unit):=zd (ze (zcG 100)) (zd (ze (zcG 100)) zr)
def zek (F:Wd→Wd→Bool×Int):Ab.Spec ty:=zh zKs fun x=>((F x.1 x.2.1).1,zPQ (F x.1 x.2.1).2)
def zje:AL base (yC×yC×Unit×Unit):=zd (ze (vSl 28)) (zd (ze (vSl 28)) (zd (ze (vFn 137 zbW)) zr))
def zbU (F:yC→yC→Bool×Int):Ab.Spec ty:=zh zje fun x=>((F x.1 x.2.1).1,zPQ (F x.1 x.2.1).2)
def zjM:AL base (yD×yD×Unit×Unit):=zd (ze (vSl 69)) (zd (ze (vSl 69)) (zd (ze (vFn 119 zbW)) zr))
def zbZ (F:yD→yD→Bool×Int):Ab.Spec ty:=zh zjM fun x=>((F x.1 x.2.1).1,zPQ (F x.1 x.2.1).2)
def zfT:AL base (yA×yA×Unit×Unit):=zd (ze (vSl 23)) (zd (ze (vSl 23)) (zd (ze (vFn 67 zbW)) zr))
def zbu (F:yA→yA→Bool×Int):Ab.Spec ty:=zh zfT fun x=>((F x.1 x.2.1).1,zPQ (F x.1 x.2.1).2)
def zhj:AL base (yE×yE×Unit×Unit):=zd (ze (vSl 100)) (zd (ze (vSl 100)) (zd (ze (vFn 124 zbW)) zr))
def zbM (F:yE→yE→Bool×Int):Ab.Spec ty:=zh zhj fun x=>((F x.1 x.2.1).1,zPQ (F x.1 x.2.1).2)
def zN9 (zJ:yC→yC→Bool×Int) (zL:Term→Term→Bool×Int):=zbq base 8 [(136,(zbU zJ)),(137,(zf6 zL))]
def zCf (zJ:yC→yC→Bool×Int) (zL:Term→Term→Bool×Int) (a:yC) (b:yC):Wy0 (Int):=.bn (zJ a b) fun r0=>.k r0
def zpz (zJ:yC→yC→Bool×Int) (zL:Term→Term→Bool×Int) (a:yC) (b:yC):=(zCf zJ zL a b).fin default
theorem zIt (zJ:yC→yC→Bool×Int) (zL:Term→Term→Bool×Int) (ziz:SdP 136 (zbU zJ)) (zpv:SdP 137 (zf6 zL)):SdP 67 (zej (zpz zJ zL)):=
 sT (cx':=(zN9 zJ zL)) (zi ⟨ziz,zpv,trivial⟩) call67 func67 (lOK aN)
def zXN:=zbq base 6 []
def zJu (x_:Int):Wy0 (Bool):=.k (x_ != x_)
def znZ (x_:Int):=(zJu x_).fin default
def zVj (r:Bool):ARes ty:=⟨[.pure (.lit (.bool r))],[]⟩
def zZE:AL base (Int×Unit):=zd (ze zhl) zr
def zD2:=zh zZE fun x=>((znZ x.1).1,zVj (znZ x.1).2)
theorem zSm:SdP 166 zD2:=
 sT (cx':=zXN) (zi trivial) call166 func166 (lOK aN)
def zTT:=zbq base 20 [(166,zD2)]
def zFr (x_:Int) (y_:Int):Wy0 (Int):=.i ((znZ x_).2) (.i ((znZ y_).2) (.k 0) (.k (-1:Int))) (.i ((znZ y_).2) (.k 1) (.i (decide (x_<y_)) (.k (-1:Int)) (.i (decide (x_>y_)) (.k 1) (.k 0))))
def zjg (x_:Int) (y_:Int):=(zFr x_ y_).fin default
def zVI:AL base (Int×Int×Unit):=zd (ze zhl) (zd (ze zhl) zr)
def zm3:=zh zVI fun x=>((zjg x.1 x.2.1).1,zPQ (zjg x.1 x.2.1).2)
theorem zsl:SdP 138 zm3:=
 sT (cx':=zTT) (zi ⟨zSm,trivial⟩) call138 func138 (lOK aN)
abbrev zDQ:=Int×List Int×Int×Int×Unit
def zIx (zero:Int) (t6:List Int) (t7:Int) (t8:Int):Wy zDQ (Unit) (Int⊕Int):=.i (decide (t8<t7)) (.i (decide (0≤t8)&&decide (t8<Int.ofNat t6.length)) (.i (t6.getD t8.toNat default != zero) (.k (.inl (t6.getD t8.toNat default))) (.h (zero,t6,t7,(IntKind.i64.wrap (t8+1)),()) ())) .d) (.k (.inr zero))
def zUu (x:zDQ) (y:Unit):=zIx x.1 x.2.1 x.2.2.1 x.2.2.2.1
def zID (n:Nat) (zero:Int) (t6:List Int) (t7:Int) (t8:Int):=zH (zUu) (.inl default) n (zero,t6,t7,t8,()) ()
def z5I (r:Int⊕Int):LTree ty:=.ite (isL r) (.done .ret [.lit (.int .i64 (getL r))] []) (.done (.exit 0) [.lit (.int .i64 (getR r))] [])
def z7v:LL ty zDQ:=za zj (za (lSl 3) (za zj (za zj zn)))
def z7V:BL ty (Unit):=zbl
def z5e (x:zDQ) (y:Unit):Nat:=(Int.toNat x.1+x.2.1.length+Int.toNat x.2.2.1+Int.toNat x.2.2.2.1+1)
def zUS:=zb5 base 18 [] [] [(3,(kpL [3,6,7,8]))] [(3,1,(kpL [3])),(3,0,(kpL [2]))] [(3,spW z7v z7V (zUu) (.inl default) z5I z5e)] []
theorem z5Z:zM zUS (lp (body f120) 0):=zw (id:=3) (hl:=rfl)
def zYl (vals:List Int):Wy0 (Int):=.bn (zID (Int.toNat 0+vals.length+(Int.ofNat vals.length).toNat +Int.toNat 0+1) 0 vals (Int.ofNat vals.length) 0) fun r0=>.i (isL r0) (.k (getL r0)) (.k (getR r0))
def zmR (vals:List Int):=(zYl vals).fin default
def zbam:AL base (List Int×Unit):=zd (ze (vSl 3)) zr
def zlB:=zh zbam fun x=>((zmR x.1).1,zPQ (zmR x.1).2)
theorem zmF:SdP 120 zlB:=
 sT (cx':=zUS) (zi trivial) call120 func120 (lOK (aC z5Z aN))
def zII (zcX:Term→Term→Bool×Int):=zbq base 15 [(63,(zf6 zcX)),(120,zlB),(138,zm3)]
def zy4 (zcX:Term→Term→Bool×Int) (x_:Term) (y_:Term):Wy0 (Int):=.bn (zcX x_ y_) fun r2=>.bn (zjg x_.Cf y_.Cf) fun r1=>.bn (zmR [r2,r1]) fun r0=>.k r0
def zl6 (zcX:Term→Term→Bool×Int) (x_:Term) (y_:Term):=(zy4 zcX x_ y_).fin default
theorem zFb (zcX:Term→Term→Bool×Int) (zHI:SdP 63 (zf6 zcX)):SdP 137 (zf6 (zl6 zcX)):=
 sT (cx':=(zII zcX)) (zi ⟨zHI,zmF,zsl,trivial⟩) call137 func137 (lOK aN)
def z1y:=zbq base 6 []
def zOn (x_:Int):Wy0 (Bool):=.k (x_ != x_)
def ztd (x_:Int):=(zOn x_).fin default
def zIk:=zh zZE fun x=>((ztd x.1).1,zVj (ztd x.1).2)
theorem zWc:SdP 159 zIk:=
 sT (cx':=z1y) (zi trivial) call159 func159 (lOK aN)
def zX9:=zbq base 20 [(159,zIk)]
def zJI (x_:Int) (y_:Int):Wy0 (Int):=.i ((ztd x_).2) (.i ((ztd y_).2) (.k 0) (.k (-1:Int))) (.i ((ztd y_).2) (.k 1) (.i (decide (x_<y_)) (.k (-1:Int)) (.i (decide (x_>y_)) (.k 1) (.k 0))))
def zdZ (x_:Int) (y_:Int):=(zJI x_ y_).fin default
def zlc:=zh zVI fun x=>((zdZ x.1 x.2.1).1,zPQ (zdZ x.1 x.2.1).2)
theorem zn6:SdP 121 zlc:=
 sT (cx':=zX9) (zi ⟨zWc,trivial⟩) call121 func121 (lOK aN)
end Go.Proofs.YtljlfiomikifjaaGreatDoor
/-
 DERIVED:THE SHELF's CONTRACTS AT THIS DUMP,IN PLAIN WORDS (tools/lay-plain.mjs out of 'TryzShelf.lean',which tools/lay-shelf.mjs wrote):THE SAME DECLARATIONS UNDER THE SAME NAMES:'import','namespace','open','def','theorem' AND NOTHING ELSE:no command of the shelf's:FOR A HAND-IN. Each laying:the table of numbers ('.._ren') and one theorem,a field a fact of the dump's own or the kernel's comparison; each contract:ONE APPLICATION.
-/
namespace Go.Proofs
open Go.Shelf
def Tryz.sortRow_ren:Go.Shelf.Ren:=⟨fun | 6=>232 | 15=>156 | 14=>251 | 28=>192 | 29=>193 | 20=>270 | 21=>271 | 22=>272 | 23=>273 | 24=>274 | 25=>275 | 26=>276 | 27=>277 | 46=>289 | 47=>222 | 48=>223 | 49=>290 | 50=>291 | 57=>298 | n=>n,fun | 22=>43 | 24=>49 | 25=>102 | 3=>3 | 39=>135 | 0=>0 | 53=>163 | 55=>165 | 4=>4 | 46=>157 | 45=>156 | 50=>123 | 5=>5 | 9=>9 | 66=>191 | 70=>195 | 76=>206 | 77=>207 | n=>n,fun | n=>n⟩
theorem Tryz.sortRow:Go.Proofs.SlLaysF0.n6 Tryz.prog Tryz.sortRow_ren:={
 mixed:=by kernel_rfl
 f6:=⟨f232.name,by decide,func232.trans (congrArg some (by kernel_rfl))⟩
 f14:=⟨f251.name,by decide,func251.trans (congrArg some (by kernel_rfl))⟩
 f15:=func156.trans (congrArg some (by kernel_rfl))
 f20:=⟨f270.name,by decide,func270.trans (congrArg some (by kernel_rfl))⟩
 f21:=⟨f271.name,by decide,func271.trans (congrArg some (by kernel_rfl))⟩
 f22:=⟨f272.name,by decide,func272.trans (congrArg some (by kernel_rfl))⟩
 f23:=⟨f273.name,by decide,func273.trans (congrArg some (by kernel_rfl))⟩
 f24:=⟨f274.name,by decide,func274.trans (congrArg some (by kernel_rfl))⟩
 f25:=⟨f275.name,by decide,func275.trans (congrArg some (by kernel_rfl))⟩
 f26:=⟨f276.name,by decide,func276.trans (congrArg some (by kernel_rfl))⟩
 f27:=⟨f277.name,by decide,func277.trans (congrArg some (by kernel_rfl))⟩
 f28:=func192.trans (congrArg some (by kernel_rfl))
 f29:=func193.trans (congrArg some (by kernel_rfl))
 f46:=⟨f289.name,by decide,func289.trans (congrArg some (by kernel_rfl))⟩
 f47:=func222.trans (congrArg some (by kernel_rfl))
 f48:=func223.trans (congrArg some (by kernel_rfl))
 f49:=⟨f290.name,by decide,func290.trans (congrArg some (by kernel_rfl))⟩
 f50:=⟨f291.name,by decide,func291.trans (congrArg some (by kernel_rfl))⟩
 f57:=⟨f298.name,by decide,func298.trans (congrArg some (by kernel_rfl))⟩
 t0:=underlying0
 a0:=Tryz.isAgg0
 z0:=Tryz.sizeOf0
 v0:=Tryz.zeroValue0
 t3:=underlying3
 a3:=Tryz.isAgg3
 z3:=Tryz.sizeOf3
 v3:=Tryz.zeroValue3
 t4:=underlying4
 a4:=Tryz.isAgg4
 z4:=Tryz.sizeOf4
 v4:=Tryz.zeroValue4
 t5:=underlying5
 a5:=Tryz.isAgg5
 z5:=Tryz.sizeOf5
 v5:=Tryz.zeroValue5
 t9:=underlying9
 a9:=Tryz.isAgg9
 z9:=Tryz.sizeOf9
 v9:=Tryz.zeroValue9
 t22:=underlying43
 a22:=Tryz.isAgg43
 z22:=Tryz.sizeOf43
 v22:=Tryz.zeroValue43
 t25:=underlying102
 a25:=Tryz.isAgg102
 z25:=Tryz.sizeOf102
 v25:=Tryz.zeroValue102
 t39:=underlying135
 a39:=Tryz.isAgg135
 z39:=Tryz.sizeOf135
 v39:=Tryz.zeroValue135
 t45:=underlying156
 a45:=Tryz.isAgg156
 z45:=Tryz.sizeOf156
 v45:=Tryz.zeroValue156
 t46:=underlying157
 a46:=Tryz.isAgg157
 z46:=Tryz.sizeOf157
 v46:=Tryz.zeroValue157
 t50:=underlying123
 a50:=Tryz.isAgg123
 z50:=Tryz.sizeOf123
 v50:=Tryz.zeroValue123
 t53:=underlying163
 a53:=Tryz.isAgg163
 z53:=Tryz.sizeOf163
 v53:=Tryz.zeroValue163
 t55:=underlying165
 a55:=Tryz.isAgg165
 z55:=Tryz.sizeOf165
 v55:=Tryz.zeroValue165
 t66:=underlying191
 a66:=Tryz.isAgg191
 z66:=Tryz.sizeOf191
 v66:=Tryz.zeroValue191
 t70:=underlying195
 a70:=Tryz.isAgg195
 z70:=Tryz.sizeOf195
 v70:=Tryz.zeroValue195
 t76:=underlying206
 a76:=Tryz.isAgg206
 z76:=Tryz.sizeOf206
 v76:=Tryz.zeroValue206
 t77:=underlying207
 a77:=Tryz.isAgg207
 z77:=Tryz.sizeOf207
 v77:=Tryz.zeroValue207 }
def Tryz.sortSet_ren:Go.Shelf.Ren:=⟨fun | 6=>205 | 15=>156 | 14=>235 | 28=>192 | 29=>193 | 20=>252 | 21=>253 | 22=>254 | 23=>255 | 24=>256 | 25=>257 | 26=>258 | 27=>259 | 46=>278 | 47=>222 | 48=>223 | 49=>279 | 50=>280 | 57=>292 | n=>n,fun | 22=>39 | 24=>43 | 25=>86 | 3=>3 | 39=>135 | 0=>0 | 53=>163 | 55=>165 | 4=>4 | 46=>157 | 45=>156 | 50=>123 | 5=>5 | 9=>9 | 66=>191 | 70=>195 | 76=>206 | 77=>207 | n=>n,fun | n=>n⟩
theorem Tryz.sortSet:Go.Proofs.SlLaysF.n6 Tryz.prog Tryz.sortSet_ren:={
 mixed:=by kernel_rfl
 f6:=⟨f205.name,by decide,func205.trans (congrArg some (by kernel_rfl))⟩
 f14:=⟨f235.name,by decide,func235.trans (congrArg some (by kernel_rfl))⟩
 f15:=func156.trans (congrArg some (by kernel_rfl))
 f20:=⟨f252.name,by decide,func252.trans (congrArg some (by kernel_rfl))⟩
 f21:=⟨f253.name,by decide,func253.trans (congrArg some (by kernel_rfl))⟩
 f22:=⟨f254.name,by decide,func254.trans (congrArg some (by kernel_rfl))⟩
 f23:=⟨f255.name,by decide,func255.trans (congrArg some (by kernel_rfl))⟩
 f24:=⟨f256.name,by decide,func256.trans (congrArg some (by kernel_rfl))⟩
 f25:=⟨f257.name,by decide,func257.trans (congrArg some (by kernel_rfl))⟩
 f26:=⟨f258.name,by decide,func258.trans (congrArg some (by kernel_rfl))⟩
 f27:=⟨f259.name,by decide,func259.trans (congrArg some (by kernel_rfl))⟩
 f28:=func192.trans (congrArg some (by kernel_rfl))
 f29:=func193.trans (congrArg some (by kernel_rfl))
 f46:=⟨f278.name,by decide,func278.trans (congrArg some (by kernel_rfl))⟩
 f47:=func222.trans (congrArg some (by kernel_rfl))
 f48:=func223.trans (congrArg some (by kernel_rfl))
 f49:=⟨f279.name,by decide,func279.trans (congrArg some (by kernel_rfl))⟩
 f50:=⟨f280.name,by decide,func280.trans (congrArg some (by kernel_rfl))⟩
 f57:=⟨f292.name,by decide,func292.trans (congrArg some (by kernel_rfl))⟩
 t0:=underlying0
 a0:=Tryz.isAgg0
 z0:=Tryz.sizeOf0
 v0:=Tryz.zeroValue0
 t3:=underlying3
 a3:=Tryz.isAgg3
 z3:=Tryz.sizeOf3
 v3:=Tryz.zeroValue3
 t4:=underlying4
 a4:=Tryz.isAgg4
 z4:=Tryz.sizeOf4
 v4:=Tryz.zeroValue4
 t5:=underlying5
 a5:=Tryz.isAgg5
 z5:=Tryz.sizeOf5
 v5:=Tryz.zeroValue5
 t9:=underlying9
 a9:=Tryz.isAgg9
 z9:=Tryz.sizeOf9
 v9:=Tryz.zeroValue9
 t22:=underlying39
 a22:=Tryz.isAgg39
 z22:=Tryz.sizeOf39
 v22:=Tryz.zeroValue39
 a24:=Tryz.isAgg43
 z24:=Tryz.sizeOf43
 t25:=underlying86
 a25:=Tryz.isAgg86
 z25:=Tryz.sizeOf86
 v25:=Tryz.zeroValue86
 t39:=underlying135
 a39:=Tryz.isAgg135
 z39:=Tryz.sizeOf135
 v39:=Tryz.zeroValue135
 t45:=underlying156
 a45:=Tryz.isAgg156
 z45:=Tryz.sizeOf156
 v45:=Tryz.zeroValue156
 t46:=underlying157
 a46:=Tryz.isAgg157
 z46:=Tryz.sizeOf157
 v46:=Tryz.zeroValue157
 t50:=underlying123
 a50:=Tryz.isAgg123
 z50:=Tryz.sizeOf123
 v50:=Tryz.zeroValue123
 t53:=underlying163
 a53:=Tryz.isAgg163
 z53:=Tryz.sizeOf163
 v53:=Tryz.zeroValue163
 t55:=underlying165
 a55:=Tryz.isAgg165
 z55:=Tryz.sizeOf165
 v55:=Tryz.zeroValue165
 t66:=underlying191
 a66:=Tryz.isAgg191
 z66:=Tryz.sizeOf191
 v66:=Tryz.zeroValue191
 t70:=underlying195
 a70:=Tryz.isAgg195
 z70:=Tryz.sizeOf195
 v70:=Tryz.zeroValue195
 t76:=underlying206
 a76:=Tryz.isAgg206
 z76:=Tryz.sizeOf206
 v76:=Tryz.zeroValue206
 t77:=underlying207
 a77:=Tryz.isAgg207
 z77:=Tryz.sizeOf207
 v77:=Tryz.zeroValue207 }
def Tryz.pdqTerm_ren:Go.Shelf.Ren:=⟨fun | 14=>155 | 20=>184 | 21=>185 | 22=>186 | 23=>187 | 24=>188 | 25=>189 | 26=>190 | 27=>191 | 46=>221 | 47=>222 | 48=>223 | 49=>224 | 50=>225 | 15=>156 | 57=>243 | 28=>192 | 29=>193 | n=>n,fun | 24=>28 | 22=>22 | 3=>3 | 25=>79 | 4=>4 | 0=>0 | 46=>157 | 45=>156 | 50=>123 | 66=>191 | 39=>135 | 55=>165 | 70=>195 | 76=>206 | 77=>207 | 53=>163 | 5=>5 | 9=>9 | n=>n,fun | n=>n⟩
theorem Tryz.pdqTerm:Go.Proofs.SlLaysF0.n14 Tryz.prog Tryz.pdqTerm_ren:={
 mixed:=by kernel_rfl
 f14:=⟨f155.name,by decide,func155.trans (congrArg some (by kernel_rfl))⟩
 f15:=func156.trans (congrArg some (by kernel_rfl))
 f20:=⟨f184.name,by decide,func184.trans (congrArg some (by kernel_rfl))⟩
 f21:=⟨f185.name,by decide,func185.trans (congrArg some (by kernel_rfl))⟩
 f22:=⟨f186.name,by decide,func186.trans (congrArg some (by kernel_rfl))⟩
 f23:=⟨f187.name,by decide,func187.trans (congrArg some (by kernel_rfl))⟩
 f24:=⟨f188.name,by decide,func188.trans (congrArg some (by kernel_rfl))⟩
 f25:=⟨f189.name,by decide,func189.trans (congrArg some (by kernel_rfl))⟩
 f26:=⟨f190.name,by decide,func190.trans (congrArg some (by kernel_rfl))⟩
 f27:=⟨f191.name,by decide,func191.trans (congrArg some (by kernel_rfl))⟩
 f28:=func192.trans (congrArg some (by kernel_rfl))
 f29:=func193.trans (congrArg some (by kernel_rfl))
 f46:=⟨f221.name,by decide,func221.trans (congrArg some (by kernel_rfl))⟩
 f47:=func222.trans (congrArg some (by kernel_rfl))
 f48:=func223.trans (congrArg some (by kernel_rfl))
 f49:=⟨f224.name,by decide,func224.trans (congrArg some (by kernel_rfl))⟩
 f50:=⟨f225.name,by decide,func225.trans (congrArg some (by kernel_rfl))⟩
 f57:=⟨f243.name,by decide,func243.trans (congrArg some (by kernel_rfl))⟩
 t0:=underlying0
 a0:=Tryz.isAgg0
 z0:=Tryz.sizeOf0
 v0:=Tryz.zeroValue0
 t3:=underlying3
 a3:=Tryz.isAgg3
 z3:=Tryz.sizeOf3
 v3:=Tryz.zeroValue3
 t4:=underlying4
 a4:=Tryz.isAgg4
 z4:=Tryz.sizeOf4
 v4:=Tryz.zeroValue4
 t5:=underlying5
 a5:=Tryz.isAgg5
 z5:=Tryz.sizeOf5
 v5:=Tryz.zeroValue5
 t9:=underlying9
 a9:=Tryz.isAgg9
 z9:=Tryz.sizeOf9
 v9:=Tryz.zeroValue9
 t22:=underlying22
 a22:=Tryz.isAgg22
 z22:=Tryz.sizeOf22
 v22:=Tryz.zeroValue22
 t25:=underlying79
 a25:=Tryz.isAgg79
 z25:=Tryz.sizeOf79
 v25:=Tryz.zeroValue79
 t39:=underlying135
 a39:=Tryz.isAgg135
 z39:=Tryz.sizeOf135
 v39:=Tryz.zeroValue135
 t45:=underlying156
 a45:=Tryz.isAgg156
 z45:=Tryz.sizeOf156
 v45:=Tryz.zeroValue156
 t46:=underlying157
 a46:=Tryz.isAgg157
 z46:=Tryz.sizeOf157
 v46:=Tryz.zeroValue157
 t50:=underlying123
 a50:=Tryz.isAgg123
 z50:=Tryz.sizeOf123
 v50:=Tryz.zeroValue123
 t53:=underlying163
 a53:=Tryz.isAgg163
 z53:=Tryz.sizeOf163
 v53:=Tryz.zeroValue163
 t55:=underlying165
 a55:=Tryz.isAgg165
 z55:=Tryz.sizeOf165
 v55:=Tryz.zeroValue165
 t66:=underlying191
 a66:=Tryz.isAgg191
 z66:=Tryz.sizeOf191
 v66:=Tryz.zeroValue191
 t70:=underlying195
 a70:=Tryz.isAgg195
 z70:=Tryz.sizeOf195
 v70:=Tryz.zeroValue195
 t76:=underlying206
 a76:=Tryz.isAgg206
 z76:=Tryz.sizeOf206
 v76:=Tryz.zeroValue206
 t77:=underlying207
 a77:=Tryz.isAgg207
 z77:=Tryz.sizeOf207
 v77:=Tryz.zeroValue207 }
def Tryz.insW_ren:Go.Shelf.Ren:=⟨fun | 20=>281 | n=>n,fun | 24=>100 | 22=>63 | 3=>3 | 25=>114 | 4=>4 | 0=>0 | n=>n,fun | n=>n⟩
theorem Tryz.insW:Go.Proofs.SlLaysF0.n20 Tryz.prog Tryz.insW_ren:={
 mixed:=by kernel_rfl
 f20:=⟨f281.name,by decide,func281.trans (congrArg some (by kernel_rfl))⟩
 t0:=underlying0
 a0:=Tryz.isAgg0
 z0:=Tryz.sizeOf0
 v0:=Tryz.zeroValue0
 t3:=underlying3
 a3:=Tryz.isAgg3
 z3:=Tryz.sizeOf3
 v3:=Tryz.zeroValue3
 t4:=underlying4
 a4:=Tryz.isAgg4
 z4:=Tryz.sizeOf4
 v4:=Tryz.zeroValue4
 t22:=underlying63
 a22:=Tryz.isAgg63
 z22:=Tryz.sizeOf63
 v22:=Tryz.zeroValue63
 t25:=underlying114
 a25:=Tryz.isAgg114
 z25:=Tryz.sizeOf114
 v25:=Tryz.zeroValue114 }
def Tryz.lays106_ren:Go.Shelf.Ren:=⟨fun | 106=>160 | 213=>194 | 265=>226 | n=>n,fun | 9=>9 | 3=>3 | n=>n,fun | n=>n⟩
theorem Tryz.lays106:Go.Proofs.Lays.n106 Tryz.prog Tryz.lays106_ren:={
 mixed:=by kernel_rfl
 f106:=func160.trans (congrArg some (by kernel_rfl))
 f213:=func194.trans (congrArg some (by kernel_rfl))
 f265:=func226.trans (congrArg some (by kernel_rfl))
 t3:=underlying3
 a3:=Tryz.isAgg3
 z3:=Tryz.sizeOf3
 v3:=Tryz.zeroValue3
 t9:=underlying9
 a9:=Tryz.isAgg9
 z9:=Tryz.sizeOf9
 v9:=Tryz.zeroValue9 }
def Tryz.lays125_ren:Go.Shelf.Ren:=⟨fun | 125=>156 | 128=>192 | 129=>193 | n=>n,fun | 46=>135 | 3=>3 | 51=>163 | 53=>165 | 4=>4 | 5=>5 | 9=>9 | n=>n,fun | n=>n⟩
theorem Tryz.lays125:Go.Proofs.Lays.n125 Tryz.prog Tryz.lays125_ren:={
 mixed:=by kernel_rfl
 f125:=func156.trans (congrArg some (by kernel_rfl))
 f128:=func192.trans (congrArg some (by kernel_rfl))
 f129:=func193.trans (congrArg some (by kernel_rfl))
 t3:=underlying3
 a3:=Tryz.isAgg3
 z3:=Tryz.sizeOf3
 v3:=Tryz.zeroValue3
 t4:=underlying4
 a4:=Tryz.isAgg4
 z4:=Tryz.sizeOf4
 v4:=Tryz.zeroValue4
 t5:=underlying5
 a5:=Tryz.isAgg5
 z5:=Tryz.sizeOf5
 v5:=Tryz.zeroValue5
 t9:=underlying9
 a9:=Tryz.isAgg9
 z9:=Tryz.sizeOf9
 v9:=Tryz.zeroValue9
 t46:=underlying135
 a46:=Tryz.isAgg135
 z46:=Tryz.sizeOf135
 v46:=Tryz.zeroValue135
 t51:=underlying163
 a51:=Tryz.isAgg163
 z51:=Tryz.sizeOf163
 v51:=Tryz.zeroValue163
 t53:=underlying165
 a53:=Tryz.isAgg165
 z53:=Tryz.sizeOf165
 v53:=Tryz.zeroValue165 }
def Tryz.laysM173_ren:Go.Shelf.Ren:=⟨fun | 173=>227 | 246=>229 | 283=>245 | 284=>246 | 285=>247 | 286=>248 | 129=>193 | 317=>266 | 318=>267 | 319=>268 | 320=>269 | 337=>287 | 338=>288 | n=>n,fun | 2=>2 | 3=>3 | 9=>9 | 4=>4 | 171=>210 | 0=>0 | 53=>165 | 37=>171 | 5=>5 | 173=>212 | 212=>229 | 51=>163 | 20=>20 | 213=>230 | 46=>135 | 232=>249 | 233=>250 | n=>n,fun | 17=>1 | 18=>4 | 19=>5 | n=>n⟩
theorem Tryz.laysM173:Go.Proofs.LaysM.n173 Tryz.prog Tryz.laysM173_ren:={
 mixed:=by kernel_rfl
 f129:=func193.trans (congrArg some (by kernel_rfl))
 f173:=func227.trans (congrArg some (by kernel_rfl))
 f246:=func229.trans (congrArg some (by kernel_rfl))
 f283:=func245.trans (congrArg some (by kernel_rfl))
 f284:=func246.trans (congrArg some (by kernel_rfl))
 f285:=func247.trans (congrArg some (by kernel_rfl))
 f286:=func248.trans (congrArg some (by kernel_rfl))
 f317:=func266.trans (congrArg some (by kernel_rfl))
 f318:=func267.trans (congrArg some (by kernel_rfl))
 f319:=func268.trans (congrArg some (by kernel_rfl))
 f320:=func269.trans (congrArg some (by kernel_rfl))
 f337:=func287.trans (congrArg some (by kernel_rfl))
 f338:=func288.trans (congrArg some (by kernel_rfl))
 t0:=underlying0
 a0:=Tryz.isAgg0
 z0:=Tryz.sizeOf0
 v0:=Tryz.zeroValue0
 t2:=underlying2
 a2:=Tryz.isAgg2
 z2:=Tryz.sizeOf2
 v2:=Tryz.zeroValue2
 t3:=underlying3
 a3:=Tryz.isAgg3
 z3:=Tryz.sizeOf3
 v3:=Tryz.zeroValue3
 t4:=underlying4
 a4:=Tryz.isAgg4
 z4:=Tryz.sizeOf4
 v4:=Tryz.zeroValue4
 t5:=underlying5
 a5:=Tryz.isAgg5
 z5:=Tryz.sizeOf5
 v5:=Tryz.zeroValue5
 t9:=underlying9
 a9:=Tryz.isAgg9
 z9:=Tryz.sizeOf9
 v9:=Tryz.zeroValue9
 t20:=underlying20
 a20:=Tryz.isAgg20
 z20:=Tryz.sizeOf20
 v20:=Tryz.zeroValue20
 t37:=underlying171
 a37:=Tryz.isAgg171
 z37:=Tryz.sizeOf171
 v37:=Tryz.zeroValue171
 t46:=underlying135
 a46:=Tryz.isAgg135
 z46:=Tryz.sizeOf135
 v46:=Tryz.zeroValue135
 t51:=underlying163
 a51:=Tryz.isAgg163
 z51:=Tryz.sizeOf163
 v51:=Tryz.zeroValue163
 t53:=underlying165
 a53:=Tryz.isAgg165
 z53:=Tryz.sizeOf165
 v53:=Tryz.zeroValue165
 t171:=underlying210
 a171:=Tryz.isAgg210
 z171:=Tryz.sizeOf210
 v171:=Tryz.zeroValue210
 t173:=underlying212
 a173:=Tryz.isAgg212
 z173:=Tryz.sizeOf212
 v173:=Tryz.zeroValue212
 t212:=underlying229
 a212:=Tryz.isAgg229
 z212:=Tryz.sizeOf229
 v212:=Tryz.zeroValue229
 t213:=underlying230
 a213:=Tryz.isAgg230
 z213:=Tryz.sizeOf230
 t232:=underlying249
 a232:=Tryz.isAgg249
 z232:=Tryz.sizeOf249
 v232:=Tryz.zeroValue249
 t233:=underlying250
 a233:=Tryz.isAgg250
 z233:=Tryz.sizeOf250
 v233:=Tryz.zeroValue250
 g17:=by kernel_rfl
 g18:=by kernel_rfl
 g19:=by kernel_rfl
 i0:=by kernel_rfl
 i2:=by kernel_rfl
 i3:=by kernel_rfl
 i4:=by kernel_rfl
 i5:=by kernel_rfl
 i9:=by kernel_rfl
 i20:=by kernel_rfl
 i37:=by kernel_rfl
 i46:=by kernel_rfl
 i51:=by kernel_rfl
 i53:=by kernel_rfl
 i171:=by kernel_rfl
 i173:=by kernel_rfl
 i212:=by kernel_rfl
 i232:=by kernel_rfl
 i233:=by kernel_rfl
 m17:=by kernel_rfl
 m18:=by kernel_rfl
 m19:=by kernel_rfl }
def Tryz.laysM171_ren:Go.Shelf.Ren:=⟨fun | 171=>168 | 243=>200 | 246=>229 | 283=>245 | 284=>246 | 285=>247 | 286=>248 | 129=>193 | 317=>266 | 318=>267 | 319=>268 | 320=>269 | 337=>287 | 338=>288 | n=>n,fun | 3=>3 | 9=>9 | 2=>2 | 4=>4 | 171=>210 | 0=>0 | 53=>165 | 37=>171 | 5=>5 | 173=>212 | 212=>229 | 51=>163 | 20=>20 | 213=>230 | 46=>135 | 232=>249 | 233=>250 | n=>n,fun | 17=>1 | 18=>4 | 19=>5 | n=>n⟩
theorem Tryz.laysM171:Go.Proofs.LaysM.n171 Tryz.prog Tryz.laysM171_ren:={
 mixed:=by kernel_rfl
 f129:=func193.trans (congrArg some (by kernel_rfl))
 f171:=func168.trans (congrArg some (by kernel_rfl))
 f243:=func200.trans (congrArg some (by kernel_rfl))
 f246:=func229.trans (congrArg some (by kernel_rfl))
 f283:=func245.trans (congrArg some (by kernel_rfl))
 f284:=func246.trans (congrArg some (by kernel_rfl))
 f285:=func247.trans (congrArg some (by kernel_rfl))
 f286:=func248.trans (congrArg some (by kernel_rfl))
 f317:=func266.trans (congrArg some (by kernel_rfl))
 f318:=func267.trans (congrArg some (by kernel_rfl))
 f319:=func268.trans (congrArg some (by kernel_rfl))
 f320:=func269.trans (congrArg some (by kernel_rfl))
 f337:=func287.trans (congrArg some (by kernel_rfl))
 f338:=func288.trans (congrArg some (by kernel_rfl))
 t0:=underlying0
 a0:=Tryz.isAgg0
 z0:=Tryz.sizeOf0
 v0:=Tryz.zeroValue0
 t2:=underlying2
 a2:=Tryz.isAgg2
 z2:=Tryz.sizeOf2
 v2:=Tryz.zeroValue2
 t3:=underlying3
 a3:=Tryz.isAgg3
 z3:=Tryz.sizeOf3
 v3:=Tryz.zeroValue3
 t4:=underlying4
 a4:=Tryz.isAgg4
 z4:=Tryz.sizeOf4
 v4:=Tryz.zeroValue4
 t5:=underlying5
 a5:=Tryz.isAgg5
 z5:=Tryz.sizeOf5
 v5:=Tryz.zeroValue5
 t9:=underlying9
 a9:=Tryz.isAgg9
 z9:=Tryz.sizeOf9
 v9:=Tryz.zeroValue9
 t20:=underlying20
 a20:=Tryz.isAgg20
 z20:=Tryz.sizeOf20
 v20:=Tryz.zeroValue20
 t37:=underlying171
 a37:=Tryz.isAgg171
 z37:=Tryz.sizeOf171
 v37:=Tryz.zeroValue171
 t46:=underlying135
 a46:=Tryz.isAgg135
 z46:=Tryz.sizeOf135
 v46:=Tryz.zeroValue135
 t51:=underlying163
 a51:=Tryz.isAgg163
 z51:=Tryz.sizeOf163
 v51:=Tryz.zeroValue163
 t53:=underlying165
 a53:=Tryz.isAgg165
 z53:=Tryz.sizeOf165
 v53:=Tryz.zeroValue165
 t171:=underlying210
 a171:=Tryz.isAgg210
 z171:=Tryz.sizeOf210
 v171:=Tryz.zeroValue210
 t173:=underlying212
 a173:=Tryz.isAgg212
 z173:=Tryz.sizeOf212
 v173:=Tryz.zeroValue212
 t212:=underlying229
 a212:=Tryz.isAgg229
 z212:=Tryz.sizeOf229
 v212:=Tryz.zeroValue229
 t213:=underlying230
 a213:=Tryz.isAgg230
 z213:=Tryz.sizeOf230
 t232:=underlying249
 a232:=Tryz.isAgg249
 z232:=Tryz.sizeOf249
 v232:=Tryz.zeroValue249
 t233:=underlying250
 a233:=Tryz.isAgg250
 z233:=Tryz.sizeOf250
 v233:=Tryz.zeroValue250
 g17:=by kernel_rfl
 g18:=by kernel_rfl
 g19:=by kernel_rfl
 i0:=by kernel_rfl
 i2:=by kernel_rfl
 i3:=by kernel_rfl
 i4:=by kernel_rfl
 i5:=by kernel_rfl
 i9:=by kernel_rfl
 i20:=by kernel_rfl
 i37:=by kernel_rfl
 i46:=by kernel_rfl
 i51:=by kernel_rfl
 i53:=by kernel_rfl
 i171:=by kernel_rfl
 i173:=by kernel_rfl
 i212:=by kernel_rfl
 i232:=by kernel_rfl
 i233:=by kernel_rfl
 m17:=by kernel_rfl
 m18:=by kernel_rfl
 m19:=by kernel_rfl }
def Tryz.lays155_ren:Go.Shelf.Ren:=⟨fun | 155=>228 | 154=>244 | 138=>263 | 165=>201 | 143=>264 | 166=>202 | 197=>265 | 169=>203 | 195=>283 | 218=>284 | 240=>230 | 241=>231 | 219=>285 | 260=>286 | 276=>249 | 277=>250 | 217=>294 | 225=>295 | 224=>296 | 267=>297 | 266=>300 | 314=>301 | n=>n,fun | 9=>9 | 3=>3 | 4=>4 | 72=>173 | 0=>0 | 76=>177 | 105=>226 | 21=>21 | 5=>5 | 70=>170 | 20=>20 | 37=>171 | 75=>176 | 127=>199 | 164=>214 | 46=>135 | 119=>245 | 139=>248 | 138=>247 | 146=>252 | 51=>163 | 80=>179 | n=>n,fun | 1=>0 | 3=>2 | 4=>3 | n=>n⟩
theorem Tryz.lays155:Go.Proofs.Lays.n155 Tryz.prog Tryz.lays155_ren:={
 mixed:=by kernel_rfl
 f138:=func263.trans (congrArg some (by kernel_rfl))
 f143:=func264.trans (congrArg some (by kernel_rfl))
 f154:=func244.trans (congrArg some (by kernel_rfl))
 f155:=func228.trans (congrArg some (by kernel_rfl))
 f165:=func201.trans (congrArg some (by kernel_rfl))
 f166:=func202.trans (congrArg some (by kernel_rfl))
 f169:=func203.trans (congrArg some (by kernel_rfl))
 f195:=func283.trans (congrArg some (by kernel_rfl))
 f197:=func265.trans (congrArg some (by kernel_rfl))
 f217:=func294.trans (congrArg some (by kernel_rfl))
 f218:=func284.trans (congrArg some (by kernel_rfl))
 f219:=func285.trans (congrArg some (by kernel_rfl))
 f224:=func296.trans (congrArg some (by kernel_rfl))
 f225:=func295.trans (congrArg some (by kernel_rfl))
 f240:=func230.trans (congrArg some (by kernel_rfl))
 f241:=func231.trans (congrArg some (by kernel_rfl))
 f260:=func286.trans (congrArg some (by kernel_rfl))
 f266:=func300.trans (congrArg some (by kernel_rfl))
 f267:=func297.trans (congrArg some (by kernel_rfl))
 f276:=func249.trans (congrArg some (by kernel_rfl))
 f277:=func250.trans (congrArg some (by kernel_rfl))
 f314:=func301.trans (congrArg some (by kernel_rfl))
 t0:=underlying0
 a0:=Tryz.isAgg0
 z0:=Tryz.sizeOf0
 v0:=Tryz.zeroValue0
 t3:=underlying3
 a3:=Tryz.isAgg3
 z3:=Tryz.sizeOf3
 v3:=Tryz.zeroValue3
 t4:=underlying4
 a4:=Tryz.isAgg4
 z4:=Tryz.sizeOf4
 v4:=Tryz.zeroValue4
 t5:=underlying5
 a5:=Tryz.isAgg5
 z5:=Tryz.sizeOf5
 v5:=Tryz.zeroValue5
 t9:=underlying9
 a9:=Tryz.isAgg9
 z9:=Tryz.sizeOf9
 v9:=Tryz.zeroValue9
 t20:=underlying20
 a20:=Tryz.isAgg20
 z20:=Tryz.sizeOf20
 v20:=Tryz.zeroValue20
 t21:=underlying21
 a21:=Tryz.isAgg21
 z21:=Tryz.sizeOf21
 v21:=Tryz.zeroValue21
 t37:=underlying171
 a37:=Tryz.isAgg171
 z37:=Tryz.sizeOf171
 v37:=Tryz.zeroValue171
 t46:=underlying135
 a46:=Tryz.isAgg135
 z46:=Tryz.sizeOf135
 v46:=Tryz.zeroValue135
 t51:=underlying163
 a51:=Tryz.isAgg163
 z51:=Tryz.sizeOf163
 v51:=Tryz.zeroValue163
 t70:=underlying170
 a70:=Tryz.isAgg170
 z70:=Tryz.sizeOf170
 v70:=Tryz.zeroValue170
 t72:=underlying173
 a72:=Tryz.isAgg173
 z72:=Tryz.sizeOf173
 v72:=Tryz.zeroValue173
 t75:=underlying176
 a75:=Tryz.isAgg176
 z75:=Tryz.sizeOf176
 v75:=Tryz.zeroValue176
 t76:=underlying177
 a76:=Tryz.isAgg177
 z76:=Tryz.sizeOf177
 v76:=Tryz.zeroValue177
 t105:=underlying226
 a105:=Tryz.isAgg226
 z105:=Tryz.sizeOf226
 v105:=Tryz.zeroValue226
 t119:=underlying245
 a119:=Tryz.isAgg245
 z119:=Tryz.sizeOf245
 t127:=underlying199
 a127:=Tryz.isAgg199
 z127:=Tryz.sizeOf199
 v127:=Tryz.zeroValue199
 t138:=underlying247
 a138:=Tryz.isAgg247
 z138:=Tryz.sizeOf247
 v138:=Tryz.zeroValue247
 t139:=underlying248
 a139:=Tryz.isAgg248
 z139:=Tryz.sizeOf248
 v139:=Tryz.zeroValue248
 t146:=underlying252
 a146:=Tryz.isAgg252
 z146:=Tryz.sizeOf252
 v146:=Tryz.zeroValue252
 t164:=underlying214
 a164:=Tryz.isAgg214
 z164:=Tryz.sizeOf214
 v164:=Tryz.zeroValue214
 g1:=by kernel_rfl
 g3:=by kernel_rfl
 g4:=by kernel_rfl }
theorem Tryz.Builder_Extra_155:Builder.Extra Tryz.prog Tryz.lays155_ren:={
 sizeBuilder:=by kernel_rfl
 liesBuilder:=by kernel_rfl
 t5:=underlying5
 a5:=Tryz.isAgg5
 z5:=Tryz.sizeOf5
 v5:=Tryz.zeroValue5
 infoByte:=by kernel_rfl
 cellsByte:=by kernel_rfl
 sizeByte:=by kernel_rfl
 neB5:=by decide }
def Tryz.lays156_ren:Go.Shelf.Ren:=⟨fun | 156=>169 | 165=>201 | 166=>202 | 169=>203 | 240=>230 | 241=>231 | 276=>249 | 277=>250 | n=>n,fun | 31=>144 | 9=>9 | 3=>3 | 4=>4 | 0=>0 | 20=>20 | 72=>173 | 76=>177 | 70=>170 | 37=>171 | 75=>176 | 127=>199 | 164=>214 | 5=>5 | 80=>179 | n=>n,fun | n=>n⟩
theorem Tryz.lays156:Go.Proofs.Lays.n156 Tryz.prog Tryz.lays156_ren:={
 mixed:=by kernel_rfl
 f156:=func169.trans (congrArg some (by kernel_rfl))
 f165:=func201.trans (congrArg some (by kernel_rfl))
 f166:=func202.trans (congrArg some (by kernel_rfl))
 f169:=func203.trans (congrArg some (by kernel_rfl))
 f240:=func230.trans (congrArg some (by kernel_rfl))
 f241:=func231.trans (congrArg some (by kernel_rfl))
 f276:=func249.trans (congrArg some (by kernel_rfl))
 f277:=func250.trans (congrArg some (by kernel_rfl))
 t0:=underlying0
 a0:=Tryz.isAgg0
 z0:=Tryz.sizeOf0
 v0:=Tryz.zeroValue0
 t3:=underlying3
 a3:=Tryz.isAgg3
 z3:=Tryz.sizeOf3
 v3:=Tryz.zeroValue3
 t4:=underlying4
 a4:=Tryz.isAgg4
 z4:=Tryz.sizeOf4
 v4:=Tryz.zeroValue4
 t9:=underlying9
 a9:=Tryz.isAgg9
 z9:=Tryz.sizeOf9
 v9:=Tryz.zeroValue9
 t20:=underlying20
 a20:=Tryz.isAgg20
 z20:=Tryz.sizeOf20
 v20:=Tryz.zeroValue20
 t31:=underlying144
 a31:=Tryz.isAgg144
 z31:=Tryz.sizeOf144
 v31:=Tryz.zeroValue144
 t37:=underlying171
 a37:=Tryz.isAgg171
 z37:=Tryz.sizeOf171
 v37:=Tryz.zeroValue171
 t70:=underlying170
 a70:=Tryz.isAgg170
 z70:=Tryz.sizeOf170
 v70:=Tryz.zeroValue170
 t72:=underlying173
 a72:=Tryz.isAgg173
 z72:=Tryz.sizeOf173
 v72:=Tryz.zeroValue173
 t75:=underlying176
 a75:=Tryz.isAgg176
 z75:=Tryz.sizeOf176
 v75:=Tryz.zeroValue176
 t76:=underlying177
 a76:=Tryz.isAgg177
 z76:=Tryz.sizeOf177
 v76:=Tryz.zeroValue177
 t127:=underlying199
 a127:=Tryz.isAgg199
 z127:=Tryz.sizeOf199
 v127:=Tryz.zeroValue199
 t164:=underlying214
 a164:=Tryz.isAgg214
 z164:=Tryz.sizeOf214
 v164:=Tryz.zeroValue214 }
theorem Tryz.Builder_Extra_156:Builder.Extra Tryz.prog Tryz.lays156_ren:={
 sizeBuilder:=by kernel_rfl
 liesBuilder:=by kernel_rfl
 t5:=underlying5
 a5:=Tryz.isAgg5
 z5:=Tryz.sizeOf5
 v5:=Tryz.zeroValue5
 infoByte:=by kernel_rfl
 cellsByte:=by kernel_rfl
 sizeByte:=by kernel_rfl
 neB5:=by decide }
end Go.Proofs
namespace Go.Proofs.YtljlfiomikifjaaGreatDoor
open Go Go.Ab
open Go.Proofs.Tryz
def strings_Compare (s p:ByteArray):Bool×Int:=zLg s p
def zET:Ab.Spec ty:=zh (cx:=base) (zd (ze zyr) (zd (ze zyr) zr)) fun x=>((strings_Compare x.1 x.2.1).1,⟨[.pure (.lit (.int .i64 (strings_Compare x.1 x.2.1).2))],[]⟩)
theorem zQD:SdP 160 zET:=z7o zgL Go.Proofs.Tryz.lays106 call160
end Go.Proofs.YtljlfiomikifjaaGreatDoor
namespace Go.Proofs.YtljlfiomikifjaaGreatDoor
open Go Go.Ab
open Go.Proofs.Tryz
def z2N:=zbq base 22 [(120,zlB),(121,zlc),(138,zm3),(160,zET)]
def zOw (a:Value) (b:Value):Wy0 (Int):=.bn (zdZ a.Kind b.Kind) fun r2=>.bn (zjg a.Int b.Int) fun r1=>.bn (zmR [r2,r1,(strings_Compare a.Text b.Text).2]) fun r0=>.k r0
def ztc (a:Value) (b:Value):=(zOw a b).fin default
def z28:AL base (Value×Value×Unit):=zd (ze (zcG 65)) (zd (ze (zcG 65)) zr)
def zzQ:=zh z28 fun x=>((ztc x.1 x.2.1).1,zPQ (ztc x.1 x.2.1).2)
theorem zFs:SdP 125 zzQ:=
 sT (cx':=z2N) (zi ⟨zmF,zn6,zsl,zQD,trivial⟩) call125 func125 (lOK aN)
def zGJ (zA:yC→yC→Bool×Int) (zx:yA→yA→Bool×Int) (zD:yE→yE→Bool×Int) (zF:Wd→Wd→Bool×Int):=zbq base 51 [(67,(zej zA)),(120,zlB),(121,zlc),(122,(zbu zx)),(123,(zbM zD)),(124,(zek zF)),(125,zzQ)]
def zwB (zA:yC→yC→Bool×Int) (zx:yA→yA→Bool×Int) (zD:yE→yE→Bool×Int) (zF:Wd→Wd→Bool×Int) (a:At) (b:At):Wy0 (Int):=.bn (zdZ a.Kind b.Kind) fun r8=>.bn (zdZ a.Row.Table b.Row.Table) fun r7=>.bn (zdZ a.Row.Seq b.Row.Seq) fun r6=>.bn (zx a.Ag b.Ag) fun r5=>.bn (zdZ a.Func b.Func) fun r4=>.bn (zD a.Items b.Items) fun r3=>.bn (zdZ a.Op b.Op) fun r2=>.bn (ztc a.Bd b.Bd) fun r1=>.bn (zmR [r8,r7,r6,r5,r4,r3,r2,r1]) fun r0=>.k r0
def zkL (zA:yC→yC→Bool×Int) (zx:yA→yA→Bool×Int) (zD:yE→yE→Bool×Int) (zF:Wd→Wd→Bool×Int) (a:At) (b:At):=(zwB zA zx zD zF a b).fin default
theorem zDH (zA:yC→yC→Bool×Int) (zx:yA→yA→Bool×Int) (zD:yE→yE→Bool×Int) (zF:Wd→Wd→Bool×Int) (zjS:SdP 67 (zej zA)) (zfH:SdP 122 (zbu zx)) (zg3:SdP 123 (zbM zD)) (znq:SdP 124 (zek zF)):SdP 65 (zg9 (zkL zA zx zD zF)):=
 sT (cx':=(zGJ zA zx zD zF)) (zi ⟨zjS,zmF,zn6,zfH,zg3,znq,zFs,trivial⟩) call65 func65 (lOK aN)
def zEP (zcU:At→At→Bool×Int):=zbq base 17 [(65,(zg9 zcU)),(120,zlB),(121,zlc)]
def zuN (zcU:At→At→Bool×Int) (a:Fc) (b:Fc):Wy0 (Int):=.bn (zcU (At.mk a.At.Kind a.At.Row a.At.Ag a.At.Func a.At.Items a.At.Op a.At.Bd) (At.mk b.At.Kind b.At.Row b.At.Ag b.At.Func b.At.Items b.At.Op b.At.Bd)) fun r2=>.bn (zdZ a.Exp b.Exp) fun r1=>.bn (zmR [r2,r1]) fun r0=>.k r0
def zju (zcU:At→At→Bool×Int) (a:Fc) (b:Fc):=(zuN zcU a b).fin default
theorem zCg (zcU:At→At→Bool×Int) (zG4:SdP 65 (zg9 zcU)):SdP 119 (zeG (zju zcU)):=
 sT (cx':=(zEP zcU)) (zi ⟨zG4,zmF,zn6,trivial⟩) call119 func119 (lOK aN)
def zFW (zA:yC→yC→Bool×Int):=zbq base 17 [(67,(zej zA)),(120,zlB),(125,zzQ)]
def zwy (zA:yC→yC→Bool×Int) (a:Wd) (b:Wd):Wy0 (Int):=.bn (ztc a.Value b.Value) fun r2=>.bn (zA a.Ann b.Ann) fun r1=>.bn (zmR [r2,r1]) fun r0=>.k r0
def zkC (zA:yC→yC→Bool×Int) (a:Wd) (b:Wd):=(zwy zA a b).fin default
theorem zDI (zA:yC→yC→Bool×Int) (zjS:SdP 67 (zej zA)):SdP 124 (zek (zkC zA)):=
 sT (cx':=(zFW zA)) (zi ⟨zjS,zmF,zFs,trivial⟩) call124 func124 (lOK aN)
def zGy (zP:yD→yD→Bool×Int) (zy:Fc→Fc→Bool×Int):=zbq base 10 [(118,(zbZ zP)),(119,(zeG zy))]
def zww (zP:yD→yD→Bool×Int) (zy:Fc→Fc→Bool×Int) (a:Term) (b:Term):Wy0 (Int):=.bn (zP a.Fs b.Fs) fun r0=>.k r0
def zkO (zP:yD→yD→Bool×Int) (zy:Fc→Fc→Bool×Int) (a:Term) (b:Term):=(zww zP zy a b).fin default
theorem zDK (zP:yD→yD→Bool×Int) (zy:Fc→Fc→Bool×Int) (zjd:SdP 118 (zbZ zP)) (zlV:SdP 119 (zeG zy)):SdP 63 (zf6 (zkO zP zy)):=
 sT (cx':=(zGy zP zy)) (zi ⟨zjd,zlV,trivial⟩) call63 func63 (lOK aN)
abbrev zbI:=yA×yA×Unit×yA×Int×Int×Unit
abbrev zdx:=Int⊕(yA×yA)
def zfu (zA:yC→yC→Bool×Int) (s1:yA) (s2:yA) (t11:yA) (t12:Int) (t13:Int):Wy zbI (Unit) zdx:=.i (decide (t13<t12)) (.i (decide (0≤t13)&&decide (t13<Int.ofNat t11.length)) (.i (decide (t13≥Int.ofNat s2.length)) (.k (.inl 1)) (.i (decide (0≤t13)&&decide (t13<Int.ofNat s2.length)) (.bn (zA (t11.getD t13.toNat default) (s2.getD t13.toNat default)) fun r0=>.i (r0 != 0) (.k (.inl (r0))) (.h (s1,s2,(),t11,t12,(IntKind.i64.wrap (t13+1)),()) ())) .d)) .d) (.k (.inr (s1,s2)))
def zcL (zA:yC→yC→Bool×Int) (x:zbI) (y:Unit):=zfu zA x.1 x.2.1 x.2.2.2.1 x.2.2.2.2.1 x.2.2.2.2.2.1
def zfv (zA:yC→yC→Bool×Int) (n:Nat) (s1:yA) (s2:yA) (t11:yA) (t12:Int) (t13:Int):=zH (zcL zA) (.inl default) n (s1,s2,(),t11,t12,t13,()) ()
def zfl (r:zdx):LTree ty:=.ite (isL r) (.done .ret [.lit (.int .i64 (getL r))] []) (.done (.exit 0) [.sl 23 (getR r).1,.sl 23 (getR r).2] [])
def zfw:LL ty zbI:=za (lSl 23) (za (lSl 23) (za (lFn 67 (zn)) (za (lSl 23) (za zj (za zj zn)))))
def zfm (x:zbI) (y:Unit):Nat:=(x.1.length+x.2.1.length+x.2.2.2.1.length+Int.toNat x.2.2.2.2.1+Int.toNat x.2.2.2.2.2.1+1)
def zcK (zA:yC→yC→Bool×Int):=zb5 base 39 [(67,(zej zA))] [] [(2,(kpL [0,1,2,11,12,13]))] [(2,1,(kpL [0,1])),(2,0,(kpL [6]))] [(2,spW zfw z7V (zcL zA) (.inl default) zfl zfm)] []
theorem zfk (zA:yC→yC→Bool×Int):zM (zcK zA) (lp (body f122) 0):=zw (id:=2) (hl:=rfl)
def zfC (zA:yC→yC→Bool×Int) (s1:yA) (s2:yA):Wy0 (Int):=.bn (zfv zA (s1.length+s2.length+s1.length+(Int.ofNat s1.length).toNat +Int.toNat 0+1) s1 s2 s1 (Int.ofNat s1.length) 0) fun r2=>.i (isL r2) (.k (getL r2)) (.i (decide (Int.ofNat (getR r2).1.length<Int.ofNat (getR r2).2.length)) (.k (-1:Int)) (.k 0))
def zbw (zA:yC→yC→Bool×Int) (s1:yA) (s2:yA):=(zfC zA s1 s2).fin default
theorem ze7 (zA:yC→yC→Bool×Int) (zjS:SdP 67 (zej zA)):SdP 122 (zbu (zbw zA)):=
 sT (cx':=(zcK zA)) (zi ⟨zjS,trivial⟩) call122 func122 (lOK (aC (zfk zA) aN))
abbrev zca:=yD×yD×Unit×yD×Int×Int×Unit
abbrev ze2:=Int⊕(yD×yD)
def zd5 (zy:Fc→Fc→Bool×Int) (s1:yD) (s2:yD) (t11:yD) (t12:Int) (t13:Int):Wy zca (Unit) ze2:=.i (decide (t13<t12)) (.i (decide (0≤t13)&&decide (t13<Int.ofNat t11.length)) (.i (decide (t13≥Int.ofNat s2.length)) (.k (.inl 1)) (.i (decide (0≤t13)&&decide (t13<Int.ofNat s2.length)) (.bn (zy (FO.mk (At.mk (t11.getD t13.toNat default).At.Kind (t11.getD t13.toNat default).At.Row (t11.getD t13.toNat default).At.Ag (t11.getD t13.toNat default).At.Func (t11.getD t13.toNat default).At.Items (t11.getD t13.toNat default).At.Op (t11.getD t13.toNat default).At.Bd) (t11.getD t13.toNat default).Exp) (FO.mk (At.mk (s2.getD t13.toNat default).At.Kind (s2.getD t13.toNat default).At.Row (s2.getD t13.toNat default).At.Ag (s2.getD t13.toNat default).At.Func (s2.getD t13.toNat default).At.Items (s2.getD t13.toNat default).At.Op (s2.getD t13.toNat default).At.Bd) (s2.getD t13.toNat default).Exp)) fun r0=>.i (r0 != 0) (.k (.inl (r0))) (.h (s1,s2,(),t11,t12,(IntKind.i64.wrap (t13+1)),()) ())) .d)) .d) (.k (.inr (s1,s2)))
def zbS (zy:Fc→Fc→Bool×Int) (x:zca) (y:Unit):=zd5 zy x.1 x.2.1 x.2.2.2.1 x.2.2.2.2.1 x.2.2.2.2.2.1
def zd6 (zy:Fc→Fc→Bool×Int) (n:Nat) (s1:yD) (s2:yD) (t11:yD) (t12:Int) (t13:Int):=zH (zbS zy) (.inl default) n (s1,s2,(),t11,t12,t13,()) ()
def ziM (r:ze2):LTree ty:=.ite (isL r) (.done .ret [.lit (.int .i64 (getL r))] []) (.done (.exit 0) [.sl 69 (getR r).1,.sl 69 (getR r).2] [])
def ziX:LL ty zca:=za (lSl 69) (za (lSl 69) (za (lFn 119 (zn)) (za (lSl 69) (za zj (za zj zn)))))
def ziJ (x:zca) (y:Unit):Nat:=(x.1.length+x.2.1.length+x.2.2.2.1.length+Int.toNat x.2.2.2.2.1+Int.toNat x.2.2.2.2.2.1+1)
def zd4 (zy:Fc→Fc→Bool×Int):=zb5 base 39 [(119,(zeG zy))] [] [(2,(kpL [0,1,2,11,12,13]))] [(2,1,(kpL [0,1])),(2,0,(kpL [6]))] [(2,spW ziX z7V (zbS zy) (.inl default) ziM ziJ)] []
theorem ziy (zy:Fc→Fc→Bool×Int):zM (zd4 zy) (lp (body f118) 0):=zw (id:=2) (hl:=rfl)
def zef (zy:Fc→Fc→Bool×Int) (s1:yD) (s2:yD):Wy0 (Int):=.bn (zd6 zy (s1.length+s2.length+s1.length+(Int.ofNat s1.length).toNat +Int.toNat 0+1) s1 s2 s1 (Int.ofNat s1.length) 0) fun r2=>.i (isL r2) (.k (getL r2)) (.i (decide (Int.ofNat (getR r2).1.length<Int.ofNat (getR r2).2.length)) (.k (-1:Int)) (.k 0))
def zbA (zy:Fc→Fc→Bool×Int) (s1:yD) (s2:yD):=(zef zy s1 s2).fin default
theorem zhT (zy:Fc→Fc→Bool×Int) (zlV:SdP 119 (zeG zy)):SdP 118 (zbZ (zbA zy)):=
 sT (cx':=(zd4 zy)) (zi ⟨zlV,trivial⟩) call118 func118 (lOK (aC (ziy zy) aN))
abbrev zbY:=yE×yE×Unit×yE×Int×Int×Unit
abbrev zeh:=Int⊕(yE×yE)
def zgB (zF:Wd→Wd→Bool×Int) (s1:yE) (s2:yE) (t11:yE) (t12:Int) (t13:Int):Wy zbY (Unit) zeh:=.i (decide (t13<t12)) (.i (decide (0≤t13)&&decide (t13<Int.ofNat t11.length)) (.i (decide (t13≥Int.ofNat s2.length)) (.k (.inl 1)) (.i (decide (0≤t13)&&decide (t13<Int.ofNat s2.length)) (.bn (zF (t11.getD t13.toNat default) (s2.getD t13.toNat default)) fun r0=>.i (r0 != 0) (.k (.inl (r0))) (.h (s1,s2,(),t11,t12,(IntKind.i64.wrap (t13+1)),()) ())) .d)) .d) (.k (.inr (s1,s2)))
def zdi (zF:Wd→Wd→Bool×Int) (x:zbY) (y:Unit):=zgB zF x.1 x.2.1 x.2.2.2.1 x.2.2.2.2.1 x.2.2.2.2.2.1
def zgG (zF:Wd→Wd→Bool×Int) (n:Nat) (s1:yE) (s2:yE) (t11:yE) (t12:Int) (t13:Int):=zH (zdi zF) (.inl default) n (s1,s2,(),t11,t12,t13,()) ()
def zgz (r:zeh):LTree ty:=.ite (isL r) (.done .ret [.lit (.int .i64 (getL r))] []) (.done (.exit 0) [.sl 100 (getR r).1,.sl 100 (getR r).2] [])
def zgJ:LL ty zbY:=za (lSl 100) (za (lSl 100) (za (lFn 124 (zn)) (za (lSl 100) (za zj (za zj zn)))))
def zgx (x:zbY) (y:Unit):Nat:=(x.1.length+x.2.1.length+x.2.2.2.1.length+Int.toNat x.2.2.2.2.1+Int.toNat x.2.2.2.2.2.1+1)
def zdj (zF:Wd→Wd→Bool×Int):=zb5 base 39 [(124,(zek zF))] [] [(2,(kpL [0,1,2,11,12,13]))] [(2,1,(kpL [0,1])),(2,0,(kpL [6]))] [(2,spW zgJ z7V (zdi zF) (.inl default) zgz zgx)] []
theorem zgw (zF:Wd→Wd→Bool×Int):zM (zdj zF) (lp (body f123) 0):=zw (id:=2) (hl:=rfl)
def zg5 (zF:Wd→Wd→Bool×Int) (s1:yE) (s2:yE):Wy0 (Int):=.bn (zgG zF (s1.length+s2.length+s1.length+(Int.ofNat s1.length).toNat +Int.toNat 0+1) s1 s2 s1 (Int.ofNat s1.length) 0) fun r2=>.i (isL r2) (.k (getL r2)) (.i (decide (Int.ofNat (getR r2).1.length<Int.ofNat (getR r2).2.length)) (.k (-1:Int)) (.k 0))
def zbL (zF:Wd→Wd→Bool×Int) (s1:yE) (s2:yE):=(zg5 zF s1 s2).fin default
theorem zgj (zF:Wd→Wd→Bool×Int) (znq:SdP 124 (zek zF)):SdP 123 (zbM (zbL zF)):=
 sT (cx':=(zdj zF)) (zi ⟨znq,trivial⟩) call123 func123 (lOK (aC (zgw zF) aN))
abbrev zb7:=yC×yC×Unit×yC×Int×Int×Unit
abbrev zeN:=Int⊕(yC×yC)
def zie (zL:Term→Term→Bool×Int) (s1:yC) (s2:yC) (t11:yC) (t12:Int) (t13:Int):Wy zb7 (Unit) zeN:=.i (decide (t13<t12)) (.i (decide (0≤t13)&&decide (t13<Int.ofNat t11.length)) (.i (decide (t13≥Int.ofNat s2.length)) (.k (.inl 1)) (.i (decide (0≤t13)&&decide (t13<Int.ofNat s2.length)) (.bn (zL (t11.getD t13.toNat default) (s2.getD t13.toNat default)) fun r0=>.i (r0 != 0) (.k (.inl (r0))) (.h (s1,s2,(),t11,t12,(IntKind.i64.wrap (t13+1)),()) ())) .d)) .d) (.k (.inr (s1,s2)))
def zdU (zL:Term→Term→Bool×Int) (x:zb7) (y:Unit):=zie zL x.1 x.2.1 x.2.2.2.1 x.2.2.2.2.1 x.2.2.2.2.2.1
def zif (zL:Term→Term→Bool×Int) (n:Nat) (s1:yC) (s2:yC) (t11:yC) (t12:Int) (t13:Int):=zH (zdU zL) (.inl default) n (s1,s2,(),t11,t12,t13,()) ()
def zh2 (r:zeN):LTree ty:=.ite (isL r) (.done .ret [.lit (.int .i64 (getL r))] []) (.done (.exit 0) [.sl 28 (getR r).1,.sl 28 (getR r).2] [])
def zih:LL ty zb7:=za (lSl 28) (za (lSl 28) (za (lFn 137 (zn)) (za (lSl 28) (za zj (za zj zn)))))
def zhZ (x:zb7) (y:Unit):Nat:=(x.1.length+x.2.1.length+x.2.2.2.1.length+Int.toNat x.2.2.2.2.1+Int.toNat x.2.2.2.2.2.1+1)
def zdT (zL:Term→Term→Bool×Int):=zb5 base 39 [(137,(zf6 zL))] [] [(2,(kpL [0,1,2,11,12,13]))] [(2,1,(kpL [0,1])),(2,0,(kpL [6]))] [(2,spW zih z7V (zdU zL) (.inl default) zh2 zhZ)] []
theorem zhU (zL:Term→Term→Bool×Int):zM (zdT zL) (lp (body f136) 0):=zw (id:=2) (hl:=rfl)
def zix (zL:Term→Term→Bool×Int) (s1:yC) (s2:yC):Wy0 (Int):=.bn (zif zL (s1.length+s2.length+s1.length+(Int.ofNat s1.length).toNat +Int.toNat 0+1) s1 s2 s1 (Int.ofNat s1.length) 0) fun r2=>.i (isL r2) (.k (getL r2)) (.i (decide (Int.ofNat (getR r2).1.length<Int.ofNat (getR r2).2.length)) (.k (-1:Int)) (.k 0))
def zbV (zL:Term→Term→Bool×Int) (s1:yC) (s2:yC):=(zix zL s1 s2).fin default
theorem zhk (zL:Term→Term→Bool×Int) (zpv:SdP 137 (zf6 zL)):SdP 136 (zbU (zbV zL)):=
 sT (cx':=(zdT zL)) (zi ⟨zpv,trivial⟩) call136 func136 (lOK (aC (zhU zL) aN))
def zch:Nat→(yC→yC→Bool×Int)×(Term→Term→Bool×Int)×(Term→Term→Bool×Int)×(Fc→Fc→Bool×Int)×(At→At→Bool×Int)×(Wd→Wd→Bool×Int)×(yC→yC→Bool×Int)×(yD→yD→Bool×Int)×(yA→yA→Bool×Int)×(yE→yE→Bool×Int)
 | 0=>(fun _ _=>(false,default),fun _ _=>(false,default),fun _ _=>(false,default),fun _ _=>(false,default),fun _ _=>(false,default),fun _ _=>(false,default),fun _ _=>(false,default),fun _ _=>(false,default),fun _ _=>(false,default),fun _ _=>(false,default))
 | n+1=>(zpz ((zch n).2.2.2.2.2.2.1) ((zch n).2.1),zl6 ((zch n).2.2.1),zkO ((zch n).2.2.2.2.2.2.2.1) ((zch n).2.2.2.1),zju ((zch n).2.2.2.2.1),zkL ((zch n).1) ((zch n).2.2.2.2.2.2.2.2.1) ((zch n).2.2.2.2.2.2.2.2.2) ((zch n).2.2.2.2.2.1),zkC ((zch n).1),zbV ((zch n).2.1),zbA ((zch n).2.2.2.1),zbw ((zch n).1),zbL ((zch n).2.2.2.2.2.1))
def zga (n:Nat):yC→yC→Bool×Int:=(zch n).1
def ziZ (n:Nat):Term→Term→Bool×Int:=(zch n).2.1
def zg7 (n:Nat):Term→Term→Bool×Int:=(zch n).2.2.1
def zfZ (n:Nat):Fc→Fc→Bool×Int:=(zch n).2.2.2.1
def zhi (n:Nat):At→At→Bool×Int:=(zch n).2.2.2.2.1
def zfc (n:Nat):Wd→Wd→Bool×Int:=(zch n).2.2.2.2.2.1
def zbT (n:Nat):yC→yC→Bool×Int:=(zch n).2.2.2.2.2.2.1
def zb0 (n:Nat):yD→yD→Bool×Int:=(zch n).2.2.2.2.2.2.2.1
def zbv (n:Nat):yA→yA→Bool×Int:=(zch n).2.2.2.2.2.2.2.2.1
def zbK (n:Nat):yE→yE→Bool×Int:=(zch n).2.2.2.2.2.2.2.2.2
theorem zNJ (n:Nat):zga (n+1)=zpz (zbT n) (ziZ n):=rfl
theorem zIW (n:Nat):ziZ (n+1)=zl6 (zg7 n):=rfl
theorem zFZ (n:Nat):zg7 (n+1)=zkO (zb0 n) (zfZ n):=rfl
theorem zE4 (n:Nat):zfZ (n+1)=zju (zhi n):=rfl
theorem zFV (n:Nat):zhi (n+1)=zkL (zga n) (zbv n) (zbK n) (zfc n):=rfl
theorem zGO (n:Nat):zfc (n+1)=zkC (zga n):=rfl
theorem zii (n:Nat):zbT (n+1)=zbV (ziZ n):=rfl
theorem ziY (n:Nat):zb0 (n+1)=zbA (zfZ n):=rfl
theorem zfx (n:Nat):zbv (n+1)=zbw (zga n):=rfl
theorem zgC (n:Nat):zbK (n+1)=zbL (zfc n):=rfl
theorem zxG:∀ n,SdP 67 (zej (zga n))∧SdP 137 (zf6 (ziZ n))∧SdP 63 (zf6 (zg7 n))∧SdP 119 (zeG (zfZ n))∧SdP 65 (zg9 (zhi n))∧SdP 124 (zek (zfc n))∧SdP 136 (zbU (zbT n))∧SdP 118 (zbZ (zb0 n))∧SdP 122 (zbu (zbv n))∧SdP 123 (zbM (zbK n))
 | 0=>⟨z8 call67 (fun _=>rfl),z8 call137 (fun _=>rfl),z8 call63 (fun _=>rfl),z8 call119 (fun _=>rfl),z8 call65 (fun _=>rfl),z8 call124 (fun _=>rfl),z8 call136 (fun _=>rfl),z8 call118 (fun _=>rfl),z8 call122 (fun _=>rfl),z8 call123 (fun _=>rfl)⟩
 | n+1=>by
  have ih:=zxG n;exact ⟨zIt _ _ (ih.2.2.2.2.2.2.1) (ih.2.1),zFb _ (ih.2.2.1),zDK _ _ (ih.2.2.2.2.2.2.2.1) (ih.2.2.2.1),zCg _ (ih.2.2.2.2.1),zDH _ _ _ _ (ih.1) (ih.2.2.2.2.2.2.2.2.1) (ih.2.2.2.2.2.2.2.2.2) (ih.2.2.2.2.2.1),zDI _ (ih.1),zhk _ (ih.2.1),zhT _ (ih.2.2.2.1),ze7 _ (ih.1),zgj _ (ih.2.2.2.2.2.1)⟩
def zz9:yC→yC→Bool×Int:=zga 1000
def zBs:Ab.Spec ty:=zej zz9
theorem zLF:SdP 67 zBs:=(zxG 1000).1
def zb3:Term→Term→Bool×Int:=zg7 1000
def ziN:Ab.Spec ty:=zf6 zb3
theorem zlX:SdP 63 ziN:=(zxG 1000).2.2.1
def zi2:At→At→Bool×Int:=zhi 1000
def zmJ:Ab.Spec ty:=zg9 zi2
theorem zuM:SdP 65 zmJ:=(zxG 1000).2.2.2.2.1
def zbh:Wd→Wd→Bool×Int:=zfc 1000
def zfE:Ab.Spec ty:=zek zbh
theorem zhE:SdP 124 zfE:=(zxG 1000).2.2.2.2.2.1
def zXg:AL base (yC×Unit):=zd (ze (vSl 28)) zr
def zhF (F:yC→Bool×Bool):Ab.Spec ty:=zh zXg fun x=>((F x.1).1,zVj (F x.1).2)
def zCb:AL base (At×Unit):=zd (ze (zcG 67)) zr
def zmS (F:At→Bool×Bool):Ab.Spec ty:=zh zCb fun x=>((F x.1).1,zVj (F x.1).2)
def zKL:AL base (Wd×Unit):=zd (ze (zcG 100)) zr
def zds (F:Wd→Bool×Bool):Ab.Spec ty:=zh zKL fun x=>((F x.1).1,zVj (F x.1).2)
def zoB:AL base (yA×Unit×Unit):=zd (ze (vSl 23)) (zd (ze (vFn 127 zbW)) zr)
def zcH (F:yA→Bool×Int):Ab.Spec ty:=zh zoB fun x=>((F x.1).1,zPQ (F x.1).2)
def zcs (F:yA→Bool×Bool):Ab.Spec ty:=zh zoB fun x=>((F x.1).1,zVj (F x.1).2)
def zqL:AL base (yE×Unit×Unit):=zd (ze (vSl 100)) (zd (ze (vFn 133 zbW)) zr)
def zc4 (F:yE→Bool×Int):Ab.Spec ty:=zh zqL fun x=>((F x.1).1,zPQ (F x.1).2)
def zcN (F:yE→Bool×Bool):Ab.Spec ty:=zh zqL fun x=>((F x.1).1,zVj (F x.1).2)
def zLX:=zbq base 11 []
def zBk (x_:At):Wy0 (Bool):=.i (x_.Kind==3) (.k true) (.k (x_.Kind==4))
def zfJ (x_:At):=(zBk x_).fin default
def zj5:=zh zCb fun x=>((zfJ x.1).1,zVj (zfJ x.1).2)
theorem znt:SdP 64 zj5:=
 sT (cx':=zLX) (zi trivial) call64 func64 (lOK aN)
def zoX (F:yC→Bool×Int):Ab.Spec ty:=zh zXg fun x=>((F x.1).1,zPQ (F x.1).2)
end Go.Proofs.YtljlfiomikifjaaGreatDoor
end
