/- Texts of this claim, joined (the program, its functions in plain words, and what they compute). -/
import Derived.KernelRfl
import Derived.Shelf.Strconv.Itoa3
import Derived.Test.YtljlfiomikifjaaGreatDoorChecked
import Derived.Test.YtljlfiomikifjaaGreatDoorGA3
set_option autoImplicit false
set_option linter.unusedVariables false
set_option linter.unusedSectionVars false
set_option linter.unusedSimpArgs false
set_option maxRecDepth 1000000
set_option maxHeartbeats 0
/- The types of the program, as plain data. -/
noncomputable section
namespace Go.Proofs.YtljlfiomikifjaaGreatDoor
open Go Go.Ab
open Go.Proofs Go.Shelf
structure RowID where
 Table:Int
 Seq:Int
 deriving DecidableEq,Inhabited
structure Value where
 Kind:Int
 Int:Int
 Text:ByteArray
 deriving DecidableEq,Inhabited
structure FactorOf (A:Type) where
 Atom:A
 Exp:Int
structure TermOf (A:Type) where
 Coeff:Int
 Factors:List (FactorOf A)
structure WeightedOf (A:Type) where
 Value:Value
 Ann:List (TermOf A)
structure Atom where
 Kind:Int
 Row:RowID
 Args:List (List (TermOf Atom))
 Func:Int
 Items:List (WeightedOf Atom)
 Op:Int
 Bound:Value
abbrev Factor:=FactorOf Atom
abbrev Term:=TermOf Atom
abbrev Weighted:=WeightedOf Atom
instance:Inhabited Atom:=⟨⟨0,default,[],0,[],0,default⟩⟩
instance:Inhabited Factor:=⟨⟨default,0⟩⟩
instance:Inhabited Term:=⟨⟨0,[]⟩⟩
instance:Inhabited Weighted:=⟨⟨default,[]⟩⟩
theorem Atom.eta (x:Atom):(⟨x.Kind,x.Row,x.Args,x.Func,x.Items,x.Op,x.Bound⟩:Atom)=x:=by cases x; rfl
mutual
def z4X:(x y:Atom)→Decidable (x=y)
 | ⟨k,r,a,f,i,o,b⟩,⟨k',r',a',f',i',o',b'⟩=>
  match decEq k k',decEq r r',z4H a a',decEq f f',z3R i i',decEq o o',decEq b b' with
  | .isTrue h1,.isTrue h2,.isTrue h3,.isTrue h4,.isTrue h5,.isTrue h6,.isTrue h7=>.isTrue (by subst h1 h2 h3 h4 h5 h6 h7; rfl)
  | .isFalse h,_,_,_,_,_,_=>.isFalse (fun e=>by cases e; exact h rfl)
  | _,.isFalse h,_,_,_,_,_=>.isFalse (fun e=>by cases e; exact h rfl)
  | _,_,.isFalse h,_,_,_,_=>.isFalse (fun e=>by cases e; exact h rfl)
  | _,_,_,.isFalse h,_,_,_=>.isFalse (fun e=>by cases e; exact h rfl)
  | _,_,_,_,.isFalse h,_,_=>.isFalse (fun e=>by cases e; exact h rfl)
  | _,_,_,_,_,.isFalse h,_=>.isFalse (fun e=>by cases e; exact h rfl)
  | _,_,_,_,_,_,.isFalse h=>.isFalse (fun e=>by cases e; exact h rfl)
def z06:(x y:Factor)→Decidable (x=y)
 | ⟨a,e⟩,⟨a',e'⟩=>match z4X a a',decEq e e' with
  | .isTrue h1,.isTrue h2=>.isTrue (by subst h1 h2; rfl)
  | .isFalse h,_=>.isFalse (fun e=>by cases e; exact h rfl)
  | _,.isFalse h=>.isFalse (fun e=>by cases e; exact h rfl)
def zYT:(x y:List Factor)→Decidable (x=y)
 | [],[]=>.isTrue rfl
 | [],_::_=>.isFalse (by simp)
 | _::_,[]=>.isFalse (by simp)
 | x::r,y::s=>match z06 x y,zYT r s with
  | .isTrue h1,.isTrue h2=>.isTrue (by subst h1 h2; rfl)
  | .isFalse h,_=>.isFalse (fun e=>by cases e; exact h rfl)
  | _,.isFalse h=>.isFalse (fun e=>by cases e; exact h rfl)
def z43:(x y:Term)→Decidable (x=y)
 | ⟨a,e⟩,⟨a',e'⟩=>match decEq a a',zYT e e' with
  | .isTrue h1,.isTrue h2=>.isTrue (by subst h1 h2; rfl)
  | .isFalse h,_=>.isFalse (fun e=>by cases e; exact h rfl)
  | _,.isFalse h=>.isFalse (fun e=>by cases e; exact h rfl)
def z3I:(x y:List Term)→Decidable (x=y)
 | [],[]=>.isTrue rfl
 | [],_::_=>.isFalse (by simp)
 | _::_,[]=>.isFalse (by simp)
 | x::r,y::s=>match z43 x y,z3I r s with
  | .isTrue h1,.isTrue h2=>.isTrue (by subst h1 h2; rfl)
  | .isFalse h,_=>.isFalse (fun e=>by cases e; exact h rfl)
  | _,.isFalse h=>.isFalse (fun e=>by cases e; exact h rfl)
def z4H:(x y:List (List Term))→Decidable (x=y)
 | [],[]=>.isTrue rfl
 | [],_::_=>.isFalse (by simp)
 | _::_,[]=>.isFalse (by simp)
 | x::r,y::s=>match z3I x y,z4H r s with
  | .isTrue h1,.isTrue h2=>.isTrue (by subst h1 h2; rfl)
  | .isFalse h,_=>.isFalse (fun e=>by cases e; exact h rfl)
  | _,.isFalse h=>.isFalse (fun e=>by cases e; exact h rfl)
def z4S:(x y:Weighted)→Decidable (x=y)
 | ⟨a,e⟩,⟨a',e'⟩=>match decEq a a',z3I e e' with
  | .isTrue h1,.isTrue h2=>.isTrue (by subst h1 h2; rfl)
  | .isFalse h,_=>.isFalse (fun e=>by cases e; exact h rfl)
  | _,.isFalse h=>.isFalse (fun e=>by cases e; exact h rfl)
def z3R:(x y:List Weighted)→Decidable (x=y)
 | [],[]=>.isTrue rfl
 | [],_::_=>.isFalse (by simp)
 | _::_,[]=>.isFalse (by simp)
 | x::r,y::s=>match z4S x y,z3R r s with
  | .isTrue h1,.isTrue h2=>.isTrue (by subst h1 h2; rfl)
  | .isFalse h,_=>.isFalse (fun e=>by cases e; exact h rfl)
  | _,.isFalse h=>.isFalse (fun e=>by cases e; exact h rfl)
end
instance:DecidableEq Atom:=z4X
instance:DecidableEq Factor:=z06
instance:DecidableEq Term:=z43
instance:DecidableEq Weighted:=z4S
structure Binding where
 Row:RowID
 To:List Term
 deriving DecidableEq,Inhabited
abbrev yA:=List (List Term)
abbrev yB:=List (List RowID)
abbrev yC:=List Term
abbrev yD:=List Factor
abbrev yE:=List Weighted
abbrev yF:=List RowID
abbrev yG:=List Binding
abbrev yH:=List Value
def ty:Nat→Type
 | 2=>Int
 | 3=>Int
 | 4=>Bool
 | 5=>Int
 | 9=>ByteArray
 | 22=>yC
 | 23=>yC
 | 26=>yD
 | 28=>Term
 | 35=>Int
 | 39=>yB
 | 43=>yF
 | 47=>yG
 | 49=>RowID
 | 51=>Binding
 | 60=>yA
 | 63=>yE
 | 65=>Value
 | 67=>Atom
 | 69=>Factor
 | 100=>Weighted
 | 121=>Unit
 | 135=>Int
 | 138=>List Int
 | 144=>List ByteArray
 | 189=>List (yD)
 | _=>Unit
instance:(T:Nat)→Inhabited (ty T):=fun T=>by
 unfold ty;split <;>infer_instance
def dt49:DT ty RowID:=zPJ (fun x=>⟨x.1,x.2⟩) (fun x=>(x.Table,x.Seq)) (fun _=>rfl) (ztE (zwL .i64) (zwL .i64))
def dt65:DT ty Value:=zPJ (fun x=>⟨x.1,x.2.1,x.2.2⟩) (fun x=>(x.Kind,x.Int,x.Text)) (fun _=>rfl) (ztE (zwL .i64) (ztE (zwL .i64) (z8r)))
def dt67:DT ty Atom:=zPJ (fun x=>⟨x.1,x.2.1,x.2.2.1,x.2.2.2.1,x.2.2.2.2.1,x.2.2.2.2.2.1,x.2.2.2.2.2.2⟩) (fun x=>(x.Kind,x.Row,x.Args,x.Func,x.Items,x.Op,x.Bound)) (fun _=>rfl) (ztE (zwL .i64) (ztE (dt49) (ztE (dtSl 23) (ztE (zwL .i64) (ztE (dtSl 100) (ztE (zwL .i64) (dt65)))))))
def dt69:DT ty Factor:=zPJ (fun x=>⟨x.1,x.2⟩) (fun x=>(x.Atom,x.Exp)) (fun _=>rfl) (ztE (dt67) (zwL .i64))
def dt28:DT ty Term:=zPJ (fun x=>⟨x.1,x.2⟩) (fun x=>(x.Coeff,x.Factors)) (fun _=>rfl) (ztE (zwL .i64) (dtSl 69))
def zbaD:DT ty Weighted:=zPJ (fun x=>⟨x.1,x.2⟩) (fun x=>(x.Value,x.Ann)) (fun _=>rfl) (ztE (dt65) (dtSl 28))
def dt51:DT ty Binding:=zPJ (fun x=>⟨x.1,x.2⟩) (fun x=>(x.Row,x.To)) (fun _=>rfl) (ztE (dt49) (dtSl 28))
def zYL:List ((T:Nat)×DT ty (ty T)):=[⟨2,(zwL .i64:DT ty Int)⟩,⟨3,(zwL .i64:DT ty Int)⟩,⟨4,(zbad:DT ty Bool)⟩,⟨5,(zwL .u8:DT ty Int)⟩,⟨9,(z8r:DT ty ByteArray)⟩,⟨22,(dtSl 28:DT ty (yC))⟩,⟨23,(dtSl 28:DT ty (yC))⟩,⟨26,(dtSl 69:DT ty (yD))⟩,⟨28,(dt28:DT ty Term)⟩,⟨35,(zwL .i64:DT ty Int)⟩,⟨39,(dtSl 43:DT ty (yB))⟩,⟨43,(dtSl 49:DT ty (yF))⟩,⟨47,(dtSl 51:DT ty (yG))⟩,⟨49,(dt49:DT ty RowID)⟩,⟨51,(dt51:DT ty Binding)⟩,⟨60,(dtSl 23:DT ty (yA))⟩,⟨63,(dtSl 100:DT ty (yE))⟩,⟨65,(dt65:DT ty Value)⟩,⟨67,(dt67:DT ty Atom)⟩,⟨69,(dt69:DT ty Factor)⟩,⟨100,(zbaD:DT ty Weighted)⟩,⟨121,(dtMp:DT ty Unit)⟩,⟨135,(zwL .u64:DT ty Int)⟩,⟨138,(dtSl 3:DT ty (List Int))⟩,⟨144,(dtSl 9:DT ty (List ByteArray))⟩,⟨189,(dtSl 26:DT ty (List (yD)))⟩]
def z2h:List (Nat×TInfo):=[(2,⟨.int .i64,1,8,[.int .i64 (0)]⟩),
 (3,⟨.int .i64,1,8,[.int .i64 (0)]⟩),
 (4,⟨.bool,1,1,[.bool false]⟩),
 (5,⟨.int .u8,1,1,[.int .u8 (0)]⟩),
 (9,⟨.str,1,16,[.string ⟨#[]⟩]⟩),
 (22,⟨.slice 28,1,24,[.slice none 0 0]⟩),
 (23,⟨.slice 28,1,24,[.slice none 0 0]⟩),
 (26,⟨.slice 69,1,24,[.slice none 0 0]⟩),
 (28,⟨.struct [(0,2),(1,26)],2,32,[.int .i64 (0),.slice none 0 0]⟩),
 (35,⟨.int .i64,1,8,[.int .i64 (0)]⟩),
 (39,⟨.slice 43,1,24,[.slice none 0 0]⟩),
 (43,⟨.slice 49,1,24,[.slice none 0 0]⟩),
 (47,⟨.slice 51,1,24,[.slice none 0 0]⟩),
 (49,⟨.struct [(0,3),(1,3)],2,16,[.int .i64 (0),.int .i64 (0)]⟩),
 (51,⟨.struct [(0,49),(2,23)],3,40,[.int .i64 (0),.int .i64 (0),.slice none 0 0]⟩),
 (60,⟨.slice 23,1,24,[.slice none 0 0]⟩),
 (63,⟨.slice 100,1,24,[.slice none 0 0]⟩),
 (65,⟨.struct [(0,3),(1,2),(2,9)],3,32,[.int .i64 (0),.int .i64 (0),.string ⟨#[]⟩]⟩),
 (67,⟨.struct [(0,3),(1,49),(3,60),(4,3),(5,63),(6,3),(7,65)],10,120,[.int .i64 (0),.int .i64 (0),.int .i64 (0),.slice none 0 0,.int .i64 (0),.slice none 0 0,.int .i64 (0),.int .i64 (0),.int .i64 (0),.string ⟨#[]⟩]⟩),
 (69,⟨.struct [(0,67),(10,3)],11,128,[.int .i64 (0),.int .i64 (0),.int .i64 (0),.slice none 0 0,.int .i64 (0),.slice none 0 0,.int .i64 (0),.int .i64 (0),.int .i64 (0),.string ⟨#[]⟩,.int .i64 (0)]⟩),
 (100,⟨.struct [(0,65),(3,23)],4,56,[.int .i64 (0),.int .i64 (0),.string ⟨#[]⟩,.slice none 0 0]⟩),
 (121,⟨.map 9 3,1,8,[.map none]⟩),
 (135,⟨.int .u64,1,8,[.int .u64 (0)]⟩),
 (138,⟨.slice 3,1,24,[.slice none 0 0]⟩),
 (144,⟨.slice 9,1,24,[.slice none 0 0]⟩),
 (189,⟨.slice 26,1,24,[.slice none 0 0]⟩)]
def zSI:List (Nat×List TD):=[(49,[.int .i64,.int .i64]),(65,[.int .i64,.int .i64,.str])]
def inv (w:World):Prop:=Lib.TabIs Tryz.prog w "internal/strconv.uint64pow10" .u64 Lib.pow10Tab∧(∃ m,w.cell? ⟨0,0,none⟩=some (.int .i64 m))
theorem z7l {n:String} {g:Nat} {w w':World} (hg:Tryz.prog.globalNamed n=some g) (h:w'.heap[g]? =w.heap[g]?):w'.var? Tryz.prog n=w.var? Tryz.prog n:=by
 unfold World.var?; rw [hg]; simp only [Option.bind_some,h]
theorem z5r (w w':World) (hi:inv w) (hb:∀ b,b<4→w'.heap[b]? =w.heap[b]?):inv w':=by
 obtain ⟨h1,⟨m,h2⟩⟩:=hi;refine ⟨(z7l (g:=1) (by kernel_rfl) (hb 1 (by omega))).trans h1,⟨m, ?_⟩⟩
 rw [← h2]; exact World.cell?_of_block (a:=⟨0,0,none⟩) (hb 0 (by omega))
def base:Cx ty:={ ti:=fun T=>z2h.lookup T,dflt:=fun _=>default,enc:=fun T=>(tabT zYL T).enc,dec:=fun T=>(tabT zYL T).dec,spec:=fun _=>none,io:=fun _=>[],eqs:=fun T us vs=>match zSI.lookup T with | some ts=>zbg ts us vs | none=>none,nt:=0,head:=fun _=>[],out:=fun _ _=>[],loops:=fun _=>none,ng:=4,inv:=inv }
theorem z5P:Tryz.prog.info? 2=some Tryz.t2:=by kernel_rfl
theorem zKn:Tryz.prog.info? 3=some Tryz.t3:=by kernel_rfl
theorem zbaC:Tryz.prog.info? 4=some Tryz.t4:=by kernel_rfl
theorem zbax:Tryz.prog.info? 5=some Tryz.t5:=by kernel_rfl
theorem z8o:Tryz.prog.info? 9=some Tryz.t9:=by kernel_rfl
theorem z9P:Tryz.prog.info? 22=some Tryz.t22:=by kernel_rfl
theorem z2L:Tryz.prog.info? 23=some Tryz.t23:=by kernel_rfl
theorem z6T:Tryz.prog.info? 26=some Tryz.t26:=by kernel_rfl
theorem z9U:Tryz.prog.info? 28=some Tryz.t28:=by kernel_rfl
theorem z96:Tryz.prog.info? 35=some Tryz.t35:=by kernel_rfl
theorem z9Z:Tryz.prog.info? 39=some Tryz.t39:=by kernel_rfl
theorem z9D:Tryz.prog.info? 43=some Tryz.t43:=by kernel_rfl
theorem z90:Tryz.prog.info? 47=some Tryz.t47:=by kernel_rfl
theorem z3v:Tryz.prog.info? 49=some Tryz.t49:=by kernel_rfl
theorem z9A:Tryz.prog.info? 51=some Tryz.t51:=by kernel_rfl
theorem z6D:Tryz.prog.info? 60=some Tryz.t60:=by kernel_rfl
theorem z6R:Tryz.prog.info? 63=some Tryz.t63:=by kernel_rfl
theorem z2J:Tryz.prog.info? 65=some Tryz.t65:=by kernel_rfl
theorem z6M:Tryz.prog.info? 67=some Tryz.t67:=by kernel_rfl
theorem z9t:Tryz.prog.info? 69=some Tryz.t69:=by kernel_rfl
theorem z8S:Tryz.prog.info? 100=some Tryz.t100:=by kernel_rfl
theorem z9o:Tryz.prog.info? 121=some Tryz.t121:=by kernel_rfl
theorem z9f:Tryz.prog.info? 135=some Tryz.t135:=by kernel_rfl
theorem z87:Tryz.prog.info? 138=some Tryz.t138:=by kernel_rfl
theorem z88:Tryz.prog.info? 144=some Tryz.t144:=by kernel_rfl
theorem z8F:Tryz.prog.info? 189=some Tryz.t189:=by kernel_rfl
theorem z9b:∀ T i,z2h.lookup T=some i→InfoOK Tryz.prog T i:=by
 intro T i h;have h:=zE2 _ _ _ h;simp only [z2h,qd,List.not_mem_nil,or_false,qb] at h;rcases h with ⟨rfl,rfl⟩ | ⟨rfl,rfl⟩ | ⟨rfl,rfl⟩ | ⟨rfl,rfl⟩ | ⟨rfl,rfl⟩ | ⟨rfl,rfl⟩ | ⟨rfl,rfl⟩ | ⟨rfl,rfl⟩ | ⟨rfl,rfl⟩ | ⟨rfl,rfl⟩ | ⟨rfl,rfl⟩ | ⟨rfl,rfl⟩ | ⟨rfl,rfl⟩ | ⟨rfl,rfl⟩ | ⟨rfl,rfl⟩ | ⟨rfl,rfl⟩ | ⟨rfl,rfl⟩ | ⟨rfl,rfl⟩ | ⟨rfl,rfl⟩ | ⟨rfl,rfl⟩ | ⟨rfl,rfl⟩ | ⟨rfl,rfl⟩ | ⟨rfl,rfl⟩ | ⟨rfl,rfl⟩ | ⟨rfl,rfl⟩ | ⟨rfl,rfl⟩
 ·exact ⟨Tryz.t2,_,_,z5P,Tryz.underlying2,rfl,rfl,rfl,rfl,rfl,⟨by simp [zb3],fun _=>rfl⟩,rfl⟩
 ·exact ⟨Tryz.t3,_,_,zKn,Tryz.underlying3,rfl,rfl,rfl,rfl,rfl,⟨by simp [zb3],fun _=>rfl⟩,rfl⟩
 ·exact ⟨Tryz.t4,_,_,zbaC,Tryz.underlying4,rfl,rfl,rfl,rfl,rfl,⟨by simp [zb3],fun _=>rfl⟩,rfl⟩
 ·exact ⟨Tryz.t5,_,_,zbax,Tryz.underlying5,rfl,rfl,rfl,rfl,rfl,⟨by simp [zb3],fun _=>rfl⟩,rfl⟩
 ·exact ⟨Tryz.t9,_,_,z8o,Tryz.underlying9,rfl,rfl,rfl,rfl,rfl,⟨by simp [zb3],fun _=>rfl⟩,rfl⟩
 ·exact ⟨Tryz.t22,_,_,z9P,Tryz.underlying22,rfl,rfl,rfl,rfl,rfl,⟨by simp [zb3],fun _=>rfl⟩,rfl⟩
 ·exact ⟨Tryz.t23,_,_,z2L,Tryz.underlying23,rfl,rfl,rfl,rfl,rfl,⟨by simp [zb3],fun _=>rfl⟩,rfl⟩
 ·exact ⟨Tryz.t26,_,_,z6T,Tryz.underlying26,rfl,rfl,rfl,rfl,rfl,⟨by simp [zb3],fun _=>rfl⟩,rfl⟩
 ·exact ⟨Tryz.t28,_,_,z9U,Tryz.underlying28,rfl,rfl,rfl,rfl,rfl,⟨by simp [zb3],fun h=>by cases h⟩,⟨_,rfl,rfl,fun f hf=>by
   simp only [qd,List.not_mem_nil,or_false] at hf;rcases hf with rfl | rfl
   ·exact Option.isSome_iff_exists.2 ⟨_,z5P⟩
   ·exact Option.isSome_iff_exists.2 ⟨_,z6T⟩⟩⟩
 ·exact ⟨Tryz.t35,_,_,z96,Tryz.underlying35,rfl,rfl,rfl,rfl,rfl,⟨by simp [zb3],fun _=>rfl⟩,rfl⟩
 ·exact ⟨Tryz.t39,_,_,z9Z,Tryz.underlying39,rfl,rfl,rfl,rfl,rfl,⟨by simp [zb3],fun _=>rfl⟩,rfl⟩
 ·exact ⟨Tryz.t43,_,_,z9D,Tryz.underlying43,rfl,rfl,rfl,rfl,rfl,⟨by simp [zb3],fun _=>rfl⟩,rfl⟩
 ·exact ⟨Tryz.t47,_,_,z90,Tryz.underlying47,rfl,rfl,rfl,rfl,rfl,⟨by simp [zb3],fun _=>rfl⟩,rfl⟩
 ·exact ⟨Tryz.t49,_,_,z3v,Tryz.underlying49,rfl,rfl,rfl,rfl,rfl,⟨by simp [zb3],fun h=>by cases h⟩,⟨_,rfl,rfl,fun f hf=>by
   simp only [qd,List.not_mem_nil,or_false] at hf;rcases hf with rfl | rfl
   ·exact Option.isSome_iff_exists.2 ⟨_,zKn⟩
   ·exact Option.isSome_iff_exists.2 ⟨_,zKn⟩⟩⟩
 ·exact ⟨Tryz.t51,_,_,z9A,Tryz.underlying51,rfl,rfl,rfl,rfl,rfl,⟨by simp [zb3],fun h=>by cases h⟩,⟨_,rfl,rfl,fun f hf=>by
   simp only [qd,List.not_mem_nil,or_false] at hf;rcases hf with rfl | rfl
   ·exact Option.isSome_iff_exists.2 ⟨_,z3v⟩
   ·exact Option.isSome_iff_exists.2 ⟨_,z2L⟩⟩⟩
 ·exact ⟨Tryz.t60,_,_,z6D,Tryz.underlying60,rfl,rfl,rfl,rfl,rfl,⟨by simp [zb3],fun _=>rfl⟩,rfl⟩
 ·exact ⟨Tryz.t63,_,_,z6R,Tryz.underlying63,rfl,rfl,rfl,rfl,rfl,⟨by simp [zb3],fun _=>rfl⟩,rfl⟩
 ·exact ⟨Tryz.t65,_,_,z2J,Tryz.underlying65,rfl,rfl,rfl,rfl,rfl,⟨by simp [zb3],fun h=>by cases h⟩,⟨_,rfl,rfl,fun f hf=>by
   simp only [qd,List.not_mem_nil,or_false] at hf;rcases hf with rfl | rfl | rfl
   ·exact Option.isSome_iff_exists.2 ⟨_,zKn⟩
   ·exact Option.isSome_iff_exists.2 ⟨_,z5P⟩
   ·exact Option.isSome_iff_exists.2 ⟨_,z8o⟩⟩⟩
 ·exact ⟨Tryz.t67,_,_,z6M,Tryz.underlying67,rfl,rfl,rfl,rfl,rfl,⟨by simp [zb3],fun h=>by cases h⟩,⟨_,rfl,rfl,fun f hf=>by
   simp only [qd,List.not_mem_nil,or_false] at hf;rcases hf with rfl | rfl | rfl | rfl | rfl | rfl | rfl
   ·exact Option.isSome_iff_exists.2 ⟨_,zKn⟩
   ·exact Option.isSome_iff_exists.2 ⟨_,z3v⟩
   ·exact Option.isSome_iff_exists.2 ⟨_,z6D⟩
   ·exact Option.isSome_iff_exists.2 ⟨_,zKn⟩
   ·exact Option.isSome_iff_exists.2 ⟨_,z6R⟩
   ·exact Option.isSome_iff_exists.2 ⟨_,zKn⟩
   ·exact Option.isSome_iff_exists.2 ⟨_,z2J⟩⟩⟩
 ·exact ⟨Tryz.t69,_,_,z9t,Tryz.underlying69,rfl,rfl,rfl,rfl,rfl,⟨by simp [zb3],fun h=>by cases h⟩,⟨_,rfl,rfl,fun f hf=>by
   simp only [qd,List.not_mem_nil,or_false] at hf;rcases hf with rfl | rfl
   ·exact Option.isSome_iff_exists.2 ⟨_,z6M⟩
   ·exact Option.isSome_iff_exists.2 ⟨_,zKn⟩⟩⟩
 ·exact ⟨Tryz.t100,_,_,z8S,Tryz.underlying100,rfl,rfl,rfl,rfl,rfl,⟨by simp [zb3],fun h=>by cases h⟩,⟨_,rfl,rfl,fun f hf=>by
   simp only [qd,List.not_mem_nil,or_false] at hf;rcases hf with rfl | rfl
   ·exact Option.isSome_iff_exists.2 ⟨_,z2J⟩
   ·exact Option.isSome_iff_exists.2 ⟨_,z2L⟩⟩⟩
 ·exact ⟨Tryz.t121,_,_,z9o,Tryz.underlying121,rfl,rfl,rfl,rfl,rfl,⟨by simp [zb3],fun _=>rfl⟩,rfl⟩
 ·exact ⟨Tryz.t135,_,_,z9f,Tryz.underlying135,rfl,rfl,rfl,rfl,rfl,⟨by simp [zb3],fun _=>rfl⟩,rfl⟩
 ·exact ⟨Tryz.t138,_,_,z87,Tryz.underlying138,rfl,rfl,rfl,rfl,rfl,⟨by simp [zb3],fun _=>rfl⟩,rfl⟩
 ·exact ⟨Tryz.t144,_,_,z88,Tryz.underlying144,rfl,rfl,rfl,rfl,rfl,⟨by simp [zb3],fun _=>rfl⟩,rfl⟩
 ·exact ⟨Tryz.t189,_,_,z8F,Tryz.underlying189,rfl,rfl,rfl,rfl,rfl,⟨by simp [zb3],fun _=>rfl⟩,rfl⟩
theorem z7I:∀ T us vs b,(match zSI.lookup T with | some ts=>zbg ts us vs | none=>none)=some b→∀ w,z5W Tryz.prog T us vs b w:=by
 intro T us vs b h w;split at h
 ·rename_i ts hl;have hl:=zE2 _ _ _ hl;simp only [zSI,qd,List.not_mem_nil,or_false,qb] at hl;rcases hl with ⟨rfl,rfl⟩ | ⟨rfl,rfl⟩
  ·refine zY7 _ _ Tryz.underlying49 (by kernel_rfl) (by kernel_rfl) rfl ?_ h w
   intro j f t hj ht;rcases j with _ | j
   ·simp at hj ht; subst hj ht; exact ⟨rfl,by decide,_,Tryz.underlying3,rfl⟩
   rcases j with _ | j
   ·simp at hj ht; subst hj ht; exact ⟨rfl,by decide,_,Tryz.underlying3,rfl⟩
   simp at hj
  ·refine zY7 _ _ Tryz.underlying65 (by kernel_rfl) (by kernel_rfl) rfl ?_ h w
   intro j f t hj ht;rcases j with _ | j
   ·simp at hj ht; subst hj ht; exact ⟨rfl,by decide,_,Tryz.underlying3,rfl⟩
   rcases j with _ | j
   ·simp at hj ht; subst hj ht; exact ⟨rfl,by decide,_,Tryz.underlying2,rfl⟩
   rcases j with _ | j
   ·simp at hj ht; subst hj ht; exact ⟨rfl,by decide,_,Tryz.underlying9,rfl⟩
   simp at hj
 ·cases h
theorem z7D:∀ T us vs,base.eqs T us us=some true→base.eqs T vs vs=some true→base.eqs T us vs=some (zv4 us vs)∧(zv4 us vs=true→us=vs)∧∀ u∈us,∀ n,Instr.sameBits n u u=true:=by
 intro T us vs h1 h2;simp only [base] at h1 h2 ⊢;cases hl:zSI.lookup T with
 | none=>rw [hl] at h1; cases h1
 | some ts=>rw [hl] at h1 h2; exact zYn ts us vs h1 h2
theorem z7J:∀ T us b,base.eqs T us us=some b→b=true:=by
 intro T us b h;simp only [base] at h;cases hl:zSI.lookup T with
 | none=>rw [hl] at h; cases h
 | some ts=>rw [hl] at h; exact zWa ts us b h
abbrev SdP:=Sound Tryz.prog base
theorem zi:CxOK Tryz.prog base:=⟨z9b,fun T x=>by rw [show szOf base T=_ from (z3P zYL z2h rfl T).symm]; exact DT.len _ x,fun T x c h=>by have:=DT.cell _ _ c h; revert this; cases c <;>exact id,fun T cs x h F w us hr=>DT.ok _ base F w us cs x h hr,z7I,z7D,z7J,z5r⟩
def base0:Cx ty:={ base with dr:=false }
theorem zh8:CxOK Tryz.prog base0:=CxOK.cg (cx:=base) (cx':=base0) ⟨rfl,rfl,rfl,rfl,rfl,rfl⟩ zi
theorem zq:Tryz.prog.follows .mixedOrders=true:=by kernel_rfl
end Go.Proofs.YtljlfiomikifjaaGreatDoor
/- What is read of an argument, as typed data. -/
namespace Go.Proofs.YtljlfiomikifjaaGreatDoor
open Go Go.Ab
def wf2 (x:Int):Prop:=(Lit.int .i64 x).wf=true
def wf3 (x:Int):Prop:=(Lit.int .i64 x).wf=true
def wf4 (x:Bool):Prop:=True
def wf5 (x:Int):Prop:=(Lit.int .u8 x).wf=true
def wf9 (x:ByteArray):Prop:=ByteArray.size x≤roomLen
def wf49 (x:RowID):Prop:=wf3 x.Table∧wf3 x.Seq
def wf65 (x:Value):Prop:=wf3 x.Kind∧wf2 x.Int∧wf9 x.Text
mutual
def zjl:Atom→Prop
 | ⟨k,r,a,f,i,o,b⟩=>wf3 k∧wf49 r∧(zxD a∧a.length≤roomLen)∧wf3 f∧(ztP i∧i.length≤roomLen)∧wf3 o∧wf65 b
def zuO:Factor→Prop
 | ⟨a,e⟩=>zjl a∧wf3 e
def zrX:yD→Prop
 | []=>True
 | x::r=>zuO x∧zrX r
def zzh:Term→Prop
 | ⟨c,f⟩=>wf2 c∧(zrX f∧f.length≤roomLen)
def zhx:yC→Prop
 | []=>True
 | x::r=>zzh x∧zhx r
def zxD:yA→Prop
 | []=>True
 | x::r=>(zhx x∧x.length≤roomLen)∧zxD r
def zDU:Weighted→Prop
 | ⟨v,a⟩=>wf65 v∧(zhx a∧a.length≤roomLen)
def ztP:yE→Prop
 | []=>True
 | x::r=>zDU x∧ztP r
end
theorem zIp:∀ l:yD,(∀ x∈l,zuO x)→zrX l
 | [],_=>by unfold zrX; trivial
 | x::r,h=>by unfold zrX; exact ⟨h x (by simp),zIp r fun y hy=>h y (by simp [hy])⟩
theorem zDb:∀ l:yC,(∀ x∈l,zzh x)→zhx l
 | [],_=>by unfold zhx; trivial
 | x::r,h=>by unfold zhx; exact ⟨h x (by simp),zDb r fun y hy=>h y (by simp [hy])⟩
theorem zSa:∀ l:yA,(∀ x∈l,zhx x∧x.length≤roomLen)→zxD l
 | [],_=>by unfold zxD; trivial
 | x::r,h=>by unfold zxD; exact ⟨h x (by simp),zSa r fun y hy=>h y (by simp [hy])⟩
theorem zPy:∀ l:yE,(∀ x∈l,zDU x)→ztP l
 | [],_=>by unfold ztP; trivial
 | x::r,h=>by unfold ztP; exact ⟨h x (by simp),zPy r fun y hy=>h y (by simp [hy])⟩
def wf23 (x:yC):Prop:=zhx x∧List.length x≤roomLen
def wf26 (x:yD):Prop:=zrX x∧List.length x≤roomLen
def wf28 (x:Term):Prop:=zzh x
def wf60 (x:yA):Prop:=zxD x∧List.length x≤roomLen
def wf63 (x:yE):Prop:=ztP x∧List.length x≤roomLen
def wf67 (x:Atom):Prop:=zjl x
def wf69 (x:Factor):Prop:=zuO x
def zbar (x:Weighted):Prop:=zDU x
def wf43 (x:yF):Prop:=(∀ y∈x,wf49 y)∧List.length x≤roomLen
def wf39 (x:yB):Prop:=(∀ y∈x,wf43 y)∧List.length x≤roomLen
def wf51 (x:Binding):Prop:=wf49 x.Row∧wf23 x.To
def wf47 (x:yG):Prop:=(∀ y∈x,wf51 y)∧List.length x≤roomLen
def wf (T:Nat):ty T→Prop:=match T with
 | 2=>wf2
 | 3=>wf3
 | 4=>wf4
 | 5=>wf5
 | 9=>wf9
 | 23=>wf23
 | 26=>wf26
 | 28=>wf28
 | 39=>wf39
 | 43=>wf43
 | 47=>wf47
 | 49=>wf49
 | 51=>wf51
 | 60=>wf60
 | 63=>wf63
 | 65=>wf65
 | 67=>wf67
 | 69=>wf69
 | 100=>zbar
 | _=>fun _=>True
theorem z65:zwK Tryz.prog base wf 2:=zTC Tryz.underlying2 (fun n=>n) (fun _=>rfl) (fun _ h=>h)
theorem zHZ:zwK Tryz.prog base wf 3:=zTC Tryz.underlying3 (fun n=>n) (fun _=>rfl) (fun _ h=>h)
theorem z6v:zwK Tryz.prog base wf 5:=zTC Tryz.underlying5 (fun n=>n) (fun _=>rfl) (fun _ h=>h)
theorem zbae:zwK Tryz.prog base wf 9:=z64 Tryz.underlying9 (fun n=>n) (fun _=>rfl) (fun _ h=>h)
theorem z84:zwK Tryz.prog base wf 49:=by
 intro H en w sp held fuel cs y h hz;obtain ⟨xs,n,_,hy,hl,hlen,hf⟩:=DataW.trod_struct Tryz.underlying49 h;have hs:=zoL Tryz.underlying49 hy hz;obtain ⟨x0,h0,w0⟩:=zzr (off:=0) zHZ (by kernel_rfl) hlen hf hs 0 _ rfl rfl rfl
 obtain ⟨x1,h1,w1⟩:=zzr (off:=1) zHZ (by kernel_rfl) hlen hf hs 1 _ rfl rfl rfl
 have hl:cs.length=2:=hl.trans (by kernel_rfl)
 have:=ziU h0 (zDv h1 hl);exact ⟨(⟨x0,x1⟩:RowID),this,⟨w0,w1⟩⟩
theorem z4E:zwK Tryz.prog base wf 65:=by
 intro H en w sp held fuel cs y h hz;obtain ⟨xs,n,_,hy,hl,hlen,hf⟩:=DataW.trod_struct Tryz.underlying65 h;have hs:=zoL Tryz.underlying65 hy hz;obtain ⟨x0,h0,w0⟩:=zzr (off:=0) zHZ (by kernel_rfl) hlen hf hs 0 _ rfl rfl rfl
 obtain ⟨x1,h1,w1⟩:=zzr (off:=1) z65 (by kernel_rfl) hlen hf hs 1 _ rfl rfl rfl
 obtain ⟨x2,h2,w2⟩:=zzr (off:=2) zbae (by kernel_rfl) hlen hf hs 2 _ rfl rfl rfl
 have hl:cs.length=3:=hl.trans (by kernel_rfl)
 have:=ziU h0 (ziU h1 (zDv h2 hl));exact ⟨(⟨x0,x1,x2⟩:Value),this,⟨w0,w1,w2⟩⟩
theorem z3C:∀ m,zrU Tryz.prog base wf m 23∧zrU Tryz.prog base wf m 26∧zrU Tryz.prog base wf m 28∧zrU Tryz.prog base wf m 60∧zrU Tryz.prog base wf m 63∧zrU Tryz.prog base wf m 67∧zrU Tryz.prog base wf m 69∧zrU Tryz.prog base wf m 100
 | 0=>⟨zoo,zoo,zoo,zoo,zoo,zoo,zoo,zoo⟩
 | m+1=>by
  obtain ⟨h23,h26,h28,h60,h63,h67,h69,h100⟩:=z3C m;refine ⟨?_, ?_, ?_, ?_, ?_, ?_, ?_, ?_⟩
  ·exact zBy zi Tryz.underlying23 (by kernel_rfl) (by decide) (fun l=>l) (fun _=>rfl) (of_decide_eq_true (by kernel_rfl)) h28 (fun l h h2=>⟨zDb l h,h2⟩)
  ·exact zBy zi Tryz.underlying26 (by kernel_rfl) (by decide) (fun l=>l) (fun _=>rfl) (of_decide_eq_true (by kernel_rfl)) h69 (fun l h h2=>⟨zIp l h,h2⟩)
  ·intro H en w sp held fuel cs y hfu h hz;obtain ⟨xs,n,hn,hy,hl,hlen,hf⟩:=DataW.trod_struct Tryz.underlying28 h;have hs:=zoL Tryz.underlying28 hy hz;have hn:n≤m:=by omega
   obtain ⟨x0,hx0,w0⟩:=zeX (off:=0) (z65.at m) (by kernel_rfl) hn hlen hf hs 0 _ rfl rfl rfl
   obtain ⟨x1,hx1,w1⟩:=zeX (off:=1) h26 (by kernel_rfl) hn hlen hf hs 1 _ rfl rfl rfl
   have hl:cs.length=2:=hl.trans (by kernel_rfl)
   have:=ziU hx0 (zDv hx1 hl);exact ⟨(⟨x0,x1⟩:Term),this,by show zzh (⟨x0,x1⟩:Term); unfold zzh; exact ⟨w0,w1⟩⟩
  ·exact zBy zi Tryz.underlying60 (by kernel_rfl) (by decide) (fun l=>l) (fun _=>rfl) (of_decide_eq_true (by kernel_rfl)) h23 (fun l h h2=>⟨zSa l h,h2⟩)
  ·exact zBy zi Tryz.underlying63 (by kernel_rfl) (by decide) (fun l=>l) (fun _=>rfl) (of_decide_eq_true (by kernel_rfl)) h100 (fun l h h2=>⟨zPy l h,h2⟩)
  ·intro H en w sp held fuel cs y hfu h hz;obtain ⟨xs,n,hn,hy,hl,hlen,hf⟩:=DataW.trod_struct Tryz.underlying67 h;have hs:=zoL Tryz.underlying67 hy hz;have hn:n≤m:=by omega
   obtain ⟨x0,hx0,w0⟩:=zeX (off:=0) (zHZ.at m) (by kernel_rfl) hn hlen hf hs 0 _ rfl rfl rfl
   obtain ⟨x1,hx1,w1⟩:=zeX (off:=1) (z84.at m) (by kernel_rfl) hn hlen hf hs 1 _ rfl rfl rfl
   obtain ⟨x2,hx2,w2⟩:=zeX (off:=3) h60 (by kernel_rfl) hn hlen hf hs 2 _ rfl rfl rfl
   obtain ⟨x3,hx3,w3⟩:=zeX (off:=4) (zHZ.at m) (by kernel_rfl) hn hlen hf hs 3 _ rfl rfl rfl
   obtain ⟨x4,hx4,w4⟩:=zeX (off:=5) h63 (by kernel_rfl) hn hlen hf hs 4 _ rfl rfl rfl
   obtain ⟨x5,hx5,w5⟩:=zeX (off:=6) (zHZ.at m) (by kernel_rfl) hn hlen hf hs 5 _ rfl rfl rfl
   obtain ⟨x6,hx6,w6⟩:=zeX (off:=7) (z4E.at m) (by kernel_rfl) hn hlen hf hs 6 _ rfl rfl rfl
   have hl:cs.length=10:=hl.trans (by kernel_rfl)
   have:=ziU hx0 (ziU hx1 (ziU hx2 (ziU hx3 (ziU hx4 (ziU hx5 (zDv hx6 hl))))));exact ⟨(⟨x0,x1,x2,x3,x4,x5,x6⟩:Atom),this,by show zjl (⟨x0,x1,x2,x3,x4,x5,x6⟩:Atom); unfold zjl; exact ⟨w0,w1,w2,w3,w4,w5,w6⟩⟩
  ·intro H en w sp held fuel cs y hfu h hz;obtain ⟨xs,n,hn,hy,hl,hlen,hf⟩:=DataW.trod_struct Tryz.underlying69 h;have hs:=zoL Tryz.underlying69 hy hz;have hn:n≤m:=by omega
   obtain ⟨x0,hx0,w0⟩:=zeX (off:=0) h67 (by kernel_rfl) hn hlen hf hs 0 _ rfl rfl rfl
   obtain ⟨x1,hx1,w1⟩:=zeX (off:=10) (zHZ.at m) (by kernel_rfl) hn hlen hf hs 1 _ rfl rfl rfl
   have hl:cs.length=11:=hl.trans (by kernel_rfl)
   have:=ziU hx0 (zDv hx1 hl);exact ⟨(⟨x0,x1⟩:Factor),this,by show zuO (⟨x0,x1⟩:Factor); unfold zuO; exact ⟨w0,w1⟩⟩
  ·intro H en w sp held fuel cs y hfu h hz;obtain ⟨xs,n,hn,hy,hl,hlen,hf⟩:=DataW.trod_struct Tryz.underlying100 h;have hs:=zoL Tryz.underlying100 hy hz;have hn:n≤m:=by omega
   obtain ⟨x0,hx0,w0⟩:=zeX (off:=0) (z4E.at m) (by kernel_rfl) hn hlen hf hs 0 _ rfl rfl rfl
   obtain ⟨x1,hx1,w1⟩:=zeX (off:=3) h23 (by kernel_rfl) hn hlen hf hs 1 _ rfl rfl rfl
   have hl:cs.length=4:=hl.trans (by kernel_rfl)
   have:=ziU hx0 (zDv hx1 hl);exact ⟨(⟨x0,x1⟩:Weighted),this,by show zDU (⟨x0,x1⟩:Weighted); unfold zDU; exact ⟨w0,w1⟩⟩
theorem z4A:zwK Tryz.prog base wf 23:=z6k fun m=>(z3C m).1
end Go.Proofs.YtljlfiomikifjaaGreatDoor
/- What lies inside lists of terms and factors: fuel for loops. -/
namespace Go.Proofs.YtljlfiomikifjaaGreatDoor
def szFs:yD→Nat
 | []=>0
 | f::r=>f.Exp.toNat +f.Atom.Args.length+f.Atom.Items.length+1+szFs r
def szTs:yC→Nat
 | []=>0
 | t::r=>szFs t.Factors+1+szTs r
end Go.Proofs.YtljlfiomikifjaaGreatDoor
namespace Go.Proofs.YtljlfiomikifjaaGreatDoor
open Go Go.Ab
def zVk (r:Int):ARes ty:=⟨[.pure (.lit (.int .i64 r))],[]⟩
def zYr:AL base (yC×yC×Unit):=zd (ze (vSl 28)) (zd (ze (vSl 28)) aNil)
def zkw (F:yC→yC→Bool×Int):Ab.Spec ty:=zh zYr fun x=>((F x.1 x.2.1).1,zVk (F x.1 x.2.1).2)
def zLu:AL base (yD×yD×Unit):=zd (ze (vSl 69)) (zd (ze (vSl 69)) aNil)
def ziy (F:yD→yD→Bool×Int):Ab.Spec ty:=zh zLu fun x=>((F x.1 x.2.1).1,zVk (F x.1 x.2.1).2)
def zRi:AL base (Atom×Atom×Unit):=zd (ze (vAgg 67)) (zd (ze (vAgg 67)) aNil)
def zk6 (F:Atom→Atom→Bool×Int):Ab.Spec ty:=zh zRi fun x=>((F x.1 x.2.1).1,zVk (F x.1 x.2.1).2)
def zPC:AL base (yE×yE×Unit):=zd (ze (vSl 100)) (zd (ze (vSl 100)) aNil)
def zkx (F:yE→yE→Bool×Int):Ab.Spec ty:=zh zPC fun x=>((F x.1 x.2.1).1,zVk (F x.1 x.2.1).2)
def zY9:Cx ty:=mkCx base 11 [] [] [] [] [] []
def zNL (a:Int) (b:Int):Wy0 (Int):=.i (decide (a<b)) (.k (-1:Int)) (.i (decide (a>b)) (.k 1) (.k 0))
def zcR (a:Int) (b:Int):Bool×Int:=(zNL a b).fin default
def z0o:AL base (Int×Int×Unit):=zd (ze vI64) (zd (ze vI64) aNil)
def zkB:Ab.Spec ty:=zh z0o fun x=>((zcR x.1 x.2.1).1,zVk (zcR x.1 x.2.1).2)
theorem zmm:SdP 91 zkB:=
 sW (cx':=zY9) zq zi zk (zj trivial) Tryz.call91 Tryz.func91 (c:=body Tryz.f91) (lOK aN)
abbrev zpc:=yC×yC×Int×Unit
abbrev zuI:=Int⊕(yC×yC)
def zTM (zbe:yD→yD→Bool×Int) (a:yC) (b:yC) (i:Int):Wy zpc (Unit) zuI:=.i (decide (i<Int.ofNat a.length)) (.i (decide (i<Int.ofNat b.length)) (.i (decide (0≤i)&&decide (i<Int.ofNat a.length)) (.i (decide (0≤i)&&decide (i<Int.ofNat b.length)) (.bn (zbe (a.getD i.toNat default).Factors (b.getD i.toNat default).Factors) fun r1=>.i (r1 != 0) (.k (.inl (r1))) (.i (decide (0≤i)&&decide (i<Int.ofNat a.length)) (.i (decide (0≤i)&&decide (i<Int.ofNat b.length)) (.bn (zcR (a.getD i.toNat default).Coeff (b.getD i.toNat default).Coeff) fun r0=>.i (r0 != 0) (.k (.inl (r0))) (.h (a,b,(IntKind.i64.wrap (i+1)),()) ())) .d) .d)) .d) .d) (.k (.inr (a,b)))) (.k (.inr (a,b)))
def zDL (zbe:yD→yD→Bool×Int) (x:zpc) (y:Unit):Wy zpc (Unit) zuI:=zTM zbe x.1 x.2.1 x.2.2.1
def zSQ (zbe:yD→yD→Bool×Int) (n:Nat) (a:yC) (b:yC) (i:Int):Bool×zuI:=zJ (zDL zbe) (.inl default) n (a,b,i,()) ()
def zQ1 (r:zuI):LTree ty:=.ite (isL r) (.done .ret [.lit (.int .i64 (getL r))] []) (.done (.exit 0) [.sl 28 (getR r).1,.sl 28 (getR r).2] [])
def zRI:LL ty zpc:=za (lSl 28) (za (lSl 28) (za lI64 zn))
def zSV:BL ty (Unit):=bNil
def zQF (x:zpc) (y:Unit):Nat:=(x.1.length+x.2.1.length+Int.toNat x.2.2.1+1)
def zEL (zbe:yD→yD→Bool×Int):Cx ty:=mkCx base 53 [(34,(ziy zbe)),(91,zkB)] [] [(2,(kpL [0,1,5]))] [(2,1,(kpL [0,1])),(2,0,(kpL [4]))] [(2,spW zRI zSV (zDL zbe) (.inl default) zQ1 zQF)] []
theorem zQt (zbe:yD→yD→Bool×Int):zI (zEL zbe) (lp (body Tryz.f89) 0):=zt (id:=2) (hl:=rfl)
def zUP (zbe:yD→yD→Bool×Int) (a:yC) (b:yC):Wy0 (Int):=.bn (zSQ zbe (a.length+b.length+Int.toNat 0+1) a b 0) fun r5=>.i (isL r5) (.k (getL r5)) (.bn (zcR (Int.ofNat (getR r5).1.length) (Int.ofNat (getR r5).2.length)) fun r4=>.k r4)
def zwD (zbe:yD→yD→Bool×Int) (a:yC) (b:yC):Bool×Int:=(zUP zbe a b).fin default
theorem zME (zbe:yD→yD→Bool×Int) (zIs:SdP 34 (ziy zbe)):SdP 89 (zkw (zwD zbe)):=
 sW (cx':=(zEL zbe)) zq zi zk (zj ⟨zIs,zmm,trivial⟩) Tryz.call89 Tryz.func89 (c:=body Tryz.f89) (lOK (aC (zQt zbe) aN))
def z14:Cx ty:=mkCx base 4 [] [] [] [] [] []
def zSY (less:Bool):Wy0 (Int):=.i (less) (.k (-1:Int)) (.k 1)
def zyq (less:Bool):Bool×Int:=(zSY less).fin default
def z3k:AL base (Bool×Unit):=zd (ze zbai) aNil
def zKJ:Ab.Spec ty:=zh z3k fun x=>((zyq x.1).1,zVk (zyq x.1).2)
theorem zXC:SdP 157 zKJ:=
 sW (cx':=z14) zq zi zk (zj trivial) Tryz.call157 Tryz.func157 (c:=body Tryz.f157) (lOK aN)
def zXh:Cx ty:=mkCx base 38 [(157,zKJ)] [] [] [] [] []
def zKl (a:Value) (b:Value):Wy0 (Int):=.i (a.Kind != b.Kind) (.bn (zyq (decide (a.Kind<b.Kind))) fun r0=>.k r0) (.i (a.Int != b.Int) (.bn (zyq (decide (a.Int<b.Int))) fun r1=>.k r1) (.i (!a.Text.toList==b.Text.toList) (.bn (zyq (Op.bytesLess a.Text.toList b.Text.toList)) fun r2=>.k r2) (.k 0)))
def zm6 (a:Value) (b:Value):Bool×Int:=(zKl a b).fin default
def zZe:AL base (Value×Value×Unit):=zd (ze (vAgg 65)) (zd (ze (vAgg 65)) aNil)
def zxM:Ab.Spec ty:=zh zZe fun x=>((zm6 x.1 x.2.1).1,zVk (zm6 x.1 x.2.1).2)
theorem zCj:SdP 107 zxM:=
 sW (cx':=zXh) zq zi zk (zj ⟨zXC,trivial⟩) Tryz.call107 Tryz.func107 (c:=body Tryz.f107) (lOK aN)
def zQ8:Cx ty:=mkCx base 19 [(91,zkB)] [] [] [] [] []
def zEW (a:RowID) (b:RowID):Wy0 (Int):=.bn (zcR a.Table b.Table) fun r1=>.i (r1 != 0) (.k r1) (.bn (zcR a.Seq b.Seq) fun r0=>.k r0)
def zlm (a:RowID) (b:RowID):Bool×Int:=(zEW a b).fin default
def zSA:AL base (RowID×RowID×Unit):=zd (ze (vAgg 49)) (zd (ze (vAgg 49)) aNil)
def ztT:Ab.Spec ty:=zh zSA fun x=>((zlm x.1 x.2.1).1,zVk (zlm x.1 x.2.1).2)
theorem zzd:SdP 105 ztT:=
 sW (cx':=zQ8) zq zi zk (zj ⟨zmm,trivial⟩) Tryz.call105 Tryz.func105 (c:=body Tryz.f105) (lOK aN)
abbrev zks:=Unit×Unit×Int×Unit
abbrev zjY:=Atom×Atom×Unit
abbrev zn7:=Int⊕(Atom×Atom)
def zsF (zQ:yC→yC→Bool×Int) (zbq:yE→yE→Bool×Int) (i:Int) (a:Atom) (b:Atom):Wy zks zjY zn7:=.i (decide (i<Int.ofNat a.Args.length)) (.i (decide (i<Int.ofNat b.Args.length)) (.i (decide (0≤i)&&decide (i<Int.ofNat a.Args.length)) (.i (decide (0≤i)&&decide (i<Int.ofNat b.Args.length)) (.bn (zQ (a.Args.getD i.toNat default) (b.Args.getD i.toNat default)) fun r0=>.i (r0 != 0) (.k (.inl (r0))) (.h ((),(),(IntKind.i64.wrap (i+1)),()) (a,b,()))) .d) .d) (.k (.inr (a,b)))) (.k (.inr (a,b)))
def zzl (zQ:yC→yC→Bool×Int) (zbq:yE→yE→Bool×Int) (x:zks) (y:zjY):Wy zks zjY zn7:=zsF zQ zbq x.2.2.1 y.1 y.2.1
def zsz (zQ:yC→yC→Bool×Int) (zbq:yE→yE→Bool×Int) (n:Nat) (i:Int) (a:Atom) (b:Atom):Bool×zn7:=zJ (zzl zQ zbq) (.inl default) n ((),(),i,()) (a,b,())
def zJV (r:zn7):LTree ty:=.ite (isL r) (.done .ret [.lit (.int .i64 (getL r))] []) (.done (.exit 0) [.ptr 384 0,.ptr 385 0] [.box (base.enc 67 (getR r).1) false,.box (base.enc 67 (getR r).2) false])
def zK9:LL ty zks:=za (zdC 384 0) (za (zdC 385 0) (za lI64 zn))
def zLD:BL ty zjY:=bBox (zd6 (fun x=>(⟨x.1,⟨x.2.1,x.2.2.1⟩,x.2.2.2.1,x.2.2.2.2.1,x.2.2.2.2.2.1,x.2.2.2.2.2.2.1,⟨x.2.2.2.2.2.2.2.1,x.2.2.2.2.2.2.2.2.1,x.2.2.2.2.2.2.2.2.2.1⟩⟩:Atom)) (fun x=>(x.Kind,x.Row.Table,x.Row.Seq,x.Args,x.Func,x.Items,x.Op,x.Bound.Kind,x.Bound.Int,x.Bound.Text,())) (fun _=>rfl) (za (lInt .i64) (za (lInt .i64) (za (lInt .i64) (za (lSl 23) (za (lInt .i64) (za (lSl 100) (za (lInt .i64) (za (lInt .i64) (za (lInt .i64) (za lStr zn))))))))))) false (bBox (zd6 (fun x=>(⟨x.1,⟨x.2.1,x.2.2.1⟩,x.2.2.2.1,x.2.2.2.2.1,x.2.2.2.2.2.1,x.2.2.2.2.2.2.1,⟨x.2.2.2.2.2.2.2.1,x.2.2.2.2.2.2.2.2.1,x.2.2.2.2.2.2.2.2.2.1⟩⟩:Atom)) (fun x=>(x.Kind,x.Row.Table,x.Row.Seq,x.Args,x.Func,x.Items,x.Op,x.Bound.Kind,x.Bound.Int,x.Bound.Text,())) (fun _=>rfl) (za (lInt .i64) (za (lInt .i64) (za (lInt .i64) (za (lSl 23) (za (lInt .i64) (za (lSl 100) (za (lInt .i64) (za (lInt .i64) (za (lInt .i64) (za lStr zn))))))))))) false (bNil))
def zJE (x:zks) (y:zjY):Nat:=(Int.toNat x.2.2.1+y.1.Args.length+y.1.Items.length+y.2.1.Args.length+y.2.1.Items.length+1)
def zzk (zQ:yC→yC→Bool×Int) (zbq:yE→yE→Bool×Int):Cx ty:=mkCx base 96 [(89,(zkw zQ)),(91,zkB),(105,ztT),(106,(zkx zbq)),(107,zxM)] [] [(8,(kpL [2,3,7]))] [(8,1,(kpL [2,3])),(8,0,(kpL [4]))] [(8,spW zK9 zLD (zzl zQ zbq) (.inl default) zJV zJE)] []
theorem zJs (zQ:yC→yC→Bool×Int) (zbq:yE→yE→Bool×Int):zI (zzk zQ zbq) (lp (body Tryz.f53) 0):=zt (id:=8) (hl:=rfl)
def zAk (zQ:yC→yC→Bool×Int) (zbq:yE→yE→Bool×Int) (a:Atom) (b:Atom):Wy0 (Int):=.bn (zcR a.Kind b.Kind) fun r9=>.i (r9 != 0) (.k r9) (.bn (zlm a.Row b.Row) fun r8=>.i (r8 != 0) (.k r8) (.bn (zsz zQ zbq (Int.toNat 0+a.Args.length+a.Items.length+b.Args.length+b.Items.length+1) 0 (Atom.mk a.Kind a.Row a.Args a.Func a.Items a.Op a.Bound) (Atom.mk b.Kind b.Row b.Args b.Func b.Items b.Op b.Bound)) fun r7=>.i (isL r7) (.k (getL r7)) (.bn (zcR (Int.ofNat (getR r7).1.Args.length) (Int.ofNat (getR r7).2.Args.length)) fun r6=>.i (r6 != 0) (.k r6) (.bn (zcR (getR r7).1.Func (getR r7).2.Func) fun r5=>.i (r5 != 0) (.k r5) (.bn (zbq (getR r7).1.Items (getR r7).2.Items) fun r4=>.i (r4 != 0) (.k r4) (.bn (zcR (getR r7).1.Op (getR r7).2.Op) fun r3=>.i (r3 != 0) (.k r3) (.bn (zm6 (getR r7).1.Bound (getR r7).2.Bound) fun r2=>.k r2)))))))
def zk9 (zQ:yC→yC→Bool×Int) (zbq:yE→yE→Bool×Int) (a:Atom) (b:Atom):Bool×Int:=(zAk zQ zbq a b).fin default
theorem zGt (zQ:yC→yC→Bool×Int) (zbq:yE→yE→Bool×Int) (zyO:SdP 89 (zkw zQ)) (zLo:SdP 106 (zkx zbq)):SdP 53 (zk6 (zk9 zQ zbq)):=
 sW (cx':=(zzk zQ zbq)) zq zi zk (zj ⟨zyO,zmm,zzd,zLo,zCj,trivial⟩) Tryz.call53 Tryz.func53 (c:=body Tryz.f53) (lOK (aC (zJs zQ zbq) aN))
abbrev zhQ:=yD×yD×Int×Unit
abbrev zkZ:=Int⊕(yD×yD)
def zwV (zbw:Atom→Atom→Bool×Int) (a:yD) (b:yD) (i:Int):Wy zhQ (Unit) zkZ:=.i (decide (i<Int.ofNat a.length)) (.i (decide (i<Int.ofNat b.length)) (.i (decide (0≤i)&&decide (i<Int.ofNat a.length)) (.i (decide (0≤i)&&decide (i<Int.ofNat b.length)) (.bn (zbw (Atom.mk (a.getD i.toNat default).Atom.Kind (a.getD i.toNat default).Atom.Row (a.getD i.toNat default).Atom.Args (a.getD i.toNat default).Atom.Func (a.getD i.toNat default).Atom.Items (a.getD i.toNat default).Atom.Op (a.getD i.toNat default).Atom.Bound) (Atom.mk (b.getD i.toNat default).Atom.Kind (b.getD i.toNat default).Atom.Row (b.getD i.toNat default).Atom.Args (b.getD i.toNat default).Atom.Func (b.getD i.toNat default).Atom.Items (b.getD i.toNat default).Atom.Op (b.getD i.toNat default).Atom.Bound)) fun r1=>.i (r1 != 0) (.k (.inl (r1))) (.i (decide (0≤i)&&decide (i<Int.ofNat a.length)) (.i (decide (0≤i)&&decide (i<Int.ofNat b.length)) (.bn (zcR (a.getD i.toNat default).Exp (b.getD i.toNat default).Exp) fun r0=>.i (r0 != 0) (.k (.inl (r0))) (.h (a,b,(IntKind.i64.wrap (i+1)),()) ())) .d) .d)) .d) .d) (.k (.inr (a,b)))) (.k (.inr (a,b)))
def zjL (zbw:Atom→Atom→Bool×Int) (x:zhQ) (y:Unit):Wy zhQ (Unit) zkZ:=zwV zbw x.1 x.2.1 x.2.2.1
def zwS (zbw:Atom→Atom→Bool×Int) (n:Nat) (a:yD) (b:yD) (i:Int):Bool×zkZ:=zJ (zjL zbw) (.inl default) n (a,b,i,()) ()
def zFG (r:zkZ):LTree ty:=.ite (isL r) (.done .ret [.lit (.int .i64 (getL r))] []) (.done (.exit 0) [.sl 69 (getR r).1,.sl 69 (getR r).2] [])
def zHe:LL ty zhQ:=za (lSl 69) (za (lSl 69) (za lI64 zn))
def zFu (x:zhQ) (y:Unit):Nat:=(x.1.length+x.2.1.length+Int.toNat x.2.2.1+1)
def zwT (zbw:Atom→Atom→Bool×Int):Cx ty:=mkCx base 53 [(53,(zk6 zbw)),(91,zkB)] [] [(2,(kpL [0,1,5]))] [(2,1,(kpL [0,1])),(2,0,(kpL [4]))] [(2,spW zHe zSV (zjL zbw) (.inl default) zFG zFu)] []
theorem zFm (zbw:Atom→Atom→Bool×Int):zI (zwT zbw) (lp (body Tryz.f34) 0):=zt (id:=2) (hl:=rfl)
def zxa (zbw:Atom→Atom→Bool×Int) (a:yD) (b:yD):Wy0 (Int):=.bn (zwS zbw (a.length+b.length+Int.toNat 0+1) a b 0) fun r5=>.i (isL r5) (.k (getL r5)) (.bn (zcR (Int.ofNat (getR r5).1.length) (Int.ofNat (getR r5).2.length)) fun r4=>.k r4)
def ziB (zbw:Atom→Atom→Bool×Int) (a:yD) (b:yD):Bool×Int:=(zxa zbw a b).fin default
theorem zDx (zbw:Atom→Atom→Bool×Int) (zMR:SdP 53 (zk6 zbw)):SdP 34 (ziy (ziB zbw)):=
 sW (cx':=(zwT zbw)) zq zi zk (zj ⟨zMR,zmm,trivial⟩) Tryz.call34 Tryz.func34 (c:=body Tryz.f34) (lOK (aC (zFm zbw) aN))
abbrev zjd:=yE×yE×Int×Unit
abbrev zmD:=Int⊕(yE×yE)
def zKc (zQ:yC→yC→Bool×Int) (a:yE) (b:yE) (i:Int):Wy zjd (Unit) zmD:=.i (decide (i<Int.ofNat a.length)) (.i (decide (i<Int.ofNat b.length)) (.i (decide (0≤i)&&decide (i<Int.ofNat a.length)) (.i (decide (0≤i)&&decide (i<Int.ofNat b.length)) (.bn (zm6 (a.getD i.toNat default).Value (b.getD i.toNat default).Value) fun r1=>.i (r1 != 0) (.k (.inl (r1))) (.i (decide (0≤i)&&decide (i<Int.ofNat a.length)) (.i (decide (0≤i)&&decide (i<Int.ofNat b.length)) (.bn (zQ (a.getD i.toNat default).Ann (b.getD i.toNat default).Ann) fun r0=>.i (r0 != 0) (.k (.inl (r0))) (.h (a,b,(IntKind.i64.wrap (i+1)),()) ())) .d) .d)) .d) .d) (.k (.inr (a,b)))) (.k (.inr (a,b)))
def zyz (zQ:yC→yC→Bool×Int) (x:zjd) (y:Unit):Wy zjd (Unit) zmD:=zKc zQ x.1 x.2.1 x.2.2.1
def zKb (zQ:yC→yC→Bool×Int) (n:Nat) (a:yE) (b:yE) (i:Int):Bool×zmD:=zJ (zyz zQ) (.inl default) n (a,b,i,()) ()
def zIt (r:zmD):LTree ty:=.ite (isL r) (.done .ret [.lit (.int .i64 (getL r))] []) (.done (.exit 0) [.sl 100 (getR r).1,.sl 100 (getR r).2] [])
def zKd:LL ty zjd:=za (lSl 100) (za (lSl 100) (za lI64 zn))
def zIP (x:zjd) (y:Unit):Nat:=(x.1.length+x.2.1.length+Int.toNat x.2.2.1+1)
def zyv (zQ:yC→yC→Bool×Int):Cx ty:=mkCx base 53 [(89,(zkw zQ)),(91,zkB),(107,zxM)] [] [(2,(kpL [0,1,5]))] [(2,1,(kpL [0,1])),(2,0,(kpL [4]))] [(2,spW zKd zSV (zyz zQ) (.inl default) zIt zIP)] []
theorem zIM (zQ:yC→yC→Bool×Int):zI (zyv zQ) (lp (body Tryz.f106) 0):=zt (id:=2) (hl:=rfl)
def zL3 (zQ:yC→yC→Bool×Int) (a:yE) (b:yE):Wy0 (Int):=.bn (zKb zQ (a.length+b.length+Int.toNat 0+1) a b 0) fun r5=>.i (isL r5) (.k (getL r5)) (.bn (zcR (Int.ofNat (getR r5).1.length) (Int.ofNat (getR r5).2.length)) fun r4=>.k r4)
def zn6 (zQ:yC→yC→Bool×Int) (a:yE) (b:yE):Bool×Int:=(zL3 zQ a b).fin default
theorem zFc (zQ:yC→yC→Bool×Int) (zyO:SdP 89 (zkw zQ)):SdP 106 (zkx (zn6 zQ)):=
 sW (cx':=(zyv zQ)) zq zi zk (zj ⟨zyO,zmm,zCj,trivial⟩) Tryz.call106 Tryz.func106 (c:=body Tryz.f106) (lOK (aC (zIM zQ) aN))
def zkn:Nat→(yC→yC→Bool×Int)×(yD→yD→Bool×Int)×(Atom→Atom→Bool×Int)×(yE→yE→Bool×Int)
 | 0=>(fun _ _=>(false,default),fun _ _=>(false,default),fun _ _=>(false,default),fun _ _=>(false,default))
 | n+1=>(zwD ((zkn n).2.1),ziB ((zkn n).2.2.1),zk9 ((zkn n).1) ((zkn n).2.2.2),zn6 ((zkn n).1))
def zmA (n:Nat):yC→yC→Bool×Int:=(zkn n).1
def ziL (n:Nat):yD→yD→Bool×Int:=(zkn n).2.1
def zlh (n:Nat):Atom→Atom→Bool×Int:=(zkn n).2.2.1
def zki (n:Nat):yE→yE→Bool×Int:=(zkn n).2.2.2
theorem zSH (n:Nat):zmA (n+1)=zwD (ziL n):=rfl
theorem zGK (n:Nat):ziL (n+1)=ziB (zlh n):=rfl
theorem zMa (n:Nat):zlh (n+1)=zk9 (zmA n) (zki n):=rfl
theorem zJ6 (n:Nat):zki (n+1)=zn6 (zmA n):=rfl
theorem ztB:∀ n,SdP 89 (zkw (zmA n))∧SdP 34 (ziy (ziL n))∧SdP 53 (zk6 (zlh n))∧SdP 106 (zkx (zki n))
 | 0=>⟨zY Tryz.call89 (fun _=>rfl),zY Tryz.call34 (fun _=>rfl),zY Tryz.call53 (fun _=>rfl),zY Tryz.call106 (fun _=>rfl)⟩
 | n+1=>by
  have ih:=ztB n;exact ⟨zME _ (ih.2.1),zDx _ (ih.2.2.1),zGt _ _ (ih.1) (ih.2.2.2),zFc _ (ih.1)⟩
def zFL:yC→yC→Bool×Int:=zmA 1000
def ref05_Compare_spec:Ab.Spec ty:=zkw zFL
theorem zQT:SdP 89 ref05_Compare_spec:=(ztB 1000).1
def zkz:yD→yD→Bool×Int:=ziL 1000
def ref05_CompareFactors_spec:Ab.Spec ty:=ziy zkz
theorem zvG:SdP 34 ref05_CompareFactors_spec:=(ztB 1000).2.1
def zh5:Atom→Atom→Bool×Int:=zlh 1000
def ref05_CompareAtom_spec:Ab.Spec ty:=zk6 zh5
theorem zqK:SdP 53 ref05_CompareAtom_spec:=(ztB 1000).2.2.1
def zxI:yE→yE→Bool×Int:=zki 1000
def ref05_CompareItems_spec:Ab.Spec ty:=zkx zxI
theorem zI6:SdP 106 ref05_CompareItems_spec:=(ztB 1000).2.2.2
def zY8 (r:Bool):ARes ty:=⟨[.pure (.lit (.bool r))],[]⟩
def z1A:AL base (yC×Unit):=zd (ze (vSl 28)) aNil
def zvp (F:yC→Bool×Bool):Ab.Spec ty:=zh z1A fun x=>((F x.1).1,zY8 (F x.1).2)
def zUv:AL base (Atom×Unit):=zd (ze (vAgg 67)) aNil
def zs2 (F:Atom→Bool×Bool):Ab.Spec ty:=zh zUv fun x=>((F x.1).1,zY8 (F x.1).2)
def zsf (F:yC→Bool×Int):Ab.Spec ty:=zh z1A fun x=>((F x.1).1,zVk (F x.1).2)
abbrev zeq:=yC×Int×Int×Int×Unit×Int×Int×Unit
abbrev zvj:=yC×Int×Int×Int×Int×Atom
abbrev zve:=yC×Int×Int×Int×Int
abbrev zo1:=yC×Int×Int×Int×Unit
abbrev zu7:=yC×Int×Int
abbrev zpU:=yC×Int×Int×Unit
def zla (zy:yC→Bool×Int) (a:yC) (most:Int) (i:Int) (k:Int) (n_:Int) (j:Int) (x_:Atom):Wy zeq (Atom×Unit) zvj:=.i (decide (j<Int.ofNat x_.Args.length)) (.i (decide (0≤j)&&decide (j<Int.ofNat x_.Args.length)) (.bn (zy (x_.Args.getD j.toNat default)) fun r0=>.h (a,most,i,k,(),(if IntKind.i64.wrap (1+r0)>n_ then IntKind.i64.wrap (1+r0) else n_),(IntKind.i64.wrap (j+1)),()) (x_,())) .d) (.k (a,most,i,k,n_,x_))
def zws (zy:yC→Bool×Int) (x:zeq) (y:Atom×Unit):Wy zeq (Atom×Unit) zvj:=zla zy x.1 x.2.1 x.2.2.1 x.2.2.2.1 x.2.2.2.2.2.1 x.2.2.2.2.2.2.1 y.1
def zwx (zy:yC→Bool×Int) (n:Nat) (a:yC) (most:Int) (i:Int) (k:Int) (n_:Int) (j:Int) (x_:Atom):Bool×zvj:=zJ (zws zy) default n (a,most,i,k,(),n_,j,()) (x_,())
def zOR (r:zvj):LTree ty:=.done (.exit 4) [.sl 28 r.1,.lit (.int .i64 r.2.1),.lit (.int .i64 r.2.2.1),.lit (.int .i64 r.2.2.2.1),.ptr 300 0,.lit (.int .i64 r.2.2.2.2.1)] [.box (base.enc 67 r.2.2.2.2.2) false]
def zQL:LL ty zeq:=za (lSl 28) (za lI64 (za lI64 (za lI64 (za (zdC 300 0) (za lI64 (za lI64 zn))))))
def zQI:BL ty (Atom×Unit):=bBox (zd6 (fun x=>(⟨x.1,⟨x.2.1,x.2.2.1⟩,x.2.2.2.1,x.2.2.2.2.1,x.2.2.2.2.2.1,x.2.2.2.2.2.2.1,⟨x.2.2.2.2.2.2.2.1,x.2.2.2.2.2.2.2.2.1,x.2.2.2.2.2.2.2.2.2.1⟩⟩:Atom)) (fun x=>(x.Kind,x.Row.Table,x.Row.Seq,x.Args,x.Func,x.Items,x.Op,x.Bound.Kind,x.Bound.Int,x.Bound.Text,())) (fun _=>rfl) (za (lInt .i64) (za (lInt .i64) (za (lInt .i64) (za (lSl 23) (za (lInt .i64) (za (lSl 100) (za (lInt .i64) (za (lInt .i64) (za (lInt .i64) (za lStr zn))))))))))) false (bNil)
def zk3 (zy:yC→Bool×Int) (a:yC) (most:Int) (i:Int) (k:Int) (n_:Int) (j:Int) (x_:Atom):Wy zeq (Atom×Unit) zve:=.i (decide (j<Int.ofNat x_.Items.length)) (.i (decide (0≤j)&&decide (j<Int.ofNat x_.Items.length)) (.bn (zy (x_.Items.getD j.toNat default).Ann) fun r2=>.h (a,most,i,k,(),(if IntKind.i64.wrap (1+r2)>n_ then IntKind.i64.wrap (1+r2) else n_),(IntKind.i64.wrap (j+1)),()) (x_,())) .d) (.k (a,most,i,k,n_))
def zwy (zy:yC→Bool×Int) (x:zeq) (y:Atom×Unit):Wy zeq (Atom×Unit) zve:=zk3 zy x.1 x.2.1 x.2.2.1 x.2.2.2.1 x.2.2.2.2.2.1 x.2.2.2.2.2.2.1 y.1
def zCh (zy:yC→Bool×Int) (n:Nat) (a:yC) (most:Int) (i:Int) (k:Int) (n_:Int) (j:Int) (x_:Atom):Bool×zve:=zJ (zwy zy) default n (a,most,i,k,(),n_,j,()) (x_,())
def zOS (r:zve):LTree ty:=.done (.exit 6) [.sl 28 r.1,.lit (.int .i64 r.2.1),.lit (.int .i64 r.2.2.1),.lit (.int .i64 r.2.2.2.1),.lit (.int .i64 r.2.2.2.2)] []
def zmi (zy:yC→Bool×Int) (a:yC) (most:Int) (i:Int) (k:Int):Wy zo1 (Unit) zu7:=.i (decide (0≤i)&&decide (i<Int.ofNat a.length)) (.i (decide (k<Int.ofNat (a.getD i.toNat default).Factors.length)) (.i (decide (0≤i)&&decide (i<Int.ofNat a.length)) (.i (decide (0≤k)&&decide (k<Int.ofNat (a.getD i.toNat default).Factors.length)) (.i (((a.getD i.toNat default).Factors.getD k.toNat default).Atom.Kind==0) (.h (a,most,i,(IntKind.i64.wrap (k+1)),()) ()) (.bn (zwx zy ((a.length+most.toNat +i.toNat +k.toNat +Int.toNat 1+Int.toNat 0+((a.getD i.toNat default).Factors.getD k.toNat default).Atom.Args.length+((a.getD i.toNat default).Factors.getD k.toNat default).Atom.Items.length+1)+szTs a) a most i k 1 0 (Atom.mk ((a.getD i.toNat default).Factors.getD k.toNat default).Atom.Kind ((a.getD i.toNat default).Factors.getD k.toNat default).Atom.Row ((a.getD i.toNat default).Factors.getD k.toNat default).Atom.Args ((a.getD i.toNat default).Factors.getD k.toNat default).Atom.Func ((a.getD i.toNat default).Factors.getD k.toNat default).Atom.Items ((a.getD i.toNat default).Factors.getD k.toNat default).Atom.Op ((a.getD i.toNat default).Factors.getD k.toNat default).Atom.Bound)) fun r5=>.bn (zCh zy ((r5.1.length+r5.2.1.toNat +r5.2.2.1.toNat +r5.2.2.2.1.toNat +r5.2.2.2.2.1.toNat +Int.toNat 0+r5.2.2.2.2.2.Args.length+r5.2.2.2.2.2.Items.length+1)+szTs r5.1) r5.1 r5.2.1 r5.2.2.1 r5.2.2.2.1 r5.2.2.2.2.1 0 (Atom.mk r5.2.2.2.2.2.Kind r5.2.2.2.2.2.Row r5.2.2.2.2.2.Args r5.2.2.2.2.2.Func r5.2.2.2.2.2.Items r5.2.2.2.2.2.Op r5.2.2.2.2.2.Bound)) fun r4=>.h ((r4.1),(if r4.2.2.2.2>r4.2.1 then r4.2.2.2.2 else r4.2.1),(r4.2.2.1),(IntKind.i64.wrap (r4.2.2.2.1+1)),()) ())) .d) .d) (.k (a,most,i))) .d
def zxq (zy:yC→Bool×Int) (x:zo1) (y:Unit):Wy zo1 (Unit) zu7:=zmi zy x.1 x.2.1 x.2.2.1 x.2.2.2.1
def zEw (zy:yC→Bool×Int) (n:Nat) (a:yC) (most:Int) (i:Int) (k:Int):Bool×zu7:=zJ (zxq zy) default n (a,most,i,k,()) ()
def zQH (r:zu7):LTree ty:=.done (.exit 2) [.sl 28 r.1,.lit (.int .i64 r.2.1),.lit (.int .i64 r.2.2)] []
def zRr:LL ty zo1:=za (lSl 28) (za lI64 (za lI64 (za lI64 zn)))
def zlY (zy:yC→Bool×Int) (a:yC) (most:Int) (i:Int):Wy zpU (Unit) (Int):=.i (decide (i<Int.ofNat a.length)) (.bn (zEw zy ((a.length+most.toNat +i.toNat +Int.toNat 0+1)+szTs a) a most i 0) fun r8=>.h ((r8.1),(r8.2.1),(IntKind.i64.wrap (r8.2.2+1)),()) ()) (.k most)
def zxm (zy:yC→Bool×Int) (x:zpU) (y:Unit):Wy zpU (Unit) (Int):=zlY zy x.1 x.2.1 x.2.2.1
def zEC (zy:yC→Bool×Int) (n:Nat) (a:yC) (most:Int) (i:Int):Bool×Int:=zJ (zxm zy) default n (a,most,i,()) ()
def zQS (r:Int):LTree ty:=.done (.exit 0) [.lit (.int .i64 r)] []
def zR7:LL ty zpU:=za (lSl 28) (za lI64 (za lI64 zn))
def zOY (x:zeq) (y:Atom×Unit):Nat:=((x.1.length+Int.toNat x.2.1+Int.toNat x.2.2.1+Int.toNat x.2.2.2.1+Int.toNat x.2.2.2.2.2.1+Int.toNat x.2.2.2.2.2.2.1+y.1.Args.length+y.1.Items.length+1)+szTs x.1)
def zRh (x:zo1) (y:Unit):Nat:=((x.1.length+Int.toNat x.2.1+Int.toNat x.2.2.1+Int.toNat x.2.2.2.1+1)+szTs x.1)
def zRd (x:zpU) (y:Unit):Nat:=((x.1.length+Int.toNat x.2.1+Int.toNat x.2.2.1+1)+szTs x.1)
def zlU (zy:yC→Bool×Int):Cx ty:=mkCx base 75 [(108,(zsf zy))] [] [(3,(kpL [0,3,4])),(6,(kpL [0,3,4,5])),(12,(kpL [0,3,4,5,6,7,8])),(16,(kpL [0,3,4,5,6,7,9]))] [(3,1,(kpL [3])),(6,3,(kpL [0,3,4])),(12,5,(kpL [0,3,4,5,6,7])),(16,7,(kpL [0,3,4,5,7]))] [(12,spW zQL zQI (zws zy) default zOR zOY),(16,spW zQL zQI (zwy zy) default zOS zOY),(6,spW zRr zSV (zxq zy) default zQH zRh),(3,spW zR7 zSV (zxm zy) default zQS zRd)] []
theorem zOT (zy:yC→Bool×Int):zI (zlU zy) (lp (body Tryz.f108) 2):=zt (id:=12) (hl:=rfl)
theorem zN0 (zy:yC→Bool×Int):zI (zlU zy) (lp (body Tryz.f108) 3):=zt (id:=16) (hl:=rfl)
theorem zQn (zy:yC→Bool×Int):zI (zlU zy) (lp (body Tryz.f108) 1):=zt (id:=6) (hl:=rfl)
theorem zQW (zy:yC→Bool×Int):zI (zlU zy) (lp (body Tryz.f108) 0):=zt (id:=3) (hl:=rfl)
def zGq (zy:yC→Bool×Int) (a:yC):Wy0 (Int):=.bn (zEC zy ((a.length+Int.toNat 0+Int.toNat 0+1)+szTs a) a 0 0) fun r10=>.k r10
def zwH (zy:yC→Bool×Int) (a:yC):Bool×Int:=(zGq zy a).fin default
theorem zMG (zy:yC→Bool×Int) (zUR:SdP 108 (zsf zy)):SdP 108 (zsf (zwH zy)):=
 sW (cx':=(zlU zy)) zq zi zk (zj ⟨zUR,trivial⟩) Tryz.call108 Tryz.func108 (c:=body Tryz.f108) (lOK (aC (zQW zy) (aC (zQn zy) (aC (zOT zy) (aC (zN0 zy) aN)))))
def zRn:Nat→(yC→Bool×Int)
 | 0=>fun _=>(false,default)
 | n+1=>zwH (zRn n)
def zjX (n:Nat):yC→Bool×Int:=zRn n
theorem zSD (n:Nat):zjX (n+1)=zwH (zjX n):=rfl
theorem zNA:∀ n,SdP 108 (zsf (zjX n))
 | 0=>zY Tryz.call108 (fun _=>rfl)
 | n+1=>by
  have ih:=zNA n;exact zMG _ (ih)
def zFY:yC→Bool×Int:=zjX 1000
def ref05_Nesting_spec:Ab.Spec ty:=zsf zFY
theorem zQr:SdP 108 ref05_Nesting_spec:=(zNA 1000)
abbrev zg9:=yC×Int×Int×Int×Unit×Int×Unit
abbrev zzE:=yC×Int×Int×Int×Atom
abbrev zzC:=yC×Int×Int×Int
abbrev zvO:=yC×Int×Int×Int×Unit
abbrev zzF:=yC×Int×Int
abbrev zvD:=yC×Int×Int×Unit
def zpW (zP:yC→Bool×Int) (a:yC) (n_:Int) (i:Int) (k:Int) (j:Int) (x_:Atom):Wy zg9 (Atom×Unit) zzE:=.i (decide (j<Int.ofNat x_.Args.length)) (.i (decide (0≤j)&&decide (j<Int.ofNat x_.Args.length)) (.bn (zP (x_.Args.getD j.toNat default)) fun r0=>.h (a,(IntKind.i64.wrap (n_+r0)),i,k,(),(IntKind.i64.wrap (j+1)),()) (x_,())) .d) (.k (a,n_,i,k,x_))
def zzX (zP:yC→Bool×Int) (x:zg9) (y:Atom×Unit):Wy zg9 (Atom×Unit) zzE:=zpW zP x.1 x.2.1 x.2.2.1 x.2.2.2.1 x.2.2.2.2.2.1 y.1
def zJm (zP:yC→Bool×Int) (n:Nat) (a:yC) (n_:Int) (i:Int) (k:Int) (j:Int) (x_:Atom):Bool×zzE:=zJ (zzX zP) default n (a,n_,i,k,(),j,()) (x_,())
def zUw (r:zzE):LTree ty:=.done (.exit 4) [.sl 28 r.1,.lit (.int .i64 r.2.1),.lit (.int .i64 r.2.2.1),.lit (.int .i64 r.2.2.2.1),.ptr 284 0] [.box (base.enc 67 r.2.2.2.2) false]
def zWH:LL ty zg9:=za (lSl 28) (za lI64 (za lI64 (za lI64 (za (zdC 284 0) (za lI64 zn)))))
def zo6 (zP:yC→Bool×Int) (a:yC) (n_:Int) (i:Int) (k:Int) (j:Int) (x_:Atom):Wy zg9 (Atom×Unit) zzC:=.i (decide (j<Int.ofNat x_.Items.length)) (.i (decide (0≤j)&&decide (j<Int.ofNat x_.Items.length)) (.bn (zP (x_.Items.getD j.toNat default).Ann) fun r2=>.h (a,(IntKind.i64.wrap (IntKind.i64.wrap (n_+1)+r2)),i,k,(),(IntKind.i64.wrap (j+1)),()) (x_,())) .d) (.k (a,n_,i,k))
def zzL (zP:yC→Bool×Int) (x:zg9) (y:Atom×Unit):Wy zg9 (Atom×Unit) zzC:=zo6 zP x.1 x.2.1 x.2.2.1 x.2.2.2.1 x.2.2.2.2.2.1 y.1
def zIS (zP:yC→Bool×Int) (n:Nat) (a:yC) (n_:Int) (i:Int) (k:Int) (j:Int) (x_:Atom):Bool×zzC:=zJ (zzL zP) default n (a,n_,i,k,(),j,()) (x_,())
def zVE (r:zzC):LTree ty:=.done (.exit 6) [.sl 28 r.1,.lit (.int .i64 r.2.1),.lit (.int .i64 r.2.2.1),.lit (.int .i64 r.2.2.2)] []
def zrE (zP:yC→Bool×Int) (a:yC) (n_:Int) (i:Int) (k:Int):Wy zvO (Unit) zzF:=.i (decide (0≤i)&&decide (i<Int.ofNat a.length)) (.i (decide (k<Int.ofNat (a.getD i.toNat default).Factors.length)) (.i (decide (0≤i)&&decide (i<Int.ofNat a.length)) (.i (decide (0≤k)&&decide (k<Int.ofNat (a.getD i.toNat default).Factors.length)) (.bn (zJm zP ((a.length+(IntKind.i64.wrap (n_+1)).toNat +i.toNat +k.toNat +Int.toNat 0+((a.getD i.toNat default).Factors.getD k.toNat default).Atom.Args.length+((a.getD i.toNat default).Factors.getD k.toNat default).Atom.Items.length+1)+szTs a) a (IntKind.i64.wrap (n_+1)) i k 0 (Atom.mk ((a.getD i.toNat default).Factors.getD k.toNat default).Atom.Kind ((a.getD i.toNat default).Factors.getD k.toNat default).Atom.Row ((a.getD i.toNat default).Factors.getD k.toNat default).Atom.Args ((a.getD i.toNat default).Factors.getD k.toNat default).Atom.Func ((a.getD i.toNat default).Factors.getD k.toNat default).Atom.Items ((a.getD i.toNat default).Factors.getD k.toNat default).Atom.Op ((a.getD i.toNat default).Factors.getD k.toNat default).Atom.Bound)) fun r5=>.bn (zIS zP ((r5.1.length+r5.2.1.toNat +r5.2.2.1.toNat +r5.2.2.2.1.toNat +Int.toNat 0+r5.2.2.2.2.Args.length+r5.2.2.2.2.Items.length+1)+szTs r5.1) r5.1 r5.2.1 r5.2.2.1 r5.2.2.2.1 0 (Atom.mk r5.2.2.2.2.Kind r5.2.2.2.2.Row r5.2.2.2.2.Args r5.2.2.2.2.Func r5.2.2.2.2.Items r5.2.2.2.2.Op r5.2.2.2.2.Bound)) fun r4=>.h ((r4.1),(r4.2.1),(r4.2.2.1),(IntKind.i64.wrap (r4.2.2.2+1)),()) ()) .d) .d) (.k (a,n_,i))) .d
def zBh (zP:yC→Bool×Int) (x:zvO) (y:Unit):Wy zvO (Unit) zzF:=zrE zP x.1 x.2.1 x.2.2.1 x.2.2.2.1
def zKw (zP:yC→Bool×Int) (n:Nat) (a:yC) (n_:Int) (i:Int) (k:Int):Bool×zzF:=zJ (zBh zP) default n (a,n_,i,k,()) ()
def zXJ (r:zzF):LTree ty:=.done (.exit 2) [.sl 28 r.1,.lit (.int .i64 r.2.1),.lit (.int .i64 r.2.2)] []
def zX9:LL ty zvO:=za (lSl 28) (za lI64 (za lI64 (za lI64 zn)))
def zsb (zP:yC→Bool×Int) (a:yC) (n_:Int) (i:Int):Wy zvD (Unit) (Int):=.i (decide (i<Int.ofNat a.length)) (.bn (zKw zP ((a.length+(IntKind.i64.wrap (n_+1)).toNat +i.toNat +Int.toNat 0+1)+szTs a) a (IntKind.i64.wrap (n_+1)) i 0) fun r8=>.h ((r8.1),(r8.2.1),(IntKind.i64.wrap (r8.2.2+1)),()) ()) (.k n_)
def zBc (zP:yC→Bool×Int) (x:zvD) (y:Unit):Wy zvD (Unit) (Int):=zsb zP x.1 x.2.1 x.2.2.1
def zKB (zP:yC→Bool×Int) (n:Nat) (a:yC) (n_:Int) (i:Int):Bool×Int:=zJ (zBc zP) default n (a,n_,i,()) ()
def zZl:LL ty zvD:=za (lSl 28) (za lI64 (za lI64 zn))
def zUI (x:zg9) (y:Atom×Unit):Nat:=((x.1.length+Int.toNat x.2.1+Int.toNat x.2.2.1+Int.toNat x.2.2.2.1+Int.toNat x.2.2.2.2.2.1+y.1.Args.length+y.1.Items.length+1)+szTs x.1)
def zXc (x:zvO) (y:Unit):Nat:=((x.1.length+Int.toNat x.2.1+Int.toNat x.2.2.1+Int.toNat x.2.2.2.1+1)+szTs x.1)
def zWY (x:zvD) (y:Unit):Nat:=((x.1.length+Int.toNat x.2.1+Int.toNat x.2.2.1+1)+szTs x.1)
def zrY (zP:yC→Bool×Int):Cx ty:=mkCx base 71 [(109,(zsf zP))] [] [(3,(kpL [0,3,4])),(7,(kpL [0,3,4,5])),(12,(kpL [0,3,4,5,6,7])),(16,(kpL [0,3,4,5,6,8]))] [(3,1,(kpL [3])),(7,3,(kpL [0,3,4])),(12,5,(kpL [0,3,4,5,6])),(16,7,(kpL [0,3,4,5]))] [(12,spW zWH zQI (zzX zP) default zUw zUI),(16,spW zWH zQI (zzL zP) default zVE zUI),(7,spW zX9 zSV (zBh zP) default zXJ zXc),(3,spW zZl zSV (zBc zP) default zQS zWY)] []
theorem zUk (zP:yC→Bool×Int):zI (zrY zP) (lp (body Tryz.f109) 2):=zt (id:=12) (hl:=rfl)
theorem zVz (zP:yC→Bool×Int):zI (zrY zP) (lp (body Tryz.f109) 3):=zt (id:=16) (hl:=rfl)
theorem zWG (zP:yC→Bool×Int):zI (zrY zP) (lp (body Tryz.f109) 1):=zt (id:=7) (hl:=rfl)
theorem zWK (zP:yC→Bool×Int):zI (zrY zP) (lp (body Tryz.f109) 0):=zt (id:=3) (hl:=rfl)
def zM3 (zP:yC→Bool×Int) (a:yC):Wy0 (Int):=.bn (zKB zP ((a.length+Int.toNat 0+Int.toNat 0+1)+szTs a) a 0 0) fun r10=>.k r10
def zBt (zP:yC→Bool×Int) (a:yC):Bool×Int:=(zM3 zP a).fin default
theorem zSU (zP:yC→Bool×Int) (z0h:SdP 109 (zsf zP)):SdP 109 (zsf (zBt zP)):=
 sW (cx':=(zrY zP)) zq zi zk (zj ⟨z0h,trivial⟩) Tryz.call109 Tryz.func109 (c:=body Tryz.f109) (lOK (aC (zWK zP) (aC (zWG zP) (aC (zUk zP) (aC (zVz zP) aN)))))
def z1c:Nat→(yC→Bool×Int)
 | 0=>fun _=>(false,default)
 | n+1=>zBt (z1c n)
def ztM (n:Nat):yC→Bool×Int:=z1c n
theorem zZc (n:Nat):ztM (n+1)=zBt (ztM n):=rfl
theorem zV0:∀ n,SdP 109 (zsf (ztM n))
 | 0=>zY Tryz.call109 (fun _=>rfl)
 | n+1=>by
  have ih:=zV0 n;exact zSU _ (ih)
def zPe:yC→Bool×Int:=ztM 1000
def ref05_Size_spec:Ab.Spec ty:=zsf zPe
theorem zWB:SdP 109 ref05_Size_spec:=(zV0 1000)
abbrev zvJ:=yC×Int×Int×Unit
abbrev zzI:=Bool⊕(yC×Int)
abbrev zvT:=yC×Int×Unit
def zvy (a:yC) (i:Int) (k:Int):Wy zvJ (Unit) zzI:=.i (decide (0≤i)&&decide (i<Int.ofNat a.length)) (.i (decide (k<Int.ofNat (a.getD i.toNat default).Factors.length)) (.i (decide (0≤i)&&decide (i<Int.ofNat a.length)) (.i (decide (0≤k)&&decide (k<Int.ofNat (a.getD i.toNat default).Factors.length)) (.i (decide (((a.getD i.toNat default).Factors.getD k.toNat default).Exp>64)) (.k (.inl false)) (.i (decide (0≤i)&&decide (i<Int.ofNat a.length)) (.i (decide (0≤k)&&decide (k<Int.ofNat (a.getD i.toNat default).Factors.length)) (.i (decide (Int.ofNat ((a.getD i.toNat default).Factors.getD k.toNat default).Atom.Items.length>1024)) (.k (.inl false)) (.h (a,i,(IntKind.i64.wrap (k+1)),()) ())) .d) .d)) .d) .d) (.k (.inr (a,i)))) .d
def zFp (x:zvJ) (y:Unit):Wy zvJ (Unit) zzI:=zvy x.1 x.2.1 x.2.2.1
def zP1 (n:Nat) (a:yC) (i:Int) (k:Int):Bool×zzI:=zJ (zFp) (.inl default) n (a,i,k,()) ()
def zZE (r:zzI):LTree ty:=.ite (isL r) (.done .ret [.lit (.bool (getL r))] []) (.done (.exit 2) [.sl 28 (getR r).1,.lit (.int .i64 (getR r).2)] [])
def z12:LL ty zvJ:=za (lSl 28) (za lI64 (za lI64 zn))
def zvC (a:yC) (i:Int):Wy zvT (Unit) (Bool⊕Unit):=.i (decide (i<Int.ofNat a.length)) (.i (decide (0≤i)&&decide (i<Int.ofNat a.length)) (.i (decide (Int.ofNat (a.getD i.toNat default).Factors.length>64)) (.k (.inl false)) (.bn (zP1 ((a.length+i.toNat +Int.toNat 0+1)+szTs a) a i 0) fun r0=>.i (isL r0) (.k (.inl (getL r0))) (.h ((getR r0).1,(IntKind.i64.wrap ((getR r0).2+1)),()) ()))) .d) (.k (.inr ()))
def zFo (x:zvT) (y:Unit):Wy zvT (Unit) (Bool⊕Unit):=zvC x.1 x.2.1
def zPY (n:Nat) (a:yC) (i:Int):Bool×(Bool⊕Unit):=zJ (zFo) (.inl default) n (a,i,()) ()
def z0q (r:Bool⊕Unit):LTree ty:=.ite (isL r) (.done .ret [.lit (.bool (getL r))] []) (.done (.exit 0) [] [])
def z1f:LL ty zvT:=za (lSl 28) (za lI64 zn)
def z0A (x:zvJ) (y:Unit):Nat:=((x.1.length+Int.toNat x.2.1+Int.toNat x.2.2.1+1)+szTs x.1)
def zZC (x:zvT) (y:Unit):Nat:=((x.1.length+Int.toNat x.2.1+1)+szTs x.1)
def zFw:Cx ty:=mkCx base 65 [(108,ref05_Nesting_spec),(109,ref05_Size_spec)] [] [(4,(kpL [0,3])),(9,(kpL [0,3,4]))] [(4,1,[]),(4,0,(kpL [2])),(9,3,(kpL [0,3])),(9,0,(kpL [2]))] [(9,spW z12 zSV (zFp) (.inl default) zZE z0A),(4,spW z1f zSV (zFo) (.inl default) z0q zZC)] []
theorem z0d:zI zFw (lp (body Tryz.f54) 1):=zt (id:=9) (hl:=rfl)
theorem zZz:zI zFw (lp (body Tryz.f54) 0):=zt (id:=4) (hl:=rfl)
def zSS (a:yC):Wy0 (Bool):=.i (decide (Int.ofNat a.length>512)) (.k false) (.bn (zFY a) fun r4=>.i (decide (r4>8)) (.k false) (.bn (zPe a) fun r3=>.i (decide (r3>4096)) (.k false) (.bn (zPY ((a.length+Int.toNat 0+1)+szTs a) a 0) fun r2=>.i (isL r2) (.k (getL r2)) (.k true))))
def zyl (a:yC):Bool×Bool:=(zSS a).fin default
def zBe:Ab.Spec ty:=zh z1A fun x=>((zyl x.1).1,zY8 (zyl x.1).2)
theorem zIJ:SdP 54 zBe:=
 sW (cx':=zFw) zq zi zk (zj ⟨zQr,zWB,trivial⟩) Tryz.call54 Tryz.func54 (c:=body Tryz.f54) (lOK (aC zZz (aC z0d aN)))
abbrev ztC:=yC×Int×Unit×Int×Unit
abbrev zyj:=Bool⊕(yC×Int)
abbrev ztv:=yC×Int×Unit
def znb (zV:Atom→Bool×Bool) (a:yC) (i:Int) (k:Int) (t:Term):Wy ztC (Term×Unit) zyj:=.i (decide (k<Int.ofNat t.Factors.length)) (.i (decide (0≤k)&&decide (k<Int.ofNat t.Factors.length)) (.i (decide ((t.Factors.getD k.toNat default).Exp<1)) (.k (.inl false)) (.i (decide ((t.Factors.getD k.toNat default).Exp>1)) (.i (decide ((t.Factors.getD k.toNat default).Atom.Kind≥3)) (.k (.inl false)) (.bn (zV (Atom.mk (t.Factors.getD k.toNat default).Atom.Kind (t.Factors.getD k.toNat default).Atom.Row (t.Factors.getD k.toNat default).Atom.Args (t.Factors.getD k.toNat default).Atom.Func (t.Factors.getD k.toNat default).Atom.Items (t.Factors.getD k.toNat default).Atom.Op (t.Factors.getD k.toNat default).Atom.Bound)) fun r1=>.i (!r1) (.k (.inl false)) (.i (decide (k>0)) (.i (decide (0≤IntKind.i64.wrap (k - 1))&&decide (IntKind.i64.wrap (k - 1)<Int.ofNat t.Factors.length)) (.bn (zh5 (Atom.mk (t.Factors.getD (IntKind.i64.wrap (k - 1)).toNat default).Atom.Kind (t.Factors.getD (IntKind.i64.wrap (k - 1)).toNat default).Atom.Row (t.Factors.getD (IntKind.i64.wrap (k - 1)).toNat default).Atom.Args (t.Factors.getD (IntKind.i64.wrap (k - 1)).toNat default).Atom.Func (t.Factors.getD (IntKind.i64.wrap (k - 1)).toNat default).Atom.Items (t.Factors.getD (IntKind.i64.wrap (k - 1)).toNat default).Atom.Op (t.Factors.getD (IntKind.i64.wrap (k - 1)).toNat default).Atom.Bound) (Atom.mk (t.Factors.getD k.toNat default).Atom.Kind (t.Factors.getD k.toNat default).Atom.Row (t.Factors.getD k.toNat default).Atom.Args (t.Factors.getD k.toNat default).Atom.Func (t.Factors.getD k.toNat default).Atom.Items (t.Factors.getD k.toNat default).Atom.Op (t.Factors.getD k.toNat default).Atom.Bound)) fun r0=>.i (decide (r0≥0)) (.k (.inl false)) (.h (a,i,(),(IntKind.i64.wrap (k+1)),()) (t,()))) .d) (.h (a,i,(),(IntKind.i64.wrap (k+1)),()) (t,()))))) (.bn (zV (Atom.mk (t.Factors.getD k.toNat default).Atom.Kind (t.Factors.getD k.toNat default).Atom.Row (t.Factors.getD k.toNat default).Atom.Args (t.Factors.getD k.toNat default).Atom.Func (t.Factors.getD k.toNat default).Atom.Items (t.Factors.getD k.toNat default).Atom.Op (t.Factors.getD k.toNat default).Atom.Bound)) fun r3=>.i (!r3) (.k (.inl false)) (.i (decide (k>0)) (.i (decide (0≤IntKind.i64.wrap (k - 1))&&decide (IntKind.i64.wrap (k - 1)<Int.ofNat t.Factors.length)) (.bn (zh5 (Atom.mk (t.Factors.getD (IntKind.i64.wrap (k - 1)).toNat default).Atom.Kind (t.Factors.getD (IntKind.i64.wrap (k - 1)).toNat default).Atom.Row (t.Factors.getD (IntKind.i64.wrap (k - 1)).toNat default).Atom.Args (t.Factors.getD (IntKind.i64.wrap (k - 1)).toNat default).Atom.Func (t.Factors.getD (IntKind.i64.wrap (k - 1)).toNat default).Atom.Items (t.Factors.getD (IntKind.i64.wrap (k - 1)).toNat default).Atom.Op (t.Factors.getD (IntKind.i64.wrap (k - 1)).toNat default).Atom.Bound) (Atom.mk (t.Factors.getD k.toNat default).Atom.Kind (t.Factors.getD k.toNat default).Atom.Row (t.Factors.getD k.toNat default).Atom.Args (t.Factors.getD k.toNat default).Atom.Func (t.Factors.getD k.toNat default).Atom.Items (t.Factors.getD k.toNat default).Atom.Op (t.Factors.getD k.toNat default).Atom.Bound)) fun r2=>.i (decide (r2≥0)) (.k (.inl false)) (.h (a,i,(),(IntKind.i64.wrap (k+1)),()) (t,()))) .d) (.h (a,i,(),(IntKind.i64.wrap (k+1)),()) (t,())))))) .d) (.k (.inr (a,i)))
def zyN (zV:Atom→Bool×Bool) (x:ztC) (y:Term×Unit):Wy ztC (Term×Unit) zyj:=znb zV x.1 x.2.1 x.2.2.2.1 y.1
def zyW (zV:Atom→Bool×Bool) (n:Nat) (a:yC) (i:Int) (k:Int) (t:Term):Bool×zyj:=zJ (zyN zV) (.inl default) n (a,i,(),k,()) (t,())
def zSd (r:zyj):LTree ty:=.ite (isL r) (.done .ret [.lit (.bool (getL r))] []) (.done (.exit 2) [.sl 28 (getR r).1,.lit (.int .i64 (getR r).2)] [])
def zU3:LL ty ztC:=za (lSl 28) (za lI64 (za (zdC 372 0) (za lI64 zn)))
def zUU:BL ty (Term×Unit):=bBox (zd6 (fun x=>(⟨x.1,x.2.1⟩:Term)) (fun x=>(x.Coeff,x.Factors,())) (fun _=>rfl) (za (lInt .i64) (za (lSl 69) zn))) false (bNil)
def zpb (zV:Atom→Bool×Bool) (a:yC) (i:Int):Wy ztv (Unit) (Bool⊕Unit):=.i (decide (i<Int.ofNat a.length)) (.i (decide (0≤i)&&decide (i<Int.ofNat a.length)) (.i (decide ((a.getD i.toNat default).Coeff<1)) (.k (.inl false)) (.i (decide ((a.getD i.toNat default).Coeff>1152921504606846976)) (.k (.inl false)) (.i (decide (i>0)) (.i (decide (0≤IntKind.i64.wrap (i - 1))&&decide (IntKind.i64.wrap (i - 1)<Int.ofNat a.length)) (.bn (zkz (a.getD (IntKind.i64.wrap (i - 1)).toNat default).Factors (a.getD i.toNat default).Factors) fun r9=>.i (decide (r9≥0)) (.k (.inl false)) (.bn (zyW zV ((a.length+i.toNat +Int.toNat 0+(a.getD i.toNat default).Factors.length+1)+szTs a) a i 0 (a.getD i.toNat default)) fun r8=>.i (isL r8) (.k (.inl (getL r8))) (.h ((getR r8).1,(IntKind.i64.wrap ((getR r8).2+1)),()) ()))) .d) (.bn (zyW zV ((a.length+i.toNat +Int.toNat 0+(a.getD i.toNat default).Factors.length+1)+szTs a) a i 0 (a.getD i.toNat default)) fun r10=>.i (isL r10) (.k (.inl (getL r10))) (.h ((getR r10).1,(IntKind.i64.wrap ((getR r10).2+1)),()) ()))))) .d) (.k (.inr ()))
def zzP (zV:Atom→Bool×Bool) (x:ztv) (y:Unit):Wy ztv (Unit) (Bool⊕Unit):=zpb zV x.1 x.2.1
def zIU (zV:Atom→Bool×Bool) (n:Nat) (a:yC) (i:Int):Bool×(Bool⊕Unit):=zJ (zzP zV) (.inl default) n (a,i,()) ()
def zWQ:LL ty ztv:=za (lSl 28) (za lI64 zn)
def zTs (x:ztC) (y:Term×Unit):Nat:=((x.1.length+Int.toNat x.2.1+Int.toNat x.2.2.2.1+y.1.Factors.length+1)+szTs x.1)
def zUu (x:ztv) (y:Unit):Nat:=((x.1.length+Int.toNat x.2.1+1)+szTs x.1)
def zz5 (zV:Atom→Bool×Bool):Cx ty:=mkCx base 93 [(34,ref05_CompareFactors_spec),(53,ref05_CompareAtom_spec),(54,zBe),(55,(zs2 zV))] [] [(4,(kpL [0,3])),(10,(kpL [0,3,4,5]))] [(4,1,[]),(4,0,(kpL [2])),(10,3,(kpL [0,3])),(10,0,(kpL [2]))] [(10,spW zU3 zUU (zyN zV) (.inl default) zSd zTs),(4,spW zWQ zSV (zzP zV) (.inl default) z0q zUu)] []
theorem zS0 (zV:Atom→Bool×Bool):zI (zz5 zV) (lp (body Tryz.f16) 1):=zt (id:=10) (hl:=rfl)
theorem zU6 (zV:Atom→Bool×Bool):zI (zz5 zV) (lp (body Tryz.f16) 0):=zt (id:=4) (hl:=rfl)
def zKM (zV:Atom→Bool×Bool) (a:yC):Wy0 (Bool):=.bn (zyl a) fun r15=>.i (!r15) (.k false) (.bn (zIU zV ((a.length+Int.toNat 0+1)+szTs a) a 0) fun r14=>.i (isL r14) (.k (getL r14)) (.k true))
def zvn (zV:Atom→Bool×Bool) (a:yC):Bool×Bool:=(zKM zV a).fin default
theorem zQp (zV:Atom→Bool×Bool) (zQd:SdP 55 (zs2 zV)):SdP 16 (zvp (zvn zV)):=
 sW (cx':=(zz5 zV)) zq zi zk (zj ⟨zvG,zqK,zIJ,zQd,trivial⟩) Tryz.call16 Tryz.func16 (c:=body Tryz.f16) (lOK (aC (zU6 zV) (aC (zS0 zV) aN)))
def z1z:Cx ty:=mkCx base 9 [(89,ref05_Compare_spec)] [] [] [] [] []
def zSl (a:yC) (b:yC):Wy0 (Bool):=.bn (zFL a b) fun r0=>.k (r0==0)
def zuT (a:yC) (b:yC):Bool×Bool:=(zSl a b).fin default
def zA7:Ab.Spec ty:=zh zYr fun x=>((zuT x.1 x.2.1).1,zY8 (zuT x.1 x.2.1).2)
theorem zIE:SdP 30 zA7:=
 sW (cx':=z1z) zq zi zk (zj ⟨zQT,trivial⟩) Tryz.call30 Tryz.func30 (c:=body Tryz.f30) (lOK aN)
def zYR:Cx ty:=mkCx base 42 [] [] [] [] [] []
def zM8 (a:yC):Wy0 (Bool):=.i (Int.ofNat a.length==1) (.i (decide ((0:Int)≤(0:Int))&&decide (0<Int.ofNat a.length)) (.i ((a.getD (Int.toNat 0) default).Coeff==1) (.i (decide ((0:Int)≤(0:Int))&&decide (0<Int.ofNat a.length)) (.i (Int.ofNat (a.getD (Int.toNat 0) default).Factors.length==1) (.i (decide ((0:Int)≤(0:Int))&&decide (0<Int.ofNat a.length)) (.i (decide ((0:Int)≤(0:Int))&&decide (0<Int.ofNat (a.getD (Int.toNat 0) default).Factors.length)) (.i (decide (((a.getD (Int.toNat 0) default).Factors.getD (Int.toNat 0) default).Atom.Kind≥2)) (.i (decide ((0:Int)≤(0:Int))&&decide (0<Int.ofNat a.length)) (.i (decide ((0:Int)≤(0:Int))&&decide (0<Int.ofNat (a.getD (Int.toNat 0) default).Factors.length)) (.k (((a.getD (Int.toNat 0) default).Factors.getD (Int.toNat 0) default).Exp==1)) .d) .d) (.k false)) .d) .d) (.k false)) .d) (.k false)) .d) (.k false)
def zpv (a:yC):Bool×Bool:=(zM8 a).fin default
def zyI:Ab.Spec ty:=zh z1A fun x=>((zpv x.1).1,zY8 (zpv x.1).2)
theorem zEj:SdP 99 zyI:=
 sW (cx':=zYR) zq zi zk (zj trivial) Tryz.call99 Tryz.func99 (c:=body Tryz.f99) (lOK aN)
abbrev zs3:=yC×Int×Unit
def znc (a:yC) (i:Int):Wy zs3 (Unit) (Bool⊕Unit):=.i (decide (i<Int.ofNat a.length)) (.i (decide (0≤i)&&decide (i<Int.ofNat a.length)) (.i (Int.ofNat (a.getD i.toNat default).Factors.length==0) (.k (.inl true)) (.h (a,(IntKind.i64.wrap (i+1)),()) ())) .d) (.k (.inr ()))
def zyP (x:zs3) (y:Unit):Wy zs3 (Unit) (Bool⊕Unit):=znc x.1 x.2.1
def zF3 (n:Nat) (a:yC) (i:Int):Bool×(Bool⊕Unit):=zJ (zyP) (.inl default) n (a,i,()) ()
def zUX:LL ty zs3:=za (lSl 28) (za lI64 zn)
def zF8:Cx ty:=mkCx base 17 [] [] [(2,(kpL [0,3]))] [(2,1,[]),(2,0,(kpL [2]))] [(2,spW zUX zSV (zyP) (.inl default) z0q fun x y=>(x.1.length+Int.toNat x.2.1+1))] []
theorem zRo:zI zF8 (lp (body Tryz.f100) 0):=zt (id:=2) (hl:=rfl)
def zJi (a:yC):Wy0 (Bool):=.bn (zF3 (a.length+Int.toNat 0+1) a 0) fun r0=>.i (isL r0) (.k (getL r0)) (.k false)
def zjy (a:yC):Bool×Bool:=(zJi a).fin default
def zwi:Ab.Spec ty:=zh z1A fun x=>((zjy x.1).1,zY8 (zjy x.1).2)
theorem zBs:SdP 100 zwi:=
 sW (cx':=zF8) zq zi zk (zj trivial) Tryz.call100 Tryz.func100 (c:=body Tryz.f100) (lOK (aC zRo aN))
def z0a:Cx ty:=mkCx base 36 [] [] [] [] [] []
def zPQ (v:Value):Wy0 (Bool):=.i (v.Kind==0) (.k (v.Text.toList==(ByteArray.mk #[]).toList)) (.i (v.Kind==1) (.i (v.Int==0) (.k (decide (Int.ofNat v.Text.size≤255))) (.k false)) (.i (v.Kind==2) (.i (v.Text.toList==(ByteArray.mk #[]).toList) (.i (v.Int==0) (.k true) (.k (v.Int==1))) (.k false)) (.k false)))
def zv7 (v:Value):Bool×Bool:=(zPQ v).fin default
def z1X:AL base (Value×Unit):=zd (ze (vAgg 65)) aNil
def zIF:Ab.Spec ty:=zh z1X fun x=>((zv7 x.1).1,zY8 (zv7 x.1).2)
theorem zVG:SdP 158 zIF:=
 sW (cx':=z0a) zq zi zk (zj trivial) Tryz.call158 Tryz.func158 (c:=body Tryz.f158) (lOK aN)
abbrev ztj:=Int×yE×Unit×Int×Unit
def ztK (fn:Int) (items:yE) (i:Int) (bound:Value):Wy ztj (Value×Unit) (Bool⊕Unit):=.i (decide (i<Int.ofNat items.length)) (.i (decide (0≤i)&&decide (i<Int.ofNat items.length)) (.bn (zv7 (items.getD i.toNat default).Value) fun r0=>.i (!r0) (.k (.inl false)) (.i ((items.getD i.toNat default).Value.Kind != bound.Kind) (.k (.inl false)) (.i (fn==0) (.i ((items.getD i.toNat default).Value.Int != 1) (.k (.inl false)) (.h (fn,items,(),(IntKind.i64.wrap (i+1)),()) (bound,()))) (.h (fn,items,(),(IntKind.i64.wrap (i+1)),()) (bound,()))))) .d) (.k (.inr ()))
def zCK (x:ztj) (y:Value×Unit):Wy ztj (Value×Unit) (Bool⊕Unit):=ztK x.1 x.2.1 x.2.2.2.1 y.1
def zCH (n:Nat) (fn:Int) (items:yE) (i:Int) (bound:Value):Bool×(Bool⊕Unit):=zJ (zCK) (.inl default) n (fn,items,(),i,()) (bound,())
def zZF:LL ty ztj:=za lI64 (za (lSl 100) (za (zdC 276 0) (za lI64 zn)))
def z0c:BL ty (Value×Unit):=bBox (zd6 (fun x=>(⟨x.1,x.2.1,x.2.2.1⟩:Value)) (fun x=>(x.Kind,x.Int,x.Text,())) (fun _=>rfl) (za (lInt .i64) (za (lInt .i64) (za lStr zn)))) false (bNil)
def zY6 (x:ztj) (y:Value×Unit):Nat:=(Int.toNat x.1+x.2.1.length+Int.toNat x.2.2.2.1+1)
def zMj:Cx ty:=mkCx base 69 [(158,zIF)] [] [(4,(kpL [0,1,7,9]))] [(4,1,[]),(4,0,(kpL [8]))] [(4,spW zZF z0c (zCK) (.inl default) z0q zY6)] []
theorem zX4:zI zMj (lp (body Tryz.f111) 0):=zt (id:=4) (hl:=rfl)
def zP0 (fn:Int) (items:yE) (op:Int) (bound:Value):Wy0 (Bool):=.i (decide (fn<0)) (.k false) (.i (decide (fn>3)) (.k false) (.i (decide (op<5)) (.k false) (.i (decide (op>10)) (.k false) (.bn (zv7 bound) fun r4=>.i (!r4) (.k false) (.i (decide (fn≤1)) (.i (bound.Kind != 0) (.k false) (.bn (zCH (fn.toNat +items.length+Int.toNat 0+1) fn items 0 bound) fun r2=>.i (isL r2) (.k (getL r2)) (.k true))) (.bn (zCH (fn.toNat +items.length+Int.toNat 0+1) fn items 0 bound) fun r3=>.i (isL r3) (.k (getL r3)) (.k true)))))))
def zy6 (fn:Int) (items:yE) (op:Int) (bound:Value):Bool×Bool:=(zP0 fn items op bound).fin default
def z1o:AL base (Int×yE×Int×Value×Unit):=zd (ze vI64) (zd (ze (vSl 100)) (zd (ze vI64) (zd (ze (vAgg 65)) aNil)))
def zH2:Ab.Spec ty:=zh z1o fun x=>((zy6 x.1 x.2.1 x.2.2.1 x.2.2.2.1).1,zY8 (zy6 x.1 x.2.1 x.2.2.1 x.2.2.2.1).2)
theorem zVh:SdP 111 zH2:=
 sW (cx':=zMj) zq zi zk (zj ⟨zVG,trivial⟩) Tryz.call111 Tryz.func111 (c:=body Tryz.f111) (lOK (aC zX4 aN))
def zZD:Cx ty:=mkCx base 23 [] [] [] [] [] []
def zPT (x_:Atom):Wy0 (Bool):=.i (x_.Func==0) (.i (Int.ofNat x_.Items.length==0) (.i (x_.Op==0) (.k (x_.Bound.Kind==0&&(x_.Bound.Int==0&&(x_.Bound.Text.toList==(ByteArray.mk #[]).toList&&true)))) (.k false)) (.k false)) (.k false)
def zop (x_:Atom):Bool×Bool:=(zPT x_).fin default
def zIy:Ab.Spec ty:=zh zUv fun x=>((zop x.1).1,zY8 (zop x.1).2)
theorem zVB:SdP 110 zIy:=
 sW (cx':=zZD) zq zi zk (zj trivial) Tryz.call110 Tryz.func110 (c:=body Tryz.f110) (lOK aN)
abbrev zdV:=Unit×Int×Unit
def zj1 (zbn:yC→Bool×Bool) (i:Int) (x_:Atom):Wy zdV (Atom×Unit) (Bool⊕Atom):=.i (decide (i<Int.ofNat x_.Args.length)) (.i (decide (0≤i)&&decide (i<Int.ofNat x_.Args.length)) (.i (Int.ofNat (List.length (x_.Args.getD i.toNat default))==0) (.k (.inl false)) (.i (decide (0≤i)&&decide (i<Int.ofNat x_.Args.length)) (.bn (zbn (x_.Args.getD i.toNat default)) fun r0=>.i (!r0) (.k (.inl false)) (.h ((),(IntKind.i64.wrap (i+1)),()) (x_,()))) .d)) .d) (.k (.inr x_))
def zvk (zbn:yC→Bool×Bool) (x:zdV) (y:Atom×Unit):Wy zdV (Atom×Unit) (Bool⊕Atom):=zj1 zbn x.2.1 y.1
def zu2 (zbn:yC→Bool×Bool) (n:Nat) (i:Int) (x_:Atom):Bool×(Bool⊕Atom):=zJ (zvk zbn) (.inl default) n ((),i,()) (x_,())
def zMv (r:Bool⊕Atom):LTree ty:=.ite (isL r) (.done .ret [.lit (.bool (getL r))] []) (.done (.exit 0) [.ptr 824 0] [.box (base.enc 67 (getR r)) false])
def zPx:LL ty zdV:=za (zdC 824 0) (za lI64 zn)
def zjv (zbn:yC→Bool×Bool) (i:Int) (x_:Atom):Wy zdV (Atom×Unit) (Bool⊕Unit):=.i (decide (i<Int.ofNat x_.Items.length)) (.i (decide (0≤i)&&decide (i<Int.ofNat x_.Items.length)) (.i (Int.ofNat (x_.Items.getD i.toNat default).Ann.length==0) (.k (.inl false)) (.i (decide (0≤i)&&decide (i<Int.ofNat x_.Items.length)) (.bn (zbn (x_.Items.getD i.toNat default).Ann) fun r3=>.i (!r3) (.k (.inl false)) (.i (decide (i>0)) (.i (decide (0≤IntKind.i64.wrap (i - 1))&&decide (IntKind.i64.wrap (i - 1)≤i)&&decide (i≤Int.ofNat x_.Items.length)) (.i (decide (0≤i)&&decide (i≤IntKind.i64.wrap (i+1))&&decide (IntKind.i64.wrap (i+1)≤Int.ofNat x_.Items.length)) (.bn (zxI (List.take (i.toNat - (IntKind.i64.wrap (i - 1)).toNat) (List.drop (IntKind.i64.wrap (i - 1)).toNat x_.Items)) (List.take ((IntKind.i64.wrap (i+1)).toNat - i.toNat) (List.drop i.toNat x_.Items))) fun r2=>.i (decide (r2>0)) (.k (.inl false)) (.h ((),(IntKind.i64.wrap (i+1)),()) (x_,()))) .d) .d) (.h ((),(IntKind.i64.wrap (i+1)),()) (x_,())))) .d)) .d) (.k (.inr ()))
def ztL (zbn:yC→Bool×Bool) (x:zdV) (y:Atom×Unit):Wy zdV (Atom×Unit) (Bool⊕Unit):=zjv zbn x.2.1 y.1
def zAr (zbn:yC→Bool×Bool) (n:Nat) (i:Int) (x_:Atom):Bool×(Bool⊕Unit):=zJ (ztL zbn) (.inl default) n ((),i,()) (x_,())
def zLx (r:Bool⊕Unit):LTree ty:=.ite (isL r) (.done .ret [.lit (.bool (getL r))] []) (.done (.exit 3) [] [])
def zNl (x:zdV) (y:Atom×Unit):Nat:=(Int.toNat x.2.1+y.1.Args.length+y.1.Items.length+1)
def zuV (zbn:yC→Bool×Bool):Cx ty:=mkCx base 206 [(16,(zvp zbn)),(30,zA7),(99,zyI),(100,zwi),(106,ref05_CompareItems_spec),(110,zIy),(111,zH2)] [] [(6,(kpL [1,3])),(21,(kpL [1,4]))] [(6,1,(kpL [1])),(6,0,(kpL [2])),(21,4,[]),(21,0,(kpL [2]))] [(6,spW zPx zQI (zvk zbn) (.inl default) zMv zNl),(21,spW zPx zQI (ztL zbn) (.inl default) zLx zNl)] []
theorem zNp (zbn:yC→Bool×Bool):zI (zuV zbn) (lp (body Tryz.f55) 0):=zt (id:=6) (hl:=rfl)
theorem zK8 (zbn:yC→Bool×Bool):zI (zuV zbn) (lp (body Tryz.f55) 1):=zt (id:=21) (hl:=rfl)
def zCf (zbn:yC→Bool×Bool) (x_:Atom):Wy0 (Bool):=.i (x_.Kind==0) (.i (decide (x_.Row.Table≥1)) (.i (decide (x_.Row.Seq≥1)) (.i (Int.ofNat x_.Args.length==0) (.bn (zop (Atom.mk x_.Kind x_.Row x_.Args x_.Func x_.Items x_.Op x_.Bound)) fun r6=>.k r6) (.k false)) (.k false)) (.k false)) (.i (!(x_.Row.Table==0&&(x_.Row.Seq==0&&true))) (.k false) (.bn (zu2 zbn (Int.toNat 0+x_.Args.length+x_.Items.length+1) 0 (Atom.mk x_.Kind x_.Row x_.Args x_.Func x_.Items x_.Op x_.Bound)) fun r17=>.i (isL r17) (.k (getL r17)) (.i ((getR r17).Kind==1) (.i (Int.ofNat (getR r17).Args.length==2) (.bn (zop (Atom.mk (getR r17).Kind (getR r17).Row (getR r17).Args (getR r17).Func (getR r17).Items (getR r17).Op (getR r17).Bound)) fun r8=>.i (r8) (.i (decide ((0:Int)≤(0:Int))&&decide (0<Int.ofNat (getR r17).Args.length)) (.i (decide ((0:Int)≤(1:Int))&&decide (1<Int.ofNat (getR r17).Args.length)) (.bn (zuT ((getR r17).Args.getD (Int.toNat 0) default) ((getR r17).Args.getD (Int.toNat 1) default)) fun r7=>.k (!r7)) .d) .d) (.k false)) (.k false)) (.i ((getR r17).Kind==2) (.i (Int.ofNat (getR r17).Args.length==1) (.bn (zop (Atom.mk (getR r17).Kind (getR r17).Row (getR r17).Args (getR r17).Func (getR r17).Items (getR r17).Op (getR r17).Bound)) fun r12=>.i (r12) (.i (decide ((0:Int)≤(0:Int))&&decide (0<Int.ofNat (getR r17).Args.length)) (.i (Int.ofNat (List.length ((getR r17).Args.getD (Int.toNat 0) default))==1) (.i (decide ((0:Int)≤(0:Int))&&decide (0<Int.ofNat (getR r17).Args.length)) (.bn (zjy ((getR r17).Args.getD (Int.toNat 0) default)) fun r10=>.i (!r10) (.i (decide ((0:Int)≤(0:Int))&&decide (0<Int.ofNat (getR r17).Args.length)) (.bn (zpv ((getR r17).Args.getD (Int.toNat 0) default)) fun r9=>.k (!r9)) .d) (.k false)) .d) (.i (decide ((0:Int)≤(0:Int))&&decide (0<Int.ofNat (getR r17).Args.length)) (.bn (zpv ((getR r17).Args.getD (Int.toNat 0) default)) fun r11=>.k (!r11)) .d)) .d) (.k false)) (.k false)) (.i ((getR r17).Kind==3) (.i (Int.ofNat (getR r17).Args.length==1) (.bn (zop (Atom.mk (getR r17).Kind (getR r17).Row (getR r17).Args (getR r17).Func (getR r17).Items (getR r17).Op (getR r17).Bound)) fun r14=>.i (r14) (.i (decide ((0:Int)≤(0:Int))&&decide (0<Int.ofNat (getR r17).Args.length)) (.bn (zjy ((getR r17).Args.getD (Int.toNat 0) default)) fun r13=>.k (!r13)) .d) (.k false)) (.k false)) (.i ((getR r17).Kind==4) (.i (Int.ofNat (getR r17).Args.length != 0) (.k false) (.i (Int.ofNat (getR r17).Items.length==0) (.k false) (.i (decide (Int.ofNat (getR r17).Items.length>1024)) (.k false) (.bn (zy6 (getR r17).Func (getR r17).Items (getR r17).Op (getR r17).Bound) fun r16=>.i (!r16) (.k false) (.bn (zAr zbn (Int.toNat 0+(getR r17).Args.length+(getR r17).Items.length+1) 0 (Atom.mk (getR r17).Kind (getR r17).Row (getR r17).Args (getR r17).Func (getR r17).Items (getR r17).Op (getR r17).Bound)) fun r15=>.i (isL r15) (.k (getL r15)) (.k true)))))) (.k false)))))))
def znH (zbn:yC→Bool×Bool) (x_:Atom):Bool×Bool:=(zCf zbn x_).fin default
theorem zJJ (zbn:yC→Bool×Bool) (zZq:SdP 16 (zvp zbn)):SdP 55 (zs2 (znH zbn)):=
 sW (cx':=(zuV zbn)) zq zi zk (zj ⟨zZq,zIE,zEj,zBs,zI6,zVB,zVh,trivial⟩) Tryz.call55 Tryz.func55 (c:=body Tryz.f55) (lOK (aC (zNp zbn) (aC (zK8 zbn) aN)))
def zGX:Nat→(yC→Bool×Bool)×(Atom→Bool×Bool)
 | 0=>(fun _=>(false,default),fun _=>(false,default))
 | n+1=>(zvn ((zGX n).2),znH ((zGX n).1))
def zvr (n:Nat):yC→Bool×Bool:=(zGX n).1
def zs4 (n:Nat):Atom→Bool×Bool:=(zGX n).2
theorem zXd (n:Nat):zvr (n+1)=zvn (zs4 n):=rfl
theorem zPf (n:Nat):zs4 (n+1)=znH (zvr n):=rfl
theorem zTR:∀ n,SdP 16 (zvp (zvr n))∧SdP 55 (zs2 (zs4 n))
 | 0=>⟨zY Tryz.call16 (fun _=>rfl),zY Tryz.call55 (fun _=>rfl)⟩
 | n+1=>by
  have ih:=zTR n;exact ⟨zQp _ (ih.2),zJJ _ (ih.1)⟩
def zv9:yC→Bool×Bool:=zvr 1000
def ref05_Valid_spec:Ab.Spec ty:=zvp zv9
theorem zGk:SdP 16 ref05_Valid_spec:=(zTR 1000).1
def zGy:Cx ty:=mkCx base 8 [] [] [] [] [] []
def zxP (x_:Atom):Wy0 (yC):=.k [TermOf.mk 1 [FactorOf.mk (Atom.mk x_.Kind x_.Row x_.Args x_.Func x_.Items x_.Op x_.Bound) 1]]
def zfK (x_:Atom):Bool×yC:=(zxP x_).fin default
def zFD (r:yC):ARes ty:=⟨[.own 28 r],[]⟩
def zuv:Ab.Spec ty:=zh zUv fun x=>((zfK x.1).1,zFD (zfK x.1).2)
theorem zCA:SdP 104 zuv:=
 sW (cx':=zGy) zq zi zk (zj trivial) Tryz.call104 Tryz.func104 (c:=body Tryz.f104) (lOK aN) (sg:=⟨[.own 28],[]⟩)
def zJD:AL base (Term×Term×Unit):=zd (ze (vAgg 28)) (zd (ze (vAgg 28)) aNil)
def zfo (F:Term→Term→Bool×Int):Ab.Spec ty:=zh zJD fun x=>((F x.1 x.2.1).1,zVk (F x.1 x.2.1).2)
def zEy:AL base (Factor×Factor×Unit):=zd (ze (vAgg 69)) (zd (ze (vAgg 69)) aNil)
def zd9 (F:Factor→Factor→Bool×Int):Ab.Spec ty:=zh zEy fun x=>((F x.1 x.2.1).1,zVk (F x.1 x.2.1).2)
def zHv:AL base (Weighted×Weighted×Unit):=zd (ze (vAgg 100)) (zd (ze (vAgg 100)) aNil)
def zdT (F:Weighted→Weighted→Bool×Int):Ab.Spec ty:=zh zHv fun x=>((F x.1 x.2.1).1,zVk (F x.1 x.2.1).2)
def zh7:AL base (yC×yC×Unit×Unit):=zd (ze (vSl 28)) (zd (ze (vSl 28)) (zd (ze (vFn 137 vNil)) aNil))
def zbJ (F:yC→yC→Bool×Int):Ab.Spec ty:=zh zh7 fun x=>((F x.1 x.2.1).1,zVk (F x.1 x.2.1).2)
def ziI:AL base (yD×yD×Unit×Unit):=zd (ze (vSl 69)) (zd (ze (vSl 69)) (zd (ze (vFn 119 vNil)) aNil))
def zbR (F:yD→yD→Bool×Int):Ab.Spec ty:=zh ziI fun x=>((F x.1 x.2.1).1,zVk (F x.1 x.2.1).2)
def zfa:AL base (yA×yA×Unit×Unit):=zd (ze (vSl 23)) (zd (ze (vSl 23)) (zd (ze (vFn 67 vNil)) aNil))
def zbj (F:yA→yA→Bool×Int):Ab.Spec ty:=zh zfa fun x=>((F x.1 x.2.1).1,zVk (F x.1 x.2.1).2)
def zgn:AL base (yE×yE×Unit×Unit):=zd (ze (vSl 100)) (zd (ze (vSl 100)) (zd (ze (vFn 124 vNil)) aNil))
def zbB (F:yE→yE→Bool×Int):Ab.Spec ty:=zh zgn fun x=>((F x.1 x.2.1).1,zVk (F x.1 x.2.1).2)
def zJu (zH:yC→yC→Bool×Int) (zK:Term→Term→Bool×Int):Cx ty:=mkCx base 8 [(136,(zbJ zH)),(137,(zfo zK))] [] [] [] [] []
def zzm (zH:yC→yC→Bool×Int) (zK:Term→Term→Bool×Int) (a:yC) (b:yC):Wy0 (Int):=.bn (zH a b) fun r0=>.k r0
def znO (zH:yC→yC→Bool×Int) (zK:Term→Term→Bool×Int) (a:yC) (b:yC):Bool×Int:=(zzm zH zK a b).fin default
theorem zFr (zH:yC→yC→Bool×Int) (zK:Term→Term→Bool×Int) (zhy:SdP 136 (zbJ zH)) (zn9:SdP 137 (zfo zK)):SdP 67 (zkw (znO zH zK)):=
 sW (cx':=(zJu zH zK)) zq zi zk (zj ⟨zhy,zn9,trivial⟩) Tryz.call67 Tryz.func67 (c:=body Tryz.f67) (lOK aN)
def zTJ:Cx ty:=mkCx base 6 [] [] [] [] [] []
def zF7 (x_:Int):Wy0 (Bool):=.k (x_ != x_)
def zmN (x_:Int):Bool×Bool:=(zF7 x_).fin default
def zU2:AL base (Int×Unit):=zd (ze vI64) aNil
def zAV:Ab.Spec ty:=zh zU2 fun x=>((zmN x.1).1,zY8 (zmN x.1).2)
theorem zNq:SdP 166 zAV:=
 sW (cx':=zTJ) zq zi zk (zj trivial) Tryz.call166 Tryz.func166 (c:=body Tryz.f166) (lOK aN)
def zOH:Cx ty:=mkCx base 20 [(166,zAV)] [] [] [] [] []
def zCe (x_:Int) (y_:Int):Wy0 (Int):=.i ((zmN x_).2) (.i ((zmN y_).2) (.k 0) (.k (-1:Int))) (.i ((zmN y_).2) (.k 1) (.i (decide (x_<y_)) (.k (-1:Int)) (.i (decide (x_>y_)) (.k 1) (.k 0))))
def zib (x_:Int) (y_:Int):Bool×Int:=(zCe x_ y_).fin default
def zlE:Ab.Spec ty:=zh z0o fun x=>((zib x.1 x.2.1).1,zVk (zib x.1 x.2.1).2)
theorem zq2:SdP 138 zlE:=
 sW (cx':=zOH) zq zi zk (zj ⟨zNq,trivial⟩) Tryz.call138 Tryz.func138 (c:=body Tryz.f138) (lOK aN)
end Go.Proofs.YtljlfiomikifjaaGreatDoor
end
