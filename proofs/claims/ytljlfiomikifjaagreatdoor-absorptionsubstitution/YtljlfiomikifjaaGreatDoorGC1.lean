/- Texts of this claim, joined (the program, its functions in plain words, and what they compute). -/
import Derived.KernelRfl
import Derived.Test.YtljlfiomikifjaaGreatDoorChecked
import Derived.Test.YtljlfiomikifjaaGreatDoorProg
import Derived.Test.YtljlfiomikifjaaGreatDoorGB1
set_option autoImplicit false
set_option linter.unusedVariables false
set_option linter.unusedSectionVars false
set_option linter.unusedSimpArgs false
set_option maxRecDepth 1000000
set_option maxHeartbeats 0
/- The types of the program, as plain data. -/
noncomputable section
namespace Go.Proofs.YtljlfiomikifjaaGreatDoor
open Go Go.Ab
open Go.Proofs Go.Shelf
structure RowID where
 Table:Int
 Seq:Int
 deriving DecidableEq,Inhabited
structure Value where
 Kind:Int
 Int:Int
 Text:ByteArray
 deriving DecidableEq,Inhabited
structure FactorOf (A:Type) where
 Atom:A
 Exp:Int
structure TermOf (A:Type) where
 Coeff:Int
 Factors:List (FactorOf A)
structure WeightedOf (A:Type) where
 Value:Value
 Ann:List (TermOf A)
structure Atom where
 Kind:Int
 Row:RowID
 Args:List (List (TermOf Atom))
 Func:Int
 Items:List (WeightedOf Atom)
 Op:Int
 Bound:Value
abbrev Factor:=FactorOf Atom
abbrev Term:=TermOf Atom
abbrev Weighted:=WeightedOf Atom
instance:Inhabited Atom:=⟨⟨0,default,[],0,[],0,default⟩⟩
instance:Inhabited Factor:=⟨⟨default,0⟩⟩
instance:Inhabited Term:=⟨⟨0,[]⟩⟩
instance:Inhabited Weighted:=⟨⟨default,[]⟩⟩
theorem Atom.eta (x:Atom):(⟨x.Kind,x.Row,x.Args,x.Func,x.Items,x.Op,x.Bound⟩:Atom)=x:=by cases x; rfl
mutual
def z9C:(x y:Atom)→Decidable (x=y)
 | ⟨k,r,a,f,i,o,b⟩,⟨k',r',a',f',i',o',b'⟩=>
  match decEq k k',decEq r r',z9r a a',decEq f f',z7V i i',decEq o o',decEq b b' with
  | .isTrue h1,.isTrue h2,.isTrue h3,.isTrue h4,.isTrue h5,.isTrue h6,.isTrue h7=>.isTrue (by subst h1 h2 h3 h4 h5 h6 h7; rfl)
  | .isFalse h,_,_,_,_,_,_=>.isFalse (fun e=>by cases e; exact h rfl)
  | _,.isFalse h,_,_,_,_,_=>.isFalse (fun e=>by cases e; exact h rfl)
  | _,_,.isFalse h,_,_,_,_=>.isFalse (fun e=>by cases e; exact h rfl)
  | _,_,_,.isFalse h,_,_,_=>.isFalse (fun e=>by cases e; exact h rfl)
  | _,_,_,_,.isFalse h,_,_=>.isFalse (fun e=>by cases e; exact h rfl)
  | _,_,_,_,_,.isFalse h,_=>.isFalse (fun e=>by cases e; exact h rfl)
  | _,_,_,_,_,_,.isFalse h=>.isFalse (fun e=>by cases e; exact h rfl)
def z4r:(x y:Factor)→Decidable (x=y)
 | ⟨a,e⟩,⟨a',e'⟩=>match z9C a a',decEq e e' with
  | .isTrue h1,.isTrue h2=>.isTrue (by subst h1 h2; rfl)
  | .isFalse h,_=>.isFalse (fun e=>by cases e; exact h rfl)
  | _,.isFalse h=>.isFalse (fun e=>by cases e; exact h rfl)
def z1f:(x y:List Factor)→Decidable (x=y)
 | [],[]=>.isTrue rfl
 | [],_::_=>.isFalse (by simp)
 | _::_,[]=>.isFalse (by simp)
 | x::r,y::s=>match z4r x y,z1f r s with
  | .isTrue h1,.isTrue h2=>.isTrue (by subst h1 h2; rfl)
  | .isFalse h,_=>.isFalse (fun e=>by cases e; exact h rfl)
  | _,.isFalse h=>.isFalse (fun e=>by cases e; exact h rfl)
def z9O:(x y:Term)→Decidable (x=y)
 | ⟨a,e⟩,⟨a',e'⟩=>match decEq a a',z1f e e' with
  | .isTrue h1,.isTrue h2=>.isTrue (by subst h1 h2; rfl)
  | .isFalse h,_=>.isFalse (fun e=>by cases e; exact h rfl)
  | _,.isFalse h=>.isFalse (fun e=>by cases e; exact h rfl)
def z7S:(x y:List Term)→Decidable (x=y)
 | [],[]=>.isTrue rfl
 | [],_::_=>.isFalse (by simp)
 | _::_,[]=>.isFalse (by simp)
 | x::r,y::s=>match z9O x y,z7S r s with
  | .isTrue h1,.isTrue h2=>.isTrue (by subst h1 h2; rfl)
  | .isFalse h,_=>.isFalse (fun e=>by cases e; exact h rfl)
  | _,.isFalse h=>.isFalse (fun e=>by cases e; exact h rfl)
def z9r:(x y:List (List Term))→Decidable (x=y)
 | [],[]=>.isTrue rfl
 | [],_::_=>.isFalse (by simp)
 | _::_,[]=>.isFalse (by simp)
 | x::r,y::s=>match z7S x y,z9r r s with
  | .isTrue h1,.isTrue h2=>.isTrue (by subst h1 h2; rfl)
  | .isFalse h,_=>.isFalse (fun e=>by cases e; exact h rfl)
  | _,.isFalse h=>.isFalse (fun e=>by cases e; exact h rfl)
def z9c:(x y:Weighted)→Decidable (x=y)
 | ⟨a,e⟩,⟨a',e'⟩=>match decEq a a',z7S e e' with
  | .isTrue h1,.isTrue h2=>.isTrue (by subst h1 h2; rfl)
  | .isFalse h,_=>.isFalse (fun e=>by cases e; exact h rfl)
  | _,.isFalse h=>.isFalse (fun e=>by cases e; exact h rfl)
def z7V:(x y:List Weighted)→Decidable (x=y)
 | [],[]=>.isTrue rfl
 | [],_::_=>.isFalse (by simp)
 | _::_,[]=>.isFalse (by simp)
 | x::r,y::s=>match z9c x y,z7V r s with
  | .isTrue h1,.isTrue h2=>.isTrue (by subst h1 h2; rfl)
  | .isFalse h,_=>.isFalse (fun e=>by cases e; exact h rfl)
  | _,.isFalse h=>.isFalse (fun e=>by cases e; exact h rfl)
end
instance:DecidableEq Atom:=z9C
instance:DecidableEq Factor:=z4r
instance:DecidableEq Term:=z9O
instance:DecidableEq Weighted:=z9c
structure Binding where
 Row:RowID
 To:List Term
 deriving DecidableEq,Inhabited
abbrev yA:=List (List Term)
abbrev yB:=List (List RowID)
abbrev yC:=List Term
abbrev yD:=List Factor
abbrev yE:=List Weighted
abbrev yF:=List RowID
abbrev yG:=List Binding
abbrev yH:=List Value
def ty:Nat→Type
 | 2=>Int
 | 3=>Int
 | 4=>Bool
 | 5=>Int
 | 9=>ByteArray
 | 22=>yC
 | 23=>yC
 | 26=>yD
 | 28=>Term
 | 35=>Int
 | 39=>yB
 | 43=>yF
 | 47=>yG
 | 49=>RowID
 | 51=>Binding
 | 60=>yA
 | 63=>yE
 | 65=>Value
 | 67=>Atom
 | 69=>Factor
 | 100=>Weighted
 | 121=>Unit
 | 135=>Int
 | 138=>List Int
 | 144=>List ByteArray
 | 189=>List (yD)
 | _=>Unit
instance:(T:Nat)→Inhabited (ty T):=fun T=>by
 unfold ty;split <;>infer_instance
def dt49:DT ty RowID:=zR4 (fun x=>⟨x.1,x.2⟩) (fun x=>(x.Table,x.Seq)) (fun _=>rfl) (zvm (zy8 .i64) (zy8 .i64))
def dt65:DT ty Value:=zR4 (fun x=>⟨x.1,x.2.1,x.2.2⟩) (fun x=>(x.Kind,x.Int,x.Text)) (fun _=>rfl) (zvm (zy8 .i64) (zvm (zy8 .i64) (zbdH)))
def dt67:DT ty Atom:=zR4 (fun x=>⟨x.1,x.2.1,x.2.2.1,x.2.2.2.1,x.2.2.2.2.1,x.2.2.2.2.2.1,x.2.2.2.2.2.2⟩) (fun x=>(x.Kind,x.Row,x.Args,x.Func,x.Items,x.Op,x.Bound)) (fun _=>rfl) (zvm (zy8 .i64) (zvm (dt49) (zvm (dtSl 23) (zvm (zy8 .i64) (zvm (dtSl 100) (zvm (zy8 .i64) (dt65)))))))
def dt69:DT ty Factor:=zR4 (fun x=>⟨x.1,x.2⟩) (fun x=>(x.Atom,x.Exp)) (fun _=>rfl) (zvm (dt67) (zy8 .i64))
def dt28:DT ty Term:=zR4 (fun x=>⟨x.1,x.2⟩) (fun x=>(x.Coeff,x.Factors)) (fun _=>rfl) (zvm (zy8 .i64) (dtSl 69))
def zbgq:DT ty Weighted:=zR4 (fun x=>⟨x.1,x.2⟩) (fun x=>(x.Value,x.Ann)) (fun _=>rfl) (zvm (dt65) (dtSl 28))
def dt51:DT ty Binding:=zR4 (fun x=>⟨x.1,x.2⟩) (fun x=>(x.Row,x.To)) (fun _=>rfl) (zvm (dt49) (dtSl 28))
def z00:List ((T:Nat)×DT ty (ty T)):=[⟨2,(zy8 .i64:DT ty Int)⟩,⟨3,(zy8 .i64:DT ty Int)⟩,⟨4,(zbfR:DT ty Bool)⟩,⟨5,(zy8 .u8:DT ty Int)⟩,⟨9,(zbdH:DT ty ByteArray)⟩,⟨22,(dtSl 28:DT ty (yC))⟩,⟨23,(dtSl 28:DT ty (yC))⟩,⟨26,(dtSl 69:DT ty (yD))⟩,⟨28,(dt28:DT ty Term)⟩,⟨35,(zy8 .i64:DT ty Int)⟩,⟨39,(dtSl 43:DT ty (yB))⟩,⟨43,(dtSl 49:DT ty (yF))⟩,⟨47,(dtSl 51:DT ty (yG))⟩,⟨49,(dt49:DT ty RowID)⟩,⟨51,(dt51:DT ty Binding)⟩,⟨60,(dtSl 23:DT ty (yA))⟩,⟨63,(dtSl 100:DT ty (yE))⟩,⟨65,(dt65:DT ty Value)⟩,⟨67,(dt67:DT ty Atom)⟩,⟨69,(dt69:DT ty Factor)⟩,⟨100,(zbgq:DT ty Weighted)⟩,⟨121,(dtMp:DT ty Unit)⟩,⟨135,(zy8 .u64:DT ty Int)⟩,⟨138,(dtSl 3:DT ty (List Int))⟩,⟨144,(dtSl 9:DT ty (List ByteArray))⟩,⟨189,(dtSl 26:DT ty (List (yD)))⟩]
def z6a:List (Nat×TInfo):=[(2,⟨.int .i64,1,8,[.int .i64 (0)]⟩),
 (3,⟨.int .i64,1,8,[.int .i64 (0)]⟩),
 (4,⟨.bool,1,1,[.bool false]⟩),
 (5,⟨.int .u8,1,1,[.int .u8 (0)]⟩),
 (9,⟨.str,1,16,[.string ⟨#[]⟩]⟩),
 (22,⟨.slice 28,1,24,[.slice none 0 0]⟩),
 (23,⟨.slice 28,1,24,[.slice none 0 0]⟩),
 (26,⟨.slice 69,1,24,[.slice none 0 0]⟩),
 (28,⟨.struct [(0,2),(1,26)],2,32,[.int .i64 (0),.slice none 0 0]⟩),
 (35,⟨.int .i64,1,8,[.int .i64 (0)]⟩),
 (39,⟨.slice 43,1,24,[.slice none 0 0]⟩),
 (43,⟨.slice 49,1,24,[.slice none 0 0]⟩),
 (47,⟨.slice 51,1,24,[.slice none 0 0]⟩),
 (49,⟨.struct [(0,3),(1,3)],2,16,[.int .i64 (0),.int .i64 (0)]⟩),
 (51,⟨.struct [(0,49),(2,23)],3,40,[.int .i64 (0),.int .i64 (0),.slice none 0 0]⟩),
 (60,⟨.slice 23,1,24,[.slice none 0 0]⟩),
 (63,⟨.slice 100,1,24,[.slice none 0 0]⟩),
 (65,⟨.struct [(0,3),(1,2),(2,9)],3,32,[.int .i64 (0),.int .i64 (0),.string ⟨#[]⟩]⟩),
 (67,⟨.struct [(0,3),(1,49),(3,60),(4,3),(5,63),(6,3),(7,65)],10,120,[.int .i64 (0),.int .i64 (0),.int .i64 (0),.slice none 0 0,.int .i64 (0),.slice none 0 0,.int .i64 (0),.int .i64 (0),.int .i64 (0),.string ⟨#[]⟩]⟩),
 (69,⟨.struct [(0,67),(10,3)],11,128,[.int .i64 (0),.int .i64 (0),.int .i64 (0),.slice none 0 0,.int .i64 (0),.slice none 0 0,.int .i64 (0),.int .i64 (0),.int .i64 (0),.string ⟨#[]⟩,.int .i64 (0)]⟩),
 (100,⟨.struct [(0,65),(3,23)],4,56,[.int .i64 (0),.int .i64 (0),.string ⟨#[]⟩,.slice none 0 0]⟩),
 (121,⟨.map 9 3,1,8,[.map none]⟩),
 (135,⟨.int .u64,1,8,[.int .u64 (0)]⟩),
 (138,⟨.slice 3,1,24,[.slice none 0 0]⟩),
 (144,⟨.slice 9,1,24,[.slice none 0 0]⟩),
 (189,⟨.slice 26,1,24,[.slice none 0 0]⟩)]
def zVv:List (Nat×List TD):=[(49,[.int .i64,.int .i64]),(65,[.int .i64,.int .i64,.str])]
def inv (w:World):Prop:=Lib.TabIs Tryz.prog w "internal/strconv.uint64pow10" .u64 Lib.pow10Tab∧(∃ m,w.cell? ⟨0,0,none⟩=some (.int .i64 m))
theorem zbcV {n:String} {g:Nat} {w w':World} (hg:Tryz.prog.globalNamed n=some g) (h:w'.heap[g]? =w.heap[g]?):w'.var? Tryz.prog n=w.var? Tryz.prog n:=by
 unfold World.var?; rw [hg]; simp only [Option.bind_some,h]
theorem zbar (w w':World) (hi:inv w) (hb:∀ b,b<4→w'.heap[b]? =w.heap[b]?):inv w':=by
 obtain ⟨h1,⟨m,h2⟩⟩:=hi;refine ⟨(zbcV (g:=1) (by kernel_rfl) (hb 1 (by omega))).trans h1,⟨m, ?_⟩⟩
 rw [← h2]; exact World.cell?_of_block (a:=⟨0,0,none⟩) (hb 0 (by omega))
def base:Cx ty:={ ti:=fun T=>z6a.lookup T,dflt:=fun _=>default,enc:=fun T=>(tabT z00 T).enc,dec:=fun T=>(tabT z00 T).dec,spec:=fun _=>none,io:=fun _=>[],eqs:=fun T us vs=>match zVv.lookup T with | some ts=>zbm ts us vs | none=>none,nt:=0,head:=fun _=>[],out:=fun _ _=>[],loops:=fun _=>none,ng:=4,inv:=inv }
theorem zbai:Tryz.prog.info? 2=some Tryz.t2:=by kernel_rfl
theorem zNy:Tryz.prog.info? 3=some Tryz.t3:=by kernel_rfl
theorem zbgf:Tryz.prog.info? 4=some Tryz.t4:=by kernel_rfl
theorem zbgx:Tryz.prog.info? 5=some Tryz.t5:=by kernel_rfl
theorem zbdv:Tryz.prog.info? 9=some Tryz.t9:=by kernel_rfl
theorem zbga:Tryz.prog.info? 22=some Tryz.t22:=by kernel_rfl
theorem z7n:Tryz.prog.info? 23=some Tryz.t23:=by kernel_rfl
theorem zba1:Tryz.prog.info? 26=some Tryz.t26:=by kernel_rfl
theorem zbfM:Tryz.prog.info? 28=some Tryz.t28:=by kernel_rfl
theorem zbfT:Tryz.prog.info? 35=some Tryz.t35:=by kernel_rfl
theorem zbfV:Tryz.prog.info? 39=some Tryz.t39:=by kernel_rfl
theorem zbfZ:Tryz.prog.info? 43=some Tryz.t43:=by kernel_rfl
theorem zbfh:Tryz.prog.info? 47=some Tryz.t47:=by kernel_rfl
theorem z7r:Tryz.prog.info? 49=some Tryz.t49:=by kernel_rfl
theorem zbfE:Tryz.prog.info? 51=some Tryz.t51:=by kernel_rfl
theorem zbb9:Tryz.prog.info? 60=some Tryz.t60:=by kernel_rfl
theorem zbbS:Tryz.prog.info? 63=some Tryz.t63:=by kernel_rfl
theorem z7Y:Tryz.prog.info? 65=some Tryz.t65:=by kernel_rfl
theorem zbbC:Tryz.prog.info? 67=some Tryz.t67:=by kernel_rfl
theorem zbfQ:Tryz.prog.info? 69=some Tryz.t69:=by kernel_rfl
theorem zbek:Tryz.prog.info? 100=some Tryz.t100:=by kernel_rfl
theorem zbel:Tryz.prog.info? 121=some Tryz.t121:=by kernel_rfl
theorem zbeZ:Tryz.prog.info? 135=some Tryz.t135:=by kernel_rfl
theorem zbeq:Tryz.prog.info? 138=some Tryz.t138:=by kernel_rfl
theorem zbeS:Tryz.prog.info? 144=some Tryz.t144:=by kernel_rfl
theorem zbfb:Tryz.prog.info? 189=some Tryz.t189:=by kernel_rfl
theorem zbei:∀ T i,z6a.lookup T=some i→InfoOK Tryz.prog T i:=by
 intro T i h;have h:=zIo _ _ _ h;simp only [z6a,qd,List.not_mem_nil,or_false,qb] at h;rcases h with ⟨rfl,rfl⟩ | ⟨rfl,rfl⟩ | ⟨rfl,rfl⟩ | ⟨rfl,rfl⟩ | ⟨rfl,rfl⟩ | ⟨rfl,rfl⟩ | ⟨rfl,rfl⟩ | ⟨rfl,rfl⟩ | ⟨rfl,rfl⟩ | ⟨rfl,rfl⟩ | ⟨rfl,rfl⟩ | ⟨rfl,rfl⟩ | ⟨rfl,rfl⟩ | ⟨rfl,rfl⟩ | ⟨rfl,rfl⟩ | ⟨rfl,rfl⟩ | ⟨rfl,rfl⟩ | ⟨rfl,rfl⟩ | ⟨rfl,rfl⟩ | ⟨rfl,rfl⟩ | ⟨rfl,rfl⟩ | ⟨rfl,rfl⟩ | ⟨rfl,rfl⟩ | ⟨rfl,rfl⟩ | ⟨rfl,rfl⟩ | ⟨rfl,rfl⟩
 ·exact ⟨Tryz.t2,_,_,zbai,Tryz.underlying2,rfl,rfl,rfl,rfl,rfl,⟨by simp [zci],fun _=>rfl⟩,rfl⟩
 ·exact ⟨Tryz.t3,_,_,zNy,Tryz.underlying3,rfl,rfl,rfl,rfl,rfl,⟨by simp [zci],fun _=>rfl⟩,rfl⟩
 ·exact ⟨Tryz.t4,_,_,zbgf,Tryz.underlying4,rfl,rfl,rfl,rfl,rfl,⟨by simp [zci],fun _=>rfl⟩,rfl⟩
 ·exact ⟨Tryz.t5,_,_,zbgx,Tryz.underlying5,rfl,rfl,rfl,rfl,rfl,⟨by simp [zci],fun _=>rfl⟩,rfl⟩
 ·exact ⟨Tryz.t9,_,_,zbdv,Tryz.underlying9,rfl,rfl,rfl,rfl,rfl,⟨by simp [zci],fun _=>rfl⟩,rfl⟩
 ·exact ⟨Tryz.t22,_,_,zbga,Tryz.underlying22,rfl,rfl,rfl,rfl,rfl,⟨by simp [zci],fun _=>rfl⟩,rfl⟩
 ·exact ⟨Tryz.t23,_,_,z7n,Tryz.underlying23,rfl,rfl,rfl,rfl,rfl,⟨by simp [zci],fun _=>rfl⟩,rfl⟩
 ·exact ⟨Tryz.t26,_,_,zba1,Tryz.underlying26,rfl,rfl,rfl,rfl,rfl,⟨by simp [zci],fun _=>rfl⟩,rfl⟩
 ·exact ⟨Tryz.t28,_,_,zbfM,Tryz.underlying28,rfl,rfl,rfl,rfl,rfl,⟨by simp [zci],fun h=>by cases h⟩,⟨_,rfl,rfl,fun f hf=>by
   simp only [qd,List.not_mem_nil,or_false] at hf;rcases hf with rfl | rfl
   ·exact Option.isSome_iff_exists.2 ⟨_,zbai⟩
   ·exact Option.isSome_iff_exists.2 ⟨_,zba1⟩⟩⟩
 ·exact ⟨Tryz.t35,_,_,zbfT,Tryz.underlying35,rfl,rfl,rfl,rfl,rfl,⟨by simp [zci],fun _=>rfl⟩,rfl⟩
 ·exact ⟨Tryz.t39,_,_,zbfV,Tryz.underlying39,rfl,rfl,rfl,rfl,rfl,⟨by simp [zci],fun _=>rfl⟩,rfl⟩
 ·exact ⟨Tryz.t43,_,_,zbfZ,Tryz.underlying43,rfl,rfl,rfl,rfl,rfl,⟨by simp [zci],fun _=>rfl⟩,rfl⟩
 ·exact ⟨Tryz.t47,_,_,zbfh,Tryz.underlying47,rfl,rfl,rfl,rfl,rfl,⟨by simp [zci],fun _=>rfl⟩,rfl⟩
 ·exact ⟨Tryz.t49,_,_,z7r,Tryz.underlying49,rfl,rfl,rfl,rfl,rfl,⟨by simp [zci],fun h=>by cases h⟩,⟨_,rfl,rfl,fun f hf=>by
   simp only [qd,List.not_mem_nil,or_false] at hf;rcases hf with rfl | rfl
   ·exact Option.isSome_iff_exists.2 ⟨_,zNy⟩
   ·exact Option.isSome_iff_exists.2 ⟨_,zNy⟩⟩⟩
 ·exact ⟨Tryz.t51,_,_,zbfE,Tryz.underlying51,rfl,rfl,rfl,rfl,rfl,⟨by simp [zci],fun h=>by cases h⟩,⟨_,rfl,rfl,fun f hf=>by
   simp only [qd,List.not_mem_nil,or_false] at hf;rcases hf with rfl | rfl
   ·exact Option.isSome_iff_exists.2 ⟨_,z7r⟩
   ·exact Option.isSome_iff_exists.2 ⟨_,z7n⟩⟩⟩
 ·exact ⟨Tryz.t60,_,_,zbb9,Tryz.underlying60,rfl,rfl,rfl,rfl,rfl,⟨by simp [zci],fun _=>rfl⟩,rfl⟩
 ·exact ⟨Tryz.t63,_,_,zbbS,Tryz.underlying63,rfl,rfl,rfl,rfl,rfl,⟨by simp [zci],fun _=>rfl⟩,rfl⟩
 ·exact ⟨Tryz.t65,_,_,z7Y,Tryz.underlying65,rfl,rfl,rfl,rfl,rfl,⟨by simp [zci],fun h=>by cases h⟩,⟨_,rfl,rfl,fun f hf=>by
   simp only [qd,List.not_mem_nil,or_false] at hf;rcases hf with rfl | rfl | rfl
   ·exact Option.isSome_iff_exists.2 ⟨_,zNy⟩
   ·exact Option.isSome_iff_exists.2 ⟨_,zbai⟩
   ·exact Option.isSome_iff_exists.2 ⟨_,zbdv⟩⟩⟩
 ·exact ⟨Tryz.t67,_,_,zbbC,Tryz.underlying67,rfl,rfl,rfl,rfl,rfl,⟨by simp [zci],fun h=>by cases h⟩,⟨_,rfl,rfl,fun f hf=>by
   simp only [qd,List.not_mem_nil,or_false] at hf;rcases hf with rfl | rfl | rfl | rfl | rfl | rfl | rfl
   ·exact Option.isSome_iff_exists.2 ⟨_,zNy⟩
   ·exact Option.isSome_iff_exists.2 ⟨_,z7r⟩
   ·exact Option.isSome_iff_exists.2 ⟨_,zbb9⟩
   ·exact Option.isSome_iff_exists.2 ⟨_,zNy⟩
   ·exact Option.isSome_iff_exists.2 ⟨_,zbbS⟩
   ·exact Option.isSome_iff_exists.2 ⟨_,zNy⟩
   ·exact Option.isSome_iff_exists.2 ⟨_,z7Y⟩⟩⟩
 ·exact ⟨Tryz.t69,_,_,zbfQ,Tryz.underlying69,rfl,rfl,rfl,rfl,rfl,⟨by simp [zci],fun h=>by cases h⟩,⟨_,rfl,rfl,fun f hf=>by
   simp only [qd,List.not_mem_nil,or_false] at hf;rcases hf with rfl | rfl
   ·exact Option.isSome_iff_exists.2 ⟨_,zbbC⟩
   ·exact Option.isSome_iff_exists.2 ⟨_,zNy⟩⟩⟩
 ·exact ⟨Tryz.t100,_,_,zbek,Tryz.underlying100,rfl,rfl,rfl,rfl,rfl,⟨by simp [zci],fun h=>by cases h⟩,⟨_,rfl,rfl,fun f hf=>by
   simp only [qd,List.not_mem_nil,or_false] at hf;rcases hf with rfl | rfl
   ·exact Option.isSome_iff_exists.2 ⟨_,z7Y⟩
   ·exact Option.isSome_iff_exists.2 ⟨_,z7n⟩⟩⟩
 ·exact ⟨Tryz.t121,_,_,zbel,Tryz.underlying121,rfl,rfl,rfl,rfl,rfl,⟨by simp [zci],fun _=>rfl⟩,rfl⟩
 ·exact ⟨Tryz.t135,_,_,zbeZ,Tryz.underlying135,rfl,rfl,rfl,rfl,rfl,⟨by simp [zci],fun _=>rfl⟩,rfl⟩
 ·exact ⟨Tryz.t138,_,_,zbeq,Tryz.underlying138,rfl,rfl,rfl,rfl,rfl,⟨by simp [zci],fun _=>rfl⟩,rfl⟩
 ·exact ⟨Tryz.t144,_,_,zbeS,Tryz.underlying144,rfl,rfl,rfl,rfl,rfl,⟨by simp [zci],fun _=>rfl⟩,rfl⟩
 ·exact ⟨Tryz.t189,_,_,zbfb,Tryz.underlying189,rfl,rfl,rfl,rfl,rfl,⟨by simp [zci],fun _=>rfl⟩,rfl⟩
theorem zbcX:∀ T us vs b,(match zVv.lookup T with | some ts=>zbm ts us vs | none=>none)=some b→∀ w,zbaf Tryz.prog T us vs b w:=by
 intro T us vs b h w;split at h
 ·rename_i ts hl;have hl:=zIo _ _ _ hl;simp only [zVv,qd,List.not_mem_nil,or_false,qb] at hl;rcases hl with ⟨rfl,rfl⟩ | ⟨rfl,rfl⟩
  ·refine z1M _ _ Tryz.underlying49 (by kernel_rfl) (by kernel_rfl) rfl ?_ h w
   intro j f t hj ht;rcases j with _ | j
   ·simp at hj ht; subst hj ht; exact ⟨rfl,by decide,_,Tryz.underlying3,rfl⟩
   rcases j with _ | j
   ·simp at hj ht; subst hj ht; exact ⟨rfl,by decide,_,Tryz.underlying3,rfl⟩
   simp at hj
  ·refine z1M _ _ Tryz.underlying65 (by kernel_rfl) (by kernel_rfl) rfl ?_ h w
   intro j f t hj ht;rcases j with _ | j
   ·simp at hj ht; subst hj ht; exact ⟨rfl,by decide,_,Tryz.underlying3,rfl⟩
   rcases j with _ | j
   ·simp at hj ht; subst hj ht; exact ⟨rfl,by decide,_,Tryz.underlying2,rfl⟩
   rcases j with _ | j
   ·simp at hj ht; subst hj ht; exact ⟨rfl,by decide,_,Tryz.underlying9,rfl⟩
   simp at hj
 ·cases h
theorem zbc5:∀ T us vs,base.eqs T us us=some true→base.eqs T vs vs=some true→base.eqs T us vs=some (zxC us vs)∧(zxC us vs=true→us=vs)∧∀ u∈us,∀ n,Instr.sameBits n u u=true:=by
 intro T us vs h1 h2;simp only [base] at h1 h2 ⊢;cases hl:zVv.lookup T with
 | none=>rw [hl] at h1; cases h1
 | some ts=>rw [hl] at h1 h2; exact z2H ts us vs h1 h2
theorem zbdc:∀ T us b,base.eqs T us us=some b→b=true:=by
 intro T us b h;simp only [base] at h;cases hl:zVv.lookup T with
 | none=>rw [hl] at h; cases h
 | some ts=>rw [hl] at h; exact zYS ts us b h
abbrev SdP:=Sound Tryz.prog base
theorem zi:CxOK Tryz.prog base:=⟨zbei,fun T x=>by rw [show szOf base T=_ from (z6u z00 z6a rfl T).symm]; exact DT.len _ x,fun T x c h=>by have:=DT.cell _ _ c h; revert this; cases c <;>exact id,fun T cs x h F w us hr=>DT.ok _ base F w us cs x h hr,zbcX,zbc5,zbdc,zbar⟩
def base0:Cx ty:={ base with dr:=false }
theorem zi7:CxOK Tryz.prog base0:=CxOK.cg (cx:=base) (cx':=base0) ⟨rfl,rfl,rfl,rfl,rfl,rfl⟩ zi
theorem zq:Tryz.prog.follows .mixedOrders=true:=by kernel_rfl
end Go.Proofs.YtljlfiomikifjaaGreatDoor
/- What is read of an argument, as typed data. -/
namespace Go.Proofs.YtljlfiomikifjaaGreatDoor
open Go Go.Ab
def wf2 (x:Int):Prop:=(Lit.int .i64 x).wf=true
def wf3 (x:Int):Prop:=(Lit.int .i64 x).wf=true
def wf4 (x:Bool):Prop:=True
def wf5 (x:Int):Prop:=(Lit.int .u8 x).wf=true
def wf9 (x:ByteArray):Prop:=ByteArray.size x≤roomLen
def wf49 (x:RowID):Prop:=wf3 x.Table∧wf3 x.Seq
def wf65 (x:Value):Prop:=wf3 x.Kind∧wf2 x.Int∧wf9 x.Text
mutual
def zgg:Atom→Prop
 | ⟨k,r,a,f,i,o,b⟩=>wf3 k∧wf49 r∧(zxF a∧a.length≤roomLen)∧wf3 f∧(zs9 i∧i.length≤roomLen)∧wf3 o∧wf65 b
def zwU:Factor→Prop
 | ⟨a,e⟩=>zgg a∧wf3 e
def ztU:yD→Prop
 | []=>True
 | x::r=>zwU x∧ztU r
def zB2:Term→Prop
 | ⟨c,f⟩=>wf2 c∧(ztU f∧f.length≤roomLen)
def zgr:yC→Prop
 | []=>True
 | x::r=>zB2 x∧zgr r
def zxF:yA→Prop
 | []=>True
 | x::r=>(zgr x∧x.length≤roomLen)∧zxF r
def zHG:Weighted→Prop
 | ⟨v,a⟩=>wf65 v∧(zgr a∧a.length≤roomLen)
def zs9:yE→Prop
 | []=>True
 | x::r=>zHG x∧zs9 r
end
theorem zLe:∀ l:yD,(∀ x∈l,zwU x)→ztU l
 | [],_=>by unfold ztU; trivial
 | x::r,h=>by unfold ztU; exact ⟨h x (by simp),zLe r fun y hy=>h y (by simp [hy])⟩
theorem zGf:∀ l:yC,(∀ x∈l,zB2 x)→zgr l
 | [],_=>by unfold zgr; trivial
 | x::r,h=>by unfold zgr; exact ⟨h x (by simp),zGf r fun y hy=>h y (by simp [hy])⟩
theorem zUV:∀ l:yA,(∀ x∈l,zgr x∧x.length≤roomLen)→zxF l
 | [],_=>by unfold zxF; trivial
 | x::r,h=>by unfold zxF; exact ⟨h x (by simp),zUV r fun y hy=>h y (by simp [hy])⟩
theorem zQ4:∀ l:yE,(∀ x∈l,zHG x)→zs9 l
 | [],_=>by unfold zs9; trivial
 | x::r,h=>by unfold zs9; exact ⟨h x (by simp),zQ4 r fun y hy=>h y (by simp [hy])⟩
def wf23 (x:yC):Prop:=zgr x∧List.length x≤roomLen
def wf26 (x:yD):Prop:=ztU x∧List.length x≤roomLen
def wf28 (x:Term):Prop:=zB2 x
def wf60 (x:yA):Prop:=zxF x∧List.length x≤roomLen
def wf63 (x:yE):Prop:=zs9 x∧List.length x≤roomLen
def wf67 (x:Atom):Prop:=zgg x
def wf69 (x:Factor):Prop:=zwU x
def zbgt (x:Weighted):Prop:=zHG x
def wf43 (x:yF):Prop:=(∀ y∈x,wf49 y)∧List.length x≤roomLen
def wf39 (x:yB):Prop:=(∀ y∈x,wf43 y)∧List.length x≤roomLen
def wf51 (x:Binding):Prop:=wf49 x.Row∧wf23 x.To
def wf47 (x:yG):Prop:=(∀ y∈x,wf51 y)∧List.length x≤roomLen
def wf (T:Nat):ty T→Prop:=match T with
 | 2=>wf2
 | 3=>wf3
 | 4=>wf4
 | 5=>wf5
 | 9=>wf9
 | 23=>wf23
 | 26=>wf26
 | 28=>wf28
 | 39=>wf39
 | 43=>wf43
 | 47=>wf47
 | 49=>wf49
 | 51=>wf51
 | 60=>wf60
 | 63=>wf63
 | 65=>wf65
 | 67=>wf67
 | 69=>wf69
 | 100=>zbgt
 | _=>fun _=>True
theorem zbcj:ztD Tryz.prog base wf 2:=z4C Tryz.underlying2 (fun n=>n) (fun _=>rfl) (fun _ h=>h)
theorem zLE:ztD Tryz.prog base wf 3:=z4C Tryz.underlying3 (fun n=>n) (fun _=>rfl) (fun _ h=>h)
theorem zbfK:ztD Tryz.prog base wf 9:=zbbE Tryz.underlying9 (fun n=>n) (fun _=>rfl) (fun _ h=>h)
theorem z9D:ztD Tryz.prog base wf 49:=by
 intro H en w sp held fuel cs y h hz;obtain ⟨xs,n,_,hy,hl,hlen,hf⟩:=DataW.trod_struct Tryz.underlying49 h;have hs:=zmL Tryz.underlying49 hy hz;obtain ⟨x0,h0,w0⟩:=zug (off:=0) zLE (by kernel_rfl) hlen hf hs 0 _ rfl rfl rfl
 obtain ⟨x1,h1,w1⟩:=zug (off:=1) zLE (by kernel_rfl) hlen hf hs 1 _ rfl rfl rfl
 have hl:cs.length=2:=hl.trans (by kernel_rfl)
 have:=ziy h0 (zCD h1 hl);exact ⟨(⟨x0,x1⟩:RowID),this,⟨w0,w1⟩⟩
theorem z9I:ztD Tryz.prog base wf 65:=by
 intro H en w sp held fuel cs y h hz;obtain ⟨xs,n,_,hy,hl,hlen,hf⟩:=DataW.trod_struct Tryz.underlying65 h;have hs:=zmL Tryz.underlying65 hy hz;obtain ⟨x0,h0,w0⟩:=zug (off:=0) zLE (by kernel_rfl) hlen hf hs 0 _ rfl rfl rfl
 obtain ⟨x1,h1,w1⟩:=zug (off:=1) zbcj (by kernel_rfl) hlen hf hs 1 _ rfl rfl rfl
 obtain ⟨x2,h2,w2⟩:=zug (off:=2) zbfK (by kernel_rfl) hlen hf hs 2 _ rfl rfl rfl
 have hl:cs.length=3:=hl.trans (by kernel_rfl)
 have:=ziy h0 (ziy h1 (zCD h2 hl));exact ⟨(⟨x0,x1,x2⟩:Value),this,⟨w0,w1,w2⟩⟩
theorem z63:∀ m,ztu Tryz.prog base wf m 23∧ztu Tryz.prog base wf m 26∧ztu Tryz.prog base wf m 28∧ztu Tryz.prog base wf m 60∧ztu Tryz.prog base wf m 63∧ztu Tryz.prog base wf m 67∧ztu Tryz.prog base wf m 69∧ztu Tryz.prog base wf m 100
 | 0=>⟨zpZ,zpZ,zpZ,zpZ,zpZ,zpZ,zpZ,zpZ⟩
 | m+1=>by
  obtain ⟨h23,h26,h28,h60,h63,h67,h69,h100⟩:=z63 m;refine ⟨?_, ?_, ?_, ?_, ?_, ?_, ?_, ?_⟩
  ·exact zzX zi Tryz.underlying23 (by kernel_rfl) (by decide) (fun l=>l) (fun _=>rfl) (of_decide_eq_true (by kernel_rfl)) h28 (fun l h h2=>⟨zGf l h,h2⟩)
  ·exact zzX zi Tryz.underlying26 (by kernel_rfl) (by decide) (fun l=>l) (fun _=>rfl) (of_decide_eq_true (by kernel_rfl)) h69 (fun l h h2=>⟨zLe l h,h2⟩)
  ·intro H en w sp held fuel cs y hfu h hz;obtain ⟨xs,n,hn,hy,hl,hlen,hf⟩:=DataW.trod_struct Tryz.underlying28 h;have hs:=zmL Tryz.underlying28 hy hz;have hn:n≤m:=by omega
   obtain ⟨x0,hx0,w0⟩:=zfy (off:=0) (zbcj.at m) (by kernel_rfl) hn hlen hf hs 0 _ rfl rfl rfl
   obtain ⟨x1,hx1,w1⟩:=zfy (off:=1) h26 (by kernel_rfl) hn hlen hf hs 1 _ rfl rfl rfl
   have hl:cs.length=2:=hl.trans (by kernel_rfl)
   have:=ziy hx0 (zCD hx1 hl);exact ⟨(⟨x0,x1⟩:Term),this,by show zB2 (⟨x0,x1⟩:Term); unfold zB2; exact ⟨w0,w1⟩⟩
  ·exact zzX zi Tryz.underlying60 (by kernel_rfl) (by decide) (fun l=>l) (fun _=>rfl) (of_decide_eq_true (by kernel_rfl)) h23 (fun l h h2=>⟨zUV l h,h2⟩)
  ·exact zzX zi Tryz.underlying63 (by kernel_rfl) (by decide) (fun l=>l) (fun _=>rfl) (of_decide_eq_true (by kernel_rfl)) h100 (fun l h h2=>⟨zQ4 l h,h2⟩)
  ·intro H en w sp held fuel cs y hfu h hz;obtain ⟨xs,n,hn,hy,hl,hlen,hf⟩:=DataW.trod_struct Tryz.underlying67 h;have hs:=zmL Tryz.underlying67 hy hz;have hn:n≤m:=by omega
   obtain ⟨x0,hx0,w0⟩:=zfy (off:=0) (zLE.at m) (by kernel_rfl) hn hlen hf hs 0 _ rfl rfl rfl
   obtain ⟨x1,hx1,w1⟩:=zfy (off:=1) (z9D.at m) (by kernel_rfl) hn hlen hf hs 1 _ rfl rfl rfl
   obtain ⟨x2,hx2,w2⟩:=zfy (off:=3) h60 (by kernel_rfl) hn hlen hf hs 2 _ rfl rfl rfl
   obtain ⟨x3,hx3,w3⟩:=zfy (off:=4) (zLE.at m) (by kernel_rfl) hn hlen hf hs 3 _ rfl rfl rfl
   obtain ⟨x4,hx4,w4⟩:=zfy (off:=5) h63 (by kernel_rfl) hn hlen hf hs 4 _ rfl rfl rfl
   obtain ⟨x5,hx5,w5⟩:=zfy (off:=6) (zLE.at m) (by kernel_rfl) hn hlen hf hs 5 _ rfl rfl rfl
   obtain ⟨x6,hx6,w6⟩:=zfy (off:=7) (z9I.at m) (by kernel_rfl) hn hlen hf hs 6 _ rfl rfl rfl
   have hl:cs.length=10:=hl.trans (by kernel_rfl)
   have:=ziy hx0 (ziy hx1 (ziy hx2 (ziy hx3 (ziy hx4 (ziy hx5 (zCD hx6 hl))))));exact ⟨(⟨x0,x1,x2,x3,x4,x5,x6⟩:Atom),this,by show zgg (⟨x0,x1,x2,x3,x4,x5,x6⟩:Atom); unfold zgg; exact ⟨w0,w1,w2,w3,w4,w5,w6⟩⟩
  ·intro H en w sp held fuel cs y hfu h hz;obtain ⟨xs,n,hn,hy,hl,hlen,hf⟩:=DataW.trod_struct Tryz.underlying69 h;have hs:=zmL Tryz.underlying69 hy hz;have hn:n≤m:=by omega
   obtain ⟨x0,hx0,w0⟩:=zfy (off:=0) h67 (by kernel_rfl) hn hlen hf hs 0 _ rfl rfl rfl
   obtain ⟨x1,hx1,w1⟩:=zfy (off:=10) (zLE.at m) (by kernel_rfl) hn hlen hf hs 1 _ rfl rfl rfl
   have hl:cs.length=11:=hl.trans (by kernel_rfl)
   have:=ziy hx0 (zCD hx1 hl);exact ⟨(⟨x0,x1⟩:Factor),this,by show zwU (⟨x0,x1⟩:Factor); unfold zwU; exact ⟨w0,w1⟩⟩
  ·intro H en w sp held fuel cs y hfu h hz;obtain ⟨xs,n,hn,hy,hl,hlen,hf⟩:=DataW.trod_struct Tryz.underlying100 h;have hs:=zmL Tryz.underlying100 hy hz;have hn:n≤m:=by omega
   obtain ⟨x0,hx0,w0⟩:=zfy (off:=0) (z9I.at m) (by kernel_rfl) hn hlen hf hs 0 _ rfl rfl rfl
   obtain ⟨x1,hx1,w1⟩:=zfy (off:=3) h23 (by kernel_rfl) hn hlen hf hs 1 _ rfl rfl rfl
   have hl:cs.length=4:=hl.trans (by kernel_rfl)
   have:=ziy hx0 (zCD hx1 hl);exact ⟨(⟨x0,x1⟩:Weighted),this,by show zHG (⟨x0,x1⟩:Weighted); unfold zHG; exact ⟨w0,w1⟩⟩
theorem z9m:ztD Tryz.prog base wf 23:=zbcf fun m=>(z63 m).1
theorem zbef:ztD Tryz.prog base wf 51:=by
 intro H en w sp held fuel cs y h hz;obtain ⟨xs,n,_,hy,hl,hlen,hf⟩:=DataW.trod_struct Tryz.underlying51 h;have hs:=zmL Tryz.underlying51 hy hz;obtain ⟨x0,h0,w0⟩:=zug (off:=0) z9D (by kernel_rfl) hlen hf hs 0 _ rfl rfl rfl
 obtain ⟨x1,h1,w1⟩:=zug (off:=2) z9m (by kernel_rfl) hlen hf hs 1 _ rfl rfl rfl
 have hl:cs.length=3:=hl.trans (by kernel_rfl)
 have:=ziy h0 (zCD h1 hl);exact ⟨(⟨x0,x1⟩:Binding),this,⟨w0,w1⟩⟩
theorem zber:ztD Tryz.prog base wf 47:=z8O zi Tryz.underlying47 (by kernel_rfl) (by decide) (fun l=>l) (fun _=>rfl) (of_decide_eq_true (by kernel_rfl)) zbef (fun _ h h2=>⟨h,h2⟩)
def zO3 (r:Int):ARes ty:=⟨[.pure (.lit (.int .i64 r))],[]⟩
def zSg:AL base (yC×yC×Unit):=zd (ze (vSl 28)) (zd (ze (vSl 28)) aNil)
def zep (F:yC→yC→Bool×Int):Ab.Spec ty:=zh zSg fun x=>((F x.1 x.2.1).1,zO3 (F x.1 x.2.1).2)
def zMK:AL base (Term×Term×Unit):=zd (ze (vAgg 28)) (zd (ze (vAgg 28)) aNil)
def zf1 (F:Term→Term→Bool×Int):Ab.Spec ty:=zh zMK fun x=>((F x.1 x.2.1).1,zO3 (F x.1 x.2.1).2)
def zHK:AL base (Factor×Factor×Unit):=zd (ze (vAgg 69)) (zd (ze (vAgg 69)) aNil)
def zeG (F:Factor→Factor→Bool×Int):Ab.Spec ty:=zh zHK fun x=>((F x.1 x.2.1).1,zO3 (F x.1 x.2.1).2)
def zJ4:AL base (Atom×Atom×Unit):=zd (ze (vAgg 67)) (zd (ze (vAgg 67)) aNil)
def zgZ (F:Atom→Atom→Bool×Int):Ab.Spec ty:=zh zJ4 fun x=>((F x.1 x.2.1).1,zO3 (F x.1 x.2.1).2)
def zJh:AL base (Weighted×Weighted×Unit):=zd (ze (vAgg 100)) (zd (ze (vAgg 100)) aNil)
def zem (F:Weighted→Weighted→Bool×Int):Ab.Spec ty:=zh zJh fun x=>((F x.1 x.2.1).1,zO3 (F x.1 x.2.1).2)
def zja:AL base (yC×yC×Unit×Unit):=zd (ze (vSl 28)) (zd (ze (vSl 28)) (zd (ze (vFn 137 vNil)) aNil))
def zbU (F:yC→yC→Bool×Int):Ab.Spec ty:=zh zja fun x=>((F x.1 x.2.1).1,zO3 (F x.1 x.2.1).2)
def zjx:AL base (yD×yD×Unit×Unit):=zd (ze (vSl 69)) (zd (ze (vSl 69)) (zd (ze (vFn 119 vNil)) aNil))
def zbY (F:yD→yD→Bool×Int):Ab.Spec ty:=zh zjx fun x=>((F x.1 x.2.1).1,zO3 (F x.1 x.2.1).2)
def zfN:AL base (yA×yA×Unit×Unit):=zd (ze (vSl 23)) (zd (ze (vSl 23)) (zd (ze (vFn 67 vNil)) aNil))
def zbs (F:yA→yA→Bool×Int):Ab.Spec ty:=zh zfN fun x=>((F x.1 x.2.1).1,zO3 (F x.1 x.2.1).2)
def zhe:AL base (yE×yE×Unit×Unit):=zd (ze (vSl 100)) (zd (ze (vSl 100)) (zd (ze (vFn 124 vNil)) aNil))
def zbK (F:yE→yE→Bool×Int):Ab.Spec ty:=zh zhe fun x=>((F x.1 x.2.1).1,zO3 (F x.1 x.2.1).2)
def zMp (zK:yC→yC→Bool×Int) (zM:Term→Term→Bool×Int):Cx ty:=mkCx base 8 [(136,(zbU zK)),(137,(zf1 zM))] [] [] [] [] []
def zBP (zK:yC→yC→Bool×Int) (zM:Term→Term→Bool×Int) (a:yC) (b:yC):Wy0 (Int):=.bn (zK a b) fun r0=>.k r0
def zpv (zK:yC→yC→Bool×Int) (zM:Term→Term→Bool×Int) (a:yC) (b:yC):Bool×Int:=(zBP zK zM a b).fin default
theorem zH6 (zK:yC→yC→Bool×Int) (zM:Term→Term→Bool×Int) (ziD:SdP 136 (zbU zK)) (zpC:SdP 137 (zf1 zM)):SdP 67 (zep (zpv zK zM)):=
 sW (cx':=(zMp zK zM)) zq zi zl (zj ⟨ziD,zpC,trivial⟩) Tryz.call67 Tryz.func67 (c:=body Tryz.f67) (lOK aN)
def zWR:Cx ty:=mkCx base 6 [] [] [] [] [] []
def zIR (x_:Int):Wy0 (Bool):=.k (x_ != x_)
def zn6 (x_:Int):Bool×Bool:=(zIR x_).fin default
def zTP (r:Bool):ARes ty:=⟨[.pure (.lit (.bool r))],[]⟩
def zX7:AL base (Int×Unit):=zd (ze vI64) aNil
def zDS:Ab.Spec ty:=zh zX7 fun x=>((zn6 x.1).1,zTP (zn6 x.1).2)
theorem zP4:SdP 166 zDS:=
 sW (cx':=zWR) zq zi zl (zj trivial) Tryz.call166 Tryz.func166 (c:=body Tryz.f166) (lOK aN)
def zRH:Cx ty:=mkCx base 20 [(166,zDS)] [] [] [] [] []
def zFd (x_:Int) (y_:Int):Wy0 (Int):=.i ((zn6 x_).2) (.i ((zn6 y_).2) (.k 0) (.k (-1:Int))) (.i ((zn6 y_).2) (.k 1) (.i (decide (x_<y_)) (.k (-1:Int)) (.i (decide (x_>y_)) (.k 1) (.k 0))))
def zi6 (x_:Int) (y_:Int):Bool×Int:=(zFd x_ y_).fin default
def zTI:AL base (Int×Int×Unit):=zd (ze vI64) (zd (ze vI64) aNil)
def zmZ:Ab.Spec ty:=zh zTI fun x=>((zi6 x.1 x.2.1).1,zO3 (zi6 x.1 x.2.1).2)
theorem zsw:SdP 138 zmZ:=
 sW (cx':=zRH) zq zi zl (zj ⟨zP4,trivial⟩) Tryz.call138 Tryz.func138 (c:=body Tryz.f138) (lOK aN)
abbrev zAu:=Int×List Int×Int×Int×Unit
def zIs (zero:Int) (t6:List Int) (t7:Int) (t8:Int):Wy zAu (Unit) (Int⊕Int):=.i (decide (t8<t7)) (.i (decide (0≤t8)&&decide (t8<Int.ofNat t6.length)) (.i (t6.getD t8.toNat default != zero) (.k (.inl (t6.getD t8.toNat default))) (.h (zero,t6,t7,(IntKind.i64.wrap (t8+1)),()) ())) .d) (.k (.inr zero))
def zTa (x:zAu) (y:Unit):Wy zAu (Unit) (Int⊕Int):=zIs x.1 x.2.1 x.2.2.1 x.2.2.2.1
def zIx (n:Nat) (zero:Int) (t6:List Int) (t7:Int) (t8:Int):Bool×(Int⊕Int):=zI (zTa) (.inl default) n (zero,t6,t7,t8,()) ()
def z3M (r:Int⊕Int):LTree ty:=.ite (isL r) (.done .ret [.lit (.int .i64 (getL r))] []) (.done (.exit 0) [.lit (.int .i64 (getR r))] [])
def z52:LL ty zAu:=za lI64 (za (lSl 3) (za lI64 (za lI64 zp)))
def z5G:BL ty (Unit):=bNil
def z4i (x:zAu) (y:Unit):Nat:=(Int.toNat x.1+x.2.1.length+Int.toNat x.2.2.1+Int.toNat x.2.2.2.1+1)
def zS4:Cx ty:=mkCx base 18 [] [] [(3,(kpL [3,6,7,8]))] [(3,1,(kpL [3])),(3,0,(kpL [2]))] [(3,spW z52 z5G (zTa) (.inl default) z3M z4i)] []
theorem z26:zL zS4 (lp (body Tryz.f120) 0):=zw (id:=3) (hl:=rfl)
def zWp (vals:List Int):Wy0 (Int):=.bn (zIx (Int.toNat 0+vals.length+(Int.ofNat vals.length).toNat +Int.toNat 0+1) 0 vals (Int.ofNat vals.length) 0) fun r0=>.i (isL r0) (.k (getL r0)) (.k (getR r0))
def zm3 (vals:List Int):Bool×Int:=(zWp vals).fin default
def z6D:AL base (List Int×Unit):=zd (ze (vSl 3)) aNil
def zk9:Ab.Spec ty:=zh z6D fun x=>((zm3 x.1).1,zO3 (zm3 x.1).2)
theorem zmI:SdP 120 zk9:=
 sW (cx':=zS4) zq zi zl (zj trivial) Tryz.call120 Tryz.func120 (c:=body Tryz.f120) (lOK (aC z26 aN))
def zHT (zcT:Term→Term→Bool×Int):Cx ty:=mkCx base 15 [(63,(zf1 zcT)),(120,zk9),(138,zmZ)] [] [] [] [] []
def zy1 (zcT:Term→Term→Bool×Int) (x_:Term) (y_:Term):Wy0 (Int):=.bn (zcT x_ y_) fun r2=>.bn (zi6 x_.Coeff y_.Coeff) fun r1=>.bn (zm3 [r2,r1]) fun r0=>.k r0
def zl9 (zcT:Term→Term→Bool×Int) (x_:Term) (y_:Term):Bool×Int:=(zy1 zcT x_ y_).fin default
theorem zEM (zcT:Term→Term→Bool×Int) (zHo:SdP 63 (zf1 zcT)):SdP 137 (zf1 (zl9 zcT)):=
 sW (cx':=(zHT zcT)) zq zi zl (zj ⟨zHo,zmI,zsw,trivial⟩) Tryz.call137 Tryz.func137 (c:=body Tryz.f137) (lOK aN)
def zZG:Cx ty:=mkCx base 6 [] [] [] [] [] []
def zNf (x_:Int):Wy0 (Bool):=.k (x_ != x_)
def ztb (x_:Int):Bool×Bool:=(zNf x_).fin default
def zHh:Ab.Spec ty:=zh zX7 fun x=>((ztb x.1).1,zTP (ztb x.1).2)
theorem zUm:SdP 159 zHh:=
 sW (cx':=zZG) zq zi zl (zj trivial) Tryz.call159 Tryz.func159 (c:=body Tryz.f159) (lOK aN)
def zWf:Cx ty:=mkCx base 20 [(159,zHh)] [] [] [] [] []
def zI8 (x_:Int) (y_:Int):Wy0 (Int):=.i ((ztb x_).2) (.i ((ztb y_).2) (.k 0) (.k (-1:Int))) (.i ((ztb y_).2) (.k 1) (.i (decide (x_<y_)) (.k (-1:Int)) (.i (decide (x_>y_)) (.k 1) (.k 0))))
def zd6 (x_:Int) (y_:Int):Bool×Int:=(zI8 x_ y_).fin default
def zla:Ab.Spec ty:=zh zTI fun x=>((zd6 x.1 x.2.1).1,zO3 (zd6 x.1 x.2.1).2)
theorem zn5:SdP 121 zla:=
 sW (cx':=zWf) zq zi zl (zj ⟨zUm,trivial⟩) Tryz.call121 Tryz.func121 (c:=body Tryz.f121) (lOK aN)
end Go.Proofs.YtljlfiomikifjaaGreatDoor
/-
 DERIVED:THE SHELF's CONTRACTS AT THIS DUMP,IN PLAIN WORDS (tools/lay-plain.mjs out of 'TryzShelf.lean',which tools/lay-shelf.mjs wrote):THE SAME DECLARATIONS UNDER THE SAME NAMES:'import','namespace','open','def','theorem' AND NOTHING ELSE:no command of the shelf's:FOR A HAND-IN. Each laying:the table of numbers ('.._ren') and one theorem,a field a fact of the dump's own or the kernel's comparison; each contract:ONE APPLICATION.
-/
namespace Go.Proofs
open Go.Shelf
def Tryz.sortRow_ren:Go.Shelf.Ren:=⟨fun | 6=>232 | 15=>156 | 14=>251 | 28=>192 | 29=>193 | 20=>270 | 21=>271 | 22=>272 | 23=>273 | 24=>274 | 25=>275 | 26=>276 | 27=>277 | 46=>289 | 47=>222 | 48=>223 | 49=>290 | 50=>291 | 57=>298 | n=>n,fun | 22=>43 | 24=>49 | 25=>102 | 3=>3 | 39=>135 | 0=>0 | 53=>163 | 55=>165 | 4=>4 | 46=>157 | 45=>156 | 50=>123 | 5=>5 | 9=>9 | 66=>191 | 70=>195 | 76=>206 | 77=>207 | n=>n,fun | n=>n⟩
theorem Tryz.sortRow:Go.Proofs.SlLaysF0.n6 Tryz.prog Tryz.sortRow_ren:={
 mixed:=by kernel_rfl
 f6:=⟨Tryz.f232.name,by decide,Tryz.func232.trans (congrArg some (by kernel_rfl))⟩
 f14:=⟨Tryz.f251.name,by decide,Tryz.func251.trans (congrArg some (by kernel_rfl))⟩
 f15:=Tryz.func156.trans (congrArg some (by kernel_rfl))
 f20:=⟨Tryz.f270.name,by decide,Tryz.func270.trans (congrArg some (by kernel_rfl))⟩
 f21:=⟨Tryz.f271.name,by decide,Tryz.func271.trans (congrArg some (by kernel_rfl))⟩
 f22:=⟨Tryz.f272.name,by decide,Tryz.func272.trans (congrArg some (by kernel_rfl))⟩
 f23:=⟨Tryz.f273.name,by decide,Tryz.func273.trans (congrArg some (by kernel_rfl))⟩
 f24:=⟨Tryz.f274.name,by decide,Tryz.func274.trans (congrArg some (by kernel_rfl))⟩
 f25:=⟨Tryz.f275.name,by decide,Tryz.func275.trans (congrArg some (by kernel_rfl))⟩
 f26:=⟨Tryz.f276.name,by decide,Tryz.func276.trans (congrArg some (by kernel_rfl))⟩
 f27:=⟨Tryz.f277.name,by decide,Tryz.func277.trans (congrArg some (by kernel_rfl))⟩
 f28:=Tryz.func192.trans (congrArg some (by kernel_rfl))
 f29:=Tryz.func193.trans (congrArg some (by kernel_rfl))
 f46:=⟨Tryz.f289.name,by decide,Tryz.func289.trans (congrArg some (by kernel_rfl))⟩
 f47:=Tryz.func222.trans (congrArg some (by kernel_rfl))
 f48:=Tryz.func223.trans (congrArg some (by kernel_rfl))
 f49:=⟨Tryz.f290.name,by decide,Tryz.func290.trans (congrArg some (by kernel_rfl))⟩
 f50:=⟨Tryz.f291.name,by decide,Tryz.func291.trans (congrArg some (by kernel_rfl))⟩
 f57:=⟨Tryz.f298.name,by decide,Tryz.func298.trans (congrArg some (by kernel_rfl))⟩
 t0:=Tryz.underlying0
 a0:=Tryz.isAgg0
 z0:=Tryz.sizeOf0
 v0:=Tryz.zeroValue0
 t3:=Tryz.underlying3
 a3:=Tryz.isAgg3
 z3:=Tryz.sizeOf3
 v3:=Tryz.zeroValue3
 t4:=Tryz.underlying4
 a4:=Tryz.isAgg4
 z4:=Tryz.sizeOf4
 v4:=Tryz.zeroValue4
 t5:=Tryz.underlying5
 a5:=Tryz.isAgg5
 z5:=Tryz.sizeOf5
 v5:=Tryz.zeroValue5
 t9:=Tryz.underlying9
 a9:=Tryz.isAgg9
 z9:=Tryz.sizeOf9
 v9:=Tryz.zeroValue9
 t22:=Tryz.underlying43
 a22:=Tryz.isAgg43
 z22:=Tryz.sizeOf43
 v22:=Tryz.zeroValue43
 t25:=Tryz.underlying102
 a25:=Tryz.isAgg102
 z25:=Tryz.sizeOf102
 v25:=Tryz.zeroValue102
 t39:=Tryz.underlying135
 a39:=Tryz.isAgg135
 z39:=Tryz.sizeOf135
 v39:=Tryz.zeroValue135
 t45:=Tryz.underlying156
 a45:=Tryz.isAgg156
 z45:=Tryz.sizeOf156
 v45:=Tryz.zeroValue156
 t46:=Tryz.underlying157
 a46:=Tryz.isAgg157
 z46:=Tryz.sizeOf157
 v46:=Tryz.zeroValue157
 t50:=Tryz.underlying123
 a50:=Tryz.isAgg123
 z50:=Tryz.sizeOf123
 v50:=Tryz.zeroValue123
 t53:=Tryz.underlying163
 a53:=Tryz.isAgg163
 z53:=Tryz.sizeOf163
 v53:=Tryz.zeroValue163
 t55:=Tryz.underlying165
 a55:=Tryz.isAgg165
 z55:=Tryz.sizeOf165
 v55:=Tryz.zeroValue165
 t66:=Tryz.underlying191
 a66:=Tryz.isAgg191
 z66:=Tryz.sizeOf191
 v66:=Tryz.zeroValue191
 t70:=Tryz.underlying195
 a70:=Tryz.isAgg195
 z70:=Tryz.sizeOf195
 v70:=Tryz.zeroValue195
 t76:=Tryz.underlying206
 a76:=Tryz.isAgg206
 z76:=Tryz.sizeOf206
 v76:=Tryz.zeroValue206
 t77:=Tryz.underlying207
 a77:=Tryz.isAgg207
 z77:=Tryz.sizeOf207
 v77:=Tryz.zeroValue207 }
def Tryz.sortSet_ren:Go.Shelf.Ren:=⟨fun | 6=>205 | 15=>156 | 14=>235 | 28=>192 | 29=>193 | 20=>252 | 21=>253 | 22=>254 | 23=>255 | 24=>256 | 25=>257 | 26=>258 | 27=>259 | 46=>278 | 47=>222 | 48=>223 | 49=>279 | 50=>280 | 57=>292 | n=>n,fun | 22=>39 | 24=>43 | 25=>86 | 3=>3 | 39=>135 | 0=>0 | 53=>163 | 55=>165 | 4=>4 | 46=>157 | 45=>156 | 50=>123 | 5=>5 | 9=>9 | 66=>191 | 70=>195 | 76=>206 | 77=>207 | n=>n,fun | n=>n⟩
theorem Tryz.sortSet:Go.Proofs.SlLaysF.n6 Tryz.prog Tryz.sortSet_ren:={
 mixed:=by kernel_rfl
 f6:=⟨Tryz.f205.name,by decide,Tryz.func205.trans (congrArg some (by kernel_rfl))⟩
 f14:=⟨Tryz.f235.name,by decide,Tryz.func235.trans (congrArg some (by kernel_rfl))⟩
 f15:=Tryz.func156.trans (congrArg some (by kernel_rfl))
 f20:=⟨Tryz.f252.name,by decide,Tryz.func252.trans (congrArg some (by kernel_rfl))⟩
 f21:=⟨Tryz.f253.name,by decide,Tryz.func253.trans (congrArg some (by kernel_rfl))⟩
 f22:=⟨Tryz.f254.name,by decide,Tryz.func254.trans (congrArg some (by kernel_rfl))⟩
 f23:=⟨Tryz.f255.name,by decide,Tryz.func255.trans (congrArg some (by kernel_rfl))⟩
 f24:=⟨Tryz.f256.name,by decide,Tryz.func256.trans (congrArg some (by kernel_rfl))⟩
 f25:=⟨Tryz.f257.name,by decide,Tryz.func257.trans (congrArg some (by kernel_rfl))⟩
 f26:=⟨Tryz.f258.name,by decide,Tryz.func258.trans (congrArg some (by kernel_rfl))⟩
 f27:=⟨Tryz.f259.name,by decide,Tryz.func259.trans (congrArg some (by kernel_rfl))⟩
 f28:=Tryz.func192.trans (congrArg some (by kernel_rfl))
 f29:=Tryz.func193.trans (congrArg some (by kernel_rfl))
 f46:=⟨Tryz.f278.name,by decide,Tryz.func278.trans (congrArg some (by kernel_rfl))⟩
 f47:=Tryz.func222.trans (congrArg some (by kernel_rfl))
 f48:=Tryz.func223.trans (congrArg some (by kernel_rfl))
 f49:=⟨Tryz.f279.name,by decide,Tryz.func279.trans (congrArg some (by kernel_rfl))⟩
 f50:=⟨Tryz.f280.name,by decide,Tryz.func280.trans (congrArg some (by kernel_rfl))⟩
 f57:=⟨Tryz.f292.name,by decide,Tryz.func292.trans (congrArg some (by kernel_rfl))⟩
 t0:=Tryz.underlying0
 a0:=Tryz.isAgg0
 z0:=Tryz.sizeOf0
 v0:=Tryz.zeroValue0
 t3:=Tryz.underlying3
 a3:=Tryz.isAgg3
 z3:=Tryz.sizeOf3
 v3:=Tryz.zeroValue3
 t4:=Tryz.underlying4
 a4:=Tryz.isAgg4
 z4:=Tryz.sizeOf4
 v4:=Tryz.zeroValue4
 t5:=Tryz.underlying5
 a5:=Tryz.isAgg5
 z5:=Tryz.sizeOf5
 v5:=Tryz.zeroValue5
 t9:=Tryz.underlying9
 a9:=Tryz.isAgg9
 z9:=Tryz.sizeOf9
 v9:=Tryz.zeroValue9
 t22:=Tryz.underlying39
 a22:=Tryz.isAgg39
 z22:=Tryz.sizeOf39
 v22:=Tryz.zeroValue39
 a24:=Tryz.isAgg43
 z24:=Tryz.sizeOf43
 t25:=Tryz.underlying86
 a25:=Tryz.isAgg86
 z25:=Tryz.sizeOf86
 v25:=Tryz.zeroValue86
 t39:=Tryz.underlying135
 a39:=Tryz.isAgg135
 z39:=Tryz.sizeOf135
 v39:=Tryz.zeroValue135
 t45:=Tryz.underlying156
 a45:=Tryz.isAgg156
 z45:=Tryz.sizeOf156
 v45:=Tryz.zeroValue156
 t46:=Tryz.underlying157
 a46:=Tryz.isAgg157
 z46:=Tryz.sizeOf157
 v46:=Tryz.zeroValue157
 t50:=Tryz.underlying123
 a50:=Tryz.isAgg123
 z50:=Tryz.sizeOf123
 v50:=Tryz.zeroValue123
 t53:=Tryz.underlying163
 a53:=Tryz.isAgg163
 z53:=Tryz.sizeOf163
 v53:=Tryz.zeroValue163
 t55:=Tryz.underlying165
 a55:=Tryz.isAgg165
 z55:=Tryz.sizeOf165
 v55:=Tryz.zeroValue165
 t66:=Tryz.underlying191
 a66:=Tryz.isAgg191
 z66:=Tryz.sizeOf191
 v66:=Tryz.zeroValue191
 t70:=Tryz.underlying195
 a70:=Tryz.isAgg195
 z70:=Tryz.sizeOf195
 v70:=Tryz.zeroValue195
 t76:=Tryz.underlying206
 a76:=Tryz.isAgg206
 z76:=Tryz.sizeOf206
 v76:=Tryz.zeroValue206
 t77:=Tryz.underlying207
 a77:=Tryz.isAgg207
 z77:=Tryz.sizeOf207
 v77:=Tryz.zeroValue207 }
def Tryz.pdqTerm_ren:Go.Shelf.Ren:=⟨fun | 14=>155 | 20=>184 | 21=>185 | 22=>186 | 23=>187 | 24=>188 | 25=>189 | 26=>190 | 27=>191 | 46=>221 | 47=>222 | 48=>223 | 49=>224 | 50=>225 | 15=>156 | 57=>243 | 28=>192 | 29=>193 | n=>n,fun | 24=>28 | 22=>22 | 3=>3 | 25=>79 | 4=>4 | 0=>0 | 46=>157 | 45=>156 | 50=>123 | 66=>191 | 39=>135 | 55=>165 | 70=>195 | 76=>206 | 77=>207 | 53=>163 | 5=>5 | 9=>9 | n=>n,fun | n=>n⟩
theorem Tryz.pdqTerm:Go.Proofs.SlLaysF0.n14 Tryz.prog Tryz.pdqTerm_ren:={
 mixed:=by kernel_rfl
 f14:=⟨Tryz.f155.name,by decide,Tryz.func155.trans (congrArg some (by kernel_rfl))⟩
 f15:=Tryz.func156.trans (congrArg some (by kernel_rfl))
 f20:=⟨Tryz.f184.name,by decide,Tryz.func184.trans (congrArg some (by kernel_rfl))⟩
 f21:=⟨Tryz.f185.name,by decide,Tryz.func185.trans (congrArg some (by kernel_rfl))⟩
 f22:=⟨Tryz.f186.name,by decide,Tryz.func186.trans (congrArg some (by kernel_rfl))⟩
 f23:=⟨Tryz.f187.name,by decide,Tryz.func187.trans (congrArg some (by kernel_rfl))⟩
 f24:=⟨Tryz.f188.name,by decide,Tryz.func188.trans (congrArg some (by kernel_rfl))⟩
 f25:=⟨Tryz.f189.name,by decide,Tryz.func189.trans (congrArg some (by kernel_rfl))⟩
 f26:=⟨Tryz.f190.name,by decide,Tryz.func190.trans (congrArg some (by kernel_rfl))⟩
 f27:=⟨Tryz.f191.name,by decide,Tryz.func191.trans (congrArg some (by kernel_rfl))⟩
 f28:=Tryz.func192.trans (congrArg some (by kernel_rfl))
 f29:=Tryz.func193.trans (congrArg some (by kernel_rfl))
 f46:=⟨Tryz.f221.name,by decide,Tryz.func221.trans (congrArg some (by kernel_rfl))⟩
 f47:=Tryz.func222.trans (congrArg some (by kernel_rfl))
 f48:=Tryz.func223.trans (congrArg some (by kernel_rfl))
 f49:=⟨Tryz.f224.name,by decide,Tryz.func224.trans (congrArg some (by kernel_rfl))⟩
 f50:=⟨Tryz.f225.name,by decide,Tryz.func225.trans (congrArg some (by kernel_rfl))⟩
 f57:=⟨Tryz.f243.name,by decide,Tryz.func243.trans (congrArg some (by kernel_rfl))⟩
 t0:=Tryz.underlying0
 a0:=Tryz.isAgg0
 z0:=Tryz.sizeOf0
 v0:=Tryz.zeroValue0
 t3:=Tryz.underlying3
 a3:=Tryz.isAgg3
 z3:=Tryz.sizeOf3
 v3:=Tryz.zeroValue3
 t4:=Tryz.underlying4
 a4:=Tryz.isAgg4
 z4:=Tryz.sizeOf4
 v4:=Tryz.zeroValue4
 t5:=Tryz.underlying5
 a5:=Tryz.isAgg5
 z5:=Tryz.sizeOf5
 v5:=Tryz.zeroValue5
 t9:=Tryz.underlying9
 a9:=Tryz.isAgg9
 z9:=Tryz.sizeOf9
 v9:=Tryz.zeroValue9
 t22:=Tryz.underlying22
 a22:=Tryz.isAgg22
 z22:=Tryz.sizeOf22
 v22:=Tryz.zeroValue22
 t25:=Tryz.underlying79
 a25:=Tryz.isAgg79
 z25:=Tryz.sizeOf79
 v25:=Tryz.zeroValue79
 t39:=Tryz.underlying135
 a39:=Tryz.isAgg135
 z39:=Tryz.sizeOf135
 v39:=Tryz.zeroValue135
 t45:=Tryz.underlying156
 a45:=Tryz.isAgg156
 z45:=Tryz.sizeOf156
 v45:=Tryz.zeroValue156
 t46:=Tryz.underlying157
 a46:=Tryz.isAgg157
 z46:=Tryz.sizeOf157
 v46:=Tryz.zeroValue157
 t50:=Tryz.underlying123
 a50:=Tryz.isAgg123
 z50:=Tryz.sizeOf123
 v50:=Tryz.zeroValue123
 t53:=Tryz.underlying163
 a53:=Tryz.isAgg163
 z53:=Tryz.sizeOf163
 v53:=Tryz.zeroValue163
 t55:=Tryz.underlying165
 a55:=Tryz.isAgg165
 z55:=Tryz.sizeOf165
 v55:=Tryz.zeroValue165
 t66:=Tryz.underlying191
 a66:=Tryz.isAgg191
 z66:=Tryz.sizeOf191
 v66:=Tryz.zeroValue191
 t70:=Tryz.underlying195
 a70:=Tryz.isAgg195
 z70:=Tryz.sizeOf195
 v70:=Tryz.zeroValue195
 t76:=Tryz.underlying206
 a76:=Tryz.isAgg206
 z76:=Tryz.sizeOf206
 v76:=Tryz.zeroValue206
 t77:=Tryz.underlying207
 a77:=Tryz.isAgg207
 z77:=Tryz.sizeOf207
 v77:=Tryz.zeroValue207 }
def Tryz.insW_ren:Go.Shelf.Ren:=⟨fun | 20=>281 | n=>n,fun | 24=>100 | 22=>63 | 3=>3 | 25=>114 | 4=>4 | 0=>0 | n=>n,fun | n=>n⟩
theorem Tryz.insW:Go.Proofs.SlLaysF0.n20 Tryz.prog Tryz.insW_ren:={
 mixed:=by kernel_rfl
 f20:=⟨Tryz.f281.name,by decide,Tryz.func281.trans (congrArg some (by kernel_rfl))⟩
 t0:=Tryz.underlying0
 a0:=Tryz.isAgg0
 z0:=Tryz.sizeOf0
 v0:=Tryz.zeroValue0
 t3:=Tryz.underlying3
 a3:=Tryz.isAgg3
 z3:=Tryz.sizeOf3
 v3:=Tryz.zeroValue3
 t4:=Tryz.underlying4
 a4:=Tryz.isAgg4
 z4:=Tryz.sizeOf4
 v4:=Tryz.zeroValue4
 t22:=Tryz.underlying63
 a22:=Tryz.isAgg63
 z22:=Tryz.sizeOf63
 v22:=Tryz.zeroValue63
 t25:=Tryz.underlying114
 a25:=Tryz.isAgg114
 z25:=Tryz.sizeOf114
 v25:=Tryz.zeroValue114 }
def Tryz.lays106_ren:Go.Shelf.Ren:=⟨fun | 106=>160 | 213=>194 | 265=>226 | n=>n,fun | 9=>9 | 3=>3 | n=>n,fun | n=>n⟩
theorem Tryz.lays106:Go.Proofs.Lays.n106 Tryz.prog Tryz.lays106_ren:={
 mixed:=by kernel_rfl
 f106:=Tryz.func160.trans (congrArg some (by kernel_rfl))
 f213:=Tryz.func194.trans (congrArg some (by kernel_rfl))
 f265:=Tryz.func226.trans (congrArg some (by kernel_rfl))
 t3:=Tryz.underlying3
 a3:=Tryz.isAgg3
 z3:=Tryz.sizeOf3
 v3:=Tryz.zeroValue3
 t9:=Tryz.underlying9
 a9:=Tryz.isAgg9
 z9:=Tryz.sizeOf9
 v9:=Tryz.zeroValue9 }
def Tryz.lays125_ren:Go.Shelf.Ren:=⟨fun | 125=>156 | 128=>192 | 129=>193 | n=>n,fun | 46=>135 | 3=>3 | 51=>163 | 53=>165 | 4=>4 | 5=>5 | 9=>9 | n=>n,fun | n=>n⟩
theorem Tryz.lays125:Go.Proofs.Lays.n125 Tryz.prog Tryz.lays125_ren:={
 mixed:=by kernel_rfl
 f125:=Tryz.func156.trans (congrArg some (by kernel_rfl))
 f128:=Tryz.func192.trans (congrArg some (by kernel_rfl))
 f129:=Tryz.func193.trans (congrArg some (by kernel_rfl))
 t3:=Tryz.underlying3
 a3:=Tryz.isAgg3
 z3:=Tryz.sizeOf3
 v3:=Tryz.zeroValue3
 t4:=Tryz.underlying4
 a4:=Tryz.isAgg4
 z4:=Tryz.sizeOf4
 v4:=Tryz.zeroValue4
 t5:=Tryz.underlying5
 a5:=Tryz.isAgg5
 z5:=Tryz.sizeOf5
 v5:=Tryz.zeroValue5
 t9:=Tryz.underlying9
 a9:=Tryz.isAgg9
 z9:=Tryz.sizeOf9
 v9:=Tryz.zeroValue9
 t46:=Tryz.underlying135
 a46:=Tryz.isAgg135
 z46:=Tryz.sizeOf135
 v46:=Tryz.zeroValue135
 t51:=Tryz.underlying163
 a51:=Tryz.isAgg163
 z51:=Tryz.sizeOf163
 v51:=Tryz.zeroValue163
 t53:=Tryz.underlying165
 a53:=Tryz.isAgg165
 z53:=Tryz.sizeOf165
 v53:=Tryz.zeroValue165 }
def Tryz.laysM173_ren:Go.Shelf.Ren:=⟨fun | 173=>227 | 246=>229 | 283=>245 | 284=>246 | 285=>247 | 286=>248 | 129=>193 | 317=>266 | 318=>267 | 319=>268 | 320=>269 | 337=>287 | 338=>288 | n=>n,fun | 2=>2 | 3=>3 | 9=>9 | 4=>4 | 171=>210 | 0=>0 | 53=>165 | 37=>171 | 5=>5 | 173=>212 | 212=>229 | 51=>163 | 20=>20 | 213=>230 | 46=>135 | 232=>249 | 233=>250 | n=>n,fun | 17=>1 | 18=>4 | 19=>5 | n=>n⟩
theorem Tryz.laysM173:Go.Proofs.LaysM.n173 Tryz.prog Tryz.laysM173_ren:={
 mixed:=by kernel_rfl
 f129:=Tryz.func193.trans (congrArg some (by kernel_rfl))
 f173:=Tryz.func227.trans (congrArg some (by kernel_rfl))
 f246:=Tryz.func229.trans (congrArg some (by kernel_rfl))
 f283:=Tryz.func245.trans (congrArg some (by kernel_rfl))
 f284:=Tryz.func246.trans (congrArg some (by kernel_rfl))
 f285:=Tryz.func247.trans (congrArg some (by kernel_rfl))
 f286:=Tryz.func248.trans (congrArg some (by kernel_rfl))
 f317:=Tryz.func266.trans (congrArg some (by kernel_rfl))
 f318:=Tryz.func267.trans (congrArg some (by kernel_rfl))
 f319:=Tryz.func268.trans (congrArg some (by kernel_rfl))
 f320:=Tryz.func269.trans (congrArg some (by kernel_rfl))
 f337:=Tryz.func287.trans (congrArg some (by kernel_rfl))
 f338:=Tryz.func288.trans (congrArg some (by kernel_rfl))
 t0:=Tryz.underlying0
 a0:=Tryz.isAgg0
 z0:=Tryz.sizeOf0
 v0:=Tryz.zeroValue0
 t2:=Tryz.underlying2
 a2:=Tryz.isAgg2
 z2:=Tryz.sizeOf2
 v2:=Tryz.zeroValue2
 t3:=Tryz.underlying3
 a3:=Tryz.isAgg3
 z3:=Tryz.sizeOf3
 v3:=Tryz.zeroValue3
 t4:=Tryz.underlying4
 a4:=Tryz.isAgg4
 z4:=Tryz.sizeOf4
 v4:=Tryz.zeroValue4
 t5:=Tryz.underlying5
 a5:=Tryz.isAgg5
 z5:=Tryz.sizeOf5
 v5:=Tryz.zeroValue5
 t9:=Tryz.underlying9
 a9:=Tryz.isAgg9
 z9:=Tryz.sizeOf9
 v9:=Tryz.zeroValue9
 t20:=Tryz.underlying20
 a20:=Tryz.isAgg20
 z20:=Tryz.sizeOf20
 v20:=Tryz.zeroValue20
 t37:=Tryz.underlying171
 a37:=Tryz.isAgg171
 z37:=Tryz.sizeOf171
 v37:=Tryz.zeroValue171
 t46:=Tryz.underlying135
 a46:=Tryz.isAgg135
 z46:=Tryz.sizeOf135
 v46:=Tryz.zeroValue135
 t51:=Tryz.underlying163
 a51:=Tryz.isAgg163
 z51:=Tryz.sizeOf163
 v51:=Tryz.zeroValue163
 t53:=Tryz.underlying165
 a53:=Tryz.isAgg165
 z53:=Tryz.sizeOf165
 v53:=Tryz.zeroValue165
 t171:=Tryz.underlying210
 a171:=Tryz.isAgg210
 z171:=Tryz.sizeOf210
 v171:=Tryz.zeroValue210
 t173:=Tryz.underlying212
 a173:=Tryz.isAgg212
 z173:=Tryz.sizeOf212
 v173:=Tryz.zeroValue212
 t212:=Tryz.underlying229
 a212:=Tryz.isAgg229
 z212:=Tryz.sizeOf229
 v212:=Tryz.zeroValue229
 t213:=Tryz.underlying230
 a213:=Tryz.isAgg230
 z213:=Tryz.sizeOf230
 t232:=Tryz.underlying249
 a232:=Tryz.isAgg249
 z232:=Tryz.sizeOf249
 v232:=Tryz.zeroValue249
 t233:=Tryz.underlying250
 a233:=Tryz.isAgg250
 z233:=Tryz.sizeOf250
 v233:=Tryz.zeroValue250
 g17:=by kernel_rfl
 g18:=by kernel_rfl
 g19:=by kernel_rfl
 i0:=by kernel_rfl
 i2:=by kernel_rfl
 i3:=by kernel_rfl
 i4:=by kernel_rfl
 i5:=by kernel_rfl
 i9:=by kernel_rfl
 i20:=by kernel_rfl
 i37:=by kernel_rfl
 i46:=by kernel_rfl
 i51:=by kernel_rfl
 i53:=by kernel_rfl
 i171:=by kernel_rfl
 i173:=by kernel_rfl
 i212:=by kernel_rfl
 i232:=by kernel_rfl
 i233:=by kernel_rfl
 m17:=by kernel_rfl
 m18:=by kernel_rfl
 m19:=by kernel_rfl }
def Tryz.laysM171_ren:Go.Shelf.Ren:=⟨fun | 171=>168 | 243=>200 | 246=>229 | 283=>245 | 284=>246 | 285=>247 | 286=>248 | 129=>193 | 317=>266 | 318=>267 | 319=>268 | 320=>269 | 337=>287 | 338=>288 | n=>n,fun | 3=>3 | 9=>9 | 2=>2 | 4=>4 | 171=>210 | 0=>0 | 53=>165 | 37=>171 | 5=>5 | 173=>212 | 212=>229 | 51=>163 | 20=>20 | 213=>230 | 46=>135 | 232=>249 | 233=>250 | n=>n,fun | 17=>1 | 18=>4 | 19=>5 | n=>n⟩
theorem Tryz.laysM171:Go.Proofs.LaysM.n171 Tryz.prog Tryz.laysM171_ren:={
 mixed:=by kernel_rfl
 f129:=Tryz.func193.trans (congrArg some (by kernel_rfl))
 f171:=Tryz.func168.trans (congrArg some (by kernel_rfl))
 f243:=Tryz.func200.trans (congrArg some (by kernel_rfl))
 f246:=Tryz.func229.trans (congrArg some (by kernel_rfl))
 f283:=Tryz.func245.trans (congrArg some (by kernel_rfl))
 f284:=Tryz.func246.trans (congrArg some (by kernel_rfl))
 f285:=Tryz.func247.trans (congrArg some (by kernel_rfl))
 f286:=Tryz.func248.trans (congrArg some (by kernel_rfl))
 f317:=Tryz.func266.trans (congrArg some (by kernel_rfl))
 f318:=Tryz.func267.trans (congrArg some (by kernel_rfl))
 f319:=Tryz.func268.trans (congrArg some (by kernel_rfl))
 f320:=Tryz.func269.trans (congrArg some (by kernel_rfl))
 f337:=Tryz.func287.trans (congrArg some (by kernel_rfl))
 f338:=Tryz.func288.trans (congrArg some (by kernel_rfl))
 t0:=Tryz.underlying0
 a0:=Tryz.isAgg0
 z0:=Tryz.sizeOf0
 v0:=Tryz.zeroValue0
 t2:=Tryz.underlying2
 a2:=Tryz.isAgg2
 z2:=Tryz.sizeOf2
 v2:=Tryz.zeroValue2
 t3:=Tryz.underlying3
 a3:=Tryz.isAgg3
 z3:=Tryz.sizeOf3
 v3:=Tryz.zeroValue3
 t4:=Tryz.underlying4
 a4:=Tryz.isAgg4
 z4:=Tryz.sizeOf4
 v4:=Tryz.zeroValue4
 t5:=Tryz.underlying5
 a5:=Tryz.isAgg5
 z5:=Tryz.sizeOf5
 v5:=Tryz.zeroValue5
 t9:=Tryz.underlying9
 a9:=Tryz.isAgg9
 z9:=Tryz.sizeOf9
 v9:=Tryz.zeroValue9
 t20:=Tryz.underlying20
 a20:=Tryz.isAgg20
 z20:=Tryz.sizeOf20
 v20:=Tryz.zeroValue20
 t37:=Tryz.underlying171
 a37:=Tryz.isAgg171
 z37:=Tryz.sizeOf171
 v37:=Tryz.zeroValue171
 t46:=Tryz.underlying135
 a46:=Tryz.isAgg135
 z46:=Tryz.sizeOf135
 v46:=Tryz.zeroValue135
 t51:=Tryz.underlying163
 a51:=Tryz.isAgg163
 z51:=Tryz.sizeOf163
 v51:=Tryz.zeroValue163
 t53:=Tryz.underlying165
 a53:=Tryz.isAgg165
 z53:=Tryz.sizeOf165
 v53:=Tryz.zeroValue165
 t171:=Tryz.underlying210
 a171:=Tryz.isAgg210
 z171:=Tryz.sizeOf210
 v171:=Tryz.zeroValue210
 t173:=Tryz.underlying212
 a173:=Tryz.isAgg212
 z173:=Tryz.sizeOf212
 v173:=Tryz.zeroValue212
 t212:=Tryz.underlying229
 a212:=Tryz.isAgg229
 z212:=Tryz.sizeOf229
 v212:=Tryz.zeroValue229
 t213:=Tryz.underlying230
 a213:=Tryz.isAgg230
 z213:=Tryz.sizeOf230
 t232:=Tryz.underlying249
 a232:=Tryz.isAgg249
 z232:=Tryz.sizeOf249
 v232:=Tryz.zeroValue249
 t233:=Tryz.underlying250
 a233:=Tryz.isAgg250
 z233:=Tryz.sizeOf250
 v233:=Tryz.zeroValue250
 g17:=by kernel_rfl
 g18:=by kernel_rfl
 g19:=by kernel_rfl
 i0:=by kernel_rfl
 i2:=by kernel_rfl
 i3:=by kernel_rfl
 i4:=by kernel_rfl
 i5:=by kernel_rfl
 i9:=by kernel_rfl
 i20:=by kernel_rfl
 i37:=by kernel_rfl
 i46:=by kernel_rfl
 i51:=by kernel_rfl
 i53:=by kernel_rfl
 i171:=by kernel_rfl
 i173:=by kernel_rfl
 i212:=by kernel_rfl
 i232:=by kernel_rfl
 i233:=by kernel_rfl
 m17:=by kernel_rfl
 m18:=by kernel_rfl
 m19:=by kernel_rfl }
def Tryz.lays155_ren:Go.Shelf.Ren:=⟨fun | 155=>228 | 154=>244 | 138=>263 | 165=>201 | 143=>264 | 166=>202 | 197=>265 | 169=>203 | 195=>283 | 218=>284 | 240=>230 | 241=>231 | 219=>285 | 260=>286 | 276=>249 | 277=>250 | 217=>294 | 225=>295 | 224=>296 | 267=>297 | 266=>300 | 314=>301 | n=>n,fun | 9=>9 | 3=>3 | 4=>4 | 72=>173 | 0=>0 | 76=>177 | 105=>226 | 21=>21 | 5=>5 | 70=>170 | 20=>20 | 37=>171 | 75=>176 | 127=>199 | 164=>214 | 46=>135 | 119=>245 | 139=>248 | 138=>247 | 146=>252 | 51=>163 | 80=>179 | n=>n,fun | 1=>0 | 3=>2 | 4=>3 | n=>n⟩
theorem Tryz.lays155:Go.Proofs.Lays.n155 Tryz.prog Tryz.lays155_ren:={
 mixed:=by kernel_rfl
 f138:=Tryz.func263.trans (congrArg some (by kernel_rfl))
 f143:=Tryz.func264.trans (congrArg some (by kernel_rfl))
 f154:=Tryz.func244.trans (congrArg some (by kernel_rfl))
 f155:=Tryz.func228.trans (congrArg some (by kernel_rfl))
 f165:=Tryz.func201.trans (congrArg some (by kernel_rfl))
 f166:=Tryz.func202.trans (congrArg some (by kernel_rfl))
 f169:=Tryz.func203.trans (congrArg some (by kernel_rfl))
 f195:=Tryz.func283.trans (congrArg some (by kernel_rfl))
 f197:=Tryz.func265.trans (congrArg some (by kernel_rfl))
 f217:=Tryz.func294.trans (congrArg some (by kernel_rfl))
 f218:=Tryz.func284.trans (congrArg some (by kernel_rfl))
 f219:=Tryz.func285.trans (congrArg some (by kernel_rfl))
 f224:=Tryz.func296.trans (congrArg some (by kernel_rfl))
 f225:=Tryz.func295.trans (congrArg some (by kernel_rfl))
 f240:=Tryz.func230.trans (congrArg some (by kernel_rfl))
 f241:=Tryz.func231.trans (congrArg some (by kernel_rfl))
 f260:=Tryz.func286.trans (congrArg some (by kernel_rfl))
 f266:=Tryz.func300.trans (congrArg some (by kernel_rfl))
 f267:=Tryz.func297.trans (congrArg some (by kernel_rfl))
 f276:=Tryz.func249.trans (congrArg some (by kernel_rfl))
 f277:=Tryz.func250.trans (congrArg some (by kernel_rfl))
 f314:=Tryz.func301.trans (congrArg some (by kernel_rfl))
 t0:=Tryz.underlying0
 a0:=Tryz.isAgg0
 z0:=Tryz.sizeOf0
 v0:=Tryz.zeroValue0
 t3:=Tryz.underlying3
 a3:=Tryz.isAgg3
 z3:=Tryz.sizeOf3
 v3:=Tryz.zeroValue3
 t4:=Tryz.underlying4
 a4:=Tryz.isAgg4
 z4:=Tryz.sizeOf4
 v4:=Tryz.zeroValue4
 t5:=Tryz.underlying5
 a5:=Tryz.isAgg5
 z5:=Tryz.sizeOf5
 v5:=Tryz.zeroValue5
 t9:=Tryz.underlying9
 a9:=Tryz.isAgg9
 z9:=Tryz.sizeOf9
 v9:=Tryz.zeroValue9
 t20:=Tryz.underlying20
 a20:=Tryz.isAgg20
 z20:=Tryz.sizeOf20
 v20:=Tryz.zeroValue20
 t21:=Tryz.underlying21
 a21:=Tryz.isAgg21
 z21:=Tryz.sizeOf21
 v21:=Tryz.zeroValue21
 t37:=Tryz.underlying171
 a37:=Tryz.isAgg171
 z37:=Tryz.sizeOf171
 v37:=Tryz.zeroValue171
 t46:=Tryz.underlying135
 a46:=Tryz.isAgg135
 z46:=Tryz.sizeOf135
 v46:=Tryz.zeroValue135
 t51:=Tryz.underlying163
 a51:=Tryz.isAgg163
 z51:=Tryz.sizeOf163
 v51:=Tryz.zeroValue163
 t70:=Tryz.underlying170
 a70:=Tryz.isAgg170
 z70:=Tryz.sizeOf170
 v70:=Tryz.zeroValue170
 t72:=Tryz.underlying173
 a72:=Tryz.isAgg173
 z72:=Tryz.sizeOf173
 v72:=Tryz.zeroValue173
 t75:=Tryz.underlying176
 a75:=Tryz.isAgg176
 z75:=Tryz.sizeOf176
 v75:=Tryz.zeroValue176
 t76:=Tryz.underlying177
 a76:=Tryz.isAgg177
 z76:=Tryz.sizeOf177
 v76:=Tryz.zeroValue177
 t105:=Tryz.underlying226
 a105:=Tryz.isAgg226
 z105:=Tryz.sizeOf226
 v105:=Tryz.zeroValue226
 t119:=Tryz.underlying245
 a119:=Tryz.isAgg245
 z119:=Tryz.sizeOf245
 t127:=Tryz.underlying199
 a127:=Tryz.isAgg199
 z127:=Tryz.sizeOf199
 v127:=Tryz.zeroValue199
 t138:=Tryz.underlying247
 a138:=Tryz.isAgg247
 z138:=Tryz.sizeOf247
 v138:=Tryz.zeroValue247
 t139:=Tryz.underlying248
 a139:=Tryz.isAgg248
 z139:=Tryz.sizeOf248
 v139:=Tryz.zeroValue248
 t146:=Tryz.underlying252
 a146:=Tryz.isAgg252
 z146:=Tryz.sizeOf252
 v146:=Tryz.zeroValue252
 t164:=Tryz.underlying214
 a164:=Tryz.isAgg214
 z164:=Tryz.sizeOf214
 v164:=Tryz.zeroValue214
 g1:=by kernel_rfl
 g3:=by kernel_rfl
 g4:=by kernel_rfl }
theorem Tryz.Builder_Extra_155:Builder.Extra Tryz.prog Tryz.lays155_ren:={
 sizeBuilder:=by kernel_rfl
 liesBuilder:=by kernel_rfl
 t5:=Tryz.underlying5
 a5:=Tryz.isAgg5
 z5:=Tryz.sizeOf5
 v5:=Tryz.zeroValue5
 infoByte:=by kernel_rfl
 cellsByte:=by kernel_rfl
 sizeByte:=by kernel_rfl
 neB5:=by decide }
def Tryz.lays156_ren:Go.Shelf.Ren:=⟨fun | 156=>169 | 165=>201 | 166=>202 | 169=>203 | 240=>230 | 241=>231 | 276=>249 | 277=>250 | n=>n,fun | 31=>144 | 9=>9 | 3=>3 | 4=>4 | 0=>0 | 20=>20 | 72=>173 | 76=>177 | 70=>170 | 37=>171 | 75=>176 | 127=>199 | 164=>214 | 5=>5 | 80=>179 | n=>n,fun | n=>n⟩
theorem Tryz.lays156:Go.Proofs.Lays.n156 Tryz.prog Tryz.lays156_ren:={
 mixed:=by kernel_rfl
 f156:=Tryz.func169.trans (congrArg some (by kernel_rfl))
 f165:=Tryz.func201.trans (congrArg some (by kernel_rfl))
 f166:=Tryz.func202.trans (congrArg some (by kernel_rfl))
 f169:=Tryz.func203.trans (congrArg some (by kernel_rfl))
 f240:=Tryz.func230.trans (congrArg some (by kernel_rfl))
 f241:=Tryz.func231.trans (congrArg some (by kernel_rfl))
 f276:=Tryz.func249.trans (congrArg some (by kernel_rfl))
 f277:=Tryz.func250.trans (congrArg some (by kernel_rfl))
 t0:=Tryz.underlying0
 a0:=Tryz.isAgg0
 z0:=Tryz.sizeOf0
 v0:=Tryz.zeroValue0
 t3:=Tryz.underlying3
 a3:=Tryz.isAgg3
 z3:=Tryz.sizeOf3
 v3:=Tryz.zeroValue3
 t4:=Tryz.underlying4
 a4:=Tryz.isAgg4
 z4:=Tryz.sizeOf4
 v4:=Tryz.zeroValue4
 t9:=Tryz.underlying9
 a9:=Tryz.isAgg9
 z9:=Tryz.sizeOf9
 v9:=Tryz.zeroValue9
 t20:=Tryz.underlying20
 a20:=Tryz.isAgg20
 z20:=Tryz.sizeOf20
 v20:=Tryz.zeroValue20
 t31:=Tryz.underlying144
 a31:=Tryz.isAgg144
 z31:=Tryz.sizeOf144
 v31:=Tryz.zeroValue144
 t37:=Tryz.underlying171
 a37:=Tryz.isAgg171
 z37:=Tryz.sizeOf171
 v37:=Tryz.zeroValue171
 t70:=Tryz.underlying170
 a70:=Tryz.isAgg170
 z70:=Tryz.sizeOf170
 v70:=Tryz.zeroValue170
 t72:=Tryz.underlying173
 a72:=Tryz.isAgg173
 z72:=Tryz.sizeOf173
 v72:=Tryz.zeroValue173
 t75:=Tryz.underlying176
 a75:=Tryz.isAgg176
 z75:=Tryz.sizeOf176
 v75:=Tryz.zeroValue176
 t76:=Tryz.underlying177
 a76:=Tryz.isAgg177
 z76:=Tryz.sizeOf177
 v76:=Tryz.zeroValue177
 t127:=Tryz.underlying199
 a127:=Tryz.isAgg199
 z127:=Tryz.sizeOf199
 v127:=Tryz.zeroValue199
 t164:=Tryz.underlying214
 a164:=Tryz.isAgg214
 z164:=Tryz.sizeOf214
 v164:=Tryz.zeroValue214 }
theorem Tryz.Builder_Extra_156:Builder.Extra Tryz.prog Tryz.lays156_ren:={
 sizeBuilder:=by kernel_rfl
 liesBuilder:=by kernel_rfl
 t5:=Tryz.underlying5
 a5:=Tryz.isAgg5
 z5:=Tryz.sizeOf5
 v5:=Tryz.zeroValue5
 infoByte:=by kernel_rfl
 cellsByte:=by kernel_rfl
 sizeByte:=by kernel_rfl
 neB5:=by decide }
end Go.Proofs
namespace Go.Proofs.YtljlfiomikifjaaGreatDoor
open Go Go.Ab
def strings_Compare (s p:ByteArray):Bool×Int:=zLF s p
def strings_Compare_spec:Ab.Spec ty:=zh (cx:=base) (zd (ze vStr) (zd (ze vStr) aNil)) fun x=>((strings_Compare x.1 x.2.1).1,⟨[.pure (.lit (.int .i64 (strings_Compare x.1 x.2.1).2))],[]⟩)
theorem zPZ:SdP 160 strings_Compare_spec:=z5Z zi Go.Proofs.Tryz.lays106 Tryz.call160
end Go.Proofs.YtljlfiomikifjaaGreatDoor
namespace Go.Proofs.YtljlfiomikifjaaGreatDoor
open Go Go.Ab
def z0i:Cx ty:=mkCx base 22 [(120,zk9),(121,zla),(138,zmZ),(160,strings_Compare_spec)] [] [] [] [] []
def zNk (a:Value) (b:Value):Wy0 (Int):=.bn (zd6 a.Kind b.Kind) fun r2=>.bn (zi6 a.Int b.Int) fun r1=>.bn (zm3 [r2,r1,(strings_Compare a.Text b.Text).2]) fun r0=>.k r0
def zta (a:Value) (b:Value):Bool×Int:=(zNk a b).fin default
def z2z:AL base (Value×Value×Unit):=zd (ze (vAgg 65)) (zd (ze (vAgg 65)) aNil)
def zzG:Ab.Spec ty:=zh z2z fun x=>((zta x.1 x.2.1).1,zO3 (zta x.1 x.2.1).2)
theorem zE7:SdP 125 zzG:=
 sW (cx':=z0i) zq zi zl (zj ⟨zmI,zn5,zsw,zPZ,trivial⟩) Tryz.call125 Tryz.func125 (c:=body Tryz.f125) (lOK aN)
def zFI (zA:yC→yC→Bool×Int) (zx:yA→yA→Bool×Int) (zD:yE→yE→Bool×Int) (zF:Weighted→Weighted→Bool×Int):Cx ty:=mkCx base 51 [(67,(zep zA)),(120,zk9),(121,zla),(122,(zbs zx)),(123,(zbK zD)),(124,(zem zF)),(125,zzG)] [] [] [] [] []
def zwx (zA:yC→yC→Bool×Int) (zx:yA→yA→Bool×Int) (zD:yE→yE→Bool×Int) (zF:Weighted→Weighted→Bool×Int) (a:Atom) (b:Atom):Wy0 (Int):=.bn (zd6 a.Kind b.Kind) fun r8=>.bn (zd6 a.Row.Table b.Row.Table) fun r7=>.bn (zd6 a.Row.Seq b.Row.Seq) fun r6=>.bn (zx a.Args b.Args) fun r5=>.bn (zd6 a.Func b.Func) fun r4=>.bn (zD a.Items b.Items) fun r3=>.bn (zd6 a.Op b.Op) fun r2=>.bn (zta a.Bound b.Bound) fun r1=>.bn (zm3 [r8,r7,r6,r5,r4,r3,r2,r1]) fun r0=>.k r0
def zkH (zA:yC→yC→Bool×Int) (zx:yA→yA→Bool×Int) (zD:yE→yE→Bool×Int) (zF:Weighted→Weighted→Bool×Int) (a:Atom) (b:Atom):Bool×Int:=(zwx zA zx zD zF a b).fin default
theorem zDu (zA:yC→yC→Bool×Int) (zx:yA→yA→Bool×Int) (zD:yE→yE→Bool×Int) (zF:Weighted→Weighted→Bool×Int) (zjC:SdP 67 (zep zA)) (zfG:SdP 122 (zbs zx)) (zgP:SdP 123 (zbK zD)) (znj:SdP 124 (zem zF)):SdP 65 (zgZ (zkH zA zx zD zF)):=
 sW (cx':=(zFI zA zx zD zF)) zq zi zl (zj ⟨zjC,zmI,zn5,zfG,zgP,znj,zE7,trivial⟩) Tryz.call65 Tryz.func65 (c:=body Tryz.f65) (lOK aN)
def zD7 (zcS:Atom→Atom→Bool×Int):Cx ty:=mkCx base 17 [(65,(zgZ zcS)),(120,zk9),(121,zla)] [] [] [] [] []
def zuL (zcS:Atom→Atom→Bool×Int) (a:Factor) (b:Factor):Wy0 (Int):=.bn (zcS (Atom.mk a.Atom.Kind a.Atom.Row a.Atom.Args a.Atom.Func a.Atom.Items a.Atom.Op a.Atom.Bound) (Atom.mk b.Atom.Kind b.Atom.Row b.Atom.Args b.Atom.Func b.Atom.Items b.Atom.Op b.Atom.Bound)) fun r2=>.bn (zd6 a.Exp b.Exp) fun r1=>.bn (zm3 [r2,r1]) fun r0=>.k r0
def zjk (zcS:Atom→Atom→Bool×Int) (a:Factor) (b:Factor):Bool×Int:=(zuL zcS a b).fin default
theorem zBT (zcS:Atom→Atom→Bool×Int) (zHB:SdP 65 (zgZ zcS)):SdP 119 (zeG (zjk zcS)):=
 sW (cx':=(zD7 zcS)) zq zi zl (zj ⟨zHB,zmI,zn5,trivial⟩) Tryz.call119 Tryz.func119 (c:=body Tryz.f119) (lOK aN)
def zFU (zA:yC→yC→Bool×Int):Cx ty:=mkCx base 17 [(67,(zep zA)),(120,zk9),(125,zzG)] [] [] [] [] []
def zwB (zA:yC→yC→Bool×Int) (a:Weighted) (b:Weighted):Wy0 (Int):=.bn (zta a.Value b.Value) fun r2=>.bn (zA a.Ann b.Ann) fun r1=>.bn (zm3 [r2,r1]) fun r0=>.k r0
def zkN (zA:yC→yC→Bool×Int) (a:Weighted) (b:Weighted):Bool×Int:=(zwB zA a b).fin default
theorem zDq (zA:yC→yC→Bool×Int) (zjC:SdP 67 (zep zA)):SdP 124 (zem (zkN zA)):=
 sW (cx':=(zFU zA)) zq zi zl (zj ⟨zjC,zmI,zE7,trivial⟩) Tryz.call124 Tryz.func124 (c:=body Tryz.f124) (lOK aN)
def zGh (zP:yD→yD→Bool×Int) (zy:Factor→Factor→Bool×Int):Cx ty:=mkCx base 10 [(118,(zbY zP)),(119,(zeG zy))] [] [] [] [] []
def zww (zP:yD→yD→Bool×Int) (zy:Factor→Factor→Bool×Int) (a:Term) (b:Term):Wy0 (Int):=.bn (zP a.Factors b.Factors) fun r0=>.k r0
def zkF (zP:yD→yD→Bool×Int) (zy:Factor→Factor→Bool×Int) (a:Term) (b:Term):Bool×Int:=(zww zP zy a b).fin default
theorem zDn (zP:yD→yD→Bool×Int) (zy:Factor→Factor→Bool×Int) (zi5:SdP 118 (zbY zP)) (zl4:SdP 119 (zeG zy)):SdP 63 (zf1 (zkF zP zy)):=
 sW (cx':=(zGh zP zy)) zq zi zl (zj ⟨zi5,zl4,trivial⟩) Tryz.call63 Tryz.func63 (c:=body Tryz.f63) (lOK aN)
abbrev zbi:=yA×yA×Unit×yA×Int×Int×Unit
abbrev zbE:=Int⊕(yA×yA)
def zfs (zA:yC→yC→Bool×Int) (s1:yA) (s2:yA) (t11:yA) (t12:Int) (t13:Int):Wy zbi (Unit) zbE:=.i (decide (t13<t12)) (.i (decide (0≤t13)&&decide (t13<Int.ofNat t11.length)) (.i (decide (t13≥Int.ofNat s2.length)) (.k (.inl 1)) (.i (decide (0≤t13)&&decide (t13<Int.ofNat s2.length)) (.bn (zA (t11.getD t13.toNat default) (s2.getD t13.toNat default)) fun r0=>.i (r0 != 0) (.k (.inl (r0))) (.h (s1,s2,(),t11,t12,(IntKind.i64.wrap (t13+1)),()) ())) .d)) .d) (.k (.inr (s1,s2)))
def zcH (zA:yC→yC→Bool×Int) (x:zbi) (y:Unit):Wy zbi (Unit) zbE:=zfs zA x.1 x.2.1 x.2.2.2.1 x.2.2.2.2.1 x.2.2.2.2.2.1
def zft (zA:yC→yC→Bool×Int) (n:Nat) (s1:yA) (s2:yA) (t11:yA) (t12:Int) (t13:Int):Bool×zbE:=zI (zcH zA) (.inl default) n (s1,s2,(),t11,t12,t13,()) ()
def zfe (r:zbE):LTree ty:=.ite (isL r) (.done .ret [.lit (.int .i64 (getL r))] []) (.done (.exit 0) [.sl 23 (getR r).1,.sl 23 (getR r).2] [])
def zfk:LL ty zbi:=za (lSl 23) (za (lSl 23) (za (lFn 67 (zp)) (za (lSl 23) (za lI64 (za lI64 zp)))))
def zfh (x:zbi) (y:Unit):Nat:=(x.1.length+x.2.1.length+x.2.2.2.1.length+Int.toNat x.2.2.2.2.1+Int.toNat x.2.2.2.2.2.1+1)
def zcF (zA:yC→yC→Bool×Int):Cx ty:=mkCx base 39 [(67,(zep zA))] [] [(2,(kpL [0,1,2,11,12,13]))] [(2,1,(kpL [0,1])),(2,0,(kpL [6]))] [(2,spW zfk z5G (zcH zA) (.inl default) zfe zfh)] []
theorem zfg (zA:yC→yC→Bool×Int):zL (zcF zA) (lp (body Tryz.f122) 0):=zw (id:=2) (hl:=rfl)
def zfu (zA:yC→yC→Bool×Int) (s1:yA) (s2:yA):Wy0 (Int):=.bn (zft zA (s1.length+s2.length+s1.length+(Int.ofNat s1.length).toNat +Int.toNat 0+1) s1 s2 s1 (Int.ofNat s1.length) 0) fun r2=>.i (isL r2) (.k (getL r2)) (.i (decide (Int.ofNat (getR r2).1.length<Int.ofNat (getR r2).2.length)) (.k (-1:Int)) (.k 0))
def zbr (zA:yC→yC→Bool×Int) (s1:yA) (s2:yA):Bool×Int:=(zfu zA s1 s2).fin default
theorem zeZ (zA:yC→yC→Bool×Int) (zjC:SdP 67 (zep zA)):SdP 122 (zbs (zbr zA)):=
 sW (cx':=(zcF zA)) zq zi zl (zj ⟨zjC,trivial⟩) Tryz.call122 Tryz.func122 (c:=body Tryz.f122) (lOK (aC (zfg zA) aN))
abbrev zbO:=yD×yD×Unit×yD×Int×Int×Unit
abbrev zb7:=Int⊕(yD×yD)
def zeg (zy:Factor→Factor→Bool×Int) (s1:yD) (s2:yD) (t11:yD) (t12:Int) (t13:Int):Wy zbO (Unit) zb7:=.i (decide (t13<t12)) (.i (decide (0≤t13)&&decide (t13<Int.ofNat t11.length)) (.i (decide (t13≥Int.ofNat s2.length)) (.k (.inl 1)) (.i (decide (0≤t13)&&decide (t13<Int.ofNat s2.length)) (.bn (zy (FactorOf.mk (Atom.mk (t11.getD t13.toNat default).Atom.Kind (t11.getD t13.toNat default).Atom.Row (t11.getD t13.toNat default).Atom.Args (t11.getD t13.toNat default).Atom.Func (t11.getD t13.toNat default).Atom.Items (t11.getD t13.toNat default).Atom.Op (t11.getD t13.toNat default).Atom.Bound) (t11.getD t13.toNat default).Exp) (FactorOf.mk (Atom.mk (s2.getD t13.toNat default).Atom.Kind (s2.getD t13.toNat default).Atom.Row (s2.getD t13.toNat default).Atom.Args (s2.getD t13.toNat default).Atom.Func (s2.getD t13.toNat default).Atom.Items (s2.getD t13.toNat default).Atom.Op (s2.getD t13.toNat default).Atom.Bound) (s2.getD t13.toNat default).Exp)) fun r0=>.i (r0 != 0) (.k (.inl (r0))) (.h (s1,s2,(),t11,t12,(IntKind.i64.wrap (t13+1)),()) ())) .d)) .d) (.k (.inr (s1,s2)))
def zbR (zy:Factor→Factor→Bool×Int) (x:zbO) (y:Unit):Wy zbO (Unit) zb7:=zeg zy x.1 x.2.1 x.2.2.2.1 x.2.2.2.2.1 x.2.2.2.2.2.1
def zed (zy:Factor→Factor→Bool×Int) (n:Nat) (s1:yD) (s2:yD) (t11:yD) (t12:Int) (t13:Int):Bool×zb7:=zI (zbR zy) (.inl default) n (s1,s2,(),t11,t12,t13,()) ()
def ziz (r:zb7):LTree ty:=.ite (isL r) (.done .ret [.lit (.int .i64 (getL r))] []) (.done (.exit 0) [.sl 69 (getR r).1,.sl 69 (getR r).2] [])
def ziV:LL ty zbO:=za (lSl 69) (za (lSl 69) (za (lFn 119 (zp)) (za (lSl 69) (za lI64 (za lI64 zp)))))
def zio (x:zbO) (y:Unit):Nat:=(x.1.length+x.2.1.length+x.2.2.2.1.length+Int.toNat x.2.2.2.2.1+Int.toNat x.2.2.2.2.2.1+1)
def zee (zy:Factor→Factor→Bool×Int):Cx ty:=mkCx base 39 [(119,(zeG zy))] [] [(2,(kpL [0,1,2,11,12,13]))] [(2,1,(kpL [0,1])),(2,0,(kpL [6]))] [(2,spW ziV z5G (zbR zy) (.inl default) ziz zio)] []
theorem ziw (zy:Factor→Factor→Bool×Int):zL (zee zy) (lp (body Tryz.f118) 0):=zw (id:=2) (hl:=rfl)
def zej (zy:Factor→Factor→Bool×Int) (s1:yD) (s2:yD):Wy0 (Int):=.bn (zed zy (s1.length+s2.length+s1.length+(Int.ofNat s1.length).toNat +Int.toNat 0+1) s1 s2 s1 (Int.ofNat s1.length) 0) fun r2=>.i (isL r2) (.k (getL r2)) (.i (decide (Int.ofNat (getR r2).1.length<Int.ofNat (getR r2).2.length)) (.k (-1:Int)) (.k 0))
def zby (zy:Factor→Factor→Bool×Int) (s1:yD) (s2:yD):Bool×Int:=(zej zy s1 s2).fin default
theorem zhG (zy:Factor→Factor→Bool×Int) (zl4:SdP 119 (zeG zy)):SdP 118 (zbY (zby zy)):=
 sW (cx':=(zee zy)) zq zi zl (zj ⟨zl4,trivial⟩) Tryz.call118 Tryz.func118 (c:=body Tryz.f118) (lOK (aC (ziw zy) aN))
abbrev zbv:=yE×yE×Unit×yE×Int×Int×Unit
abbrev zbV:=Int⊕(yE×yE)
def zgB (zF:Weighted→Weighted→Bool×Int) (s1:yE) (s2:yE) (t11:yE) (t12:Int) (t13:Int):Wy zbv (Unit) zbV:=.i (decide (t13<t12)) (.i (decide (0≤t13)&&decide (t13<Int.ofNat t11.length)) (.i (decide (t13≥Int.ofNat s2.length)) (.k (.inl 1)) (.i (decide (0≤t13)&&decide (t13<Int.ofNat s2.length)) (.bn (zF (t11.getD t13.toNat default) (s2.getD t13.toNat default)) fun r0=>.i (r0 != 0) (.k (.inl (r0))) (.h (s1,s2,(),t11,t12,(IntKind.i64.wrap (t13+1)),()) ())) .d)) .d) (.k (.inr (s1,s2)))
def zdn (zF:Weighted→Weighted→Bool×Int) (x:zbv) (y:Unit):Wy zbv (Unit) zbV:=zgB zF x.1 x.2.1 x.2.2.2.1 x.2.2.2.2.1 x.2.2.2.2.2.1
def zgu (zF:Weighted→Weighted→Bool×Int) (n:Nat) (s1:yE) (s2:yE) (t11:yE) (t12:Int) (t13:Int):Bool×zbV:=zI (zdn zF) (.inl default) n (s1,s2,(),t11,t12,t13,()) ()
def zgd (r:zbV):LTree ty:=.ite (isL r) (.done .ret [.lit (.int .i64 (getL r))] []) (.done (.exit 0) [.sl 100 (getR r).1,.sl 100 (getR r).2] [])
def zgA:LL ty zbv:=za (lSl 100) (za (lSl 100) (za (lFn 124 (zp)) (za (lSl 100) (za lI64 (za lI64 zp)))))
def zgn (x:zbv) (y:Unit):Nat:=(x.1.length+x.2.1.length+x.2.2.2.1.length+Int.toNat x.2.2.2.2.1+Int.toNat x.2.2.2.2.2.1+1)
def zdp (zF:Weighted→Weighted→Bool×Int):Cx ty:=mkCx base 39 [(124,(zem zF))] [] [(2,(kpL [0,1,2,11,12,13]))] [(2,1,(kpL [0,1])),(2,0,(kpL [6]))] [(2,spW zgA z5G (zdn zF) (.inl default) zgd zgn)] []
theorem zgj (zF:Weighted→Weighted→Bool×Int):zL (zdp zF) (lp (body Tryz.f123) 0):=zw (id:=2) (hl:=rfl)
def zgS (zF:Weighted→Weighted→Bool×Int) (s1:yE) (s2:yE):Wy0 (Int):=.bn (zgu zF (s1.length+s2.length+s1.length+(Int.ofNat s1.length).toNat +Int.toNat 0+1) s1 s2 s1 (Int.ofNat s1.length) 0) fun r2=>.i (isL r2) (.k (getL r2)) (.i (decide (Int.ofNat (getR r2).1.length<Int.ofNat (getR r2).2.length)) (.k (-1:Int)) (.k 0))
def zbH (zF:Weighted→Weighted→Bool×Int) (s1:yE) (s2:yE):Bool×Int:=(zgS zF s1 s2).fin default
theorem zf6 (zF:Weighted→Weighted→Bool×Int) (znj:SdP 124 (zem zF)):SdP 123 (zbK (zbH zF)):=
 sW (cx':=(zdp zF)) zq zi zl (zj ⟨znj,trivial⟩) Tryz.call123 Tryz.func123 (c:=body Tryz.f123) (lOK (aC (zgj zF) aN))
abbrev zbL:=yC×yC×Unit×yC×Int×Int×Unit
abbrev zb4:=Int⊕(yC×yC)
def zh8 (zM:Term→Term→Bool×Int) (s1:yC) (s2:yC) (t11:yC) (t12:Int) (t13:Int):Wy zbL (Unit) zb4:=.i (decide (t13<t12)) (.i (decide (0≤t13)&&decide (t13<Int.ofNat t11.length)) (.i (decide (t13≥Int.ofNat s2.length)) (.k (.inl 1)) (.i (decide (0≤t13)&&decide (t13<Int.ofNat s2.length)) (.bn (zM (t11.getD t13.toNat default) (s2.getD t13.toNat default)) fun r0=>.i (r0 != 0) (.k (.inl (r0))) (.h (s1,s2,(),t11,t12,(IntKind.i64.wrap (t13+1)),()) ())) .d)) .d) (.k (.inr (s1,s2)))
def zd2 (zM:Term→Term→Bool×Int) (x:zbL) (y:Unit):Wy zbL (Unit) zb4:=zh8 zM x.1 x.2.1 x.2.2.2.1 x.2.2.2.2.1 x.2.2.2.2.2.1
def zib (zM:Term→Term→Bool×Int) (n:Nat) (s1:yC) (s2:yC) (t11:yC) (t12:Int) (t13:Int):Bool×zb4:=zI (zd2 zM) (.inl default) n (s1,s2,(),t11,t12,t13,()) ()
def zh3 (r:zb4):LTree ty:=.ite (isL r) (.done .ret [.lit (.int .i64 (getL r))] []) (.done (.exit 0) [.sl 28 (getR r).1,.sl 28 (getR r).2] [])
def zh7:LL ty zbL:=za (lSl 28) (za (lSl 28) (za (lFn 137 (zp)) (za (lSl 28) (za lI64 (za lI64 zp)))))
def zhK (x:zbL) (y:Unit):Nat:=(x.1.length+x.2.1.length+x.2.2.2.1.length+Int.toNat x.2.2.2.2.1+Int.toNat x.2.2.2.2.2.1+1)
def zd3 (zM:Term→Term→Bool×Int):Cx ty:=mkCx base 39 [(137,(zf1 zM))] [] [(2,(kpL [0,1,2,11,12,13]))] [(2,1,(kpL [0,1])),(2,0,(kpL [6]))] [(2,spW zh7 z5G (zd2 zM) (.inl default) zh3 zhK)] []
theorem zhA (zM:Term→Term→Bool×Int):zL (zd3 zM) (lp (body Tryz.f136) 0):=zw (id:=2) (hl:=rfl)
def ziB (zM:Term→Term→Bool×Int) (s1:yC) (s2:yC):Wy0 (Int):=.bn (zib zM (s1.length+s2.length+s1.length+(Int.ofNat s1.length).toNat +Int.toNat 0+1) s1 s2 s1 (Int.ofNat s1.length) 0) fun r2=>.i (isL r2) (.k (getL r2)) (.i (decide (Int.ofNat (getR r2).1.length<Int.ofNat (getR r2).2.length)) (.k (-1:Int)) (.k 0))
def zbS (zM:Term→Term→Bool×Int) (s1:yC) (s2:yC):Bool×Int:=(ziB zM s1 s2).fin default
theorem zhg (zM:Term→Term→Bool×Int) (zpC:SdP 137 (zf1 zM)):SdP 136 (zbU (zbS zM)):=
 sW (cx':=(zd3 zM)) zq zi zl (zj ⟨zpC,trivial⟩) Tryz.call136 Tryz.func136 (c:=body Tryz.f136) (lOK (aC (zhA zM) aN))
def zcc:Nat→(yC→yC→Bool×Int)×(Term→Term→Bool×Int)×(Term→Term→Bool×Int)×(Factor→Factor→Bool×Int)×(Atom→Atom→Bool×Int)×(Weighted→Weighted→Bool×Int)×(yC→yC→Bool×Int)×(yD→yD→Bool×Int)×(yA→yA→Bool×Int)×(yE→yE→Bool×Int)
 | 0=>(fun _ _=>(false,default),fun _ _=>(false,default),fun _ _=>(false,default),fun _ _=>(false,default),fun _ _=>(false,default),fun _ _=>(false,default),fun _ _=>(false,default),fun _ _=>(false,default),fun _ _=>(false,default),fun _ _=>(false,default))
 | n+1=>(zpv ((zcc n).2.2.2.2.2.2.1) ((zcc n).2.1),zl9 ((zcc n).2.2.1),zkF ((zcc n).2.2.2.2.2.2.2.1) ((zcc n).2.2.2.1),zjk ((zcc n).2.2.2.2.1),zkH ((zcc n).1) ((zcc n).2.2.2.2.2.2.2.2.1) ((zcc n).2.2.2.2.2.2.2.2.2) ((zcc n).2.2.2.2.2.1),zkN ((zcc n).1),zbS ((zcc n).2.1),zby ((zcc n).2.2.2.1),zbr ((zcc n).1),zbH ((zcc n).2.2.2.2.2.1))
def zf4 (n:Nat):yC→yC→Bool×Int:=(zcc n).1
def ziU (n:Nat):Term→Term→Bool×Int:=(zcc n).2.1
def zha (n:Nat):Term→Term→Bool×Int:=(zcc n).2.2.1
def zfU (n:Nat):Factor→Factor→Bool×Int:=(zcc n).2.2.2.1
def zg0 (n:Nat):Atom→Atom→Bool×Int:=(zcc n).2.2.2.2.1
def ze9 (n:Nat):Weighted→Weighted→Bool×Int:=(zcc n).2.2.2.2.2.1
def zbT (n:Nat):yC→yC→Bool×Int:=(zcc n).2.2.2.2.2.2.1
def zbW (n:Nat):yD→yD→Bool×Int:=(zcc n).2.2.2.2.2.2.2.1
def zbq (n:Nat):yA→yA→Bool×Int:=(zcc n).2.2.2.2.2.2.2.2.1
def zbJ (n:Nat):yE→yE→Bool×Int:=(zcc n).2.2.2.2.2.2.2.2.2
theorem zMH (n:Nat):zf4 (n+1)=zpv (zbT n) (ziU n):=rfl
theorem zHZ (n:Nat):ziU (n+1)=zl9 (zha n):=rfl
theorem zGg (n:Nat):zha (n+1)=zkF (zbW n) (zfU n):=rfl
theorem zEt (n:Nat):zfU (n+1)=zjk (zg0 n):=rfl
theorem zFt (n:Nat):zg0 (n+1)=zkH (zf4 n) (zbq n) (zbJ n) (ze9 n):=rfl
theorem zFF (n:Nat):ze9 (n+1)=zkN (zf4 n):=rfl
theorem zh9 (n:Nat):zbT (n+1)=zbS (ziU n):=rfl
theorem ziL (n:Nat):zbW (n+1)=zby (zfU n):=rfl
theorem zfr (n:Nat):zbq (n+1)=zbr (zf4 n):=rfl
theorem zgy (n:Nat):zbJ (n+1)=zbH (ze9 n):=rfl
theorem zye:∀ n,SdP 67 (zep (zf4 n))∧SdP 137 (zf1 (ziU n))∧SdP 63 (zf1 (zha n))∧SdP 119 (zeG (zfU n))∧SdP 65 (zgZ (zg0 n))∧SdP 124 (zem (ze9 n))∧SdP 136 (zbU (zbT n))∧SdP 118 (zbY (zbW n))∧SdP 122 (zbs (zbq n))∧SdP 123 (zbK (zbJ n))
 | 0=>⟨z6 Tryz.call67 (fun _=>rfl),z6 Tryz.call137 (fun _=>rfl),z6 Tryz.call63 (fun _=>rfl),z6 Tryz.call119 (fun _=>rfl),z6 Tryz.call65 (fun _=>rfl),z6 Tryz.call124 (fun _=>rfl),z6 Tryz.call136 (fun _=>rfl),z6 Tryz.call118 (fun _=>rfl),z6 Tryz.call122 (fun _=>rfl),z6 Tryz.call123 (fun _=>rfl)⟩
 | n+1=>by
  have ih:=zye n;exact ⟨zH6 _ _ (ih.2.2.2.2.2.2.1) (ih.2.1),zEM _ (ih.2.2.1),zDn _ _ (ih.2.2.2.2.2.2.2.1) (ih.2.2.2.1),zBT _ (ih.2.2.2.2.1),zDu _ _ _ _ (ih.1) (ih.2.2.2.2.2.2.2.2.1) (ih.2.2.2.2.2.2.2.2.2) (ih.2.2.2.2.2.1),zDq _ (ih.1),zhg _ (ih.2.1),zhG _ (ih.2.2.2.1),zeZ _ (ih.1),zf6 _ (ih.2.2.2.2.2.1)⟩
def zAv:yC→yC→Bool×Int:=zf4 1000
def annotation_Compare_spec:Ab.Spec ty:=zep zAv
theorem zK9:SdP 67 annotation_Compare_spec:=(zye 1000).1
def zb1:Term→Term→Bool×Int:=zha 1000
def annotation_compareLists_spec:Ab.Spec ty:=zf1 zb1
theorem zl3:SdP 63 annotation_compareLists_spec:=(zye 1000).2.2.1
def ziT:Atom→Atom→Bool×Int:=zg0 1000
def annotation_compareAtoms_spec:Ab.Spec ty:=zgZ ziT
theorem zuK:SdP 65 annotation_compareAtoms_spec:=(zye 1000).2.2.2.2.1
def zbe:Weighted→Weighted→Bool×Int:=ze9 1000
def annotation_compareItems_spec:Ab.Spec ty:=zem zbe
theorem zhz:SdP 124 annotation_compareItems_spec:=(zye 1000).2.2.2.2.2.1
def zVO:AL base (yC×Unit):=zd (ze (vSl 28)) aNil
def zhW (F:yC→Bool×Bool):Ab.Spec ty:=zh zVO fun x=>((F x.1).1,zTP (F x.1).2)
def zBO:AL base (Atom×Unit):=zd (ze (vAgg 67)) aNil
def zmY (F:Atom→Bool×Bool):Ab.Spec ty:=zh zBO fun x=>((F x.1).1,zTP (F x.1).2)
def zJg:AL base (Weighted×Unit):=zd (ze (vAgg 100)) aNil
def zdA (F:Weighted→Bool×Bool):Ab.Spec ty:=zh zJg fun x=>((F x.1).1,zTP (F x.1).2)
def zoj:AL base (yA×Unit×Unit):=zd (ze (vSl 23)) (zd (ze (vFn 127 vNil)) aNil)
def zcA (F:yA→Bool×Int):Ab.Spec ty:=zh zoj fun x=>((F x.1).1,zO3 (F x.1).2)
def zco (F:yA→Bool×Bool):Ab.Spec ty:=zh zoj fun x=>((F x.1).1,zTP (F x.1).2)
def zrs:AL base (yE×Unit×Unit):=zd (ze (vSl 100)) (zd (ze (vFn 133 vNil)) aNil)
def zc5 (F:yE→Bool×Int):Ab.Spec ty:=zh zrs fun x=>((F x.1).1,zO3 (F x.1).2)
def zcE (F:yE→Bool×Bool):Ab.Spec ty:=zh zrs fun x=>((F x.1).1,zTP (F x.1).2)
def zLg:Cx ty:=mkCx base 11 [] [] [] [] [] []
def zA6 (x_:Atom):Wy0 (Bool):=.i (x_.Kind==3) (.k true) (.k (x_.Kind==4))
def zfC (x_:Atom):Bool×Bool:=(zA6 x_).fin default
def zjT:Ab.Spec ty:=zh zBO fun x=>((zfC x.1).1,zTP (zfC x.1).2)
theorem znv:SdP 64 zjT:=
 sW (cx':=zLg) zq zi zl (zj trivial) Tryz.call64 Tryz.func64 (c:=body Tryz.f64) (lOK aN)
def zoI (F:yC→Bool×Int):Ab.Spec ty:=zh zVO fun x=>((F x.1).1,zO3 (F x.1).2)
end Go.Proofs.YtljlfiomikifjaaGreatDoor
end
