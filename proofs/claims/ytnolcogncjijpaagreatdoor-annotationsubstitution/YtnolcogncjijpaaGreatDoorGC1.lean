/- Texts of this claim, joined (the program, its functions in plain words, and what they compute). -/
import Derived.KernelRfl
import Derived.Shelf.Strconv.Itoa3
import Derived.Stop.LaidErr
import Derived.Shelf.Vars
import Derived.Shelf.SlSortCmp.NoneTotal
import Derived.Shelf.Strings.OnBuilder
import Derived.Shelf.Strconv.Itoa4
import Derived.Shelf.Small.Strs
import Derived.Shelf.Strings.Replace
import Derived.Shelf.Small.Bits
import Derived.Test.YtnolcogncjijpaaGreatDoorChecked
import Derived.Test.YtnolcogncjijpaaGreatDoorRows
import Derived.Test.YtnolcogncjijpaaGreatDoorProg
import Derived.Test.YtnolcogncjijpaaGreatDoorGA2
import Derived.Test.YtnolcogncjijpaaGreatDoorGB1
set_option autoImplicit false
set_option linter.unusedVariables false
set_option linter.unusedSectionVars false
set_option linter.unusedSimpArgs false
set_option maxRecDepth 1000000
set_option maxHeartbeats 0
/- The types of the program, as plain data. -/
noncomputable section
namespace Go.Proofs.YtnolcogncjijpaaGreatDoor
open Go Go.Ab
open Go.Proofs Go.Shelf
structure RowID where
 Table:Int
 Seq:Int
 deriving DecidableEq,Inhabited
structure Value where
 Kind:Int
 Int:Int
 Text:ByteArray
 deriving DecidableEq,Inhabited
structure FactorOf (A:Type) where
 Atom:A
 Exp:Int
structure TermOf (A:Type) where
 Coeff:Int
 Factors:List (FactorOf A)
structure WeightedOf (A:Type) where
 Value:Value
 Ann:List (TermOf A)
structure Atom where
 Kind:Int
 Row:RowID
 Args:List (List (TermOf Atom))
 Func:Int
 Items:List (WeightedOf Atom)
 Op:Int
 Bound:Value
abbrev Factor:=FactorOf Atom
abbrev Term:=TermOf Atom
abbrev Weighted:=WeightedOf Atom
instance:Inhabited Atom:=⟨⟨0,default,[],0,[],0,default⟩⟩
instance:Inhabited Factor:=⟨⟨default,0⟩⟩
instance:Inhabited Term:=⟨⟨0,[]⟩⟩
instance:Inhabited Weighted:=⟨⟨default,[]⟩⟩
theorem Atom.eta (x:Atom):(⟨x.Kind,x.Row,x.Args,x.Func,x.Items,x.Op,x.Bound⟩:Atom)=x:=by cases x; rfl
mutual
def zUt:(x y:Atom)→Decidable (x=y)
 | ⟨k,r,a,f,i,o,b⟩,⟨k',r',a',f',i',o',b'⟩=>
  match decEq k k',decEq r r',zUB a a',decEq f f',zSO i i',decEq o o',decEq b b' with
  | .isTrue h1,.isTrue h2,.isTrue h3,.isTrue h4,.isTrue h5,.isTrue h6,.isTrue h7=>.isTrue (by subst h1 h2 h3 h4 h5 h6 h7; rfl)
  | .isFalse h,_,_,_,_,_,_=>.isFalse (fun e=>by cases e; exact h rfl)
  | _,.isFalse h,_,_,_,_,_=>.isFalse (fun e=>by cases e; exact h rfl)
  | _,_,.isFalse h,_,_,_,_=>.isFalse (fun e=>by cases e; exact h rfl)
  | _,_,_,.isFalse h,_,_,_=>.isFalse (fun e=>by cases e; exact h rfl)
  | _,_,_,_,.isFalse h,_,_=>.isFalse (fun e=>by cases e; exact h rfl)
  | _,_,_,_,_,.isFalse h,_=>.isFalse (fun e=>by cases e; exact h rfl)
  | _,_,_,_,_,_,.isFalse h=>.isFalse (fun e=>by cases e; exact h rfl)
def zRa:(x y:Factor)→Decidable (x=y)
 | ⟨a,e⟩,⟨a',e'⟩=>match zUt a a',decEq e e' with
  | .isTrue h1,.isTrue h2=>.isTrue (by subst h1 h2; rfl)
  | .isFalse h,_=>.isFalse (fun e=>by cases e; exact h rfl)
  | _,.isFalse h=>.isFalse (fun e=>by cases e; exact h rfl)
def zPN:(x y:List Factor)→Decidable (x=y)
 | [],[]=>.isTrue rfl
 | [],_::_=>.isFalse (by simp)
 | _::_,[]=>.isFalse (by simp)
 | x::r,y::s=>match zRa x y,zPN r s with
  | .isTrue h1,.isTrue h2=>.isTrue (by subst h1 h2; rfl)
  | .isFalse h,_=>.isFalse (fun e=>by cases e; exact h rfl)
  | _,.isFalse h=>.isFalse (fun e=>by cases e; exact h rfl)
def zUe:(x y:Term)→Decidable (x=y)
 | ⟨a,e⟩,⟨a',e'⟩=>match decEq a a',zPN e e' with
  | .isTrue h1,.isTrue h2=>.isTrue (by subst h1 h2; rfl)
  | .isFalse h,_=>.isFalse (fun e=>by cases e; exact h rfl)
  | _,.isFalse h=>.isFalse (fun e=>by cases e; exact h rfl)
def zTw:(x y:List Term)→Decidable (x=y)
 | [],[]=>.isTrue rfl
 | [],_::_=>.isFalse (by simp)
 | _::_,[]=>.isFalse (by simp)
 | x::r,y::s=>match zUe x y,zTw r s with
  | .isTrue h1,.isTrue h2=>.isTrue (by subst h1 h2; rfl)
  | .isFalse h,_=>.isFalse (fun e=>by cases e; exact h rfl)
  | _,.isFalse h=>.isFalse (fun e=>by cases e; exact h rfl)
def zUB:(x y:List (List Term))→Decidable (x=y)
 | [],[]=>.isTrue rfl
 | [],_::_=>.isFalse (by simp)
 | _::_,[]=>.isFalse (by simp)
 | x::r,y::s=>match zTw x y,zUB r s with
  | .isTrue h1,.isTrue h2=>.isTrue (by subst h1 h2; rfl)
  | .isFalse h,_=>.isFalse (fun e=>by cases e; exact h rfl)
  | _,.isFalse h=>.isFalse (fun e=>by cases e; exact h rfl)
def zUA:(x y:Weighted)→Decidable (x=y)
 | ⟨a,e⟩,⟨a',e'⟩=>match decEq a a',zTw e e' with
  | .isTrue h1,.isTrue h2=>.isTrue (by subst h1 h2; rfl)
  | .isFalse h,_=>.isFalse (fun e=>by cases e; exact h rfl)
  | _,.isFalse h=>.isFalse (fun e=>by cases e; exact h rfl)
def zSO:(x y:List Weighted)→Decidable (x=y)
 | [],[]=>.isTrue rfl
 | [],_::_=>.isFalse (by simp)
 | _::_,[]=>.isFalse (by simp)
 | x::r,y::s=>match zUA x y,zSO r s with
  | .isTrue h1,.isTrue h2=>.isTrue (by subst h1 h2; rfl)
  | .isFalse h,_=>.isFalse (fun e=>by cases e; exact h rfl)
  | _,.isFalse h=>.isFalse (fun e=>by cases e; exact h rfl)
end
instance:DecidableEq Atom:=zUt
instance:DecidableEq Factor:=zRa
instance:DecidableEq Term:=zUe
instance:DecidableEq Weighted:=zUA
structure Binding where
 Row:RowID
 To:List Term
 deriving DecidableEq,Inhabited
def ty:Nat→Type
 | 2=>Int
 | 3=>Int
 | 4=>Bool
 | 5=>Int
 | 9=>ByteArray
 | 22=>List Term
 | 23=>List Term
 | 25=>RowID
 | 28=>Int
 | 40=>List Factor
 | 42=>Term
 | 43=>List (List Term)
 | 44=>List Weighted
 | 46=>Value
 | 48=>Atom
 | 50=>Factor
 | 52=>Weighted
 | 59=>List Binding
 | 65=>List RowID
 | 69=>Binding
 | 106=>Unit
 | 128=>List Int
 | 136=>List ByteArray
 | 143=>Int
 | 144=>List (List Factor)
 | _=>Unit
instance:(T:Nat)→Inhabited (ty T):=fun T=>by
 unfold ty
 split <;>infer_instance
def dt25:DT ty RowID:=zI7 (fun x=>⟨x.1,x.2⟩) (fun x=>(x.Table,x.Seq)) (fun _=>rfl) (zo7 (zr4 .i64) (zr4 .i64))
def dt46:DT ty Value:=zI7 (fun x=>⟨x.1,x.2.1,x.2.2⟩) (fun x=>(x.Kind,x.Int,x.Text)) (fun _=>rfl) (zo7 (zr4 .i64) (zo7 (zr4 .i64) (zXI)))
def dt48:DT ty Atom:=zI7 (fun x=>⟨x.1,x.2.1,x.2.2.1,x.2.2.2.1,x.2.2.2.2.1,x.2.2.2.2.2.1,x.2.2.2.2.2.2⟩) (fun x=>(x.Kind,x.Row,x.Args,x.Func,x.Items,x.Op,x.Bound)) (fun _=>rfl) (zo7 (zr4 .i64) (zo7 (dt25) (zo7 (dtSl 23) (zo7 (zr4 .i64) (zo7 (dtSl 52) (zo7 (zr4 .i64) (dt46)))))))
def dt50:DT ty Factor:=zI7 (fun x=>⟨x.1,x.2⟩) (fun x=>(x.Atom,x.Exp)) (fun _=>rfl) (zo7 (dt48) (zr4 .i64))
def dt42:DT ty Term:=zI7 (fun x=>⟨x.1,x.2⟩) (fun x=>(x.Coeff,x.Factors)) (fun _=>rfl) (zo7 (zr4 .i64) (dtSl 50))
def dt52:DT ty Weighted:=zI7 (fun x=>⟨x.1,x.2⟩) (fun x=>(x.Value,x.Ann)) (fun _=>rfl) (zo7 (dt46) (dtSl 42))
def dt69:DT ty Binding:=zI7 (fun x=>⟨x.1,x.2⟩) (fun x=>(x.Row,x.To)) (fun _=>rfl) (zo7 (dt25) (dtSl 42))
def zPT:List ((T:Nat)×DT ty (ty T)):=[⟨2,(zr4 .i64:DT ty Int)⟩,⟨3,(zr4 .i64:DT ty Int)⟩,⟨4,(zYQ:DT ty Bool)⟩,⟨5,(zr4 .u8:DT ty Int)⟩,⟨9,(zXI:DT ty ByteArray)⟩,⟨22,(dtSl 42:DT ty (List Term))⟩,⟨23,(dtSl 42:DT ty (List Term))⟩,⟨25,(dt25:DT ty RowID)⟩,⟨28,(zr4 .i64:DT ty Int)⟩,⟨40,(dtSl 50:DT ty (List Factor))⟩,⟨42,(dt42:DT ty Term)⟩,⟨43,(dtSl 23:DT ty (List (List Term)))⟩,⟨44,(dtSl 52:DT ty (List Weighted))⟩,⟨46,(dt46:DT ty Value)⟩,⟨48,(dt48:DT ty Atom)⟩,⟨50,(dt50:DT ty Factor)⟩,⟨52,(dt52:DT ty Weighted)⟩,⟨59,(dtSl 69:DT ty (List Binding))⟩,⟨65,(dtSl 25:DT ty (List RowID))⟩,⟨69,(dt69:DT ty Binding)⟩,⟨106,(dtMp:DT ty Unit)⟩,⟨128,(dtSl 3:DT ty (List Int))⟩,⟨136,(dtSl 9:DT ty (List ByteArray))⟩,⟨143,(zr4 .u64:DT ty Int)⟩,⟨144,(dtSl 40:DT ty (List (List Factor)))⟩]
def zRY:List (Nat×TInfo):=[(2,⟨.int .i64,1,8,[.int .i64 (0)]⟩),
 (3,⟨.int .i64,1,8,[.int .i64 (0)]⟩),
 (4,⟨.bool,1,1,[.bool false]⟩),
 (5,⟨.int .u8,1,1,[.int .u8 (0)]⟩),
 (9,⟨.str,1,16,[.string ⟨#[]⟩]⟩),
 (22,⟨.slice 42,1,24,[.slice none 0 0]⟩),
 (23,⟨.slice 42,1,24,[.slice none 0 0]⟩),
 (25,⟨.struct [(0,3),(1,3)],2,16,[.int .i64 (0),.int .i64 (0)]⟩),
 (28,⟨.int .i64,1,8,[.int .i64 (0)]⟩),
 (40,⟨.slice 50,1,24,[.slice none 0 0]⟩),
 (42,⟨.struct [(0,2),(1,40)],2,32,[.int .i64 (0),.slice none 0 0]⟩),
 (43,⟨.slice 23,1,24,[.slice none 0 0]⟩),
 (44,⟨.slice 52,1,24,[.slice none 0 0]⟩),
 (46,⟨.struct [(0,3),(1,2),(2,9)],3,32,[.int .i64 (0),.int .i64 (0),.string ⟨#[]⟩]⟩),
 (48,⟨.struct [(0,3),(1,25),(3,43),(4,3),(5,44),(6,3),(7,46)],10,120,[.int .i64 (0),.int .i64 (0),.int .i64 (0),.slice none 0 0,.int .i64 (0),.slice none 0 0,.int .i64 (0),.int .i64 (0),.int .i64 (0),.string ⟨#[]⟩]⟩),
 (50,⟨.struct [(0,48),(10,3)],11,128,[.int .i64 (0),.int .i64 (0),.int .i64 (0),.slice none 0 0,.int .i64 (0),.slice none 0 0,.int .i64 (0),.int .i64 (0),.int .i64 (0),.string ⟨#[]⟩,.int .i64 (0)]⟩),
 (52,⟨.struct [(0,46),(3,23)],4,56,[.int .i64 (0),.int .i64 (0),.string ⟨#[]⟩,.slice none 0 0]⟩),
 (59,⟨.slice 69,1,24,[.slice none 0 0]⟩),
 (65,⟨.slice 25,1,24,[.slice none 0 0]⟩),
 (69,⟨.struct [(0,25),(2,23)],3,40,[.int .i64 (0),.int .i64 (0),.slice none 0 0]⟩),
 (106,⟨.map 9 3,1,8,[.map none]⟩),
 (128,⟨.slice 3,1,24,[.slice none 0 0]⟩),
 (136,⟨.slice 9,1,24,[.slice none 0 0]⟩),
 (143,⟨.int .u64,1,8,[.int .u64 (0)]⟩),
 (144,⟨.slice 40,1,24,[.slice none 0 0]⟩)]
def zTt:List (Nat×List TD):=[(25,[.int .i64,.int .i64]),(46,[.int .i64,.int .i64,.str])]
def inv (w:World):Prop:=Lib.TabIs Tryz.prog w "internal/strconv.uint64pow10" .u64 Lib.pow10Tab∧(∃ m,w.cell? ⟨0,0,none⟩=some (.int .i64 m))
theorem zXb {n:String} {g:Nat} {w w':World} (hg:Tryz.prog.globalNamed n=some g) (h:w'.heap[g]? =w.heap[g]?):w'.var? Tryz.prog n=w.var? Tryz.prog n:=by
 unfold World.var?; rw [hg]; simp only [Option.bind_some,h]
theorem zUX (w w':World) (hi:inv w) (hb:∀ b,b<4→w'.heap[b]? =w.heap[b]?):inv w':=by
 obtain ⟨h1,⟨m,h2⟩⟩:=hi
 refine ⟨(zXb (g:=1) (by kernel_rfl) (hb 1 (by omega))).trans h1,⟨m, ?_⟩⟩
 rw [← h2]; exact World.cell?_of_block (a:=⟨0,0,none⟩) (hb 0 (by omega))
def base:Cx ty:={ ti:=fun T=>zRY.lookup T,dflt:=fun _=>default,enc:=fun T=>(tabT zPT T).enc,dec:=fun T=>(tabT zPT T).dec,spec:=fun _=>none,io:=fun _=>[],eqs:=fun T us vs=>match zTt.lookup T with | some ts=>zf0 ts us vs | none=>none,nt:=0,head:=fun _=>[],out:=fun _ _=>[],loops:=fun _=>none,ng:=4,inv:=inv }
theorem zU0:Tryz.prog.info? 2=some Tryz.t2:=by kernel_rfl
theorem zFP:Tryz.prog.info? 3=some Tryz.t3:=by kernel_rfl
theorem zZN:Tryz.prog.info? 4=some Tryz.t4:=by kernel_rfl
theorem zZv:Tryz.prog.info? 5=some Tryz.t5:=by kernel_rfl
theorem zXK:Tryz.prog.info? 9=some Tryz.t9:=by kernel_rfl
theorem zZc:Tryz.prog.info? 22=some Tryz.t22:=by kernel_rfl
theorem zSx:Tryz.prog.info? 23=some Tryz.t23:=by kernel_rfl
theorem zTB:Tryz.prog.info? 25=some Tryz.t25:=by kernel_rfl
theorem zY3:Tryz.prog.info? 28=some Tryz.t28:=by kernel_rfl
theorem zVO:Tryz.prog.info? 40=some Tryz.t40:=by kernel_rfl
theorem zY8:Tryz.prog.info? 42=some Tryz.t42:=by kernel_rfl
theorem zWv:Tryz.prog.info? 43=some Tryz.t43:=by kernel_rfl
theorem zWe:Tryz.prog.info? 44=some Tryz.t44:=by kernel_rfl
theorem zTz:Tryz.prog.info? 46=some Tryz.t46:=by kernel_rfl
theorem zV2:Tryz.prog.info? 48=some Tryz.t48:=by kernel_rfl
theorem zYY:Tryz.prog.info? 50=some Tryz.t50:=by kernel_rfl
theorem zY7:Tryz.prog.info? 52=some Tryz.t52:=by kernel_rfl
theorem zYW:Tryz.prog.info? 59=some Tryz.t59:=by kernel_rfl
theorem zY5:Tryz.prog.info? 65=some Tryz.t65:=by kernel_rfl
theorem zYR:Tryz.prog.info? 69=some Tryz.t69:=by kernel_rfl
theorem zYx:Tryz.prog.info? 106=some Tryz.t106:=by kernel_rfl
theorem zYa:Tryz.prog.info? 128=some Tryz.t128:=by kernel_rfl
theorem zX9:Tryz.prog.info? 136=some Tryz.t136:=by kernel_rfl
theorem zYg:Tryz.prog.info? 143=some Tryz.t143:=by kernel_rfl
theorem zXS:Tryz.prog.info? 144=some Tryz.t144:=by kernel_rfl
theorem zYv:∀ T i,zRY.lookup T=some i→InfoOK Tryz.prog T i:=by
 intro T i h
 have h:=zBY _ _ _ h
 simp only [zRY,List.mem_cons,List.not_mem_nil,or_false,Prod.mk.injEq] at h
 rcases h with ⟨rfl,rfl⟩ | ⟨rfl,rfl⟩ | ⟨rfl,rfl⟩ | ⟨rfl,rfl⟩ | ⟨rfl,rfl⟩ | ⟨rfl,rfl⟩ | ⟨rfl,rfl⟩ | ⟨rfl,rfl⟩ | ⟨rfl,rfl⟩ | ⟨rfl,rfl⟩ | ⟨rfl,rfl⟩ | ⟨rfl,rfl⟩ | ⟨rfl,rfl⟩ | ⟨rfl,rfl⟩ | ⟨rfl,rfl⟩ | ⟨rfl,rfl⟩ | ⟨rfl,rfl⟩ | ⟨rfl,rfl⟩ | ⟨rfl,rfl⟩ | ⟨rfl,rfl⟩ | ⟨rfl,rfl⟩ | ⟨rfl,rfl⟩ | ⟨rfl,rfl⟩ | ⟨rfl,rfl⟩ | ⟨rfl,rfl⟩
 ·exact ⟨Tryz.t2,_,_,zU0,Tryz.underlying2,rfl,rfl,rfl,rfl,rfl,⟨by simp [zb5],fun _=>rfl⟩,rfl⟩
 ·exact ⟨Tryz.t3,_,_,zFP,Tryz.underlying3,rfl,rfl,rfl,rfl,rfl,⟨by simp [zb5],fun _=>rfl⟩,rfl⟩
 ·exact ⟨Tryz.t4,_,_,zZN,Tryz.underlying4,rfl,rfl,rfl,rfl,rfl,⟨by simp [zb5],fun _=>rfl⟩,rfl⟩
 ·exact ⟨Tryz.t5,_,_,zZv,Tryz.underlying5,rfl,rfl,rfl,rfl,rfl,⟨by simp [zb5],fun _=>rfl⟩,rfl⟩
 ·exact ⟨Tryz.t9,_,_,zXK,Tryz.underlying9,rfl,rfl,rfl,rfl,rfl,⟨by simp [zb5],fun _=>rfl⟩,rfl⟩
 ·exact ⟨Tryz.t22,_,_,zZc,Tryz.underlying22,rfl,rfl,rfl,rfl,rfl,⟨by simp [zb5],fun _=>rfl⟩,rfl⟩
 ·exact ⟨Tryz.t23,_,_,zSx,Tryz.underlying23,rfl,rfl,rfl,rfl,rfl,⟨by simp [zb5],fun _=>rfl⟩,rfl⟩
 ·exact ⟨Tryz.t25,_,_,zTB,Tryz.underlying25,rfl,rfl,rfl,rfl,rfl,⟨by simp [zb5],fun h=>by cases h⟩,⟨_,rfl,rfl,fun f hf=>by
   simp only [List.mem_cons,List.not_mem_nil,or_false] at hf
   rcases hf with rfl | rfl
   ·exact Option.isSome_iff_exists.2 ⟨_,zFP⟩
   ·exact Option.isSome_iff_exists.2 ⟨_,zFP⟩⟩⟩
 ·exact ⟨Tryz.t28,_,_,zY3,Tryz.underlying28,rfl,rfl,rfl,rfl,rfl,⟨by simp [zb5],fun _=>rfl⟩,rfl⟩
 ·exact ⟨Tryz.t40,_,_,zVO,Tryz.underlying40,rfl,rfl,rfl,rfl,rfl,⟨by simp [zb5],fun _=>rfl⟩,rfl⟩
 ·exact ⟨Tryz.t42,_,_,zY8,Tryz.underlying42,rfl,rfl,rfl,rfl,rfl,⟨by simp [zb5],fun h=>by cases h⟩,⟨_,rfl,rfl,fun f hf=>by
   simp only [List.mem_cons,List.not_mem_nil,or_false] at hf
   rcases hf with rfl | rfl
   ·exact Option.isSome_iff_exists.2 ⟨_,zU0⟩
   ·exact Option.isSome_iff_exists.2 ⟨_,zVO⟩⟩⟩
 ·exact ⟨Tryz.t43,_,_,zWv,Tryz.underlying43,rfl,rfl,rfl,rfl,rfl,⟨by simp [zb5],fun _=>rfl⟩,rfl⟩
 ·exact ⟨Tryz.t44,_,_,zWe,Tryz.underlying44,rfl,rfl,rfl,rfl,rfl,⟨by simp [zb5],fun _=>rfl⟩,rfl⟩
 ·exact ⟨Tryz.t46,_,_,zTz,Tryz.underlying46,rfl,rfl,rfl,rfl,rfl,⟨by simp [zb5],fun h=>by cases h⟩,⟨_,rfl,rfl,fun f hf=>by
   simp only [List.mem_cons,List.not_mem_nil,or_false] at hf
   rcases hf with rfl | rfl | rfl
   ·exact Option.isSome_iff_exists.2 ⟨_,zFP⟩
   ·exact Option.isSome_iff_exists.2 ⟨_,zU0⟩
   ·exact Option.isSome_iff_exists.2 ⟨_,zXK⟩⟩⟩
 ·exact ⟨Tryz.t48,_,_,zV2,Tryz.underlying48,rfl,rfl,rfl,rfl,rfl,⟨by simp [zb5],fun h=>by cases h⟩,⟨_,rfl,rfl,fun f hf=>by
   simp only [List.mem_cons,List.not_mem_nil,or_false] at hf
   rcases hf with rfl | rfl | rfl | rfl | rfl | rfl | rfl
   ·exact Option.isSome_iff_exists.2 ⟨_,zFP⟩
   ·exact Option.isSome_iff_exists.2 ⟨_,zTB⟩
   ·exact Option.isSome_iff_exists.2 ⟨_,zWv⟩
   ·exact Option.isSome_iff_exists.2 ⟨_,zFP⟩
   ·exact Option.isSome_iff_exists.2 ⟨_,zWe⟩
   ·exact Option.isSome_iff_exists.2 ⟨_,zFP⟩
   ·exact Option.isSome_iff_exists.2 ⟨_,zTz⟩⟩⟩
 ·exact ⟨Tryz.t50,_,_,zYY,Tryz.underlying50,rfl,rfl,rfl,rfl,rfl,⟨by simp [zb5],fun h=>by cases h⟩,⟨_,rfl,rfl,fun f hf=>by
   simp only [List.mem_cons,List.not_mem_nil,or_false] at hf
   rcases hf with rfl | rfl
   ·exact Option.isSome_iff_exists.2 ⟨_,zV2⟩
   ·exact Option.isSome_iff_exists.2 ⟨_,zFP⟩⟩⟩
 ·exact ⟨Tryz.t52,_,_,zY7,Tryz.underlying52,rfl,rfl,rfl,rfl,rfl,⟨by simp [zb5],fun h=>by cases h⟩,⟨_,rfl,rfl,fun f hf=>by
   simp only [List.mem_cons,List.not_mem_nil,or_false] at hf
   rcases hf with rfl | rfl
   ·exact Option.isSome_iff_exists.2 ⟨_,zTz⟩
   ·exact Option.isSome_iff_exists.2 ⟨_,zSx⟩⟩⟩
 ·exact ⟨Tryz.t59,_,_,zYW,Tryz.underlying59,rfl,rfl,rfl,rfl,rfl,⟨by simp [zb5],fun _=>rfl⟩,rfl⟩
 ·exact ⟨Tryz.t65,_,_,zY5,Tryz.underlying65,rfl,rfl,rfl,rfl,rfl,⟨by simp [zb5],fun _=>rfl⟩,rfl⟩
 ·exact ⟨Tryz.t69,_,_,zYR,Tryz.underlying69,rfl,rfl,rfl,rfl,rfl,⟨by simp [zb5],fun h=>by cases h⟩,⟨_,rfl,rfl,fun f hf=>by
   simp only [List.mem_cons,List.not_mem_nil,or_false] at hf
   rcases hf with rfl | rfl
   ·exact Option.isSome_iff_exists.2 ⟨_,zTB⟩
   ·exact Option.isSome_iff_exists.2 ⟨_,zSx⟩⟩⟩
 ·exact ⟨Tryz.t106,_,_,zYx,Tryz.underlying106,rfl,rfl,rfl,rfl,rfl,⟨by simp [zb5],fun _=>rfl⟩,rfl⟩
 ·exact ⟨Tryz.t128,_,_,zYa,Tryz.underlying128,rfl,rfl,rfl,rfl,rfl,⟨by simp [zb5],fun _=>rfl⟩,rfl⟩
 ·exact ⟨Tryz.t136,_,_,zX9,Tryz.underlying136,rfl,rfl,rfl,rfl,rfl,⟨by simp [zb5],fun _=>rfl⟩,rfl⟩
 ·exact ⟨Tryz.t143,_,_,zYg,Tryz.underlying143,rfl,rfl,rfl,rfl,rfl,⟨by simp [zb5],fun _=>rfl⟩,rfl⟩
 ·exact ⟨Tryz.t144,_,_,zXS,Tryz.underlying144,rfl,rfl,rfl,rfl,rfl,⟨by simp [zb5],fun _=>rfl⟩,rfl⟩
theorem zW9:∀ T us vs b,(match zTt.lookup T with | some ts=>zf0 ts us vs | none=>none)=some b→∀ w,(binOp .eql T (.agg us.toArray) (.agg vs.toArray)).run Tryz.prog w=.ok (.bool b) w∧(binOp .neq T (.agg us.toArray) (.agg vs.toArray)).run Tryz.prog w=.ok (.bool (!b)) w∧
  ∀ op x y,(eqGuard op T x y (.agg us.toArray) (.agg vs.toArray)).run Tryz.prog w=.ok () w:=by
 intro T us vs b h w
 split at h
 ·rename_i ts hl
  have hl:=zBY _ _ _ hl
  simp only [zTt,List.mem_cons,List.not_mem_nil,or_false,Prod.mk.injEq] at hl
  rcases hl with ⟨rfl,rfl⟩ | ⟨rfl,rfl⟩
  ·refine zPv _ _ Tryz.underlying25 (by kernel_rfl) (by kernel_rfl) rfl ?_ h w
   intro j f t hj ht
   rcases j with _ | j
   ·simp at hj ht; subst hj ht; exact ⟨rfl,by decide,_,Tryz.underlying3,rfl⟩
   rcases j with _ | j
   ·simp at hj ht; subst hj ht; exact ⟨rfl,by decide,_,Tryz.underlying3,rfl⟩
   simp at hj
  ·refine zPv _ _ Tryz.underlying46 (by kernel_rfl) (by kernel_rfl) rfl ?_ h w
   intro j f t hj ht
   rcases j with _ | j
   ·simp at hj ht; subst hj ht; exact ⟨rfl,by decide,_,Tryz.underlying3,rfl⟩
   rcases j with _ | j
   ·simp at hj ht; subst hj ht; exact ⟨rfl,by decide,_,Tryz.underlying2,rfl⟩
   rcases j with _ | j
   ·simp at hj ht; subst hj ht; exact ⟨rfl,by decide,_,Tryz.underlying9,rfl⟩
   simp at hj
 ·cases h
theorem zl:CxOK Tryz.prog base:=⟨zYv,fun T x=>by rw [show szOf base T=_ from (zS9 zPT zRY rfl T).symm]; exact DT.len _ x,fun T x c h=>by have:=DT.cell _ _ c h; revert this; cases c <;>exact id,fun T cs x h F w us hr=>DT.ok _ base F w us cs x h hr,zW9,zUX⟩
def base0:Cx ty:={ base with dr:=false }
theorem ziw:CxOK Tryz.prog base0:=CxOK.cg (cx:=base) (cx':=base0) ⟨rfl,rfl,rfl,rfl,rfl,rfl⟩ zl
theorem zJ:Tryz.prog.follows .mixedOrders=true:=by kernel_rfl
end Go.Proofs.YtnolcogncjijpaaGreatDoor
/- What is read of an argument, as typed data. -/
namespace Go.Proofs.YtnolcogncjijpaaGreatDoor
open Go Go.Ab
def wf2 (x:Int):Prop:=(Lit.int .i64 x).wf=true
def wf3 (x:Int):Prop:=(Lit.int .i64 x).wf=true
def wf4 (x:Bool):Prop:=True
def wf5 (x:Int):Prop:=(Lit.int .u8 x).wf=true
def wf9 (x:ByteArray):Prop:=ByteArray.size x≤roomLen
def wf25 (x:RowID):Prop:=wf3 x.Table∧wf3 x.Seq
def wf46 (x:Value):Prop:=wf3 x.Kind∧wf2 x.Int∧wf9 x.Text
mutual
def zfr:Atom→Prop
 | ⟨k,r,a,f,i,o,b⟩=>wf3 k∧wf25 r∧(zrh a∧a.length≤roomLen)∧wf3 f∧(zn0 i∧i.length≤roomLen)∧wf3 o∧wf46 b
def zqH:Factor→Prop
 | ⟨a,e⟩=>zfr a∧wf3 e
def zn4:List Factor→Prop
 | []=>True
 | x::r=>zqH x∧zn4 r
def zvy:Term→Prop
 | ⟨c,f⟩=>wf2 c∧(zn4 f∧f.length≤roomLen)
def zfs:List Term→Prop
 | []=>True
 | x::r=>zvy x∧zfs r
def zrh:List (List Term)→Prop
 | []=>True
 | x::r=>(zfs x∧x.length≤roomLen)∧zrh r
def zAn:Weighted→Prop
 | ⟨v,a⟩=>wf46 v∧(zfs a∧a.length≤roomLen)
def zn0:List Weighted→Prop
 | []=>True
 | x::r=>zAn x∧zn0 r
end
theorem zEI:∀ l:List Factor,(∀ x∈l,zqH x)→zn4 l
 | [],_=>by unfold zn4; trivial
 | x::r,h=>by unfold zn4; exact ⟨h x (by simp),zEI r fun y hy=>h y (by simp [hy])⟩
theorem zzP:∀ l:List Term,(∀ x∈l,zvy x)→zfs l
 | [],_=>by unfold zfs; trivial
 | x::r,h=>by unfold zfs; exact ⟨h x (by simp),zzP r fun y hy=>h y (by simp [hy])⟩
theorem zLg:∀ l:List (List Term),(∀ x∈l,zfs x∧x.length≤roomLen)→zrh l
 | [],_=>by unfold zrh; trivial
 | x::r,h=>by unfold zrh; exact ⟨h x (by simp),zLg r fun y hy=>h y (by simp [hy])⟩
theorem zIE:∀ l:List Weighted,(∀ x∈l,zAn x)→zn0 l
 | [],_=>by unfold zn0; trivial
 | x::r,h=>by unfold zn0; exact ⟨h x (by simp),zIE r fun y hy=>h y (by simp [hy])⟩
def wf23 (x:List Term):Prop:=zfs x∧List.length x≤roomLen
def wf40 (x:List Factor):Prop:=zn4 x∧List.length x≤roomLen
def wf42 (x:Term):Prop:=zvy x
def wf43 (x:List (List Term)):Prop:=zrh x∧List.length x≤roomLen
def wf44 (x:List Weighted):Prop:=zn0 x∧List.length x≤roomLen
def wf48 (x:Atom):Prop:=zfr x
def wf50 (x:Factor):Prop:=zqH x
def wf52 (x:Weighted):Prop:=zAn x
def wf69 (x:Binding):Prop:=wf25 x.Row∧wf23 x.To
def wf59 (x:List Binding):Prop:=(∀ y∈x,wf69 y)∧List.length x≤roomLen
def wf (T:Nat):ty T→Prop:=match T with
 | 2=>wf2
 | 3=>wf3
 | 4=>wf4
 | 5=>wf5
 | 9=>wf9
 | 23=>wf23
 | 25=>wf25
 | 40=>wf40
 | 42=>wf42
 | 43=>wf43
 | 44=>wf44
 | 46=>wf46
 | 48=>wf48
 | 50=>wf50
 | 52=>wf52
 | 59=>wf59
 | 69=>wf69
 | _=>fun _=>True
theorem zVF:zon Tryz.prog base wf 2:=zQ4 Tryz.underlying2 (fun n=>n) (fun _=>rfl) (fun _ h=>h)
theorem zE8:zon Tryz.prog base wf 3:=zQ4 Tryz.underlying3 (fun n=>n) (fun _=>rfl) (fun _ h=>h)
theorem zZd:zon Tryz.prog base wf 9:=zVY Tryz.underlying9 (fun n=>n) (fun _=>rfl) (fun _ h=>h)
theorem zT6:zon Tryz.prog base wf 25:=by
 intro H en w sp held fuel cs y h hz
 obtain ⟨xs,n,_,hy,hl,hlen,hf⟩:=DataW.trod_struct Tryz.underlying25 h
 have hs:=zkt Tryz.underlying25 hy hz
 obtain ⟨x0,h0,w0⟩:=zoI (off:=0) zE8 (by kernel_rfl) hlen hf hs 0 _ rfl rfl rfl
 obtain ⟨x1,h1,w1⟩:=zoI (off:=1) zE8 (by kernel_rfl) hlen hf hs 1 _ rfl rfl rfl
 have hl:cs.length=2:=hl.trans (by kernel_rfl)
 have:=zhq h0 (zvU h1 hl)
 exact ⟨(⟨x0,x1⟩:RowID),this,⟨w0,w1⟩⟩
theorem zT8:zon Tryz.prog base wf 46:=by
 intro H en w sp held fuel cs y h hz
 obtain ⟨xs,n,_,hy,hl,hlen,hf⟩:=DataW.trod_struct Tryz.underlying46 h
 have hs:=zkt Tryz.underlying46 hy hz
 obtain ⟨x0,h0,w0⟩:=zoI (off:=0) zE8 (by kernel_rfl) hlen hf hs 0 _ rfl rfl rfl
 obtain ⟨x1,h1,w1⟩:=zoI (off:=1) zVF (by kernel_rfl) hlen hf hs 1 _ rfl rfl rfl
 obtain ⟨x2,h2,w2⟩:=zoI (off:=2) zZd (by kernel_rfl) hlen hf hs 2 _ rfl rfl rfl
 have hl:cs.length=3:=hl.trans (by kernel_rfl)
 have:=zhq h0 (zhq h1 (zvU h2 hl))
 exact ⟨(⟨x0,x1,x2⟩:Value),this,⟨w0,w1,w2⟩⟩
theorem zSC:∀ m,zn2 Tryz.prog base wf m 23∧zn2 Tryz.prog base wf m 40∧zn2 Tryz.prog base wf m 42∧zn2 Tryz.prog base wf m 43∧zn2 Tryz.prog base wf m 44∧zn2 Tryz.prog base wf m 48∧zn2 Tryz.prog base wf m 50∧zn2 Tryz.prog base wf m 52
 | 0=>⟨zmD,zmD,zmD,zmD,zmD,zmD,zmD,zmD⟩
 | m+1=>by
  obtain ⟨h23,h40,h42,h43,h44,h48,h50,h52⟩:=zSC m
  refine ⟨?_, ?_, ?_, ?_, ?_, ?_, ?_, ?_⟩
  ·exact zsZ zl Tryz.underlying23 (by kernel_rfl) (by decide) (fun l=>l) (fun _=>rfl) (of_decide_eq_true (by kernel_rfl)) h42 (fun l h h2=>⟨zzP l h,h2⟩)
  ·exact zsZ zl Tryz.underlying40 (by kernel_rfl) (by decide) (fun l=>l) (fun _=>rfl) (of_decide_eq_true (by kernel_rfl)) h50 (fun l h h2=>⟨zEI l h,h2⟩)
  ·intro H en w sp held fuel cs y hfu h hz
   obtain ⟨xs,n,hn,hy,hl,hlen,hf⟩:=DataW.trod_struct Tryz.underlying42 h
   have hs:=zkt Tryz.underlying42 hy hz
   have hn:n≤m:=by omega
   obtain ⟨x0,hx0,w0⟩:=zeB (off:=0) (zVF.at m) (by kernel_rfl) hn hlen hf hs 0 _ rfl rfl rfl
   obtain ⟨x1,hx1,w1⟩:=zeB (off:=1) h40 (by kernel_rfl) hn hlen hf hs 1 _ rfl rfl rfl
   have hl:cs.length=2:=hl.trans (by kernel_rfl)
   have:=zhq hx0 (zvU hx1 hl)
   exact ⟨(⟨x0,x1⟩:Term),this,by show zvy (⟨x0,x1⟩:Term); unfold zvy; exact ⟨w0,w1⟩⟩
  ·exact zsZ zl Tryz.underlying43 (by kernel_rfl) (by decide) (fun l=>l) (fun _=>rfl) (of_decide_eq_true (by kernel_rfl)) h23 (fun l h h2=>⟨zLg l h,h2⟩)
  ·exact zsZ zl Tryz.underlying44 (by kernel_rfl) (by decide) (fun l=>l) (fun _=>rfl) (of_decide_eq_true (by kernel_rfl)) h52 (fun l h h2=>⟨zIE l h,h2⟩)
  ·intro H en w sp held fuel cs y hfu h hz
   obtain ⟨xs,n,hn,hy,hl,hlen,hf⟩:=DataW.trod_struct Tryz.underlying48 h
   have hs:=zkt Tryz.underlying48 hy hz
   have hn:n≤m:=by omega
   obtain ⟨x0,hx0,w0⟩:=zeB (off:=0) (zE8.at m) (by kernel_rfl) hn hlen hf hs 0 _ rfl rfl rfl
   obtain ⟨x1,hx1,w1⟩:=zeB (off:=1) (zT6.at m) (by kernel_rfl) hn hlen hf hs 1 _ rfl rfl rfl
   obtain ⟨x2,hx2,w2⟩:=zeB (off:=3) h43 (by kernel_rfl) hn hlen hf hs 2 _ rfl rfl rfl
   obtain ⟨x3,hx3,w3⟩:=zeB (off:=4) (zE8.at m) (by kernel_rfl) hn hlen hf hs 3 _ rfl rfl rfl
   obtain ⟨x4,hx4,w4⟩:=zeB (off:=5) h44 (by kernel_rfl) hn hlen hf hs 4 _ rfl rfl rfl
   obtain ⟨x5,hx5,w5⟩:=zeB (off:=6) (zE8.at m) (by kernel_rfl) hn hlen hf hs 5 _ rfl rfl rfl
   obtain ⟨x6,hx6,w6⟩:=zeB (off:=7) (zT8.at m) (by kernel_rfl) hn hlen hf hs 6 _ rfl rfl rfl
   have hl:cs.length=10:=hl.trans (by kernel_rfl)
   have:=zhq hx0 (zhq hx1 (zhq hx2 (zhq hx3 (zhq hx4 (zhq hx5 (zvU hx6 hl))))))
   exact ⟨(⟨x0,x1,x2,x3,x4,x5,x6⟩:Atom),this,by show zfr (⟨x0,x1,x2,x3,x4,x5,x6⟩:Atom); unfold zfr; exact ⟨w0,w1,w2,w3,w4,w5,w6⟩⟩
  ·intro H en w sp held fuel cs y hfu h hz
   obtain ⟨xs,n,hn,hy,hl,hlen,hf⟩:=DataW.trod_struct Tryz.underlying50 h
   have hs:=zkt Tryz.underlying50 hy hz
   have hn:n≤m:=by omega
   obtain ⟨x0,hx0,w0⟩:=zeB (off:=0) h48 (by kernel_rfl) hn hlen hf hs 0 _ rfl rfl rfl
   obtain ⟨x1,hx1,w1⟩:=zeB (off:=10) (zE8.at m) (by kernel_rfl) hn hlen hf hs 1 _ rfl rfl rfl
   have hl:cs.length=11:=hl.trans (by kernel_rfl)
   have:=zhq hx0 (zvU hx1 hl)
   exact ⟨(⟨x0,x1⟩:Factor),this,by show zqH (⟨x0,x1⟩:Factor); unfold zqH; exact ⟨w0,w1⟩⟩
  ·intro H en w sp held fuel cs y hfu h hz
   obtain ⟨xs,n,hn,hy,hl,hlen,hf⟩:=DataW.trod_struct Tryz.underlying52 h
   have hs:=zkt Tryz.underlying52 hy hz
   have hn:n≤m:=by omega
   obtain ⟨x0,hx0,w0⟩:=zeB (off:=0) (zT8.at m) (by kernel_rfl) hn hlen hf hs 0 _ rfl rfl rfl
   obtain ⟨x1,hx1,w1⟩:=zeB (off:=3) h23 (by kernel_rfl) hn hlen hf hs 1 _ rfl rfl rfl
   have hl:cs.length=4:=hl.trans (by kernel_rfl)
   have:=zhq hx0 (zvU hx1 hl)
   exact ⟨(⟨x0,x1⟩:Weighted),this,by show zAn (⟨x0,x1⟩:Weighted); unfold zAn; exact ⟨w0,w1⟩⟩
theorem zUF:zon Tryz.prog base wf 23:=zVX fun m=>(zSC m).1
theorem zYb:zon Tryz.prog base wf 69:=by
 intro H en w sp held fuel cs y h hz
 obtain ⟨xs,n,_,hy,hl,hlen,hf⟩:=DataW.trod_struct Tryz.underlying69 h
 have hs:=zkt Tryz.underlying69 hy hz
 obtain ⟨x0,h0,w0⟩:=zoI (off:=0) zT6 (by kernel_rfl) hlen hf hs 0 _ rfl rfl rfl
 obtain ⟨x1,h1,w1⟩:=zoI (off:=2) zUF (by kernel_rfl) hlen hf hs 1 _ rfl rfl rfl
 have hl:cs.length=3:=hl.trans (by kernel_rfl)
 have:=zhq h0 (zvU h1 hl)
 exact ⟨(⟨x0,x1⟩:Binding),this,⟨w0,w1⟩⟩
theorem zYi:zon Tryz.prog base wf 59:=zTS zl Tryz.underlying59 (by kernel_rfl) (by decide) (fun l=>l) (fun _=>rfl) (of_decide_eq_true (by kernel_rfl)) zYb (fun _ h h2=>⟨h,h2⟩)
end Go.Proofs.YtnolcogncjijpaaGreatDoor
/- A world in which the row's condition holds; what the program's rows share. -/
namespace Go.Proofs.YtnolcogncjijpaaGreatDoor
open Go Go.Ab Go.Lib
theorem own:ownKnob Tryz.prog.godebug=none:=by kernel_rfl
theorem zYr:laidOutB Tryz.prog=true:=by kernel_rfl
def zZF:DataW Unit→Go.Value
 | .lit (.int k n)=>.int k n
 | .lit (.bool b)=>.bool b
 | .lit (.string s)=>.string ⟨s.toArray⟩
 | _=>undef
def zWr:Nat→DataW Unit→List Go.Value
 | n+1,.agg ds=>ds.flatMap (zWr n)
 | _,d=>[zZF d]
def cellsOf (d:DataW Unit):Array Go.Value:=(zWr 3 d).toArray
def zPe (h:Array Obj) (g:Nat) (cs:Array Go.Value):Array Obj:=h.modify g fun
 | .cells _ t fr=>.cells cs t fr
 | o=>o
def zRe (os:Os):World:=
 let w0:=World.holding Tryz.prog os ⟨#[],#[],[]⟩
 { w0 with heap:=zPe (zPe (zPe (zPe (zPe (w0.heap) 2 (cellsOf Rows.laid_math_bits_deBruijn32tab)) 3 (cellsOf Rows.laid_math_bits_deBruijn64tab)) 1 (cellsOf Rows.laid_internal_strconv_uint64pow10)) 5 (cellsOf Rows.laid_unicode_utf8_acceptRanges)) 4 (cellsOf Rows.laid_unicode_utf8_first) }
def zzR:List (String×DataW Unit):=[("math/bits.deBruijn32tab",Rows.laid_math_bits_deBruijn32tab),("math/bits.deBruijn64tab",Rows.laid_math_bits_deBruijn64tab),("internal/strconv.uint64pow10",Rows.laid_internal_strconv_uint64pow10),("unicode/utf8.acceptRanges",Rows.laid_unicode_utf8_acceptRanges),("unicode/utf8.first",Rows.laid_unicode_utf8_first)]
theorem zRN (os:Os) (args:Array Go.Value):laidMetH Tryz.prog zzR ((zRe os).forCall (fun _ _=>0) ⟨#[],args,[]⟩).memory:=
 laidMetH_of_parts (laidMet_of_run3 8 (by kernel_rfl) (by kernel_rfl) (by kernel_rfl)) (by kernel_rfl)
theorem zWb {w:World} (h:laidMetH Tryz.prog zzR w):laidMet Tryz.prog zzR w:=by
 unfold laidMetH at h
 rw [show (zzR.filter fun x=>x.2.handleName?.isSome)=[] by kernel_rfl] at h
 exact h
theorem zZb (w:World) (hsh:w.ShapedOpen Tryz.prog) (h:laidMetH Tryz.prog zzR w):base.inv w∧base.ng≤w.heap.size:=by
 have h:=zWb h
 have h1:TabIs Tryz.prog w "internal/strconv.uint64pow10" .u64 pow10Tab:=
  tabIs_of_head (g:=1) (by kernel_rfl) (by kernel_rfl) Tryz.underlying199 Tryz.underlying178 (by kernel_rfl) (by kernel_rfl) h.tail.tail
 have h4:=cell_of_shapedOpen_int (g:=0) (t:=3) (zero:=#[.int .i64 0]) hsh (of_decide_eq_true (by kernel_rfl)) (by kernel_rfl) rfl (by kernel_rfl) (by kernel_rfl) Tryz.underlying3
 obtain ⟨ps,⟨g',t',cs,fuel,p,q,hg',_,hvar,_⟩,_⟩:=h.tail
 refine ⟨⟨h1,h4⟩, ?_⟩
 unfold World.var? at hvar
 rw [show Tryz.prog.globalNamed "math/bits.deBruijn64tab"=some 3 by kernel_rfl] at hvar
 simp only [Option.bind_some] at hvar
 show 4≤w.heap.size
 cases hh:w.heap[3]? with
 | none=>rw [hh] at hvar; cases hvar
 | some o=>exact (Array.getElem?_eq_some_iff.1 hh).1
end Go.Proofs.YtnolcogncjijpaaGreatDoor
namespace Go.Proofs.YtnolcogncjijpaaGreatDoor
open Go Go.Ab
def zuL (r:Int):ARes ty:=⟨[.pure (.lit (.int .i64 r))],[]⟩
def zxG:AL base (List Term×List Term×Unit):=zf (zg (vSl 42)) (zf (zg (vSl 42)) aNil)
def zdF (F:List Term→List Term→Bool×Int):Ab.Spec ty:=zk zxG fun x=>((F x.1 x.2.1).1,zuL (F x.1 x.2.1).2)
def zsc (r:Int):ARes ty:=⟨[.pure (.lit (.int .i64 r))],[]⟩
def ztZ:AL base (Term×Term×Unit):=zf (zg (vAgg 42)) (zf (zg (vAgg 42)) aNil)
def ze2 (F:Term→Term→Bool×Int):Ab.Spec ty:=zk ztZ fun x=>((F x.1 x.2.1).1,zsc (F x.1 x.2.1).2)
def zqa (r:Int):ARes ty:=⟨[.pure (.lit (.int .i64 r))],[]⟩
def zrQ:AL base (Term×Term×Unit):=zf (zg (vAgg 42)) (zf (zg (vAgg 42)) aNil)
def zfR (F:Term→Term→Bool×Int):Ab.Spec ty:=zk zrQ fun x=>((F x.1 x.2.1).1,zqa (F x.1 x.2.1).2)
def zoP (r:Int):ARes ty:=⟨[.pure (.lit (.int .i64 r))],[]⟩
def zpV:AL base (Factor×Factor×Unit):=zf (zg (vAgg 50)) (zf (zg (vAgg 50)) aNil)
def zd2 (F:Factor→Factor→Bool×Int):Ab.Spec ty:=zk zpV fun x=>((F x.1 x.2.1).1,zoP (F x.1 x.2.1).2)
def zqb (r:Int):ARes ty:=⟨[.pure (.lit (.int .i64 r))],[]⟩
def zrX:AL base (Atom×Atom×Unit):=zf (zg (vAgg 48)) (zf (zg (vAgg 48)) aNil)
def zfY (F:Atom→Atom→Bool×Int):Ab.Spec ty:=zk zrX fun x=>((F x.1 x.2.1).1,zqb (F x.1 x.2.1).2)
def zp5 (r:Int):ARes ty:=⟨[.pure (.lit (.int .i64 r))],[]⟩
def zr1:AL base (Weighted×Weighted×Unit):=zf (zg (vAgg 52)) (zf (zg (vAgg 52)) aNil)
def zdE (F:Weighted→Weighted→Bool×Int):Ab.Spec ty:=zk zr1 fun x=>((F x.1 x.2.1).1,zp5 (F x.1 x.2.1).2)
def zdo (r:Int):ARes ty:=⟨[.pure (.lit (.int .i64 r))],[]⟩
def zdx:AL base (List Term×List Term×Unit×Unit):=zf (zg (vSl 42)) (zf (zg (vSl 42)) (zf (zg (vFn 87 vNil)) aNil))
def zbD (F:List Term→List Term→Bool×Int):Ab.Spec ty:=zk zdx fun x=>((F x.1 x.2.1).1,zdo (F x.1 x.2.1).2)
def zdy (r:Int):ARes ty:=⟨[.pure (.lit (.int .i64 r))],[]⟩
def zdJ:AL base (List Factor×List Factor×Unit×Unit):=zf (zg (vSl 50)) (zf (zg (vSl 50)) (zf (zg (vFn 124 vNil)) aNil))
def zbJ (F:List Factor→List Factor→Bool×Int):Ab.Spec ty:=zk zdJ fun x=>((F x.1 x.2.1).1,zdy (F x.1 x.2.1).2)
def zcp (r:Int):ARes ty:=⟨[.pure (.lit (.int .i64 r))],[]⟩
def zcv:AL base (List (List Term)×List (List Term)×Unit×Unit):=zf (zg (vSl 23)) (zf (zg (vSl 23)) (zf (zg (vFn 38 vNil)) aNil))
def zbo (F:List (List Term)→List (List Term)→Bool×Int):Ab.Spec ty:=zk zcv fun x=>((F x.1 x.2.1).1,zcp (F x.1 x.2.1).2)
def zcU (r:Int):ARes ty:=⟨[.pure (.lit (.int .i64 r))],[]⟩
def zc0:AL base (List Weighted×List Weighted×Unit×Unit):=zf (zg (vSl 52)) (zf (zg (vSl 52)) (zf (zg (vFn 85 vNil)) aNil))
def zbw (F:List Weighted→List Weighted→Bool×Int):Ab.Spec ty:=zk zc0 fun x=>((F x.1 x.2.1).1,zcU (F x.1 x.2.1).2)
def zFk (zF:List Term→List Term→Bool×Int) (zG:Term→Term→Bool×Int):Cx ty:=mkCx base 8 [(86,(zbD zF)),(87,(ze2 zG))] [] [] [] [] []
def zoA (zF:List Term→List Term→Bool×Int) (zG:Term→Term→Bool×Int) (a:List Term) (b:List Term):Wy0 (Int):=.bn (zF a b) fun r0=>.k r0
def zmu (zF:List Term→List Term→Bool×Int) (zG:Term→Term→Bool×Int) (a:List Term) (b:List Term):Bool×Int:=(zoA zF zG a b).fin default
theorem zBO (zF:List Term→List Term→Bool×Int) (zG:Term→Term→Bool×Int) (zhr:Sound Tryz.prog base 86 (zbD zF)) (zma:Sound Tryz.prog base 87 (ze2 zG)):Sound Tryz.prog base 38 (zdF (zmu zF zG)):=
 zn (cx':=(zFk zF zG)) zJ zl zw (zm ⟨zhr,zma,trivial⟩) Tryz.call38 Tryz.func38 (c:=body Tryz.f38) (by kernel_rfl) (zh (l:=[]) (by kernel_rfl) trivial) (sg:=⟨[.pure],[]⟩) (A:=zxG) (res:=zuL) (W:=fun x=>zoA zF zG x.1 x.2.1) (z:=default)
def zME:Cx ty:=mkCx base 6 [] [] [] [] [] []
def zuB (x_:Int):Wy0 (Bool):=.k (x_ != x_)
def zlm (x_:Int):Bool×Bool:=(zuB x_).fin default
def zyr (r:Bool):ARes ty:=⟨[.pure (.lit (.bool r))],[]⟩
def zCS:AL base (Int×Unit):=zf (zg (vInt .i64)) aNil
def zxw:Ab.Spec ty:=zk zCS fun x=>((zlm x.1).1,zyr (zlm x.1).2)
theorem zHV:Sound Tryz.prog base 136 zxw:=
 zn (cx':=zME) zJ zl zw (zm trivial) Tryz.call136 Tryz.func136 (c:=body Tryz.f136) (by kernel_rfl) (zh (l:=[]) (by kernel_rfl) trivial) (sg:=⟨[.pure],[]⟩) (A:=zCS) (res:=zyr) (W:=fun x=>zuB x.1) (z:=default)
def zJu:Cx ty:=mkCx base 20 [(136,zxw)] [] [] [] [] []
def zrx (x_:Int) (y_:Int):Wy0 (Int):=.i ((zlm x_).2) (.i ((zlm y_).2) (.k 0) (.k (-1:Int))) (.i ((zlm y_).2) (.k 1) (.i (decide (x_<y_)) (.k (-1:Int)) (.i (decide (x_>y_)) (.k 1) (.k 0))))
def zhX (x_:Int) (y_:Int):Bool×Int:=(zrx x_ y_).fin default
def zwq (r:Int):ARes ty:=⟨[.pure (.lit (.int .i64 r))],[]⟩
def zy6:AL base (Int×Int×Unit):=zf (zg (vInt .i64)) (zf (zg (vInt .i64)) aNil)
def zkL:Ab.Spec ty:=zk zy6 fun x=>((zhX x.1 x.2.1).1,zwq (zhX x.1 x.2.1).2)
theorem znV:Sound Tryz.prog base 79 zkL:=
 zn (cx':=zJu) zJ zl zw (zm ⟨zHV,trivial⟩) Tryz.call79 Tryz.func79 (c:=body Tryz.f79) (by kernel_rfl) (zh (l:=[]) (by kernel_rfl) trivial) (sg:=⟨[.pure],[]⟩) (A:=zy6) (res:=zwq) (W:=fun x=>zrx x.1 x.2.1) (z:=default)
abbrev ttTcmpOrint0:=Int×List Int×Int×Int×Unit
def zBF (zero:Int) (t6:List Int) (t7:Int) (t8:Int):Wy ttTcmpOrint0 (Unit) (Int⊕Int):=.i (decide (t8<t7)) (.i (decide (0≤t8)&&decide (t8<Int.ofNat t6.length)) (.i (t6.getD t8.toNat default != zero) (.k (.inl (t6.getD t8.toNat default))) (.h (zero,t6,t7,(IntKind.i64.wrap (t8+1)),()) ())) .d) (.k (.inr zero))
def zBP (x:ttTcmpOrint0) (y:Unit):Wy ttTcmpOrint0 (Unit) (Int⊕Int):=zBF x.1 x.2.1 x.2.2.1 x.2.2.2.1
def zBB (n:Nat) (zero:Int) (t6:List Int) (t7:Int) (t8:Int):Bool×(Int⊕Int):=zX (zBP) (.inl default) n (zero,t6,t7,t8,()) ()
def zHP (r:Int⊕Int):LTree ty:=.ite (isL r) (.done .ret [.lit (.int .i64 (getL r))] []) (.done (.exit 0) [.lit (.int .i64 (getR r))] [])
def zJT:LL ty ttTcmpOrint0:=za (lInt .i64) (za (lSl 3) (za (lInt .i64) (za (lInt .i64) zH)))
def zJO:BL ty (Unit):=bNil
def zHA (x:ttTcmpOrint0) (y:Unit):Nat:=(Int.toNat x.1+x.2.1.length+Int.toNat x.2.2.1+Int.toNat x.2.2.2.1+1)
def zKh:Cx ty:=mkCx base 18 [] [] [(3,[(3,.keep),(6,.keep),(7,.keep),(8,.keep)])] [(3,1,[(3,.keep)]),(3,0,[(2,.keep)])] [(3,spW zJT zJO (zBP) (.inl default) zHP zHA)] []
theorem zQd:zW zKh (lp (body Tryz.f88) 0):=zK (id:=3) (V:=zJT) (B:=zJO) (W:=zBP) (z:=.inl default) (tr:=zHP) (m:=zHA)
def zED (vals:List Int):Wy0 (Int):=.bn (zBB (Int.toNat 0+vals.length+(Int.ofNat vals.length).toNat +Int.toNat 0+1) 0 vals (Int.ofNat vals.length) 0) fun r0=>.i (isL r0) (.k (getL r0)) (.k (getR r0))
def zmk (vals:List Int):Bool×Int:=(zED vals).fin default
def zIx (r:Int):ARes ty:=⟨[.pure (.lit (.int .i64 r))],[]⟩
def zMy:AL base (List Int×Unit):=zf (zg (vSl 3)) aNil
def zlx:Ab.Spec ty:=zk zMy fun x=>((zmk x.1).1,zIx (zmk x.1).2)
theorem zm0:Sound Tryz.prog base 88 zlx:=
 zn (cx':=zKh) zJ zl zw (zm trivial) Tryz.call88 Tryz.func88 (c:=body Tryz.f88) (by kernel_rfl) (zh (l:=[lp (body Tryz.f88) 0]) (by kernel_rfl) ⟨zQd,trivial⟩) (sg:=⟨[.pure],[]⟩) (A:=zMy) (res:=zIx) (W:=fun x=>zED x.1) (z:=default)
def zBu (zb3:Term→Term→Bool×Int):Cx ty:=mkCx base 15 [(71,(zfR zb3)),(79,zkL),(88,zlx)] [] [] [] [] []
def zmb (zb3:Term→Term→Bool×Int) (x_:Term) (y_:Term):Wy0 (Int):=.bn (zb3 x_ y_) fun r2=>.bn (zhX x_.Coeff y_.Coeff) fun r1=>.bn (zmk [r2,r1]) fun r0=>.k r0
def zj6 (zb3:Term→Term→Bool×Int) (x_:Term) (y_:Term):Bool×Int:=(zmb zb3 x_ y_).fin default
theorem zyj (zb3:Term→Term→Bool×Int) (zA3:Sound Tryz.prog base 71 (zfR zb3)):Sound Tryz.prog base 87 (ze2 (zj6 zb3)):=
 zn (cx':=(zBu zb3)) zJ zl zw (zm ⟨zA3,znV,zm0,trivial⟩) Tryz.call87 Tryz.func87 (c:=body Tryz.f87) (by kernel_rfl) (zh (l:=[]) (by kernel_rfl) trivial) (sg:=⟨[.pure],[]⟩) (A:=ztZ) (res:=zsc) (W:=fun x=>zmb zb3 x.1 x.2.1) (z:=default)
def zOa:Cx ty:=mkCx base 6 [] [] [] [] [] []
def zxI (x_:Int):Wy0 (Bool):=.k (x_ != x_)
def zn1 (x_:Int):Bool×Bool:=(zxI x_).fin default
def zCN (r:Bool):ARes ty:=⟨[.pure (.lit (.bool r))],[]⟩
def zF0:AL base (Int×Unit):=zf (zg (vInt .i64)) aNil
def zAG:Ab.Spec ty:=zk zF0 fun x=>((zn1 x.1).1,zCN (zn1 x.1).2)
theorem zKM:Sound Tryz.prog base 161 zAG:=
 zn (cx':=zOa) zJ zl zw (zm trivial) Tryz.call161 Tryz.func161 (c:=body Tryz.f161) (by kernel_rfl) (zh (l:=[]) (by kernel_rfl) trivial) (sg:=⟨[.pure],[]⟩) (A:=zF0) (res:=zCN) (W:=fun x=>zxI x.1) (z:=default)
def zLu:Cx ty:=mkCx base 20 [(161,zAG)] [] [] [] [] []
def zuv (x_:Int) (y_:Int):Wy0 (Int):=.i ((zn1 x_).2) (.i ((zn1 y_).2) (.k 0) (.k (-1:Int))) (.i ((zn1 y_).2) (.k 1) (.i (decide (x_<y_)) (.k (-1:Int)) (.i (decide (x_>y_)) (.k 1) (.k 0))))
def zeg (x_:Int) (y_:Int):Bool×Int:=(zuv x_ y_).fin default
def zys (r:Int):ARes ty:=⟨[.pure (.lit (.int .i64 r))],[]⟩
def zCL:AL base (Int×Int×Unit):=zf (zg (vInt .i64)) (zf (zg (vInt .i64)) aNil)
def zmw:Ab.Spec ty:=zk zCL fun x=>((zeg x.1 x.2.1).1,zys (zeg x.1 x.2.1).2)
theorem zpx:Sound Tryz.prog base 125 zmw:=
 zn (cx':=zLu) zJ zl zw (zm ⟨zKM,trivial⟩) Tryz.call125 Tryz.func125 (c:=body Tryz.f125) (by kernel_rfl) (zh (l:=[]) (by kernel_rfl) trivial) (sg:=⟨[.pure],[]⟩) (A:=zCL) (res:=zys) (W:=fun x=>zuv x.1 x.2.1) (z:=default)
end Go.Proofs.YtnolcogncjijpaaGreatDoor
/-
 DERIVED:THE SHELF's CONTRACTS AT THIS DUMP,IN PLAIN WORDS (tools/lay-plain.mjs out of 'TryzShelf.lean',which tools/lay-shelf.mjs wrote):THE SAME DECLARATIONS UNDER THE SAME NAMES:'import','namespace','open','def','theorem' AND NOTHING ELSE:no command of the shelf's:FOR A HAND-IN. Each laying:the table of numbers ('.._ren') and one theorem,a field a fact of the dump's own or the kernel's comparison; each contract:ONE APPLICATION.
-/
namespace Go.Proofs
open Go.Shelf
def Tryz.pdqTerm_ren:Go.Shelf.Ren:=⟨fun | 14=>155 | 20=>177 | 21=>178 | 22=>179 | 23=>180 | 24=>181 | 25=>182 | 26=>183 | 27=>184 | 46=>204 | 47=>205 | 48=>206 | 49=>207 | 50=>208 | 15=>156 | 57=>221 | 28=>185 | 29=>186 | n=>n,fun | 24=>42 | 22=>22 | 3=>3 | 25=>80 | 4=>4 | 0=>0 | 46=>170 | 45=>169 | 50=>108 | 66=>190 | 39=>143 | 55=>178 | 70=>194 | 76=>205 | 77=>206 | 53=>176 | 5=>5 | 9=>9 | n=>n,fun | n=>n⟩
theorem Tryz.pdqTerm:Go.Proofs.SlLaysF0.n14 Tryz.prog Tryz.pdqTerm_ren:={
 mixed:=by kernel_rfl
 f14:=⟨Tryz.f155.name,by decide,Tryz.func155.trans (congrArg some (by kernel_rfl))⟩
 f15:=Tryz.func156.trans (congrArg some (by kernel_rfl))
 f20:=⟨Tryz.f177.name,by decide,Tryz.func177.trans (congrArg some (by kernel_rfl))⟩
 f21:=⟨Tryz.f178.name,by decide,Tryz.func178.trans (congrArg some (by kernel_rfl))⟩
 f22:=⟨Tryz.f179.name,by decide,Tryz.func179.trans (congrArg some (by kernel_rfl))⟩
 f23:=⟨Tryz.f180.name,by decide,Tryz.func180.trans (congrArg some (by kernel_rfl))⟩
 f24:=⟨Tryz.f181.name,by decide,Tryz.func181.trans (congrArg some (by kernel_rfl))⟩
 f25:=⟨Tryz.f182.name,by decide,Tryz.func182.trans (congrArg some (by kernel_rfl))⟩
 f26:=⟨Tryz.f183.name,by decide,Tryz.func183.trans (congrArg some (by kernel_rfl))⟩
 f27:=⟨Tryz.f184.name,by decide,Tryz.func184.trans (congrArg some (by kernel_rfl))⟩
 f28:=Tryz.func185.trans (congrArg some (by kernel_rfl))
 f29:=Tryz.func186.trans (congrArg some (by kernel_rfl))
 f46:=⟨Tryz.f204.name,by decide,Tryz.func204.trans (congrArg some (by kernel_rfl))⟩
 f47:=Tryz.func205.trans (congrArg some (by kernel_rfl))
 f48:=Tryz.func206.trans (congrArg some (by kernel_rfl))
 f49:=⟨Tryz.f207.name,by decide,Tryz.func207.trans (congrArg some (by kernel_rfl))⟩
 f50:=⟨Tryz.f208.name,by decide,Tryz.func208.trans (congrArg some (by kernel_rfl))⟩
 f57:=⟨Tryz.f221.name,by decide,Tryz.func221.trans (congrArg some (by kernel_rfl))⟩
 t0:=Tryz.underlying0
 a0:=Tryz.isAgg0
 z0:=Tryz.sizeOf0
 v0:=Tryz.zeroValue0
 t3:=Tryz.underlying3
 a3:=Tryz.isAgg3
 z3:=Tryz.sizeOf3
 v3:=Tryz.zeroValue3
 t4:=Tryz.underlying4
 a4:=Tryz.isAgg4
 z4:=Tryz.sizeOf4
 v4:=Tryz.zeroValue4
 t5:=Tryz.underlying5
 a5:=Tryz.isAgg5
 z5:=Tryz.sizeOf5
 v5:=Tryz.zeroValue5
 t9:=Tryz.underlying9
 a9:=Tryz.isAgg9
 z9:=Tryz.sizeOf9
 v9:=Tryz.zeroValue9
 t22:=Tryz.underlying22
 a22:=Tryz.isAgg22
 z22:=Tryz.sizeOf22
 v22:=Tryz.zeroValue22
 t25:=Tryz.underlying80
 a25:=Tryz.isAgg80
 z25:=Tryz.sizeOf80
 v25:=Tryz.zeroValue80
 t39:=Tryz.underlying143
 a39:=Tryz.isAgg143
 z39:=Tryz.sizeOf143
 v39:=Tryz.zeroValue143
 t45:=Tryz.underlying169
 a45:=Tryz.isAgg169
 z45:=Tryz.sizeOf169
 v45:=Tryz.zeroValue169
 t46:=Tryz.underlying170
 a46:=Tryz.isAgg170
 z46:=Tryz.sizeOf170
 v46:=Tryz.zeroValue170
 t50:=Tryz.underlying108
 a50:=Tryz.isAgg108
 z50:=Tryz.sizeOf108
 v50:=Tryz.zeroValue108
 t53:=Tryz.underlying176
 a53:=Tryz.isAgg176
 z53:=Tryz.sizeOf176
 v53:=Tryz.zeroValue176
 t55:=Tryz.underlying178
 a55:=Tryz.isAgg178
 z55:=Tryz.sizeOf178
 v55:=Tryz.zeroValue178
 t66:=Tryz.underlying190
 a66:=Tryz.isAgg190
 z66:=Tryz.sizeOf190
 v66:=Tryz.zeroValue190
 t70:=Tryz.underlying194
 a70:=Tryz.isAgg194
 z70:=Tryz.sizeOf194
 v70:=Tryz.zeroValue194
 t76:=Tryz.underlying205
 a76:=Tryz.isAgg205
 z76:=Tryz.sizeOf205
 v76:=Tryz.zeroValue205
 t77:=Tryz.underlying206
 a77:=Tryz.isAgg206
 z77:=Tryz.sizeOf206
 v77:=Tryz.zeroValue206 }
def Tryz.insW_ren:Go.Shelf.Ren:=⟨fun | 20=>164 | n=>n,fun | 24=>52 | 22=>44 | 3=>3 | 25=>89 | 4=>4 | 0=>0 | n=>n,fun | n=>n⟩
theorem Tryz.insW:Go.Proofs.SlLaysF0.n20 Tryz.prog Tryz.insW_ren:={
 mixed:=by kernel_rfl
 f20:=⟨Tryz.f164.name,by decide,Tryz.func164.trans (congrArg some (by kernel_rfl))⟩
 t0:=Tryz.underlying0
 a0:=Tryz.isAgg0
 z0:=Tryz.sizeOf0
 v0:=Tryz.zeroValue0
 t3:=Tryz.underlying3
 a3:=Tryz.isAgg3
 z3:=Tryz.sizeOf3
 v3:=Tryz.zeroValue3
 t4:=Tryz.underlying4
 a4:=Tryz.isAgg4
 z4:=Tryz.sizeOf4
 v4:=Tryz.zeroValue4
 t22:=Tryz.underlying44
 a22:=Tryz.isAgg44
 z22:=Tryz.sizeOf44
 v22:=Tryz.zeroValue44
 t25:=Tryz.underlying89
 a25:=Tryz.isAgg89
 z25:=Tryz.sizeOf89
 v25:=Tryz.zeroValue89 }
def Tryz.lays106_ren:Go.Shelf.Ren:=⟨fun | 106=>162 | 213=>187 | 265=>209 | n=>n,fun | 9=>9 | 3=>3 | n=>n,fun | n=>n⟩
theorem Tryz.lays106:Go.Proofs.Lays.n106 Tryz.prog Tryz.lays106_ren:={
 mixed:=by kernel_rfl
 f106:=Tryz.func162.trans (congrArg some (by kernel_rfl))
 f213:=Tryz.func187.trans (congrArg some (by kernel_rfl))
 f265:=Tryz.func209.trans (congrArg some (by kernel_rfl))
 t3:=Tryz.underlying3
 a3:=Tryz.isAgg3
 z3:=Tryz.sizeOf3
 v3:=Tryz.zeroValue3
 t9:=Tryz.underlying9
 a9:=Tryz.isAgg9
 z9:=Tryz.sizeOf9
 v9:=Tryz.zeroValue9 }
def Tryz.laysM173_ren:Go.Shelf.Ren:=⟨fun | 173=>151 | 246=>168 | 283=>197 | 284=>198 | 285=>199 | 286=>200 | 129=>186 | 317=>214 | 318=>215 | 319=>216 | 320=>217 | 337=>223 | 338=>224 | n=>n,fun | 2=>2 | 3=>3 | 9=>9 | 4=>4 | 171=>184 | 0=>0 | 53=>178 | 37=>156 | 5=>5 | 173=>186 | 212=>199 | 51=>176 | 20=>20 | 213=>200 | 46=>143 | 232=>211 | 233=>212 | n=>n,fun | 17=>1 | 18=>2 | 19=>3 | n=>n⟩
theorem Tryz.laysM173:Go.Proofs.LaysM.n173 Tryz.prog Tryz.laysM173_ren:={
 mixed:=by kernel_rfl
 f129:=Tryz.func186.trans (congrArg some (by kernel_rfl))
 f173:=Tryz.func151.trans (congrArg some (by kernel_rfl))
 f246:=Tryz.func168.trans (congrArg some (by kernel_rfl))
 f283:=Tryz.func197.trans (congrArg some (by kernel_rfl))
 f284:=Tryz.func198.trans (congrArg some (by kernel_rfl))
 f285:=Tryz.func199.trans (congrArg some (by kernel_rfl))
 f286:=Tryz.func200.trans (congrArg some (by kernel_rfl))
 f317:=Tryz.func214.trans (congrArg some (by kernel_rfl))
 f318:=Tryz.func215.trans (congrArg some (by kernel_rfl))
 f319:=Tryz.func216.trans (congrArg some (by kernel_rfl))
 f320:=Tryz.func217.trans (congrArg some (by kernel_rfl))
 f337:=Tryz.func223.trans (congrArg some (by kernel_rfl))
 f338:=Tryz.func224.trans (congrArg some (by kernel_rfl))
 t0:=Tryz.underlying0
 a0:=Tryz.isAgg0
 z0:=Tryz.sizeOf0
 v0:=Tryz.zeroValue0
 t2:=Tryz.underlying2
 a2:=Tryz.isAgg2
 z2:=Tryz.sizeOf2
 v2:=Tryz.zeroValue2
 t3:=Tryz.underlying3
 a3:=Tryz.isAgg3
 z3:=Tryz.sizeOf3
 v3:=Tryz.zeroValue3
 t4:=Tryz.underlying4
 a4:=Tryz.isAgg4
 z4:=Tryz.sizeOf4
 v4:=Tryz.zeroValue4
 t5:=Tryz.underlying5
 a5:=Tryz.isAgg5
 z5:=Tryz.sizeOf5
 v5:=Tryz.zeroValue5
 t9:=Tryz.underlying9
 a9:=Tryz.isAgg9
 z9:=Tryz.sizeOf9
 v9:=Tryz.zeroValue9
 t20:=Tryz.underlying20
 a20:=Tryz.isAgg20
 z20:=Tryz.sizeOf20
 v20:=Tryz.zeroValue20
 t37:=Tryz.underlying156
 a37:=Tryz.isAgg156
 z37:=Tryz.sizeOf156
 v37:=Tryz.zeroValue156
 t46:=Tryz.underlying143
 a46:=Tryz.isAgg143
 z46:=Tryz.sizeOf143
 v46:=Tryz.zeroValue143
 t51:=Tryz.underlying176
 a51:=Tryz.isAgg176
 z51:=Tryz.sizeOf176
 v51:=Tryz.zeroValue176
 t53:=Tryz.underlying178
 a53:=Tryz.isAgg178
 z53:=Tryz.sizeOf178
 v53:=Tryz.zeroValue178
 t171:=Tryz.underlying184
 a171:=Tryz.isAgg184
 z171:=Tryz.sizeOf184
 v171:=Tryz.zeroValue184
 t173:=Tryz.underlying186
 a173:=Tryz.isAgg186
 z173:=Tryz.sizeOf186
 v173:=Tryz.zeroValue186
 t212:=Tryz.underlying199
 a212:=Tryz.isAgg199
 z212:=Tryz.sizeOf199
 v212:=Tryz.zeroValue199
 t213:=Tryz.underlying200
 a213:=Tryz.isAgg200
 z213:=Tryz.sizeOf200
 t232:=Tryz.underlying211
 a232:=Tryz.isAgg211
 z232:=Tryz.sizeOf211
 v232:=Tryz.zeroValue211
 t233:=Tryz.underlying212
 a233:=Tryz.isAgg212
 z233:=Tryz.sizeOf212
 v233:=Tryz.zeroValue212
 g17:=by kernel_rfl
 g18:=by kernel_rfl
 g19:=by kernel_rfl
 i0:=by kernel_rfl
 i2:=by kernel_rfl
 i3:=by kernel_rfl
 i4:=by kernel_rfl
 i5:=by kernel_rfl
 i9:=by kernel_rfl
 i20:=by kernel_rfl
 i37:=by kernel_rfl
 i46:=by kernel_rfl
 i51:=by kernel_rfl
 i53:=by kernel_rfl
 i171:=by kernel_rfl
 i173:=by kernel_rfl
 i212:=by kernel_rfl
 i232:=by kernel_rfl
 i233:=by kernel_rfl
 m17:=by kernel_rfl
 m18:=by kernel_rfl
 m19:=by kernel_rfl }
def Tryz.laysM171_ren:Go.Shelf.Ren:=⟨fun | 171=>154 | 243=>176 | 246=>168 | 283=>197 | 284=>198 | 285=>199 | 286=>200 | 129=>186 | 317=>214 | 318=>215 | 319=>216 | 320=>217 | 337=>223 | 338=>224 | n=>n,fun | 3=>3 | 9=>9 | 2=>2 | 4=>4 | 171=>184 | 0=>0 | 53=>178 | 37=>156 | 5=>5 | 173=>186 | 212=>199 | 51=>176 | 20=>20 | 213=>200 | 46=>143 | 232=>211 | 233=>212 | n=>n,fun | 17=>1 | 18=>2 | 19=>3 | n=>n⟩
theorem Tryz.laysM171:Go.Proofs.LaysM.n171 Tryz.prog Tryz.laysM171_ren:={
 mixed:=by kernel_rfl
 f129:=Tryz.func186.trans (congrArg some (by kernel_rfl))
 f171:=Tryz.func154.trans (congrArg some (by kernel_rfl))
 f243:=Tryz.func176.trans (congrArg some (by kernel_rfl))
 f246:=Tryz.func168.trans (congrArg some (by kernel_rfl))
 f283:=Tryz.func197.trans (congrArg some (by kernel_rfl))
 f284:=Tryz.func198.trans (congrArg some (by kernel_rfl))
 f285:=Tryz.func199.trans (congrArg some (by kernel_rfl))
 f286:=Tryz.func200.trans (congrArg some (by kernel_rfl))
 f317:=Tryz.func214.trans (congrArg some (by kernel_rfl))
 f318:=Tryz.func215.trans (congrArg some (by kernel_rfl))
 f319:=Tryz.func216.trans (congrArg some (by kernel_rfl))
 f320:=Tryz.func217.trans (congrArg some (by kernel_rfl))
 f337:=Tryz.func223.trans (congrArg some (by kernel_rfl))
 f338:=Tryz.func224.trans (congrArg some (by kernel_rfl))
 t0:=Tryz.underlying0
 a0:=Tryz.isAgg0
 z0:=Tryz.sizeOf0
 v0:=Tryz.zeroValue0
 t2:=Tryz.underlying2
 a2:=Tryz.isAgg2
 z2:=Tryz.sizeOf2
 v2:=Tryz.zeroValue2
 t3:=Tryz.underlying3
 a3:=Tryz.isAgg3
 z3:=Tryz.sizeOf3
 v3:=Tryz.zeroValue3
 t4:=Tryz.underlying4
 a4:=Tryz.isAgg4
 z4:=Tryz.sizeOf4
 v4:=Tryz.zeroValue4
 t5:=Tryz.underlying5
 a5:=Tryz.isAgg5
 z5:=Tryz.sizeOf5
 v5:=Tryz.zeroValue5
 t9:=Tryz.underlying9
 a9:=Tryz.isAgg9
 z9:=Tryz.sizeOf9
 v9:=Tryz.zeroValue9
 t20:=Tryz.underlying20
 a20:=Tryz.isAgg20
 z20:=Tryz.sizeOf20
 v20:=Tryz.zeroValue20
 t37:=Tryz.underlying156
 a37:=Tryz.isAgg156
 z37:=Tryz.sizeOf156
 v37:=Tryz.zeroValue156
 t46:=Tryz.underlying143
 a46:=Tryz.isAgg143
 z46:=Tryz.sizeOf143
 v46:=Tryz.zeroValue143
 t51:=Tryz.underlying176
 a51:=Tryz.isAgg176
 z51:=Tryz.sizeOf176
 v51:=Tryz.zeroValue176
 t53:=Tryz.underlying178
 a53:=Tryz.isAgg178
 z53:=Tryz.sizeOf178
 v53:=Tryz.zeroValue178
 t171:=Tryz.underlying184
 a171:=Tryz.isAgg184
 z171:=Tryz.sizeOf184
 v171:=Tryz.zeroValue184
 t173:=Tryz.underlying186
 a173:=Tryz.isAgg186
 z173:=Tryz.sizeOf186
 v173:=Tryz.zeroValue186
 t212:=Tryz.underlying199
 a212:=Tryz.isAgg199
 z212:=Tryz.sizeOf199
 v212:=Tryz.zeroValue199
 t213:=Tryz.underlying200
 a213:=Tryz.isAgg200
 z213:=Tryz.sizeOf200
 t232:=Tryz.underlying211
 a232:=Tryz.isAgg211
 z232:=Tryz.sizeOf211
 v232:=Tryz.zeroValue211
 t233:=Tryz.underlying212
 a233:=Tryz.isAgg212
 z233:=Tryz.sizeOf212
 v233:=Tryz.zeroValue212
 g17:=by kernel_rfl
 g18:=by kernel_rfl
 g19:=by kernel_rfl
 i0:=by kernel_rfl
 i2:=by kernel_rfl
 i3:=by kernel_rfl
 i4:=by kernel_rfl
 i5:=by kernel_rfl
 i9:=by kernel_rfl
 i20:=by kernel_rfl
 i37:=by kernel_rfl
 i46:=by kernel_rfl
 i51:=by kernel_rfl
 i53:=by kernel_rfl
 i171:=by kernel_rfl
 i173:=by kernel_rfl
 i212:=by kernel_rfl
 i232:=by kernel_rfl
 i233:=by kernel_rfl
 m17:=by kernel_rfl
 m18:=by kernel_rfl
 m19:=by kernel_rfl }
def Tryz.lays155_ren:Go.Shelf.Ren:=⟨fun | 155=>203 | 154=>220 | 138=>225 | 165=>169 | 143=>226 | 166=>170 | 197=>227 | 169=>171 | 195=>228 | 218=>229 | 240=>201 | 241=>202 | 219=>230 | 260=>231 | 276=>218 | 277=>219 | 217=>232 | 225=>233 | 224=>234 | 267=>235 | 266=>236 | 314=>237 | n=>n,fun | 9=>9 | 3=>3 | 4=>4 | 72=>158 | 0=>0 | 76=>162 | 105=>209 | 21=>21 | 5=>5 | 70=>155 | 20=>20 | 37=>156 | 75=>161 | 127=>188 | 164=>201 | 46=>143 | 119=>215 | 139=>218 | 138=>217 | 146=>219 | 51=>176 | 80=>164 | n=>n,fun | 1=>0 | 3=>4 | 4=>5 | n=>n⟩
theorem Tryz.lays155:Go.Proofs.Lays.n155 Tryz.prog Tryz.lays155_ren:={
 mixed:=by kernel_rfl
 f138:=Tryz.func225.trans (congrArg some (by kernel_rfl))
 f143:=Tryz.func226.trans (congrArg some (by kernel_rfl))
 f154:=Tryz.func220.trans (congrArg some (by kernel_rfl))
 f155:=Tryz.func203.trans (congrArg some (by kernel_rfl))
 f165:=Tryz.func169.trans (congrArg some (by kernel_rfl))
 f166:=Tryz.func170.trans (congrArg some (by kernel_rfl))
 f169:=Tryz.func171.trans (congrArg some (by kernel_rfl))
 f195:=Tryz.func228.trans (congrArg some (by kernel_rfl))
 f197:=Tryz.func227.trans (congrArg some (by kernel_rfl))
 f217:=Tryz.func232.trans (congrArg some (by kernel_rfl))
 f218:=Tryz.func229.trans (congrArg some (by kernel_rfl))
 f219:=Tryz.func230.trans (congrArg some (by kernel_rfl))
 f224:=Tryz.func234.trans (congrArg some (by kernel_rfl))
 f225:=Tryz.func233.trans (congrArg some (by kernel_rfl))
 f240:=Tryz.func201.trans (congrArg some (by kernel_rfl))
 f241:=Tryz.func202.trans (congrArg some (by kernel_rfl))
 f260:=Tryz.func231.trans (congrArg some (by kernel_rfl))
 f266:=Tryz.func236.trans (congrArg some (by kernel_rfl))
 f267:=Tryz.func235.trans (congrArg some (by kernel_rfl))
 f276:=Tryz.func218.trans (congrArg some (by kernel_rfl))
 f277:=Tryz.func219.trans (congrArg some (by kernel_rfl))
 f314:=Tryz.func237.trans (congrArg some (by kernel_rfl))
 t0:=Tryz.underlying0
 a0:=Tryz.isAgg0
 z0:=Tryz.sizeOf0
 v0:=Tryz.zeroValue0
 t3:=Tryz.underlying3
 a3:=Tryz.isAgg3
 z3:=Tryz.sizeOf3
 v3:=Tryz.zeroValue3
 t4:=Tryz.underlying4
 a4:=Tryz.isAgg4
 z4:=Tryz.sizeOf4
 v4:=Tryz.zeroValue4
 t5:=Tryz.underlying5
 a5:=Tryz.isAgg5
 z5:=Tryz.sizeOf5
 v5:=Tryz.zeroValue5
 t9:=Tryz.underlying9
 a9:=Tryz.isAgg9
 z9:=Tryz.sizeOf9
 v9:=Tryz.zeroValue9
 t20:=Tryz.underlying20
 a20:=Tryz.isAgg20
 z20:=Tryz.sizeOf20
 v20:=Tryz.zeroValue20
 t21:=Tryz.underlying21
 a21:=Tryz.isAgg21
 z21:=Tryz.sizeOf21
 v21:=Tryz.zeroValue21
 t37:=Tryz.underlying156
 a37:=Tryz.isAgg156
 z37:=Tryz.sizeOf156
 v37:=Tryz.zeroValue156
 t46:=Tryz.underlying143
 a46:=Tryz.isAgg143
 z46:=Tryz.sizeOf143
 v46:=Tryz.zeroValue143
 t51:=Tryz.underlying176
 a51:=Tryz.isAgg176
 z51:=Tryz.sizeOf176
 v51:=Tryz.zeroValue176
 t70:=Tryz.underlying155
 a70:=Tryz.isAgg155
 z70:=Tryz.sizeOf155
 v70:=Tryz.zeroValue155
 t72:=Tryz.underlying158
 a72:=Tryz.isAgg158
 z72:=Tryz.sizeOf158
 v72:=Tryz.zeroValue158
 t75:=Tryz.underlying161
 a75:=Tryz.isAgg161
 z75:=Tryz.sizeOf161
 v75:=Tryz.zeroValue161
 t76:=Tryz.underlying162
 a76:=Tryz.isAgg162
 z76:=Tryz.sizeOf162
 v76:=Tryz.zeroValue162
 t105:=Tryz.underlying209
 a105:=Tryz.isAgg209
 z105:=Tryz.sizeOf209
 v105:=Tryz.zeroValue209
 t119:=Tryz.underlying215
 a119:=Tryz.isAgg215
 z119:=Tryz.sizeOf215
 t127:=Tryz.underlying188
 a127:=Tryz.isAgg188
 z127:=Tryz.sizeOf188
 v127:=Tryz.zeroValue188
 t138:=Tryz.underlying217
 a138:=Tryz.isAgg217
 z138:=Tryz.sizeOf217
 v138:=Tryz.zeroValue217
 t139:=Tryz.underlying218
 a139:=Tryz.isAgg218
 z139:=Tryz.sizeOf218
 v139:=Tryz.zeroValue218
 t146:=Tryz.underlying219
 a146:=Tryz.isAgg219
 z146:=Tryz.sizeOf219
 v146:=Tryz.zeroValue219
 t164:=Tryz.underlying201
 a164:=Tryz.isAgg201
 z164:=Tryz.sizeOf201
 v164:=Tryz.zeroValue201
 g1:=by kernel_rfl
 g3:=by kernel_rfl
 g4:=by kernel_rfl }
theorem Tryz.Builder_Extra_155:Builder.Extra Tryz.prog Tryz.lays155_ren:={
 sizeBuilder:=by kernel_rfl
 liesBuilder:=by kernel_rfl
 t5:=Tryz.underlying5
 a5:=Tryz.isAgg5
 z5:=Tryz.sizeOf5
 v5:=Tryz.zeroValue5
 infoByte:=by kernel_rfl
 cellsByte:=by kernel_rfl
 sizeByte:=by kernel_rfl
 neB5:=by decide }
def Tryz.lays156_ren:Go.Shelf.Ren:=⟨fun | 156=>152 | 165=>169 | 166=>170 | 169=>171 | 240=>201 | 241=>202 | 276=>218 | 277=>219 | n=>n,fun | 31=>136 | 9=>9 | 3=>3 | 4=>4 | 0=>0 | 20=>20 | 72=>158 | 76=>162 | 70=>155 | 37=>156 | 75=>161 | 127=>188 | 164=>201 | 5=>5 | 80=>164 | n=>n,fun | n=>n⟩
theorem Tryz.lays156:Go.Proofs.Lays.n156 Tryz.prog Tryz.lays156_ren:={
 mixed:=by kernel_rfl
 f156:=Tryz.func152.trans (congrArg some (by kernel_rfl))
 f165:=Tryz.func169.trans (congrArg some (by kernel_rfl))
 f166:=Tryz.func170.trans (congrArg some (by kernel_rfl))
 f169:=Tryz.func171.trans (congrArg some (by kernel_rfl))
 f240:=Tryz.func201.trans (congrArg some (by kernel_rfl))
 f241:=Tryz.func202.trans (congrArg some (by kernel_rfl))
 f276:=Tryz.func218.trans (congrArg some (by kernel_rfl))
 f277:=Tryz.func219.trans (congrArg some (by kernel_rfl))
 t0:=Tryz.underlying0
 a0:=Tryz.isAgg0
 z0:=Tryz.sizeOf0
 v0:=Tryz.zeroValue0
 t3:=Tryz.underlying3
 a3:=Tryz.isAgg3
 z3:=Tryz.sizeOf3
 v3:=Tryz.zeroValue3
 t4:=Tryz.underlying4
 a4:=Tryz.isAgg4
 z4:=Tryz.sizeOf4
 v4:=Tryz.zeroValue4
 t9:=Tryz.underlying9
 a9:=Tryz.isAgg9
 z9:=Tryz.sizeOf9
 v9:=Tryz.zeroValue9
 t20:=Tryz.underlying20
 a20:=Tryz.isAgg20
 z20:=Tryz.sizeOf20
 v20:=Tryz.zeroValue20
 t31:=Tryz.underlying136
 a31:=Tryz.isAgg136
 z31:=Tryz.sizeOf136
 v31:=Tryz.zeroValue136
 t37:=Tryz.underlying156
 a37:=Tryz.isAgg156
 z37:=Tryz.sizeOf156
 v37:=Tryz.zeroValue156
 t70:=Tryz.underlying155
 a70:=Tryz.isAgg155
 z70:=Tryz.sizeOf155
 v70:=Tryz.zeroValue155
 t72:=Tryz.underlying158
 a72:=Tryz.isAgg158
 z72:=Tryz.sizeOf158
 v72:=Tryz.zeroValue158
 t75:=Tryz.underlying161
 a75:=Tryz.isAgg161
 z75:=Tryz.sizeOf161
 v75:=Tryz.zeroValue161
 t76:=Tryz.underlying162
 a76:=Tryz.isAgg162
 z76:=Tryz.sizeOf162
 v76:=Tryz.zeroValue162
 t127:=Tryz.underlying188
 a127:=Tryz.isAgg188
 z127:=Tryz.sizeOf188
 v127:=Tryz.zeroValue188
 t164:=Tryz.underlying201
 a164:=Tryz.isAgg201
 z164:=Tryz.sizeOf201
 v164:=Tryz.zeroValue201 }
theorem Tryz.Builder_Extra_156:Builder.Extra Tryz.prog Tryz.lays156_ren:={
 sizeBuilder:=by kernel_rfl
 liesBuilder:=by kernel_rfl
 t5:=Tryz.underlying5
 a5:=Tryz.isAgg5
 z5:=Tryz.sizeOf5
 v5:=Tryz.zeroValue5
 infoByte:=by kernel_rfl
 cellsByte:=by kernel_rfl
 sizeByte:=by kernel_rfl
 neB5:=by decide }
def Tryz.lays125_ren:Go.Shelf.Ren:=⟨fun | 125=>156 | 128=>185 | 129=>186 | n=>n,fun | 46=>143 | 3=>3 | 51=>176 | 53=>178 | 4=>4 | 5=>5 | 9=>9 | n=>n,fun | n=>n⟩
theorem Tryz.lays125:Go.Proofs.Lays.n125 Tryz.prog Tryz.lays125_ren:={
 mixed:=by kernel_rfl
 f125:=Tryz.func156.trans (congrArg some (by kernel_rfl))
 f128:=Tryz.func185.trans (congrArg some (by kernel_rfl))
 f129:=Tryz.func186.trans (congrArg some (by kernel_rfl))
 t3:=Tryz.underlying3
 a3:=Tryz.isAgg3
 z3:=Tryz.sizeOf3
 v3:=Tryz.zeroValue3
 t4:=Tryz.underlying4
 a4:=Tryz.isAgg4
 z4:=Tryz.sizeOf4
 v4:=Tryz.zeroValue4
 t5:=Tryz.underlying5
 a5:=Tryz.isAgg5
 z5:=Tryz.sizeOf5
 v5:=Tryz.zeroValue5
 t9:=Tryz.underlying9
 a9:=Tryz.isAgg9
 z9:=Tryz.sizeOf9
 v9:=Tryz.zeroValue9
 t46:=Tryz.underlying143
 a46:=Tryz.isAgg143
 z46:=Tryz.sizeOf143
 v46:=Tryz.zeroValue143
 t51:=Tryz.underlying176
 a51:=Tryz.isAgg176
 z51:=Tryz.sizeOf176
 v51:=Tryz.zeroValue176
 t53:=Tryz.underlying178
 a53:=Tryz.isAgg178
 z53:=Tryz.sizeOf178
 v53:=Tryz.zeroValue178 }
end Go.Proofs
namespace Go.Proofs.YtnolcogncjijpaaGreatDoor
open Go Go.Ab
def strings_Compare (s p:ByteArray):Bool×Int:=zEC s p
def strings_Compare_spec:Ab.Spec ty:=zk (cx:=base) (zf (zg vStr) (zf (zg vStr) aNil)) fun x=>((strings_Compare x.1 x.2.1).1,⟨[.pure (.lit (.int .i64 (strings_Compare x.1 x.2.1).2))],[]⟩)
theorem zHF:Sound Tryz.prog base 162 strings_Compare_spec:=zRQ zl Go.Proofs.Tryz.lays106 Tryz.call162
end Go.Proofs.YtnolcogncjijpaaGreatDoor
namespace Go.Proofs.YtnolcogncjijpaaGreatDoor
open Go Go.Ab
def zOr:Cx ty:=mkCx base 22 [(79,zkL),(88,zlx),(125,zmw),(162,strings_Compare_spec)] [] [] [] [] []
def zxn (a:Value) (b:Value):Wy0 (Int):=.bn (zeg a.Kind b.Kind) fun r2=>.bn (zhX a.Int b.Int) fun r1=>.bn (zmk [r2,r1,(strings_Compare a.Text b.Text).2]) fun r0=>.k r0
def znZ (a:Value) (b:Value):Bool×Int:=(zxn a b).fin default
def zCk (r:Int):ARes ty:=⟨[.pure (.lit (.int .i64 r))],[]⟩
def zFE:AL base (Value×Value×Unit):=zf (zg (vAgg 46)) (zf (zg (vAgg 46)) aNil)
def zts:Ab.Spec ty:=zk zFE fun x=>((znZ x.1 x.2.1).1,zCk (znZ x.1 x.2.1).2)
theorem zyF:Sound Tryz.prog base 128 zts:=
 zn (cx':=zOr) zJ zl zw (zm ⟨znV,zm0,zpx,zHF,trivial⟩) Tryz.call128 Tryz.func128 (c:=body Tryz.f128) (by kernel_rfl) (zh (l:=[]) (by kernel_rfl) trivial) (sg:=⟨[.pure],[]⟩) (A:=zFE) (res:=zCk) (W:=fun x=>zxn x.1 x.2.1) (z:=default)
def zzp (zt:List Term→List Term→Bool×Int) (zB:Weighted→Weighted→Bool×Int) (zp:List (List Term)→List (List Term)→Bool×Int) (zy:List Weighted→List Weighted→Bool×Int):Cx ty:=mkCx base 51 [(38,(zdF zt)),(85,(zdE zB)),(88,zlx),(125,zmw),(126,(zbo zp)),(127,(zbw zy)),(128,zts)] [] [] [] [] []
def zlg (zt:List Term→List Term→Bool×Int) (zB:Weighted→Weighted→Bool×Int) (zp:List (List Term)→List (List Term)→Bool×Int) (zy:List Weighted→List Weighted→Bool×Int) (a:Atom) (b:Atom):Wy0 (Int):=.bn (zeg a.Kind b.Kind) fun r8=>.bn (zeg a.Row.Table b.Row.Table) fun r7=>.bn (zeg a.Row.Seq b.Row.Seq) fun r6=>.bn (zp a.Args b.Args) fun r5=>.bn (zeg a.Func b.Func) fun r4=>.bn (zy a.Items b.Items) fun r3=>.bn (zeg a.Op b.Op) fun r2=>.bn (znZ a.Bound b.Bound) fun r1=>.bn (zmk [r8,r7,r6,r5,r4,r3,r2,r1]) fun r0=>.k r0
def ziR (zt:List Term→List Term→Bool×Int) (zB:Weighted→Weighted→Bool×Int) (zp:List (List Term)→List (List Term)→Bool×Int) (zy:List Weighted→List Weighted→Bool×Int) (a:Atom) (b:Atom):Bool×Int:=(zlg zt zB zp zy a b).fin default
theorem zwP (zt:List Term→List Term→Bool×Int) (zB:Weighted→Weighted→Bool×Int) (zp:List (List Term)→List (List Term)→Bool×Int) (zy:List Weighted→List Weighted→Bool×Int) (zil:Sound Tryz.prog base 38 (zdF zt)) (zkX:Sound Tryz.prog base 85 (zdE zB)) (zeC:Sound Tryz.prog base 126 (zbo zp)) (zfO:Sound Tryz.prog base 127 (zbw zy)):Sound Tryz.prog base 73 (zfY (ziR zt zB zp zy)):=
 zn (cx':=(zzp zt zB zp zy)) zJ zl zw (zm ⟨zil,zkX,zm0,zpx,zeC,zfO,zyF,trivial⟩) Tryz.call73 Tryz.func73 (c:=body Tryz.f73) (by kernel_rfl) (zh (l:=[]) (by kernel_rfl) trivial) (sg:=⟨[.pure],[]⟩) (A:=zrX) (res:=zqb) (W:=fun x=>zlg zt zB zp zy x.1 x.2.1) (z:=default)
def zx5 (zb2:Atom→Atom→Bool×Int):Cx ty:=mkCx base 17 [(73,(zfY zb2)),(88,zlx),(125,zmw)] [] [] [] [] []
def zj5 (zb2:Atom→Atom→Bool×Int) (a:Factor) (b:Factor):Wy0 (Int):=.bn (zb2 (Atom.mk a.Atom.Kind a.Atom.Row a.Atom.Args a.Atom.Func a.Atom.Items a.Atom.Op a.Atom.Bound) (Atom.mk b.Atom.Kind b.Atom.Row b.Atom.Args b.Atom.Func b.Atom.Items b.Atom.Op b.Atom.Bound)) fun r2=>.bn (zeg a.Exp b.Exp) fun r1=>.bn (zmk [r2,r1]) fun r0=>.k r0
def zh9 (zb2:Atom→Atom→Bool×Int) (a:Factor) (b:Factor):Bool×Int:=(zj5 zb2 a b).fin default
theorem zu3 (zb2:Atom→Atom→Bool×Int) (zz6:Sound Tryz.prog base 73 (zfY zb2)):Sound Tryz.prog base 124 (zd2 (zh9 zb2)):=
 zn (cx':=(zx5 zb2)) zJ zl zw (zm ⟨zz6,zm0,zpx,trivial⟩) Tryz.call124 Tryz.func124 (c:=body Tryz.f124) (by kernel_rfl) (zh (l:=[]) (by kernel_rfl) trivial) (sg:=⟨[.pure],[]⟩) (A:=zpV) (res:=zoP) (W:=fun x=>zj5 zb2 x.1 x.2.1) (z:=default)
def zza (zt:List Term→List Term→Bool×Int):Cx ty:=mkCx base 17 [(38,(zdF zt)),(88,zlx),(128,zts)] [] [] [] [] []
def zk3 (zt:List Term→List Term→Bool×Int) (a:Weighted) (b:Weighted):Wy0 (Int):=.bn (znZ a.Value b.Value) fun r2=>.bn (zt a.Ann b.Ann) fun r1=>.bn (zmk [r2,r1]) fun r0=>.k r0
def ziV (zt:List Term→List Term→Bool×Int) (a:Weighted) (b:Weighted):Bool×Int:=(zk3 zt a b).fin default
theorem zwO (zt:List Term→List Term→Bool×Int) (zil:Sound Tryz.prog base 38 (zdF zt)):Sound Tryz.prog base 85 (zdE (ziV zt)):=
 zn (cx':=(zza zt)) zJ zl zw (zm ⟨zil,zm0,zyF,trivial⟩) Tryz.call85 Tryz.func85 (c:=body Tryz.f85) (by kernel_rfl) (zh (l:=[]) (by kernel_rfl) trivial) (sg:=⟨[.pure],[]⟩) (A:=zr1) (res:=zp5) (W:=fun x=>zk3 zt x.1 x.2.1) (z:=default)
def zzM (zI:List Factor→List Factor→Bool×Int) (zr:Factor→Factor→Bool×Int):Cx ty:=mkCx base 10 [(123,(zbJ zI)),(124,(zd2 zr))] [] [] [] [] []
def zk1 (zI:List Factor→List Factor→Bool×Int) (zr:Factor→Factor→Bool×Int) (a:Term) (b:Term):Wy0 (Int):=.bn (zI a.Factors b.Factors) fun r0=>.k r0
def ziS (zI:List Factor→List Factor→Bool×Int) (zr:Factor→Factor→Bool×Int) (a:Term) (b:Term):Bool×Int:=(zk1 zI zr a b).fin default
theorem zwM (zI:List Factor→List Factor→Bool×Int) (zr:Factor→Factor→Bool×Int) (zhY:Sound Tryz.prog base 123 (zbJ zI)) (zjY:Sound Tryz.prog base 124 (zd2 zr)):Sound Tryz.prog base 71 (zfR (ziS zI zr)):=
 zn (cx':=(zzM zI zr)) zJ zl zw (zm ⟨zhY,zjY,trivial⟩) Tryz.call71 Tryz.func71 (c:=body Tryz.f71) (by kernel_rfl) (zh (l:=[]) (by kernel_rfl) trivial) (sg:=⟨[.pure],[]⟩) (A:=zrQ) (res:=zqa) (W:=fun x=>zk1 zI zr x.1 x.2.1) (z:=default)
abbrev ttTslicesCompareFuncLapiAnnotationLapiAnnotationapiAnnotationapiAnnotation0:=List (List Term)×List (List Term)×Unit×List (List Term)×Int×Int×Unit
abbrev ttTslicesCompareFuncLapiAnnotationLapiAnnotationapiAnnotationapiAnnotation1:=Int⊕(List (List Term)×List (List Term))
def zev (zt:List Term→List Term→Bool×Int) (s1:List (List Term)) (s2:List (List Term)) (t11:List (List Term)) (t12:Int) (t13:Int):Wy ttTslicesCompareFuncLapiAnnotationLapiAnnotationapiAnnotationapiAnnotation0 (Unit) ttTslicesCompareFuncLapiAnnotationLapiAnnotationapiAnnotationapiAnnotation1:=.i (decide (t13<t12)) (.i (decide (0≤t13)&&decide (t13<Int.ofNat t11.length)) (.i (decide (t13≥Int.ofNat s2.length)) (.k (.inl 1)) (.i (decide (0≤t13)&&decide (t13<Int.ofNat s2.length)) (.bn (zt (t11.getD t13.toNat default) (s2.getD t13.toNat default)) fun r0=>.i (r0 != 0) (.k (.inl (r0))) (.h (s1,s2,(),t11,t12,(IntKind.i64.wrap (t13+1)),()) ())) .d)) .d) (.k (.inr (s1,s2)))
def zbE (zt:List Term→List Term→Bool×Int) (x:ttTslicesCompareFuncLapiAnnotationLapiAnnotationapiAnnotationapiAnnotation0) (y:Unit):Wy ttTslicesCompareFuncLapiAnnotationLapiAnnotationapiAnnotationapiAnnotation0 (Unit) ttTslicesCompareFuncLapiAnnotationLapiAnnotationapiAnnotationapiAnnotation1:=zev zt x.1 x.2.1 x.2.2.2.1 x.2.2.2.2.1 x.2.2.2.2.2.1
def zey (zt:List Term→List Term→Bool×Int) (n:Nat) (s1:List (List Term)) (s2:List (List Term)) (t11:List (List Term)) (t12:Int) (t13:Int):Bool×ttTslicesCompareFuncLapiAnnotationLapiAnnotationapiAnnotationapiAnnotation1:=zX (zbE zt) (.inl default) n (s1,s2,(),t11,t12,t13,()) ()
def zch (r:ttTslicesCompareFuncLapiAnnotationLapiAnnotationapiAnnotationapiAnnotation1):LTree ty:=.ite (isL r) (.done .ret [.lit (.int .i64 (getL r))] []) (.done (.exit 0) [.sl 23 (getR r).1,.sl 23 (getR r).2] [])
def zco:LL ty ttTslicesCompareFuncLapiAnnotationLapiAnnotationapiAnnotationapiAnnotation0:=za (lSl 23) (za (lSl 23) (za (lFn 38 (zH)) (za (lSl 23) (za (lInt .i64) (za (lInt .i64) zH)))))
def zck:BL ty (Unit):=bNil
def zcg (x:ttTslicesCompareFuncLapiAnnotationLapiAnnotationapiAnnotationapiAnnotation0) (y:Unit):Nat:=(x.1.length+x.2.1.length+x.2.2.2.1.length+Int.toNat x.2.2.2.2.1+Int.toNat x.2.2.2.2.2.1+1)
def zcl (zt:List Term→List Term→Bool×Int):Cx ty:=mkCx base 39 [(38,(zdF zt))] [] [(2,[(0,.keep),(1,.keep),(2,.keep),(11,.keep),(12,.keep),(13,.keep)])] [(2,1,[(0,.keep),(1,.keep)]),(2,0,[(6,.keep)])] [(2,spW zco zck (zbE zt) (.inl default) zch zcg)] []
theorem zes (zt:List Term→List Term→Bool×Int):zW (zcl zt) (lp (body Tryz.f126) 0):=zK (id:=2) (V:=zco) (B:=zck) (W:=zbE zt) (z:=.inl default) (tr:=zch) (m:=zcg)
def zcs (zt:List Term→List Term→Bool×Int) (s1:List (List Term)) (s2:List (List Term)):Wy0 (Int):=.bn (zey zt (s1.length+s2.length+s1.length+(Int.ofNat s1.length).toNat +Int.toNat 0+1) s1 s2 s1 (Int.ofNat s1.length) 0) fun r2=>.i (isL r2) (.k (getL r2)) (.i (decide (Int.ofNat (getR r2).1.length<Int.ofNat (getR r2).2.length)) (.k (-1:Int)) (.k 0))
def zbm (zt:List Term→List Term→Bool×Int) (s1:List (List Term)) (s2:List (List Term)):Bool×Int:=(zcs zt s1 s2).fin default
theorem zeh (zt:List Term→List Term→Bool×Int) (zil:Sound Tryz.prog base 38 (zdF zt)):Sound Tryz.prog base 126 (zbo (zbm zt)):=
 zn (cx':=(zcl zt)) zJ zl zw (zm ⟨zil,trivial⟩) Tryz.call126 Tryz.func126 (c:=body Tryz.f126) (by kernel_rfl) (zh (l:=[lp (body Tryz.f126) 0]) (by kernel_rfl) ⟨zes zt,trivial⟩) (sg:=⟨[.pure],[]⟩) (A:=zcv) (res:=zcp) (W:=fun x=>zcs zt x.1 x.2.1) (z:=default)
abbrev ttTslicesCompareFuncLapiFactorLapiFactorapiFactorapiFactor0:=List Factor×List Factor×Unit×List Factor×Int×Int×Unit
abbrev ttTslicesCompareFuncLapiFactorLapiFactorapiFactorapiFactor1:=Int⊕(List Factor×List Factor)
def zds (zr:Factor→Factor→Bool×Int) (s1:List Factor) (s2:List Factor) (t11:List Factor) (t12:Int) (t13:Int):Wy ttTslicesCompareFuncLapiFactorLapiFactorapiFactorapiFactor0 (Unit) ttTslicesCompareFuncLapiFactorLapiFactorapiFactorapiFactor1:=.i (decide (t13<t12)) (.i (decide (0≤t13)&&decide (t13<Int.ofNat t11.length)) (.i (decide (t13≥Int.ofNat s2.length)) (.k (.inl 1)) (.i (decide (0≤t13)&&decide (t13<Int.ofNat s2.length)) (.bn (zr (FactorOf.mk (Atom.mk (t11.getD t13.toNat default).Atom.Kind (t11.getD t13.toNat default).Atom.Row (t11.getD t13.toNat default).Atom.Args (t11.getD t13.toNat default).Atom.Func (t11.getD t13.toNat default).Atom.Items (t11.getD t13.toNat default).Atom.Op (t11.getD t13.toNat default).Atom.Bound) (t11.getD t13.toNat default).Exp) (FactorOf.mk (Atom.mk (s2.getD t13.toNat default).Atom.Kind (s2.getD t13.toNat default).Atom.Row (s2.getD t13.toNat default).Atom.Args (s2.getD t13.toNat default).Atom.Func (s2.getD t13.toNat default).Atom.Items (s2.getD t13.toNat default).Atom.Op (s2.getD t13.toNat default).Atom.Bound) (s2.getD t13.toNat default).Exp)) fun r0=>.i (r0 != 0) (.k (.inl (r0))) (.h (s1,s2,(),t11,t12,(IntKind.i64.wrap (t13+1)),()) ())) .d)) .d) (.k (.inr (s1,s2)))
def zbl (zr:Factor→Factor→Bool×Int) (x:ttTslicesCompareFuncLapiFactorLapiFactorapiFactorapiFactor0) (y:Unit):Wy ttTslicesCompareFuncLapiFactorLapiFactorapiFactorapiFactor0 (Unit) ttTslicesCompareFuncLapiFactorLapiFactorapiFactorapiFactor1:=zds zr x.1 x.2.1 x.2.2.2.1 x.2.2.2.2.1 x.2.2.2.2.2.1
def zdq (zr:Factor→Factor→Bool×Int) (n:Nat) (s1:List Factor) (s2:List Factor) (t11:List Factor) (t12:Int) (t13:Int):Bool×ttTslicesCompareFuncLapiFactorLapiFactorapiFactorapiFactor1:=zX (zbl zr) (.inl default) n (s1,s2,(),t11,t12,t13,()) ()
def zdn (r:ttTslicesCompareFuncLapiFactorLapiFactorapiFactorapiFactor1):LTree ty:=.ite (isL r) (.done .ret [.lit (.int .i64 (getL r))] []) (.done (.exit 0) [.sl 50 (getR r).1,.sl 50 (getR r).2] [])
def zdu:LL ty ttTslicesCompareFuncLapiFactorLapiFactorapiFactorapiFactor0:=za (lSl 50) (za (lSl 50) (za (lFn 124 (zH)) (za (lSl 50) (za (lInt .i64) (za (lInt .i64) zH)))))
def zdr:BL ty (Unit):=bNil
def zdi (x:ttTslicesCompareFuncLapiFactorLapiFactorapiFactorapiFactor0) (y:Unit):Nat:=(x.1.length+x.2.1.length+x.2.2.2.1.length+Int.toNat x.2.2.2.2.1+Int.toNat x.2.2.2.2.2.1+1)
def zdv (zr:Factor→Factor→Bool×Int):Cx ty:=mkCx base 39 [(124,(zd2 zr))] [] [(2,[(0,.keep),(1,.keep),(2,.keep),(11,.keep),(12,.keep),(13,.keep)])] [(2,1,[(0,.keep),(1,.keep)]),(2,0,[(6,.keep)])] [(2,spW zdu zdr (zbl zr) (.inl default) zdn zdi)] []
theorem zhs (zr:Factor→Factor→Bool×Int):zW (zdv zr) (lp (body Tryz.f123) 0):=zK (id:=2) (V:=zdu) (B:=zdr) (W:=zbl zr) (z:=.inl default) (tr:=zdn) (m:=zdi)
def zb6 (zr:Factor→Factor→Bool×Int) (s1:List Factor) (s2:List Factor):Wy0 (Int):=.bn (zdq zr (s1.length+s2.length+s1.length+(Int.ofNat s1.length).toNat +Int.toNat 0+1) s1 s2 s1 (Int.ofNat s1.length) 0) fun r2=>.i (isL r2) (.k (getL r2)) (.i (decide (Int.ofNat (getR r2).1.length<Int.ofNat (getR r2).2.length)) (.k (-1:Int)) (.k 0))
def zbq (zr:Factor→Factor→Bool×Int) (s1:List Factor) (s2:List Factor):Bool×Int:=(zb6 zr s1 s2).fin default
theorem zgX (zr:Factor→Factor→Bool×Int) (zjY:Sound Tryz.prog base 124 (zd2 zr)):Sound Tryz.prog base 123 (zbJ (zbq zr)):=
 zn (cx':=(zdv zr)) zJ zl zw (zm ⟨zjY,trivial⟩) Tryz.call123 Tryz.func123 (c:=body Tryz.f123) (by kernel_rfl) (zh (l:=[lp (body Tryz.f123) 0]) (by kernel_rfl) ⟨zhs zr,trivial⟩) (sg:=⟨[.pure],[]⟩) (A:=zdJ) (res:=zdy) (W:=fun x=>zb6 zr x.1 x.2.1) (z:=default)
abbrev ttTslicesCompareFuncLapiWeightedLapiWeightedapiWeightedapiWeighted0:=List Weighted×List Weighted×Unit×List Weighted×Int×Int×Unit
abbrev ttTslicesCompareFuncLapiWeightedLapiWeightedapiWeightedapiWeighted1:=Int⊕(List Weighted×List Weighted)
def zfu (zB:Weighted→Weighted→Bool×Int) (s1:List Weighted) (s2:List Weighted) (t11:List Weighted) (t12:Int) (t13:Int):Wy ttTslicesCompareFuncLapiWeightedLapiWeightedapiWeightedapiWeighted0 (Unit) ttTslicesCompareFuncLapiWeightedLapiWeightedapiWeightedapiWeighted1:=.i (decide (t13<t12)) (.i (decide (0≤t13)&&decide (t13<Int.ofNat t11.length)) (.i (decide (t13≥Int.ofNat s2.length)) (.k (.inl 1)) (.i (decide (0≤t13)&&decide (t13<Int.ofNat s2.length)) (.bn (zB (t11.getD t13.toNat default) (s2.getD t13.toNat default)) fun r0=>.i (r0 != 0) (.k (.inl (r0))) (.h (s1,s2,(),t11,t12,(IntKind.i64.wrap (t13+1)),()) ())) .d)) .d) (.k (.inr (s1,s2)))
def zbO (zB:Weighted→Weighted→Bool×Int) (x:ttTslicesCompareFuncLapiWeightedLapiWeightedapiWeightedapiWeighted0) (y:Unit):Wy ttTslicesCompareFuncLapiWeightedLapiWeightedapiWeightedapiWeighted0 (Unit) ttTslicesCompareFuncLapiWeightedLapiWeightedapiWeightedapiWeighted1:=zfu zB x.1 x.2.1 x.2.2.2.1 x.2.2.2.2.1 x.2.2.2.2.2.1
def zfy (zB:Weighted→Weighted→Bool×Int) (n:Nat) (s1:List Weighted) (s2:List Weighted) (t11:List Weighted) (t12:Int) (t13:Int):Bool×ttTslicesCompareFuncLapiWeightedLapiWeightedapiWeightedapiWeighted1:=zX (zbO zB) (.inl default) n (s1,s2,(),t11,t12,t13,()) ()
def zcH (r:ttTslicesCompareFuncLapiWeightedLapiWeightedapiWeightedapiWeighted1):LTree ty:=.ite (isL r) (.done .ret [.lit (.int .i64 (getL r))] []) (.done (.exit 0) [.sl 52 (getR r).1,.sl 52 (getR r).2] [])
def zcL:LL ty ttTslicesCompareFuncLapiWeightedLapiWeightedapiWeightedapiWeighted0:=za (lSl 52) (za (lSl 52) (za (lFn 85 (zH)) (za (lSl 52) (za (lInt .i64) (za (lInt .i64) zH)))))
def zcK:BL ty (Unit):=bNil
def zcF (x:ttTslicesCompareFuncLapiWeightedLapiWeightedapiWeightedapiWeighted0) (y:Unit):Nat:=(x.1.length+x.2.1.length+x.2.2.2.1.length+Int.toNat x.2.2.2.2.1+Int.toNat x.2.2.2.2.2.1+1)
def zcM (zB:Weighted→Weighted→Bool×Int):Cx ty:=mkCx base 39 [(85,(zdE zB))] [] [(2,[(0,.keep),(1,.keep),(2,.keep),(11,.keep),(12,.keep),(13,.keep)])] [(2,1,[(0,.keep),(1,.keep)]),(2,0,[(6,.keep)])] [(2,spW zcL zcK (zbO zB) (.inl default) zcH zcF)] []
theorem zfh (zB:Weighted→Weighted→Bool×Int):zW (zcM zB) (lp (body Tryz.f127) 0):=zK (id:=2) (V:=zcL) (B:=zcK) (W:=zbO zB) (z:=.inl default) (tr:=zcH) (m:=zcF)
def zcS (zB:Weighted→Weighted→Bool×Int) (s1:List Weighted) (s2:List Weighted):Wy0 (Int):=.bn (zfy zB (s1.length+s2.length+s1.length+(Int.ofNat s1.length).toNat +Int.toNat 0+1) s1 s2 s1 (Int.ofNat s1.length) 0) fun r2=>.i (isL r2) (.k (getL r2)) (.i (decide (Int.ofNat (getR r2).1.length<Int.ofNat (getR r2).2.length)) (.k (-1:Int)) (.k 0))
def zbx (zB:Weighted→Weighted→Bool×Int) (s1:List Weighted) (s2:List Weighted):Bool×Int:=(zcS zB s1 s2).fin default
theorem ze8 (zB:Weighted→Weighted→Bool×Int) (zkX:Sound Tryz.prog base 85 (zdE zB)):Sound Tryz.prog base 127 (zbw (zbx zB)):=
 zn (cx':=(zcM zB)) zJ zl zw (zm ⟨zkX,trivial⟩) Tryz.call127 Tryz.func127 (c:=body Tryz.f127) (by kernel_rfl) (zh (l:=[lp (body Tryz.f127) 0]) (by kernel_rfl) ⟨zfh zB,trivial⟩) (sg:=⟨[.pure],[]⟩) (A:=zc0) (res:=zcU) (W:=fun x=>zcS zB x.1 x.2.1) (z:=default)
abbrev ttTslicesCompareFuncapiAnnotationapiAnnotationapiTermapiTerm0:=List Term×List Term×Unit×List Term×Int×Int×Unit
abbrev ttTslicesCompareFuncapiAnnotationapiAnnotationapiTermapiTerm1:=Int⊕(List Term×List Term)
def zg9 (zG:Term→Term→Bool×Int) (s1:List Term) (s2:List Term) (t11:List Term) (t12:Int) (t13:Int):Wy ttTslicesCompareFuncapiAnnotationapiAnnotationapiTermapiTerm0 (Unit) ttTslicesCompareFuncapiAnnotationapiAnnotationapiTermapiTerm1:=.i (decide (t13<t12)) (.i (decide (0≤t13)&&decide (t13<Int.ofNat t11.length)) (.i (decide (t13≥Int.ofNat s2.length)) (.k (.inl 1)) (.i (decide (0≤t13)&&decide (t13<Int.ofNat s2.length)) (.bn (zG (t11.getD t13.toNat default) (s2.getD t13.toNat default)) fun r0=>.i (r0 != 0) (.k (.inl (r0))) (.h (s1,s2,(),t11,t12,(IntKind.i64.wrap (t13+1)),()) ())) .d)) .d) (.k (.inr (s1,s2)))
def zbT (zG:Term→Term→Bool×Int) (x:ttTslicesCompareFuncapiAnnotationapiAnnotationapiTermapiTerm0) (y:Unit):Wy ttTslicesCompareFuncapiAnnotationapiAnnotationapiTermapiTerm0 (Unit) ttTslicesCompareFuncapiAnnotationapiAnnotationapiTermapiTerm1:=zg9 zG x.1 x.2.1 x.2.2.2.1 x.2.2.2.2.1 x.2.2.2.2.2.1
def zg8 (zG:Term→Term→Bool×Int) (n:Nat) (s1:List Term) (s2:List Term) (t11:List Term) (t12:Int) (t13:Int):Bool×ttTslicesCompareFuncapiAnnotationapiAnnotationapiTermapiTerm1:=zX (zbT zG) (.inl default) n (s1,s2,(),t11,t12,t13,()) ()
def zc8 (r:ttTslicesCompareFuncapiAnnotationapiAnnotationapiTermapiTerm1):LTree ty:=.ite (isL r) (.done .ret [.lit (.int .i64 (getL r))] []) (.done (.exit 0) [.sl 42 (getR r).1,.sl 42 (getR r).2] [])
def zdd:LL ty ttTslicesCompareFuncapiAnnotationapiAnnotationapiTermapiTerm0:=za (lSl 42) (za (lSl 42) (za (lFn 87 (zH)) (za (lSl 42) (za (lInt .i64) (za (lInt .i64) zH)))))
def zdf:BL ty (Unit):=bNil
def zc7 (x:ttTslicesCompareFuncapiAnnotationapiAnnotationapiTermapiTerm0) (y:Unit):Nat:=(x.1.length+x.2.1.length+x.2.2.2.1.length+Int.toNat x.2.2.2.2.1+Int.toNat x.2.2.2.2.2.1+1)
def zde (zG:Term→Term→Bool×Int):Cx ty:=mkCx base 39 [(87,(ze2 zG))] [] [(2,[(0,.keep),(1,.keep),(2,.keep),(11,.keep),(12,.keep),(13,.keep)])] [(2,1,[(0,.keep),(1,.keep)]),(2,0,[(6,.keep)])] [(2,spW zdd zdf (zbT zG) (.inl default) zc8 zc7)] []
theorem zgJ (zG:Term→Term→Bool×Int):zW (zde zG) (lp (body Tryz.f86) 0):=zK (id:=2) (V:=zdd) (B:=zdf) (W:=zbT zG) (z:=.inl default) (tr:=zc8) (m:=zc7)
def zdk (zG:Term→Term→Bool×Int) (s1:List Term) (s2:List Term):Wy0 (Int):=.bn (zg8 zG (s1.length+s2.length+s1.length+(Int.ofNat s1.length).toNat +Int.toNat 0+1) s1 s2 s1 (Int.ofNat s1.length) 0) fun r2=>.i (isL r2) (.k (getL r2)) (.i (decide (Int.ofNat (getR r2).1.length<Int.ofNat (getR r2).2.length)) (.k (-1:Int)) (.k 0))
def zbF (zG:Term→Term→Bool×Int) (s1:List Term) (s2:List Term):Bool×Int:=(zdk zG s1 s2).fin default
theorem zge (zG:Term→Term→Bool×Int) (zma:Sound Tryz.prog base 87 (ze2 zG)):Sound Tryz.prog base 86 (zbD (zbF zG)):=
 zn (cx':=(zde zG)) zJ zl zw (zm ⟨zma,trivial⟩) Tryz.call86 Tryz.func86 (c:=body Tryz.f86) (by kernel_rfl) (zh (l:=[lp (body Tryz.f86) 0]) (by kernel_rfl) ⟨zgJ zG,trivial⟩) (sg:=⟨[.pure],[]⟩) (A:=zdx) (res:=zdo) (W:=fun x=>zdk zG x.1 x.2.1) (z:=default)
def zbS:Nat→(List Term→List Term→Bool×Int)×(Term→Term→Bool×Int)×(Term→Term→Bool×Int)×(Factor→Factor→Bool×Int)×(Atom→Atom→Bool×Int)×(Weighted→Weighted→Bool×Int)×(List Term→List Term→Bool×Int)×(List Factor→List Factor→Bool×Int)×(List (List Term)→List (List Term)→Bool×Int)×(List Weighted→List Weighted→Bool×Int)
 | 0=>(fun _ _=>(false,default),fun _ _=>(false,default),fun _ _=>(false,default),fun _ _=>(false,default),fun _ _=>(false,default),fun _ _=>(false,default),fun _ _=>(false,default),fun _ _=>(false,default),fun _ _=>(false,default),fun _ _=>(false,default))
 | n+1=>(zmu ((zbS n).2.2.2.2.2.2.1) ((zbS n).2.1),zj6 ((zbS n).2.2.1),ziS ((zbS n).2.2.2.2.2.2.2.1) ((zbS n).2.2.2.1),zh9 ((zbS n).2.2.2.2.1),ziR ((zbS n).1) ((zbS n).2.2.2.2.2.1) ((zbS n).2.2.2.2.2.2.2.2.1) ((zbS n).2.2.2.2.2.2.2.2.2),ziV ((zbS n).1),zbF ((zbS n).2.1),zbq ((zbS n).2.2.2.1),zbm ((zbS n).1),zbx ((zbS n).2.2.2.2.2.1))
def ze4 (n:Nat):List Term→List Term→Bool×Int:=(zbS n).1
def zhA (n:Nat):Term→Term→Bool×Int:=(zbS n).2.1
def zf4 (n:Nat):Term→Term→Bool×Int:=(zbS n).2.2.1
def zeX (n:Nat):Factor→Factor→Bool×Int:=(zbS n).2.2.2.1
def zf9 (n:Nat):Atom→Atom→Bool×Int:=(zbS n).2.2.2.2.1
def zep (n:Nat):Weighted→Weighted→Bool×Int:=(zbS n).2.2.2.2.2.1
def zbG (n:Nat):List Term→List Term→Bool×Int:=(zbS n).2.2.2.2.2.2.1
def zbI (n:Nat):List Factor→List Factor→Bool×Int:=(zbS n).2.2.2.2.2.2.2.1
def zbn (n:Nat):List (List Term)→List (List Term)→Bool×Int:=(zbS n).2.2.2.2.2.2.2.2.1
def zby (n:Nat):List Weighted→List Weighted→Bool×Int:=(zbS n).2.2.2.2.2.2.2.2.2
theorem zFm (n:Nat):ze4 (n+1)=zmu (zbG n) (zhA n):=rfl
theorem zBQ (n:Nat):zhA (n+1)=zj6 (zf4 n):=rfl
theorem zzG (n:Nat):zf4 (n+1)=ziS (zbI n) (zeX n):=rfl
theorem zw8 (n:Nat):zeX (n+1)=zh9 (zf9 n):=rfl
theorem zzd (n:Nat):zf9 (n+1)=ziR (ze4 n) (zep n) (zbn n) (zby n):=rfl
theorem zzb (n:Nat):zep (n+1)=ziV (ze4 n):=rfl
theorem zha (n:Nat):zbG (n+1)=zbF (zhA n):=rfl
theorem zhB (n:Nat):zbI (n+1)=zbq (zeX n):=rfl
theorem zew (n:Nat):zbn (n+1)=zbm (ze4 n):=rfl
theorem zft (n:Nat):zby (n+1)=zbx (zep n):=rfl
theorem zqQ:∀ n,Sound Tryz.prog base 38 (zdF (ze4 n))∧Sound Tryz.prog base 87 (ze2 (zhA n))∧Sound Tryz.prog base 71 (zfR (zf4 n))∧Sound Tryz.prog base 124 (zd2 (zeX n))∧Sound Tryz.prog base 73 (zfY (zf9 n))∧Sound Tryz.prog base 85 (zdE (zep n))∧Sound Tryz.prog base 86 (zbD (zbG n))∧Sound Tryz.prog base 123 (zbJ (zbI n))∧Sound Tryz.prog base 126 (zbo (zbn n))∧Sound Tryz.prog base 127 (zbw (zby n))
 | 0=>⟨zbj Tryz.call38 (fun _=>rfl),zbj Tryz.call87 (fun _=>rfl),zbj Tryz.call71 (fun _=>rfl),zbj Tryz.call124 (fun _=>rfl),zbj Tryz.call73 (fun _=>rfl),zbj Tryz.call85 (fun _=>rfl),zbj Tryz.call86 (fun _=>rfl),zbj Tryz.call123 (fun _=>rfl),zbj Tryz.call126 (fun _=>rfl),zbj Tryz.call127 (fun _=>rfl)⟩
 | n+1=>by
  have ih:=zqQ n
  exact ⟨zBO _ _ (ih.2.2.2.2.2.2.1) (ih.2.1),zyj _ (ih.2.2.1),zwM _ _ (ih.2.2.2.2.2.2.2.1) (ih.2.2.2.1),zu3 _ (ih.2.2.2.2.1),zwP _ _ _ _ (ih.1) (ih.2.2.2.2.2.1) (ih.2.2.2.2.2.2.2.2.1) (ih.2.2.2.2.2.2.2.2.2),zwO _ (ih.1),zge _ (ih.2.1),zgX _ (ih.2.2.2.1),zeh _ (ih.1),ze8 _ (ih.2.2.2.2.2.1)⟩
def zsM:List Term→List Term→Bool×Int:=ze4 1000
def annotation_Compare_spec:Ab.Spec ty:=zdF zsM
theorem zEK:Sound Tryz.prog base 38 annotation_Compare_spec:=(zqQ 1000).1
def zbL:Term→Term→Bool×Int:=zf4 1000
def annotation_compareLists_spec:Ab.Spec ty:=zfR zbL
theorem zjZ:Sound Tryz.prog base 71 annotation_compareLists_spec:=(zqQ 1000).2.2.1
def zhL:Atom→Atom→Bool×Int:=zf9 1000
def annotation_compareAtoms_spec:Ab.Spec ty:=zfY zhL
theorem zoQ:Sound Tryz.prog base 73 annotation_compareAtoms_spec:=(zqQ 1000).2.2.2.2.1
def zbc:Weighted→Weighted→Bool×Int:=zep 1000
def annotation_compareItems_spec:Ab.Spec ty:=zdE zbc
theorem zgA:Sound Tryz.prog base 85 annotation_compareItems_spec:=(zqQ 1000).2.2.2.2.2.1
def zyb (r:Bool):ARes ty:=⟨[.pure (.lit (.bool r))],[]⟩
def zA5:AL base (List Term×Unit):=zf (zg (vSl 42)) aNil
def zg0 (F:List Term→Bool×Bool):Ab.Spec ty:=zk zA5 fun x=>((F x.1).1,zyb (F x.1).2)
def zca (r:Bool):ARes ty:=⟨[.pure (.lit (.bool r))],[]⟩
def zvd:AL base (Atom×Unit):=zf (zg (vAgg 48)) aNil
def zkK (F:Atom→Bool×Bool):Ab.Spec ty:=zk zvd fun x=>((F x.1).1,zca (F x.1).2)
def zqh (r:Bool):ARes ty:=⟨[.pure (.lit (.bool r))],[]⟩
def zrI:AL base (List Term×Unit):=zf (zg (vSl 42)) aNil
def zcX (F:List Term→Bool×Bool):Ab.Spec ty:=zk zrI fun x=>((F x.1).1,zqh (F x.1).2)
def zp9 (r:Bool):ARes ty:=⟨[.pure (.lit (.bool r))],[]⟩
def zrJ:AL base (Weighted×Unit):=zf (zg (vAgg 52)) aNil
def zcY (F:Weighted→Bool×Bool):Ab.Spec ty:=zk zrJ fun x=>((F x.1).1,zp9 (F x.1).2)
def zeR (r:Int):ARes ty:=⟨[.pure (.lit (.int .i64 r))],[]⟩
def zfj:AL base (List (List Term)×Unit×Unit):=zf (zg (vSl 23)) (zf (zg (vFn 130 vNil)) aNil)
def zcd (F:List (List Term)→Bool×Int):Ab.Spec ty:=zk zfj fun x=>((F x.1).1,zeR (F x.1).2)
def zeu (r:Bool):ARes ty:=⟨[.pure (.lit (.bool r))],[]⟩
def zeQ:AL base (List (List Term)×Unit×Unit):=zf (zg (vSl 23)) (zf (zg (vFn 130 vNil)) aNil)
def zb1 (F:List (List Term)→Bool×Bool):Ab.Spec ty:=zk zeQ fun x=>((F x.1).1,zeu (F x.1).2)
def zf2 (r:Int):ARes ty:=⟨[.pure (.lit (.int .i64 r))],[]⟩
def zgH:AL base (List Weighted×Unit×Unit):=zf (zg (vSl 52)) (zf (zg (vFn 131 vNil)) aNil)
def zcz (F:List Weighted→Bool×Int):Ab.Spec ty:=zk zgH fun x=>((F x.1).1,zf2 (F x.1).2)
def zfb (r:Bool):ARes ty:=⟨[.pure (.lit (.bool r))],[]⟩
def zfA:AL base (List Weighted×Unit×Unit):=zf (zg (vSl 52)) (zf (zg (vFn 131 vNil)) aNil)
def zcm (F:List Weighted→Bool×Bool):Ab.Spec ty:=zk zfA fun x=>((F x.1).1,zfb (F x.1).2)
def zE5:Cx ty:=mkCx base 11 [] [] [] [] [] []
def znN (x_:Atom):Wy0 (Bool):=.i (x_.Kind==3) (.k true) (.k (x_.Kind==4))
def zez (x_:Atom):Bool×Bool:=(znN x_).fin default
def zrV (r:Bool):ARes ty:=⟨[.pure (.lit (.bool r))],[]⟩
def zum:AL base (Atom×Unit):=zf (zg (vAgg 48)) aNil
def zio:Ab.Spec ty:=zk zum fun x=>((zez x.1).1,zrV (zez x.1).2)
theorem zkW:Sound Tryz.prog base 72 zio:=
 zn (cx':=zE5) zJ zl zw (zm trivial) Tryz.call72 Tryz.func72 (c:=body Tryz.f72) (by kernel_rfl) (zh (l:=[]) (by kernel_rfl) trivial) (sg:=⟨[.pure],[]⟩) (A:=zum) (res:=zrV) (W:=fun x=>znN x.1) (z:=default)
def zyK (r:Int):ARes ty:=⟨[.pure (.lit (.int .i64 r))],[]⟩
def zCs:AL base (List Term×Unit):=zf (zg (vSl 42)) aNil
def zl5 (F:List Term→Bool×Int):Ab.Spec ty:=zk zCs fun x=>((F x.1).1,zyK (F x.1).2)
end Go.Proofs.YtnolcogncjijpaaGreatDoor
end
