/- Texts of this claim, joined (the program, its functions in plain words, and what they compute). -/
import Derived.KernelRfl
import Derived.Shelf.Strconv.Itoa3
import Derived.Stop.LaidErr
import Derived.Shelf.Vars
import Derived.Shelf.SlSortCmp.NoneTotal
import Derived.Shelf.Strings.OnBuilder
import Derived.Shelf.Strconv.Itoa4
import Derived.Shelf.Small.Strs
import Derived.Shelf.Strings.Replace
import Derived.Shelf.Small.Bits
import Derived.Test.YtnolcogncjijpaaGreatDoorChecked
import Derived.Test.YtnolcogncjijpaaGreatDoorRows
import Derived.Test.YtnolcogncjijpaaGreatDoorProg
import Derived.Test.YtnolcogncjijpaaGreatDoorGA2
import Derived.Test.YtnolcogncjijpaaGreatDoorGB1
set_option autoImplicit false
set_option linter.unusedVariables false
set_option linter.unusedSectionVars false
set_option linter.unusedSimpArgs false
set_option maxRecDepth 1000000
set_option maxHeartbeats 0
/- The types of the program, as plain data. -/
noncomputable section
namespace Go.Proofs.YtnolcogncjijpaaGreatDoor
open Go Go.Ab
open Go.Proofs Go.Shelf
structure RowID where
 Table:Int
 Seq:Int
 deriving DecidableEq,Inhabited
structure Value where
 Kind:Int
 Int:Int
 Text:ByteArray
 deriving DecidableEq,Inhabited
structure FactorOf (A:Type) where
 Atom:A
 Exp:Int
structure TermOf (A:Type) where
 Coeff:Int
 Factors:List (FactorOf A)
structure WeightedOf (A:Type) where
 Value:Value
 Ann:List (TermOf A)
structure Atom where
 Kind:Int
 Row:RowID
 Args:List (List (TermOf Atom))
 Func:Int
 Items:List (WeightedOf Atom)
 Op:Int
 Bound:Value
abbrev Factor:=FactorOf Atom
abbrev Term:=TermOf Atom
abbrev Weighted:=WeightedOf Atom
instance:Inhabited Atom:=⟨⟨0,default,[],0,[],0,default⟩⟩
instance:Inhabited Factor:=⟨⟨default,0⟩⟩
instance:Inhabited Term:=⟨⟨0,[]⟩⟩
instance:Inhabited Weighted:=⟨⟨default,[]⟩⟩
theorem Atom.eta (x:Atom):(⟨x.Kind,x.Row,x.Args,x.Func,x.Items,x.Op,x.Bound⟩:Atom)=x:=by cases x; rfl
mutual
def zLT:(x y:Atom)→Decidable (x=y)
 | ⟨k,r,a,f,i,o,b⟩,⟨k',r',a',f',i',o',b'⟩=>
  match decEq k k',decEq r r',zL8 a a',decEq f f',zKF i i',decEq o o',decEq b b' with
  | .isTrue h1,.isTrue h2,.isTrue h3,.isTrue h4,.isTrue h5,.isTrue h6,.isTrue h7=>.isTrue (by subst h1 h2 h3 h4 h5 h6 h7; rfl)
  | .isFalse h,_,_,_,_,_,_=>.isFalse (fun e=>by cases e; exact h rfl)
  | _,.isFalse h,_,_,_,_,_=>.isFalse (fun e=>by cases e; exact h rfl)
  | _,_,.isFalse h,_,_,_,_=>.isFalse (fun e=>by cases e; exact h rfl)
  | _,_,_,.isFalse h,_,_,_=>.isFalse (fun e=>by cases e; exact h rfl)
  | _,_,_,_,.isFalse h,_,_=>.isFalse (fun e=>by cases e; exact h rfl)
  | _,_,_,_,_,.isFalse h,_=>.isFalse (fun e=>by cases e; exact h rfl)
  | _,_,_,_,_,_,.isFalse h=>.isFalse (fun e=>by cases e; exact h rfl)
def zJF:(x y:Factor)→Decidable (x=y)
 | ⟨a,e⟩,⟨a',e'⟩=>match zLT a a',decEq e e' with
  | .isTrue h1,.isTrue h2=>.isTrue (by subst h1 h2; rfl)
  | .isFalse h,_=>.isFalse (fun e=>by cases e; exact h rfl)
  | _,.isFalse h=>.isFalse (fun e=>by cases e; exact h rfl)
def zHs:(x y:List Factor)→Decidable (x=y)
 | [],[]=>.isTrue rfl
 | [],_::_=>.isFalse (by simp)
 | _::_,[]=>.isFalse (by simp)
 | x::r,y::s=>match zJF x y,zHs r s with
  | .isTrue h1,.isTrue h2=>.isTrue (by subst h1 h2; rfl)
  | .isFalse h,_=>.isFalse (fun e=>by cases e; exact h rfl)
  | _,.isFalse h=>.isFalse (fun e=>by cases e; exact h rfl)
def zL6:(x y:Term)→Decidable (x=y)
 | ⟨a,e⟩,⟨a',e'⟩=>match decEq a a',zHs e e' with
  | .isTrue h1,.isTrue h2=>.isTrue (by subst h1 h2; rfl)
  | .isFalse h,_=>.isFalse (fun e=>by cases e; exact h rfl)
  | _,.isFalse h=>.isFalse (fun e=>by cases e; exact h rfl)
def zLa:(x y:List Term)→Decidable (x=y)
 | [],[]=>.isTrue rfl
 | [],_::_=>.isFalse (by simp)
 | _::_,[]=>.isFalse (by simp)
 | x::r,y::s=>match zL6 x y,zLa r s with
  | .isTrue h1,.isTrue h2=>.isTrue (by subst h1 h2; rfl)
  | .isFalse h,_=>.isFalse (fun e=>by cases e; exact h rfl)
  | _,.isFalse h=>.isFalse (fun e=>by cases e; exact h rfl)
def zL8:(x y:List (List Term))→Decidable (x=y)
 | [],[]=>.isTrue rfl
 | [],_::_=>.isFalse (by simp)
 | _::_,[]=>.isFalse (by simp)
 | x::r,y::s=>match zLa x y,zL8 r s with
  | .isTrue h1,.isTrue h2=>.isTrue (by subst h1 h2; rfl)
  | .isFalse h,_=>.isFalse (fun e=>by cases e; exact h rfl)
  | _,.isFalse h=>.isFalse (fun e=>by cases e; exact h rfl)
def zMo:(x y:Weighted)→Decidable (x=y)
 | ⟨a,e⟩,⟨a',e'⟩=>match decEq a a',zLa e e' with
  | .isTrue h1,.isTrue h2=>.isTrue (by subst h1 h2; rfl)
  | .isFalse h,_=>.isFalse (fun e=>by cases e; exact h rfl)
  | _,.isFalse h=>.isFalse (fun e=>by cases e; exact h rfl)
def zKF:(x y:List Weighted)→Decidable (x=y)
 | [],[]=>.isTrue rfl
 | [],_::_=>.isFalse (by simp)
 | _::_,[]=>.isFalse (by simp)
 | x::r,y::s=>match zMo x y,zKF r s with
  | .isTrue h1,.isTrue h2=>.isTrue (by subst h1 h2; rfl)
  | .isFalse h,_=>.isFalse (fun e=>by cases e; exact h rfl)
  | _,.isFalse h=>.isFalse (fun e=>by cases e; exact h rfl)
end
instance:DecidableEq Atom:=zLT
instance:DecidableEq Factor:=zJF
instance:DecidableEq Term:=zL6
instance:DecidableEq Weighted:=zMo
structure Binding where
 Row:RowID
 To:List Term
 deriving DecidableEq,Inhabited
def ty:Nat→Type
 | 2=>Int
 | 3=>Int
 | 4=>Bool
 | 5=>Int
 | 9=>ByteArray
 | 22=>List Term
 | 23=>List Term
 | 25=>RowID
 | 28=>Int
 | 40=>List Factor
 | 42=>Term
 | 43=>List (List Term)
 | 44=>List Weighted
 | 46=>Value
 | 48=>Atom
 | 50=>Factor
 | 52=>Weighted
 | 59=>List Binding
 | 65=>List RowID
 | 69=>Binding
 | 106=>Unit
 | 128=>List Int
 | 136=>List ByteArray
 | 143=>Int
 | 144=>List (List Factor)
 | _=>Unit
instance:(T:Nat)→Inhabited (ty T):=fun T=>by
 unfold ty
 split <;>infer_instance
def dt25:DT ty RowID:=zDK (fun x=>⟨x.1,x.2⟩) (fun x=>(x.Table,x.Seq)) (fun _=>rfl) (zoA (zqw .i64) (zqw .i64))
def dt46:DT ty Value:=zDK (fun x=>⟨x.1,x.2.1,x.2.2⟩) (fun x=>(x.Kind,x.Int,x.Text)) (fun _=>rfl) (zoA (zqw .i64) (zoA (zqw .i64) (zPs)))
def dt48:DT ty Atom:=zDK (fun x=>⟨x.1,x.2.1,x.2.2.1,x.2.2.2.1,x.2.2.2.2.1,x.2.2.2.2.2.1,x.2.2.2.2.2.2⟩) (fun x=>(x.Kind,x.Row,x.Args,x.Func,x.Items,x.Op,x.Bound)) (fun _=>rfl) (zoA (zqw .i64) (zoA (dt25) (zoA (dtSl 23) (zoA (zqw .i64) (zoA (dtSl 52) (zoA (zqw .i64) (dt46)))))))
def dt50:DT ty Factor:=zDK (fun x=>⟨x.1,x.2⟩) (fun x=>(x.Atom,x.Exp)) (fun _=>rfl) (zoA (dt48) (zqw .i64))
def dt42:DT ty Term:=zDK (fun x=>⟨x.1,x.2⟩) (fun x=>(x.Coeff,x.Factors)) (fun _=>rfl) (zoA (zqw .i64) (dtSl 50))
def dt52:DT ty Weighted:=zDK (fun x=>⟨x.1,x.2⟩) (fun x=>(x.Value,x.Ann)) (fun _=>rfl) (zoA (dt46) (dtSl 42))
def dt69:DT ty Binding:=zDK (fun x=>⟨x.1,x.2⟩) (fun x=>(x.Row,x.To)) (fun _=>rfl) (zoA (dt25) (dtSl 42))
def zH1:List ((T:Nat)×DT ty (ty T)):=[⟨2,(zqw .i64:DT ty Int)⟩,⟨3,(zqw .i64:DT ty Int)⟩,⟨4,(zQF:DT ty Bool)⟩,⟨5,(zqw .u8:DT ty Int)⟩,⟨9,(zPs:DT ty ByteArray)⟩,⟨22,(dtSl 42:DT ty (List Term))⟩,⟨23,(dtSl 42:DT ty (List Term))⟩,⟨25,(dt25:DT ty RowID)⟩,⟨28,(zqw .i64:DT ty Int)⟩,⟨40,(dtSl 50:DT ty (List Factor))⟩,⟨42,(dt42:DT ty Term)⟩,⟨43,(dtSl 23:DT ty (List (List Term)))⟩,⟨44,(dtSl 52:DT ty (List Weighted))⟩,⟨46,(dt46:DT ty Value)⟩,⟨48,(dt48:DT ty Atom)⟩,⟨50,(dt50:DT ty Factor)⟩,⟨52,(dt52:DT ty Weighted)⟩,⟨59,(dtSl 69:DT ty (List Binding))⟩,⟨65,(dtSl 25:DT ty (List RowID))⟩,⟨69,(dt69:DT ty Binding)⟩,⟨106,(dtMp:DT ty Unit)⟩,⟨128,(dtSl 3:DT ty (List Int))⟩,⟨136,(dtSl 9:DT ty (List ByteArray))⟩,⟨143,(zqw .u64:DT ty Int)⟩,⟨144,(dtSl 40:DT ty (List (List Factor)))⟩]
def zJV:List (Nat×TInfo):=[(2,⟨.int .i64,1,8,[.int .i64 (0)]⟩),
 (3,⟨.int .i64,1,8,[.int .i64 (0)]⟩),
 (4,⟨.bool,1,1,[.bool false]⟩),
 (5,⟨.int .u8,1,1,[.int .u8 (0)]⟩),
 (9,⟨.str,1,16,[.string ⟨#[]⟩]⟩),
 (22,⟨.slice 42,1,24,[.slice none 0 0]⟩),
 (23,⟨.slice 42,1,24,[.slice none 0 0]⟩),
 (25,⟨.struct [(0,3),(1,3)],2,16,[.int .i64 (0),.int .i64 (0)]⟩),
 (28,⟨.int .i64,1,8,[.int .i64 (0)]⟩),
 (40,⟨.slice 50,1,24,[.slice none 0 0]⟩),
 (42,⟨.struct [(0,2),(1,40)],2,32,[.int .i64 (0),.slice none 0 0]⟩),
 (43,⟨.slice 23,1,24,[.slice none 0 0]⟩),
 (44,⟨.slice 52,1,24,[.slice none 0 0]⟩),
 (46,⟨.struct [(0,3),(1,2),(2,9)],3,32,[.int .i64 (0),.int .i64 (0),.string ⟨#[]⟩]⟩),
 (48,⟨.struct [(0,3),(1,25),(3,43),(4,3),(5,44),(6,3),(7,46)],10,120,[.int .i64 (0),.int .i64 (0),.int .i64 (0),.slice none 0 0,.int .i64 (0),.slice none 0 0,.int .i64 (0),.int .i64 (0),.int .i64 (0),.string ⟨#[]⟩]⟩),
 (50,⟨.struct [(0,48),(10,3)],11,128,[.int .i64 (0),.int .i64 (0),.int .i64 (0),.slice none 0 0,.int .i64 (0),.slice none 0 0,.int .i64 (0),.int .i64 (0),.int .i64 (0),.string ⟨#[]⟩,.int .i64 (0)]⟩),
 (52,⟨.struct [(0,46),(3,23)],4,56,[.int .i64 (0),.int .i64 (0),.string ⟨#[]⟩,.slice none 0 0]⟩),
 (59,⟨.slice 69,1,24,[.slice none 0 0]⟩),
 (65,⟨.slice 25,1,24,[.slice none 0 0]⟩),
 (69,⟨.struct [(0,25),(2,23)],3,40,[.int .i64 (0),.int .i64 (0),.slice none 0 0]⟩),
 (106,⟨.map 9 3,1,8,[.map none]⟩),
 (128,⟨.slice 3,1,24,[.slice none 0 0]⟩),
 (136,⟨.slice 9,1,24,[.slice none 0 0]⟩),
 (143,⟨.int .u64,1,8,[.int .u64 (0)]⟩),
 (144,⟨.slice 40,1,24,[.slice none 0 0]⟩)]
def zKX:List (Nat×List TD):=[(25,[.int .i64,.int .i64]),(46,[.int .i64,.int .i64,.str])]
def inv (w:World):Prop:=Lib.TabIs Tryz.prog w "internal/strconv.uint64pow10" .u64 Lib.pow10Tab∧(∃ m,w.cell? ⟨0,0,none⟩=some (.int .i64 m))
theorem zOA {n:String} {g:Nat} {w w':World} (hg:Tryz.prog.globalNamed n=some g) (h:w'.heap[g]? =w.heap[g]?):w'.var? Tryz.prog n=w.var? Tryz.prog n:=by
 unfold World.var?; rw [hg]; simp only [Option.bind_some,h]
theorem zMO (w w':World) (hi:inv w) (hb:∀ b,b<4→w'.heap[b]? =w.heap[b]?):inv w':=by
 obtain ⟨h1,⟨m,h2⟩⟩:=hi
 refine ⟨(zOA (g:=1) (by kernel_rfl) (hb 1 (by omega))).trans h1,⟨m, ?_⟩⟩
 rw [← h2]; exact World.cell?_of_block (a:=⟨0,0,none⟩) (hb 0 (by omega))
def base:Cx ty:={ ti:=fun T=>zJV.lookup T,dflt:=fun _=>default,enc:=fun T=>(tabT zH1 T).enc,dec:=fun T=>(tabT zH1 T).dec,spec:=fun _=>none,io:=fun _=>[],eqs:=fun T us vs=>match zKX.lookup T with | some ts=>zfV ts us vs | none=>none,nt:=0,head:=fun _=>[],out:=fun _ _=>[],loops:=fun _=>none,ng:=4,inv:=inv }
theorem zMW:Tryz.prog.info? 2=some Tryz.t2:=by kernel_rfl
theorem zBE:Tryz.prog.info? 3=some Tryz.t3:=by kernel_rfl
theorem zRl:Tryz.prog.info? 4=some Tryz.t4:=by kernel_rfl
theorem zRa:Tryz.prog.info? 5=some Tryz.t5:=by kernel_rfl
theorem zPm:Tryz.prog.info? 9=some Tryz.t9:=by kernel_rfl
theorem zQE:Tryz.prog.info? 22=some Tryz.t22:=by kernel_rfl
theorem zKO:Tryz.prog.info? 23=some Tryz.t23:=by kernel_rfl
theorem zKu:Tryz.prog.info? 25=some Tryz.t25:=by kernel_rfl
theorem zQO:Tryz.prog.info? 28=some Tryz.t28:=by kernel_rfl
theorem zOd:Tryz.prog.info? 40=some Tryz.t40:=by kernel_rfl
theorem zQV:Tryz.prog.info? 42=some Tryz.t42:=by kernel_rfl
theorem zNt:Tryz.prog.info? 43=some Tryz.t43:=by kernel_rfl
theorem zN9:Tryz.prog.info? 44=some Tryz.t44:=by kernel_rfl
theorem zLj:Tryz.prog.info? 46=some Tryz.t46:=by kernel_rfl
theorem zN2:Tryz.prog.info? 48=some Tryz.t48:=by kernel_rfl
theorem zQ3:Tryz.prog.info? 50=some Tryz.t50:=by kernel_rfl
theorem zQN:Tryz.prog.info? 52=some Tryz.t52:=by kernel_rfl
theorem zQH:Tryz.prog.info? 59=some Tryz.t59:=by kernel_rfl
theorem zQP:Tryz.prog.info? 65=some Tryz.t65:=by kernel_rfl
theorem zQA:Tryz.prog.info? 69=some Tryz.t69:=by kernel_rfl
theorem zPL:Tryz.prog.info? 106=some Tryz.t106:=by kernel_rfl
theorem zPG:Tryz.prog.info? 128=some Tryz.t128:=by kernel_rfl
theorem zP4:Tryz.prog.info? 136=some Tryz.t136:=by kernel_rfl
theorem zP0:Tryz.prog.info? 143=some Tryz.t143:=by kernel_rfl
theorem zQm:Tryz.prog.info? 144=some Tryz.t144:=by kernel_rfl
theorem zPN:∀ T i,zJV.lookup T=some i→InfoOK Tryz.prog T i:=by
 intro T i h
 have h:=zyH _ _ _ h
 simp only [zJV,List.mem_cons,List.not_mem_nil,or_false,Prod.mk.injEq] at h
 rcases h with ⟨rfl,rfl⟩ | ⟨rfl,rfl⟩ | ⟨rfl,rfl⟩ | ⟨rfl,rfl⟩ | ⟨rfl,rfl⟩ | ⟨rfl,rfl⟩ | ⟨rfl,rfl⟩ | ⟨rfl,rfl⟩ | ⟨rfl,rfl⟩ | ⟨rfl,rfl⟩ | ⟨rfl,rfl⟩ | ⟨rfl,rfl⟩ | ⟨rfl,rfl⟩ | ⟨rfl,rfl⟩ | ⟨rfl,rfl⟩ | ⟨rfl,rfl⟩ | ⟨rfl,rfl⟩ | ⟨rfl,rfl⟩ | ⟨rfl,rfl⟩ | ⟨rfl,rfl⟩ | ⟨rfl,rfl⟩ | ⟨rfl,rfl⟩ | ⟨rfl,rfl⟩ | ⟨rfl,rfl⟩ | ⟨rfl,rfl⟩
 ·exact ⟨Tryz.t2,_,_,zMW,Tryz.underlying2,rfl,rfl,rfl,rfl,rfl,⟨by simp [zbY],fun _=>rfl⟩,rfl⟩
 ·exact ⟨Tryz.t3,_,_,zBE,Tryz.underlying3,rfl,rfl,rfl,rfl,rfl,⟨by simp [zbY],fun _=>rfl⟩,rfl⟩
 ·exact ⟨Tryz.t4,_,_,zRl,Tryz.underlying4,rfl,rfl,rfl,rfl,rfl,⟨by simp [zbY],fun _=>rfl⟩,rfl⟩
 ·exact ⟨Tryz.t5,_,_,zRa,Tryz.underlying5,rfl,rfl,rfl,rfl,rfl,⟨by simp [zbY],fun _=>rfl⟩,rfl⟩
 ·exact ⟨Tryz.t9,_,_,zPm,Tryz.underlying9,rfl,rfl,rfl,rfl,rfl,⟨by simp [zbY],fun _=>rfl⟩,rfl⟩
 ·exact ⟨Tryz.t22,_,_,zQE,Tryz.underlying22,rfl,rfl,rfl,rfl,rfl,⟨by simp [zbY],fun _=>rfl⟩,rfl⟩
 ·exact ⟨Tryz.t23,_,_,zKO,Tryz.underlying23,rfl,rfl,rfl,rfl,rfl,⟨by simp [zbY],fun _=>rfl⟩,rfl⟩
 ·exact ⟨Tryz.t25,_,_,zKu,Tryz.underlying25,rfl,rfl,rfl,rfl,rfl,⟨by simp [zbY],fun h=>by cases h⟩,⟨_,rfl,rfl,fun f hf=>by
   simp only [List.mem_cons,List.not_mem_nil,or_false] at hf
   rcases hf with rfl | rfl
   ·exact Option.isSome_iff_exists.2 ⟨_,zBE⟩
   ·exact Option.isSome_iff_exists.2 ⟨_,zBE⟩⟩⟩
 ·exact ⟨Tryz.t28,_,_,zQO,Tryz.underlying28,rfl,rfl,rfl,rfl,rfl,⟨by simp [zbY],fun _=>rfl⟩,rfl⟩
 ·exact ⟨Tryz.t40,_,_,zOd,Tryz.underlying40,rfl,rfl,rfl,rfl,rfl,⟨by simp [zbY],fun _=>rfl⟩,rfl⟩
 ·exact ⟨Tryz.t42,_,_,zQV,Tryz.underlying42,rfl,rfl,rfl,rfl,rfl,⟨by simp [zbY],fun h=>by cases h⟩,⟨_,rfl,rfl,fun f hf=>by
   simp only [List.mem_cons,List.not_mem_nil,or_false] at hf
   rcases hf with rfl | rfl
   ·exact Option.isSome_iff_exists.2 ⟨_,zMW⟩
   ·exact Option.isSome_iff_exists.2 ⟨_,zOd⟩⟩⟩
 ·exact ⟨Tryz.t43,_,_,zNt,Tryz.underlying43,rfl,rfl,rfl,rfl,rfl,⟨by simp [zbY],fun _=>rfl⟩,rfl⟩
 ·exact ⟨Tryz.t44,_,_,zN9,Tryz.underlying44,rfl,rfl,rfl,rfl,rfl,⟨by simp [zbY],fun _=>rfl⟩,rfl⟩
 ·exact ⟨Tryz.t46,_,_,zLj,Tryz.underlying46,rfl,rfl,rfl,rfl,rfl,⟨by simp [zbY],fun h=>by cases h⟩,⟨_,rfl,rfl,fun f hf=>by
   simp only [List.mem_cons,List.not_mem_nil,or_false] at hf
   rcases hf with rfl | rfl | rfl
   ·exact Option.isSome_iff_exists.2 ⟨_,zBE⟩
   ·exact Option.isSome_iff_exists.2 ⟨_,zMW⟩
   ·exact Option.isSome_iff_exists.2 ⟨_,zPm⟩⟩⟩
 ·exact ⟨Tryz.t48,_,_,zN2,Tryz.underlying48,rfl,rfl,rfl,rfl,rfl,⟨by simp [zbY],fun h=>by cases h⟩,⟨_,rfl,rfl,fun f hf=>by
   simp only [List.mem_cons,List.not_mem_nil,or_false] at hf
   rcases hf with rfl | rfl | rfl | rfl | rfl | rfl | rfl
   ·exact Option.isSome_iff_exists.2 ⟨_,zBE⟩
   ·exact Option.isSome_iff_exists.2 ⟨_,zKu⟩
   ·exact Option.isSome_iff_exists.2 ⟨_,zNt⟩
   ·exact Option.isSome_iff_exists.2 ⟨_,zBE⟩
   ·exact Option.isSome_iff_exists.2 ⟨_,zN9⟩
   ·exact Option.isSome_iff_exists.2 ⟨_,zBE⟩
   ·exact Option.isSome_iff_exists.2 ⟨_,zLj⟩⟩⟩
 ·exact ⟨Tryz.t50,_,_,zQ3,Tryz.underlying50,rfl,rfl,rfl,rfl,rfl,⟨by simp [zbY],fun h=>by cases h⟩,⟨_,rfl,rfl,fun f hf=>by
   simp only [List.mem_cons,List.not_mem_nil,or_false] at hf
   rcases hf with rfl | rfl
   ·exact Option.isSome_iff_exists.2 ⟨_,zN2⟩
   ·exact Option.isSome_iff_exists.2 ⟨_,zBE⟩⟩⟩
 ·exact ⟨Tryz.t52,_,_,zQN,Tryz.underlying52,rfl,rfl,rfl,rfl,rfl,⟨by simp [zbY],fun h=>by cases h⟩,⟨_,rfl,rfl,fun f hf=>by
   simp only [List.mem_cons,List.not_mem_nil,or_false] at hf
   rcases hf with rfl | rfl
   ·exact Option.isSome_iff_exists.2 ⟨_,zLj⟩
   ·exact Option.isSome_iff_exists.2 ⟨_,zKO⟩⟩⟩
 ·exact ⟨Tryz.t59,_,_,zQH,Tryz.underlying59,rfl,rfl,rfl,rfl,rfl,⟨by simp [zbY],fun _=>rfl⟩,rfl⟩
 ·exact ⟨Tryz.t65,_,_,zQP,Tryz.underlying65,rfl,rfl,rfl,rfl,rfl,⟨by simp [zbY],fun _=>rfl⟩,rfl⟩
 ·exact ⟨Tryz.t69,_,_,zQA,Tryz.underlying69,rfl,rfl,rfl,rfl,rfl,⟨by simp [zbY],fun h=>by cases h⟩,⟨_,rfl,rfl,fun f hf=>by
   simp only [List.mem_cons,List.not_mem_nil,or_false] at hf
   rcases hf with rfl | rfl
   ·exact Option.isSome_iff_exists.2 ⟨_,zKu⟩
   ·exact Option.isSome_iff_exists.2 ⟨_,zKO⟩⟩⟩
 ·exact ⟨Tryz.t106,_,_,zPL,Tryz.underlying106,rfl,rfl,rfl,rfl,rfl,⟨by simp [zbY],fun _=>rfl⟩,rfl⟩
 ·exact ⟨Tryz.t128,_,_,zPG,Tryz.underlying128,rfl,rfl,rfl,rfl,rfl,⟨by simp [zbY],fun _=>rfl⟩,rfl⟩
 ·exact ⟨Tryz.t136,_,_,zP4,Tryz.underlying136,rfl,rfl,rfl,rfl,rfl,⟨by simp [zbY],fun _=>rfl⟩,rfl⟩
 ·exact ⟨Tryz.t143,_,_,zP0,Tryz.underlying143,rfl,rfl,rfl,rfl,rfl,⟨by simp [zbY],fun _=>rfl⟩,rfl⟩
 ·exact ⟨Tryz.t144,_,_,zQm,Tryz.underlying144,rfl,rfl,rfl,rfl,rfl,⟨by simp [zbY],fun _=>rfl⟩,rfl⟩
theorem zOm:∀ T us vs b,(match zKX.lookup T with | some ts=>zfV ts us vs | none=>none)=some b→∀ w,(binOp .eql T (.agg us.toArray) (.agg vs.toArray)).run Tryz.prog w=.ok (.bool b) w∧(binOp .neq T (.agg us.toArray) (.agg vs.toArray)).run Tryz.prog w=.ok (.bool (!b)) w∧
  ∀ op x y,(eqGuard op T x y (.agg us.toArray) (.agg vs.toArray)).run Tryz.prog w=.ok () w:=by
 intro T us vs b h w
 split at h
 ·rename_i ts hl
  have hl:=zyH _ _ _ hl
  simp only [zKX,List.mem_cons,List.not_mem_nil,or_false,Prod.mk.injEq] at hl
  rcases hl with ⟨rfl,rfl⟩ | ⟨rfl,rfl⟩
  ·refine zHn _ _ Tryz.underlying25 (by kernel_rfl) (by kernel_rfl) rfl ?_ h w
   intro j f t hj ht
   rcases j with _ | j
   ·simp at hj ht; subst hj ht; exact ⟨rfl,by decide,_,Tryz.underlying3,rfl⟩
   rcases j with _ | j
   ·simp at hj ht; subst hj ht; exact ⟨rfl,by decide,_,Tryz.underlying3,rfl⟩
   simp at hj
  ·refine zHn _ _ Tryz.underlying46 (by kernel_rfl) (by kernel_rfl) rfl ?_ h w
   intro j f t hj ht
   rcases j with _ | j
   ·simp at hj ht; subst hj ht; exact ⟨rfl,by decide,_,Tryz.underlying3,rfl⟩
   rcases j with _ | j
   ·simp at hj ht; subst hj ht; exact ⟨rfl,by decide,_,Tryz.underlying2,rfl⟩
   rcases j with _ | j
   ·simp at hj ht; subst hj ht; exact ⟨rfl,by decide,_,Tryz.underlying9,rfl⟩
   simp at hj
 ·cases h
theorem zB:CxOK Tryz.prog base:=⟨zPN,fun T x=>by rw [show szOf base T=_ from (zKf zH1 zJV rfl T).symm]; exact DT.len _ x,fun T x c h=>by have:=DT.cell _ _ c h; revert this; cases c <;>exact id,fun T cs x h F w us hr=>DT.ok _ base F w us cs x h hr,zOm,zMO⟩
def base0:Cx ty:={ base with dr:=false }
theorem zim:CxOK Tryz.prog base0:=CxOK.cg (cx:=base) (cx':=base0) ⟨rfl,rfl,rfl,rfl,rfl,rfl⟩ zB
theorem zQ:Tryz.prog.follows .mixedOrders=true:=by kernel_rfl
end Go.Proofs.YtnolcogncjijpaaGreatDoor
/- What is read of an argument, as typed data. -/
namespace Go.Proofs.YtnolcogncjijpaaGreatDoor
open Go Go.Ab
def wf2 (x:Int):Prop:=(Lit.int .i64 x).wf=true
def wf3 (x:Int):Prop:=(Lit.int .i64 x).wf=true
def wf4 (x:Bool):Prop:=True
def wf5 (x:Int):Prop:=(Lit.int .u8 x).wf=true
def wf9 (x:ByteArray):Prop:=ByteArray.size x≤roomLen
def wf25 (x:RowID):Prop:=wf3 x.Table∧wf3 x.Seq
def wf46 (x:Value):Prop:=wf3 x.Kind∧wf2 x.Int∧wf9 x.Text
mutual
def zjY:Atom→Prop
 | ⟨k,r,a,f,i,o,b⟩=>wf3 k∧wf25 r∧(zvh a∧a.length≤roomLen)∧wf3 f∧(zqa i∧i.length≤roomLen)∧wf3 o∧wf46 b
def zpo:Factor→Prop
 | ⟨a,e⟩=>zjY a∧wf3 e
def znA:List Factor→Prop
 | []=>True
 | x::r=>zpo x∧znA r
def zs6:Term→Prop
 | ⟨c,f⟩=>wf2 c∧(znA f∧f.length≤roomLen)
def zid:List Term→Prop
 | []=>True
 | x::r=>zs6 x∧zid r
def zvh:List (List Term)→Prop
 | []=>True
 | x::r=>(zid x∧x.length≤roomLen)∧zvh r
def zCv:Weighted→Prop
 | ⟨v,a⟩=>wf46 v∧(zid a∧a.length≤roomLen)
def zqa:List Weighted→Prop
 | []=>True
 | x::r=>zCv x∧zqa r
end
theorem zAw:∀ l:List Factor,(∀ x∈l,zpo x)→znA l
 | [],_=>by unfold znA; trivial
 | x::r,h=>by unfold znA; exact ⟨h x (by simp),zAw r fun y hy=>h y (by simp [hy])⟩
theorem zDf:∀ l:List Term,(∀ x∈l,zs6 x)→zid l
 | [],_=>by unfold zid; trivial
 | x::r,h=>by unfold zid; exact ⟨h x (by simp),zDf r fun y hy=>h y (by simp [hy])⟩
theorem zFg:∀ l:List (List Term),(∀ x∈l,zid x∧x.length≤roomLen)→zvh l
 | [],_=>by unfold zvh; trivial
 | x::r,h=>by unfold zvh; exact ⟨h x (by simp),zFg r fun y hy=>h y (by simp [hy])⟩
theorem zHI:∀ l:List Weighted,(∀ x∈l,zCv x)→zqa l
 | [],_=>by unfold zqa; trivial
 | x::r,h=>by unfold zqa; exact ⟨h x (by simp),zHI r fun y hy=>h y (by simp [hy])⟩
def wf23 (x:List Term):Prop:=zid x∧List.length x≤roomLen
def wf40 (x:List Factor):Prop:=znA x∧List.length x≤roomLen
def wf42 (x:Term):Prop:=zs6 x
def wf43 (x:List (List Term)):Prop:=zvh x∧List.length x≤roomLen
def wf44 (x:List Weighted):Prop:=zqa x∧List.length x≤roomLen
def wf48 (x:Atom):Prop:=zjY x
def wf50 (x:Factor):Prop:=zpo x
def wf52 (x:Weighted):Prop:=zCv x
def wf69 (x:Binding):Prop:=wf25 x.Row∧wf23 x.To
def wf59 (x:List Binding):Prop:=(∀ y∈x,wf69 y)∧List.length x≤roomLen
def wf (T:Nat):ty T→Prop:=match T with
 | 2=>wf2
 | 3=>wf3
 | 4=>wf4
 | 5=>wf5
 | 9=>wf9
 | 23=>wf23
 | 25=>wf25
 | 40=>wf40
 | 42=>wf42
 | 43=>wf43
 | 44=>wf44
 | 46=>wf46
 | 48=>wf48
 | 50=>wf50
 | 52=>wf52
 | 59=>wf59
 | 69=>wf69
 | _=>fun _=>True
theorem zOj:zsb Tryz.prog base wf 2:=zI1 Tryz.underlying2 (fun n=>n) (fun _=>rfl) (fun _ h=>h)
theorem zAS:zsb Tryz.prog base wf 3:=zI1 Tryz.underlying3 (fun n=>n) (fun _=>rfl) (fun _ h=>h)
theorem zQr:zsb Tryz.prog base wf 9:=zNL Tryz.underlying9 (fun n=>n) (fun _=>rfl) (fun _ h=>h)
theorem zPQ:zsb Tryz.prog base wf 25:=by
 intro H en w sp held fuel cs y h hz
 obtain ⟨xs,n,_,hy,hl,hlen,hf⟩:=DataW.trod_struct Tryz.underlying25 h
 have hs:=zms Tryz.underlying25 hy hz
 obtain ⟨x0,h0,w0⟩:=ztp (off:=0) zAS (by kernel_rfl) hlen hf hs 0 _ rfl rfl rfl
 obtain ⟨x1,h1,w1⟩:=ztp (off:=1) zAS (by kernel_rfl) hlen hf hs 1 _ rfl rfl rfl
 have hl:cs.length=2:=hl.trans (by kernel_rfl)
 have:=zig h0 (zw8 h1 hl)
 exact ⟨(⟨x0,x1⟩:RowID),this,⟨w0,w1⟩⟩
theorem zMs:zsb Tryz.prog base wf 46:=by
 intro H en w sp held fuel cs y h hz
 obtain ⟨xs,n,_,hy,hl,hlen,hf⟩:=DataW.trod_struct Tryz.underlying46 h
 have hs:=zms Tryz.underlying46 hy hz
 obtain ⟨x0,h0,w0⟩:=ztp (off:=0) zAS (by kernel_rfl) hlen hf hs 0 _ rfl rfl rfl
 obtain ⟨x1,h1,w1⟩:=ztp (off:=1) zOj (by kernel_rfl) hlen hf hs 1 _ rfl rfl rfl
 obtain ⟨x2,h2,w2⟩:=ztp (off:=2) zQr (by kernel_rfl) hlen hf hs 2 _ rfl rfl rfl
 have hl:cs.length=3:=hl.trans (by kernel_rfl)
 have:=zig h0 (zig h1 (zw8 h2 hl))
 exact ⟨(⟨x0,x1,x2⟩:Value),this,⟨w0,w1,w2⟩⟩
theorem zJ9:∀ m,znJ Tryz.prog base wf m 23∧znJ Tryz.prog base wf m 40∧znJ Tryz.prog base wf m 42∧znJ Tryz.prog base wf m 43∧znJ Tryz.prog base wf m 44∧znJ Tryz.prog base wf m 48∧znJ Tryz.prog base wf m 50∧znJ Tryz.prog base wf m 52
 | 0=>⟨zma,zma,zma,zma,zma,zma,zma,zma⟩
 | m+1=>by
  obtain ⟨h23,h40,h42,h43,h44,h48,h50,h52⟩:=zJ9 m
  refine ⟨?_, ?_, ?_, ?_, ?_, ?_, ?_, ?_⟩
  ·exact zvs zB Tryz.underlying23 (by kernel_rfl) (by decide) (fun l=>l) (fun _=>rfl) (of_decide_eq_true (by kernel_rfl)) h42 (fun l h h2=>⟨zDf l h,h2⟩)
  ·exact zvs zB Tryz.underlying40 (by kernel_rfl) (by decide) (fun l=>l) (fun _=>rfl) (of_decide_eq_true (by kernel_rfl)) h50 (fun l h h2=>⟨zAw l h,h2⟩)
  ·intro H en w sp held fuel cs y hfu h hz
   obtain ⟨xs,n,hn,hy,hl,hlen,hf⟩:=DataW.trod_struct Tryz.underlying42 h
   have hs:=zms Tryz.underlying42 hy hz
   have hn:n≤m:=by omega
   obtain ⟨x0,hx0,w0⟩:=zet (off:=0) (zOj.at m) (by kernel_rfl) hn hlen hf hs 0 _ rfl rfl rfl
   obtain ⟨x1,hx1,w1⟩:=zet (off:=1) h40 (by kernel_rfl) hn hlen hf hs 1 _ rfl rfl rfl
   have hl:cs.length=2:=hl.trans (by kernel_rfl)
   have:=zig hx0 (zw8 hx1 hl)
   exact ⟨(⟨x0,x1⟩:Term),this,by show zs6 (⟨x0,x1⟩:Term); unfold zs6; exact ⟨w0,w1⟩⟩
  ·exact zvs zB Tryz.underlying43 (by kernel_rfl) (by decide) (fun l=>l) (fun _=>rfl) (of_decide_eq_true (by kernel_rfl)) h23 (fun l h h2=>⟨zFg l h,h2⟩)
  ·exact zvs zB Tryz.underlying44 (by kernel_rfl) (by decide) (fun l=>l) (fun _=>rfl) (of_decide_eq_true (by kernel_rfl)) h52 (fun l h h2=>⟨zHI l h,h2⟩)
  ·intro H en w sp held fuel cs y hfu h hz
   obtain ⟨xs,n,hn,hy,hl,hlen,hf⟩:=DataW.trod_struct Tryz.underlying48 h
   have hs:=zms Tryz.underlying48 hy hz
   have hn:n≤m:=by omega
   obtain ⟨x0,hx0,w0⟩:=zet (off:=0) (zAS.at m) (by kernel_rfl) hn hlen hf hs 0 _ rfl rfl rfl
   obtain ⟨x1,hx1,w1⟩:=zet (off:=1) (zPQ.at m) (by kernel_rfl) hn hlen hf hs 1 _ rfl rfl rfl
   obtain ⟨x2,hx2,w2⟩:=zet (off:=3) h43 (by kernel_rfl) hn hlen hf hs 2 _ rfl rfl rfl
   obtain ⟨x3,hx3,w3⟩:=zet (off:=4) (zAS.at m) (by kernel_rfl) hn hlen hf hs 3 _ rfl rfl rfl
   obtain ⟨x4,hx4,w4⟩:=zet (off:=5) h44 (by kernel_rfl) hn hlen hf hs 4 _ rfl rfl rfl
   obtain ⟨x5,hx5,w5⟩:=zet (off:=6) (zAS.at m) (by kernel_rfl) hn hlen hf hs 5 _ rfl rfl rfl
   obtain ⟨x6,hx6,w6⟩:=zet (off:=7) (zMs.at m) (by kernel_rfl) hn hlen hf hs 6 _ rfl rfl rfl
   have hl:cs.length=10:=hl.trans (by kernel_rfl)
   have:=zig hx0 (zig hx1 (zig hx2 (zig hx3 (zig hx4 (zig hx5 (zw8 hx6 hl))))))
   exact ⟨(⟨x0,x1,x2,x3,x4,x5,x6⟩:Atom),this,by show zjY (⟨x0,x1,x2,x3,x4,x5,x6⟩:Atom); unfold zjY; exact ⟨w0,w1,w2,w3,w4,w5,w6⟩⟩
  ·intro H en w sp held fuel cs y hfu h hz
   obtain ⟨xs,n,hn,hy,hl,hlen,hf⟩:=DataW.trod_struct Tryz.underlying50 h
   have hs:=zms Tryz.underlying50 hy hz
   have hn:n≤m:=by omega
   obtain ⟨x0,hx0,w0⟩:=zet (off:=0) h48 (by kernel_rfl) hn hlen hf hs 0 _ rfl rfl rfl
   obtain ⟨x1,hx1,w1⟩:=zet (off:=10) (zAS.at m) (by kernel_rfl) hn hlen hf hs 1 _ rfl rfl rfl
   have hl:cs.length=11:=hl.trans (by kernel_rfl)
   have:=zig hx0 (zw8 hx1 hl)
   exact ⟨(⟨x0,x1⟩:Factor),this,by show zpo (⟨x0,x1⟩:Factor); unfold zpo; exact ⟨w0,w1⟩⟩
  ·intro H en w sp held fuel cs y hfu h hz
   obtain ⟨xs,n,hn,hy,hl,hlen,hf⟩:=DataW.trod_struct Tryz.underlying52 h
   have hs:=zms Tryz.underlying52 hy hz
   have hn:n≤m:=by omega
   obtain ⟨x0,hx0,w0⟩:=zet (off:=0) (zMs.at m) (by kernel_rfl) hn hlen hf hs 0 _ rfl rfl rfl
   obtain ⟨x1,hx1,w1⟩:=zet (off:=3) h23 (by kernel_rfl) hn hlen hf hs 1 _ rfl rfl rfl
   have hl:cs.length=4:=hl.trans (by kernel_rfl)
   have:=zig hx0 (zw8 hx1 hl)
   exact ⟨(⟨x0,x1⟩:Weighted),this,by show zCv (⟨x0,x1⟩:Weighted); unfold zCv; exact ⟨w0,w1⟩⟩
theorem zLO:zsb Tryz.prog base wf 23:=zNA fun m=>(zJ9 m).1
end Go.Proofs.YtnolcogncjijpaaGreatDoor
/- A world in which the row's condition holds; what the program's rows share. -/
namespace Go.Proofs.YtnolcogncjijpaaGreatDoor
open Go Go.Ab Go.Lib
theorem own:ownKnob Tryz.prog.godebug=none:=by kernel_rfl
theorem zQo:laidOutB Tryz.prog=true:=by kernel_rfl
def zRb:DataW Unit→Go.Value
 | .lit (.int k n)=>.int k n
 | .lit (.bool b)=>.bool b
 | .lit (.string s)=>.string ⟨s.toArray⟩
 | _=>undef
def zND:Nat→DataW Unit→List Go.Value
 | n+1,.agg ds=>ds.flatMap (zND n)
 | _,d=>[zRb d]
def cellsOf (d:DataW Unit):Array Go.Value:=(zND 3 d).toArray
def zHv (h:Array Obj) (g:Nat) (cs:Array Go.Value):Array Obj:=h.modify g fun
 | .cells _ t fr=>.cells cs t fr
 | o=>o
def zI7 (os:Os):World:=
 let w0:=World.holding Tryz.prog os ⟨#[],#[],[]⟩
 { w0 with heap:=zHv (zHv (zHv (zHv (zHv (w0.heap) 2 (cellsOf Rows.laid_math_bits_deBruijn32tab)) 3 (cellsOf Rows.laid_math_bits_deBruijn64tab)) 1 (cellsOf Rows.laid_internal_strconv_uint64pow10)) 5 (cellsOf Rows.laid_unicode_utf8_acceptRanges)) 4 (cellsOf Rows.laid_unicode_utf8_first) }
def zwE:List (String×DataW Unit):=[("math/bits.deBruijn32tab",Rows.laid_math_bits_deBruijn32tab),("math/bits.deBruijn64tab",Rows.laid_math_bits_deBruijn64tab),("internal/strconv.uint64pow10",Rows.laid_internal_strconv_uint64pow10),("unicode/utf8.acceptRanges",Rows.laid_unicode_utf8_acceptRanges),("unicode/utf8.first",Rows.laid_unicode_utf8_first)]
theorem zJR (os:Os) (args:Array Go.Value):laidMetH Tryz.prog zwE ((zI7 os).forCall (fun _ _=>0) ⟨#[],args,[]⟩).memory:=
 laidMetH_of_parts (laidMet_of_run3 8 (by kernel_rfl) (by kernel_rfl) (by kernel_rfl)) (by kernel_rfl)
theorem zOb {w:World} (h:laidMetH Tryz.prog zwE w):laidMet Tryz.prog zwE w:=by
 unfold laidMetH at h
 rw [show (zwE.filter fun x=>x.2.handleName?.isSome)=[] by kernel_rfl] at h
 exact h
theorem zQx (w:World) (hsh:w.ShapedOpen Tryz.prog) (h:laidMetH Tryz.prog zwE w):base.inv w∧base.ng≤w.heap.size:=by
 have h:=zOb h
 have h1:TabIs Tryz.prog w "internal/strconv.uint64pow10" .u64 pow10Tab:=
  tabIs_of_head (g:=1) (by kernel_rfl) (by kernel_rfl) Tryz.underlying199 Tryz.underlying178 (by kernel_rfl) (by kernel_rfl) h.tail.tail
 have h4:=cell_of_shapedOpen_int (g:=0) (t:=3) (zero:=#[.int .i64 0]) hsh (of_decide_eq_true (by kernel_rfl)) (by kernel_rfl) rfl (by kernel_rfl) (by kernel_rfl) Tryz.underlying3
 obtain ⟨ps,⟨g',t',cs,fuel,p,q,hg',_,hvar,_⟩,_⟩:=h.tail
 refine ⟨⟨h1,h4⟩, ?_⟩
 unfold World.var? at hvar
 rw [show Tryz.prog.globalNamed "math/bits.deBruijn64tab"=some 3 by kernel_rfl] at hvar
 simp only [Option.bind_some] at hvar
 show 4≤w.heap.size
 cases hh:w.heap[3]? with
 | none=>rw [hh] at hvar; cases hvar
 | some o=>exact (Array.getElem?_eq_some_iff.1 hh).1
end Go.Proofs.YtnolcogncjijpaaGreatDoor
namespace Go.Proofs.YtnolcogncjijpaaGreatDoor
open Go Go.Ab
def zs9 (r:Int):ARes ty:=⟨[.pure (.lit (.int .i64 r))],[]⟩
def zuT:AL base (List Term×List Term×Unit):=zf (zg (vSl 42)) (zf (zg (vSl 42)) aNil)
def zdn (F:List Term→List Term→Bool×Int):Ab.Spec ty:=zr zuT fun x=>((F x.1 x.2.1).1,zs9 (F x.1 x.2.1).2)
def zqu (r:Int):ARes ty:=⟨[.pure (.lit (.int .i64 r))],[]⟩
def zse:AL base (Term×Term×Unit):=zf (zg (vAgg 42)) (zf (zg (vAgg 42)) aNil)
def zeU (F:Term→Term→Bool×Int):Ab.Spec ty:=zr zse fun x=>((F x.1 x.2.1).1,zqu (F x.1 x.2.1).2)
def zpf (r:Int):ARes ty:=⟨[.pure (.lit (.int .i64 r))],[]⟩
def zqz:AL base (Term×Term×Unit):=zf (zg (vAgg 42)) (zf (zg (vAgg 42)) aNil)
def zfS (F:Term→Term→Bool×Int):Ab.Spec ty:=zr zqz fun x=>((F x.1 x.2.1).1,zpf (F x.1 x.2.1).2)
def zoa (r:Int):ARes ty:=⟨[.pure (.lit (.int .i64 r))],[]⟩
def zoY:AL base (Factor×Factor×Unit):=zf (zg (vAgg 50)) (zf (zg (vAgg 50)) aNil)
def zdL (F:Factor→Factor→Bool×Int):Ab.Spec ty:=zr zoY fun x=>((F x.1 x.2.1).1,zoa (F x.1 x.2.1).2)
def zo8 (r:Int):ARes ty:=⟨[.pure (.lit (.int .i64 r))],[]⟩
def zqy:AL base (Atom×Atom×Unit):=zf (zg (vAgg 48)) (zf (zg (vAgg 48)) aNil)
def zfI (F:Atom→Atom→Bool×Int):Ab.Spec ty:=zr zqy fun x=>((F x.1 x.2.1).1,zo8 (F x.1 x.2.1).2)
def zo1 (r:Int):ARes ty:=⟨[.pure (.lit (.int .i64 r))],[]⟩
def zqI:AL base (Weighted×Weighted×Unit):=zf (zg (vAgg 52)) (zf (zg (vAgg 52)) aNil)
def zdo (F:Weighted→Weighted→Bool×Int):Ab.Spec ty:=zr zqI fun x=>((F x.1 x.2.1).1,zo1 (F x.1 x.2.1).2)
def zc5 (r:Int):ARes ty:=⟨[.pure (.lit (.int .i64 r))],[]⟩
def zdj:AL base (List Term×List Term×Unit×Unit):=zf (zg (vSl 42)) (zf (zg (vSl 42)) (zf (zg (vFn 87 vNil)) aNil))
def zbq (F:List Term→List Term→Bool×Int):Ab.Spec ty:=zr zdj fun x=>((F x.1 x.2.1).1,zc5 (F x.1 x.2.1).2)
def zdk (r:Int):ARes ty:=⟨[.pure (.lit (.int .i64 r))],[]⟩
def zdt:AL base (List Factor×List Factor×Unit×Unit):=zf (zg (vSl 50)) (zf (zg (vSl 50)) (zf (zg (vFn 124 vNil)) aNil))
def zbv (F:List Factor→List Factor→Bool×Int):Ab.Spec ty:=zr zdt fun x=>((F x.1 x.2.1).1,zdk (F x.1 x.2.1).2)
def zci (r:Int):ARes ty:=⟨[.pure (.lit (.int .i64 r))],[]⟩
def zcl:AL base (List (List Term)×List (List Term)×Unit×Unit):=zf (zg (vSl 23)) (zf (zg (vSl 23)) (zf (zg (vFn 38 vNil)) aNil))
def z6 (F:List (List Term)→List (List Term)→Bool×Int):Ab.Spec ty:=zr zcl fun x=>((F x.1 x.2.1).1,zci (F x.1 x.2.1).2)
def zcB (r:Int):ARes ty:=⟨[.pure (.lit (.int .i64 r))],[]⟩
def zcJ:AL base (List Weighted×List Weighted×Unit×Unit):=zf (zg (vSl 52)) (zf (zg (vSl 52)) (zf (zg (vFn 85 vNil)) aNil))
def zbk (F:List Weighted→List Weighted→Bool×Int):Ab.Spec ty:=zr zcJ fun x=>((F x.1 x.2.1).1,zcB (F x.1 x.2.1).2)
def zBm (zw:List Term→List Term→Bool×Int) (zx:Term→Term→Bool×Int):Cx ty:=mkCx base 8 [(86,(zbq zw)),(87,(zeU zx))] [] [] [] [] []
def znW (zw:List Term→List Term→Bool×Int) (zx:Term→Term→Bool×Int) (a:List Term) (b:List Term):Wy0 (Int):=.bn (zw a b) fun r0=>.k r0
def zlS (zw:List Term→List Term→Bool×Int) (zx:Term→Term→Bool×Int) (a:List Term) (b:List Term):Bool×Int:=(znW zw zx a b).fin default
theorem zys (zw:List Term→List Term→Bool×Int) (zx:Term→Term→Bool×Int) (zhd:Sound Tryz.prog base 86 (zbq zw)) (zlT:Sound Tryz.prog base 87 (zeU zx)):Sound Tryz.prog base 38 (zdn (zlS zw zx)):=
 zD (cx':=(zBm zw zx)) zQ zB zL (zF ⟨zhd,zlT,trivial⟩) Tryz.call38 Tryz.func38 (c:=body Tryz.f38) (by kernel_rfl) (zj (l:=[]) (by kernel_rfl) trivial) (sg:=⟨[.pure],[]⟩) (A:=zuT) (res:=zs9) (W:=fun x=>znW zw zx x.1 x.2.1) (z:=default)
def zFA:Cx ty:=mkCx base 6 [] [] [] [] [] []
def zsR (x_:Int):Wy0 (Bool):=.k (x_ != x_)
def zkT (x_:Int):Bool×Bool:=(zsR x_).fin default
def zwh (r:Bool):ARes ty:=⟨[.pure (.lit (.bool r))],[]⟩
def zyW:AL base (Int×Unit):=zf (zg (vInt .i64)) aNil
def zvO:Ab.Spec ty:=zr zyW fun x=>((zkT x.1).1,zwh (zkT x.1).2)
theorem zCK:Sound Tryz.prog base 136 zvO:=
 zD (cx':=zFA) zQ zB zL (zF trivial) Tryz.call136 Tryz.func136 (c:=body Tryz.f136) (by kernel_rfl) (zj (l:=[]) (by kernel_rfl) trivial) (sg:=⟨[.pure],[]⟩) (A:=zyW) (res:=zwh) (W:=fun x=>zsR x.1) (z:=default)
def zDh:Cx ty:=mkCx base 20 [(136,zvO)] [] [] [] [] []
def zql (x_:Int) (y_:Int):Wy0 (Int):=.i ((zkT x_).2) (.i ((zkT y_).2) (.k 0) (.k (-1:Int))) (.i ((zkT y_).2) (.k 1) (.i (decide (x_<y_)) (.k (-1:Int)) (.i (decide (x_>y_)) (.k 1) (.k 0))))
def zhF (x_:Int) (y_:Int):Bool×Int:=(zql x_ y_).fin default
def zui (r:Int):ARes ty:=⟨[.pure (.lit (.int .i64 r))],[]⟩
def zwl:AL base (Int×Int×Unit):=zf (zg (vInt .i64)) (zf (zg (vInt .i64)) aNil)
def zkf:Ab.Spec ty:=zr zwl fun x=>((zhF x.1 x.2.1).1,zui (zhF x.1 x.2.1).2)
theorem zm9:Sound Tryz.prog base 79 zkf:=
 zD (cx':=zDh) zQ zB zL (zF ⟨zCK,trivial⟩) Tryz.call79 Tryz.func79 (c:=body Tryz.f79) (by kernel_rfl) (zj (l:=[]) (by kernel_rfl) trivial) (sg:=⟨[.pure],[]⟩) (A:=zwl) (res:=zui) (W:=fun x=>zql x.1 x.2.1) (z:=default)
abbrev ttTcmpOrint0:=Int×List Int×Int×Int×Unit
def zyB (zero:Int) (t6:List Int) (t7:Int) (t8:Int):Wy ttTcmpOrint0 (Unit) (Int⊕Int):=.i (decide (t8<t7)) (.i (decide (0≤t8)&&decide (t8<Int.ofNat t6.length)) (.i (t6.getD t8.toNat default != zero) (.k (.inl (t6.getD t8.toNat default))) (.h (zero,t6,t7,(IntKind.i64.wrap (t8+1)),()) ())) .d) (.k (.inr zero))
def zyR (x:ttTcmpOrint0) (y:Unit):Wy ttTcmpOrint0 (Unit) (Int⊕Int):=zyB x.1 x.2.1 x.2.2.1 x.2.2.2.1
def zyz (n:Nat) (zero:Int) (t6:List Int) (t7:Int) (t8:Int):Bool×(Int⊕Int):=zN (zyR) (.inl default) n (zero,t6,t7,t8,()) ()
def zCQ (r:Int⊕Int):LTree ty:=.ite (isL r) (.done .ret [.lit (.int .i64 (getL r))] []) (.done (.exit 0) [.lit (.int .i64 (getR r))] [])
def zEg:LL ty ttTcmpOrint0:=za (lInt .i64) (za (lSl 3) (za (lInt .i64) (za (lInt .i64) zS)))
def zEa:BL ty (Unit):=bNil
def zC5 (x:ttTcmpOrint0) (y:Unit):Nat:=(Int.toNat x.1+x.2.1.length+Int.toNat x.2.2.1+Int.toNat x.2.2.2.1+1)
def zD0:Cx ty:=mkCx base 18 [] [] [(3,[(3,.keep),(6,.keep),(7,.keep),(8,.keep)])] [(3,1,[(3,.keep)]),(3,0,[(2,.keep)])] [(3,spW zEg zEa (zyR) (.inl default) zCQ zC5)] []
theorem zIN:zbp zD0 (lp (body Tryz.f88) 0):=zY (id:=3) (V:=zEg) (B:=zEa) (W:=zyR) (z:=.inl default) (tr:=zCQ) (m:=zC5)
def zAn (vals:List Int):Wy0 (Int):=.bn (zyz (Int.toNat 0+vals.length+(Int.ofNat vals.length).toNat +Int.toNat 0+1) 0 vals (Int.ofNat vals.length) 0) fun r0=>.i (isL r0) (.k (getL r0)) (.k (getR r0))
def zlO (vals:List Int):Bool×Int:=(zAn vals).fin default
def zCt (r:Int):ARes ty:=⟨[.pure (.lit (.int .i64 r))],[]⟩
def zE7:AL base (List Int×Unit):=zf (zg (vSl 3)) aNil
def zkS:Ab.Spec ty:=zr zE7 fun x=>((zlO x.1).1,zCt (zlO x.1).2)
theorem zmV:Sound Tryz.prog base 88 zkS:=
 zD (cx':=zD0) zQ zB zL (zF trivial) Tryz.call88 Tryz.func88 (c:=body Tryz.f88) (by kernel_rfl) (zj (l:=[lp (body Tryz.f88) 0]) (by kernel_rfl) ⟨zIN,trivial⟩) (sg:=⟨[.pure],[]⟩) (A:=zE7) (res:=zCt) (W:=fun x=>zAn x.1) (z:=default)
def zyt (zbT:Term→Term→Bool×Int):Cx ty:=mkCx base 15 [(71,(zfS zbT)),(79,zkf),(88,zkS)] [] [] [] [] []
def zl3 (zbT:Term→Term→Bool×Int) (x_:Term) (y_:Term):Wy0 (Int):=.bn (zbT x_ y_) fun r2=>.bn (zhF x_.Coeff y_.Coeff) fun r1=>.bn (zlO [r2,r1]) fun r0=>.k r0
def zjH (zbT:Term→Term→Bool×Int) (x_:Term) (y_:Term):Bool×Int:=(zl3 zbT x_ y_).fin default
theorem zvX (zbT:Term→Term→Bool×Int) (zxx:Sound Tryz.prog base 71 (zfS zbT)):Sound Tryz.prog base 87 (zeU (zjH zbT)):=
 zD (cx':=(zyt zbT)) zQ zB zL (zF ⟨zxx,zm9,zmV,trivial⟩) Tryz.call87 Tryz.func87 (c:=body Tryz.f87) (by kernel_rfl) (zj (l:=[]) (by kernel_rfl) trivial) (sg:=⟨[.pure],[]⟩) (A:=zse) (res:=zqu) (W:=fun x=>zl3 zbT x.1 x.2.1) (z:=default)
def zGU:Cx ty:=mkCx base 6 [] [] [] [] [] []
def zu6 (x_:Int):Wy0 (Bool):=.k (x_ != x_)
def znq (x_:Int):Bool×Bool:=(zu6 x_).fin default
def zzk (r:Bool):ARes ty:=⟨[.pure (.lit (.bool r))],[]⟩
def zBu:AL base (Int×Unit):=zf (zg (vInt .i64)) aNil
def zxl:Ab.Spec ty:=zr zBu fun x=>((znq x.1).1,zzk (znq x.1).2)
theorem zEy:Sound Tryz.prog base 161 zxl:=
 zD (cx':=zGU) zQ zB zL (zF trivial) Tryz.call161 Tryz.func161 (c:=body Tryz.f161) (by kernel_rfl) (zj (l:=[]) (by kernel_rfl) trivial) (sg:=⟨[.pure],[]⟩) (A:=zBu) (res:=zzk) (W:=fun x=>zu6 x.1) (z:=default)
def zFm:Cx ty:=mkCx base 20 [(161,zxl)] [] [] [] [] []
def zsT (x_:Int) (y_:Int):Wy0 (Int):=.i ((znq x_).2) (.i ((znq y_).2) (.k 0) (.k (-1:Int))) (.i ((znq y_).2) (.k 1) (.i (decide (x_<y_)) (.k (-1:Int)) (.i (decide (x_>y_)) (.k 1) (.k 0))))
def zdY (x_:Int) (y_:Int):Bool×Int:=(zsT x_ y_).fin default
def zv5 (r:Int):ARes ty:=⟨[.pure (.lit (.int .i64 r))],[]⟩
def zy8:AL base (Int×Int×Unit):=zf (zg (vInt .i64)) (zf (zg (vInt .i64)) aNil)
def zlQ:Ab.Spec ty:=zr zy8 fun x=>((zdY x.1 x.2.1).1,zv5 (zdY x.1 x.2.1).2)
theorem zop:Sound Tryz.prog base 125 zlQ:=
 zD (cx':=zFm) zQ zB zL (zF ⟨zEy,trivial⟩) Tryz.call125 Tryz.func125 (c:=body Tryz.f125) (by kernel_rfl) (zj (l:=[]) (by kernel_rfl) trivial) (sg:=⟨[.pure],[]⟩) (A:=zy8) (res:=zv5) (W:=fun x=>zsT x.1 x.2.1) (z:=default)
end Go.Proofs.YtnolcogncjijpaaGreatDoor
/-
 DERIVED:THE SHELF's CONTRACTS AT THIS DUMP,IN PLAIN WORDS (tools/lay-plain.mjs out of 'TryzShelf.lean',which tools/lay-shelf.mjs wrote):THE SAME DECLARATIONS UNDER THE SAME NAMES:'import','namespace','open','def','theorem' AND NOTHING ELSE:no command of the shelf's:FOR A HAND-IN. Each laying:the table of numbers ('.._ren') and one theorem,a field a fact of the dump's own or the kernel's comparison; each contract:ONE APPLICATION.
-/
namespace Go.Proofs
open Go.Shelf
def Tryz.pdqTerm_ren:Go.Shelf.Ren:=⟨fun | 14=>155 | 20=>177 | 21=>178 | 22=>179 | 23=>180 | 24=>181 | 25=>182 | 26=>183 | 27=>184 | 46=>204 | 47=>205 | 48=>206 | 49=>207 | 50=>208 | 15=>156 | 57=>221 | 28=>185 | 29=>186 | n=>n,fun | 24=>42 | 22=>22 | 3=>3 | 25=>80 | 4=>4 | 0=>0 | 46=>170 | 45=>169 | 50=>108 | 66=>190 | 39=>143 | 55=>178 | 70=>194 | 76=>205 | 77=>206 | 53=>176 | 5=>5 | 9=>9 | n=>n,fun | n=>n⟩
theorem Tryz.pdqTerm:Go.Proofs.SlLaysF0.n14 Tryz.prog Tryz.pdqTerm_ren:={
 mixed:=by kernel_rfl
 f14:=⟨Tryz.f155.name,by decide,Tryz.func155.trans (congrArg some (by kernel_rfl))⟩
 f15:=Tryz.func156.trans (congrArg some (by kernel_rfl))
 f20:=⟨Tryz.f177.name,by decide,Tryz.func177.trans (congrArg some (by kernel_rfl))⟩
 f21:=⟨Tryz.f178.name,by decide,Tryz.func178.trans (congrArg some (by kernel_rfl))⟩
 f22:=⟨Tryz.f179.name,by decide,Tryz.func179.trans (congrArg some (by kernel_rfl))⟩
 f23:=⟨Tryz.f180.name,by decide,Tryz.func180.trans (congrArg some (by kernel_rfl))⟩
 f24:=⟨Tryz.f181.name,by decide,Tryz.func181.trans (congrArg some (by kernel_rfl))⟩
 f25:=⟨Tryz.f182.name,by decide,Tryz.func182.trans (congrArg some (by kernel_rfl))⟩
 f26:=⟨Tryz.f183.name,by decide,Tryz.func183.trans (congrArg some (by kernel_rfl))⟩
 f27:=⟨Tryz.f184.name,by decide,Tryz.func184.trans (congrArg some (by kernel_rfl))⟩
 f28:=Tryz.func185.trans (congrArg some (by kernel_rfl))
 f29:=Tryz.func186.trans (congrArg some (by kernel_rfl))
 f46:=⟨Tryz.f204.name,by decide,Tryz.func204.trans (congrArg some (by kernel_rfl))⟩
 f47:=Tryz.func205.trans (congrArg some (by kernel_rfl))
 f48:=Tryz.func206.trans (congrArg some (by kernel_rfl))
 f49:=⟨Tryz.f207.name,by decide,Tryz.func207.trans (congrArg some (by kernel_rfl))⟩
 f50:=⟨Tryz.f208.name,by decide,Tryz.func208.trans (congrArg some (by kernel_rfl))⟩
 f57:=⟨Tryz.f221.name,by decide,Tryz.func221.trans (congrArg some (by kernel_rfl))⟩
 t0:=Tryz.underlying0
 a0:=Tryz.isAgg0
 z0:=Tryz.sizeOf0
 v0:=Tryz.zeroValue0
 t3:=Tryz.underlying3
 a3:=Tryz.isAgg3
 z3:=Tryz.sizeOf3
 v3:=Tryz.zeroValue3
 t4:=Tryz.underlying4
 a4:=Tryz.isAgg4
 z4:=Tryz.sizeOf4
 v4:=Tryz.zeroValue4
 t5:=Tryz.underlying5
 a5:=Tryz.isAgg5
 z5:=Tryz.sizeOf5
 v5:=Tryz.zeroValue5
 t9:=Tryz.underlying9
 a9:=Tryz.isAgg9
 z9:=Tryz.sizeOf9
 v9:=Tryz.zeroValue9
 t22:=Tryz.underlying22
 a22:=Tryz.isAgg22
 z22:=Tryz.sizeOf22
 v22:=Tryz.zeroValue22
 t25:=Tryz.underlying80
 a25:=Tryz.isAgg80
 z25:=Tryz.sizeOf80
 v25:=Tryz.zeroValue80
 t39:=Tryz.underlying143
 a39:=Tryz.isAgg143
 z39:=Tryz.sizeOf143
 v39:=Tryz.zeroValue143
 t45:=Tryz.underlying169
 a45:=Tryz.isAgg169
 z45:=Tryz.sizeOf169
 v45:=Tryz.zeroValue169
 t46:=Tryz.underlying170
 a46:=Tryz.isAgg170
 z46:=Tryz.sizeOf170
 v46:=Tryz.zeroValue170
 t50:=Tryz.underlying108
 a50:=Tryz.isAgg108
 z50:=Tryz.sizeOf108
 v50:=Tryz.zeroValue108
 t53:=Tryz.underlying176
 a53:=Tryz.isAgg176
 z53:=Tryz.sizeOf176
 v53:=Tryz.zeroValue176
 t55:=Tryz.underlying178
 a55:=Tryz.isAgg178
 z55:=Tryz.sizeOf178
 v55:=Tryz.zeroValue178
 t66:=Tryz.underlying190
 a66:=Tryz.isAgg190
 z66:=Tryz.sizeOf190
 v66:=Tryz.zeroValue190
 t70:=Tryz.underlying194
 a70:=Tryz.isAgg194
 z70:=Tryz.sizeOf194
 v70:=Tryz.zeroValue194
 t76:=Tryz.underlying205
 a76:=Tryz.isAgg205
 z76:=Tryz.sizeOf205
 v76:=Tryz.zeroValue205
 t77:=Tryz.underlying206
 a77:=Tryz.isAgg206
 z77:=Tryz.sizeOf206
 v77:=Tryz.zeroValue206 }
def Tryz.insW_ren:Go.Shelf.Ren:=⟨fun | 20=>164 | n=>n,fun | 24=>52 | 22=>44 | 3=>3 | 25=>89 | 4=>4 | 0=>0 | n=>n,fun | n=>n⟩
theorem Tryz.insW:Go.Proofs.SlLaysF0.n20 Tryz.prog Tryz.insW_ren:={
 mixed:=by kernel_rfl
 f20:=⟨Tryz.f164.name,by decide,Tryz.func164.trans (congrArg some (by kernel_rfl))⟩
 t0:=Tryz.underlying0
 a0:=Tryz.isAgg0
 z0:=Tryz.sizeOf0
 v0:=Tryz.zeroValue0
 t3:=Tryz.underlying3
 a3:=Tryz.isAgg3
 z3:=Tryz.sizeOf3
 v3:=Tryz.zeroValue3
 t4:=Tryz.underlying4
 a4:=Tryz.isAgg4
 z4:=Tryz.sizeOf4
 v4:=Tryz.zeroValue4
 t22:=Tryz.underlying44
 a22:=Tryz.isAgg44
 z22:=Tryz.sizeOf44
 v22:=Tryz.zeroValue44
 t25:=Tryz.underlying89
 a25:=Tryz.isAgg89
 z25:=Tryz.sizeOf89
 v25:=Tryz.zeroValue89 }
def Tryz.lays106_ren:Go.Shelf.Ren:=⟨fun | 106=>162 | 213=>187 | 265=>209 | n=>n,fun | 9=>9 | 3=>3 | n=>n,fun | n=>n⟩
theorem Tryz.lays106:Go.Proofs.Lays.n106 Tryz.prog Tryz.lays106_ren:={
 mixed:=by kernel_rfl
 f106:=Tryz.func162.trans (congrArg some (by kernel_rfl))
 f213:=Tryz.func187.trans (congrArg some (by kernel_rfl))
 f265:=Tryz.func209.trans (congrArg some (by kernel_rfl))
 t3:=Tryz.underlying3
 a3:=Tryz.isAgg3
 z3:=Tryz.sizeOf3
 v3:=Tryz.zeroValue3
 t9:=Tryz.underlying9
 a9:=Tryz.isAgg9
 z9:=Tryz.sizeOf9
 v9:=Tryz.zeroValue9 }
def Tryz.laysM173_ren:Go.Shelf.Ren:=⟨fun | 173=>151 | 246=>168 | 283=>197 | 284=>198 | 285=>199 | 286=>200 | 129=>186 | 317=>214 | 318=>215 | 319=>216 | 320=>217 | 337=>223 | 338=>224 | n=>n,fun | 2=>2 | 3=>3 | 9=>9 | 4=>4 | 171=>184 | 0=>0 | 53=>178 | 37=>156 | 5=>5 | 173=>186 | 212=>199 | 51=>176 | 20=>20 | 213=>200 | 46=>143 | 232=>211 | 233=>212 | n=>n,fun | 17=>1 | 18=>2 | 19=>3 | n=>n⟩
theorem Tryz.laysM173:Go.Proofs.LaysM.n173 Tryz.prog Tryz.laysM173_ren:={
 mixed:=by kernel_rfl
 f129:=Tryz.func186.trans (congrArg some (by kernel_rfl))
 f173:=Tryz.func151.trans (congrArg some (by kernel_rfl))
 f246:=Tryz.func168.trans (congrArg some (by kernel_rfl))
 f283:=Tryz.func197.trans (congrArg some (by kernel_rfl))
 f284:=Tryz.func198.trans (congrArg some (by kernel_rfl))
 f285:=Tryz.func199.trans (congrArg some (by kernel_rfl))
 f286:=Tryz.func200.trans (congrArg some (by kernel_rfl))
 f317:=Tryz.func214.trans (congrArg some (by kernel_rfl))
 f318:=Tryz.func215.trans (congrArg some (by kernel_rfl))
 f319:=Tryz.func216.trans (congrArg some (by kernel_rfl))
 f320:=Tryz.func217.trans (congrArg some (by kernel_rfl))
 f337:=Tryz.func223.trans (congrArg some (by kernel_rfl))
 f338:=Tryz.func224.trans (congrArg some (by kernel_rfl))
 t0:=Tryz.underlying0
 a0:=Tryz.isAgg0
 z0:=Tryz.sizeOf0
 v0:=Tryz.zeroValue0
 t2:=Tryz.underlying2
 a2:=Tryz.isAgg2
 z2:=Tryz.sizeOf2
 v2:=Tryz.zeroValue2
 t3:=Tryz.underlying3
 a3:=Tryz.isAgg3
 z3:=Tryz.sizeOf3
 v3:=Tryz.zeroValue3
 t4:=Tryz.underlying4
 a4:=Tryz.isAgg4
 z4:=Tryz.sizeOf4
 v4:=Tryz.zeroValue4
 t5:=Tryz.underlying5
 a5:=Tryz.isAgg5
 z5:=Tryz.sizeOf5
 v5:=Tryz.zeroValue5
 t9:=Tryz.underlying9
 a9:=Tryz.isAgg9
 z9:=Tryz.sizeOf9
 v9:=Tryz.zeroValue9
 t20:=Tryz.underlying20
 a20:=Tryz.isAgg20
 z20:=Tryz.sizeOf20
 v20:=Tryz.zeroValue20
 t37:=Tryz.underlying156
 a37:=Tryz.isAgg156
 z37:=Tryz.sizeOf156
 v37:=Tryz.zeroValue156
 t46:=Tryz.underlying143
 a46:=Tryz.isAgg143
 z46:=Tryz.sizeOf143
 v46:=Tryz.zeroValue143
 t51:=Tryz.underlying176
 a51:=Tryz.isAgg176
 z51:=Tryz.sizeOf176
 v51:=Tryz.zeroValue176
 t53:=Tryz.underlying178
 a53:=Tryz.isAgg178
 z53:=Tryz.sizeOf178
 v53:=Tryz.zeroValue178
 t171:=Tryz.underlying184
 a171:=Tryz.isAgg184
 z171:=Tryz.sizeOf184
 v171:=Tryz.zeroValue184
 t173:=Tryz.underlying186
 a173:=Tryz.isAgg186
 z173:=Tryz.sizeOf186
 v173:=Tryz.zeroValue186
 t212:=Tryz.underlying199
 a212:=Tryz.isAgg199
 z212:=Tryz.sizeOf199
 v212:=Tryz.zeroValue199
 t213:=Tryz.underlying200
 a213:=Tryz.isAgg200
 z213:=Tryz.sizeOf200
 t232:=Tryz.underlying211
 a232:=Tryz.isAgg211
 z232:=Tryz.sizeOf211
 v232:=Tryz.zeroValue211
 t233:=Tryz.underlying212
 a233:=Tryz.isAgg212
 z233:=Tryz.sizeOf212
 v233:=Tryz.zeroValue212
 g17:=by kernel_rfl
 g18:=by kernel_rfl
 g19:=by kernel_rfl
 i0:=by kernel_rfl
 i2:=by kernel_rfl
 i3:=by kernel_rfl
 i4:=by kernel_rfl
 i5:=by kernel_rfl
 i9:=by kernel_rfl
 i20:=by kernel_rfl
 i37:=by kernel_rfl
 i46:=by kernel_rfl
 i51:=by kernel_rfl
 i53:=by kernel_rfl
 i171:=by kernel_rfl
 i173:=by kernel_rfl
 i212:=by kernel_rfl
 i232:=by kernel_rfl
 i233:=by kernel_rfl
 m17:=by kernel_rfl
 m18:=by kernel_rfl
 m19:=by kernel_rfl }
def Tryz.laysM171_ren:Go.Shelf.Ren:=⟨fun | 171=>154 | 243=>176 | 246=>168 | 283=>197 | 284=>198 | 285=>199 | 286=>200 | 129=>186 | 317=>214 | 318=>215 | 319=>216 | 320=>217 | 337=>223 | 338=>224 | n=>n,fun | 3=>3 | 9=>9 | 2=>2 | 4=>4 | 171=>184 | 0=>0 | 53=>178 | 37=>156 | 5=>5 | 173=>186 | 212=>199 | 51=>176 | 20=>20 | 213=>200 | 46=>143 | 232=>211 | 233=>212 | n=>n,fun | 17=>1 | 18=>2 | 19=>3 | n=>n⟩
theorem Tryz.laysM171:Go.Proofs.LaysM.n171 Tryz.prog Tryz.laysM171_ren:={
 mixed:=by kernel_rfl
 f129:=Tryz.func186.trans (congrArg some (by kernel_rfl))
 f171:=Tryz.func154.trans (congrArg some (by kernel_rfl))
 f243:=Tryz.func176.trans (congrArg some (by kernel_rfl))
 f246:=Tryz.func168.trans (congrArg some (by kernel_rfl))
 f283:=Tryz.func197.trans (congrArg some (by kernel_rfl))
 f284:=Tryz.func198.trans (congrArg some (by kernel_rfl))
 f285:=Tryz.func199.trans (congrArg some (by kernel_rfl))
 f286:=Tryz.func200.trans (congrArg some (by kernel_rfl))
 f317:=Tryz.func214.trans (congrArg some (by kernel_rfl))
 f318:=Tryz.func215.trans (congrArg some (by kernel_rfl))
 f319:=Tryz.func216.trans (congrArg some (by kernel_rfl))
 f320:=Tryz.func217.trans (congrArg some (by kernel_rfl))
 f337:=Tryz.func223.trans (congrArg some (by kernel_rfl))
 f338:=Tryz.func224.trans (congrArg some (by kernel_rfl))
 t0:=Tryz.underlying0
 a0:=Tryz.isAgg0
 z0:=Tryz.sizeOf0
 v0:=Tryz.zeroValue0
 t2:=Tryz.underlying2
 a2:=Tryz.isAgg2
 z2:=Tryz.sizeOf2
 v2:=Tryz.zeroValue2
 t3:=Tryz.underlying3
 a3:=Tryz.isAgg3
 z3:=Tryz.sizeOf3
 v3:=Tryz.zeroValue3
 t4:=Tryz.underlying4
 a4:=Tryz.isAgg4
 z4:=Tryz.sizeOf4
 v4:=Tryz.zeroValue4
 t5:=Tryz.underlying5
 a5:=Tryz.isAgg5
 z5:=Tryz.sizeOf5
 v5:=Tryz.zeroValue5
 t9:=Tryz.underlying9
 a9:=Tryz.isAgg9
 z9:=Tryz.sizeOf9
 v9:=Tryz.zeroValue9
 t20:=Tryz.underlying20
 a20:=Tryz.isAgg20
 z20:=Tryz.sizeOf20
 v20:=Tryz.zeroValue20
 t37:=Tryz.underlying156
 a37:=Tryz.isAgg156
 z37:=Tryz.sizeOf156
 v37:=Tryz.zeroValue156
 t46:=Tryz.underlying143
 a46:=Tryz.isAgg143
 z46:=Tryz.sizeOf143
 v46:=Tryz.zeroValue143
 t51:=Tryz.underlying176
 a51:=Tryz.isAgg176
 z51:=Tryz.sizeOf176
 v51:=Tryz.zeroValue176
 t53:=Tryz.underlying178
 a53:=Tryz.isAgg178
 z53:=Tryz.sizeOf178
 v53:=Tryz.zeroValue178
 t171:=Tryz.underlying184
 a171:=Tryz.isAgg184
 z171:=Tryz.sizeOf184
 v171:=Tryz.zeroValue184
 t173:=Tryz.underlying186
 a173:=Tryz.isAgg186
 z173:=Tryz.sizeOf186
 v173:=Tryz.zeroValue186
 t212:=Tryz.underlying199
 a212:=Tryz.isAgg199
 z212:=Tryz.sizeOf199
 v212:=Tryz.zeroValue199
 t213:=Tryz.underlying200
 a213:=Tryz.isAgg200
 z213:=Tryz.sizeOf200
 t232:=Tryz.underlying211
 a232:=Tryz.isAgg211
 z232:=Tryz.sizeOf211
 v232:=Tryz.zeroValue211
 t233:=Tryz.underlying212
 a233:=Tryz.isAgg212
 z233:=Tryz.sizeOf212
 v233:=Tryz.zeroValue212
 g17:=by kernel_rfl
 g18:=by kernel_rfl
 g19:=by kernel_rfl
 i0:=by kernel_rfl
 i2:=by kernel_rfl
 i3:=by kernel_rfl
 i4:=by kernel_rfl
 i5:=by kernel_rfl
 i9:=by kernel_rfl
 i20:=by kernel_rfl
 i37:=by kernel_rfl
 i46:=by kernel_rfl
 i51:=by kernel_rfl
 i53:=by kernel_rfl
 i171:=by kernel_rfl
 i173:=by kernel_rfl
 i212:=by kernel_rfl
 i232:=by kernel_rfl
 i233:=by kernel_rfl
 m17:=by kernel_rfl
 m18:=by kernel_rfl
 m19:=by kernel_rfl }
def Tryz.lays155_ren:Go.Shelf.Ren:=⟨fun | 155=>203 | 154=>220 | 138=>225 | 165=>169 | 143=>226 | 166=>170 | 197=>227 | 169=>171 | 195=>228 | 218=>229 | 240=>201 | 241=>202 | 219=>230 | 260=>231 | 276=>218 | 277=>219 | 217=>232 | 225=>233 | 224=>234 | 267=>235 | 266=>236 | 314=>237 | n=>n,fun | 9=>9 | 3=>3 | 4=>4 | 72=>158 | 0=>0 | 76=>162 | 105=>209 | 21=>21 | 5=>5 | 70=>155 | 20=>20 | 37=>156 | 75=>161 | 127=>188 | 164=>201 | 46=>143 | 119=>215 | 139=>218 | 138=>217 | 146=>219 | 51=>176 | 80=>164 | n=>n,fun | 1=>0 | 3=>4 | 4=>5 | n=>n⟩
theorem Tryz.lays155:Go.Proofs.Lays.n155 Tryz.prog Tryz.lays155_ren:={
 mixed:=by kernel_rfl
 f138:=Tryz.func225.trans (congrArg some (by kernel_rfl))
 f143:=Tryz.func226.trans (congrArg some (by kernel_rfl))
 f154:=Tryz.func220.trans (congrArg some (by kernel_rfl))
 f155:=Tryz.func203.trans (congrArg some (by kernel_rfl))
 f165:=Tryz.func169.trans (congrArg some (by kernel_rfl))
 f166:=Tryz.func170.trans (congrArg some (by kernel_rfl))
 f169:=Tryz.func171.trans (congrArg some (by kernel_rfl))
 f195:=Tryz.func228.trans (congrArg some (by kernel_rfl))
 f197:=Tryz.func227.trans (congrArg some (by kernel_rfl))
 f217:=Tryz.func232.trans (congrArg some (by kernel_rfl))
 f218:=Tryz.func229.trans (congrArg some (by kernel_rfl))
 f219:=Tryz.func230.trans (congrArg some (by kernel_rfl))
 f224:=Tryz.func234.trans (congrArg some (by kernel_rfl))
 f225:=Tryz.func233.trans (congrArg some (by kernel_rfl))
 f240:=Tryz.func201.trans (congrArg some (by kernel_rfl))
 f241:=Tryz.func202.trans (congrArg some (by kernel_rfl))
 f260:=Tryz.func231.trans (congrArg some (by kernel_rfl))
 f266:=Tryz.func236.trans (congrArg some (by kernel_rfl))
 f267:=Tryz.func235.trans (congrArg some (by kernel_rfl))
 f276:=Tryz.func218.trans (congrArg some (by kernel_rfl))
 f277:=Tryz.func219.trans (congrArg some (by kernel_rfl))
 f314:=Tryz.func237.trans (congrArg some (by kernel_rfl))
 t0:=Tryz.underlying0
 a0:=Tryz.isAgg0
 z0:=Tryz.sizeOf0
 v0:=Tryz.zeroValue0
 t3:=Tryz.underlying3
 a3:=Tryz.isAgg3
 z3:=Tryz.sizeOf3
 v3:=Tryz.zeroValue3
 t4:=Tryz.underlying4
 a4:=Tryz.isAgg4
 z4:=Tryz.sizeOf4
 v4:=Tryz.zeroValue4
 t5:=Tryz.underlying5
 a5:=Tryz.isAgg5
 z5:=Tryz.sizeOf5
 v5:=Tryz.zeroValue5
 t9:=Tryz.underlying9
 a9:=Tryz.isAgg9
 z9:=Tryz.sizeOf9
 v9:=Tryz.zeroValue9
 t20:=Tryz.underlying20
 a20:=Tryz.isAgg20
 z20:=Tryz.sizeOf20
 v20:=Tryz.zeroValue20
 t21:=Tryz.underlying21
 a21:=Tryz.isAgg21
 z21:=Tryz.sizeOf21
 v21:=Tryz.zeroValue21
 t37:=Tryz.underlying156
 a37:=Tryz.isAgg156
 z37:=Tryz.sizeOf156
 v37:=Tryz.zeroValue156
 t46:=Tryz.underlying143
 a46:=Tryz.isAgg143
 z46:=Tryz.sizeOf143
 v46:=Tryz.zeroValue143
 t51:=Tryz.underlying176
 a51:=Tryz.isAgg176
 z51:=Tryz.sizeOf176
 v51:=Tryz.zeroValue176
 t70:=Tryz.underlying155
 a70:=Tryz.isAgg155
 z70:=Tryz.sizeOf155
 v70:=Tryz.zeroValue155
 t72:=Tryz.underlying158
 a72:=Tryz.isAgg158
 z72:=Tryz.sizeOf158
 v72:=Tryz.zeroValue158
 t75:=Tryz.underlying161
 a75:=Tryz.isAgg161
 z75:=Tryz.sizeOf161
 v75:=Tryz.zeroValue161
 t76:=Tryz.underlying162
 a76:=Tryz.isAgg162
 z76:=Tryz.sizeOf162
 v76:=Tryz.zeroValue162
 t105:=Tryz.underlying209
 a105:=Tryz.isAgg209
 z105:=Tryz.sizeOf209
 v105:=Tryz.zeroValue209
 t119:=Tryz.underlying215
 a119:=Tryz.isAgg215
 z119:=Tryz.sizeOf215
 t127:=Tryz.underlying188
 a127:=Tryz.isAgg188
 z127:=Tryz.sizeOf188
 v127:=Tryz.zeroValue188
 t138:=Tryz.underlying217
 a138:=Tryz.isAgg217
 z138:=Tryz.sizeOf217
 v138:=Tryz.zeroValue217
 t139:=Tryz.underlying218
 a139:=Tryz.isAgg218
 z139:=Tryz.sizeOf218
 v139:=Tryz.zeroValue218
 t146:=Tryz.underlying219
 a146:=Tryz.isAgg219
 z146:=Tryz.sizeOf219
 v146:=Tryz.zeroValue219
 t164:=Tryz.underlying201
 a164:=Tryz.isAgg201
 z164:=Tryz.sizeOf201
 v164:=Tryz.zeroValue201
 g1:=by kernel_rfl
 g3:=by kernel_rfl
 g4:=by kernel_rfl }
theorem Tryz.Builder_Extra_155:Builder.Extra Tryz.prog Tryz.lays155_ren:={
 sizeBuilder:=by kernel_rfl
 liesBuilder:=by kernel_rfl
 t5:=Tryz.underlying5
 a5:=Tryz.isAgg5
 z5:=Tryz.sizeOf5
 v5:=Tryz.zeroValue5
 infoByte:=by kernel_rfl
 cellsByte:=by kernel_rfl
 sizeByte:=by kernel_rfl
 neB5:=by decide }
def Tryz.lays156_ren:Go.Shelf.Ren:=⟨fun | 156=>152 | 165=>169 | 166=>170 | 169=>171 | 240=>201 | 241=>202 | 276=>218 | 277=>219 | n=>n,fun | 31=>136 | 9=>9 | 3=>3 | 4=>4 | 0=>0 | 20=>20 | 72=>158 | 76=>162 | 70=>155 | 37=>156 | 75=>161 | 127=>188 | 164=>201 | 5=>5 | 80=>164 | n=>n,fun | n=>n⟩
theorem Tryz.lays156:Go.Proofs.Lays.n156 Tryz.prog Tryz.lays156_ren:={
 mixed:=by kernel_rfl
 f156:=Tryz.func152.trans (congrArg some (by kernel_rfl))
 f165:=Tryz.func169.trans (congrArg some (by kernel_rfl))
 f166:=Tryz.func170.trans (congrArg some (by kernel_rfl))
 f169:=Tryz.func171.trans (congrArg some (by kernel_rfl))
 f240:=Tryz.func201.trans (congrArg some (by kernel_rfl))
 f241:=Tryz.func202.trans (congrArg some (by kernel_rfl))
 f276:=Tryz.func218.trans (congrArg some (by kernel_rfl))
 f277:=Tryz.func219.trans (congrArg some (by kernel_rfl))
 t0:=Tryz.underlying0
 a0:=Tryz.isAgg0
 z0:=Tryz.sizeOf0
 v0:=Tryz.zeroValue0
 t3:=Tryz.underlying3
 a3:=Tryz.isAgg3
 z3:=Tryz.sizeOf3
 v3:=Tryz.zeroValue3
 t4:=Tryz.underlying4
 a4:=Tryz.isAgg4
 z4:=Tryz.sizeOf4
 v4:=Tryz.zeroValue4
 t9:=Tryz.underlying9
 a9:=Tryz.isAgg9
 z9:=Tryz.sizeOf9
 v9:=Tryz.zeroValue9
 t20:=Tryz.underlying20
 a20:=Tryz.isAgg20
 z20:=Tryz.sizeOf20
 v20:=Tryz.zeroValue20
 t31:=Tryz.underlying136
 a31:=Tryz.isAgg136
 z31:=Tryz.sizeOf136
 v31:=Tryz.zeroValue136
 t37:=Tryz.underlying156
 a37:=Tryz.isAgg156
 z37:=Tryz.sizeOf156
 v37:=Tryz.zeroValue156
 t70:=Tryz.underlying155
 a70:=Tryz.isAgg155
 z70:=Tryz.sizeOf155
 v70:=Tryz.zeroValue155
 t72:=Tryz.underlying158
 a72:=Tryz.isAgg158
 z72:=Tryz.sizeOf158
 v72:=Tryz.zeroValue158
 t75:=Tryz.underlying161
 a75:=Tryz.isAgg161
 z75:=Tryz.sizeOf161
 v75:=Tryz.zeroValue161
 t76:=Tryz.underlying162
 a76:=Tryz.isAgg162
 z76:=Tryz.sizeOf162
 v76:=Tryz.zeroValue162
 t127:=Tryz.underlying188
 a127:=Tryz.isAgg188
 z127:=Tryz.sizeOf188
 v127:=Tryz.zeroValue188
 t164:=Tryz.underlying201
 a164:=Tryz.isAgg201
 z164:=Tryz.sizeOf201
 v164:=Tryz.zeroValue201 }
theorem Tryz.Builder_Extra_156:Builder.Extra Tryz.prog Tryz.lays156_ren:={
 sizeBuilder:=by kernel_rfl
 liesBuilder:=by kernel_rfl
 t5:=Tryz.underlying5
 a5:=Tryz.isAgg5
 z5:=Tryz.sizeOf5
 v5:=Tryz.zeroValue5
 infoByte:=by kernel_rfl
 cellsByte:=by kernel_rfl
 sizeByte:=by kernel_rfl
 neB5:=by decide }
def Tryz.lays125_ren:Go.Shelf.Ren:=⟨fun | 125=>156 | 128=>185 | 129=>186 | n=>n,fun | 46=>143 | 3=>3 | 51=>176 | 53=>178 | 4=>4 | 5=>5 | 9=>9 | n=>n,fun | n=>n⟩
theorem Tryz.lays125:Go.Proofs.Lays.n125 Tryz.prog Tryz.lays125_ren:={
 mixed:=by kernel_rfl
 f125:=Tryz.func156.trans (congrArg some (by kernel_rfl))
 f128:=Tryz.func185.trans (congrArg some (by kernel_rfl))
 f129:=Tryz.func186.trans (congrArg some (by kernel_rfl))
 t3:=Tryz.underlying3
 a3:=Tryz.isAgg3
 z3:=Tryz.sizeOf3
 v3:=Tryz.zeroValue3
 t4:=Tryz.underlying4
 a4:=Tryz.isAgg4
 z4:=Tryz.sizeOf4
 v4:=Tryz.zeroValue4
 t5:=Tryz.underlying5
 a5:=Tryz.isAgg5
 z5:=Tryz.sizeOf5
 v5:=Tryz.zeroValue5
 t9:=Tryz.underlying9
 a9:=Tryz.isAgg9
 z9:=Tryz.sizeOf9
 v9:=Tryz.zeroValue9
 t46:=Tryz.underlying143
 a46:=Tryz.isAgg143
 z46:=Tryz.sizeOf143
 v46:=Tryz.zeroValue143
 t51:=Tryz.underlying176
 a51:=Tryz.isAgg176
 z51:=Tryz.sizeOf176
 v51:=Tryz.zeroValue176
 t53:=Tryz.underlying178
 a53:=Tryz.isAgg178
 z53:=Tryz.sizeOf178
 v53:=Tryz.zeroValue178 }
end Go.Proofs
namespace Go.Proofs.YtnolcogncjijpaaGreatDoor
open Go Go.Ab
def strings_Compare (s p:ByteArray):Bool×Int:=zAM s p
def strings_Compare_spec:Ab.Spec ty:=zr (cx:=base) (zf (zg vStr) (zf (zg vStr) aNil)) fun x=>((strings_Compare x.1 x.2.1).1,⟨[.pure (.lit (.int .i64 (strings_Compare x.1 x.2.1).2))],[]⟩)
theorem zCB:Sound Tryz.prog base 162 strings_Compare_spec:=zJK zB Go.Proofs.Tryz.lays106 Tryz.call162
end Go.Proofs.YtnolcogncjijpaaGreatDoor
namespace Go.Proofs.YtnolcogncjijpaaGreatDoor
open Go Go.Ab
def zGX:Cx ty:=mkCx base 22 [(79,zkf),(88,zkS),(125,zlQ),(162,strings_Compare_spec)] [] [] [] [] []
def zuX (a:Value) (b:Value):Wy0 (Int):=.bn (zdY a.Kind b.Kind) fun r2=>.bn (zhF a.Int b.Int) fun r1=>.bn (zlO [r2,r1,(strings_Compare a.Text b.Text).2]) fun r0=>.k r0
def znr (a:Value) (b:Value):Bool×Int:=(zuX a b).fin default
def zy3 (r:Int):ARes ty:=⟨[.pure (.lit (.int .i64 r))],[]⟩
def zBS:AL base (Value×Value×Unit):=zf (zg (vAgg 46)) (zf (zg (vAgg 46)) aNil)
def zrr:Ab.Spec ty:=zr zBS fun x=>((znr x.1 x.2.1).1,zy3 (znr x.1 x.2.1).2)
theorem zvZ:Sound Tryz.prog base 128 zrr:=
 zD (cx':=zGX) zQ zB zL (zF ⟨zm9,zmV,zop,zCB,trivial⟩) Tryz.call128 Tryz.func128 (c:=body Tryz.f128) (by kernel_rfl) (zj (l:=[]) (by kernel_rfl) trivial) (sg:=⟨[.pure],[]⟩) (A:=zBS) (res:=zy3) (W:=fun x=>zuX x.1 x.2.1) (z:=default)
def zwV (zn:List Term→List Term→Bool×Int) (zq:Weighted→Weighted→Bool×Int) (zl:List (List Term)→List (List Term)→Bool×Int) (zo:List Weighted→List Weighted→Bool×Int):Cx ty:=mkCx base 51 [(38,(zdn zn)),(85,(zdo zq)),(88,zkS),(125,zlQ),(126,(z6 zl)),(127,(zbk zo)),(128,zrr)] [] [] [] [] []
def zkH (zn:List Term→List Term→Bool×Int) (zq:Weighted→Weighted→Bool×Int) (zl:List (List Term)→List (List Term)→Bool×Int) (zo:List Weighted→List Weighted→Bool×Int) (a:Atom) (b:Atom):Wy0 (Int):=.bn (zdY a.Kind b.Kind) fun r8=>.bn (zdY a.Row.Table b.Row.Table) fun r7=>.bn (zdY a.Row.Seq b.Row.Seq) fun r6=>.bn (zl a.Args b.Args) fun r5=>.bn (zdY a.Func b.Func) fun r4=>.bn (zo a.Items b.Items) fun r3=>.bn (zdY a.Op b.Op) fun r2=>.bn (znr a.Bound b.Bound) fun r1=>.bn (zlO [r8,r7,r6,r5,r4,r3,r2,r1]) fun r0=>.k r0
def ziD (zn:List Term→List Term→Bool×Int) (zq:Weighted→Weighted→Bool×Int) (zl:List (List Term)→List (List Term)→Bool×Int) (zo:List Weighted→List Weighted→Bool×Int) (a:Atom) (b:Atom):Bool×Int:=(zkH zn zq zl zo a b).fin default
theorem zuK (zn:List Term→List Term→Bool×Int) (zq:Weighted→Weighted→Bool×Int) (zl:List (List Term)→List (List Term)→Bool×Int) (zo:List Weighted→List Weighted→Bool×Int) (zh4:Sound Tryz.prog base 38 (zdn zn)) (zkt:Sound Tryz.prog base 85 (zdo zq)) (zer:Sound Tryz.prog base 126 (z6 zl)) (zfC:Sound Tryz.prog base 127 (zbk zo)):Sound Tryz.prog base 73 (zfI (ziD zn zq zl zo)):=
 zD (cx':=(zwV zn zq zl zo)) zQ zB zL (zF ⟨zh4,zkt,zmV,zop,zer,zfC,zvZ,trivial⟩) Tryz.call73 Tryz.func73 (c:=body Tryz.f73) (by kernel_rfl) (zj (l:=[]) (by kernel_rfl) trivial) (sg:=⟨[.pure],[]⟩) (A:=zqy) (res:=zo8) (W:=fun x=>zkH zn zq zl zo x.1 x.2.1) (z:=default)
def zvf (zbU:Atom→Atom→Bool×Int):Cx ty:=mkCx base 17 [(73,(zfI zbU)),(88,zkS),(125,zlQ)] [] [] [] [] []
def zjD (zbU:Atom→Atom→Bool×Int) (a:Factor) (b:Factor):Wy0 (Int):=.bn (zbU (Atom.mk a.Atom.Kind a.Atom.Row a.Atom.Args a.Atom.Func a.Atom.Items a.Atom.Op a.Atom.Bound) (Atom.mk b.Atom.Kind b.Atom.Row b.Atom.Args b.Atom.Func b.Atom.Items b.Atom.Op b.Atom.Bound)) fun r2=>.bn (zdY a.Exp b.Exp) fun r1=>.bn (zlO [r2,r1]) fun r0=>.k r0
def zhP (zbU:Atom→Atom→Bool×Int) (a:Factor) (b:Factor):Bool×Int:=(zjD zbU a b).fin default
theorem zs8 (zbU:Atom→Atom→Bool×Int) (zyk:Sound Tryz.prog base 73 (zfI zbU)):Sound Tryz.prog base 124 (zdL (zhP zbU)):=
 zD (cx':=(zvf zbU)) zQ zB zL (zF ⟨zyk,zmV,zop,trivial⟩) Tryz.call124 Tryz.func124 (c:=body Tryz.f124) (by kernel_rfl) (zj (l:=[]) (by kernel_rfl) trivial) (sg:=⟨[.pure],[]⟩) (A:=zoY) (res:=zoa) (W:=fun x=>zjD zbU x.1 x.2.1) (z:=default)
def zwW (zn:List Term→List Term→Bool×Int):Cx ty:=mkCx base 17 [(38,(zdn zn)),(88,zkS),(128,zrr)] [] [] [] [] []
def zkM (zn:List Term→List Term→Bool×Int) (a:Weighted) (b:Weighted):Wy0 (Int):=.bn (znr a.Value b.Value) fun r2=>.bn (zn a.Ann b.Ann) fun r1=>.bn (zlO [r2,r1]) fun r0=>.k r0
def ziG (zn:List Term→List Term→Bool×Int) (a:Weighted) (b:Weighted):Bool×Int:=(zkM zn a b).fin default
theorem zuG (zn:List Term→List Term→Bool×Int) (zh4:Sound Tryz.prog base 38 (zdn zn)):Sound Tryz.prog base 85 (zdo (ziG zn)):=
 zD (cx':=(zwW zn)) zQ zB zL (zF ⟨zh4,zmV,zvZ,trivial⟩) Tryz.call85 Tryz.func85 (c:=body Tryz.f85) (by kernel_rfl) (zj (l:=[]) (by kernel_rfl) trivial) (sg:=⟨[.pure],[]⟩) (A:=zqI) (res:=zo1) (W:=fun x=>zkM zn x.1 x.2.1) (z:=default)
def zwU (zA:List Factor→List Factor→Bool×Int) (zm:Factor→Factor→Bool×Int):Cx ty:=mkCx base 10 [(123,(zbv zA)),(124,(zdL zm))] [] [] [] [] []
def zkv (zA:List Factor→List Factor→Bool×Int) (zm:Factor→Factor→Bool×Int) (a:Term) (b:Term):Wy0 (Int):=.bn (zA a.Factors b.Factors) fun r0=>.k r0
def ziE (zA:List Factor→List Factor→Bool×Int) (zm:Factor→Factor→Bool×Int) (a:Term) (b:Term):Bool×Int:=(zkv zA zm a b).fin default
theorem zuJ (zA:List Factor→List Factor→Bool×Int) (zm:Factor→Factor→Bool×Int) (zhB:Sound Tryz.prog base 123 (zbv zA)) (zjz:Sound Tryz.prog base 124 (zdL zm)):Sound Tryz.prog base 71 (zfS (ziE zA zm)):=
 zD (cx':=(zwU zA zm)) zQ zB zL (zF ⟨zhB,zjz,trivial⟩) Tryz.call71 Tryz.func71 (c:=body Tryz.f71) (by kernel_rfl) (zj (l:=[]) (by kernel_rfl) trivial) (sg:=⟨[.pure],[]⟩) (A:=zqz) (res:=zpf) (W:=fun x=>zkv zA zm x.1 x.2.1) (z:=default)
abbrev ttTslicesCompareFuncLapiAnnotationLapiAnnotationapiAnnotationapiAnnotation0:=List (List Term)×List (List Term)×Unit×List (List Term)×Int×Int×Unit
abbrev ttTslicesCompareFuncLapiAnnotationLapiAnnotationapiAnnotationapiAnnotation1:=Int⊕(List (List Term)×List (List Term))
def zen (zn:List Term→List Term→Bool×Int) (s1:List (List Term)) (s2:List (List Term)) (t11:List (List Term)) (t12:Int) (t13:Int):Wy ttTslicesCompareFuncLapiAnnotationLapiAnnotationapiAnnotationapiAnnotation0 (Unit) ttTslicesCompareFuncLapiAnnotationLapiAnnotationapiAnnotationapiAnnotation1:=.i (decide (t13<t12)) (.i (decide (0≤t13)&&decide (t13<Int.ofNat t11.length)) (.i (decide (t13≥Int.ofNat s2.length)) (.k (.inl 1)) (.i (decide (0≤t13)&&decide (t13<Int.ofNat s2.length)) (.bn (zn (t11.getD t13.toNat default) (s2.getD t13.toNat default)) fun r0=>.i (r0 != 0) (.k (.inl (r0))) (.h (s1,s2,(),t11,t12,(IntKind.i64.wrap (t13+1)),()) ())) .d)) .d) (.k (.inr (s1,s2)))
def zbr (zn:List Term→List Term→Bool×Int) (x:ttTslicesCompareFuncLapiAnnotationLapiAnnotationapiAnnotationapiAnnotation0) (y:Unit):Wy ttTslicesCompareFuncLapiAnnotationLapiAnnotationapiAnnotationapiAnnotation0 (Unit) ttTslicesCompareFuncLapiAnnotationLapiAnnotationapiAnnotationapiAnnotation1:=zen zn x.1 x.2.1 x.2.2.2.1 x.2.2.2.2.1 x.2.2.2.2.2.1
def zek (zn:List Term→List Term→Bool×Int) (n:Nat) (s1:List (List Term)) (s2:List (List Term)) (t11:List (List Term)) (t12:Int) (t13:Int):Bool×ttTslicesCompareFuncLapiAnnotationLapiAnnotationapiAnnotationapiAnnotation1:=zN (zbr zn) (.inl default) n (s1,s2,(),t11,t12,t13,()) ()
def zb8 (r:ttTslicesCompareFuncLapiAnnotationLapiAnnotationapiAnnotationapiAnnotation1):LTree ty:=.ite (isL r) (.done .ret [.lit (.int .i64 (getL r))] []) (.done (.exit 0) [.sl 23 (getR r).1,.sl 23 (getR r).2] [])
def zcf:LL ty ttTslicesCompareFuncLapiAnnotationLapiAnnotationapiAnnotationapiAnnotation0:=za (lSl 23) (za (lSl 23) (za (lFn 38 (zS)) (za (lSl 23) (za (lInt .i64) (za (lInt .i64) zS)))))
def zcb:BL ty (Unit):=bNil
def zb9 (x:ttTslicesCompareFuncLapiAnnotationLapiAnnotationapiAnnotationapiAnnotation0) (y:Unit):Nat:=(x.1.length+x.2.1.length+x.2.2.2.1.length+Int.toNat x.2.2.2.2.1+Int.toNat x.2.2.2.2.2.1+1)
def zcd (zn:List Term→List Term→Bool×Int):Cx ty:=mkCx base 39 [(38,(zdn zn))] [] [(2,[(0,.keep),(1,.keep),(2,.keep),(11,.keep),(12,.keep),(13,.keep)])] [(2,1,[(0,.keep),(1,.keep)]),(2,0,[(6,.keep)])] [(2,spW zcf zcb (zbr zn) (.inl default) zb8 zb9)] []
theorem zeb (zn:List Term→List Term→Bool×Int):zbp (zcd zn) (lp (body Tryz.f126) 0):=zY (id:=2) (V:=zcf) (B:=zcb) (W:=zbr zn) (z:=.inl default) (tr:=zb8) (m:=zb9)
def zch (zn:List Term→List Term→Bool×Int) (s1:List (List Term)) (s2:List (List Term)):Wy0 (Int):=.bn (zek zn (s1.length+s2.length+s1.length+(Int.ofNat s1.length).toNat +Int.toNat 0+1) s1 s2 s1 (Int.ofNat s1.length) 0) fun r2=>.i (isL r2) (.k (getL r2)) (.i (decide (Int.ofNat (getR r2).1.length<Int.ofNat (getR r2).2.length)) (.k (-1:Int)) (.k 0))
def z7 (zn:List Term→List Term→Bool×Int) (s1:List (List Term)) (s2:List (List Term)):Bool×Int:=(zch zn s1 s2).fin default
theorem zd4 (zn:List Term→List Term→Bool×Int) (zh4:Sound Tryz.prog base 38 (zdn zn)):Sound Tryz.prog base 126 (z6 (z7 zn)):=
 zD (cx':=(zcd zn)) zQ zB zL (zF ⟨zh4,trivial⟩) Tryz.call126 Tryz.func126 (c:=body Tryz.f126) (by kernel_rfl) (zj (l:=[lp (body Tryz.f126) 0]) (by kernel_rfl) ⟨zeb zn,trivial⟩) (sg:=⟨[.pure],[]⟩) (A:=zcl) (res:=zci) (W:=fun x=>zch zn x.1 x.2.1) (z:=default)
abbrev ttTslicesCompareFuncLapiFactorLapiFactorapiFactorapiFactor0:=List Factor×List Factor×Unit×List Factor×Int×Int×Unit
abbrev ttTslicesCompareFuncLapiFactorLapiFactorapiFactorapiFactor1:=Int⊕(List Factor×List Factor)
def zdb (zm:Factor→Factor→Bool×Int) (s1:List Factor) (s2:List Factor) (t11:List Factor) (t12:Int) (t13:Int):Wy ttTslicesCompareFuncLapiFactorLapiFactorapiFactorapiFactor0 (Unit) ttTslicesCompareFuncLapiFactorLapiFactorapiFactorapiFactor1:=.i (decide (t13<t12)) (.i (decide (0≤t13)&&decide (t13<Int.ofNat t11.length)) (.i (decide (t13≥Int.ofNat s2.length)) (.k (.inl 1)) (.i (decide (0≤t13)&&decide (t13<Int.ofNat s2.length)) (.bn (zm (FactorOf.mk (Atom.mk (t11.getD t13.toNat default).Atom.Kind (t11.getD t13.toNat default).Atom.Row (t11.getD t13.toNat default).Atom.Args (t11.getD t13.toNat default).Atom.Func (t11.getD t13.toNat default).Atom.Items (t11.getD t13.toNat default).Atom.Op (t11.getD t13.toNat default).Atom.Bound) (t11.getD t13.toNat default).Exp) (FactorOf.mk (Atom.mk (s2.getD t13.toNat default).Atom.Kind (s2.getD t13.toNat default).Atom.Row (s2.getD t13.toNat default).Atom.Args (s2.getD t13.toNat default).Atom.Func (s2.getD t13.toNat default).Atom.Items (s2.getD t13.toNat default).Atom.Op (s2.getD t13.toNat default).Atom.Bound) (s2.getD t13.toNat default).Exp)) fun r0=>.i (r0 != 0) (.k (.inl (r0))) (.h (s1,s2,(),t11,t12,(IntKind.i64.wrap (t13+1)),()) ())) .d)) .d) (.k (.inr (s1,s2)))
def zZ (zm:Factor→Factor→Bool×Int) (x:ttTslicesCompareFuncLapiFactorLapiFactorapiFactorapiFactor0) (y:Unit):Wy ttTslicesCompareFuncLapiFactorLapiFactorapiFactorapiFactor0 (Unit) ttTslicesCompareFuncLapiFactorLapiFactorapiFactorapiFactor1:=zdb zm x.1 x.2.1 x.2.2.2.1 x.2.2.2.2.1 x.2.2.2.2.2.1
def zdc (zm:Factor→Factor→Bool×Int) (n:Nat) (s1:List Factor) (s2:List Factor) (t11:List Factor) (t12:Int) (t13:Int):Bool×ttTslicesCompareFuncLapiFactorLapiFactorapiFactorapiFactor1:=zN (zZ zm) (.inl default) n (s1,s2,(),t11,t12,t13,()) ()
def zc1 (r:ttTslicesCompareFuncLapiFactorLapiFactorapiFactorapiFactor1):LTree ty:=.ite (isL r) (.done .ret [.lit (.int .i64 (getL r))] []) (.done (.exit 0) [.sl 50 (getR r).1,.sl 50 (getR r).2] [])
def zdf:LL ty ttTslicesCompareFuncLapiFactorLapiFactorapiFactorapiFactor0:=za (lSl 50) (za (lSl 50) (za (lFn 124 (zS)) (za (lSl 50) (za (lInt .i64) (za (lInt .i64) zS)))))
def zdg:BL ty (Unit):=bNil
def zc3 (x:ttTslicesCompareFuncLapiFactorLapiFactorapiFactorapiFactor0) (y:Unit):Nat:=(x.1.length+x.2.1.length+x.2.2.2.1.length+Int.toNat x.2.2.2.2.1+Int.toNat x.2.2.2.2.2.1+1)
def zde (zm:Factor→Factor→Bool×Int):Cx ty:=mkCx base 39 [(124,(zdL zm))] [] [(2,[(0,.keep),(1,.keep),(2,.keep),(11,.keep),(12,.keep),(13,.keep)])] [(2,1,[(0,.keep),(1,.keep)]),(2,0,[(6,.keep)])] [(2,spW zdf zdg (zZ zm) (.inl default) zc1 zc3)] []
theorem zg9 (zm:Factor→Factor→Bool×Int):zbp (zde zm) (lp (body Tryz.f123) 0):=zY (id:=2) (V:=zdf) (B:=zdg) (W:=zZ zm) (z:=.inl default) (tr:=zc1) (m:=zc3)
def zbZ (zm:Factor→Factor→Bool×Int) (s1:List Factor) (s2:List Factor):Wy0 (Int):=.bn (zdc zm (s1.length+s2.length+s1.length+(Int.ofNat s1.length).toNat +Int.toNat 0+1) s1 s2 s1 (Int.ofNat s1.length) 0) fun r2=>.i (isL r2) (.k (getL r2)) (.i (decide (Int.ofNat (getR r2).1.length<Int.ofNat (getR r2).2.length)) (.k (-1:Int)) (.k 0))
def zbd (zm:Factor→Factor→Bool×Int) (s1:List Factor) (s2:List Factor):Bool×Int:=(zbZ zm s1 s2).fin default
theorem zgM (zm:Factor→Factor→Bool×Int) (zjz:Sound Tryz.prog base 124 (zdL zm)):Sound Tryz.prog base 123 (zbv (zbd zm)):=
 zD (cx':=(zde zm)) zQ zB zL (zF ⟨zjz,trivial⟩) Tryz.call123 Tryz.func123 (c:=body Tryz.f123) (by kernel_rfl) (zj (l:=[lp (body Tryz.f123) 0]) (by kernel_rfl) ⟨zg9 zm,trivial⟩) (sg:=⟨[.pure],[]⟩) (A:=zdt) (res:=zdk) (W:=fun x=>zbZ zm x.1 x.2.1) (z:=default)
abbrev ttTslicesCompareFuncLapiWeightedLapiWeightedapiWeightedapiWeighted0:=List Weighted×List Weighted×Unit×List Weighted×Int×Int×Unit
abbrev ttTslicesCompareFuncLapiWeightedLapiWeightedapiWeightedapiWeighted1:=Int⊕(List Weighted×List Weighted)
def zfi (zq:Weighted→Weighted→Bool×Int) (s1:List Weighted) (s2:List Weighted) (t11:List Weighted) (t12:Int) (t13:Int):Wy ttTslicesCompareFuncLapiWeightedLapiWeightedapiWeightedapiWeighted0 (Unit) ttTslicesCompareFuncLapiWeightedLapiWeightedapiWeightedapiWeighted1:=.i (decide (t13<t12)) (.i (decide (0≤t13)&&decide (t13<Int.ofNat t11.length)) (.i (decide (t13≥Int.ofNat s2.length)) (.k (.inl 1)) (.i (decide (0≤t13)&&decide (t13<Int.ofNat s2.length)) (.bn (zq (t11.getD t13.toNat default) (s2.getD t13.toNat default)) fun r0=>.i (r0 != 0) (.k (.inl (r0))) (.h (s1,s2,(),t11,t12,(IntKind.i64.wrap (t13+1)),()) ())) .d)) .d) (.k (.inr (s1,s2)))
def zbC (zq:Weighted→Weighted→Bool×Int) (x:ttTslicesCompareFuncLapiWeightedLapiWeightedapiWeightedapiWeighted0) (y:Unit):Wy ttTslicesCompareFuncLapiWeightedLapiWeightedapiWeightedapiWeighted0 (Unit) ttTslicesCompareFuncLapiWeightedLapiWeightedapiWeightedapiWeighted1:=zfi zq x.1 x.2.1 x.2.2.2.1 x.2.2.2.2.1 x.2.2.2.2.2.1
def zfn (zq:Weighted→Weighted→Bool×Int) (n:Nat) (s1:List Weighted) (s2:List Weighted) (t11:List Weighted) (t12:Int) (t13:Int):Bool×ttTslicesCompareFuncLapiWeightedLapiWeightedapiWeightedapiWeighted1:=zN (zbC zq) (.inl default) n (s1,s2,(),t11,t12,t13,()) ()
def zct (r:ttTslicesCompareFuncLapiWeightedLapiWeightedapiWeightedapiWeighted1):LTree ty:=.ite (isL r) (.done .ret [.lit (.int .i64 (getL r))] []) (.done (.exit 0) [.sl 52 (getR r).1,.sl 52 (getR r).2] [])
def zcw:LL ty ttTslicesCompareFuncLapiWeightedLapiWeightedapiWeightedapiWeighted0:=za (lSl 52) (za (lSl 52) (za (lFn 85 (zS)) (za (lSl 52) (za (lInt .i64) (za (lInt .i64) zS)))))
def zcu:BL ty (Unit):=bNil
def zcs (x:ttTslicesCompareFuncLapiWeightedLapiWeightedapiWeightedapiWeighted0) (y:Unit):Nat:=(x.1.length+x.2.1.length+x.2.2.2.1.length+Int.toNat x.2.2.2.2.1+Int.toNat x.2.2.2.2.2.1+1)
def zcv (zq:Weighted→Weighted→Bool×Int):Cx ty:=mkCx base 39 [(85,(zdo zq))] [] [(2,[(0,.keep),(1,.keep),(2,.keep),(11,.keep),(12,.keep),(13,.keep)])] [(2,1,[(0,.keep),(1,.keep)]),(2,0,[(6,.keep)])] [(2,spW zcw zcu (zbC zq) (.inl default) zct zcs)] []
theorem zfc (zq:Weighted→Weighted→Bool×Int):zbp (zcv zq) (lp (body Tryz.f127) 0):=zY (id:=2) (V:=zcw) (B:=zcu) (W:=zbC zq) (z:=.inl default) (tr:=zct) (m:=zcs)
def zcC (zq:Weighted→Weighted→Bool×Int) (s1:List Weighted) (s2:List Weighted):Wy0 (Int):=.bn (zfn zq (s1.length+s2.length+s1.length+(Int.ofNat s1.length).toNat +Int.toNat 0+1) s1 s2 s1 (Int.ofNat s1.length) 0) fun r2=>.i (isL r2) (.k (getL r2)) (.i (decide (Int.ofNat (getR r2).1.length<Int.ofNat (getR r2).2.length)) (.k (-1:Int)) (.k 0))
def zbj (zq:Weighted→Weighted→Bool×Int) (s1:List Weighted) (s2:List Weighted):Bool×Int:=(zcC zq s1 s2).fin default
theorem zeZ (zq:Weighted→Weighted→Bool×Int) (zkt:Sound Tryz.prog base 85 (zdo zq)):Sound Tryz.prog base 127 (zbk (zbj zq)):=
 zD (cx':=(zcv zq)) zQ zB zL (zF ⟨zkt,trivial⟩) Tryz.call127 Tryz.func127 (c:=body Tryz.f127) (by kernel_rfl) (zj (l:=[lp (body Tryz.f127) 0]) (by kernel_rfl) ⟨zfc zq,trivial⟩) (sg:=⟨[.pure],[]⟩) (A:=zcJ) (res:=zcB) (W:=fun x=>zcC zq x.1 x.2.1) (z:=default)
abbrev ttTslicesCompareFuncapiAnnotationapiAnnotationapiTermapiTerm0:=List Term×List Term×Unit×List Term×Int×Int×Unit
abbrev ttTslicesCompareFuncapiAnnotationapiAnnotationapiTermapiTerm1:=Int⊕(List Term×List Term)
def zgR (zx:Term→Term→Bool×Int) (s1:List Term) (s2:List Term) (t11:List Term) (t12:Int) (t13:Int):Wy ttTslicesCompareFuncapiAnnotationapiAnnotationapiTermapiTerm0 (Unit) ttTslicesCompareFuncapiAnnotationapiAnnotationapiTermapiTerm1:=.i (decide (t13<t12)) (.i (decide (0≤t13)&&decide (t13<Int.ofNat t11.length)) (.i (decide (t13≥Int.ofNat s2.length)) (.k (.inl 1)) (.i (decide (0≤t13)&&decide (t13<Int.ofNat s2.length)) (.bn (zx (t11.getD t13.toNat default) (s2.getD t13.toNat default)) fun r0=>.i (r0 != 0) (.k (.inl (r0))) (.h (s1,s2,(),t11,t12,(IntKind.i64.wrap (t13+1)),()) ())) .d)) .d) (.k (.inr (s1,s2)))
def zbM (zx:Term→Term→Bool×Int) (x:ttTslicesCompareFuncapiAnnotationapiAnnotationapiTermapiTerm0) (y:Unit):Wy ttTslicesCompareFuncapiAnnotationapiAnnotationapiTermapiTerm0 (Unit) ttTslicesCompareFuncapiAnnotationapiAnnotationapiTermapiTerm1:=zgR zx x.1 x.2.1 x.2.2.2.1 x.2.2.2.2.1 x.2.2.2.2.2.1
def zgT (zx:Term→Term→Bool×Int) (n:Nat) (s1:List Term) (s2:List Term) (t11:List Term) (t12:Int) (t13:Int):Bool×ttTslicesCompareFuncapiAnnotationapiAnnotationapiTermapiTerm1:=zN (zbM zx) (.inl default) n (s1,s2,(),t11,t12,t13,()) ()
def zcS (r:ttTslicesCompareFuncapiAnnotationapiAnnotationapiTermapiTerm1):LTree ty:=.ite (isL r) (.done .ret [.lit (.int .i64 (getL r))] []) (.done (.exit 0) [.sl 42 (getR r).1,.sl 42 (getR r).2] [])
def zcX:LL ty ttTslicesCompareFuncapiAnnotationapiAnnotationapiTermapiTerm0:=za (lSl 42) (za (lSl 42) (za (lFn 87 (zS)) (za (lSl 42) (za (lInt .i64) (za (lInt .i64) zS)))))
def zcW:BL ty (Unit):=bNil
def zcP (x:ttTslicesCompareFuncapiAnnotationapiAnnotationapiTermapiTerm0) (y:Unit):Nat:=(x.1.length+x.2.1.length+x.2.2.2.1.length+Int.toNat x.2.2.2.2.1+Int.toNat x.2.2.2.2.2.1+1)
def zcY (zx:Term→Term→Bool×Int):Cx ty:=mkCx base 39 [(87,(zeU zx))] [] [(2,[(0,.keep),(1,.keep),(2,.keep),(11,.keep),(12,.keep),(13,.keep)])] [(2,1,[(0,.keep),(1,.keep)]),(2,0,[(6,.keep)])] [(2,spW zcX zcW (zbM zx) (.inl default) zcS zcP)] []
theorem zgI (zx:Term→Term→Bool×Int):zbp (zcY zx) (lp (body Tryz.f86) 0):=zY (id:=2) (V:=zcX) (B:=zcW) (W:=zbM zx) (z:=.inl default) (tr:=zcS) (m:=zcP)
def zc4 (zx:Term→Term→Bool×Int) (s1:List Term) (s2:List Term):Wy0 (Int):=.bn (zgT zx (s1.length+s2.length+s1.length+(Int.ofNat s1.length).toNat +Int.toNat 0+1) s1 s2 s1 (Int.ofNat s1.length) 0) fun r2=>.i (isL r2) (.k (getL r2)) (.i (decide (Int.ofNat (getR r2).1.length<Int.ofNat (getR r2).2.length)) (.k (-1:Int)) (.k 0))
def zbs (zx:Term→Term→Bool×Int) (s1:List Term) (s2:List Term):Bool×Int:=(zc4 zx s1 s2).fin default
theorem zf2 (zx:Term→Term→Bool×Int) (zlT:Sound Tryz.prog base 87 (zeU zx)):Sound Tryz.prog base 86 (zbq (zbs zx)):=
 zD (cx':=(zcY zx)) zQ zB zL (zF ⟨zlT,trivial⟩) Tryz.call86 Tryz.func86 (c:=body Tryz.f86) (by kernel_rfl) (zj (l:=[lp (body Tryz.f86) 0]) (by kernel_rfl) ⟨zgI zx,trivial⟩) (sg:=⟨[.pure],[]⟩) (A:=zdj) (res:=zc5) (W:=fun x=>zc4 zx x.1 x.2.1) (z:=default)
def zbL:Nat→(List Term→List Term→Bool×Int)×(Term→Term→Bool×Int)×(Term→Term→Bool×Int)×(Factor→Factor→Bool×Int)×(Atom→Atom→Bool×Int)×(Weighted→Weighted→Bool×Int)×(List Term→List Term→Bool×Int)×(List Factor→List Factor→Bool×Int)×(List (List Term)→List (List Term)→Bool×Int)×(List Weighted→List Weighted→Bool×Int)
 | 0=>(fun _ _=>(false,default),fun _ _=>(false,default),fun _ _=>(false,default),fun _ _=>(false,default),fun _ _=>(false,default),fun _ _=>(false,default),fun _ _=>(false,default),fun _ _=>(false,default),fun _ _=>(false,default),fun _ _=>(false,default))
 | n+1=>(zlS ((zbL n).2.2.2.2.2.2.1) ((zbL n).2.1),zjH ((zbL n).2.2.1),ziE ((zbL n).2.2.2.2.2.2.2.1) ((zbL n).2.2.2.1),zhP ((zbL n).2.2.2.2.1),ziD ((zbL n).1) ((zbL n).2.2.2.2.2.1) ((zbL n).2.2.2.2.2.2.2.2.1) ((zbL n).2.2.2.2.2.2.2.2.2),ziG ((zbL n).1),zbs ((zbL n).2.1),zbd ((zbL n).2.2.2.1),z7 ((zbL n).1),zbj ((zbL n).2.2.2.2.2.1))
def zeV (n:Nat):List Term→List Term→Bool×Int:=(zbL n).1
def zhA (n:Nat):Term→Term→Bool×Int:=(zbL n).2.1
def zfQ (n:Nat):Term→Term→Bool×Int:=(zbL n).2.2.1
def zeM (n:Nat):Factor→Factor→Bool×Int:=(zbL n).2.2.2.1
def zf0 (n:Nat):Atom→Atom→Bool×Int:=(zbL n).2.2.2.2.1
def zd8 (n:Nat):Weighted→Weighted→Bool×Int:=(zbL n).2.2.2.2.2.1
def zbt (n:Nat):List Term→List Term→Bool×Int:=(zbL n).2.2.2.2.2.2.1
def zbw (n:Nat):List Factor→List Factor→Bool×Int:=(zbL n).2.2.2.2.2.2.2.1
def z8 (n:Nat):List (List Term)→List (List Term)→Bool×Int:=(zbL n).2.2.2.2.2.2.2.2.1
def zbi (n:Nat):List Weighted→List Weighted→Bool×Int:=(zbL n).2.2.2.2.2.2.2.2.2
theorem zBl (n:Nat):zeV (n+1)=zlS (zbt n) (zhA n):=rfl
theorem zyy (n:Nat):zhA (n+1)=zjH (zfQ n):=rfl
theorem zwG (n:Nat):zfQ (n+1)=ziE (zbw n) (zeM n):=rfl
theorem zvq (n:Nat):zeM (n+1)=zhP (zf0 n):=rfl
theorem zwR (n:Nat):zf0 (n+1)=ziD (zeV n) (zd8 n) (z8 n) (zbi n):=rfl
theorem zw0 (n:Nat):zd8 (n+1)=ziG (zeV n):=rfl
theorem zgS (n:Nat):zbt (n+1)=zbs (zhA n):=rfl
theorem zhz (n:Nat):zbw (n+1)=zbd (zeM n):=rfl
theorem zej (n:Nat):z8 (n+1)=z7 (zeV n):=rfl
theorem zfk (n:Nat):zbi (n+1)=zbj (zd8 n):=rfl
theorem zpX:∀ n,Sound Tryz.prog base 38 (zdn (zeV n))∧Sound Tryz.prog base 87 (zeU (zhA n))∧Sound Tryz.prog base 71 (zfS (zfQ n))∧Sound Tryz.prog base 124 (zdL (zeM n))∧Sound Tryz.prog base 73 (zfI (zf0 n))∧Sound Tryz.prog base 85 (zdo (zd8 n))∧Sound Tryz.prog base 86 (zbq (zbt n))∧Sound Tryz.prog base 123 (zbv (zbw n))∧Sound Tryz.prog base 126 (z6 (z8 n))∧Sound Tryz.prog base 127 (zbk (zbi n))
 | 0=>⟨zbB Tryz.call38 (fun _=>rfl),zbB Tryz.call87 (fun _=>rfl),zbB Tryz.call71 (fun _=>rfl),zbB Tryz.call124 (fun _=>rfl),zbB Tryz.call73 (fun _=>rfl),zbB Tryz.call85 (fun _=>rfl),zbB Tryz.call86 (fun _=>rfl),zbB Tryz.call123 (fun _=>rfl),zbB Tryz.call126 (fun _=>rfl),zbB Tryz.call127 (fun _=>rfl)⟩
 | n+1=>by
  have ih:=zpX n
  exact ⟨zys _ _ (ih.2.2.2.2.2.2.1) (ih.2.1),zvX _ (ih.2.2.1),zuJ _ _ (ih.2.2.2.2.2.2.2.1) (ih.2.2.2.1),zs8 _ (ih.2.2.2.2.1),zuK _ _ _ _ (ih.1) (ih.2.2.2.2.2.1) (ih.2.2.2.2.2.2.2.2.1) (ih.2.2.2.2.2.2.2.2.2),zuG _ (ih.1),zf2 _ (ih.2.1),zgM _ (ih.2.2.2.1),zd4 _ (ih.1),zeZ _ (ih.2.2.2.2.2.1)⟩
def zrP:List Term→List Term→Bool×Int:=zeV 1000
def annotation_Compare_spec:Ab.Spec ty:=zdn zrP
theorem zz1:Sound Tryz.prog base 38 annotation_Compare_spec:=(zpX 1000).1
def zbz:Term→Term→Bool×Int:=zfQ 1000
def annotation_compareLists_spec:Ab.Spec ty:=zfS zbz
theorem zjF:Sound Tryz.prog base 71 annotation_compareLists_spec:=(zpX 1000).2.2.1
def zhf:Atom→Atom→Bool×Int:=zf0 1000
def annotation_compareAtoms_spec:Ab.Spec ty:=zfI zhf
theorem zob:Sound Tryz.prog base 73 annotation_compareAtoms_spec:=(zpX 1000).2.2.2.2.1
def zbl:Weighted→Weighted→Bool×Int:=zd8 1000
def annotation_compareItems_spec:Ab.Spec ty:=zdo zbl
theorem zgn:Sound Tryz.prog base 85 annotation_compareItems_spec:=(zpX 1000).2.2.2.2.2.1
def zvp (r:Bool):ARes ty:=⟨[.pure (.lit (.bool r))],[]⟩
def zxV:AL base (List Term×Unit):=zf (zg (vSl 42)) aNil
def zgG (F:List Term→Bool×Bool):Ab.Spec ty:=zr zxV fun x=>((F x.1).1,zvp (F x.1).2)
def zb2 (r:Bool):ARes ty:=⟨[.pure (.lit (.bool r))],[]⟩
def zsX:AL base (Atom×Unit):=zf (zg (vAgg 48)) aNil
def zkn (F:Atom→Bool×Bool):Ab.Spec ty:=zr zsX fun x=>((F x.1).1,zb2 (F x.1).2)
def zpd (r:Bool):ARes ty:=⟨[.pure (.lit (.bool r))],[]⟩
def zqN:AL base (List Term×Unit):=zf (zg (vSl 42)) aNil
def zcH (F:List Term→Bool×Bool):Ab.Spec ty:=zr zqN fun x=>((F x.1).1,zpd (F x.1).2)
def zpe (r:Bool):ARes ty:=⟨[.pure (.lit (.bool r))],[]⟩
def zqt:AL base (Weighted×Unit):=zf (zg (vAgg 52)) aNil
def zcE (F:Weighted→Bool×Bool):Ab.Spec ty:=zr zqt fun x=>((F x.1).1,zpe (F x.1).2)
def zeK (r:Int):ARes ty:=⟨[.pure (.lit (.int .i64 r))],[]⟩
def ze7:AL base (List (List Term)×Unit×Unit):=zf (zg (vSl 23)) (zf (zg (vFn 130 vNil)) aNil)
def zb7 (F:List (List Term)→Bool×Int):Ab.Spec ty:=zr ze7 fun x=>((F x.1).1,zeK (F x.1).2)
def zec (r:Bool):ARes ty:=⟨[.pure (.lit (.bool r))],[]⟩
def zey:AL base (List (List Term)×Unit×Unit):=zf (zg (vSl 23)) (zf (zg (vFn 130 vNil)) aNil)
def zbV (F:List (List Term)→Bool×Bool):Ab.Spec ty:=zr zey fun x=>((F x.1).1,zec (F x.1).2)
def zfM (r:Int):ARes ty:=⟨[.pure (.lit (.int .i64 r))],[]⟩
def zgA:AL base (List Weighted×Unit×Unit):=zf (zg (vSl 52)) (zf (zg (vFn 131 vNil)) aNil)
def zcq (F:List Weighted→Bool×Int):Ab.Spec ty:=zr zgA fun x=>((F x.1).1,zfM (F x.1).2)
def ze2 (r:Bool):ARes ty:=⟨[.pure (.lit (.bool r))],[]⟩
def zft:AL base (List Weighted×Unit×Unit):=zf (zg (vSl 52)) (zf (zg (vFn 131 vNil)) aNil)
def zce (F:List Weighted→Bool×Bool):Ab.Spec ty:=zr zft fun x=>((F x.1).1,ze2 (F x.1).2)
def zA5:Cx ty:=mkCx base 11 [] [] [] [] [] []
def znh (x_:Atom):Wy0 (Bool):=.i (x_.Kind==3) (.k true) (.k (x_.Kind==4))
def zev (x_:Atom):Bool×Bool:=(znh x_).fin default
def zqH (r:Bool):ARes ty:=⟨[.pure (.lit (.bool r))],[]⟩
def zsq:AL base (Atom×Unit):=zf (zg (vAgg 48)) aNil
def zii:Ab.Spec ty:=zr zsq fun x=>((zev x.1).1,zqH (zev x.1).2)
theorem zkC:Sound Tryz.prog base 72 zii:=
 zD (cx':=zA5) zQ zB zL (zF trivial) Tryz.call72 Tryz.func72 (c:=body Tryz.f72) (by kernel_rfl) (zj (l:=[]) (by kernel_rfl) trivial) (sg:=⟨[.pure],[]⟩) (A:=zsq) (res:=zqH) (W:=fun x=>znh x.1) (z:=default)
def zwf (r:Int):ARes ty:=⟨[.pure (.lit (.int .i64 r))],[]⟩
def zy6:AL base (List Term×Unit):=zf (zg (vSl 42)) aNil
def zlF (F:List Term→Bool×Int):Ab.Spec ty:=zr zy6 fun x=>((F x.1).1,zwf (F x.1).2)
end Go.Proofs.YtnolcogncjijpaaGreatDoor
end
