/- Texts of this claim, joined (the program, its functions in plain words, and what they compute). -/
import Derived.KernelRfl
import Derived.Shelf.Strconv.Itoa3
import Derived.Stop.LaidErr
import Derived.Shelf.Vars
import Derived.Shelf.SlSortCmp.NoneTotal
import Derived.Shelf.Strings.OnBuilder
import Derived.Shelf.Strconv.Itoa4
import Derived.Shelf.Small.Strs
import Derived.Shelf.Strings.Replace
import Derived.Shelf.Small.Bits
import Derived.Test.YtnolcogncjijpaaGreatDoorChecked
import Derived.Test.YtnolcogncjijpaaGreatDoorRows
import Derived.Test.YtnolcogncjijpaaGreatDoorProg
import Derived.Test.YtnolcogncjijpaaGreatDoorGA2
import Derived.Test.YtnolcogncjijpaaGreatDoorGB1
set_option autoImplicit false
set_option linter.unusedVariables false
set_option linter.unusedSectionVars false
set_option linter.unusedSimpArgs false
set_option maxRecDepth 1000000
set_option maxHeartbeats 0
/- The types of the program, as plain data. -/
noncomputable section
namespace Go.Proofs.YtnolcogncjijpaaGreatDoor
open Go Go.Ab
open Go.Proofs Go.Shelf
structure RowID where
 Table:Int
 Seq:Int
 deriving DecidableEq,Inhabited
structure Value where
 Kind:Int
 Int:Int
 Text:ByteArray
 deriving DecidableEq,Inhabited
structure FactorOf (A:Type) where
 Atom:A
 Exp:Int
structure TermOf (A:Type) where
 Coeff:Int
 Factors:List (FactorOf A)
structure WeightedOf (A:Type) where
 Value:Value
 Ann:List (TermOf A)
structure Atom where
 Kind:Int
 Row:RowID
 Args:List (List (TermOf Atom))
 Func:Int
 Items:List (WeightedOf Atom)
 Op:Int
 Bound:Value
abbrev Factor:=FactorOf Atom
abbrev Term:=TermOf Atom
abbrev Weighted:=WeightedOf Atom
instance:Inhabited Atom:=⟨⟨0,default,[],0,[],0,default⟩⟩
instance:Inhabited Factor:=⟨⟨default,0⟩⟩
instance:Inhabited Term:=⟨⟨0,[]⟩⟩
instance:Inhabited Weighted:=⟨⟨default,[]⟩⟩
theorem Atom.eta (x:Atom):(⟨x.Kind,x.Row,x.Args,x.Func,x.Items,x.Op,x.Bound⟩:Atom)=x:=by cases x; rfl
mutual
def zPQ:(x y:Atom)→Decidable (x=y)
 | ⟨k,r,a,f,i,o,b⟩,⟨k',r',a',f',i',o',b'⟩=>
  match decEq k k',decEq r r',zP2 a a',decEq f f',zOG i i',decEq o o',decEq b b' with
  | .isTrue h1,.isTrue h2,.isTrue h3,.isTrue h4,.isTrue h5,.isTrue h6,.isTrue h7=>.isTrue (by subst h1 h2 h3 h4 h5 h6 h7; rfl)
  | .isFalse h,_,_,_,_,_,_=>.isFalse (fun e=>by cases e; exact h rfl)
  | _,.isFalse h,_,_,_,_,_=>.isFalse (fun e=>by cases e; exact h rfl)
  | _,_,.isFalse h,_,_,_,_=>.isFalse (fun e=>by cases e; exact h rfl)
  | _,_,_,.isFalse h,_,_,_=>.isFalse (fun e=>by cases e; exact h rfl)
  | _,_,_,_,.isFalse h,_,_=>.isFalse (fun e=>by cases e; exact h rfl)
  | _,_,_,_,_,.isFalse h,_=>.isFalse (fun e=>by cases e; exact h rfl)
  | _,_,_,_,_,_,.isFalse h=>.isFalse (fun e=>by cases e; exact h rfl)
def zMI:(x y:Factor)→Decidable (x=y)
 | ⟨a,e⟩,⟨a',e'⟩=>match zPQ a a',decEq e e' with
  | .isTrue h1,.isTrue h2=>.isTrue (by subst h1 h2; rfl)
  | .isFalse h,_=>.isFalse (fun e=>by cases e; exact h rfl)
  | _,.isFalse h=>.isFalse (fun e=>by cases e; exact h rfl)
def zKE:(x y:List Factor)→Decidable (x=y)
 | [],[]=>.isTrue rfl
 | [],_::_=>.isFalse (by simp)
 | _::_,[]=>.isFalse (by simp)
 | x::r,y::s=>match zMI x y,zKE r s with
  | .isTrue h1,.isTrue h2=>.isTrue (by subst h1 h2; rfl)
  | .isFalse h,_=>.isFalse (fun e=>by cases e; exact h rfl)
  | _,.isFalse h=>.isFalse (fun e=>by cases e; exact h rfl)
def zQk:(x y:Term)→Decidable (x=y)
 | ⟨a,e⟩,⟨a',e'⟩=>match decEq a a',zKE e e' with
  | .isTrue h1,.isTrue h2=>.isTrue (by subst h1 h2; rfl)
  | .isFalse h,_=>.isFalse (fun e=>by cases e; exact h rfl)
  | _,.isFalse h=>.isFalse (fun e=>by cases e; exact h rfl)
def zO7:(x y:List Term)→Decidable (x=y)
 | [],[]=>.isTrue rfl
 | [],_::_=>.isFalse (by simp)
 | _::_,[]=>.isFalse (by simp)
 | x::r,y::s=>match zQk x y,zO7 r s with
  | .isTrue h1,.isTrue h2=>.isTrue (by subst h1 h2; rfl)
  | .isFalse h,_=>.isFalse (fun e=>by cases e; exact h rfl)
  | _,.isFalse h=>.isFalse (fun e=>by cases e; exact h rfl)
def zP2:(x y:List (List Term))→Decidable (x=y)
 | [],[]=>.isTrue rfl
 | [],_::_=>.isFalse (by simp)
 | _::_,[]=>.isFalse (by simp)
 | x::r,y::s=>match zO7 x y,zP2 r s with
  | .isTrue h1,.isTrue h2=>.isTrue (by subst h1 h2; rfl)
  | .isFalse h,_=>.isFalse (fun e=>by cases e; exact h rfl)
  | _,.isFalse h=>.isFalse (fun e=>by cases e; exact h rfl)
def zP9:(x y:Weighted)→Decidable (x=y)
 | ⟨a,e⟩,⟨a',e'⟩=>match decEq a a',zO7 e e' with
  | .isTrue h1,.isTrue h2=>.isTrue (by subst h1 h2; rfl)
  | .isFalse h,_=>.isFalse (fun e=>by cases e; exact h rfl)
  | _,.isFalse h=>.isFalse (fun e=>by cases e; exact h rfl)
def zOG:(x y:List Weighted)→Decidable (x=y)
 | [],[]=>.isTrue rfl
 | [],_::_=>.isFalse (by simp)
 | _::_,[]=>.isFalse (by simp)
 | x::r,y::s=>match zP9 x y,zOG r s with
  | .isTrue h1,.isTrue h2=>.isTrue (by subst h1 h2; rfl)
  | .isFalse h,_=>.isFalse (fun e=>by cases e; exact h rfl)
  | _,.isFalse h=>.isFalse (fun e=>by cases e; exact h rfl)
end
instance:DecidableEq Atom:=zPQ
instance:DecidableEq Factor:=zMI
instance:DecidableEq Term:=zQk
instance:DecidableEq Weighted:=zP9
structure Binding where
 Row:RowID
 To:List Term
 deriving DecidableEq,Inhabited
def ty:Nat→Type
 | 2=>Int
 | 3=>Int
 | 4=>Bool
 | 5=>Int
 | 9=>ByteArray
 | 22=>List Term
 | 23=>List Term
 | 25=>RowID
 | 28=>Int
 | 40=>List Factor
 | 42=>Term
 | 43=>List (List Term)
 | 44=>List Weighted
 | 46=>Value
 | 48=>Atom
 | 50=>Factor
 | 52=>Weighted
 | 59=>List Binding
 | 65=>List RowID
 | 69=>Binding
 | 106=>Unit
 | 128=>List Int
 | 136=>List ByteArray
 | 143=>Int
 | 144=>List (List Factor)
 | _=>Unit
instance:(T:Nat)→Inhabited (ty T):=fun T=>by
 unfold ty
 split <;>infer_instance
def dt25:DT ty RowID:=zFH (fun x=>⟨x.1,x.2⟩) (fun x=>(x.Table,x.Seq)) (fun _=>rfl) (zpq (zrm .i64) (zrm .i64))
def dt46:DT ty Value:=zFH (fun x=>⟨x.1,x.2.1,x.2.2⟩) (fun x=>(x.Kind,x.Int,x.Text)) (fun _=>rfl) (zpq (zrm .i64) (zpq (zrm .i64) (zTX)))
def dt48:DT ty Atom:=zFH (fun x=>⟨x.1,x.2.1,x.2.2.1,x.2.2.2.1,x.2.2.2.2.1,x.2.2.2.2.2.1,x.2.2.2.2.2.2⟩) (fun x=>(x.Kind,x.Row,x.Args,x.Func,x.Items,x.Op,x.Bound)) (fun _=>rfl) (zpq (zrm .i64) (zpq (dt25) (zpq (dtSl 23) (zpq (zrm .i64) (zpq (dtSl 52) (zpq (zrm .i64) (dt46)))))))
def dt50:DT ty Factor:=zFH (fun x=>⟨x.1,x.2⟩) (fun x=>(x.Atom,x.Exp)) (fun _=>rfl) (zpq (dt48) (zrm .i64))
def dt42:DT ty Term:=zFH (fun x=>⟨x.1,x.2⟩) (fun x=>(x.Coeff,x.Factors)) (fun _=>rfl) (zpq (zrm .i64) (dtSl 50))
def dt52:DT ty Weighted:=zFH (fun x=>⟨x.1,x.2⟩) (fun x=>(x.Value,x.Ann)) (fun _=>rfl) (zpq (dt46) (dtSl 42))
def dt69:DT ty Binding:=zFH (fun x=>⟨x.1,x.2⟩) (fun x=>(x.Row,x.To)) (fun _=>rfl) (zpq (dt25) (dtSl 42))
def zKr:List ((T:Nat)×DT ty (ty T)):=[⟨2,(zrm .i64:DT ty Int)⟩,⟨3,(zrm .i64:DT ty Int)⟩,⟨4,(zVZ:DT ty Bool)⟩,⟨5,(zrm .u8:DT ty Int)⟩,⟨9,(zTX:DT ty ByteArray)⟩,⟨22,(dtSl 42:DT ty (List Term))⟩,⟨23,(dtSl 42:DT ty (List Term))⟩,⟨25,(dt25:DT ty RowID)⟩,⟨28,(zrm .i64:DT ty Int)⟩,⟨40,(dtSl 50:DT ty (List Factor))⟩,⟨42,(dt42:DT ty Term)⟩,⟨43,(dtSl 23:DT ty (List (List Term)))⟩,⟨44,(dtSl 52:DT ty (List Weighted))⟩,⟨46,(dt46:DT ty Value)⟩,⟨48,(dt48:DT ty Atom)⟩,⟨50,(dt50:DT ty Factor)⟩,⟨52,(dt52:DT ty Weighted)⟩,⟨59,(dtSl 69:DT ty (List Binding))⟩,⟨65,(dtSl 25:DT ty (List RowID))⟩,⟨69,(dt69:DT ty Binding)⟩,⟨106,(dtMp:DT ty Unit)⟩,⟨128,(dtSl 3:DT ty (List Int))⟩,⟨136,(dtSl 9:DT ty (List ByteArray))⟩,⟨143,(zrm .u64:DT ty Int)⟩,⟨144,(dtSl 40:DT ty (List (List Factor)))⟩]
def zND:List (Nat×TInfo):=[(2,⟨.int .i64,1,8,[.int .i64 (0)]⟩),
 (3,⟨.int .i64,1,8,[.int .i64 (0)]⟩),
 (4,⟨.bool,1,1,[.bool false]⟩),
 (5,⟨.int .u8,1,1,[.int .u8 (0)]⟩),
 (9,⟨.str,1,16,[.string ⟨#[]⟩]⟩),
 (22,⟨.slice 42,1,24,[.slice none 0 0]⟩),
 (23,⟨.slice 42,1,24,[.slice none 0 0]⟩),
 (25,⟨.struct [(0,3),(1,3)],2,16,[.int .i64 (0),.int .i64 (0)]⟩),
 (28,⟨.int .i64,1,8,[.int .i64 (0)]⟩),
 (40,⟨.slice 50,1,24,[.slice none 0 0]⟩),
 (42,⟨.struct [(0,2),(1,40)],2,32,[.int .i64 (0),.slice none 0 0]⟩),
 (43,⟨.slice 23,1,24,[.slice none 0 0]⟩),
 (44,⟨.slice 52,1,24,[.slice none 0 0]⟩),
 (46,⟨.struct [(0,3),(1,2),(2,9)],3,32,[.int .i64 (0),.int .i64 (0),.string ⟨#[]⟩]⟩),
 (48,⟨.struct [(0,3),(1,25),(3,43),(4,3),(5,44),(6,3),(7,46)],10,120,[.int .i64 (0),.int .i64 (0),.int .i64 (0),.slice none 0 0,.int .i64 (0),.slice none 0 0,.int .i64 (0),.int .i64 (0),.int .i64 (0),.string ⟨#[]⟩]⟩),
 (50,⟨.struct [(0,48),(10,3)],11,128,[.int .i64 (0),.int .i64 (0),.int .i64 (0),.slice none 0 0,.int .i64 (0),.slice none 0 0,.int .i64 (0),.int .i64 (0),.int .i64 (0),.string ⟨#[]⟩,.int .i64 (0)]⟩),
 (52,⟨.struct [(0,46),(3,23)],4,56,[.int .i64 (0),.int .i64 (0),.string ⟨#[]⟩,.slice none 0 0]⟩),
 (59,⟨.slice 69,1,24,[.slice none 0 0]⟩),
 (65,⟨.slice 25,1,24,[.slice none 0 0]⟩),
 (69,⟨.struct [(0,25),(2,23)],3,40,[.int .i64 (0),.int .i64 (0),.slice none 0 0]⟩),
 (106,⟨.map 9 3,1,8,[.map none]⟩),
 (128,⟨.slice 3,1,24,[.slice none 0 0]⟩),
 (136,⟨.slice 9,1,24,[.slice none 0 0]⟩),
 (143,⟨.int .u64,1,8,[.int .u64 (0)]⟩),
 (144,⟨.slice 40,1,24,[.slice none 0 0]⟩)]
def zOL:List (Nat×List TD):=[(25,[.int .i64,.int .i64]),(46,[.int .i64,.int .i64,.str])]
def inv (w:World):Prop:=Lib.TabIs Tryz.prog w "internal/strconv.uint64pow10" .u64 Lib.pow10Tab∧(∃ m,w.cell? ⟨0,0,none⟩=some (.int .i64 m))
theorem zTy {n:String} {g:Nat} {w w':World} (hg:Tryz.prog.globalNamed n=some g) (h:w'.heap[g]? =w.heap[g]?):w'.var? Tryz.prog n=w.var? Tryz.prog n:=by
 unfold World.var?; rw [hg]; simp only [Option.bind_some,h]
theorem zQU (w w':World) (hi:inv w) (hb:∀ b,b<4→w'.heap[b]? =w.heap[b]?):inv w':=by
 obtain ⟨h1,⟨m,h2⟩⟩:=hi
 refine ⟨(zTy (g:=1) (by kernel_rfl) (hb 1 (by omega))).trans h1,⟨m, ?_⟩⟩
 rw [← h2]; exact World.cell?_of_block (a:=⟨0,0,none⟩) (hb 0 (by omega))
def base:Cx ty:={ ti:=fun T=>zND.lookup T,dflt:=fun _=>default,enc:=fun T=>(tabT zKr T).enc,dec:=fun T=>(tabT zKr T).dec,spec:=fun _=>none,io:=fun _=>[],eqs:=fun T us vs=>match zOL.lookup T with | some ts=>zgk ts us vs | none=>none,nt:=0,head:=fun _=>[],out:=fun _ _=>[],loops:=fun _=>none,ng:=4,inv:=inv }
theorem zRp:Tryz.prog.info? 2=some Tryz.t2:=by kernel_rfl
theorem zDv:Tryz.prog.info? 3=some Tryz.t3:=by kernel_rfl
theorem zWq:Tryz.prog.info? 4=some Tryz.t4:=by kernel_rfl
theorem zV8:Tryz.prog.info? 5=some Tryz.t5:=by kernel_rfl
theorem zTQ:Tryz.prog.info? 9=some Tryz.t9:=by kernel_rfl
theorem zVV:Tryz.prog.info? 22=some Tryz.t22:=by kernel_rfl
theorem zOT:Tryz.prog.info? 23=some Tryz.t23:=by kernel_rfl
theorem zOi:Tryz.prog.info? 25=some Tryz.t25:=by kernel_rfl
theorem zVo:Tryz.prog.info? 28=some Tryz.t28:=by kernel_rfl
theorem zSa:Tryz.prog.info? 40=some Tryz.t40:=by kernel_rfl
theorem zVx:Tryz.prog.info? 42=some Tryz.t42:=by kernel_rfl
theorem zRy:Tryz.prog.info? 43=some Tryz.t43:=by kernel_rfl
theorem zRr:Tryz.prog.info? 44=some Tryz.t44:=by kernel_rfl
theorem zOs:Tryz.prog.info? 46=some Tryz.t46:=by kernel_rfl
theorem zRt:Tryz.prog.info? 48=some Tryz.t48:=by kernel_rfl
theorem zVv:Tryz.prog.info? 50=some Tryz.t50:=by kernel_rfl
theorem zVB:Tryz.prog.info? 52=some Tryz.t52:=by kernel_rfl
theorem zVM:Tryz.prog.info? 59=some Tryz.t59:=by kernel_rfl
theorem zVX:Tryz.prog.info? 65=some Tryz.t65:=by kernel_rfl
theorem zVy:Tryz.prog.info? 69=some Tryz.t69:=by kernel_rfl
theorem zUJ:Tryz.prog.info? 106=some Tryz.t106:=by kernel_rfl
theorem zUD:Tryz.prog.info? 128=some Tryz.t128:=by kernel_rfl
theorem zUi:Tryz.prog.info? 136=some Tryz.t136:=by kernel_rfl
theorem zUV:Tryz.prog.info? 143=some Tryz.t143:=by kernel_rfl
theorem zUx:Tryz.prog.info? 144=some Tryz.t144:=by kernel_rfl
theorem zU5:∀ T i,zND.lookup T=some i→InfoOK Tryz.prog T i:=by
 intro T i h
 have h:=zz1 _ _ _ h
 simp only [zND,List.mem_cons,List.not_mem_nil,or_false,Prod.mk.injEq] at h
 rcases h with ⟨rfl,rfl⟩ | ⟨rfl,rfl⟩ | ⟨rfl,rfl⟩ | ⟨rfl,rfl⟩ | ⟨rfl,rfl⟩ | ⟨rfl,rfl⟩ | ⟨rfl,rfl⟩ | ⟨rfl,rfl⟩ | ⟨rfl,rfl⟩ | ⟨rfl,rfl⟩ | ⟨rfl,rfl⟩ | ⟨rfl,rfl⟩ | ⟨rfl,rfl⟩ | ⟨rfl,rfl⟩ | ⟨rfl,rfl⟩ | ⟨rfl,rfl⟩ | ⟨rfl,rfl⟩ | ⟨rfl,rfl⟩ | ⟨rfl,rfl⟩ | ⟨rfl,rfl⟩ | ⟨rfl,rfl⟩ | ⟨rfl,rfl⟩ | ⟨rfl,rfl⟩ | ⟨rfl,rfl⟩ | ⟨rfl,rfl⟩
 ·exact ⟨Tryz.t2,_,_,zRp,Tryz.underlying2,rfl,rfl,rfl,rfl,rfl,⟨by simp [zb3],fun _=>rfl⟩,rfl⟩
 ·exact ⟨Tryz.t3,_,_,zDv,Tryz.underlying3,rfl,rfl,rfl,rfl,rfl,⟨by simp [zb3],fun _=>rfl⟩,rfl⟩
 ·exact ⟨Tryz.t4,_,_,zWq,Tryz.underlying4,rfl,rfl,rfl,rfl,rfl,⟨by simp [zb3],fun _=>rfl⟩,rfl⟩
 ·exact ⟨Tryz.t5,_,_,zV8,Tryz.underlying5,rfl,rfl,rfl,rfl,rfl,⟨by simp [zb3],fun _=>rfl⟩,rfl⟩
 ·exact ⟨Tryz.t9,_,_,zTQ,Tryz.underlying9,rfl,rfl,rfl,rfl,rfl,⟨by simp [zb3],fun _=>rfl⟩,rfl⟩
 ·exact ⟨Tryz.t22,_,_,zVV,Tryz.underlying22,rfl,rfl,rfl,rfl,rfl,⟨by simp [zb3],fun _=>rfl⟩,rfl⟩
 ·exact ⟨Tryz.t23,_,_,zOT,Tryz.underlying23,rfl,rfl,rfl,rfl,rfl,⟨by simp [zb3],fun _=>rfl⟩,rfl⟩
 ·exact ⟨Tryz.t25,_,_,zOi,Tryz.underlying25,rfl,rfl,rfl,rfl,rfl,⟨by simp [zb3],fun h=>by cases h⟩,⟨_,rfl,rfl,fun f hf=>by
   simp only [List.mem_cons,List.not_mem_nil,or_false] at hf
   rcases hf with rfl | rfl
   ·exact Option.isSome_iff_exists.2 ⟨_,zDv⟩
   ·exact Option.isSome_iff_exists.2 ⟨_,zDv⟩⟩⟩
 ·exact ⟨Tryz.t28,_,_,zVo,Tryz.underlying28,rfl,rfl,rfl,rfl,rfl,⟨by simp [zb3],fun _=>rfl⟩,rfl⟩
 ·exact ⟨Tryz.t40,_,_,zSa,Tryz.underlying40,rfl,rfl,rfl,rfl,rfl,⟨by simp [zb3],fun _=>rfl⟩,rfl⟩
 ·exact ⟨Tryz.t42,_,_,zVx,Tryz.underlying42,rfl,rfl,rfl,rfl,rfl,⟨by simp [zb3],fun h=>by cases h⟩,⟨_,rfl,rfl,fun f hf=>by
   simp only [List.mem_cons,List.not_mem_nil,or_false] at hf
   rcases hf with rfl | rfl
   ·exact Option.isSome_iff_exists.2 ⟨_,zRp⟩
   ·exact Option.isSome_iff_exists.2 ⟨_,zSa⟩⟩⟩
 ·exact ⟨Tryz.t43,_,_,zRy,Tryz.underlying43,rfl,rfl,rfl,rfl,rfl,⟨by simp [zb3],fun _=>rfl⟩,rfl⟩
 ·exact ⟨Tryz.t44,_,_,zRr,Tryz.underlying44,rfl,rfl,rfl,rfl,rfl,⟨by simp [zb3],fun _=>rfl⟩,rfl⟩
 ·exact ⟨Tryz.t46,_,_,zOs,Tryz.underlying46,rfl,rfl,rfl,rfl,rfl,⟨by simp [zb3],fun h=>by cases h⟩,⟨_,rfl,rfl,fun f hf=>by
   simp only [List.mem_cons,List.not_mem_nil,or_false] at hf
   rcases hf with rfl | rfl | rfl
   ·exact Option.isSome_iff_exists.2 ⟨_,zDv⟩
   ·exact Option.isSome_iff_exists.2 ⟨_,zRp⟩
   ·exact Option.isSome_iff_exists.2 ⟨_,zTQ⟩⟩⟩
 ·exact ⟨Tryz.t48,_,_,zRt,Tryz.underlying48,rfl,rfl,rfl,rfl,rfl,⟨by simp [zb3],fun h=>by cases h⟩,⟨_,rfl,rfl,fun f hf=>by
   simp only [List.mem_cons,List.not_mem_nil,or_false] at hf
   rcases hf with rfl | rfl | rfl | rfl | rfl | rfl | rfl
   ·exact Option.isSome_iff_exists.2 ⟨_,zDv⟩
   ·exact Option.isSome_iff_exists.2 ⟨_,zOi⟩
   ·exact Option.isSome_iff_exists.2 ⟨_,zRy⟩
   ·exact Option.isSome_iff_exists.2 ⟨_,zDv⟩
   ·exact Option.isSome_iff_exists.2 ⟨_,zRr⟩
   ·exact Option.isSome_iff_exists.2 ⟨_,zDv⟩
   ·exact Option.isSome_iff_exists.2 ⟨_,zOs⟩⟩⟩
 ·exact ⟨Tryz.t50,_,_,zVv,Tryz.underlying50,rfl,rfl,rfl,rfl,rfl,⟨by simp [zb3],fun h=>by cases h⟩,⟨_,rfl,rfl,fun f hf=>by
   simp only [List.mem_cons,List.not_mem_nil,or_false] at hf
   rcases hf with rfl | rfl
   ·exact Option.isSome_iff_exists.2 ⟨_,zRt⟩
   ·exact Option.isSome_iff_exists.2 ⟨_,zDv⟩⟩⟩
 ·exact ⟨Tryz.t52,_,_,zVB,Tryz.underlying52,rfl,rfl,rfl,rfl,rfl,⟨by simp [zb3],fun h=>by cases h⟩,⟨_,rfl,rfl,fun f hf=>by
   simp only [List.mem_cons,List.not_mem_nil,or_false] at hf
   rcases hf with rfl | rfl
   ·exact Option.isSome_iff_exists.2 ⟨_,zOs⟩
   ·exact Option.isSome_iff_exists.2 ⟨_,zOT⟩⟩⟩
 ·exact ⟨Tryz.t59,_,_,zVM,Tryz.underlying59,rfl,rfl,rfl,rfl,rfl,⟨by simp [zb3],fun _=>rfl⟩,rfl⟩
 ·exact ⟨Tryz.t65,_,_,zVX,Tryz.underlying65,rfl,rfl,rfl,rfl,rfl,⟨by simp [zb3],fun _=>rfl⟩,rfl⟩
 ·exact ⟨Tryz.t69,_,_,zVy,Tryz.underlying69,rfl,rfl,rfl,rfl,rfl,⟨by simp [zb3],fun h=>by cases h⟩,⟨_,rfl,rfl,fun f hf=>by
   simp only [List.mem_cons,List.not_mem_nil,or_false] at hf
   rcases hf with rfl | rfl
   ·exact Option.isSome_iff_exists.2 ⟨_,zOi⟩
   ·exact Option.isSome_iff_exists.2 ⟨_,zOT⟩⟩⟩
 ·exact ⟨Tryz.t106,_,_,zUJ,Tryz.underlying106,rfl,rfl,rfl,rfl,rfl,⟨by simp [zb3],fun _=>rfl⟩,rfl⟩
 ·exact ⟨Tryz.t128,_,_,zUD,Tryz.underlying128,rfl,rfl,rfl,rfl,rfl,⟨by simp [zb3],fun _=>rfl⟩,rfl⟩
 ·exact ⟨Tryz.t136,_,_,zUi,Tryz.underlying136,rfl,rfl,rfl,rfl,rfl,⟨by simp [zb3],fun _=>rfl⟩,rfl⟩
 ·exact ⟨Tryz.t143,_,_,zUV,Tryz.underlying143,rfl,rfl,rfl,rfl,rfl,⟨by simp [zb3],fun _=>rfl⟩,rfl⟩
 ·exact ⟨Tryz.t144,_,_,zUx,Tryz.underlying144,rfl,rfl,rfl,rfl,rfl,⟨by simp [zb3],fun _=>rfl⟩,rfl⟩
theorem zSN:∀ T us vs b,(match zOL.lookup T with | some ts=>zgk ts us vs | none=>none)=some b→∀ w,(binOp .eql T (.agg us.toArray) (.agg vs.toArray)).run Tryz.prog w=.ok (.bool b) w∧(binOp .neq T (.agg us.toArray) (.agg vs.toArray)).run Tryz.prog w=.ok (.bool (!b)) w∧
  ∀ op x y,(eqGuard op T x y (.agg us.toArray) (.agg vs.toArray)).run Tryz.prog w=.ok () w:=by
 intro T us vs b h w
 split at h
 ·rename_i ts hl
  have hl:=zz1 _ _ _ hl
  simp only [zOL,List.mem_cons,List.not_mem_nil,or_false,Prod.mk.injEq] at hl
  rcases hl with ⟨rfl,rfl⟩ | ⟨rfl,rfl⟩
  ·refine zLo _ _ Tryz.underlying25 (by kernel_rfl) (by kernel_rfl) rfl ?_ h w
   intro j f t hj ht
   rcases j with _ | j
   ·simp at hj ht; subst hj ht; exact ⟨rfl,by decide,_,Tryz.underlying3,rfl⟩
   rcases j with _ | j
   ·simp at hj ht; subst hj ht; exact ⟨rfl,by decide,_,Tryz.underlying3,rfl⟩
   simp at hj
  ·refine zLo _ _ Tryz.underlying46 (by kernel_rfl) (by kernel_rfl) rfl ?_ h w
   intro j f t hj ht
   rcases j with _ | j
   ·simp at hj ht; subst hj ht; exact ⟨rfl,by decide,_,Tryz.underlying3,rfl⟩
   rcases j with _ | j
   ·simp at hj ht; subst hj ht; exact ⟨rfl,by decide,_,Tryz.underlying2,rfl⟩
   rcases j with _ | j
   ·simp at hj ht; subst hj ht; exact ⟨rfl,by decide,_,Tryz.underlying9,rfl⟩
   simp at hj
 ·cases h
theorem zD:CxOK Tryz.prog base:=⟨zU5,fun T x=>by rw [show szOf base T=_ from (zO1 zKr zND rfl T).symm]; exact DT.len _ x,fun T x c h=>by have:=DT.cell _ _ c h; revert this; cases c <;>exact id,fun T cs x h F w us hr=>DT.ok _ base F w us cs x h hr,zSN,zQU⟩
def base0:Cx ty:={ base with dr:=false }
theorem zh3:CxOK Tryz.prog base0:=CxOK.cg (cx:=base) (cx':=base0) ⟨rfl,rfl,rfl,rfl,rfl,rfl⟩ zD
theorem zT:Tryz.prog.follows .mixedOrders=true:=by kernel_rfl
end Go.Proofs.YtnolcogncjijpaaGreatDoor
/- What is read of an argument, as typed data. -/
namespace Go.Proofs.YtnolcogncjijpaaGreatDoor
open Go Go.Ab
def wf2 (x:Int):Prop:=(Lit.int .i64 x).wf=true
def wf3 (x:Int):Prop:=(Lit.int .i64 x).wf=true
def wf4 (x:Bool):Prop:=True
def wf5 (x:Int):Prop:=(Lit.int .u8 x).wf=true
def wf9 (x:ByteArray):Prop:=ByteArray.size x≤roomLen
def wf25 (x:RowID):Prop:=wf3 x.Table∧wf3 x.Seq
def wf46 (x:Value):Prop:=wf3 x.Kind∧wf2 x.Int∧wf9 x.Text
mutual
def zfm:Atom→Prop
 | ⟨k,r,a,f,i,o,b⟩=>wf3 k∧wf25 r∧(zqI a∧a.length≤roomLen)∧wf3 f∧(znY i∧i.length≤roomLen)∧wf3 o∧wf46 b
def zqc:Factor→Prop
 | ⟨a,e⟩=>zfm a∧wf3 e
def zoc:List Factor→Prop
 | []=>True
 | x::r=>zqc x∧zoc r
def zt5:Term→Prop
 | ⟨c,f⟩=>wf2 c∧(zoc f∧f.length≤roomLen)
def zfz:List Term→Prop
 | []=>True
 | x::r=>zt5 x∧zfz r
def zqI:List (List Term)→Prop
 | []=>True
 | x::r=>(zfz x∧x.length≤roomLen)∧zqI r
def zzf:Weighted→Prop
 | ⟨v,a⟩=>wf46 v∧(zfz a∧a.length≤roomLen)
def znY:List Weighted→Prop
 | []=>True
 | x::r=>zzf x∧znY r
end
theorem zCl:∀ l:List Factor,(∀ x∈l,zqc x)→zoc l
 | [],_=>by unfold zoc; trivial
 | x::r,h=>by unfold zoc; exact ⟨h x (by simp),zCl r fun y hy=>h y (by simp [hy])⟩
theorem zxV:∀ l:List Term,(∀ x∈l,zt5 x)→zfz l
 | [],_=>by unfold zfz; trivial
 | x::r,h=>by unfold zfz; exact ⟨h x (by simp),zxV r fun y hy=>h y (by simp [hy])⟩
theorem zHs:∀ l:List (List Term),(∀ x∈l,zfz x∧x.length≤roomLen)→zqI l
 | [],_=>by unfold zqI; trivial
 | x::r,h=>by unfold zqI; exact ⟨h x (by simp),zHs r fun y hy=>h y (by simp [hy])⟩
theorem zFX:∀ l:List Weighted,(∀ x∈l,zzf x)→znY l
 | [],_=>by unfold znY; trivial
 | x::r,h=>by unfold znY; exact ⟨h x (by simp),zFX r fun y hy=>h y (by simp [hy])⟩
def wf23 (x:List Term):Prop:=zfz x∧List.length x≤roomLen
def wf40 (x:List Factor):Prop:=zoc x∧List.length x≤roomLen
def wf42 (x:Term):Prop:=zt5 x
def wf43 (x:List (List Term)):Prop:=zqI x∧List.length x≤roomLen
def wf44 (x:List Weighted):Prop:=znY x∧List.length x≤roomLen
def wf48 (x:Atom):Prop:=zfm x
def wf50 (x:Factor):Prop:=zqc x
def wf52 (x:Weighted):Prop:=zzf x
def wf69 (x:Binding):Prop:=wf25 x.Row∧wf23 x.To
def wf59 (x:List Binding):Prop:=(∀ y∈x,wf69 y)∧List.length x≤roomLen
def wf (T:Nat):ty T→Prop:=match T with
 | 2=>wf2
 | 3=>wf3
 | 4=>wf4
 | 5=>wf5
 | 9=>wf9
 | 23=>wf23
 | 25=>wf25
 | 40=>wf40
 | 42=>wf42
 | 43=>wf43
 | 44=>wf44
 | 46=>wf46
 | 48=>wf48
 | 50=>wf50
 | 52=>wf52
 | 59=>wf59
 | 69=>wf69
 | _=>fun _=>True
theorem zR2:znn Tryz.prog base wf 2:=zH6 Tryz.underlying2 (fun n=>n) (fun _=>rfl) (fun _ h=>h)
theorem zBp:znn Tryz.prog base wf 3:=zH6 Tryz.underlying3 (fun n=>n) (fun _=>rfl) (fun _ h=>h)
theorem zVj:znn Tryz.prog base wf 5:=zH6 Tryz.underlying5 (fun n=>n) (fun _=>rfl) (fun _ h=>h)
theorem zVO:znn Tryz.prog base wf 9:=zRV Tryz.underlying9 (fun n=>n) (fun _=>rfl) (fun _ h=>h)
theorem zQv:znn Tryz.prog base wf 25:=by
 intro H en w sp held fuel cs y h hz
 obtain ⟨xs,n,_,hy,hl,hlen,hf⟩:=DataW.trod_struct Tryz.underlying25 h
 have hs:=zkv Tryz.underlying25 hy hz
 obtain ⟨x0,h0,w0⟩:=zos (off:=0) zBp (by kernel_rfl) hlen hf hs 0 _ rfl rfl rfl
 obtain ⟨x1,h1,w1⟩:=zos (off:=1) zBp (by kernel_rfl) hlen hf hs 1 _ rfl rfl rfl
 have hl:cs.length=2:=hl.trans (by kernel_rfl)
 have:=zhD h0 (zuQ h1 hl)
 exact ⟨(⟨x0,x1⟩:RowID),this,⟨w0,w1⟩⟩
theorem zQn:znn Tryz.prog base wf 46:=by
 intro H en w sp held fuel cs y h hz
 obtain ⟨xs,n,_,hy,hl,hlen,hf⟩:=DataW.trod_struct Tryz.underlying46 h
 have hs:=zkv Tryz.underlying46 hy hz
 obtain ⟨x0,h0,w0⟩:=zos (off:=0) zBp (by kernel_rfl) hlen hf hs 0 _ rfl rfl rfl
 obtain ⟨x1,h1,w1⟩:=zos (off:=1) zR2 (by kernel_rfl) hlen hf hs 1 _ rfl rfl rfl
 obtain ⟨x2,h2,w2⟩:=zos (off:=2) zVO (by kernel_rfl) hlen hf hs 2 _ rfl rfl rfl
 have hl:cs.length=3:=hl.trans (by kernel_rfl)
 have:=zhD h0 (zhD h1 (zuQ h2 hl))
 exact ⟨(⟨x0,x1,x2⟩:Value),this,⟨w0,w1,w2⟩⟩
theorem zNP:∀ m,zoe Tryz.prog base wf m 23∧zoe Tryz.prog base wf m 40∧zoe Tryz.prog base wf m 42∧zoe Tryz.prog base wf m 43∧zoe Tryz.prog base wf m 44∧zoe Tryz.prog base wf m 48∧zoe Tryz.prog base wf m 50∧zoe Tryz.prog base wf m 52
 | 0=>⟨zmB,zmB,zmB,zmB,zmB,zmB,zmB,zmB⟩
 | m+1=>by
  obtain ⟨h23,h40,h42,h43,h44,h48,h50,h52⟩:=zNP m
  refine ⟨?_, ?_, ?_, ?_, ?_, ?_, ?_, ?_⟩
  ·exact zsG zD Tryz.underlying23 (by kernel_rfl) (by decide) (fun l=>l) (fun _=>rfl) (of_decide_eq_true (by kernel_rfl)) h42 (fun l h h2=>⟨zxV l h,h2⟩)
  ·exact zsG zD Tryz.underlying40 (by kernel_rfl) (by decide) (fun l=>l) (fun _=>rfl) (of_decide_eq_true (by kernel_rfl)) h50 (fun l h h2=>⟨zCl l h,h2⟩)
  ·intro H en w sp held fuel cs y hfu h hz
   obtain ⟨xs,n,hn,hy,hl,hlen,hf⟩:=DataW.trod_struct Tryz.underlying42 h
   have hs:=zkv Tryz.underlying42 hy hz
   have hn:n≤m:=by omega
   obtain ⟨x0,hx0,w0⟩:=zeO (off:=0) (zR2.at m) (by kernel_rfl) hn hlen hf hs 0 _ rfl rfl rfl
   obtain ⟨x1,hx1,w1⟩:=zeO (off:=1) h40 (by kernel_rfl) hn hlen hf hs 1 _ rfl rfl rfl
   have hl:cs.length=2:=hl.trans (by kernel_rfl)
   have:=zhD hx0 (zuQ hx1 hl)
   exact ⟨(⟨x0,x1⟩:Term),this,by show zt5 (⟨x0,x1⟩:Term); unfold zt5; exact ⟨w0,w1⟩⟩
  ·exact zsG zD Tryz.underlying43 (by kernel_rfl) (by decide) (fun l=>l) (fun _=>rfl) (of_decide_eq_true (by kernel_rfl)) h23 (fun l h h2=>⟨zHs l h,h2⟩)
  ·exact zsG zD Tryz.underlying44 (by kernel_rfl) (by decide) (fun l=>l) (fun _=>rfl) (of_decide_eq_true (by kernel_rfl)) h52 (fun l h h2=>⟨zFX l h,h2⟩)
  ·intro H en w sp held fuel cs y hfu h hz
   obtain ⟨xs,n,hn,hy,hl,hlen,hf⟩:=DataW.trod_struct Tryz.underlying48 h
   have hs:=zkv Tryz.underlying48 hy hz
   have hn:n≤m:=by omega
   obtain ⟨x0,hx0,w0⟩:=zeO (off:=0) (zBp.at m) (by kernel_rfl) hn hlen hf hs 0 _ rfl rfl rfl
   obtain ⟨x1,hx1,w1⟩:=zeO (off:=1) (zQv.at m) (by kernel_rfl) hn hlen hf hs 1 _ rfl rfl rfl
   obtain ⟨x2,hx2,w2⟩:=zeO (off:=3) h43 (by kernel_rfl) hn hlen hf hs 2 _ rfl rfl rfl
   obtain ⟨x3,hx3,w3⟩:=zeO (off:=4) (zBp.at m) (by kernel_rfl) hn hlen hf hs 3 _ rfl rfl rfl
   obtain ⟨x4,hx4,w4⟩:=zeO (off:=5) h44 (by kernel_rfl) hn hlen hf hs 4 _ rfl rfl rfl
   obtain ⟨x5,hx5,w5⟩:=zeO (off:=6) (zBp.at m) (by kernel_rfl) hn hlen hf hs 5 _ rfl rfl rfl
   obtain ⟨x6,hx6,w6⟩:=zeO (off:=7) (zQn.at m) (by kernel_rfl) hn hlen hf hs 6 _ rfl rfl rfl
   have hl:cs.length=10:=hl.trans (by kernel_rfl)
   have:=zhD hx0 (zhD hx1 (zhD hx2 (zhD hx3 (zhD hx4 (zhD hx5 (zuQ hx6 hl))))))
   exact ⟨(⟨x0,x1,x2,x3,x4,x5,x6⟩:Atom),this,by show zfm (⟨x0,x1,x2,x3,x4,x5,x6⟩:Atom); unfold zfm; exact ⟨w0,w1,w2,w3,w4,w5,w6⟩⟩
  ·intro H en w sp held fuel cs y hfu h hz
   obtain ⟨xs,n,hn,hy,hl,hlen,hf⟩:=DataW.trod_struct Tryz.underlying50 h
   have hs:=zkv Tryz.underlying50 hy hz
   have hn:n≤m:=by omega
   obtain ⟨x0,hx0,w0⟩:=zeO (off:=0) h48 (by kernel_rfl) hn hlen hf hs 0 _ rfl rfl rfl
   obtain ⟨x1,hx1,w1⟩:=zeO (off:=10) (zBp.at m) (by kernel_rfl) hn hlen hf hs 1 _ rfl rfl rfl
   have hl:cs.length=11:=hl.trans (by kernel_rfl)
   have:=zhD hx0 (zuQ hx1 hl)
   exact ⟨(⟨x0,x1⟩:Factor),this,by show zqc (⟨x0,x1⟩:Factor); unfold zqc; exact ⟨w0,w1⟩⟩
  ·intro H en w sp held fuel cs y hfu h hz
   obtain ⟨xs,n,hn,hy,hl,hlen,hf⟩:=DataW.trod_struct Tryz.underlying52 h
   have hs:=zkv Tryz.underlying52 hy hz
   have hn:n≤m:=by omega
   obtain ⟨x0,hx0,w0⟩:=zeO (off:=0) (zQn.at m) (by kernel_rfl) hn hlen hf hs 0 _ rfl rfl rfl
   obtain ⟨x1,hx1,w1⟩:=zeO (off:=3) h23 (by kernel_rfl) hn hlen hf hs 1 _ rfl rfl rfl
   have hl:cs.length=4:=hl.trans (by kernel_rfl)
   have:=zhD hx0 (zuQ hx1 hl)
   exact ⟨(⟨x0,x1⟩:Weighted),this,by show zzf (⟨x0,x1⟩:Weighted); unfold zzf; exact ⟨w0,w1⟩⟩
theorem zLR:znn Tryz.prog base wf 23:=zRR fun m=>(zNP m).1
theorem zVg:znn Tryz.prog base wf 69:=by
 intro H en w sp held fuel cs y h hz
 obtain ⟨xs,n,_,hy,hl,hlen,hf⟩:=DataW.trod_struct Tryz.underlying69 h
 have hs:=zkv Tryz.underlying69 hy hz
 obtain ⟨x0,h0,w0⟩:=zos (off:=0) zQv (by kernel_rfl) hlen hf hs 0 _ rfl rfl rfl
 obtain ⟨x1,h1,w1⟩:=zos (off:=2) zLR (by kernel_rfl) hlen hf hs 1 _ rfl rfl rfl
 have hl:cs.length=3:=hl.trans (by kernel_rfl)
 have:=zhD h0 (zuQ h1 hl)
 exact ⟨(⟨x0,x1⟩:Binding),this,⟨w0,w1⟩⟩
theorem zUy:znn Tryz.prog base wf 59:=zPE zD Tryz.underlying59 (by kernel_rfl) (by decide) (fun l=>l) (fun _=>rfl) (of_decide_eq_true (by kernel_rfl)) zVg (fun _ h h2=>⟨h,h2⟩)
end Go.Proofs.YtnolcogncjijpaaGreatDoor
/- A world in which the row's condition holds; what the program's rows share. -/
namespace Go.Proofs.YtnolcogncjijpaaGreatDoor
open Go Go.Ab Go.Lib
theorem own:ownKnob Tryz.prog.godebug=none:=by kernel_rfl
theorem zT2:laidOutB Tryz.prog=true:=by kernel_rfl
def zWj:DataW Unit→Go.Value
 | .lit (.int k n)=>.int k n
 | .lit (.bool b)=>.bool b
 | .lit (.string s)=>.string ⟨s.toArray⟩
 | _=>undef
def zRM:Nat→DataW Unit→List Go.Value
 | n+1,.agg ds=>ds.flatMap (zRM n)
 | _,d=>[zWj d]
def cellsOf (d:DataW Unit):Array Go.Value:=(zRM 3 d).toArray
def zLd (h:Array Obj) (g:Nat) (cs:Array Go.Value):Array Obj:=h.modify g fun
 | .cells _ t fr=>.cells cs t fr
 | o=>o
def zMP (os:Os):World:=
 let w0:=World.holding Tryz.prog os ⟨#[],#[],[]⟩
 { w0 with heap:=zLd (zLd (zLd (zLd (zLd (w0.heap) 2 (cellsOf Rows.laid_math_bits_deBruijn32tab)) 3 (cellsOf Rows.laid_math_bits_deBruijn64tab)) 1 (cellsOf Rows.laid_internal_strconv_uint64pow10)) 5 (cellsOf Rows.laid_unicode_utf8_acceptRanges)) 4 (cellsOf Rows.laid_unicode_utf8_first) }
def zx7:List (String×DataW Unit):=[("math/bits.deBruijn32tab",Rows.laid_math_bits_deBruijn32tab),("math/bits.deBruijn64tab",Rows.laid_math_bits_deBruijn64tab),("internal/strconv.uint64pow10",Rows.laid_internal_strconv_uint64pow10),("unicode/utf8.acceptRanges",Rows.laid_unicode_utf8_acceptRanges),("unicode/utf8.first",Rows.laid_unicode_utf8_first)]
theorem zNp (os:Os) (args:Array Go.Value):laidMetH Tryz.prog zx7 ((zMP os).forCall (fun _ _=>0) ⟨#[],args,[]⟩).memory:=
 laidMetH_of_parts (laidMet_of_run3 8 (by kernel_rfl) (by kernel_rfl) (by kernel_rfl)) (by kernel_rfl)
theorem zRQ {w:World} (h:laidMetH Tryz.prog zx7 w):laidMet Tryz.prog zx7 w:=by
 unfold laidMetH at h
 rw [show (zx7.filter fun x=>x.2.handleName?.isSome)=[] by kernel_rfl] at h
 exact h
theorem zVt (w:World) (hsh:w.ShapedOpen Tryz.prog) (h:laidMetH Tryz.prog zx7 w):base.inv w∧base.ng≤w.heap.size:=by
 have h:=zRQ h
 have h1:TabIs Tryz.prog w "internal/strconv.uint64pow10" .u64 pow10Tab:=
  tabIs_of_head (g:=1) (by kernel_rfl) (by kernel_rfl) Tryz.underlying199 Tryz.underlying178 (by kernel_rfl) (by kernel_rfl) h.tail.tail
 have h4:=cell_of_shapedOpen_int (g:=0) (t:=3) (zero:=#[.int .i64 0]) hsh (of_decide_eq_true (by kernel_rfl)) (by kernel_rfl) rfl (by kernel_rfl) (by kernel_rfl) Tryz.underlying3
 obtain ⟨ps,⟨g',t',cs,fuel,p,q,hg',_,hvar,_⟩,_⟩:=h.tail
 refine ⟨⟨h1,h4⟩, ?_⟩
 unfold World.var? at hvar
 rw [show Tryz.prog.globalNamed "math/bits.deBruijn64tab"=some 3 by kernel_rfl] at hvar
 simp only [Option.bind_some] at hvar
 show 4≤w.heap.size
 cases hh:w.heap[3]? with
 | none=>rw [hh] at hvar; cases hvar
 | some o=>exact (Array.getElem?_eq_some_iff.1 hh).1
end Go.Proofs.YtnolcogncjijpaaGreatDoor
namespace Go.Proofs.YtnolcogncjijpaaGreatDoor
open Go Go.Ab
def zud (r:Int):ARes ty:=⟨[.pure (.lit (.int .i64 r))],[]⟩
def zwf:AL base (List Term×List Term×Unit):=zf (zg (vSl 42)) (zf (zg (vSl 42)) aNil)
def zdM (F:List Term→List Term→Bool×Int):Ab.Spec ty:=zu zwf fun x=>((F x.1 x.2.1).1,zud (F x.1 x.2.1).2)
def zrz (r:Int):ARes ty:=⟨[.pure (.lit (.int .i64 r))],[]⟩
def ztC:AL base (Term×Term×Unit):=zf (zg (vAgg 42)) (zf (zg (vAgg 42)) aNil)
def zfa (F:Term→Term→Bool×Int):Ab.Spec ty:=zu ztC fun x=>((F x.1 x.2.1).1,zrz (F x.1 x.2.1).2)
def zpH (r:Int):ARes ty:=⟨[.pure (.lit (.int .i64 r))],[]⟩
def zrA:AL base (Term×Term×Unit):=zf (zg (vAgg 42)) (zf (zg (vAgg 42)) aNil)
def zf0 (F:Term→Term→Bool×Int):Ab.Spec ty:=zu zrA fun x=>((F x.1 x.2.1).1,zpH (F x.1 x.2.1).2)
def zoO (r:Int):ARes ty:=⟨[.pure (.lit (.int .i64 r))],[]⟩
def zpW:AL base (Factor×Factor×Unit):=zf (zg (vAgg 50)) (zf (zg (vAgg 50)) aNil)
def zec (F:Factor→Factor→Bool×Int):Ab.Spec ty:=zu zpW fun x=>((F x.1 x.2.1).1,zoO (F x.1 x.2.1).2)
def zpP (r:Int):ARes ty:=⟨[.pure (.lit (.int .i64 r))],[]⟩
def zrp:AL base (Atom×Atom×Unit):=zf (zg (vAgg 48)) (zf (zg (vAgg 48)) aNil)
def zgg (F:Atom→Atom→Bool×Int):Ab.Spec ty:=zu zrp fun x=>((F x.1 x.2.1).1,zpP (F x.1 x.2.1).2)
def zp1 (r:Int):ARes ty:=⟨[.pure (.lit (.int .i64 r))],[]⟩
def zrw:AL base (Weighted×Weighted×Unit):=zf (zg (vAgg 52)) (zf (zg (vAgg 52)) aNil)
def zdN (F:Weighted→Weighted→Bool×Int):Ab.Spec ty:=zu zrw fun x=>((F x.1 x.2.1).1,zp1 (F x.1 x.2.1).2)
def zdp (r:Int):ARes ty:=⟨[.pure (.lit (.int .i64 r))],[]⟩
def zdD:AL base (List Term×List Term×Unit×Unit):=zf (zg (vSl 42)) (zf (zg (vSl 42)) (zf (zg (vFn 87 vNil)) aNil))
def zby (F:List Term→List Term→Bool×Int):Ab.Spec ty:=zu zdD fun x=>((F x.1 x.2.1).1,zdp (F x.1 x.2.1).2)
def zdE (r:Int):ARes ty:=⟨[.pure (.lit (.int .i64 r))],[]⟩
def zdS:AL base (List Factor×List Factor×Unit×Unit):=zf (zg (vSl 50)) (zf (zg (vSl 50)) (zf (zg (vFn 124 vNil)) aNil))
def zbE (F:List Factor→List Factor→Bool×Int):Ab.Spec ty:=zu zdS fun x=>((F x.1 x.2.1).1,zdE (F x.1 x.2.1).2)
def zcr (r:Int):ARes ty:=⟨[.pure (.lit (.int .i64 r))],[]⟩
def zct:AL base (List (List Term)×List (List Term)×Unit×Unit):=zf (zg (vSl 23)) (zf (zg (vSl 23)) (zf (zg (vFn 38 vNil)) aNil))
def zbg (F:List (List Term)→List (List Term)→Bool×Int):Ab.Spec ty:=zu zct fun x=>((F x.1 x.2.1).1,zcr (F x.1 x.2.1).2)
def zcX (r:Int):ARes ty:=⟨[.pure (.lit (.int .i64 r))],[]⟩
def zc3:AL base (List Weighted×List Weighted×Unit×Unit):=zf (zg (vSl 52)) (zf (zg (vSl 52)) (zf (zg (vFn 85 vNil)) aNil))
def zbr (F:List Weighted→List Weighted→Bool×Int):Ab.Spec ty:=zu zc3 fun x=>((F x.1 x.2.1).1,zcX (F x.1 x.2.1).2)
def zCC (zy:List Term→List Term→Bool×Int) (zA:Term→Term→Bool×Int):Cx ty:=mkCx base 8 [(86,(zby zy)),(87,(zfa zA))] [] [] [] [] []
def zox (zy:List Term→List Term→Bool×Int) (zA:Term→Term→Bool×Int) (a:List Term) (b:List Term):Wy0 (Int):=.bn (zy a b) fun r0=>.k r0
def zl9 (zy:List Term→List Term→Bool×Int) (zA:Term→Term→Bool×Int) (a:List Term) (b:List Term):Bool×Int:=(zox zy zA a b).fin default
theorem zzK (zy:List Term→List Term→Bool×Int) (zA:Term→Term→Bool×Int) (zhz:Sound Tryz.prog base 86 (zby zy)) (zl6:Sound Tryz.prog base 87 (zfa zA)):Sound Tryz.prog base 38 (zdM (zl9 zy zA)):=
 zH (cx':=(zCC zy zA)) zT zD zN (zG ⟨zhz,zl6,trivial⟩) Tryz.call38 Tryz.func38 (c:=body Tryz.f38) (by kernel_rfl) (zj (l:=[]) (by kernel_rfl) trivial) (sg:=⟨[.pure],[]⟩) (A:=zwf) (res:=zud) (W:=fun x=>zox zy zA x.1 x.2.1) (z:=default)
def zHG:Cx ty:=mkCx base 6 [] [] [] [] [] []
def ztM (x_:Int):Wy0 (Bool):=.k (x_ != x_)
def zlk (x_:Int):Bool×Bool:=(ztM x_).fin default
def zxw (r:Bool):ARes ty:=⟨[.pure (.lit (.bool r))],[]⟩
def zAr:AL base (Int×Unit):=zf (zg (vInt .i64)) aNil
def zwj:Ab.Spec ty:=zu zAr fun x=>((zlk x.1).1,zxw (zlk x.1).2)
theorem zEq:Sound Tryz.prog base 136 zwj:=
 zH (cx':=zHG) zT zD zN (zG trivial) Tryz.call136 Tryz.func136 (c:=body Tryz.f136) (by kernel_rfl) (zj (l:=[]) (by kernel_rfl) trivial) (sg:=⟨[.pure],[]⟩) (A:=zAr) (res:=zxw) (W:=fun x=>ztM x.1) (z:=default)
def zFW:Cx ty:=mkCx base 20 [(136,zwj)] [] [] [] [] []
def zrf (x_:Int) (y_:Int):Wy0 (Int):=.i ((zlk x_).2) (.i ((zlk y_).2) (.k 0) (.k (-1:Int))) (.i ((zlk y_).2) (.k 1) (.i (decide (x_<y_)) (.k (-1:Int)) (.i (decide (x_>y_)) (.k 1) (.k 0))))
def zh4 (x_:Int) (y_:Int):Bool×Int:=(zrf x_ y_).fin default
def zvf (r:Int):ARes ty:=⟨[.pure (.lit (.int .i64 r))],[]⟩
def zxm:AL base (Int×Int×Unit):=zf (zg (vInt .i64)) (zf (zg (vInt .i64)) aNil)
def zkG:Ab.Spec ty:=zu zxm fun x=>((zh4 x.1 x.2.1).1,zvf (zh4 x.1 x.2.1).2)
theorem znP:Sound Tryz.prog base 79 zkG:=
 zH (cx':=zFW) zT zD zN (zG ⟨zEq,trivial⟩) Tryz.call79 Tryz.func79 (c:=body Tryz.f79) (by kernel_rfl) (zj (l:=[]) (by kernel_rfl) trivial) (sg:=⟨[.pure],[]⟩) (A:=zxm) (res:=zvf) (W:=fun x=>zrf x.1 x.2.1) (z:=default)
abbrev ttTcmpOrint0:=Int×List Int×Int×Int×Unit
def zz6 (zero:Int) (t6:List Int) (t7:Int) (t8:Int):Wy ttTcmpOrint0 (Unit) (Int⊕Int):=.i (decide (t8<t7)) (.i (decide (0≤t8)&&decide (t8<Int.ofNat t6.length)) (.i (t6.getD t8.toNat default != zero) (.k (.inl (t6.getD t8.toNat default))) (.h (zero,t6,t7,(IntKind.i64.wrap (t8+1)),()) ())) .d) (.k (.inr zero))
def zzI (x:ttTcmpOrint0) (y:Unit):Wy ttTcmpOrint0 (Unit) (Int⊕Int):=zz6 x.1 x.2.1 x.2.2.1 x.2.2.2.1
def zzG (n:Nat) (zero:Int) (t6:List Int) (t7:Int) (t8:Int):Bool×(Int⊕Int):=zQ (zzI) (.inl default) n (zero,t6,t7,t8,()) ()
def zES (r:Int⊕Int):LTree ty:=.ite (isL r) (.done .ret [.lit (.int .i64 (getL r))] []) (.done (.exit 0) [.lit (.int .i64 (getR r))] [])
def zGk:LL ty ttTcmpOrint0:=zb (lInt .i64) (zb (lSl 3) (zb (lInt .i64) (zb (lInt .i64) zX)))
def zGr:BL ty (Unit):=bNil
def zEK (x:ttTcmpOrint0) (y:Unit):Nat:=(Int.toNat x.1+x.2.1.length+Int.toNat x.2.2.1+Int.toNat x.2.2.2.1+1)
def zGu:Cx ty:=mkCx base 18 [] [] [(3,[(3,.keep),(6,.keep),(7,.keep),(8,.keep)])] [(3,1,[(3,.keep)]),(3,0,[(2,.keep)])] [(3,spW zGk zGr (zzI) (.inl default) zES zEK)] []
theorem zL5:zbv zGu (lp (body Tryz.f88) 0):=zbc (id:=3) (V:=zGk) (B:=zGr) (W:=zzI) (z:=.inl default) (tr:=zES) (m:=zEK)
def zBE (vals:List Int):Wy0 (Int):=.bn (zzG (Int.toNat 0+vals.length+(Int.ofNat vals.length).toNat +Int.toNat 0+1) 0 vals (Int.ofNat vals.length) 0) fun r0=>.i (isL r0) (.k (getL r0)) (.k (getR r0))
def zl7 (vals:List Int):Bool×Int:=(zBE vals).fin default
def zEY (r:Int):ARes ty:=⟨[.pure (.lit (.int .i64 r))],[]⟩
def zHc:AL base (List Int×Unit):=zf (zg (vSl 3)) aNil
def zlm:Ab.Spec ty:=zu zHc fun x=>((zl7 x.1).1,zEY (zl7 x.1).2)
theorem zm1:Sound Tryz.prog base 88 zlm:=
 zH (cx':=zGu) zT zD zN (zG trivial) Tryz.call88 Tryz.func88 (c:=body Tryz.f88) (by kernel_rfl) (zj (l:=[lp (body Tryz.f88) 0]) (by kernel_rfl) ⟨zL5,trivial⟩) (sg:=⟨[.pure],[]⟩) (A:=zHc) (res:=zEY) (W:=fun x=>zBE x.1) (z:=default)
def zzZ (zbX:Term→Term→Bool×Int):Cx ty:=mkCx base 15 [(71,(zf0 zbX)),(79,zkG),(88,zlm)] [] [] [] [] []
def zmu (zbX:Term→Term→Bool×Int) (x_:Term) (y_:Term):Wy0 (Int):=.bn (zbX x_ y_) fun r2=>.bn (zh4 x_.Coeff y_.Coeff) fun r1=>.bn (zl7 [r2,r1]) fun r0=>.k r0
def zj7 (zbX:Term→Term→Bool×Int) (x_:Term) (y_:Term):Bool×Int:=(zmu zbX x_ y_).fin default
theorem zw3 (zbX:Term→Term→Bool×Int) (zzp:Sound Tryz.prog base 71 (zf0 zbX)):Sound Tryz.prog base 87 (zfa (zj7 zbX)):=
 zH (cx':=(zzZ zbX)) zT zD zN (zG ⟨zzp,znP,zm1,trivial⟩) Tryz.call87 Tryz.func87 (c:=body Tryz.f87) (by kernel_rfl) (zj (l:=[]) (by kernel_rfl) trivial) (sg:=⟨[.pure],[]⟩) (A:=ztC) (res:=zrz) (W:=fun x=>zmu zbX x.1 x.2.1) (z:=default)
def zJZ:Cx ty:=mkCx base 6 [] [] [] [] [] []
def zwW (x_:Int):Wy0 (Bool):=.k (x_ != x_)
def zn0 (x_:Int):Bool×Bool:=(zwW x_).fin default
def zAf (r:Bool):ARes ty:=⟨[.pure (.lit (.bool r))],[]⟩
def zDe:AL base (Int×Unit):=zf (zg (vInt .i64)) aNil
def zzr:Ab.Spec ty:=zu zDe fun x=>((zn0 x.1).1,zAf (zn0 x.1).2)
theorem zGL:Sound Tryz.prog base 161 zzr:=
 zH (cx':=zJZ) zT zD zN (zG trivial) Tryz.call161 Tryz.func161 (c:=body Tryz.f161) (by kernel_rfl) (zj (l:=[]) (by kernel_rfl) trivial) (sg:=⟨[.pure],[]⟩) (A:=zDe) (res:=zAf) (W:=fun x=>zwW x.1) (z:=default)
def zHo:Cx ty:=mkCx base 20 [(161,zzr)] [] [] [] [] []
def ztJ (x_:Int) (y_:Int):Wy0 (Int):=.i ((zn0 x_).2) (.i ((zn0 y_).2) (.k 0) (.k (-1:Int))) (.i ((zn0 y_).2) (.k 1) (.i (decide (x_<y_)) (.k (-1:Int)) (.i (decide (x_>y_)) (.k 1) (.k 0))))
def zep (x_:Int) (y_:Int):Bool×Int:=(ztJ x_ y_).fin default
def zxo (r:Int):ARes ty:=⟨[.pure (.lit (.int .i64 r))],[]⟩
def zAx:AL base (Int×Int×Unit):=zf (zg (vInt .i64)) (zf (zg (vInt .i64)) aNil)
def zms:Ab.Spec ty:=zu zAx fun x=>((zep x.1 x.2.1).1,zxo (zep x.1 x.2.1).2)
theorem zpw:Sound Tryz.prog base 125 zms:=
 zH (cx':=zHo) zT zD zN (zG ⟨zGL,trivial⟩) Tryz.call125 Tryz.func125 (c:=body Tryz.f125) (by kernel_rfl) (zj (l:=[]) (by kernel_rfl) trivial) (sg:=⟨[.pure],[]⟩) (A:=zAx) (res:=zxo) (W:=fun x=>ztJ x.1 x.2.1) (z:=default)
end Go.Proofs.YtnolcogncjijpaaGreatDoor
/-
 DERIVED:THE SHELF's CONTRACTS AT THIS DUMP,IN PLAIN WORDS (tools/lay-plain.mjs out of 'TryzShelf.lean',which tools/lay-shelf.mjs wrote):THE SAME DECLARATIONS UNDER THE SAME NAMES:'import','namespace','open','def','theorem' AND NOTHING ELSE:no command of the shelf's:FOR A HAND-IN. Each laying:the table of numbers ('.._ren') and one theorem,a field a fact of the dump's own or the kernel's comparison; each contract:ONE APPLICATION.
-/
namespace Go.Proofs
open Go.Shelf
def Tryz.pdqTerm_ren:Go.Shelf.Ren:=⟨fun | 14=>155 | 20=>177 | 21=>178 | 22=>179 | 23=>180 | 24=>181 | 25=>182 | 26=>183 | 27=>184 | 46=>204 | 47=>205 | 48=>206 | 49=>207 | 50=>208 | 15=>156 | 57=>221 | 28=>185 | 29=>186 | n=>n,fun | 24=>42 | 22=>22 | 3=>3 | 25=>80 | 4=>4 | 0=>0 | 46=>170 | 45=>169 | 50=>108 | 66=>190 | 39=>143 | 55=>178 | 70=>194 | 76=>205 | 77=>206 | 53=>176 | 5=>5 | 9=>9 | n=>n,fun | n=>n⟩
theorem Tryz.pdqTerm:Go.Proofs.SlLaysF0.n14 Tryz.prog Tryz.pdqTerm_ren:={
 mixed:=by kernel_rfl
 f14:=⟨Tryz.f155.name,by decide,Tryz.func155.trans (congrArg some (by kernel_rfl))⟩
 f15:=Tryz.func156.trans (congrArg some (by kernel_rfl))
 f20:=⟨Tryz.f177.name,by decide,Tryz.func177.trans (congrArg some (by kernel_rfl))⟩
 f21:=⟨Tryz.f178.name,by decide,Tryz.func178.trans (congrArg some (by kernel_rfl))⟩
 f22:=⟨Tryz.f179.name,by decide,Tryz.func179.trans (congrArg some (by kernel_rfl))⟩
 f23:=⟨Tryz.f180.name,by decide,Tryz.func180.trans (congrArg some (by kernel_rfl))⟩
 f24:=⟨Tryz.f181.name,by decide,Tryz.func181.trans (congrArg some (by kernel_rfl))⟩
 f25:=⟨Tryz.f182.name,by decide,Tryz.func182.trans (congrArg some (by kernel_rfl))⟩
 f26:=⟨Tryz.f183.name,by decide,Tryz.func183.trans (congrArg some (by kernel_rfl))⟩
 f27:=⟨Tryz.f184.name,by decide,Tryz.func184.trans (congrArg some (by kernel_rfl))⟩
 f28:=Tryz.func185.trans (congrArg some (by kernel_rfl))
 f29:=Tryz.func186.trans (congrArg some (by kernel_rfl))
 f46:=⟨Tryz.f204.name,by decide,Tryz.func204.trans (congrArg some (by kernel_rfl))⟩
 f47:=Tryz.func205.trans (congrArg some (by kernel_rfl))
 f48:=Tryz.func206.trans (congrArg some (by kernel_rfl))
 f49:=⟨Tryz.f207.name,by decide,Tryz.func207.trans (congrArg some (by kernel_rfl))⟩
 f50:=⟨Tryz.f208.name,by decide,Tryz.func208.trans (congrArg some (by kernel_rfl))⟩
 f57:=⟨Tryz.f221.name,by decide,Tryz.func221.trans (congrArg some (by kernel_rfl))⟩
 t0:=Tryz.underlying0
 a0:=Tryz.isAgg0
 z0:=Tryz.sizeOf0
 v0:=Tryz.zeroValue0
 t3:=Tryz.underlying3
 a3:=Tryz.isAgg3
 z3:=Tryz.sizeOf3
 v3:=Tryz.zeroValue3
 t4:=Tryz.underlying4
 a4:=Tryz.isAgg4
 z4:=Tryz.sizeOf4
 v4:=Tryz.zeroValue4
 t5:=Tryz.underlying5
 a5:=Tryz.isAgg5
 z5:=Tryz.sizeOf5
 v5:=Tryz.zeroValue5
 t9:=Tryz.underlying9
 a9:=Tryz.isAgg9
 z9:=Tryz.sizeOf9
 v9:=Tryz.zeroValue9
 t22:=Tryz.underlying22
 a22:=Tryz.isAgg22
 z22:=Tryz.sizeOf22
 v22:=Tryz.zeroValue22
 t25:=Tryz.underlying80
 a25:=Tryz.isAgg80
 z25:=Tryz.sizeOf80
 v25:=Tryz.zeroValue80
 t39:=Tryz.underlying143
 a39:=Tryz.isAgg143
 z39:=Tryz.sizeOf143
 v39:=Tryz.zeroValue143
 t45:=Tryz.underlying169
 a45:=Tryz.isAgg169
 z45:=Tryz.sizeOf169
 v45:=Tryz.zeroValue169
 t46:=Tryz.underlying170
 a46:=Tryz.isAgg170
 z46:=Tryz.sizeOf170
 v46:=Tryz.zeroValue170
 t50:=Tryz.underlying108
 a50:=Tryz.isAgg108
 z50:=Tryz.sizeOf108
 v50:=Tryz.zeroValue108
 t53:=Tryz.underlying176
 a53:=Tryz.isAgg176
 z53:=Tryz.sizeOf176
 v53:=Tryz.zeroValue176
 t55:=Tryz.underlying178
 a55:=Tryz.isAgg178
 z55:=Tryz.sizeOf178
 v55:=Tryz.zeroValue178
 t66:=Tryz.underlying190
 a66:=Tryz.isAgg190
 z66:=Tryz.sizeOf190
 v66:=Tryz.zeroValue190
 t70:=Tryz.underlying194
 a70:=Tryz.isAgg194
 z70:=Tryz.sizeOf194
 v70:=Tryz.zeroValue194
 t76:=Tryz.underlying205
 a76:=Tryz.isAgg205
 z76:=Tryz.sizeOf205
 v76:=Tryz.zeroValue205
 t77:=Tryz.underlying206
 a77:=Tryz.isAgg206
 z77:=Tryz.sizeOf206
 v77:=Tryz.zeroValue206 }
def Tryz.insW_ren:Go.Shelf.Ren:=⟨fun | 20=>164 | n=>n,fun | 24=>52 | 22=>44 | 3=>3 | 25=>89 | 4=>4 | 0=>0 | n=>n,fun | n=>n⟩
theorem Tryz.insW:Go.Proofs.SlLaysF0.n20 Tryz.prog Tryz.insW_ren:={
 mixed:=by kernel_rfl
 f20:=⟨Tryz.f164.name,by decide,Tryz.func164.trans (congrArg some (by kernel_rfl))⟩
 t0:=Tryz.underlying0
 a0:=Tryz.isAgg0
 z0:=Tryz.sizeOf0
 v0:=Tryz.zeroValue0
 t3:=Tryz.underlying3
 a3:=Tryz.isAgg3
 z3:=Tryz.sizeOf3
 v3:=Tryz.zeroValue3
 t4:=Tryz.underlying4
 a4:=Tryz.isAgg4
 z4:=Tryz.sizeOf4
 v4:=Tryz.zeroValue4
 t22:=Tryz.underlying44
 a22:=Tryz.isAgg44
 z22:=Tryz.sizeOf44
 v22:=Tryz.zeroValue44
 t25:=Tryz.underlying89
 a25:=Tryz.isAgg89
 z25:=Tryz.sizeOf89
 v25:=Tryz.zeroValue89 }
def Tryz.lays106_ren:Go.Shelf.Ren:=⟨fun | 106=>162 | 213=>187 | 265=>209 | n=>n,fun | 9=>9 | 3=>3 | n=>n,fun | n=>n⟩
theorem Tryz.lays106:Go.Proofs.Lays.n106 Tryz.prog Tryz.lays106_ren:={
 mixed:=by kernel_rfl
 f106:=Tryz.func162.trans (congrArg some (by kernel_rfl))
 f213:=Tryz.func187.trans (congrArg some (by kernel_rfl))
 f265:=Tryz.func209.trans (congrArg some (by kernel_rfl))
 t3:=Tryz.underlying3
 a3:=Tryz.isAgg3
 z3:=Tryz.sizeOf3
 v3:=Tryz.zeroValue3
 t9:=Tryz.underlying9
 a9:=Tryz.isAgg9
 z9:=Tryz.sizeOf9
 v9:=Tryz.zeroValue9 }
def Tryz.laysM173_ren:Go.Shelf.Ren:=⟨fun | 173=>151 | 246=>168 | 283=>197 | 284=>198 | 285=>199 | 286=>200 | 129=>186 | 317=>214 | 318=>215 | 319=>216 | 320=>217 | 337=>223 | 338=>224 | n=>n,fun | 2=>2 | 3=>3 | 9=>9 | 4=>4 | 171=>184 | 0=>0 | 53=>178 | 37=>156 | 5=>5 | 173=>186 | 212=>199 | 51=>176 | 20=>20 | 213=>200 | 46=>143 | 232=>211 | 233=>212 | n=>n,fun | 17=>1 | 18=>2 | 19=>3 | n=>n⟩
theorem Tryz.laysM173:Go.Proofs.LaysM.n173 Tryz.prog Tryz.laysM173_ren:={
 mixed:=by kernel_rfl
 f129:=Tryz.func186.trans (congrArg some (by kernel_rfl))
 f173:=Tryz.func151.trans (congrArg some (by kernel_rfl))
 f246:=Tryz.func168.trans (congrArg some (by kernel_rfl))
 f283:=Tryz.func197.trans (congrArg some (by kernel_rfl))
 f284:=Tryz.func198.trans (congrArg some (by kernel_rfl))
 f285:=Tryz.func199.trans (congrArg some (by kernel_rfl))
 f286:=Tryz.func200.trans (congrArg some (by kernel_rfl))
 f317:=Tryz.func214.trans (congrArg some (by kernel_rfl))
 f318:=Tryz.func215.trans (congrArg some (by kernel_rfl))
 f319:=Tryz.func216.trans (congrArg some (by kernel_rfl))
 f320:=Tryz.func217.trans (congrArg some (by kernel_rfl))
 f337:=Tryz.func223.trans (congrArg some (by kernel_rfl))
 f338:=Tryz.func224.trans (congrArg some (by kernel_rfl))
 t0:=Tryz.underlying0
 a0:=Tryz.isAgg0
 z0:=Tryz.sizeOf0
 v0:=Tryz.zeroValue0
 t2:=Tryz.underlying2
 a2:=Tryz.isAgg2
 z2:=Tryz.sizeOf2
 v2:=Tryz.zeroValue2
 t3:=Tryz.underlying3
 a3:=Tryz.isAgg3
 z3:=Tryz.sizeOf3
 v3:=Tryz.zeroValue3
 t4:=Tryz.underlying4
 a4:=Tryz.isAgg4
 z4:=Tryz.sizeOf4
 v4:=Tryz.zeroValue4
 t5:=Tryz.underlying5
 a5:=Tryz.isAgg5
 z5:=Tryz.sizeOf5
 v5:=Tryz.zeroValue5
 t9:=Tryz.underlying9
 a9:=Tryz.isAgg9
 z9:=Tryz.sizeOf9
 v9:=Tryz.zeroValue9
 t20:=Tryz.underlying20
 a20:=Tryz.isAgg20
 z20:=Tryz.sizeOf20
 v20:=Tryz.zeroValue20
 t37:=Tryz.underlying156
 a37:=Tryz.isAgg156
 z37:=Tryz.sizeOf156
 v37:=Tryz.zeroValue156
 t46:=Tryz.underlying143
 a46:=Tryz.isAgg143
 z46:=Tryz.sizeOf143
 v46:=Tryz.zeroValue143
 t51:=Tryz.underlying176
 a51:=Tryz.isAgg176
 z51:=Tryz.sizeOf176
 v51:=Tryz.zeroValue176
 t53:=Tryz.underlying178
 a53:=Tryz.isAgg178
 z53:=Tryz.sizeOf178
 v53:=Tryz.zeroValue178
 t171:=Tryz.underlying184
 a171:=Tryz.isAgg184
 z171:=Tryz.sizeOf184
 v171:=Tryz.zeroValue184
 t173:=Tryz.underlying186
 a173:=Tryz.isAgg186
 z173:=Tryz.sizeOf186
 v173:=Tryz.zeroValue186
 t212:=Tryz.underlying199
 a212:=Tryz.isAgg199
 z212:=Tryz.sizeOf199
 v212:=Tryz.zeroValue199
 t213:=Tryz.underlying200
 a213:=Tryz.isAgg200
 z213:=Tryz.sizeOf200
 t232:=Tryz.underlying211
 a232:=Tryz.isAgg211
 z232:=Tryz.sizeOf211
 v232:=Tryz.zeroValue211
 t233:=Tryz.underlying212
 a233:=Tryz.isAgg212
 z233:=Tryz.sizeOf212
 v233:=Tryz.zeroValue212
 g17:=by kernel_rfl
 g18:=by kernel_rfl
 g19:=by kernel_rfl
 i0:=by kernel_rfl
 i2:=by kernel_rfl
 i3:=by kernel_rfl
 i4:=by kernel_rfl
 i5:=by kernel_rfl
 i9:=by kernel_rfl
 i20:=by kernel_rfl
 i37:=by kernel_rfl
 i46:=by kernel_rfl
 i51:=by kernel_rfl
 i53:=by kernel_rfl
 i171:=by kernel_rfl
 i173:=by kernel_rfl
 i212:=by kernel_rfl
 i232:=by kernel_rfl
 i233:=by kernel_rfl
 m17:=by kernel_rfl
 m18:=by kernel_rfl
 m19:=by kernel_rfl }
def Tryz.laysM171_ren:Go.Shelf.Ren:=⟨fun | 171=>154 | 243=>176 | 246=>168 | 283=>197 | 284=>198 | 285=>199 | 286=>200 | 129=>186 | 317=>214 | 318=>215 | 319=>216 | 320=>217 | 337=>223 | 338=>224 | n=>n,fun | 3=>3 | 9=>9 | 2=>2 | 4=>4 | 171=>184 | 0=>0 | 53=>178 | 37=>156 | 5=>5 | 173=>186 | 212=>199 | 51=>176 | 20=>20 | 213=>200 | 46=>143 | 232=>211 | 233=>212 | n=>n,fun | 17=>1 | 18=>2 | 19=>3 | n=>n⟩
theorem Tryz.laysM171:Go.Proofs.LaysM.n171 Tryz.prog Tryz.laysM171_ren:={
 mixed:=by kernel_rfl
 f129:=Tryz.func186.trans (congrArg some (by kernel_rfl))
 f171:=Tryz.func154.trans (congrArg some (by kernel_rfl))
 f243:=Tryz.func176.trans (congrArg some (by kernel_rfl))
 f246:=Tryz.func168.trans (congrArg some (by kernel_rfl))
 f283:=Tryz.func197.trans (congrArg some (by kernel_rfl))
 f284:=Tryz.func198.trans (congrArg some (by kernel_rfl))
 f285:=Tryz.func199.trans (congrArg some (by kernel_rfl))
 f286:=Tryz.func200.trans (congrArg some (by kernel_rfl))
 f317:=Tryz.func214.trans (congrArg some (by kernel_rfl))
 f318:=Tryz.func215.trans (congrArg some (by kernel_rfl))
 f319:=Tryz.func216.trans (congrArg some (by kernel_rfl))
 f320:=Tryz.func217.trans (congrArg some (by kernel_rfl))
 f337:=Tryz.func223.trans (congrArg some (by kernel_rfl))
 f338:=Tryz.func224.trans (congrArg some (by kernel_rfl))
 t0:=Tryz.underlying0
 a0:=Tryz.isAgg0
 z0:=Tryz.sizeOf0
 v0:=Tryz.zeroValue0
 t2:=Tryz.underlying2
 a2:=Tryz.isAgg2
 z2:=Tryz.sizeOf2
 v2:=Tryz.zeroValue2
 t3:=Tryz.underlying3
 a3:=Tryz.isAgg3
 z3:=Tryz.sizeOf3
 v3:=Tryz.zeroValue3
 t4:=Tryz.underlying4
 a4:=Tryz.isAgg4
 z4:=Tryz.sizeOf4
 v4:=Tryz.zeroValue4
 t5:=Tryz.underlying5
 a5:=Tryz.isAgg5
 z5:=Tryz.sizeOf5
 v5:=Tryz.zeroValue5
 t9:=Tryz.underlying9
 a9:=Tryz.isAgg9
 z9:=Tryz.sizeOf9
 v9:=Tryz.zeroValue9
 t20:=Tryz.underlying20
 a20:=Tryz.isAgg20
 z20:=Tryz.sizeOf20
 v20:=Tryz.zeroValue20
 t37:=Tryz.underlying156
 a37:=Tryz.isAgg156
 z37:=Tryz.sizeOf156
 v37:=Tryz.zeroValue156
 t46:=Tryz.underlying143
 a46:=Tryz.isAgg143
 z46:=Tryz.sizeOf143
 v46:=Tryz.zeroValue143
 t51:=Tryz.underlying176
 a51:=Tryz.isAgg176
 z51:=Tryz.sizeOf176
 v51:=Tryz.zeroValue176
 t53:=Tryz.underlying178
 a53:=Tryz.isAgg178
 z53:=Tryz.sizeOf178
 v53:=Tryz.zeroValue178
 t171:=Tryz.underlying184
 a171:=Tryz.isAgg184
 z171:=Tryz.sizeOf184
 v171:=Tryz.zeroValue184
 t173:=Tryz.underlying186
 a173:=Tryz.isAgg186
 z173:=Tryz.sizeOf186
 v173:=Tryz.zeroValue186
 t212:=Tryz.underlying199
 a212:=Tryz.isAgg199
 z212:=Tryz.sizeOf199
 v212:=Tryz.zeroValue199
 t213:=Tryz.underlying200
 a213:=Tryz.isAgg200
 z213:=Tryz.sizeOf200
 t232:=Tryz.underlying211
 a232:=Tryz.isAgg211
 z232:=Tryz.sizeOf211
 v232:=Tryz.zeroValue211
 t233:=Tryz.underlying212
 a233:=Tryz.isAgg212
 z233:=Tryz.sizeOf212
 v233:=Tryz.zeroValue212
 g17:=by kernel_rfl
 g18:=by kernel_rfl
 g19:=by kernel_rfl
 i0:=by kernel_rfl
 i2:=by kernel_rfl
 i3:=by kernel_rfl
 i4:=by kernel_rfl
 i5:=by kernel_rfl
 i9:=by kernel_rfl
 i20:=by kernel_rfl
 i37:=by kernel_rfl
 i46:=by kernel_rfl
 i51:=by kernel_rfl
 i53:=by kernel_rfl
 i171:=by kernel_rfl
 i173:=by kernel_rfl
 i212:=by kernel_rfl
 i232:=by kernel_rfl
 i233:=by kernel_rfl
 m17:=by kernel_rfl
 m18:=by kernel_rfl
 m19:=by kernel_rfl }
def Tryz.lays155_ren:Go.Shelf.Ren:=⟨fun | 155=>203 | 154=>220 | 138=>225 | 165=>169 | 143=>226 | 166=>170 | 197=>227 | 169=>171 | 195=>228 | 218=>229 | 240=>201 | 241=>202 | 219=>230 | 260=>231 | 276=>218 | 277=>219 | 217=>232 | 225=>233 | 224=>234 | 267=>235 | 266=>236 | 314=>237 | n=>n,fun | 9=>9 | 3=>3 | 4=>4 | 72=>158 | 0=>0 | 76=>162 | 105=>209 | 21=>21 | 5=>5 | 70=>155 | 20=>20 | 37=>156 | 75=>161 | 127=>188 | 164=>201 | 46=>143 | 119=>215 | 139=>218 | 138=>217 | 146=>219 | 51=>176 | 80=>164 | n=>n,fun | 1=>0 | 3=>4 | 4=>5 | n=>n⟩
theorem Tryz.lays155:Go.Proofs.Lays.n155 Tryz.prog Tryz.lays155_ren:={
 mixed:=by kernel_rfl
 f138:=Tryz.func225.trans (congrArg some (by kernel_rfl))
 f143:=Tryz.func226.trans (congrArg some (by kernel_rfl))
 f154:=Tryz.func220.trans (congrArg some (by kernel_rfl))
 f155:=Tryz.func203.trans (congrArg some (by kernel_rfl))
 f165:=Tryz.func169.trans (congrArg some (by kernel_rfl))
 f166:=Tryz.func170.trans (congrArg some (by kernel_rfl))
 f169:=Tryz.func171.trans (congrArg some (by kernel_rfl))
 f195:=Tryz.func228.trans (congrArg some (by kernel_rfl))
 f197:=Tryz.func227.trans (congrArg some (by kernel_rfl))
 f217:=Tryz.func232.trans (congrArg some (by kernel_rfl))
 f218:=Tryz.func229.trans (congrArg some (by kernel_rfl))
 f219:=Tryz.func230.trans (congrArg some (by kernel_rfl))
 f224:=Tryz.func234.trans (congrArg some (by kernel_rfl))
 f225:=Tryz.func233.trans (congrArg some (by kernel_rfl))
 f240:=Tryz.func201.trans (congrArg some (by kernel_rfl))
 f241:=Tryz.func202.trans (congrArg some (by kernel_rfl))
 f260:=Tryz.func231.trans (congrArg some (by kernel_rfl))
 f266:=Tryz.func236.trans (congrArg some (by kernel_rfl))
 f267:=Tryz.func235.trans (congrArg some (by kernel_rfl))
 f276:=Tryz.func218.trans (congrArg some (by kernel_rfl))
 f277:=Tryz.func219.trans (congrArg some (by kernel_rfl))
 f314:=Tryz.func237.trans (congrArg some (by kernel_rfl))
 t0:=Tryz.underlying0
 a0:=Tryz.isAgg0
 z0:=Tryz.sizeOf0
 v0:=Tryz.zeroValue0
 t3:=Tryz.underlying3
 a3:=Tryz.isAgg3
 z3:=Tryz.sizeOf3
 v3:=Tryz.zeroValue3
 t4:=Tryz.underlying4
 a4:=Tryz.isAgg4
 z4:=Tryz.sizeOf4
 v4:=Tryz.zeroValue4
 t5:=Tryz.underlying5
 a5:=Tryz.isAgg5
 z5:=Tryz.sizeOf5
 v5:=Tryz.zeroValue5
 t9:=Tryz.underlying9
 a9:=Tryz.isAgg9
 z9:=Tryz.sizeOf9
 v9:=Tryz.zeroValue9
 t20:=Tryz.underlying20
 a20:=Tryz.isAgg20
 z20:=Tryz.sizeOf20
 v20:=Tryz.zeroValue20
 t21:=Tryz.underlying21
 a21:=Tryz.isAgg21
 z21:=Tryz.sizeOf21
 v21:=Tryz.zeroValue21
 t37:=Tryz.underlying156
 a37:=Tryz.isAgg156
 z37:=Tryz.sizeOf156
 v37:=Tryz.zeroValue156
 t46:=Tryz.underlying143
 a46:=Tryz.isAgg143
 z46:=Tryz.sizeOf143
 v46:=Tryz.zeroValue143
 t51:=Tryz.underlying176
 a51:=Tryz.isAgg176
 z51:=Tryz.sizeOf176
 v51:=Tryz.zeroValue176
 t70:=Tryz.underlying155
 a70:=Tryz.isAgg155
 z70:=Tryz.sizeOf155
 v70:=Tryz.zeroValue155
 t72:=Tryz.underlying158
 a72:=Tryz.isAgg158
 z72:=Tryz.sizeOf158
 v72:=Tryz.zeroValue158
 t75:=Tryz.underlying161
 a75:=Tryz.isAgg161
 z75:=Tryz.sizeOf161
 v75:=Tryz.zeroValue161
 t76:=Tryz.underlying162
 a76:=Tryz.isAgg162
 z76:=Tryz.sizeOf162
 v76:=Tryz.zeroValue162
 t105:=Tryz.underlying209
 a105:=Tryz.isAgg209
 z105:=Tryz.sizeOf209
 v105:=Tryz.zeroValue209
 t119:=Tryz.underlying215
 a119:=Tryz.isAgg215
 z119:=Tryz.sizeOf215
 t127:=Tryz.underlying188
 a127:=Tryz.isAgg188
 z127:=Tryz.sizeOf188
 v127:=Tryz.zeroValue188
 t138:=Tryz.underlying217
 a138:=Tryz.isAgg217
 z138:=Tryz.sizeOf217
 v138:=Tryz.zeroValue217
 t139:=Tryz.underlying218
 a139:=Tryz.isAgg218
 z139:=Tryz.sizeOf218
 v139:=Tryz.zeroValue218
 t146:=Tryz.underlying219
 a146:=Tryz.isAgg219
 z146:=Tryz.sizeOf219
 v146:=Tryz.zeroValue219
 t164:=Tryz.underlying201
 a164:=Tryz.isAgg201
 z164:=Tryz.sizeOf201
 v164:=Tryz.zeroValue201
 g1:=by kernel_rfl
 g3:=by kernel_rfl
 g4:=by kernel_rfl }
theorem Tryz.Builder_Extra_155:Builder.Extra Tryz.prog Tryz.lays155_ren:={
 sizeBuilder:=by kernel_rfl
 liesBuilder:=by kernel_rfl
 t5:=Tryz.underlying5
 a5:=Tryz.isAgg5
 z5:=Tryz.sizeOf5
 v5:=Tryz.zeroValue5
 infoByte:=by kernel_rfl
 cellsByte:=by kernel_rfl
 sizeByte:=by kernel_rfl
 neB5:=by decide }
def Tryz.lays156_ren:Go.Shelf.Ren:=⟨fun | 156=>152 | 165=>169 | 166=>170 | 169=>171 | 240=>201 | 241=>202 | 276=>218 | 277=>219 | n=>n,fun | 31=>136 | 9=>9 | 3=>3 | 4=>4 | 0=>0 | 20=>20 | 72=>158 | 76=>162 | 70=>155 | 37=>156 | 75=>161 | 127=>188 | 164=>201 | 5=>5 | 80=>164 | n=>n,fun | n=>n⟩
theorem Tryz.lays156:Go.Proofs.Lays.n156 Tryz.prog Tryz.lays156_ren:={
 mixed:=by kernel_rfl
 f156:=Tryz.func152.trans (congrArg some (by kernel_rfl))
 f165:=Tryz.func169.trans (congrArg some (by kernel_rfl))
 f166:=Tryz.func170.trans (congrArg some (by kernel_rfl))
 f169:=Tryz.func171.trans (congrArg some (by kernel_rfl))
 f240:=Tryz.func201.trans (congrArg some (by kernel_rfl))
 f241:=Tryz.func202.trans (congrArg some (by kernel_rfl))
 f276:=Tryz.func218.trans (congrArg some (by kernel_rfl))
 f277:=Tryz.func219.trans (congrArg some (by kernel_rfl))
 t0:=Tryz.underlying0
 a0:=Tryz.isAgg0
 z0:=Tryz.sizeOf0
 v0:=Tryz.zeroValue0
 t3:=Tryz.underlying3
 a3:=Tryz.isAgg3
 z3:=Tryz.sizeOf3
 v3:=Tryz.zeroValue3
 t4:=Tryz.underlying4
 a4:=Tryz.isAgg4
 z4:=Tryz.sizeOf4
 v4:=Tryz.zeroValue4
 t9:=Tryz.underlying9
 a9:=Tryz.isAgg9
 z9:=Tryz.sizeOf9
 v9:=Tryz.zeroValue9
 t20:=Tryz.underlying20
 a20:=Tryz.isAgg20
 z20:=Tryz.sizeOf20
 v20:=Tryz.zeroValue20
 t31:=Tryz.underlying136
 a31:=Tryz.isAgg136
 z31:=Tryz.sizeOf136
 v31:=Tryz.zeroValue136
 t37:=Tryz.underlying156
 a37:=Tryz.isAgg156
 z37:=Tryz.sizeOf156
 v37:=Tryz.zeroValue156
 t70:=Tryz.underlying155
 a70:=Tryz.isAgg155
 z70:=Tryz.sizeOf155
 v70:=Tryz.zeroValue155
 t72:=Tryz.underlying158
 a72:=Tryz.isAgg158
 z72:=Tryz.sizeOf158
 v72:=Tryz.zeroValue158
 t75:=Tryz.underlying161
 a75:=Tryz.isAgg161
 z75:=Tryz.sizeOf161
 v75:=Tryz.zeroValue161
 t76:=Tryz.underlying162
 a76:=Tryz.isAgg162
 z76:=Tryz.sizeOf162
 v76:=Tryz.zeroValue162
 t127:=Tryz.underlying188
 a127:=Tryz.isAgg188
 z127:=Tryz.sizeOf188
 v127:=Tryz.zeroValue188
 t164:=Tryz.underlying201
 a164:=Tryz.isAgg201
 z164:=Tryz.sizeOf201
 v164:=Tryz.zeroValue201 }
theorem Tryz.Builder_Extra_156:Builder.Extra Tryz.prog Tryz.lays156_ren:={
 sizeBuilder:=by kernel_rfl
 liesBuilder:=by kernel_rfl
 t5:=Tryz.underlying5
 a5:=Tryz.isAgg5
 z5:=Tryz.sizeOf5
 v5:=Tryz.zeroValue5
 infoByte:=by kernel_rfl
 cellsByte:=by kernel_rfl
 sizeByte:=by kernel_rfl
 neB5:=by decide }
def Tryz.lays125_ren:Go.Shelf.Ren:=⟨fun | 125=>156 | 128=>185 | 129=>186 | n=>n,fun | 46=>143 | 3=>3 | 51=>176 | 53=>178 | 4=>4 | 5=>5 | 9=>9 | n=>n,fun | n=>n⟩
theorem Tryz.lays125:Go.Proofs.Lays.n125 Tryz.prog Tryz.lays125_ren:={
 mixed:=by kernel_rfl
 f125:=Tryz.func156.trans (congrArg some (by kernel_rfl))
 f128:=Tryz.func185.trans (congrArg some (by kernel_rfl))
 f129:=Tryz.func186.trans (congrArg some (by kernel_rfl))
 t3:=Tryz.underlying3
 a3:=Tryz.isAgg3
 z3:=Tryz.sizeOf3
 v3:=Tryz.zeroValue3
 t4:=Tryz.underlying4
 a4:=Tryz.isAgg4
 z4:=Tryz.sizeOf4
 v4:=Tryz.zeroValue4
 t5:=Tryz.underlying5
 a5:=Tryz.isAgg5
 z5:=Tryz.sizeOf5
 v5:=Tryz.zeroValue5
 t9:=Tryz.underlying9
 a9:=Tryz.isAgg9
 z9:=Tryz.sizeOf9
 v9:=Tryz.zeroValue9
 t46:=Tryz.underlying143
 a46:=Tryz.isAgg143
 z46:=Tryz.sizeOf143
 v46:=Tryz.zeroValue143
 t51:=Tryz.underlying176
 a51:=Tryz.isAgg176
 z51:=Tryz.sizeOf176
 v51:=Tryz.zeroValue176
 t53:=Tryz.underlying178
 a53:=Tryz.isAgg178
 z53:=Tryz.sizeOf178
 v53:=Tryz.zeroValue178 }
end Go.Proofs
namespace Go.Proofs.YtnolcogncjijpaaGreatDoor
open Go Go.Ab
def strings_Compare (s p:ByteArray):Bool×Int:=zCp s p
def strings_Compare_spec:Ab.Spec ty:=zu (cx:=base) (zf (zg vStr) (zf (zg vStr) aNil)) fun x=>((strings_Compare x.1 x.2.1).1,⟨[.pure (.lit (.int .i64 (strings_Compare x.1 x.2.1).2))],[]⟩)
theorem zEP:Sound Tryz.prog base 162 strings_Compare_spec:=zNi zD Go.Proofs.Tryz.lays106 Tryz.call162
end Go.Proofs.YtnolcogncjijpaaGreatDoor
namespace Go.Proofs.YtnolcogncjijpaaGreatDoor
open Go Go.Ab
def zKf:Cx ty:=mkCx base 22 [(79,zkG),(88,zlm),(125,zms),(162,strings_Compare_spec)] [] [] [] [] []
def zwt (a:Value) (b:Value):Wy0 (Int):=.bn (zep a.Kind b.Kind) fun r2=>.bn (zh4 a.Int b.Int) fun r1=>.bn (zl7 [r2,r1,(strings_Compare a.Text b.Text).2]) fun r0=>.k r0
def znW (a:Value) (b:Value):Bool×Int:=(zwt a b).fin default
def zAn (r:Int):ARes ty:=⟨[.pure (.lit (.int .i64 r))],[]⟩
def zDj:AL base (Value×Value×Unit):=zf (zg (vAgg 46)) (zf (zg (vAgg 46)) aNil)
def zsr:Ab.Spec ty:=zu zDj fun x=>((znW x.1 x.2.1).1,zAn (znW x.1 x.2.1).2)
theorem zxq:Sound Tryz.prog base 128 zsr:=
 zH (cx':=zKf) zT zD zN (zG ⟨znP,zm1,zpw,zEP,trivial⟩) Tryz.call128 Tryz.func128 (c:=body Tryz.f128) (by kernel_rfl) (zj (l:=[]) (by kernel_rfl) trivial) (sg:=⟨[.pure],[]⟩) (A:=zDj) (res:=zAn) (W:=fun x=>zwt x.1 x.2.1) (z:=default)
def zyb (zo:List Term→List Term→Bool×Int) (zt:Weighted→Weighted→Bool×Int) (zl:List (List Term)→List (List Term)→Bool×Int) (zr:List Weighted→List Weighted→Bool×Int):Cx ty:=mkCx base 51 [(38,(zdM zo)),(85,(zdN zt)),(88,zlm),(125,zms),(126,(zbg zl)),(127,(zbr zr)),(128,zsr)] [] [] [] [] []
def zk4 (zo:List Term→List Term→Bool×Int) (zt:Weighted→Weighted→Bool×Int) (zl:List (List Term)→List (List Term)→Bool×Int) (zr:List Weighted→List Weighted→Bool×Int) (a:Atom) (b:Atom):Wy0 (Int):=.bn (zep a.Kind b.Kind) fun r8=>.bn (zep a.Row.Table b.Row.Table) fun r7=>.bn (zep a.Row.Seq b.Row.Seq) fun r6=>.bn (zl a.Args b.Args) fun r5=>.bn (zep a.Func b.Func) fun r4=>.bn (zr a.Items b.Items) fun r3=>.bn (zep a.Op b.Op) fun r2=>.bn (znW a.Bound b.Bound) fun r1=>.bn (zl7 [r8,r7,r6,r5,r4,r3,r2,r1]) fun r0=>.k r0
def ziZ (zo:List Term→List Term→Bool×Int) (zt:Weighted→Weighted→Bool×Int) (zl:List (List Term)→List (List Term)→Bool×Int) (zr:List Weighted→List Weighted→Bool×Int) (a:Atom) (b:Atom):Bool×Int:=(zk4 zo zt zl zr a b).fin default
theorem zvS (zo:List Term→List Term→Bool×Int) (zt:Weighted→Weighted→Bool×Int) (zl:List (List Term)→List (List Term)→Bool×Int) (zr:List Weighted→List Weighted→Bool×Int) (zir:Sound Tryz.prog base 38 (zdM zo)) (zlc:Sound Tryz.prog base 85 (zdN zt)) (zeQ:Sound Tryz.prog base 126 (zbg zl)) (zfX:Sound Tryz.prog base 127 (zbr zr)):Sound Tryz.prog base 73 (zgg (ziZ zo zt zl zr)):=
 zH (cx':=(zyb zo zt zl zr)) zT zD zN (zG ⟨zir,zlc,zm1,zpw,zeQ,zfX,zxq,trivial⟩) Tryz.call73 Tryz.func73 (c:=body Tryz.f73) (by kernel_rfl) (zj (l:=[]) (by kernel_rfl) trivial) (sg:=⟨[.pure],[]⟩) (A:=zrp) (res:=zpP) (W:=fun x=>zk4 zo zt zl zr x.1 x.2.1) (z:=default)
def zwC (zbZ:Atom→Atom→Bool×Int):Cx ty:=mkCx base 17 [(73,(zgg zbZ)),(88,zlm),(125,zms)] [] [] [] [] []
def zjV (zbZ:Atom→Atom→Bool×Int) (a:Factor) (b:Factor):Wy0 (Int):=.bn (zbZ (Atom.mk a.Atom.Kind a.Atom.Row a.Atom.Args a.Atom.Func a.Atom.Items a.Atom.Op a.Atom.Bound) (Atom.mk b.Atom.Kind b.Atom.Row b.Atom.Args b.Atom.Func b.Atom.Items b.Atom.Op b.Atom.Bound)) fun r2=>.bn (zep a.Exp b.Exp) fun r1=>.bn (zl7 [r2,r1]) fun r0=>.k r0
def zh8 (zbZ:Atom→Atom→Bool×Int) (a:Factor) (b:Factor):Bool×Int:=(zjV zbZ a b).fin default
theorem ztY (zbZ:Atom→Atom→Bool×Int) (zyK:Sound Tryz.prog base 73 (zgg zbZ)):Sound Tryz.prog base 124 (zec (zh8 zbZ)):=
 zH (cx':=(zwC zbZ)) zT zD zN (zG ⟨zyK,zm1,zpw,trivial⟩) Tryz.call124 Tryz.func124 (c:=body Tryz.f124) (by kernel_rfl) (zj (l:=[]) (by kernel_rfl) trivial) (sg:=⟨[.pure],[]⟩) (A:=zpW) (res:=zoO) (W:=fun x=>zjV zbZ x.1 x.2.1) (z:=default)
def zx1 (zo:List Term→List Term→Bool×Int):Cx ty:=mkCx base 17 [(38,(zdM zo)),(88,zlm),(128,zsr)] [] [] [] [] []
def zkS (zo:List Term→List Term→Bool×Int) (a:Weighted) (b:Weighted):Wy0 (Int):=.bn (znW a.Value b.Value) fun r2=>.bn (zo a.Ann b.Ann) fun r1=>.bn (zl7 [r2,r1]) fun r0=>.k r0
def ziW (zo:List Term→List Term→Bool×Int) (a:Weighted) (b:Weighted):Bool×Int:=(zkS zo a b).fin default
theorem zvR (zo:List Term→List Term→Bool×Int) (zir:Sound Tryz.prog base 38 (zdM zo)):Sound Tryz.prog base 85 (zdN (ziW zo)):=
 zH (cx':=(zx1 zo)) zT zD zN (zG ⟨zir,zm1,zxq,trivial⟩) Tryz.call85 Tryz.func85 (c:=body Tryz.f85) (by kernel_rfl) (zj (l:=[]) (by kernel_rfl) trivial) (sg:=⟨[.pure],[]⟩) (A:=zrw) (res:=zp1) (W:=fun x=>zkS zo x.1 x.2.1) (z:=default)
def zxQ (zB:List Factor→List Factor→Bool×Int) (zn:Factor→Factor→Bool×Int):Cx ty:=mkCx base 10 [(123,(zbE zB)),(124,(zec zn))] [] [] [] [] []
def zk3 (zB:List Factor→List Factor→Bool×Int) (zn:Factor→Factor→Bool×Int) (a:Term) (b:Term):Wy0 (Int):=.bn (zB a.Factors b.Factors) fun r0=>.k r0
def ziV (zB:List Factor→List Factor→Bool×Int) (zn:Factor→Factor→Bool×Int) (a:Term) (b:Term):Bool×Int:=(zk3 zB zn a b).fin default
theorem zvU (zB:List Factor→List Factor→Bool×Int) (zn:Factor→Factor→Bool×Int) (zh1:Sound Tryz.prog base 123 (zbE zB)) (zj1:Sound Tryz.prog base 124 (zec zn)):Sound Tryz.prog base 71 (zf0 (ziV zB zn)):=
 zH (cx':=(zxQ zB zn)) zT zD zN (zG ⟨zh1,zj1,trivial⟩) Tryz.call71 Tryz.func71 (c:=body Tryz.f71) (by kernel_rfl) (zj (l:=[]) (by kernel_rfl) trivial) (sg:=⟨[.pure],[]⟩) (A:=zrA) (res:=zpH) (W:=fun x=>zk3 zB zn x.1 x.2.1) (z:=default)
abbrev ttTslicesCompareFuncLapiAnnotationLapiAnnotationapiAnnotationapiAnnotation0:=List (List Term)×List (List Term)×Unit×List (List Term)×Int×Int×Unit
abbrev ttTslicesCompareFuncLapiAnnotationLapiAnnotationapiAnnotationapiAnnotation1:=Int⊕(List (List Term)×List (List Term))
def zeJ (zo:List Term→List Term→Bool×Int) (s1:List (List Term)) (s2:List (List Term)) (t11:List (List Term)) (t12:Int) (t13:Int):Wy ttTslicesCompareFuncLapiAnnotationLapiAnnotationapiAnnotationapiAnnotation0 (Unit) ttTslicesCompareFuncLapiAnnotationLapiAnnotationapiAnnotationapiAnnotation1:=.i (decide (t13<t12)) (.i (decide (0≤t13)&&decide (t13<Int.ofNat t11.length)) (.i (decide (t13≥Int.ofNat s2.length)) (.k (.inl 1)) (.i (decide (0≤t13)&&decide (t13<Int.ofNat s2.length)) (.bn (zo (t11.getD t13.toNat default) (s2.getD t13.toNat default)) fun r0=>.i (r0 != 0) (.k (.inl (r0))) (.h (s1,s2,(),t11,t12,(IntKind.i64.wrap (t13+1)),()) ())) .d)) .d) (.k (.inr (s1,s2)))
def zbx (zo:List Term→List Term→Bool×Int) (x:ttTslicesCompareFuncLapiAnnotationLapiAnnotationapiAnnotationapiAnnotation0) (y:Unit):Wy ttTslicesCompareFuncLapiAnnotationLapiAnnotationapiAnnotationapiAnnotation0 (Unit) ttTslicesCompareFuncLapiAnnotationLapiAnnotationapiAnnotationapiAnnotation1:=zeJ zo x.1 x.2.1 x.2.2.2.1 x.2.2.2.2.1 x.2.2.2.2.2.1
def zeI (zo:List Term→List Term→Bool×Int) (n:Nat) (s1:List (List Term)) (s2:List (List Term)) (t11:List (List Term)) (t12:Int) (t13:Int):Bool×ttTslicesCompareFuncLapiAnnotationLapiAnnotationapiAnnotationapiAnnotation1:=zQ (zbx zo) (.inl default) n (s1,s2,(),t11,t12,t13,()) ()
def zcg (r:ttTslicesCompareFuncLapiAnnotationLapiAnnotationapiAnnotationapiAnnotation1):LTree ty:=.ite (isL r) (.done .ret [.lit (.int .i64 (getL r))] []) (.done (.exit 0) [.sl 23 (getR r).1,.sl 23 (getR r).2] [])
def zci:LL ty ttTslicesCompareFuncLapiAnnotationLapiAnnotationapiAnnotationapiAnnotation0:=zb (lSl 23) (zb (lSl 23) (zb (lFn 38 (zX)) (zb (lSl 23) (zb (lInt .i64) (zb (lInt .i64) zX)))))
def zck:BL ty (Unit):=bNil
def zcf (x:ttTslicesCompareFuncLapiAnnotationLapiAnnotationapiAnnotationapiAnnotation0) (y:Unit):Nat:=(x.1.length+x.2.1.length+x.2.2.2.1.length+Int.toNat x.2.2.2.2.1+Int.toNat x.2.2.2.2.2.1+1)
def zcm (zo:List Term→List Term→Bool×Int):Cx ty:=mkCx base 39 [(38,(zdM zo))] [] [(2,[(0,.keep),(1,.keep),(2,.keep),(11,.keep),(12,.keep),(13,.keep)])] [(2,1,[(0,.keep),(1,.keep)]),(2,0,[(6,.keep)])] [(2,spW zci zck (zbx zo) (.inl default) zcg zcf)] []
theorem zeF (zo:List Term→List Term→Bool×Int):zbv (zcm zo) (lp (body Tryz.f126) 0):=zbc (id:=2) (V:=zci) (B:=zck) (W:=zbx zo) (z:=.inl default) (tr:=zcg) (m:=zcf)
def zcp (zo:List Term→List Term→Bool×Int) (s1:List (List Term)) (s2:List (List Term)):Wy0 (Int):=.bn (zeI zo (s1.length+s2.length+s1.length+(Int.ofNat s1.length).toNat +Int.toNat 0+1) s1 s2 s1 (Int.ofNat s1.length) 0) fun r2=>.i (isL r2) (.k (getL r2)) (.i (decide (Int.ofNat (getR r2).1.length<Int.ofNat (getR r2).2.length)) (.k (-1:Int)) (.k 0))
def zbf (zo:List Term→List Term→Bool×Int) (s1:List (List Term)) (s2:List (List Term)):Bool×Int:=(zcp zo s1 s2).fin default
theorem zev (zo:List Term→List Term→Bool×Int) (zir:Sound Tryz.prog base 38 (zdM zo)):Sound Tryz.prog base 126 (zbg (zbf zo)):=
 zH (cx':=(zcm zo)) zT zD zN (zG ⟨zir,trivial⟩) Tryz.call126 Tryz.func126 (c:=body Tryz.f126) (by kernel_rfl) (zj (l:=[lp (body Tryz.f126) 0]) (by kernel_rfl) ⟨zeF zo,trivial⟩) (sg:=⟨[.pure],[]⟩) (A:=zct) (res:=zcr) (W:=fun x=>zcp zo x.1 x.2.1) (z:=default)
abbrev ttTslicesCompareFuncLapiFactorLapiFactorapiFactorapiFactor0:=List Factor×List Factor×Unit×List Factor×Int×Int×Unit
abbrev ttTslicesCompareFuncLapiFactorLapiFactorapiFactorapiFactor1:=Int⊕(List Factor×List Factor)
def zdz (zn:Factor→Factor→Bool×Int) (s1:List Factor) (s2:List Factor) (t11:List Factor) (t12:Int) (t13:Int):Wy ttTslicesCompareFuncLapiFactorLapiFactorapiFactorapiFactor0 (Unit) ttTslicesCompareFuncLapiFactorLapiFactorapiFactorapiFactor1:=.i (decide (t13<t12)) (.i (decide (0≤t13)&&decide (t13<Int.ofNat t11.length)) (.i (decide (t13≥Int.ofNat s2.length)) (.k (.inl 1)) (.i (decide (0≤t13)&&decide (t13<Int.ofNat s2.length)) (.bn (zn (FactorOf.mk (Atom.mk (t11.getD t13.toNat default).Atom.Kind (t11.getD t13.toNat default).Atom.Row (t11.getD t13.toNat default).Atom.Args (t11.getD t13.toNat default).Atom.Func (t11.getD t13.toNat default).Atom.Items (t11.getD t13.toNat default).Atom.Op (t11.getD t13.toNat default).Atom.Bound) (t11.getD t13.toNat default).Exp) (FactorOf.mk (Atom.mk (s2.getD t13.toNat default).Atom.Kind (s2.getD t13.toNat default).Atom.Row (s2.getD t13.toNat default).Atom.Args (s2.getD t13.toNat default).Atom.Func (s2.getD t13.toNat default).Atom.Items (s2.getD t13.toNat default).Atom.Op (s2.getD t13.toNat default).Atom.Bound) (s2.getD t13.toNat default).Exp)) fun r0=>.i (r0 != 0) (.k (.inl (r0))) (.h (s1,s2,(),t11,t12,(IntKind.i64.wrap (t13+1)),()) ())) .d)) .d) (.k (.inr (s1,s2)))
def zbd (zn:Factor→Factor→Bool×Int) (x:ttTslicesCompareFuncLapiFactorLapiFactorapiFactorapiFactor0) (y:Unit):Wy ttTslicesCompareFuncLapiFactorLapiFactorapiFactorapiFactor0 (Unit) ttTslicesCompareFuncLapiFactorLapiFactorapiFactorapiFactor1:=zdz zn x.1 x.2.1 x.2.2.2.1 x.2.2.2.2.1 x.2.2.2.2.2.1
def zdv (zn:Factor→Factor→Bool×Int) (n:Nat) (s1:List Factor) (s2:List Factor) (t11:List Factor) (t12:Int) (t13:Int):Bool×ttTslicesCompareFuncLapiFactorLapiFactorapiFactorapiFactor1:=zQ (zbd zn) (.inl default) n (s1,s2,(),t11,t12,t13,()) ()
def zdq (r:ttTslicesCompareFuncLapiFactorLapiFactorapiFactorapiFactor1):LTree ty:=.ite (isL r) (.done .ret [.lit (.int .i64 (getL r))] []) (.done (.exit 0) [.sl 50 (getR r).1,.sl 50 (getR r).2] [])
def zdy:LL ty ttTslicesCompareFuncLapiFactorLapiFactorapiFactorapiFactor0:=zb (lSl 50) (zb (lSl 50) (zb (lFn 124 (zX)) (zb (lSl 50) (zb (lInt .i64) (zb (lInt .i64) zX)))))
def zdA:BL ty (Unit):=bNil
def zdt (x:ttTslicesCompareFuncLapiFactorLapiFactorapiFactorapiFactor0) (y:Unit):Nat:=(x.1.length+x.2.1.length+x.2.2.2.1.length+Int.toNat x.2.2.2.2.1+Int.toNat x.2.2.2.2.2.1+1)
def zdw (zn:Factor→Factor→Bool×Int):Cx ty:=mkCx base 39 [(124,(zec zn))] [] [(2,[(0,.keep),(1,.keep),(2,.keep),(11,.keep),(12,.keep),(13,.keep)])] [(2,1,[(0,.keep),(1,.keep)]),(2,0,[(6,.keep)])] [(2,spW zdy zdA (zbd zn) (.inl default) zdq zdt)] []
theorem zhB (zn:Factor→Factor→Bool×Int):zbv (zdw zn) (lp (body Tryz.f123) 0):=zbc (id:=2) (V:=zdy) (B:=zdA) (W:=zbd zn) (z:=.inl default) (tr:=zdq) (m:=zdt)
def zb4 (zn:Factor→Factor→Bool×Int) (s1:List Factor) (s2:List Factor):Wy0 (Int):=.bn (zdv zn (s1.length+s2.length+s1.length+(Int.ofNat s1.length).toNat +Int.toNat 0+1) s1 s2 s1 (Int.ofNat s1.length) 0) fun r2=>.i (isL r2) (.k (getL r2)) (.i (decide (Int.ofNat (getR r2).1.length<Int.ofNat (getR r2).2.length)) (.k (-1:Int)) (.k 0))
def zbj (zn:Factor→Factor→Bool×Int) (s1:List Factor) (s2:List Factor):Bool×Int:=(zb4 zn s1 s2).fin default
theorem zg8 (zn:Factor→Factor→Bool×Int) (zj1:Sound Tryz.prog base 124 (zec zn)):Sound Tryz.prog base 123 (zbE (zbj zn)):=
 zH (cx':=(zdw zn)) zT zD zN (zG ⟨zj1,trivial⟩) Tryz.call123 Tryz.func123 (c:=body Tryz.f123) (by kernel_rfl) (zj (l:=[lp (body Tryz.f123) 0]) (by kernel_rfl) ⟨zhB zn,trivial⟩) (sg:=⟨[.pure],[]⟩) (A:=zdS) (res:=zdE) (W:=fun x=>zb4 zn x.1 x.2.1) (z:=default)
abbrev ttTslicesCompareFuncLapiWeightedLapiWeightedapiWeightedapiWeighted0:=List Weighted×List Weighted×Unit×List Weighted×Int×Int×Unit
abbrev ttTslicesCompareFuncLapiWeightedLapiWeightedapiWeightedapiWeighted1:=Int⊕(List Weighted×List Weighted)
def zfE (zt:Weighted→Weighted→Bool×Int) (s1:List Weighted) (s2:List Weighted) (t11:List Weighted) (t12:Int) (t13:Int):Wy ttTslicesCompareFuncLapiWeightedLapiWeightedapiWeightedapiWeighted0 (Unit) ttTslicesCompareFuncLapiWeightedLapiWeightedapiWeightedapiWeighted1:=.i (decide (t13<t12)) (.i (decide (0≤t13)&&decide (t13<Int.ofNat t11.length)) (.i (decide (t13≥Int.ofNat s2.length)) (.k (.inl 1)) (.i (decide (0≤t13)&&decide (t13<Int.ofNat s2.length)) (.bn (zt (t11.getD t13.toNat default) (s2.getD t13.toNat default)) fun r0=>.i (r0 != 0) (.k (.inl (r0))) (.h (s1,s2,(),t11,t12,(IntKind.i64.wrap (t13+1)),()) ())) .d)) .d) (.k (.inr (s1,s2)))
def zbI (zt:Weighted→Weighted→Bool×Int) (x:ttTslicesCompareFuncLapiWeightedLapiWeightedapiWeightedapiWeighted0) (y:Unit):Wy ttTslicesCompareFuncLapiWeightedLapiWeightedapiWeightedapiWeighted0 (Unit) ttTslicesCompareFuncLapiWeightedLapiWeightedapiWeightedapiWeighted1:=zfE zt x.1 x.2.1 x.2.2.2.1 x.2.2.2.2.1 x.2.2.2.2.2.1
def zfI (zt:Weighted→Weighted→Bool×Int) (n:Nat) (s1:List Weighted) (s2:List Weighted) (t11:List Weighted) (t12:Int) (t13:Int):Bool×ttTslicesCompareFuncLapiWeightedLapiWeightedapiWeightedapiWeighted1:=zQ (zbI zt) (.inl default) n (s1,s2,(),t11,t12,t13,()) ()
def zcF (r:ttTslicesCompareFuncLapiWeightedLapiWeightedapiWeightedapiWeighted1):LTree ty:=.ite (isL r) (.done .ret [.lit (.int .i64 (getL r))] []) (.done (.exit 0) [.sl 52 (getR r).1,.sl 52 (getR r).2] [])
def zcL:LL ty ttTslicesCompareFuncLapiWeightedLapiWeightedapiWeightedapiWeighted0:=zb (lSl 52) (zb (lSl 52) (zb (lFn 85 (zX)) (zb (lSl 52) (zb (lInt .i64) (zb (lInt .i64) zX)))))
def zcK:BL ty (Unit):=bNil
def zcG (x:ttTslicesCompareFuncLapiWeightedLapiWeightedapiWeightedapiWeighted0) (y:Unit):Nat:=(x.1.length+x.2.1.length+x.2.2.2.1.length+Int.toNat x.2.2.2.2.1+Int.toNat x.2.2.2.2.2.1+1)
def zcM (zt:Weighted→Weighted→Bool×Int):Cx ty:=mkCx base 39 [(85,(zdN zt))] [] [(2,[(0,.keep),(1,.keep),(2,.keep),(11,.keep),(12,.keep),(13,.keep)])] [(2,1,[(0,.keep),(1,.keep)]),(2,0,[(6,.keep)])] [(2,spW zcL zcK (zbI zt) (.inl default) zcF zcG)] []
theorem zfx (zt:Weighted→Weighted→Bool×Int):zbv (zcM zt) (lp (body Tryz.f127) 0):=zbc (id:=2) (V:=zcL) (B:=zcK) (W:=zbI zt) (z:=.inl default) (tr:=zcF) (m:=zcG)
def zcV (zt:Weighted→Weighted→Bool×Int) (s1:List Weighted) (s2:List Weighted):Wy0 (Int):=.bn (zfI zt (s1.length+s2.length+s1.length+(Int.ofNat s1.length).toNat +Int.toNat 0+1) s1 s2 s1 (Int.ofNat s1.length) 0) fun r2=>.i (isL r2) (.k (getL r2)) (.i (decide (Int.ofNat (getR r2).1.length<Int.ofNat (getR r2).2.length)) (.k (-1:Int)) (.k 0))
def zbp (zt:Weighted→Weighted→Bool×Int) (s1:List Weighted) (s2:List Weighted):Bool×Int:=(zcV zt s1 s2).fin default
theorem zfg (zt:Weighted→Weighted→Bool×Int) (zlc:Sound Tryz.prog base 85 (zdN zt)):Sound Tryz.prog base 127 (zbr (zbp zt)):=
 zH (cx':=(zcM zt)) zT zD zN (zG ⟨zlc,trivial⟩) Tryz.call127 Tryz.func127 (c:=body Tryz.f127) (by kernel_rfl) (zj (l:=[lp (body Tryz.f127) 0]) (by kernel_rfl) ⟨zfx zt,trivial⟩) (sg:=⟨[.pure],[]⟩) (A:=zc3) (res:=zcX) (W:=fun x=>zcV zt x.1 x.2.1) (z:=default)
abbrev ttTslicesCompareFuncapiAnnotationapiAnnotationapiTermapiTerm0:=List Term×List Term×Unit×List Term×Int×Int×Unit
abbrev ttTslicesCompareFuncapiAnnotationapiAnnotationapiTermapiTerm1:=Int⊕(List Term×List Term)
def zhf (zA:Term→Term→Bool×Int) (s1:List Term) (s2:List Term) (t11:List Term) (t12:Int) (t13:Int):Wy ttTslicesCompareFuncapiAnnotationapiAnnotationapiTermapiTerm0 (Unit) ttTslicesCompareFuncapiAnnotationapiAnnotationapiTermapiTerm1:=.i (decide (t13<t12)) (.i (decide (0≤t13)&&decide (t13<Int.ofNat t11.length)) (.i (decide (t13≥Int.ofNat s2.length)) (.k (.inl 1)) (.i (decide (0≤t13)&&decide (t13<Int.ofNat s2.length)) (.bn (zA (t11.getD t13.toNat default) (s2.getD t13.toNat default)) fun r0=>.i (r0 != 0) (.k (.inl (r0))) (.h (s1,s2,(),t11,t12,(IntKind.i64.wrap (t13+1)),()) ())) .d)) .d) (.k (.inr (s1,s2)))
def zbR (zA:Term→Term→Bool×Int) (x:ttTslicesCompareFuncapiAnnotationapiAnnotationapiTermapiTerm0) (y:Unit):Wy ttTslicesCompareFuncapiAnnotationapiAnnotationapiTermapiTerm0 (Unit) ttTslicesCompareFuncapiAnnotationapiAnnotationapiTermapiTerm1:=zhf zA x.1 x.2.1 x.2.2.2.1 x.2.2.2.2.1 x.2.2.2.2.2.1
def zhh (zA:Term→Term→Bool×Int) (n:Nat) (s1:List Term) (s2:List Term) (t11:List Term) (t12:Int) (t13:Int):Bool×ttTslicesCompareFuncapiAnnotationapiAnnotationapiTermapiTerm1:=zQ (zbR zA) (.inl default) n (s1,s2,(),t11,t12,t13,()) ()
def zde (r:ttTslicesCompareFuncapiAnnotationapiAnnotationapiTermapiTerm1):LTree ty:=.ite (isL r) (.done .ret [.lit (.int .i64 (getL r))] []) (.done (.exit 0) [.sl 42 (getR r).1,.sl 42 (getR r).2] [])
def zdj:LL ty ttTslicesCompareFuncapiAnnotationapiAnnotationapiTermapiTerm0:=zb (lSl 42) (zb (lSl 42) (zb (lFn 87 (zX)) (zb (lSl 42) (zb (lInt .i64) (zb (lInt .i64) zX)))))
def zdi:BL ty (Unit):=bNil
def zdc (x:ttTslicesCompareFuncapiAnnotationapiAnnotationapiTermapiTerm0) (y:Unit):Nat:=(x.1.length+x.2.1.length+x.2.2.2.1.length+Int.toNat x.2.2.2.2.1+Int.toNat x.2.2.2.2.2.1+1)
def zdk (zA:Term→Term→Bool×Int):Cx ty:=mkCx base 39 [(87,(zfa zA))] [] [(2,[(0,.keep),(1,.keep),(2,.keep),(11,.keep),(12,.keep),(13,.keep)])] [(2,1,[(0,.keep),(1,.keep)]),(2,0,[(6,.keep)])] [(2,spW zdj zdi (zbR zA) (.inl default) zde zdc)] []
theorem zg0 (zA:Term→Term→Bool×Int):zbv (zdk zA) (lp (body Tryz.f86) 0):=zbc (id:=2) (V:=zdj) (B:=zdi) (W:=zbR zA) (z:=.inl default) (tr:=zde) (m:=zdc)
def zds (zA:Term→Term→Bool×Int) (s1:List Term) (s2:List Term):Wy0 (Int):=.bn (zhh zA (s1.length+s2.length+s1.length+(Int.ofNat s1.length).toNat +Int.toNat 0+1) s1 s2 s1 (Int.ofNat s1.length) 0) fun r2=>.i (isL r2) (.k (getL r2)) (.i (decide (Int.ofNat (getR r2).1.length<Int.ofNat (getR r2).2.length)) (.k (-1:Int)) (.k 0))
def zbz (zA:Term→Term→Bool×Int) (s1:List Term) (s2:List Term):Bool×Int:=(zds zA s1 s2).fin default
theorem zgm (zA:Term→Term→Bool×Int) (zl6:Sound Tryz.prog base 87 (zfa zA)):Sound Tryz.prog base 86 (zby (zbz zA)):=
 zH (cx':=(zdk zA)) zT zD zN (zG ⟨zl6,trivial⟩) Tryz.call86 Tryz.func86 (c:=body Tryz.f86) (by kernel_rfl) (zj (l:=[lp (body Tryz.f86) 0]) (by kernel_rfl) ⟨zg0 zA,trivial⟩) (sg:=⟨[.pure],[]⟩) (A:=zdD) (res:=zdp) (W:=fun x=>zds zA x.1 x.2.1) (z:=default)
def zbQ:Nat→(List Term→List Term→Bool×Int)×(Term→Term→Bool×Int)×(Term→Term→Bool×Int)×(Factor→Factor→Bool×Int)×(Atom→Atom→Bool×Int)×(Weighted→Weighted→Bool×Int)×(List Term→List Term→Bool×Int)×(List Factor→List Factor→Bool×Int)×(List (List Term)→List (List Term)→Bool×Int)×(List Weighted→List Weighted→Bool×Int)
 | 0=>(fun _ _=>(false,default),fun _ _=>(false,default),fun _ _=>(false,default),fun _ _=>(false,default),fun _ _=>(false,default),fun _ _=>(false,default),fun _ _=>(false,default),fun _ _=>(false,default),fun _ _=>(false,default),fun _ _=>(false,default))
 | n+1=>(zl9 ((zbQ n).2.2.2.2.2.2.1) ((zbQ n).2.1),zj7 ((zbQ n).2.2.1),ziV ((zbQ n).2.2.2.2.2.2.2.1) ((zbQ n).2.2.2.1),zh8 ((zbQ n).2.2.2.2.1),ziZ ((zbQ n).1) ((zbQ n).2.2.2.2.2.1) ((zbQ n).2.2.2.2.2.2.2.2.1) ((zbQ n).2.2.2.2.2.2.2.2.2),ziW ((zbQ n).1),zbz ((zbQ n).2.1),zbj ((zbQ n).2.2.2.1),zbf ((zbQ n).1),zbp ((zbQ n).2.2.2.2.2.1))
def zfh (n:Nat):List Term→List Term→Bool×Int:=(zbQ n).1
def zhP (n:Nat):Term→Term→Bool×Int:=(zbQ n).2.1
def zgh (n:Nat):Term→Term→Bool×Int:=(zbQ n).2.2.1
def ze2 (n:Nat):Factor→Factor→Bool×Int:=(zbQ n).2.2.2.1
def zf7 (n:Nat):Atom→Atom→Bool×Int:=(zbQ n).2.2.2.2.1
def zeA (n:Nat):Weighted→Weighted→Bool×Int:=(zbQ n).2.2.2.2.2.1
def zbA (n:Nat):List Term→List Term→Bool×Int:=(zbQ n).2.2.2.2.2.2.1
def zbC (n:Nat):List Factor→List Factor→Bool×Int:=(zbQ n).2.2.2.2.2.2.2.1
def zbe (n:Nat):List (List Term)→List (List Term)→Bool×Int:=(zbQ n).2.2.2.2.2.2.2.2.1
def zbq (n:Nat):List Weighted→List Weighted→Bool×Int:=(zbQ n).2.2.2.2.2.2.2.2.2
theorem zCQ (n:Nat):zfh (n+1)=zl9 (zbA n) (zhP n):=rfl
theorem zz3 (n:Nat):zhP (n+1)=zj7 (zgh n):=rfl
theorem zxO (n:Nat):zgh (n+1)=ziV (zbC n) (ze2 n):=rfl
theorem zv5 (n:Nat):ze2 (n+1)=zh8 (zf7 n):=rfl
theorem zxK (n:Nat):zf7 (n+1)=ziZ (zfh n) (zeA n) (zbe n) (zbq n):=rfl
theorem zx9 (n:Nat):zeA (n+1)=ziW (zfh n):=rfl
theorem zhg (n:Nat):zbA (n+1)=zbz (zhP n):=rfl
theorem zhK (n:Nat):zbC (n+1)=zbj (ze2 n):=rfl
theorem zeL (n:Nat):zbe (n+1)=zbf (zfh n):=rfl
theorem zfG (n:Nat):zbq (n+1)=zbp (zeA n):=rfl
theorem zqT:∀ n,Sound Tryz.prog base 38 (zdM (zfh n))∧Sound Tryz.prog base 87 (zfa (zhP n))∧Sound Tryz.prog base 71 (zf0 (zgh n))∧Sound Tryz.prog base 124 (zec (ze2 n))∧Sound Tryz.prog base 73 (zgg (zf7 n))∧Sound Tryz.prog base 85 (zdN (zeA n))∧Sound Tryz.prog base 86 (zby (zbA n))∧Sound Tryz.prog base 123 (zbE (zbC n))∧Sound Tryz.prog base 126 (zbg (zbe n))∧Sound Tryz.prog base 127 (zbr (zbq n))
 | 0=>⟨zbH Tryz.call38 (fun _=>rfl),zbH Tryz.call87 (fun _=>rfl),zbH Tryz.call71 (fun _=>rfl),zbH Tryz.call124 (fun _=>rfl),zbH Tryz.call73 (fun _=>rfl),zbH Tryz.call85 (fun _=>rfl),zbH Tryz.call86 (fun _=>rfl),zbH Tryz.call123 (fun _=>rfl),zbH Tryz.call126 (fun _=>rfl),zbH Tryz.call127 (fun _=>rfl)⟩
 | n+1=>by
  have ih:=zqT n
  exact ⟨zzK _ _ (ih.2.2.2.2.2.2.1) (ih.2.1),zw3 _ (ih.2.2.1),zvU _ _ (ih.2.2.2.2.2.2.2.1) (ih.2.2.2.1),ztY _ (ih.2.2.2.2.1),zvS _ _ _ _ (ih.1) (ih.2.2.2.2.2.1) (ih.2.2.2.2.2.2.2.2.1) (ih.2.2.2.2.2.2.2.2.2),zvR _ (ih.1),zgm _ (ih.2.1),zg8 _ (ih.2.2.2.1),zev _ (ih.1),zfg _ (ih.2.2.2.2.2.1)⟩
def zsn:List Term→List Term→Bool×Int:=zfh 1000
def annotation_Compare_spec:Ab.Spec ty:=zdM zsn
theorem zCA:Sound Tryz.prog base 38 annotation_Compare_spec:=(zqT 1000).1
def zbG:Term→Term→Bool×Int:=zgh 1000
def annotation_compareLists_spec:Ab.Spec ty:=zf0 zbG
theorem zjX:Sound Tryz.prog base 71 annotation_compareLists_spec:=(zqT 1000).2.2.1
def zhG:Atom→Atom→Bool×Int:=zf7 1000
def annotation_compareAtoms_spec:Ab.Spec ty:=zgg zhG
theorem zoI:Sound Tryz.prog base 73 annotation_compareAtoms_spec:=(zqT 1000).2.2.2.2.1
def zZ:Weighted→Weighted→Bool×Int:=zeA 1000
def annotation_compareItems_spec:Ab.Spec ty:=zdN zZ
theorem zgJ:Sound Tryz.prog base 85 annotation_compareItems_spec:=(zqT 1000).2.2.2.2.2.1
def zv1 (r:Bool):ARes ty:=⟨[.pure (.lit (.bool r))],[]⟩
def zyR:AL base (List Term×Unit):=zf (zg (vSl 42)) aNil
def zgT (F:List Term→Bool×Bool):Ab.Spec ty:=zu zyR fun x=>((F x.1).1,zv1 (F x.1).2)
def zcb (r:Bool):ARes ty:=⟨[.pure (.lit (.bool r))],[]⟩
def zt1:AL base (Atom×Unit):=zf (zg (vAgg 48)) aNil
def zkM (F:Atom→Bool×Bool):Ab.Spec ty:=zu zt1 fun x=>((F x.1).1,zcb (F x.1).2)
def zpJ (r:Bool):ARes ty:=⟨[.pure (.lit (.bool r))],[]⟩
def zrH:AL base (List Term×Unit):=zf (zg (vSl 42)) aNil
def zcY (F:List Term→Bool×Bool):Ab.Spec ty:=zu zrH fun x=>((F x.1).1,zpJ (F x.1).2)
def zp2 (r:Bool):ARes ty:=⟨[.pure (.lit (.bool r))],[]⟩
def zrO:AL base (Weighted×Unit):=zf (zg (vAgg 52)) aNil
def zc1 (F:Weighted→Bool×Bool):Ab.Spec ty:=zu zrO fun x=>((F x.1).1,zp2 (F x.1).2)
def ze8 (r:Int):ARes ty:=⟨[.pure (.lit (.int .i64 r))],[]⟩
def zfv:AL base (List (List Term)×Unit×Unit):=zf (zg (vSl 23)) (zf (zg (vFn 130 vNil)) aNil)
def zcd (F:List (List Term)→Bool×Int):Ab.Spec ty:=zu zfv fun x=>((F x.1).1,ze8 (F x.1).2)
def zeH (r:Bool):ARes ty:=⟨[.pure (.lit (.bool r))],[]⟩
def zeZ:AL base (List (List Term)×Unit×Unit):=zf (zg (vSl 23)) (zf (zg (vFn 130 vNil)) aNil)
def zb0 (F:List (List Term)→Bool×Bool):Ab.Spec ty:=zu zeZ fun x=>((F x.1).1,zeH (F x.1).2)
def zgj (r:Int):ARes ty:=⟨[.pure (.lit (.int .i64 r))],[]⟩
def zhb:AL base (List Weighted×Unit×Unit):=zf (zg (vSl 52)) (zf (zg (vFn 131 vNil)) aNil)
def zcA (F:List Weighted→Bool×Int):Ab.Spec ty:=zu zhb fun x=>((F x.1).1,zgj (F x.1).2)
def zfl (r:Bool):ARes ty:=⟨[.pure (.lit (.bool r))],[]⟩
def zfJ:AL base (List Weighted×Unit×Unit):=zf (zg (vSl 52)) (zf (zg (vFn 131 vNil)) aNil)
def zcj (F:List Weighted→Bool×Bool):Ab.Spec ty:=zu zfJ fun x=>((F x.1).1,zfl (F x.1).2)
def zBQ:Cx ty:=mkCx base 11 [] [] [] [] [] []
def znL (x_:Atom):Wy0 (Bool):=.i (x_.Kind==3) (.k true) (.k (x_.Kind==4))
def zeN (x_:Atom):Bool×Bool:=(znL x_).fin default
def zrI (r:Bool):ARes ty:=⟨[.pure (.lit (.bool r))],[]⟩
def zto:AL base (Atom×Unit):=zf (zg (vAgg 48)) aNil
def ziz:Ab.Spec ty:=zu zto fun x=>((zeN x.1).1,zrI (zeN x.1).2)
theorem zk8:Sound Tryz.prog base 72 ziz:=
 zH (cx':=zBQ) zT zD zN (zG trivial) Tryz.call72 Tryz.func72 (c:=body Tryz.f72) (by kernel_rfl) (zj (l:=[]) (by kernel_rfl) trivial) (sg:=⟨[.pure],[]⟩) (A:=zto) (res:=zrI) (W:=fun x=>znL x.1) (z:=default)
def zxf (r:Int):ARes ty:=⟨[.pure (.lit (.int .i64 r))],[]⟩
def zAF:AL base (List Term×Unit):=zf (zg (vSl 42)) aNil
def zlS (F:List Term→Bool×Int):Ab.Spec ty:=zu zAF fun x=>((F x.1).1,zxf (F x.1).2)
end Go.Proofs.YtnolcogncjijpaaGreatDoor
end
