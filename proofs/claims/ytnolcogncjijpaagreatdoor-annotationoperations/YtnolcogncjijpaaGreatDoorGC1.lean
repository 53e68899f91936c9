/- Texts of this claim, joined (the program, its functions in plain words, and what they compute). -/
import Derived.KernelRfl
import Derived.Shelf.Strconv.Itoa3
import Derived.Stop.LaidErr
import Derived.Shelf.Vars
import Derived.Shelf.SlSortCmp.NoneTotal
import Derived.Shelf.Strings.OnBuilder
import Derived.Shelf.Strconv.Itoa4
import Derived.Shelf.Small.Strs
import Derived.Shelf.Strings.Replace
import Derived.Shelf.Small.Bits
import Derived.Test.YtnolcogncjijpaaGreatDoorChecked
import Derived.Test.YtnolcogncjijpaaGreatDoorRows
import Derived.Test.YtnolcogncjijpaaGreatDoorProg
import Derived.Test.YtnolcogncjijpaaGreatDoorGA2
import Derived.Test.YtnolcogncjijpaaGreatDoorGB1
set_option autoImplicit false
set_option linter.unusedVariables false
set_option linter.unusedSectionVars false
set_option linter.unusedSimpArgs false
set_option maxRecDepth 1000000
set_option maxHeartbeats 0
/- The types of the program, as plain data. -/
noncomputable section
namespace Go.Proofs.YtnolcogncjijpaaGreatDoor
open Go Go.Ab
open Go.Proofs Go.Shelf
structure RowID where
 Table : Int
 Seq : Int
 deriving DecidableEq, Inhabited
structure Value where
 Kind : Int
 Int : Int
 Text : ByteArray
 deriving DecidableEq, Inhabited
structure FactorOf (A : Type) where
 Atom : A
 Exp : Int
structure TermOf (A : Type) where
 Coeff : Int
 Factors : List (FactorOf A)
structure WeightedOf (A : Type) where
 Value : Value
 Ann : List (TermOf A)
structure Atom where
 Kind : Int
 Row : RowID
 Args : List (List (TermOf Atom))
 Func : Int
 Items : List (WeightedOf Atom)
 Op : Int
 Bound : Value
abbrev Factor := FactorOf Atom
abbrev Term := TermOf Atom
abbrev Weighted := WeightedOf Atom
instance : Inhabited Atom := ⟨⟨0, default, [], 0, [], 0, default⟩⟩
instance : Inhabited Factor := ⟨⟨default, 0⟩⟩
instance : Inhabited Term := ⟨⟨0, []⟩⟩
instance : Inhabited Weighted := ⟨⟨default, []⟩⟩
theorem Atom.eta (x : Atom) : (⟨x.Kind, x.Row, x.Args, x.Func, x.Items, x.Op, x.Bound⟩ : Atom) = x := by cases x; rfl
mutual
def zQb : (x y : Atom) → Decidable (x = y)
 | ⟨k, r, a, f, i, o, b⟩, ⟨k', r', a', f', i', o', b'⟩ =>
  match decEq k k', decEq r r', zQm a a', decEq f f', zOQ i i', decEq o o', decEq b b' with
  | .isTrue h1, .isTrue h2, .isTrue h3, .isTrue h4, .isTrue h5, .isTrue h6, .isTrue h7 => .isTrue (by subst h1 h2 h3 h4 h5 h6 h7; rfl)
  | .isFalse h, _, _, _, _, _, _ => .isFalse (fun e => by cases e; exact h rfl)
  | _, .isFalse h, _, _, _, _, _ => .isFalse (fun e => by cases e; exact h rfl)
  | _, _, .isFalse h, _, _, _, _ => .isFalse (fun e => by cases e; exact h rfl)
  | _, _, _, .isFalse h, _, _, _ => .isFalse (fun e => by cases e; exact h rfl)
  | _, _, _, _, .isFalse h, _, _ => .isFalse (fun e => by cases e; exact h rfl)
  | _, _, _, _, _, .isFalse h, _ => .isFalse (fun e => by cases e; exact h rfl)
  | _, _, _, _, _, _, .isFalse h => .isFalse (fun e => by cases e; exact h rfl)
def zNa : (x y : Factor) → Decidable (x = y)
 | ⟨a, e⟩, ⟨a', e'⟩ => match zQb a a', decEq e e' with
  | .isTrue h1, .isTrue h2 => .isTrue (by subst h1 h2; rfl)
  | .isFalse h, _ => .isFalse (fun e => by cases e; exact h rfl)
  | _, .isFalse h => .isFalse (fun e => by cases e; exact h rfl)
def zLC : (x y : List Factor) → Decidable (x = y)
 | [], [] => .isTrue rfl
 | [], _ :: _ => .isFalse (by simp)
 | _ :: _, [] => .isFalse (by simp)
 | x :: r, y :: s => match zNa x y, zLC r s with
  | .isTrue h1, .isTrue h2 => .isTrue (by subst h1 h2; rfl)
  | .isFalse h, _ => .isFalse (fun e => by cases e; exact h rfl)
  | _, .isFalse h => .isFalse (fun e => by cases e; exact h rfl)
def zQg : (x y : Term) → Decidable (x = y)
 | ⟨a, e⟩, ⟨a', e'⟩ => match decEq a a', zLC e e' with
  | .isTrue h1, .isTrue h2 => .isTrue (by subst h1 h2; rfl)
  | .isFalse h, _ => .isFalse (fun e => by cases e; exact h rfl)
  | _, .isFalse h => .isFalse (fun e => by cases e; exact h rfl)
def zOk : (x y : List Term) → Decidable (x = y)
 | [], [] => .isTrue rfl
 | [], _ :: _ => .isFalse (by simp)
 | _ :: _, [] => .isFalse (by simp)
 | x :: r, y :: s => match zQg x y, zOk r s with
  | .isTrue h1, .isTrue h2 => .isTrue (by subst h1 h2; rfl)
  | .isFalse h, _ => .isFalse (fun e => by cases e; exact h rfl)
  | _, .isFalse h => .isFalse (fun e => by cases e; exact h rfl)
def zQm : (x y : List (List Term)) → Decidable (x = y)
 | [], [] => .isTrue rfl
 | [], _ :: _ => .isFalse (by simp)
 | _ :: _, [] => .isFalse (by simp)
 | x :: r, y :: s => match zOk x y, zQm r s with
  | .isTrue h1, .isTrue h2 => .isTrue (by subst h1 h2; rfl)
  | .isFalse h, _ => .isFalse (fun e => by cases e; exact h rfl)
  | _, .isFalse h => .isFalse (fun e => by cases e; exact h rfl)
def zP7 : (x y : Weighted) → Decidable (x = y)
 | ⟨a, e⟩, ⟨a', e'⟩ => match decEq a a', zOk e e' with
  | .isTrue h1, .isTrue h2 => .isTrue (by subst h1 h2; rfl)
  | .isFalse h, _ => .isFalse (fun e => by cases e; exact h rfl)
  | _, .isFalse h => .isFalse (fun e => by cases e; exact h rfl)
def zOQ : (x y : List Weighted) → Decidable (x = y)
 | [], [] => .isTrue rfl
 | [], _ :: _ => .isFalse (by simp)
 | _ :: _, [] => .isFalse (by simp)
 | x :: r, y :: s => match zP7 x y, zOQ r s with
  | .isTrue h1, .isTrue h2 => .isTrue (by subst h1 h2; rfl)
  | .isFalse h, _ => .isFalse (fun e => by cases e; exact h rfl)
  | _, .isFalse h => .isFalse (fun e => by cases e; exact h rfl)
end
instance : DecidableEq Atom := zQb
instance : DecidableEq Factor := zNa
instance : DecidableEq Term := zQg
instance : DecidableEq Weighted := zP7
structure Binding where
 Row : RowID
 To : List Term
 deriving DecidableEq, Inhabited
def ty : Nat → Type
 | 2 => Int
 | 3 => Int
 | 4 => Bool
 | 5 => Int
 | 9 => ByteArray
 | 22 => List Term
 | 23 => List Term
 | 25 => RowID
 | 28 => Int
 | 40 => List Factor
 | 42 => Term
 | 43 => List (List Term)
 | 44 => List Weighted
 | 46 => Value
 | 48 => Atom
 | 50 => Factor
 | 52 => Weighted
 | 59 => List Binding
 | 65 => List RowID
 | 69 => Binding
 | 106 => Unit
 | 128 => List Int
 | 136 => List ByteArray
 | 143 => Int
 | 144 => List (List Factor)
 | _ => Unit
instance : (T : Nat) → Inhabited (ty T) := fun T => by
 unfold ty
 split <;> infer_instance
def dt25 : DT ty RowID := zFZ (fun x => ⟨x.1, x.2⟩) (fun x => (x.Table, x.Seq)) (fun _ => rfl) (zoO (zq5 .i64) (zq5 .i64))
def dt46 : DT ty Value := zFZ (fun x => ⟨x.1, x.2.1, x.2.2⟩) (fun x => (x.Kind, x.Int, x.Text)) (fun _ => rfl) (zoO (zq5 .i64) (zoO (zq5 .i64) (zS9)))
def dt48 : DT ty Atom := zFZ (fun x => ⟨x.1, x.2.1, x.2.2.1, x.2.2.2.1, x.2.2.2.2.1, x.2.2.2.2.2.1, x.2.2.2.2.2.2⟩) (fun x => (x.Kind, x.Row, x.Args, x.Func, x.Items, x.Op, x.Bound)) (fun _ => rfl) (zoO (zq5 .i64) (zoO (dt25) (zoO (dtSl 23) (zoO (zq5 .i64) (zoO (dtSl 52) (zoO (zq5 .i64) (dt46)))))))
def dt50 : DT ty Factor := zFZ (fun x => ⟨x.1, x.2⟩) (fun x => (x.Atom, x.Exp)) (fun _ => rfl) (zoO (dt48) (zq5 .i64))
def dt42 : DT ty Term := zFZ (fun x => ⟨x.1, x.2⟩) (fun x => (x.Coeff, x.Factors)) (fun _ => rfl) (zoO (zq5 .i64) (dtSl 50))
def dt52 : DT ty Weighted := zFZ (fun x => ⟨x.1, x.2⟩) (fun x => (x.Value, x.Ann)) (fun _ => rfl) (zoO (dt46) (dtSl 42))
def dt69 : DT ty Binding := zFZ (fun x => ⟨x.1, x.2⟩) (fun x => (x.Row, x.To)) (fun _ => rfl) (zoO (dt25) (dtSl 42))
def zLt : List ((T : Nat) × DT ty (ty T)) := [⟨2, (zq5 .i64 : DT ty Int)⟩, ⟨3, (zq5 .i64 : DT ty Int)⟩, ⟨4, (zUF : DT ty Bool)⟩, ⟨5, (zq5 .u8 : DT ty Int)⟩, ⟨9, (zS9 : DT ty ByteArray)⟩, ⟨22, (dtSl 42 : DT ty (List Term))⟩, ⟨23, (dtSl 42 : DT ty (List Term))⟩, ⟨25, (dt25 : DT ty RowID)⟩, ⟨28, (zq5 .i64 : DT ty Int)⟩, ⟨40, (dtSl 50 : DT ty (List Factor))⟩, ⟨42, (dt42 : DT ty Term)⟩, ⟨43, (dtSl 23 : DT ty (List (List Term)))⟩, ⟨44, (dtSl 52 : DT ty (List Weighted))⟩, ⟨46, (dt46 : DT ty Value)⟩, ⟨48, (dt48 : DT ty Atom)⟩, ⟨50, (dt50 : DT ty Factor)⟩, ⟨52, (dt52 : DT ty Weighted)⟩, ⟨59, (dtSl 69 : DT ty (List Binding))⟩, ⟨65, (dtSl 25 : DT ty (List RowID))⟩, ⟨69, (dt69 : DT ty Binding)⟩, ⟨106, (dtMp : DT ty Unit)⟩, ⟨128, (dtSl 3 : DT ty (List Int))⟩, ⟨136, (dtSl 9 : DT ty (List ByteArray))⟩, ⟨143, (zq5 .u64 : DT ty Int)⟩, ⟨144, (dtSl 40 : DT ty (List (List Factor)))⟩]
def zNY : List (Nat × TInfo) := [(2, ⟨.int .i64, 1, 8, [.int .i64 (0)]⟩),
 (3, ⟨.int .i64, 1, 8, [.int .i64 (0)]⟩),
 (4, ⟨.bool, 1, 1, [.bool false]⟩),
 (5, ⟨.int .u8, 1, 1, [.int .u8 (0)]⟩),
 (9, ⟨.str, 1, 16, [.string ⟨#[]⟩]⟩),
 (22, ⟨.slice 42, 1, 24, [.slice none 0 0]⟩),
 (23, ⟨.slice 42, 1, 24, [.slice none 0 0]⟩),
 (25, ⟨.struct [(0, 3), (1, 3)], 2, 16, [.int .i64 (0), .int .i64 (0)]⟩),
 (28, ⟨.int .i64, 1, 8, [.int .i64 (0)]⟩),
 (40, ⟨.slice 50, 1, 24, [.slice none 0 0]⟩),
 (42, ⟨.struct [(0, 2), (1, 40)], 2, 32, [.int .i64 (0), .slice none 0 0]⟩),
 (43, ⟨.slice 23, 1, 24, [.slice none 0 0]⟩),
 (44, ⟨.slice 52, 1, 24, [.slice none 0 0]⟩),
 (46, ⟨.struct [(0, 3), (1, 2), (2, 9)], 3, 32, [.int .i64 (0), .int .i64 (0), .string ⟨#[]⟩]⟩),
 (48, ⟨.struct [(0, 3), (1, 25), (3, 43), (4, 3), (5, 44), (6, 3), (7, 46)], 10, 120, [.int .i64 (0), .int .i64 (0), .int .i64 (0), .slice none 0 0, .int .i64 (0), .slice none 0 0, .int .i64 (0), .int .i64 (0), .int .i64 (0), .string ⟨#[]⟩]⟩),
 (50, ⟨.struct [(0, 48), (10, 3)], 11, 128, [.int .i64 (0), .int .i64 (0), .int .i64 (0), .slice none 0 0, .int .i64 (0), .slice none 0 0, .int .i64 (0), .int .i64 (0), .int .i64 (0), .string ⟨#[]⟩, .int .i64 (0)]⟩),
 (52, ⟨.struct [(0, 46), (3, 23)], 4, 56, [.int .i64 (0), .int .i64 (0), .string ⟨#[]⟩, .slice none 0 0]⟩),
 (59, ⟨.slice 69, 1, 24, [.slice none 0 0]⟩),
 (65, ⟨.slice 25, 1, 24, [.slice none 0 0]⟩),
 (69, ⟨.struct [(0, 25), (2, 23)], 3, 40, [.int .i64 (0), .int .i64 (0), .slice none 0 0]⟩),
 (106, ⟨.map 9 3, 1, 8, [.map none]⟩),
 (128, ⟨.slice 3, 1, 24, [.slice none 0 0]⟩),
 (136, ⟨.slice 9, 1, 24, [.slice none 0 0]⟩),
 (143, ⟨.int .u64, 1, 8, [.int .u64 (0)]⟩),
 (144, ⟨.slice 40, 1, 24, [.slice none 0 0]⟩)]
def zO2 : List (Nat × List TD) := [(25, [.int .i64, .int .i64]), (46, [.int .i64, .int .i64, .str])]
def inv (w : World) : Prop := Lib.TabIs Tryz.prog w "internal/strconv.uint64pow10" .u64 Lib.pow10Tab ∧ (∃ m, w.cell? ⟨0, 0, none⟩ = some (.int .i64 m))
theorem zSV {n : String} {g : Nat} {w w' : World} (hg : Tryz.prog.globalNamed n = some g) (h : w'.heap[g]? = w.heap[g]?) : w'.var? Tryz.prog n = w.var? Tryz.prog n := by
 unfold World.var?; rw [hg]; simp only [Option.bind_some, h]
theorem zRk (w w' : World) (hi : inv w) (hb : ∀ b, b < 4 → w'.heap[b]? = w.heap[b]?) : inv w' := by
 obtain ⟨h1, ⟨m, h2⟩⟩ := hi
 refine ⟨(zSV (g := 1) (by kernel_rfl) (hb 1 (by omega))).trans h1, ⟨m, ?_⟩⟩
 rw [← h2]; exact World.cell?_of_block (a := ⟨0, 0, none⟩) (hb 0 (by omega))
def base : Cx ty := { ti := fun T => zNY.lookup T, dflt := fun _ => default, enc := fun T => (tabT zLt T).enc, dec := fun T => (tabT zLt T).dec, spec := fun _ => none, io := fun _ => [], eqs := fun T us vs => match zO2.lookup T with | some ts => zfS ts us vs | none => none, nt := 0, head := fun _ => [], out := fun _ _ => [], loops := fun _ => none, ng := 4, inv := inv }
theorem zQ7 : Tryz.prog.info? 2 = some Tryz.t2 := by kernel_rfl
theorem zDI : Tryz.prog.info? 3 = some Tryz.t3 := by kernel_rfl
theorem zU2 : Tryz.prog.info? 4 = some Tryz.t4 := by kernel_rfl
theorem zU0 : Tryz.prog.info? 5 = some Tryz.t5 := by kernel_rfl
theorem zTd : Tryz.prog.info? 9 = some Tryz.t9 := by kernel_rfl
theorem zUB : Tryz.prog.info? 22 = some Tryz.t22 := by kernel_rfl
theorem zO6 : Tryz.prog.info? 23 = some Tryz.t23 := by kernel_rfl
theorem zO1 : Tryz.prog.info? 25 = some Tryz.t25 := by kernel_rfl
theorem zUg : Tryz.prog.info? 28 = some Tryz.t28 := by kernel_rfl
theorem zRv : Tryz.prog.info? 40 = some Tryz.t40 := by kernel_rfl
theorem zUJ : Tryz.prog.info? 42 = some Tryz.t42 := by kernel_rfl
theorem zRU : Tryz.prog.info? 43 = some Tryz.t43 := by kernel_rfl
theorem zRV : Tryz.prog.info? 44 = some Tryz.t44 := by kernel_rfl
theorem zOq : Tryz.prog.info? 46 = some Tryz.t46 := by kernel_rfl
theorem zRO : Tryz.prog.info? 48 = some Tryz.t48 := by kernel_rfl
theorem zUt : Tryz.prog.info? 50 = some Tryz.t50 := by kernel_rfl
theorem zUp : Tryz.prog.info? 52 = some Tryz.t52 := by kernel_rfl
theorem zUz : Tryz.prog.info? 59 = some Tryz.t59 := by kernel_rfl
theorem zUi : Tryz.prog.info? 65 = some Tryz.t65 := by kernel_rfl
theorem zUO : Tryz.prog.info? 69 = some Tryz.t69 := by kernel_rfl
theorem zUe : Tryz.prog.info? 106 = some Tryz.t106 := by kernel_rfl
theorem zT7 : Tryz.prog.info? 128 = some Tryz.t128 := by kernel_rfl
theorem zTz : Tryz.prog.info? 136 = some Tryz.t136 := by kernel_rfl
theorem zTK : Tryz.prog.info? 143 = some Tryz.t143 := by kernel_rfl
theorem zT0 : Tryz.prog.info? 144 = some Tryz.t144 := by kernel_rfl
theorem zTH : ∀ T i, zNY.lookup T = some i → InfoOK Tryz.prog T i := by
 intro T i h
 have h := zzP _ _ _ h
 simp only [zNY, List.mem_cons, List.not_mem_nil, or_false, Prod.mk.injEq] at h
 rcases h with ⟨rfl, rfl⟩ | ⟨rfl, rfl⟩ | ⟨rfl, rfl⟩ | ⟨rfl, rfl⟩ | ⟨rfl, rfl⟩ | ⟨rfl, rfl⟩ | ⟨rfl, rfl⟩ | ⟨rfl, rfl⟩ | ⟨rfl, rfl⟩ | ⟨rfl, rfl⟩ | ⟨rfl, rfl⟩ | ⟨rfl, rfl⟩ | ⟨rfl, rfl⟩ | ⟨rfl, rfl⟩ | ⟨rfl, rfl⟩ | ⟨rfl, rfl⟩ | ⟨rfl, rfl⟩ | ⟨rfl, rfl⟩ | ⟨rfl, rfl⟩ | ⟨rfl, rfl⟩ | ⟨rfl, rfl⟩ | ⟨rfl, rfl⟩ | ⟨rfl, rfl⟩ | ⟨rfl, rfl⟩ | ⟨rfl, rfl⟩
 ·exact ⟨Tryz.t2, _, _, zQ7, Tryz.underlying2, rfl, rfl, rfl, rfl, rfl, ⟨by simp [zbY], fun _ => rfl⟩, rfl⟩
 ·exact ⟨Tryz.t3, _, _, zDI, Tryz.underlying3, rfl, rfl, rfl, rfl, rfl, ⟨by simp [zbY], fun _ => rfl⟩, rfl⟩
 ·exact ⟨Tryz.t4, _, _, zU2, Tryz.underlying4, rfl, rfl, rfl, rfl, rfl, ⟨by simp [zbY], fun _ => rfl⟩, rfl⟩
 ·exact ⟨Tryz.t5, _, _, zU0, Tryz.underlying5, rfl, rfl, rfl, rfl, rfl, ⟨by simp [zbY], fun _ => rfl⟩, rfl⟩
 ·exact ⟨Tryz.t9, _, _, zTd, Tryz.underlying9, rfl, rfl, rfl, rfl, rfl, ⟨by simp [zbY], fun _ => rfl⟩, rfl⟩
 ·exact ⟨Tryz.t22, _, _, zUB, Tryz.underlying22, rfl, rfl, rfl, rfl, rfl, ⟨by simp [zbY], fun _ => rfl⟩, rfl⟩
 ·exact ⟨Tryz.t23, _, _, zO6, Tryz.underlying23, rfl, rfl, rfl, rfl, rfl, ⟨by simp [zbY], fun _ => rfl⟩, rfl⟩
 ·exact ⟨Tryz.t25, _, _, zO1, Tryz.underlying25, rfl, rfl, rfl, rfl, rfl, ⟨by simp [zbY], fun h => by cases h⟩, ⟨_, rfl, rfl, fun f hf => by
   simp only [List.mem_cons, List.not_mem_nil, or_false] at hf
   rcases hf with rfl | rfl
   ·exact Option.isSome_iff_exists.2 ⟨_, zDI⟩
   ·exact Option.isSome_iff_exists.2 ⟨_, zDI⟩⟩⟩
 ·exact ⟨Tryz.t28, _, _, zUg, Tryz.underlying28, rfl, rfl, rfl, rfl, rfl, ⟨by simp [zbY], fun _ => rfl⟩, rfl⟩
 ·exact ⟨Tryz.t40, _, _, zRv, Tryz.underlying40, rfl, rfl, rfl, rfl, rfl, ⟨by simp [zbY], fun _ => rfl⟩, rfl⟩
 ·exact ⟨Tryz.t42, _, _, zUJ, Tryz.underlying42, rfl, rfl, rfl, rfl, rfl, ⟨by simp [zbY], fun h => by cases h⟩, ⟨_, rfl, rfl, fun f hf => by
   simp only [List.mem_cons, List.not_mem_nil, or_false] at hf
   rcases hf with rfl | rfl
   ·exact Option.isSome_iff_exists.2 ⟨_, zQ7⟩
   ·exact Option.isSome_iff_exists.2 ⟨_, zRv⟩⟩⟩
 ·exact ⟨Tryz.t43, _, _, zRU, Tryz.underlying43, rfl, rfl, rfl, rfl, rfl, ⟨by simp [zbY], fun _ => rfl⟩, rfl⟩
 ·exact ⟨Tryz.t44, _, _, zRV, Tryz.underlying44, rfl, rfl, rfl, rfl, rfl, ⟨by simp [zbY], fun _ => rfl⟩, rfl⟩
 ·exact ⟨Tryz.t46, _, _, zOq, Tryz.underlying46, rfl, rfl, rfl, rfl, rfl, ⟨by simp [zbY], fun h => by cases h⟩, ⟨_, rfl, rfl, fun f hf => by
   simp only [List.mem_cons, List.not_mem_nil, or_false] at hf
   rcases hf with rfl | rfl | rfl
   ·exact Option.isSome_iff_exists.2 ⟨_, zDI⟩
   ·exact Option.isSome_iff_exists.2 ⟨_, zQ7⟩
   ·exact Option.isSome_iff_exists.2 ⟨_, zTd⟩⟩⟩
 ·exact ⟨Tryz.t48, _, _, zRO, Tryz.underlying48, rfl, rfl, rfl, rfl, rfl, ⟨by simp [zbY], fun h => by cases h⟩, ⟨_, rfl, rfl, fun f hf => by
   simp only [List.mem_cons, List.not_mem_nil, or_false] at hf
   rcases hf with rfl | rfl | rfl | rfl | rfl | rfl | rfl
   ·exact Option.isSome_iff_exists.2 ⟨_, zDI⟩
   ·exact Option.isSome_iff_exists.2 ⟨_, zO1⟩
   ·exact Option.isSome_iff_exists.2 ⟨_, zRU⟩
   ·exact Option.isSome_iff_exists.2 ⟨_, zDI⟩
   ·exact Option.isSome_iff_exists.2 ⟨_, zRV⟩
   ·exact Option.isSome_iff_exists.2 ⟨_, zDI⟩
   ·exact Option.isSome_iff_exists.2 ⟨_, zOq⟩⟩⟩
 ·exact ⟨Tryz.t50, _, _, zUt, Tryz.underlying50, rfl, rfl, rfl, rfl, rfl, ⟨by simp [zbY], fun h => by cases h⟩, ⟨_, rfl, rfl, fun f hf => by
   simp only [List.mem_cons, List.not_mem_nil, or_false] at hf
   rcases hf with rfl | rfl
   ·exact Option.isSome_iff_exists.2 ⟨_, zRO⟩
   ·exact Option.isSome_iff_exists.2 ⟨_, zDI⟩⟩⟩
 ·exact ⟨Tryz.t52, _, _, zUp, Tryz.underlying52, rfl, rfl, rfl, rfl, rfl, ⟨by simp [zbY], fun h => by cases h⟩, ⟨_, rfl, rfl, fun f hf => by
   simp only [List.mem_cons, List.not_mem_nil, or_false] at hf
   rcases hf with rfl | rfl
   ·exact Option.isSome_iff_exists.2 ⟨_, zOq⟩
   ·exact Option.isSome_iff_exists.2 ⟨_, zO6⟩⟩⟩
 ·exact ⟨Tryz.t59, _, _, zUz, Tryz.underlying59, rfl, rfl, rfl, rfl, rfl, ⟨by simp [zbY], fun _ => rfl⟩, rfl⟩
 ·exact ⟨Tryz.t65, _, _, zUi, Tryz.underlying65, rfl, rfl, rfl, rfl, rfl, ⟨by simp [zbY], fun _ => rfl⟩, rfl⟩
 ·exact ⟨Tryz.t69, _, _, zUO, Tryz.underlying69, rfl, rfl, rfl, rfl, rfl, ⟨by simp [zbY], fun h => by cases h⟩, ⟨_, rfl, rfl, fun f hf => by
   simp only [List.mem_cons, List.not_mem_nil, or_false] at hf
   rcases hf with rfl | rfl
   ·exact Option.isSome_iff_exists.2 ⟨_, zO1⟩
   ·exact Option.isSome_iff_exists.2 ⟨_, zO6⟩⟩⟩
 ·exact ⟨Tryz.t106, _, _, zUe, Tryz.underlying106, rfl, rfl, rfl, rfl, rfl, ⟨by simp [zbY], fun _ => rfl⟩, rfl⟩
 ·exact ⟨Tryz.t128, _, _, zT7, Tryz.underlying128, rfl, rfl, rfl, rfl, rfl, ⟨by simp [zbY], fun _ => rfl⟩, rfl⟩
 ·exact ⟨Tryz.t136, _, _, zTz, Tryz.underlying136, rfl, rfl, rfl, rfl, rfl, ⟨by simp [zbY], fun _ => rfl⟩, rfl⟩
 ·exact ⟨Tryz.t143, _, _, zTK, Tryz.underlying143, rfl, rfl, rfl, rfl, rfl, ⟨by simp [zbY], fun _ => rfl⟩, rfl⟩
 ·exact ⟨Tryz.t144, _, _, zT0, Tryz.underlying144, rfl, rfl, rfl, rfl, rfl, ⟨by simp [zbY], fun _ => rfl⟩, rfl⟩
theorem zS4 : ∀ T us vs b, (match zO2.lookup T with | some ts => zfS ts us vs | none => none) = some b → ∀ w, (binOp .eql T (.agg us.toArray) (.agg vs.toArray)).run Tryz.prog w = .ok (.bool b) w ∧ (binOp .neq T (.agg us.toArray) (.agg vs.toArray)).run Tryz.prog w = .ok (.bool (!b)) w ∧
  ∀ op x y, (eqGuard op T x y (.agg us.toArray) (.agg vs.toArray)).run Tryz.prog w = .ok () w := by
 intro T us vs b h w
 split at h
 ·rename_i ts hl
  have hl := zzP _ _ _ hl
  simp only [zO2, List.mem_cons, List.not_mem_nil, or_false, Prod.mk.injEq] at hl
  rcases hl with ⟨rfl, rfl⟩ | ⟨rfl, rfl⟩
  ·refine zLO _ _ Tryz.underlying25 (by kernel_rfl) (by kernel_rfl) rfl ?_ h w
   intro j f t hj ht
   rcases j with _ | j
   ·simp at hj ht; subst hj ht; exact ⟨rfl, by decide, _, Tryz.underlying3, rfl⟩
   rcases j with _ | j
   ·simp at hj ht; subst hj ht; exact ⟨rfl, by decide, _, Tryz.underlying3, rfl⟩
   simp at hj
  ·refine zLO _ _ Tryz.underlying46 (by kernel_rfl) (by kernel_rfl) rfl ?_ h w
   intro j f t hj ht
   rcases j with _ | j
   ·simp at hj ht; subst hj ht; exact ⟨rfl, by decide, _, Tryz.underlying3, rfl⟩
   rcases j with _ | j
   ·simp at hj ht; subst hj ht; exact ⟨rfl, by decide, _, Tryz.underlying2, rfl⟩
   rcases j with _ | j
   ·simp at hj ht; subst hj ht; exact ⟨rfl, by decide, _, Tryz.underlying9, rfl⟩
   simp at hj
 ·cases h
theorem zm : CxOK Tryz.prog base := ⟨zTH, fun T x => by rw [show szOf base T = _ from (zOw zLt zNY rfl T).symm]; exact DT.len _ x, fun T x c h => by have := DT.cell _ _ c h; revert this; cases c <;> exact id, fun T cs x h F w us hr => DT.ok _ base F w us cs x h hr, zS4, zRk⟩
def base0 : Cx ty := { base with dr := false }
theorem zib : CxOK Tryz.prog base0 := CxOK.cg (cx := base) (cx' := base0) ⟨rfl, rfl, rfl, rfl, rfl, rfl⟩ zm
theorem zH : Tryz.prog.follows .mixedOrders = true := by kernel_rfl
end Go.Proofs.YtnolcogncjijpaaGreatDoor
/- What is read of an argument, as typed data. -/
namespace Go.Proofs.YtnolcogncjijpaaGreatDoor
open Go Go.Ab
def wf2 (x : Int) : Prop := (Lit.int .i64 x).wf = true
def wf3 (x : Int) : Prop := (Lit.int .i64 x).wf = true
def wf4 (x : Bool) : Prop := True
def wf5 (x : Int) : Prop := (Lit.int .u8 x).wf = true
def wf9 (x : ByteArray) : Prop := ByteArray.size x ≤ roomLen
def wf25 (x : RowID) : Prop := wf3 x.Table ∧ wf3 x.Seq
def wf46 (x : Value) : Prop := wf3 x.Kind ∧ wf2 x.Int ∧ wf9 x.Text
mutual
def ziQ : Atom → Prop
 | ⟨k, r, a, f, i, o, b⟩ => wf3 k ∧ wf25 r ∧ (zt3 a ∧ a.length ≤ roomLen) ∧ wf3 f ∧ (zoV i ∧ i.length ≤ roomLen) ∧ wf3 o ∧ wf46 b
def zpR : Factor → Prop
 | ⟨a, e⟩ => ziQ a ∧ wf3 e
def zny : List Factor → Prop
 | [] => True
 | x :: r => zpR x ∧ zny r
def ztX : Term → Prop
 | ⟨c, f⟩ => wf2 c ∧ (zny f ∧ f.length ≤ roomLen)
def zh8 : List Term → Prop
 | [] => True
 | x :: r => ztX x ∧ zh8 r
def zt3 : List (List Term) → Prop
 | [] => True
 | x :: r => (zh8 x ∧ x.length ≤ roomLen) ∧ zt3 r
def zFl : Weighted → Prop
 | ⟨v, a⟩ => wf46 v ∧ (zh8 a ∧ a.length ≤ roomLen)
def zoV : List Weighted → Prop
 | [] => True
 | x :: r => zFl x ∧ zoV r
end
theorem zB5 : ∀ l : List Factor, (∀ x ∈ l, zpR x) → zny l
 | [], _ => by unfold zny; trivial
 | x :: r, h => by unfold zny; exact ⟨h x (by simp), zB5 r fun y hy => h y (by simp [hy])⟩
theorem zGb : ∀ l : List Term, (∀ x ∈ l, ztX x) → zh8 l
 | [], _ => by unfold zh8; trivial
 | x :: r, h => by unfold zh8; exact ⟨h x (by simp), zGb r fun y hy => h y (by simp [hy])⟩
theorem zIG : ∀ l : List (List Term), (∀ x ∈ l, zh8 x ∧ x.length ≤ roomLen) → zt3 l
 | [], _ => by unfold zt3; trivial
 | x :: r, h => by unfold zt3; exact ⟨h x (by simp), zIG r fun y hy => h y (by simp [hy])⟩
theorem zLZ : ∀ l : List Weighted, (∀ x ∈ l, zFl x) → zoV l
 | [], _ => by unfold zoV; trivial
 | x :: r, h => by unfold zoV; exact ⟨h x (by simp), zLZ r fun y hy => h y (by simp [hy])⟩
def wf23 (x : List Term) : Prop := zh8 x ∧ List.length x ≤ roomLen
def wf40 (x : List Factor) : Prop := zny x ∧ List.length x ≤ roomLen
def wf42 (x : Term) : Prop := ztX x
def wf43 (x : List (List Term)) : Prop := zt3 x ∧ List.length x ≤ roomLen
def wf44 (x : List Weighted) : Prop := zoV x ∧ List.length x ≤ roomLen
def wf48 (x : Atom) : Prop := ziQ x
def wf50 (x : Factor) : Prop := zpR x
def wf52 (x : Weighted) : Prop := zFl x
def wf69 (x : Binding) : Prop := wf25 x.Row ∧ wf23 x.To
def wf59 (x : List Binding) : Prop := (∀ y ∈ x, wf69 y) ∧ List.length x ≤ roomLen
def wf (T : Nat) : ty T → Prop := match T with
 | 2 => wf2
 | 3 => wf3
 | 4 => wf4
 | 5 => wf5
 | 9 => wf9
 | 23 => wf23
 | 25 => wf25
 | 40 => wf40
 | 42 => wf42
 | 43 => wf43
 | 44 => wf44
 | 46 => wf46
 | 48 => wf48
 | 50 => wf50
 | 52 => wf52
 | 59 => wf59
 | 69 => wf69
 | _ => fun _ => True
theorem zOO : zss Tryz.prog base wf 2 := zNj Tryz.underlying2 (fun n => n) (fun _ => rfl) (fun _ h => h)
theorem zB0 : zss Tryz.prog base wf 3 := zNj Tryz.underlying3 (fun n => n) (fun _ => rfl) (fun _ h => h)
theorem zUE : zss Tryz.prog base wf 9 := zRE Tryz.underlying9 (fun n => n) (fun _ => rfl) (fun _ h => h)
theorem zPV : zss Tryz.prog base wf 25 := by
 intro H en w sp held fuel cs y h hz
 obtain ⟨xs, n, _, hy, hl, hlen, hf⟩ := DataW.trod_struct Tryz.underlying25 h
 have hs := zml Tryz.underlying25 hy hz
 obtain ⟨x0, h0, w0⟩ := zt8 (off := 0) zB0 (by kernel_rfl) hlen hf hs 0 _ rfl rfl rfl
 obtain ⟨x1, h1, w1⟩ := zt8 (off := 1) zB0 (by kernel_rfl) hlen hf hs 1 _ rfl rfl rfl
 have hl : cs.length = 2 := hl.trans (by kernel_rfl)
 have := zh5 h0 (zx2 h1 hl)
 exact ⟨(⟨x0, x1⟩ : RowID), this, ⟨w0, w1⟩⟩
theorem zQe : zss Tryz.prog base wf 46 := by
 intro H en w sp held fuel cs y h hz
 obtain ⟨xs, n, _, hy, hl, hlen, hf⟩ := DataW.trod_struct Tryz.underlying46 h
 have hs := zml Tryz.underlying46 hy hz
 obtain ⟨x0, h0, w0⟩ := zt8 (off := 0) zB0 (by kernel_rfl) hlen hf hs 0 _ rfl rfl rfl
 obtain ⟨x1, h1, w1⟩ := zt8 (off := 1) zOO (by kernel_rfl) hlen hf hs 1 _ rfl rfl rfl
 obtain ⟨x2, h2, w2⟩ := zt8 (off := 2) zUE (by kernel_rfl) hlen hf hs 2 _ rfl rfl rfl
 have hl : cs.length = 3 := hl.trans (by kernel_rfl)
 have := zh5 h0 (zh5 h1 (zx2 h2 hl))
 exact ⟨(⟨x0, x1, x2⟩ : Value), this, ⟨w0, w1, w2⟩⟩
theorem zOn : ∀ m, znv Tryz.prog base wf m 23 ∧ znv Tryz.prog base wf m 40 ∧ znv Tryz.prog base wf m 42 ∧ znv Tryz.prog base wf m 43 ∧ znv Tryz.prog base wf m 44 ∧ znv Tryz.prog base wf m 48 ∧ znv Tryz.prog base wf m 50 ∧ znv Tryz.prog base wf m 52
 | 0 => ⟨zl3, zl3, zl3, zl3, zl3, zl3, zl3, zl3⟩
 | m + 1 => by
  obtain ⟨h23, h40, h42, h43, h44, h48, h50, h52⟩ := zOn m
  refine ⟨?_, ?_, ?_, ?_, ?_, ?_, ?_, ?_⟩
  ·exact zv6 zm Tryz.underlying23 (by kernel_rfl) (by decide) (fun l => l) (fun _ => rfl) (of_decide_eq_true (by kernel_rfl)) h42 (fun l h h2 => ⟨zGb l h, h2⟩)
  ·exact zv6 zm Tryz.underlying40 (by kernel_rfl) (by decide) (fun l => l) (fun _ => rfl) (of_decide_eq_true (by kernel_rfl)) h50 (fun l h h2 => ⟨zB5 l h, h2⟩)
  ·intro H en w sp held fuel cs y hfu h hz
   obtain ⟨xs, n, hn, hy, hl, hlen, hf⟩ := DataW.trod_struct Tryz.underlying42 h
   have hs := zml Tryz.underlying42 hy hz
   have hn : n ≤ m := by omega
   obtain ⟨x0, hx0, w0⟩ := zeu (off := 0) (zOO.at m) (by kernel_rfl) hn hlen hf hs 0 _ rfl rfl rfl
   obtain ⟨x1, hx1, w1⟩ := zeu (off := 1) h40 (by kernel_rfl) hn hlen hf hs 1 _ rfl rfl rfl
   have hl : cs.length = 2 := hl.trans (by kernel_rfl)
   have := zh5 hx0 (zx2 hx1 hl)
   exact ⟨(⟨x0, x1⟩ : Term), this, by show ztX (⟨x0, x1⟩ : Term); unfold ztX; exact ⟨w0, w1⟩⟩
  ·exact zv6 zm Tryz.underlying43 (by kernel_rfl) (by decide) (fun l => l) (fun _ => rfl) (of_decide_eq_true (by kernel_rfl)) h23 (fun l h h2 => ⟨zIG l h, h2⟩)
  ·exact zv6 zm Tryz.underlying44 (by kernel_rfl) (by decide) (fun l => l) (fun _ => rfl) (of_decide_eq_true (by kernel_rfl)) h52 (fun l h h2 => ⟨zLZ l h, h2⟩)
  ·intro H en w sp held fuel cs y hfu h hz
   obtain ⟨xs, n, hn, hy, hl, hlen, hf⟩ := DataW.trod_struct Tryz.underlying48 h
   have hs := zml Tryz.underlying48 hy hz
   have hn : n ≤ m := by omega
   obtain ⟨x0, hx0, w0⟩ := zeu (off := 0) (zB0.at m) (by kernel_rfl) hn hlen hf hs 0 _ rfl rfl rfl
   obtain ⟨x1, hx1, w1⟩ := zeu (off := 1) (zPV.at m) (by kernel_rfl) hn hlen hf hs 1 _ rfl rfl rfl
   obtain ⟨x2, hx2, w2⟩ := zeu (off := 3) h43 (by kernel_rfl) hn hlen hf hs 2 _ rfl rfl rfl
   obtain ⟨x3, hx3, w3⟩ := zeu (off := 4) (zB0.at m) (by kernel_rfl) hn hlen hf hs 3 _ rfl rfl rfl
   obtain ⟨x4, hx4, w4⟩ := zeu (off := 5) h44 (by kernel_rfl) hn hlen hf hs 4 _ rfl rfl rfl
   obtain ⟨x5, hx5, w5⟩ := zeu (off := 6) (zB0.at m) (by kernel_rfl) hn hlen hf hs 5 _ rfl rfl rfl
   obtain ⟨x6, hx6, w6⟩ := zeu (off := 7) (zQe.at m) (by kernel_rfl) hn hlen hf hs 6 _ rfl rfl rfl
   have hl : cs.length = 10 := hl.trans (by kernel_rfl)
   have := zh5 hx0 (zh5 hx1 (zh5 hx2 (zh5 hx3 (zh5 hx4 (zh5 hx5 (zx2 hx6 hl))))))
   exact ⟨(⟨x0, x1, x2, x3, x4, x5, x6⟩ : Atom), this, by show ziQ (⟨x0, x1, x2, x3, x4, x5, x6⟩ : Atom); unfold ziQ; exact ⟨w0, w1, w2, w3, w4, w5, w6⟩⟩
  ·intro H en w sp held fuel cs y hfu h hz
   obtain ⟨xs, n, hn, hy, hl, hlen, hf⟩ := DataW.trod_struct Tryz.underlying50 h
   have hs := zml Tryz.underlying50 hy hz
   have hn : n ≤ m := by omega
   obtain ⟨x0, hx0, w0⟩ := zeu (off := 0) h48 (by kernel_rfl) hn hlen hf hs 0 _ rfl rfl rfl
   obtain ⟨x1, hx1, w1⟩ := zeu (off := 10) (zB0.at m) (by kernel_rfl) hn hlen hf hs 1 _ rfl rfl rfl
   have hl : cs.length = 11 := hl.trans (by kernel_rfl)
   have := zh5 hx0 (zx2 hx1 hl)
   exact ⟨(⟨x0, x1⟩ : Factor), this, by show zpR (⟨x0, x1⟩ : Factor); unfold zpR; exact ⟨w0, w1⟩⟩
  ·intro H en w sp held fuel cs y hfu h hz
   obtain ⟨xs, n, hn, hy, hl, hlen, hf⟩ := DataW.trod_struct Tryz.underlying52 h
   have hs := zml Tryz.underlying52 hy hz
   have hn : n ≤ m := by omega
   obtain ⟨x0, hx0, w0⟩ := zeu (off := 0) (zQe.at m) (by kernel_rfl) hn hlen hf hs 0 _ rfl rfl rfl
   obtain ⟨x1, hx1, w1⟩ := zeu (off := 3) h23 (by kernel_rfl) hn hlen hf hs 1 _ rfl rfl rfl
   have hl : cs.length = 4 := hl.trans (by kernel_rfl)
   have := zh5 hx0 (zx2 hx1 hl)
   exact ⟨(⟨x0, x1⟩ : Weighted), this, by show zFl (⟨x0, x1⟩ : Weighted); unfold zFl; exact ⟨w0, w1⟩⟩
theorem zP6 : zss Tryz.prog base wf 23 := zRK fun m => (zOn m).1
end Go.Proofs.YtnolcogncjijpaaGreatDoor
/- A world in which the row's condition holds; what the program's rows share. -/
namespace Go.Proofs.YtnolcogncjijpaaGreatDoor
open Go Go.Ab Go.Lib
theorem own : ownKnob Tryz.prog.godebug = none := by kernel_rfl
theorem zTF : laidOutB Tryz.prog = true := by kernel_rfl
def zVb : DataW Unit → Go.Value
 | .lit (.int k n) => .int k n
 | .lit (.bool b) => .bool b
 | .lit (.string s) => .string ⟨s.toArray⟩
 | _ => undef
def zRx : Nat → DataW Unit → List Go.Value
 | n + 1, .agg ds => ds.flatMap (zRx n)
 | _, d => [zVb d]
def cellsOf (d : DataW Unit) : Array Go.Value := (zRx 3 d).toArray
def zLB (h : Array Obj) (g : Nat) (cs : Array Go.Value) : Array Obj := h.modify g fun
 | .cells _ t fr => .cells cs t fr
 | o => o
def zM2 (os : Os) : World :=
 let w0 := World.holding Tryz.prog os ⟨#[], #[], []⟩
 { w0 with heap := zLB (zLB (zLB (zLB (zLB (w0.heap) 2 (cellsOf Rows.laid_math_bits_deBruijn32tab)) 3 (cellsOf Rows.laid_math_bits_deBruijn64tab)) 1 (cellsOf Rows.laid_internal_strconv_uint64pow10)) 5 (cellsOf Rows.laid_unicode_utf8_acceptRanges)) 4 (cellsOf Rows.laid_unicode_utf8_first) }
def zxz : List (String × DataW Unit) := [("math/bits.deBruijn32tab", Rows.laid_math_bits_deBruijn32tab), ("math/bits.deBruijn64tab", Rows.laid_math_bits_deBruijn64tab), ("internal/strconv.uint64pow10", Rows.laid_internal_strconv_uint64pow10), ("unicode/utf8.acceptRanges", Rows.laid_unicode_utf8_acceptRanges), ("unicode/utf8.first", Rows.laid_unicode_utf8_first)]
theorem zNQ (os : Os) (args : Array Go.Value) : laidMetH Tryz.prog zxz ((zM2 os).forCall (fun _ _ => 0) ⟨#[], args, []⟩).memory :=
 laidMetH_of_parts (laidMet_of_run3 8 (by kernel_rfl) (by kernel_rfl) (by kernel_rfl)) (by kernel_rfl)
theorem zR6 {w : World} (h : laidMetH Tryz.prog zxz w) : laidMet Tryz.prog zxz w := by
 unfold laidMetH at h
 rw [show (zxz.filter fun x => x.2.handleName?.isSome) = [] by kernel_rfl] at h
 exact h
theorem zUh (w : World) (hsh : w.ShapedOpen Tryz.prog) (h : laidMetH Tryz.prog zxz w) : base.inv w ∧ base.ng ≤ w.heap.size := by
 have h := zR6 h
 have h1 : TabIs Tryz.prog w "internal/strconv.uint64pow10" .u64 pow10Tab :=
  tabIs_of_head (g := 1) (by kernel_rfl) (by kernel_rfl) Tryz.underlying199 Tryz.underlying178 (by kernel_rfl) (by kernel_rfl) h.tail.tail
 have h4 := cell_of_shapedOpen_int (g := 0) (t := 3) (zero := #[.int .i64 0]) hsh (of_decide_eq_true (by kernel_rfl)) (by kernel_rfl) rfl (by kernel_rfl) (by kernel_rfl) Tryz.underlying3
 obtain ⟨ps, ⟨g', t', cs, fuel, p, q, hg', _, hvar, _⟩, _⟩ := h.tail
 refine ⟨⟨h1, h4⟩, ?_⟩
 unfold World.var? at hvar
 rw [show Tryz.prog.globalNamed "math/bits.deBruijn64tab" = some 3 by kernel_rfl] at hvar
 simp only [Option.bind_some] at hvar
 show 4 ≤ w.heap.size
 cases hh : w.heap[3]? with
 | none => rw [hh] at hvar; cases hvar
 | some o => exact (Array.getElem?_eq_some_iff.1 hh).1
end Go.Proofs.YtnolcogncjijpaaGreatDoor
namespace Go.Proofs.YtnolcogncjijpaaGreatDoor
open Go Go.Ab
def zui (r : Int) : ARes ty := ⟨[.pure (.lit (.int .i64 r))], []⟩
def zvw : AL base (List Term × List Term × Unit) := zf (zg (vSl 42)) (zf (zg (vSl 42)) aNil)
def zdq (F : List Term → List Term → Bool × Int) : Ab.Spec ty := zk zvw fun x => ((F x.1 x.2.1).1, zui (F x.1 x.2.1).2)
def zrf (r : Int) : ARes ty := ⟨[.pure (.lit (.int .i64 r))], []⟩
def zs7 : AL base (Term × Term × Unit) := zf (zg (vAgg 42)) (zf (zg (vAgg 42)) aNil)
def zeN (F : Term → Term → Bool × Int) : Ab.Spec ty := zk zs7 fun x => ((F x.1 x.2.1).1, zrf (F x.1 x.2.1).2)
def zpp (r : Int) : ARes ty := ⟨[.pure (.lit (.int .i64 r))], []⟩
def zrc : AL base (Term × Term × Unit) := zf (zg (vAgg 42)) (zf (zg (vAgg 42)) aNil)
def zfF (F : Term → Term → Bool × Int) : Ab.Spec ty := zk zrc fun x => ((F x.1 x.2.1).1, zpp (F x.1 x.2.1).2)
def zn4 (r : Int) : ARes ty := ⟨[.pure (.lit (.int .i64 r))], []⟩
def zpd : AL base (Factor × Factor × Unit) := zf (zg (vAgg 50)) (zf (zg (vAgg 50)) aNil)
def zdN (F : Factor → Factor → Bool × Int) : Ab.Spec ty := zk zpd fun x => ((F x.1 x.2.1).1, zn4 (F x.1 x.2.1).2)
def zpf (r : Int) : ARes ty := ⟨[.pure (.lit (.int .i64 r))], []⟩
def zrg : AL base (Atom × Atom × Unit) := zf (zg (vAgg 48)) (zf (zg (vAgg 48)) aNil)
def zfV (F : Atom → Atom → Bool × Int) : Ab.Spec ty := zk zrg fun x => ((F x.1 x.2.1).1, zpf (F x.1 x.2.1).2)
def zpa (r : Int) : ARes ty := ⟨[.pure (.lit (.int .i64 r))], []⟩
def zqT : AL base (Weighted × Weighted × Unit) := zf (zg (vAgg 52)) (zf (zg (vAgg 52)) aNil)
def zdp (F : Weighted → Weighted → Bool × Int) : Ab.Spec ty := zk zqT fun x => ((F x.1 x.2.1).1, zpa (F x.1 x.2.1).2)
def zdb (r : Int) : ARes ty := ⟨[.pure (.lit (.int .i64 r))], []⟩
def zdn : AL base (List Term × List Term × Unit × Unit) := zf (zg (vSl 42)) (zf (zg (vSl 42)) (zf (zg (vFn 87 vNil)) aNil))
def zbB (F : List Term → List Term → Bool × Int) : Ab.Spec ty := zk zdn fun x => ((F x.1 x.2.1).1, zdb (F x.1 x.2.1).2)
def zdl (r : Int) : ARes ty := ⟨[.pure (.lit (.int .i64 r))], []⟩
def zdt : AL base (List Factor × List Factor × Unit × Unit) := zf (zg (vSl 50)) (zf (zg (vSl 50)) (zf (zg (vFn 124 vNil)) aNil))
def zbD (F : List Factor → List Factor → Bool × Int) : Ab.Spec ty := zk zdt fun x => ((F x.1 x.2.1).1, zdl (F x.1 x.2.1).2)
def zch (r : Int) : ARes ty := ⟨[.pure (.lit (.int .i64 r))], []⟩
def zcl : AL base (List (List Term) × List (List Term) × Unit × Unit) := zf (zg (vSl 23)) (zf (zg (vSl 23)) (zf (zg (vFn 38 vNil)) aNil))
def zbg (F : List (List Term) → List (List Term) → Bool × Int) : Ab.Spec ty := zk zcl fun x => ((F x.1 x.2.1).1, zch (F x.1 x.2.1).2)
def zcG (r : Int) : ARes ty := ⟨[.pure (.lit (.int .i64 r))], []⟩
def zcP : AL base (List Weighted × List Weighted × Unit × Unit) := zf (zg (vSl 52)) (zf (zg (vSl 52)) (zf (zg (vFn 85 vNil)) aNil))
def zbr (F : List Weighted → List Weighted → Bool × Int) : Ab.Spec ty := zk zcP fun x => ((F x.1 x.2.1).1, zcG (F x.1 x.2.1).2)
def zDi (zC : List Term → List Term → Bool × Int) (zD : Term → Term → Bool × Int) : Cx ty := mkCx base 8 [(86, (zbB zC)), (87, (zeN zD))] [] [] [] [] []
def znH (zC : List Term → List Term → Bool × Int) (zD : Term → Term → Bool × Int) (a : List Term) (b : List Term) : Wy0 (Int) := .bn (zC a b) fun r0 => .k r0
def zlO (zC : List Term → List Term → Bool × Int) (zD : Term → Term → Bool × Int) (a : List Term) (b : List Term) : Bool × Int := (znH zC zD a b).fin default
theorem zz7 (zC : List Term → List Term → Bool × Int) (zD : Term → Term → Bool × Int) (zg8 : Sound Tryz.prog base 86 (zbB zC)) (zlF : Sound Tryz.prog base 87 (zeN zD)) : Sound Tryz.prog base 38 (zdq (zlO zC zD)) :=
 zo (cx' := (zDi zC zD)) zH zm zy (zn ⟨zg8, zlF, trivial⟩) Tryz.call38 Tryz.func38 (c := body Tryz.f38) (by kernel_rfl) (zh (l := []) (by kernel_rfl) trivial) (sg := ⟨[.pure], []⟩) (A := zvw) (res := zui) (W := fun x => znH zC zD x.1 x.2.1) (z := default)
def zIB : Cx ty := mkCx base 6 [] [] [] [] [] []
def ztb (x_ : Int) : Wy0 (Bool) := .k (x_ != x_)
def zk0 (x_ : Int) : Bool × Bool := (ztb x_).fin default
def zxp (r : Bool) : ARes ty := ⟨[.pure (.lit (.bool r))], []⟩
def zAO : AL base (Int × Unit) := zf (zg (vInt .i64)) aNil
def zvO : Ab.Spec ty := zk zAO fun x => ((zk0 x.1).1, zxp (zk0 x.1).2)
theorem zES : Sound Tryz.prog base 136 zvO :=
 zo (cx' := zIB) zH zm zy (zn trivial) Tryz.call136 Tryz.func136 (c := body Tryz.f136) (by kernel_rfl) (zh (l := []) (by kernel_rfl) trivial) (sg := ⟨[.pure], []⟩) (A := zAO) (res := zxp) (W := fun x => ztb x.1) (z := default)
def zGu : Cx ty := mkCx base 20 [(136, zvO)] [] [] [] [] []
def zqA (x_ : Int) (y_ : Int) : Wy0 (Int) := .i ((zk0 x_).2) (.i ((zk0 y_).2) (.k 0) (.k (-1 : Int))) (.i ((zk0 y_).2) (.k 1) (.i (decide (x_ < y_)) (.k (-1 : Int)) (.i (decide (x_ > y_)) (.k 1) (.k 0))))
def zhz (x_ : Int) (y_ : Int) : Bool × Int := (zqA x_ y_).fin default
def zu9 (r : Int) : ARes ty := ⟨[.pure (.lit (.int .i64 r))], []⟩
def zw4 : AL base (Int × Int × Unit) := zf (zg (vInt .i64)) (zf (zg (vInt .i64)) aNil)
def zkg : Ab.Spec ty := zk zw4 fun x => ((zhz x.1 x.2.1).1, zu9 (zhz x.1 x.2.1).2)
theorem zm6 : Sound Tryz.prog base 79 zkg :=
 zo (cx' := zGu) zH zm zy (zn ⟨zES, trivial⟩) Tryz.call79 Tryz.func79 (c := body Tryz.f79) (by kernel_rfl) (zh (l := []) (by kernel_rfl) trivial) (sg := ⟨[.pure], []⟩) (A := zw4) (res := zu9) (W := fun x => zqA x.1 x.2.1) (z := default)
abbrev ttTcmpOrint0 := Int × List Int × Int × Int × Unit
def zzS (zero : Int) (t6 : List Int) (t7 : Int) (t8 : Int) : Wy ttTcmpOrint0 (Unit) (Int ⊕ Int) := .i (decide (t8 < t7)) (.i (decide (0 ≤ t8) && decide (t8 < Int.ofNat t6.length)) (.i (t6.getD t8.toNat default != zero) (.k (.inl (t6.getD t8.toNat default))) (.h (zero, t6, t7, (IntKind.i64.wrap (t8 + 1)), ()) ())) .d) (.k (.inr zero))
def zzC (x : ttTcmpOrint0) (y : Unit) : Wy ttTcmpOrint0 (Unit) (Int ⊕ Int) := zzS x.1 x.2.1 x.2.2.1 x.2.2.2.1
def zzF (n : Nat) (zero : Int) (t6 : List Int) (t7 : Int) (t8 : Int) : Bool × (Int ⊕ Int) := z7 (zzC) (.inl default) n (zero, t6, t7, t8, ()) ()
def zFu (r : Int ⊕ Int) : LTree ty := .ite (isL r) (.done .ret [.lit (.int .i64 (getL r))] []) (.done (.exit 0) [.lit (.int .i64 (getR r))] [])
def zGZ : LL ty ttTcmpOrint0 := za (lInt .i64) (za (lSl 3) (za (lInt .i64) (za (lInt .i64) zK)))
def zG7 : BL ty (Unit) := bNil
def zFt (x : ttTcmpOrint0) (y : Unit) : Nat := (Int.toNat x.1 + x.2.1.length + Int.toNat x.2.2.1 + Int.toNat x.2.2.2.1 + 1)
def zGT : Cx ty := mkCx base 18 [] [] [(3, [(3, .keep), (6, .keep), (7, .keep), (8, .keep)])] [(3, 1, [(3, .keep)]), (3, 0, [(2, .keep)])] [(3, spW zGZ zG7 (zzC) (.inl default) zFu zFt)] []
theorem zMu : zY zGT (lp (body Tryz.f88) 0) := zO (id := 3) (V := zGZ) (B := zG7) (W := zzC) (z := .inl default) (tr := zFu) (m := zFt)
def zBV (vals : List Int) : Wy0 (Int) := .bn (zzF (Int.toNat 0 + vals.length + (Int.ofNat vals.length).toNat + Int.toNat 0 + 1) 0 vals (Int.ofNat vals.length) 0) fun r0 => .i (isL r0) (.k (getL r0)) (.k (getR r0))
def zlI (vals : List Int) : Bool × Int := (zBV vals).fin default
def zFP (r : Int) : ARes ty := ⟨[.pure (.lit (.int .i64 r))], []⟩
def zIK : AL base (List Int × Unit) := zf (zg (vSl 3)) aNil
def zkZ : Ab.Spec ty := zk zIK fun x => ((zlI x.1).1, zFP (zlI x.1).2)
theorem zmu : Sound Tryz.prog base 88 zkZ :=
 zo (cx' := zGT) zH zm zy (zn trivial) Tryz.call88 Tryz.func88 (c := body Tryz.f88) (by kernel_rfl) (zh (l := [lp (body Tryz.f88) 0]) (by kernel_rfl) ⟨zMu, trivial⟩) (sg := ⟨[.pure], []⟩) (A := zIK) (res := zFP) (W := fun x => zBV x.1) (z := default)
def zz0 (zbT : Term → Term → Bool × Int) : Cx ty := mkCx base 15 [(71, (zfF zbT)), (79, zkg), (88, zkZ)] [] [] [] [] []
def zlR (zbT : Term → Term → Bool × Int) (x_ : Term) (y_ : Term) : Wy0 (Int) := .bn (zbT x_ y_) fun r2 => .bn (zhz x_.Coeff y_.Coeff) fun r1 => .bn (zlI [r2, r1]) fun r0 => .k r0
def zjL (zbT : Term → Term → Bool × Int) (x_ : Term) (y_ : Term) : Bool × Int := (zlR zbT x_ y_).fin default
theorem zwK (zbT : Term → Term → Bool × Int) (zyk : Sound Tryz.prog base 71 (zfF zbT)) : Sound Tryz.prog base 87 (zeN (zjL zbT)) :=
 zo (cx' := (zz0 zbT)) zH zm zy (zn ⟨zyk, zm6, zmu, trivial⟩) Tryz.call87 Tryz.func87 (c := body Tryz.f87) (by kernel_rfl) (zh (l := []) (by kernel_rfl) trivial) (sg := ⟨[.pure], []⟩) (A := zs7) (res := zrf) (W := fun x => zlR zbT x.1 x.2.1) (z := default)
def zKY : Cx ty := mkCx base 6 [] [] [] [] [] []
def zvs (x_ : Int) : Wy0 (Bool) := .k (x_ != x_)
def zng (x_ : Int) : Bool × Bool := (zvs x_).fin default
def zAl (r : Bool) : ARes ty := ⟨[.pure (.lit (.bool r))], []⟩
def zDz : AL base (Int × Unit) := zf (zg (vInt .i64)) aNil
def zyG : Ab.Spec ty := zk zDz fun x => ((zng x.1).1, zAl (zng x.1).2)
theorem zHS : Sound Tryz.prog base 161 zyG :=
 zo (cx' := zKY) zH zm zy (zn trivial) Tryz.call161 Tryz.func161 (c := body Tryz.f161) (by kernel_rfl) (zh (l := []) (by kernel_rfl) trivial) (sg := ⟨[.pure], []⟩) (A := zDz) (res := zAl) (W := fun x => zvs x.1) (z := default)
def zIc : Cx ty := mkCx base 20 [(161, zyG)] [] [] [] [] []
def zte (x_ : Int) (y_ : Int) : Wy0 (Int) := .i ((zng x_).2) (.i ((zng y_).2) (.k 0) (.k (-1 : Int))) (.i ((zng y_).2) (.k 1) (.i (decide (x_ < y_)) (.k (-1 : Int)) (.i (decide (x_ > y_)) (.k 1) (.k 0))))
def zd0 (x_ : Int) (y_ : Int) : Bool × Int := (zte x_ y_).fin default
def zxh (r : Int) : ARes ty := ⟨[.pure (.lit (.int .i64 r))], []⟩
def zAs : AL base (Int × Int × Unit) := zf (zg (vInt .i64)) (zf (zg (vInt .i64)) aNil)
def zlZ : Ab.Spec ty := zk zAs fun x => ((zd0 x.1 x.2.1).1, zxh (zd0 x.1 x.2.1).2)
theorem zoK : Sound Tryz.prog base 125 zlZ :=
 zo (cx' := zIc) zH zm zy (zn ⟨zHS, trivial⟩) Tryz.call125 Tryz.func125 (c := body Tryz.f125) (by kernel_rfl) (zh (l := []) (by kernel_rfl) trivial) (sg := ⟨[.pure], []⟩) (A := zAs) (res := zxh) (W := fun x => zte x.1 x.2.1) (z := default)
end Go.Proofs.YtnolcogncjijpaaGreatDoor
/-
 DERIVED: THE SHELF's CONTRACTS AT THIS DUMP, IN PLAIN WORDS (tools/lay-plain.mjs out of 'TryzShelf.lean', which tools/lay-shelf.mjs wrote): THE SAME DECLARATIONS UNDER THE SAME NAMES: 'import', 'namespace', 'open', 'def', 'theorem' AND NOTHING ELSE: no command of the shelf's: FOR A HAND-IN. Each laying: the table of numbers ('.._ren') and one theorem, a field a fact of the dump's own or the kernel's comparison; each contract: ONE APPLICATION.
-/
namespace Go.Proofs
open Go.Shelf
def Tryz.pdqTerm_ren : Go.Shelf.Ren := ⟨fun | 14 => 155 | 20 => 177 | 21 => 178 | 22 => 179 | 23 => 180 | 24 => 181 | 25 => 182 | 26 => 183 | 27 => 184 | 46 => 204 | 47 => 205 | 48 => 206 | 49 => 207 | 50 => 208 | 15 => 156 | 57 => 221 | 28 => 185 | 29 => 186 | n => n, fun | 24 => 42 | 22 => 22 | 3 => 3 | 25 => 80 | 4 => 4 | 0 => 0 | 46 => 170 | 45 => 169 | 50 => 108 | 66 => 190 | 39 => 143 | 55 => 178 | 70 => 194 | 76 => 205 | 77 => 206 | 53 => 176 | 5 => 5 | 9 => 9 | n => n, fun | n => n⟩
theorem Tryz.pdqTerm : Go.Proofs.SlLaysF0.n14 Tryz.prog Tryz.pdqTerm_ren := {
 mixed := by kernel_rfl
 f14 := ⟨Tryz.f155.name, by decide, Tryz.func155.trans (congrArg some (by kernel_rfl))⟩
 f15 := Tryz.func156.trans (congrArg some (by kernel_rfl))
 f20 := ⟨Tryz.f177.name, by decide, Tryz.func177.trans (congrArg some (by kernel_rfl))⟩
 f21 := ⟨Tryz.f178.name, by decide, Tryz.func178.trans (congrArg some (by kernel_rfl))⟩
 f22 := ⟨Tryz.f179.name, by decide, Tryz.func179.trans (congrArg some (by kernel_rfl))⟩
 f23 := ⟨Tryz.f180.name, by decide, Tryz.func180.trans (congrArg some (by kernel_rfl))⟩
 f24 := ⟨Tryz.f181.name, by decide, Tryz.func181.trans (congrArg some (by kernel_rfl))⟩
 f25 := ⟨Tryz.f182.name, by decide, Tryz.func182.trans (congrArg some (by kernel_rfl))⟩
 f26 := ⟨Tryz.f183.name, by decide, Tryz.func183.trans (congrArg some (by kernel_rfl))⟩
 f27 := ⟨Tryz.f184.name, by decide, Tryz.func184.trans (congrArg some (by kernel_rfl))⟩
 f28 := Tryz.func185.trans (congrArg some (by kernel_rfl))
 f29 := Tryz.func186.trans (congrArg some (by kernel_rfl))
 f46 := ⟨Tryz.f204.name, by decide, Tryz.func204.trans (congrArg some (by kernel_rfl))⟩
 f47 := Tryz.func205.trans (congrArg some (by kernel_rfl))
 f48 := Tryz.func206.trans (congrArg some (by kernel_rfl))
 f49 := ⟨Tryz.f207.name, by decide, Tryz.func207.trans (congrArg some (by kernel_rfl))⟩
 f50 := ⟨Tryz.f208.name, by decide, Tryz.func208.trans (congrArg some (by kernel_rfl))⟩
 f57 := ⟨Tryz.f221.name, by decide, Tryz.func221.trans (congrArg some (by kernel_rfl))⟩
 t0 := Tryz.underlying0
 a0 := Tryz.isAgg0
 z0 := Tryz.sizeOf0
 v0 := Tryz.zeroValue0
 t3 := Tryz.underlying3
 a3 := Tryz.isAgg3
 z3 := Tryz.sizeOf3
 v3 := Tryz.zeroValue3
 t4 := Tryz.underlying4
 a4 := Tryz.isAgg4
 z4 := Tryz.sizeOf4
 v4 := Tryz.zeroValue4
 t5 := Tryz.underlying5
 a5 := Tryz.isAgg5
 z5 := Tryz.sizeOf5
 v5 := Tryz.zeroValue5
 t9 := Tryz.underlying9
 a9 := Tryz.isAgg9
 z9 := Tryz.sizeOf9
 v9 := Tryz.zeroValue9
 t22 := Tryz.underlying22
 a22 := Tryz.isAgg22
 z22 := Tryz.sizeOf22
 v22 := Tryz.zeroValue22
 t25 := Tryz.underlying80
 a25 := Tryz.isAgg80
 z25 := Tryz.sizeOf80
 v25 := Tryz.zeroValue80
 t39 := Tryz.underlying143
 a39 := Tryz.isAgg143
 z39 := Tryz.sizeOf143
 v39 := Tryz.zeroValue143
 t45 := Tryz.underlying169
 a45 := Tryz.isAgg169
 z45 := Tryz.sizeOf169
 v45 := Tryz.zeroValue169
 t46 := Tryz.underlying170
 a46 := Tryz.isAgg170
 z46 := Tryz.sizeOf170
 v46 := Tryz.zeroValue170
 t50 := Tryz.underlying108
 a50 := Tryz.isAgg108
 z50 := Tryz.sizeOf108
 v50 := Tryz.zeroValue108
 t53 := Tryz.underlying176
 a53 := Tryz.isAgg176
 z53 := Tryz.sizeOf176
 v53 := Tryz.zeroValue176
 t55 := Tryz.underlying178
 a55 := Tryz.isAgg178
 z55 := Tryz.sizeOf178
 v55 := Tryz.zeroValue178
 t66 := Tryz.underlying190
 a66 := Tryz.isAgg190
 z66 := Tryz.sizeOf190
 v66 := Tryz.zeroValue190
 t70 := Tryz.underlying194
 a70 := Tryz.isAgg194
 z70 := Tryz.sizeOf194
 v70 := Tryz.zeroValue194
 t76 := Tryz.underlying205
 a76 := Tryz.isAgg205
 z76 := Tryz.sizeOf205
 v76 := Tryz.zeroValue205
 t77 := Tryz.underlying206
 a77 := Tryz.isAgg206
 z77 := Tryz.sizeOf206
 v77 := Tryz.zeroValue206 }
def Tryz.insW_ren : Go.Shelf.Ren := ⟨fun | 20 => 164 | n => n, fun | 24 => 52 | 22 => 44 | 3 => 3 | 25 => 89 | 4 => 4 | 0 => 0 | n => n, fun | n => n⟩
theorem Tryz.insW : Go.Proofs.SlLaysF0.n20 Tryz.prog Tryz.insW_ren := {
 mixed := by kernel_rfl
 f20 := ⟨Tryz.f164.name, by decide, Tryz.func164.trans (congrArg some (by kernel_rfl))⟩
 t0 := Tryz.underlying0
 a0 := Tryz.isAgg0
 z0 := Tryz.sizeOf0
 v0 := Tryz.zeroValue0
 t3 := Tryz.underlying3
 a3 := Tryz.isAgg3
 z3 := Tryz.sizeOf3
 v3 := Tryz.zeroValue3
 t4 := Tryz.underlying4
 a4 := Tryz.isAgg4
 z4 := Tryz.sizeOf4
 v4 := Tryz.zeroValue4
 t22 := Tryz.underlying44
 a22 := Tryz.isAgg44
 z22 := Tryz.sizeOf44
 v22 := Tryz.zeroValue44
 t25 := Tryz.underlying89
 a25 := Tryz.isAgg89
 z25 := Tryz.sizeOf89
 v25 := Tryz.zeroValue89 }
def Tryz.lays106_ren : Go.Shelf.Ren := ⟨fun | 106 => 162 | 213 => 187 | 265 => 209 | n => n, fun | 9 => 9 | 3 => 3 | n => n, fun | n => n⟩
theorem Tryz.lays106 : Go.Proofs.Lays.n106 Tryz.prog Tryz.lays106_ren := {
 mixed := by kernel_rfl
 f106 := Tryz.func162.trans (congrArg some (by kernel_rfl))
 f213 := Tryz.func187.trans (congrArg some (by kernel_rfl))
 f265 := Tryz.func209.trans (congrArg some (by kernel_rfl))
 t3 := Tryz.underlying3
 a3 := Tryz.isAgg3
 z3 := Tryz.sizeOf3
 v3 := Tryz.zeroValue3
 t9 := Tryz.underlying9
 a9 := Tryz.isAgg9
 z9 := Tryz.sizeOf9
 v9 := Tryz.zeroValue9 }
def Tryz.laysM173_ren : Go.Shelf.Ren := ⟨fun | 173 => 151 | 246 => 168 | 283 => 197 | 284 => 198 | 285 => 199 | 286 => 200 | 129 => 186 | 317 => 214 | 318 => 215 | 319 => 216 | 320 => 217 | 337 => 223 | 338 => 224 | n => n, fun | 2 => 2 | 3 => 3 | 9 => 9 | 4 => 4 | 171 => 184 | 0 => 0 | 53 => 178 | 37 => 156 | 5 => 5 | 173 => 186 | 212 => 199 | 51 => 176 | 20 => 20 | 213 => 200 | 46 => 143 | 232 => 211 | 233 => 212 | n => n, fun | 17 => 1 | 18 => 2 | 19 => 3 | n => n⟩
theorem Tryz.laysM173 : Go.Proofs.LaysM.n173 Tryz.prog Tryz.laysM173_ren := {
 mixed := by kernel_rfl
 f129 := Tryz.func186.trans (congrArg some (by kernel_rfl))
 f173 := Tryz.func151.trans (congrArg some (by kernel_rfl))
 f246 := Tryz.func168.trans (congrArg some (by kernel_rfl))
 f283 := Tryz.func197.trans (congrArg some (by kernel_rfl))
 f284 := Tryz.func198.trans (congrArg some (by kernel_rfl))
 f285 := Tryz.func199.trans (congrArg some (by kernel_rfl))
 f286 := Tryz.func200.trans (congrArg some (by kernel_rfl))
 f317 := Tryz.func214.trans (congrArg some (by kernel_rfl))
 f318 := Tryz.func215.trans (congrArg some (by kernel_rfl))
 f319 := Tryz.func216.trans (congrArg some (by kernel_rfl))
 f320 := Tryz.func217.trans (congrArg some (by kernel_rfl))
 f337 := Tryz.func223.trans (congrArg some (by kernel_rfl))
 f338 := Tryz.func224.trans (congrArg some (by kernel_rfl))
 t0 := Tryz.underlying0
 a0 := Tryz.isAgg0
 z0 := Tryz.sizeOf0
 v0 := Tryz.zeroValue0
 t2 := Tryz.underlying2
 a2 := Tryz.isAgg2
 z2 := Tryz.sizeOf2
 v2 := Tryz.zeroValue2
 t3 := Tryz.underlying3
 a3 := Tryz.isAgg3
 z3 := Tryz.sizeOf3
 v3 := Tryz.zeroValue3
 t4 := Tryz.underlying4
 a4 := Tryz.isAgg4
 z4 := Tryz.sizeOf4
 v4 := Tryz.zeroValue4
 t5 := Tryz.underlying5
 a5 := Tryz.isAgg5
 z5 := Tryz.sizeOf5
 v5 := Tryz.zeroValue5
 t9 := Tryz.underlying9
 a9 := Tryz.isAgg9
 z9 := Tryz.sizeOf9
 v9 := Tryz.zeroValue9
 t20 := Tryz.underlying20
 a20 := Tryz.isAgg20
 z20 := Tryz.sizeOf20
 v20 := Tryz.zeroValue20
 t37 := Tryz.underlying156
 a37 := Tryz.isAgg156
 z37 := Tryz.sizeOf156
 v37 := Tryz.zeroValue156
 t46 := Tryz.underlying143
 a46 := Tryz.isAgg143
 z46 := Tryz.sizeOf143
 v46 := Tryz.zeroValue143
 t51 := Tryz.underlying176
 a51 := Tryz.isAgg176
 z51 := Tryz.sizeOf176
 v51 := Tryz.zeroValue176
 t53 := Tryz.underlying178
 a53 := Tryz.isAgg178
 z53 := Tryz.sizeOf178
 v53 := Tryz.zeroValue178
 t171 := Tryz.underlying184
 a171 := Tryz.isAgg184
 z171 := Tryz.sizeOf184
 v171 := Tryz.zeroValue184
 t173 := Tryz.underlying186
 a173 := Tryz.isAgg186
 z173 := Tryz.sizeOf186
 v173 := Tryz.zeroValue186
 t212 := Tryz.underlying199
 a212 := Tryz.isAgg199
 z212 := Tryz.sizeOf199
 v212 := Tryz.zeroValue199
 t213 := Tryz.underlying200
 a213 := Tryz.isAgg200
 z213 := Tryz.sizeOf200
 t232 := Tryz.underlying211
 a232 := Tryz.isAgg211
 z232 := Tryz.sizeOf211
 v232 := Tryz.zeroValue211
 t233 := Tryz.underlying212
 a233 := Tryz.isAgg212
 z233 := Tryz.sizeOf212
 v233 := Tryz.zeroValue212
 g17 := by kernel_rfl
 g18 := by kernel_rfl
 g19 := by kernel_rfl
 i0 := by kernel_rfl
 i2 := by kernel_rfl
 i3 := by kernel_rfl
 i4 := by kernel_rfl
 i5 := by kernel_rfl
 i9 := by kernel_rfl
 i20 := by kernel_rfl
 i37 := by kernel_rfl
 i46 := by kernel_rfl
 i51 := by kernel_rfl
 i53 := by kernel_rfl
 i171 := by kernel_rfl
 i173 := by kernel_rfl
 i212 := by kernel_rfl
 i232 := by kernel_rfl
 i233 := by kernel_rfl
 m17 := by kernel_rfl
 m18 := by kernel_rfl
 m19 := by kernel_rfl }
def Tryz.laysM171_ren : Go.Shelf.Ren := ⟨fun | 171 => 154 | 243 => 176 | 246 => 168 | 283 => 197 | 284 => 198 | 285 => 199 | 286 => 200 | 129 => 186 | 317 => 214 | 318 => 215 | 319 => 216 | 320 => 217 | 337 => 223 | 338 => 224 | n => n, fun | 3 => 3 | 9 => 9 | 2 => 2 | 4 => 4 | 171 => 184 | 0 => 0 | 53 => 178 | 37 => 156 | 5 => 5 | 173 => 186 | 212 => 199 | 51 => 176 | 20 => 20 | 213 => 200 | 46 => 143 | 232 => 211 | 233 => 212 | n => n, fun | 17 => 1 | 18 => 2 | 19 => 3 | n => n⟩
theorem Tryz.laysM171 : Go.Proofs.LaysM.n171 Tryz.prog Tryz.laysM171_ren := {
 mixed := by kernel_rfl
 f129 := Tryz.func186.trans (congrArg some (by kernel_rfl))
 f171 := Tryz.func154.trans (congrArg some (by kernel_rfl))
 f243 := Tryz.func176.trans (congrArg some (by kernel_rfl))
 f246 := Tryz.func168.trans (congrArg some (by kernel_rfl))
 f283 := Tryz.func197.trans (congrArg some (by kernel_rfl))
 f284 := Tryz.func198.trans (congrArg some (by kernel_rfl))
 f285 := Tryz.func199.trans (congrArg some (by kernel_rfl))
 f286 := Tryz.func200.trans (congrArg some (by kernel_rfl))
 f317 := Tryz.func214.trans (congrArg some (by kernel_rfl))
 f318 := Tryz.func215.trans (congrArg some (by kernel_rfl))
 f319 := Tryz.func216.trans (congrArg some (by kernel_rfl))
 f320 := Tryz.func217.trans (congrArg some (by kernel_rfl))
 f337 := Tryz.func223.trans (congrArg some (by kernel_rfl))
 f338 := Tryz.func224.trans (congrArg some (by kernel_rfl))
 t0 := Tryz.underlying0
 a0 := Tryz.isAgg0
 z0 := Tryz.sizeOf0
 v0 := Tryz.zeroValue0
 t2 := Tryz.underlying2
 a2 := Tryz.isAgg2
 z2 := Tryz.sizeOf2
 v2 := Tryz.zeroValue2
 t3 := Tryz.underlying3
 a3 := Tryz.isAgg3
 z3 := Tryz.sizeOf3
 v3 := Tryz.zeroValue3
 t4 := Tryz.underlying4
 a4 := Tryz.isAgg4
 z4 := Tryz.sizeOf4
 v4 := Tryz.zeroValue4
 t5 := Tryz.underlying5
 a5 := Tryz.isAgg5
 z5 := Tryz.sizeOf5
 v5 := Tryz.zeroValue5
 t9 := Tryz.underlying9
 a9 := Tryz.isAgg9
 z9 := Tryz.sizeOf9
 v9 := Tryz.zeroValue9
 t20 := Tryz.underlying20
 a20 := Tryz.isAgg20
 z20 := Tryz.sizeOf20
 v20 := Tryz.zeroValue20
 t37 := Tryz.underlying156
 a37 := Tryz.isAgg156
 z37 := Tryz.sizeOf156
 v37 := Tryz.zeroValue156
 t46 := Tryz.underlying143
 a46 := Tryz.isAgg143
 z46 := Tryz.sizeOf143
 v46 := Tryz.zeroValue143
 t51 := Tryz.underlying176
 a51 := Tryz.isAgg176
 z51 := Tryz.sizeOf176
 v51 := Tryz.zeroValue176
 t53 := Tryz.underlying178
 a53 := Tryz.isAgg178
 z53 := Tryz.sizeOf178
 v53 := Tryz.zeroValue178
 t171 := Tryz.underlying184
 a171 := Tryz.isAgg184
 z171 := Tryz.sizeOf184
 v171 := Tryz.zeroValue184
 t173 := Tryz.underlying186
 a173 := Tryz.isAgg186
 z173 := Tryz.sizeOf186
 v173 := Tryz.zeroValue186
 t212 := Tryz.underlying199
 a212 := Tryz.isAgg199
 z212 := Tryz.sizeOf199
 v212 := Tryz.zeroValue199
 t213 := Tryz.underlying200
 a213 := Tryz.isAgg200
 z213 := Tryz.sizeOf200
 t232 := Tryz.underlying211
 a232 := Tryz.isAgg211
 z232 := Tryz.sizeOf211
 v232 := Tryz.zeroValue211
 t233 := Tryz.underlying212
 a233 := Tryz.isAgg212
 z233 := Tryz.sizeOf212
 v233 := Tryz.zeroValue212
 g17 := by kernel_rfl
 g18 := by kernel_rfl
 g19 := by kernel_rfl
 i0 := by kernel_rfl
 i2 := by kernel_rfl
 i3 := by kernel_rfl
 i4 := by kernel_rfl
 i5 := by kernel_rfl
 i9 := by kernel_rfl
 i20 := by kernel_rfl
 i37 := by kernel_rfl
 i46 := by kernel_rfl
 i51 := by kernel_rfl
 i53 := by kernel_rfl
 i171 := by kernel_rfl
 i173 := by kernel_rfl
 i212 := by kernel_rfl
 i232 := by kernel_rfl
 i233 := by kernel_rfl
 m17 := by kernel_rfl
 m18 := by kernel_rfl
 m19 := by kernel_rfl }
def Tryz.lays155_ren : Go.Shelf.Ren := ⟨fun | 155 => 203 | 154 => 220 | 138 => 225 | 165 => 169 | 143 => 226 | 166 => 170 | 197 => 227 | 169 => 171 | 195 => 228 | 218 => 229 | 240 => 201 | 241 => 202 | 219 => 230 | 260 => 231 | 276 => 218 | 277 => 219 | 217 => 232 | 225 => 233 | 224 => 234 | 267 => 235 | 266 => 236 | 314 => 237 | n => n, fun | 9 => 9 | 3 => 3 | 4 => 4 | 72 => 158 | 0 => 0 | 76 => 162 | 105 => 209 | 21 => 21 | 5 => 5 | 70 => 155 | 20 => 20 | 37 => 156 | 75 => 161 | 127 => 188 | 164 => 201 | 46 => 143 | 119 => 215 | 139 => 218 | 138 => 217 | 146 => 219 | 51 => 176 | 80 => 164 | n => n, fun | 1 => 0 | 3 => 4 | 4 => 5 | n => n⟩
theorem Tryz.lays155 : Go.Proofs.Lays.n155 Tryz.prog Tryz.lays155_ren := {
 mixed := by kernel_rfl
 f138 := Tryz.func225.trans (congrArg some (by kernel_rfl))
 f143 := Tryz.func226.trans (congrArg some (by kernel_rfl))
 f154 := Tryz.func220.trans (congrArg some (by kernel_rfl))
 f155 := Tryz.func203.trans (congrArg some (by kernel_rfl))
 f165 := Tryz.func169.trans (congrArg some (by kernel_rfl))
 f166 := Tryz.func170.trans (congrArg some (by kernel_rfl))
 f169 := Tryz.func171.trans (congrArg some (by kernel_rfl))
 f195 := Tryz.func228.trans (congrArg some (by kernel_rfl))
 f197 := Tryz.func227.trans (congrArg some (by kernel_rfl))
 f217 := Tryz.func232.trans (congrArg some (by kernel_rfl))
 f218 := Tryz.func229.trans (congrArg some (by kernel_rfl))
 f219 := Tryz.func230.trans (congrArg some (by kernel_rfl))
 f224 := Tryz.func234.trans (congrArg some (by kernel_rfl))
 f225 := Tryz.func233.trans (congrArg some (by kernel_rfl))
 f240 := Tryz.func201.trans (congrArg some (by kernel_rfl))
 f241 := Tryz.func202.trans (congrArg some (by kernel_rfl))
 f260 := Tryz.func231.trans (congrArg some (by kernel_rfl))
 f266 := Tryz.func236.trans (congrArg some (by kernel_rfl))
 f267 := Tryz.func235.trans (congrArg some (by kernel_rfl))
 f276 := Tryz.func218.trans (congrArg some (by kernel_rfl))
 f277 := Tryz.func219.trans (congrArg some (by kernel_rfl))
 f314 := Tryz.func237.trans (congrArg some (by kernel_rfl))
 t0 := Tryz.underlying0
 a0 := Tryz.isAgg0
 z0 := Tryz.sizeOf0
 v0 := Tryz.zeroValue0
 t3 := Tryz.underlying3
 a3 := Tryz.isAgg3
 z3 := Tryz.sizeOf3
 v3 := Tryz.zeroValue3
 t4 := Tryz.underlying4
 a4 := Tryz.isAgg4
 z4 := Tryz.sizeOf4
 v4 := Tryz.zeroValue4
 t5 := Tryz.underlying5
 a5 := Tryz.isAgg5
 z5 := Tryz.sizeOf5
 v5 := Tryz.zeroValue5
 t9 := Tryz.underlying9
 a9 := Tryz.isAgg9
 z9 := Tryz.sizeOf9
 v9 := Tryz.zeroValue9
 t20 := Tryz.underlying20
 a20 := Tryz.isAgg20
 z20 := Tryz.sizeOf20
 v20 := Tryz.zeroValue20
 t21 := Tryz.underlying21
 a21 := Tryz.isAgg21
 z21 := Tryz.sizeOf21
 v21 := Tryz.zeroValue21
 t37 := Tryz.underlying156
 a37 := Tryz.isAgg156
 z37 := Tryz.sizeOf156
 v37 := Tryz.zeroValue156
 t46 := Tryz.underlying143
 a46 := Tryz.isAgg143
 z46 := Tryz.sizeOf143
 v46 := Tryz.zeroValue143
 t51 := Tryz.underlying176
 a51 := Tryz.isAgg176
 z51 := Tryz.sizeOf176
 v51 := Tryz.zeroValue176
 t70 := Tryz.underlying155
 a70 := Tryz.isAgg155
 z70 := Tryz.sizeOf155
 v70 := Tryz.zeroValue155
 t72 := Tryz.underlying158
 a72 := Tryz.isAgg158
 z72 := Tryz.sizeOf158
 v72 := Tryz.zeroValue158
 t75 := Tryz.underlying161
 a75 := Tryz.isAgg161
 z75 := Tryz.sizeOf161
 v75 := Tryz.zeroValue161
 t76 := Tryz.underlying162
 a76 := Tryz.isAgg162
 z76 := Tryz.sizeOf162
 v76 := Tryz.zeroValue162
 t105 := Tryz.underlying209
 a105 := Tryz.isAgg209
 z105 := Tryz.sizeOf209
 v105 := Tryz.zeroValue209
 t119 := Tryz.underlying215
 a119 := Tryz.isAgg215
 z119 := Tryz.sizeOf215
 t127 := Tryz.underlying188
 a127 := Tryz.isAgg188
 z127 := Tryz.sizeOf188
 v127 := Tryz.zeroValue188
 t138 := Tryz.underlying217
 a138 := Tryz.isAgg217
 z138 := Tryz.sizeOf217
 v138 := Tryz.zeroValue217
 t139 := Tryz.underlying218
 a139 := Tryz.isAgg218
 z139 := Tryz.sizeOf218
 v139 := Tryz.zeroValue218
 t146 := Tryz.underlying219
 a146 := Tryz.isAgg219
 z146 := Tryz.sizeOf219
 v146 := Tryz.zeroValue219
 t164 := Tryz.underlying201
 a164 := Tryz.isAgg201
 z164 := Tryz.sizeOf201
 v164 := Tryz.zeroValue201
 g1 := by kernel_rfl
 g3 := by kernel_rfl
 g4 := by kernel_rfl }
theorem Tryz.Builder_Extra_155 : Builder.Extra Tryz.prog Tryz.lays155_ren := {
 sizeBuilder := by kernel_rfl
 liesBuilder := by kernel_rfl
 t5 := Tryz.underlying5
 a5 := Tryz.isAgg5
 z5 := Tryz.sizeOf5
 v5 := Tryz.zeroValue5
 infoByte := by kernel_rfl
 cellsByte := by kernel_rfl
 sizeByte := by kernel_rfl
 neB5 := by decide }
def Tryz.lays156_ren : Go.Shelf.Ren := ⟨fun | 156 => 152 | 165 => 169 | 166 => 170 | 169 => 171 | 240 => 201 | 241 => 202 | 276 => 218 | 277 => 219 | n => n, fun | 31 => 136 | 9 => 9 | 3 => 3 | 4 => 4 | 0 => 0 | 20 => 20 | 72 => 158 | 76 => 162 | 70 => 155 | 37 => 156 | 75 => 161 | 127 => 188 | 164 => 201 | 5 => 5 | 80 => 164 | n => n, fun | n => n⟩
theorem Tryz.lays156 : Go.Proofs.Lays.n156 Tryz.prog Tryz.lays156_ren := {
 mixed := by kernel_rfl
 f156 := Tryz.func152.trans (congrArg some (by kernel_rfl))
 f165 := Tryz.func169.trans (congrArg some (by kernel_rfl))
 f166 := Tryz.func170.trans (congrArg some (by kernel_rfl))
 f169 := Tryz.func171.trans (congrArg some (by kernel_rfl))
 f240 := Tryz.func201.trans (congrArg some (by kernel_rfl))
 f241 := Tryz.func202.trans (congrArg some (by kernel_rfl))
 f276 := Tryz.func218.trans (congrArg some (by kernel_rfl))
 f277 := Tryz.func219.trans (congrArg some (by kernel_rfl))
 t0 := Tryz.underlying0
 a0 := Tryz.isAgg0
 z0 := Tryz.sizeOf0
 v0 := Tryz.zeroValue0
 t3 := Tryz.underlying3
 a3 := Tryz.isAgg3
 z3 := Tryz.sizeOf3
 v3 := Tryz.zeroValue3
 t4 := Tryz.underlying4
 a4 := Tryz.isAgg4
 z4 := Tryz.sizeOf4
 v4 := Tryz.zeroValue4
 t9 := Tryz.underlying9
 a9 := Tryz.isAgg9
 z9 := Tryz.sizeOf9
 v9 := Tryz.zeroValue9
 t20 := Tryz.underlying20
 a20 := Tryz.isAgg20
 z20 := Tryz.sizeOf20
 v20 := Tryz.zeroValue20
 t31 := Tryz.underlying136
 a31 := Tryz.isAgg136
 z31 := Tryz.sizeOf136
 v31 := Tryz.zeroValue136
 t37 := Tryz.underlying156
 a37 := Tryz.isAgg156
 z37 := Tryz.sizeOf156
 v37 := Tryz.zeroValue156
 t70 := Tryz.underlying155
 a70 := Tryz.isAgg155
 z70 := Tryz.sizeOf155
 v70 := Tryz.zeroValue155
 t72 := Tryz.underlying158
 a72 := Tryz.isAgg158
 z72 := Tryz.sizeOf158
 v72 := Tryz.zeroValue158
 t75 := Tryz.underlying161
 a75 := Tryz.isAgg161
 z75 := Tryz.sizeOf161
 v75 := Tryz.zeroValue161
 t76 := Tryz.underlying162
 a76 := Tryz.isAgg162
 z76 := Tryz.sizeOf162
 v76 := Tryz.zeroValue162
 t127 := Tryz.underlying188
 a127 := Tryz.isAgg188
 z127 := Tryz.sizeOf188
 v127 := Tryz.zeroValue188
 t164 := Tryz.underlying201
 a164 := Tryz.isAgg201
 z164 := Tryz.sizeOf201
 v164 := Tryz.zeroValue201 }
theorem Tryz.Builder_Extra_156 : Builder.Extra Tryz.prog Tryz.lays156_ren := {
 sizeBuilder := by kernel_rfl
 liesBuilder := by kernel_rfl
 t5 := Tryz.underlying5
 a5 := Tryz.isAgg5
 z5 := Tryz.sizeOf5
 v5 := Tryz.zeroValue5
 infoByte := by kernel_rfl
 cellsByte := by kernel_rfl
 sizeByte := by kernel_rfl
 neB5 := by decide }
def Tryz.lays125_ren : Go.Shelf.Ren := ⟨fun | 125 => 156 | 128 => 185 | 129 => 186 | n => n, fun | 46 => 143 | 3 => 3 | 51 => 176 | 53 => 178 | 4 => 4 | 5 => 5 | 9 => 9 | n => n, fun | n => n⟩
theorem Tryz.lays125 : Go.Proofs.Lays.n125 Tryz.prog Tryz.lays125_ren := {
 mixed := by kernel_rfl
 f125 := Tryz.func156.trans (congrArg some (by kernel_rfl))
 f128 := Tryz.func185.trans (congrArg some (by kernel_rfl))
 f129 := Tryz.func186.trans (congrArg some (by kernel_rfl))
 t3 := Tryz.underlying3
 a3 := Tryz.isAgg3
 z3 := Tryz.sizeOf3
 v3 := Tryz.zeroValue3
 t4 := Tryz.underlying4
 a4 := Tryz.isAgg4
 z4 := Tryz.sizeOf4
 v4 := Tryz.zeroValue4
 t5 := Tryz.underlying5
 a5 := Tryz.isAgg5
 z5 := Tryz.sizeOf5
 v5 := Tryz.zeroValue5
 t9 := Tryz.underlying9
 a9 := Tryz.isAgg9
 z9 := Tryz.sizeOf9
 v9 := Tryz.zeroValue9
 t46 := Tryz.underlying143
 a46 := Tryz.isAgg143
 z46 := Tryz.sizeOf143
 v46 := Tryz.zeroValue143
 t51 := Tryz.underlying176
 a51 := Tryz.isAgg176
 z51 := Tryz.sizeOf176
 v51 := Tryz.zeroValue176
 t53 := Tryz.underlying178
 a53 := Tryz.isAgg178
 z53 := Tryz.sizeOf178
 v53 := Tryz.zeroValue178 }
end Go.Proofs
namespace Go.Proofs.YtnolcogncjijpaaGreatDoor
open Go Go.Ab
def strings_Compare (s p : ByteArray) : Bool × Int := zBM s p
def strings_Compare_spec : Ab.Spec ty := zk (cx := base) (zf (zg vStr) (zf (zg vStr) aNil)) fun x => ((strings_Compare x.1 x.2.1).1, ⟨[.pure (.lit (.int .i64 (strings_Compare x.1 x.2.1).2))], []⟩)
theorem zFe : Sound Tryz.prog base 162 strings_Compare_spec := zNI zm Go.Proofs.Tryz.lays106 Tryz.call162
end Go.Proofs.YtnolcogncjijpaaGreatDoor
namespace Go.Proofs.YtnolcogncjijpaaGreatDoor
open Go Go.Ab
def zKU : Cx ty := mkCx base 22 [(79, zkg), (88, zkZ), (125, zlZ), (162, strings_Compare_spec)] [] [] [] [] []
def zwr (a : Value) (b : Value) : Wy0 (Int) := .bn (zd0 a.Kind b.Kind) fun r2 => .bn (zhz a.Int b.Int) fun r1 => .bn (zlI [r2, r1, (strings_Compare a.Text b.Text).2]) fun r0 => .k r0
def znj (a : Value) (b : Value) : Bool × Int := (zwr a b).fin default
def zAo (r : Int) : ARes ty := ⟨[.pure (.lit (.int .i64 r))], []⟩
def zDH : AL base (Value × Value × Unit) := zf (zg (vAgg 46)) (zf (zg (vAgg 46)) aNil)
def zrR : Ab.Spec ty := zk zDH fun x => ((znj x.1 x.2.1).1, zAo (znj x.1 x.2.1).2)
theorem zxb : Sound Tryz.prog base 128 zrR :=
 zo (cx' := zKU) zH zm zy (zn ⟨zm6, zmu, zoK, zFe, trivial⟩) Tryz.call128 Tryz.func128 (c := body Tryz.f128) (by kernel_rfl) (zh (l := []) (by kernel_rfl) trivial) (sg := ⟨[.pure], []⟩) (A := zDH) (res := zAo) (W := fun x => zwr x.1 x.2.1) (z := default)
def zxX (zr : List Term → List Term → Bool × Int) (zx : Weighted → Weighted → Bool × Int) (zp : List (List Term) → List (List Term) → Bool × Int) (zw : List Weighted → List Weighted → Bool × Int) : Cx ty := mkCx base 51 [(38, (zdq zr)), (85, (zdp zx)), (88, zkZ), (125, zlZ), (126, (zbg zp)), (127, (zbr zw)), (128, zrR)] [] [] [] [] []
def zkr (zr : List Term → List Term → Bool × Int) (zx : Weighted → Weighted → Bool × Int) (zp : List (List Term) → List (List Term) → Bool × Int) (zw : List Weighted → List Weighted → Bool × Int) (a : Atom) (b : Atom) : Wy0 (Int) := .bn (zd0 a.Kind b.Kind) fun r8 => .bn (zd0 a.Row.Table b.Row.Table) fun r7 => .bn (zd0 a.Row.Seq b.Row.Seq) fun r6 => .bn (zp a.Args b.Args) fun r5 => .bn (zd0 a.Func b.Func) fun r4 => .bn (zw a.Items b.Items) fun r3 => .bn (zd0 a.Op b.Op) fun r2 => .bn (znj a.Bound b.Bound) fun r1 => .bn (zlI [r8, r7, r6, r5, r4, r3, r2, r1]) fun r0 => .k r0
def zis (zr : List Term → List Term → Bool × Int) (zx : Weighted → Weighted → Bool × Int) (zp : List (List Term) → List (List Term) → Bool × Int) (zw : List Weighted → List Weighted → Bool × Int) (a : Atom) (b : Atom) : Bool × Int := (zkr zr zx zp zw a b).fin default
theorem zvr (zr : List Term → List Term → Bool × Int) (zx : Weighted → Weighted → Bool × Int) (zp : List (List Term) → List (List Term) → Bool × Int) (zw : List Weighted → List Weighted → Bool × Int) (zhT : Sound Tryz.prog base 38 (zdq zr)) (zkv : Sound Tryz.prog base 85 (zdp zx)) (zes : Sound Tryz.prog base 126 (zbg zp)) (zfx : Sound Tryz.prog base 127 (zbr zw)) : Sound Tryz.prog base 73 (zfV (zis zr zx zp zw)) :=
 zo (cx' := (zxX zr zx zp zw)) zH zm zy (zn ⟨zhT, zkv, zmu, zoK, zes, zfx, zxb, trivial⟩) Tryz.call73 Tryz.func73 (c := body Tryz.f73) (by kernel_rfl) (zh (l := []) (by kernel_rfl) trivial) (sg := ⟨[.pure], []⟩) (A := zrg) (res := zpf) (W := fun x => zkr zr zx zp zw x.1 x.2.1) (z := default)
def zvz (zbV : Atom → Atom → Bool × Int) : Cx ty := mkCx base 17 [(73, (zfV zbV)), (88, zkZ), (125, zlZ)] [] [] [] [] []
def zjz (zbV : Atom → Atom → Bool × Int) (a : Factor) (b : Factor) : Wy0 (Int) := .bn (zbV (Atom.mk a.Atom.Kind a.Atom.Row a.Atom.Args a.Atom.Func a.Atom.Items a.Atom.Op a.Atom.Bound) (Atom.mk b.Atom.Kind b.Atom.Row b.Atom.Args b.Atom.Func b.Atom.Items b.Atom.Op b.Atom.Bound)) fun r2 => .bn (zd0 a.Exp b.Exp) fun r1 => .bn (zlI [r2, r1]) fun r0 => .k r0
def zhO (zbV : Atom → Atom → Bool × Int) (a : Factor) (b : Factor) : Bool × Int := (zjz zbV a b).fin default
theorem ztw (zbV : Atom → Atom → Bool × Int) (zzs : Sound Tryz.prog base 73 (zfV zbV)) : Sound Tryz.prog base 124 (zdN (zhO zbV)) :=
 zo (cx' := (zvz zbV)) zH zm zy (zn ⟨zzs, zmu, zoK, trivial⟩) Tryz.call124 Tryz.func124 (c := body Tryz.f124) (by kernel_rfl) (zh (l := []) (by kernel_rfl) trivial) (sg := ⟨[.pure], []⟩) (A := zpd) (res := zn4) (W := fun x => zjz zbV x.1 x.2.1) (z := default)
def zxR (zr : List Term → List Term → Bool × Int) : Cx ty := mkCx base 17 [(38, (zdq zr)), (88, zkZ), (128, zrR)] [] [] [] [] []
def zkA (zr : List Term → List Term → Bool × Int) (a : Weighted) (b : Weighted) : Wy0 (Int) := .bn (znj a.Value b.Value) fun r2 => .bn (zr a.Ann b.Ann) fun r1 => .bn (zlI [r2, r1]) fun r0 => .k r0
def zit (zr : List Term → List Term → Bool × Int) (a : Weighted) (b : Weighted) : Bool × Int := (zkA zr a b).fin default
theorem zvn (zr : List Term → List Term → Bool × Int) (zhT : Sound Tryz.prog base 38 (zdq zr)) : Sound Tryz.prog base 85 (zdp (zit zr)) :=
 zo (cx' := (zxR zr)) zH zm zy (zn ⟨zhT, zmu, zxb, trivial⟩) Tryz.call85 Tryz.func85 (c := body Tryz.f85) (by kernel_rfl) (zh (l := []) (by kernel_rfl) trivial) (sg := ⟨[.pure], []⟩) (A := zqT) (res := zpa) (W := fun x => zkA zr x.1 x.2.1) (z := default)
def zx8 (zG : List Factor → List Factor → Bool × Int) (zq : Factor → Factor → Bool × Int) : Cx ty := mkCx base 10 [(123, (zbD zG)), (124, (zdN zq))] [] [] [] [] []
def zkE (zG : List Factor → List Factor → Bool × Int) (zq : Factor → Factor → Bool × Int) (a : Term) (b : Term) : Wy0 (Int) := .bn (zG a.Factors b.Factors) fun r0 => .k r0
def ziq (zG : List Factor → List Factor → Bool × Int) (zq : Factor → Factor → Bool × Int) (a : Term) (b : Term) : Bool × Int := (zkE zG zq a b).fin default
theorem zvo (zG : List Factor → List Factor → Bool × Int) (zq : Factor → Factor → Bool × Int) (zhA : Sound Tryz.prog base 123 (zbD zG)) (zjy : Sound Tryz.prog base 124 (zdN zq)) : Sound Tryz.prog base 71 (zfF (ziq zG zq)) :=
 zo (cx' := (zx8 zG zq)) zH zm zy (zn ⟨zhA, zjy, trivial⟩) Tryz.call71 Tryz.func71 (c := body Tryz.f71) (by kernel_rfl) (zh (l := []) (by kernel_rfl) trivial) (sg := ⟨[.pure], []⟩) (A := zrc) (res := zpp) (W := fun x => zkE zG zq x.1 x.2.1) (z := default)
abbrev ttTslicesCompareFuncLapiAnnotationLapiAnnotationapiAnnotationapiAnnotation0 := List (List Term) × List (List Term) × Unit × List (List Term) × Int × Int × Unit
abbrev ttTslicesCompareFuncLapiAnnotationLapiAnnotationapiAnnotationapiAnnotation1 := Int ⊕ (List (List Term) × List (List Term))
def zej (zr : List Term → List Term → Bool × Int) (s1 : List (List Term)) (s2 : List (List Term)) (t11 : List (List Term)) (t12 : Int) (t13 : Int) : Wy ttTslicesCompareFuncLapiAnnotationLapiAnnotationapiAnnotationapiAnnotation0 (Unit) ttTslicesCompareFuncLapiAnnotationLapiAnnotationapiAnnotationapiAnnotation1 := .i (decide (t13 < t12)) (.i (decide (0 ≤ t13) && decide (t13 < Int.ofNat t11.length)) (.i (decide (t13 ≥ Int.ofNat s2.length)) (.k (.inl 1)) (.i (decide (0 ≤ t13) && decide (t13 < Int.ofNat s2.length)) (.bn (zr (t11.getD t13.toNat default) (s2.getD t13.toNat default)) fun r0 => .i (r0 != 0) (.k (.inl (r0))) (.h (s1, s2, (), t11, t12, (IntKind.i64.wrap (t13 + 1)), ()) ())) .d)) .d) (.k (.inr (s1, s2)))
def zbA (zr : List Term → List Term → Bool × Int) (x : ttTslicesCompareFuncLapiAnnotationLapiAnnotationapiAnnotationapiAnnotation0) (y : Unit) : Wy ttTslicesCompareFuncLapiAnnotationLapiAnnotationapiAnnotationapiAnnotation0 (Unit) ttTslicesCompareFuncLapiAnnotationLapiAnnotationapiAnnotationapiAnnotation1 := zej zr x.1 x.2.1 x.2.2.2.1 x.2.2.2.2.1 x.2.2.2.2.2.1
def zeh (zr : List Term → List Term → Bool × Int) (n : Nat) (s1 : List (List Term)) (s2 : List (List Term)) (t11 : List (List Term)) (t12 : Int) (t13 : Int) : Bool × ttTslicesCompareFuncLapiAnnotationLapiAnnotationapiAnnotationapiAnnotation1 := z7 (zbA zr) (.inl default) n (s1, s2, (), t11, t12, t13, ()) ()
def zb9 (r : ttTslicesCompareFuncLapiAnnotationLapiAnnotationapiAnnotationapiAnnotation1) : LTree ty := .ite (isL r) (.done .ret [.lit (.int .i64 (getL r))] []) (.done (.exit 0) [.sl 23 (getR r).1, .sl 23 (getR r).2] [])
def zcc : LL ty ttTslicesCompareFuncLapiAnnotationLapiAnnotationapiAnnotationapiAnnotation0 := za (lSl 23) (za (lSl 23) (za (lFn 38 (zK)) (za (lSl 23) (za (lInt .i64) (za (lInt .i64) zK)))))
def zcd : BL ty (Unit) := bNil
def zb8 (x : ttTslicesCompareFuncLapiAnnotationLapiAnnotationapiAnnotationapiAnnotation0) (y : Unit) : Nat := (x.1.length + x.2.1.length + x.2.2.2.1.length + Int.toNat x.2.2.2.2.1 + Int.toNat x.2.2.2.2.2.1 + 1)
def zce (zr : List Term → List Term → Bool × Int) : Cx ty := mkCx base 39 [(38, (zdq zr))] [] [(2, [(0, .keep), (1, .keep), (2, .keep), (11, .keep), (12, .keep), (13, .keep)])] [(2, 1, [(0, .keep), (1, .keep)]), (2, 0, [(6, .keep)])] [(2, spW zcc zcd (zbA zr) (.inl default) zb9 zb8)] []
theorem zee (zr : List Term → List Term → Bool × Int) : zY (zce zr) (lp (body Tryz.f126) 0) := zO (id := 2) (V := zcc) (B := zcd) (W := zbA zr) (z := .inl default) (tr := zb9) (m := zb8)
def zcj (zr : List Term → List Term → Bool × Int) (s1 : List (List Term)) (s2 : List (List Term)) : Wy0 (Int) := .bn (zeh zr (s1.length + s2.length + s1.length + (Int.ofNat s1.length).toNat + Int.toNat 0 + 1) s1 s2 s1 (Int.ofNat s1.length) 0) fun r2 => .i (isL r2) (.k (getL r2)) (.i (decide (Int.ofNat (getR r2).1.length < Int.ofNat (getR r2).2.length)) (.k (-1 : Int)) (.k 0))
def zbi (zr : List Term → List Term → Bool × Int) (s1 : List (List Term)) (s2 : List (List Term)) : Bool × Int := (zcj zr s1 s2).fin default
theorem zd3 (zr : List Term → List Term → Bool × Int) (zhT : Sound Tryz.prog base 38 (zdq zr)) : Sound Tryz.prog base 126 (zbg (zbi zr)) :=
 zo (cx' := (zce zr)) zH zm zy (zn ⟨zhT, trivial⟩) Tryz.call126 Tryz.func126 (c := body Tryz.f126) (by kernel_rfl) (zh (l := [lp (body Tryz.f126) 0]) (by kernel_rfl) ⟨zee zr, trivial⟩) (sg := ⟨[.pure], []⟩) (A := zcl) (res := zch) (W := fun x => zcj zr x.1 x.2.1) (z := default)
abbrev ttTslicesCompareFuncLapiFactorLapiFactorapiFactorapiFactor0 := List Factor × List Factor × Unit × List Factor × Int × Int × Unit
abbrev ttTslicesCompareFuncLapiFactorLapiFactorapiFactorapiFactor1 := Int ⊕ (List Factor × List Factor)
def zdg (zq : Factor → Factor → Bool × Int) (s1 : List Factor) (s2 : List Factor) (t11 : List Factor) (t12 : Int) (t13 : Int) : Wy ttTslicesCompareFuncLapiFactorLapiFactorapiFactorapiFactor0 (Unit) ttTslicesCompareFuncLapiFactorLapiFactorapiFactorapiFactor1 := .i (decide (t13 < t12)) (.i (decide (0 ≤ t13) && decide (t13 < Int.ofNat t11.length)) (.i (decide (t13 ≥ Int.ofNat s2.length)) (.k (.inl 1)) (.i (decide (0 ≤ t13) && decide (t13 < Int.ofNat s2.length)) (.bn (zq (FactorOf.mk (Atom.mk (t11.getD t13.toNat default).Atom.Kind (t11.getD t13.toNat default).Atom.Row (t11.getD t13.toNat default).Atom.Args (t11.getD t13.toNat default).Atom.Func (t11.getD t13.toNat default).Atom.Items (t11.getD t13.toNat default).Atom.Op (t11.getD t13.toNat default).Atom.Bound) (t11.getD t13.toNat default).Exp) (FactorOf.mk (Atom.mk (s2.getD t13.toNat default).Atom.Kind (s2.getD t13.toNat default).Atom.Row (s2.getD t13.toNat default).Atom.Args (s2.getD t13.toNat default).Atom.Func (s2.getD t13.toNat default).Atom.Items (s2.getD t13.toNat default).Atom.Op (s2.getD t13.toNat default).Atom.Bound) (s2.getD t13.toNat default).Exp)) fun r0 => .i (r0 != 0) (.k (.inl (r0))) (.h (s1, s2, (), t11, t12, (IntKind.i64.wrap (t13 + 1)), ()) ())) .d)) .d) (.k (.inr (s1, s2)))
def zbf (zq : Factor → Factor → Bool × Int) (x : ttTslicesCompareFuncLapiFactorLapiFactorapiFactorapiFactor0) (y : Unit) : Wy ttTslicesCompareFuncLapiFactorLapiFactorapiFactorapiFactor0 (Unit) ttTslicesCompareFuncLapiFactorLapiFactorapiFactorapiFactor1 := zdg zq x.1 x.2.1 x.2.2.2.1 x.2.2.2.2.1 x.2.2.2.2.2.1
def zdh (zq : Factor → Factor → Bool × Int) (n : Nat) (s1 : List Factor) (s2 : List Factor) (t11 : List Factor) (t12 : Int) (t13 : Int) : Bool × ttTslicesCompareFuncLapiFactorLapiFactorapiFactorapiFactor1 := z7 (zbf zq) (.inl default) n (s1, s2, (), t11, t12, t13, ()) ()
def zc9 (r : ttTslicesCompareFuncLapiFactorLapiFactorapiFactorapiFactor1) : LTree ty := .ite (isL r) (.done .ret [.lit (.int .i64 (getL r))] []) (.done (.exit 0) [.sl 50 (getR r).1, .sl 50 (getR r).2] [])
def zde : LL ty ttTslicesCompareFuncLapiFactorLapiFactorapiFactorapiFactor0 := za (lSl 50) (za (lSl 50) (za (lFn 124 (zK)) (za (lSl 50) (za (lInt .i64) (za (lInt .i64) zK)))))
def zdf : BL ty (Unit) := bNil
def zc6 (x : ttTslicesCompareFuncLapiFactorLapiFactorapiFactorapiFactor0) (y : Unit) : Nat := (x.1.length + x.2.1.length + x.2.2.2.1.length + Int.toNat x.2.2.2.2.1 + Int.toNat x.2.2.2.2.2.1 + 1)
def zdi (zq : Factor → Factor → Bool × Int) : Cx ty := mkCx base 39 [(124, (zdN zq))] [] [(2, [(0, .keep), (1, .keep), (2, .keep), (11, .keep), (12, .keep), (13, .keep)])] [(2, 1, [(0, .keep), (1, .keep)]), (2, 0, [(6, .keep)])] [(2, spW zde zdf (zbf zq) (.inl default) zc9 zc6)] []
theorem zg5 (zq : Factor → Factor → Bool × Int) : zY (zdi zq) (lp (body Tryz.f123) 0) := zO (id := 2) (V := zde) (B := zdf) (W := zbf zq) (z := .inl default) (tr := zc9) (m := zc6)
def zbZ (zq : Factor → Factor → Bool × Int) (s1 : List Factor) (s2 : List Factor) : Wy0 (Int) := .bn (zdh zq (s1.length + s2.length + s1.length + (Int.ofNat s1.length).toNat + Int.toNat 0 + 1) s1 s2 s1 (Int.ofNat s1.length) 0) fun r2 => .i (isL r2) (.k (getL r2)) (.i (decide (Int.ofNat (getR r2).1.length < Int.ofNat (getR r2).2.length)) (.k (-1 : Int)) (.k 0))
def zbm (zq : Factor → Factor → Bool × Int) (s1 : List Factor) (s2 : List Factor) : Bool × Int := (zbZ zq s1 s2).fin default
theorem zgz (zq : Factor → Factor → Bool × Int) (zjy : Sound Tryz.prog base 124 (zdN zq)) : Sound Tryz.prog base 123 (zbD (zbm zq)) :=
 zo (cx' := (zdi zq)) zH zm zy (zn ⟨zjy, trivial⟩) Tryz.call123 Tryz.func123 (c := body Tryz.f123) (by kernel_rfl) (zh (l := [lp (body Tryz.f123) 0]) (by kernel_rfl) ⟨zg5 zq, trivial⟩) (sg := ⟨[.pure], []⟩) (A := zdt) (res := zdl) (W := fun x => zbZ zq x.1 x.2.1) (z := default)
abbrev ttTslicesCompareFuncLapiWeightedLapiWeightedapiWeightedapiWeighted0 := List Weighted × List Weighted × Unit × List Weighted × Int × Int × Unit
abbrev ttTslicesCompareFuncLapiWeightedLapiWeightedapiWeightedapiWeighted1 := Int ⊕ (List Weighted × List Weighted)
def zff (zx : Weighted → Weighted → Bool × Int) (s1 : List Weighted) (s2 : List Weighted) (t11 : List Weighted) (t12 : Int) (t13 : Int) : Wy ttTslicesCompareFuncLapiWeightedLapiWeightedapiWeightedapiWeighted0 (Unit) ttTslicesCompareFuncLapiWeightedLapiWeightedapiWeightedapiWeighted1 := .i (decide (t13 < t12)) (.i (decide (0 ≤ t13) && decide (t13 < Int.ofNat t11.length)) (.i (decide (t13 ≥ Int.ofNat s2.length)) (.k (.inl 1)) (.i (decide (0 ≤ t13) && decide (t13 < Int.ofNat s2.length)) (.bn (zx (t11.getD t13.toNat default) (s2.getD t13.toNat default)) fun r0 => .i (r0 != 0) (.k (.inl (r0))) (.h (s1, s2, (), t11, t12, (IntKind.i64.wrap (t13 + 1)), ()) ())) .d)) .d) (.k (.inr (s1, s2)))
def zbH (zx : Weighted → Weighted → Bool × Int) (x : ttTslicesCompareFuncLapiWeightedLapiWeightedapiWeightedapiWeighted0) (y : Unit) : Wy ttTslicesCompareFuncLapiWeightedLapiWeightedapiWeightedapiWeighted0 (Unit) ttTslicesCompareFuncLapiWeightedLapiWeightedapiWeightedapiWeighted1 := zff zx x.1 x.2.1 x.2.2.2.1 x.2.2.2.2.1 x.2.2.2.2.2.1
def zfb (zx : Weighted → Weighted → Bool × Int) (n : Nat) (s1 : List Weighted) (s2 : List Weighted) (t11 : List Weighted) (t12 : Int) (t13 : Int) : Bool × ttTslicesCompareFuncLapiWeightedLapiWeightedapiWeightedapiWeighted1 := z7 (zbH zx) (.inl default) n (s1, s2, (), t11, t12, t13, ()) ()
def zcx (r : ttTslicesCompareFuncLapiWeightedLapiWeightedapiWeightedapiWeighted1) : LTree ty := .ite (isL r) (.done .ret [.lit (.int .i64 (getL r))] []) (.done (.exit 0) [.sl 52 (getR r).1, .sl 52 (getR r).2] [])
def zcA : LL ty ttTslicesCompareFuncLapiWeightedLapiWeightedapiWeightedapiWeighted0 := za (lSl 52) (za (lSl 52) (za (lFn 85 (zK)) (za (lSl 52) (za (lInt .i64) (za (lInt .i64) zK)))))
def zcz : BL ty (Unit) := bNil
def zct (x : ttTslicesCompareFuncLapiWeightedLapiWeightedapiWeightedapiWeighted0) (y : Unit) : Nat := (x.1.length + x.2.1.length + x.2.2.2.1.length + Int.toNat x.2.2.2.2.1 + Int.toNat x.2.2.2.2.2.1 + 1)
def zcy (zx : Weighted → Weighted → Bool × Int) : Cx ty := mkCx base 39 [(85, (zdp zx))] [] [(2, [(0, .keep), (1, .keep), (2, .keep), (11, .keep), (12, .keep), (13, .keep)])] [(2, 1, [(0, .keep), (1, .keep)]), (2, 0, [(6, .keep)])] [(2, spW zcA zcz (zbH zx) (.inl default) zcx zct)] []
theorem ze7 (zx : Weighted → Weighted → Bool × Int) : zY (zcy zx) (lp (body Tryz.f127) 0) := zO (id := 2) (V := zcA) (B := zcz) (W := zbH zx) (z := .inl default) (tr := zcx) (m := zct)
def zcH (zx : Weighted → Weighted → Bool × Int) (s1 : List Weighted) (s2 : List Weighted) : Wy0 (Int) := .bn (zfb zx (s1.length + s2.length + s1.length + (Int.ofNat s1.length).toNat + Int.toNat 0 + 1) s1 s2 s1 (Int.ofNat s1.length) 0) fun r2 => .i (isL r2) (.k (getL r2)) (.i (decide (Int.ofNat (getR r2).1.length < Int.ofNat (getR r2).2.length)) (.k (-1 : Int)) (.k 0))
def zbt (zx : Weighted → Weighted → Bool × Int) (s1 : List Weighted) (s2 : List Weighted) : Bool × Int := (zcH zx s1 s2).fin default
theorem zeO (zx : Weighted → Weighted → Bool × Int) (zkv : Sound Tryz.prog base 85 (zdp zx)) : Sound Tryz.prog base 127 (zbr (zbt zx)) :=
 zo (cx' := (zcy zx)) zH zm zy (zn ⟨zkv, trivial⟩) Tryz.call127 Tryz.func127 (c := body Tryz.f127) (by kernel_rfl) (zh (l := [lp (body Tryz.f127) 0]) (by kernel_rfl) ⟨ze7 zx, trivial⟩) (sg := ⟨[.pure], []⟩) (A := zcP) (res := zcG) (W := fun x => zcH zx x.1 x.2.1) (z := default)
abbrev ttTslicesCompareFuncapiAnnotationapiAnnotationapiTermapiTerm0 := List Term × List Term × Unit × List Term × Int × Int × Unit
abbrev ttTslicesCompareFuncapiAnnotationapiAnnotationapiTermapiTerm1 := Int ⊕ (List Term × List Term)
def zgN (zD : Term → Term → Bool × Int) (s1 : List Term) (s2 : List Term) (t11 : List Term) (t12 : Int) (t13 : Int) : Wy ttTslicesCompareFuncapiAnnotationapiAnnotationapiTermapiTerm0 (Unit) ttTslicesCompareFuncapiAnnotationapiAnnotationapiTermapiTerm1 := .i (decide (t13 < t12)) (.i (decide (0 ≤ t13) && decide (t13 < Int.ofNat t11.length)) (.i (decide (t13 ≥ Int.ofNat s2.length)) (.k (.inl 1)) (.i (decide (0 ≤ t13) && decide (t13 < Int.ofNat s2.length)) (.bn (zD (t11.getD t13.toNat default) (s2.getD t13.toNat default)) fun r0 => .i (r0 != 0) (.k (.inl (r0))) (.h (s1, s2, (), t11, t12, (IntKind.i64.wrap (t13 + 1)), ()) ())) .d)) .d) (.k (.inr (s1, s2)))
def zbM (zD : Term → Term → Bool × Int) (x : ttTslicesCompareFuncapiAnnotationapiAnnotationapiTermapiTerm0) (y : Unit) : Wy ttTslicesCompareFuncapiAnnotationapiAnnotationapiTermapiTerm0 (Unit) ttTslicesCompareFuncapiAnnotationapiAnnotationapiTermapiTerm1 := zgN zD x.1 x.2.1 x.2.2.2.1 x.2.2.2.2.1 x.2.2.2.2.2.1
def zgO (zD : Term → Term → Bool × Int) (n : Nat) (s1 : List Term) (s2 : List Term) (t11 : List Term) (t12 : Int) (t13 : Int) : Bool × ttTslicesCompareFuncapiAnnotationapiAnnotationapiTermapiTerm1 := z7 (zbM zD) (.inl default) n (s1, s2, (), t11, t12, t13, ()) ()
def zcV (r : ttTslicesCompareFuncapiAnnotationapiAnnotationapiTermapiTerm1) : LTree ty := .ite (isL r) (.done .ret [.lit (.int .i64 (getL r))] []) (.done (.exit 0) [.sl 42 (getR r).1, .sl 42 (getR r).2] [])
def zc1 : LL ty ttTslicesCompareFuncapiAnnotationapiAnnotationapiTermapiTerm0 := za (lSl 42) (za (lSl 42) (za (lFn 87 (zK)) (za (lSl 42) (za (lInt .i64) (za (lInt .i64) zK)))))
def zc2 : BL ty (Unit) := bNil
def zcW (x : ttTslicesCompareFuncapiAnnotationapiAnnotationapiTermapiTerm0) (y : Unit) : Nat := (x.1.length + x.2.1.length + x.2.2.2.1.length + Int.toNat x.2.2.2.2.1 + Int.toNat x.2.2.2.2.2.1 + 1)
def zc0 (zD : Term → Term → Bool × Int) : Cx ty := mkCx base 39 [(87, (zeN zD))] [] [(2, [(0, .keep), (1, .keep), (2, .keep), (11, .keep), (12, .keep), (13, .keep)])] [(2, 1, [(0, .keep), (1, .keep)]), (2, 0, [(6, .keep)])] [(2, spW zc1 zc2 (zbM zD) (.inl default) zcV zcW)] []
theorem zgw (zD : Term → Term → Bool × Int) : zY (zc0 zD) (lp (body Tryz.f86) 0) := zO (id := 2) (V := zc1) (B := zc2) (W := zbM zD) (z := .inl default) (tr := zcV) (m := zcW)
def zc7 (zD : Term → Term → Bool × Int) (s1 : List Term) (s2 : List Term) : Wy0 (Int) := .bn (zgO zD (s1.length + s2.length + s1.length + (Int.ofNat s1.length).toNat + Int.toNat 0 + 1) s1 s2 s1 (Int.ofNat s1.length) 0) fun r2 => .i (isL r2) (.k (getL r2)) (.i (decide (Int.ofNat (getR r2).1.length < Int.ofNat (getR r2).2.length)) (.k (-1 : Int)) (.k 0))
def zbz (zD : Term → Term → Bool × Int) (s1 : List Term) (s2 : List Term) : Bool × Int := (zc7 zD s1 s2).fin default
theorem zfX (zD : Term → Term → Bool × Int) (zlF : Sound Tryz.prog base 87 (zeN zD)) : Sound Tryz.prog base 86 (zbB (zbz zD)) :=
 zo (cx' := (zc0 zD)) zH zm zy (zn ⟨zlF, trivial⟩) Tryz.call86 Tryz.func86 (c := body Tryz.f86) (by kernel_rfl) (zh (l := [lp (body Tryz.f86) 0]) (by kernel_rfl) ⟨zgw zD, trivial⟩) (sg := ⟨[.pure], []⟩) (A := zdn) (res := zdb) (W := fun x => zc7 zD x.1 x.2.1) (z := default)
def zbL : Nat → (List Term → List Term → Bool × Int) × (Term → Term → Bool × Int) × (Term → Term → Bool × Int) × (Factor → Factor → Bool × Int) × (Atom → Atom → Bool × Int) × (Weighted → Weighted → Bool × Int) × (List Term → List Term → Bool × Int) × (List Factor → List Factor → Bool × Int) × (List (List Term) → List (List Term) → Bool × Int) × (List Weighted → List Weighted → Bool × Int)
 | 0 => (fun _ _ => (false, default), fun _ _ => (false, default), fun _ _ => (false, default), fun _ _ => (false, default), fun _ _ => (false, default), fun _ _ => (false, default), fun _ _ => (false, default), fun _ _ => (false, default), fun _ _ => (false, default), fun _ _ => (false, default))
 | n + 1 => (zlO ((zbL n).2.2.2.2.2.2.1) ((zbL n).2.1), zjL ((zbL n).2.2.1), ziq ((zbL n).2.2.2.2.2.2.2.1) ((zbL n).2.2.2.1), zhO ((zbL n).2.2.2.2.1), zis ((zbL n).1) ((zbL n).2.2.2.2.2.1) ((zbL n).2.2.2.2.2.2.2.2.1) ((zbL n).2.2.2.2.2.2.2.2.2), zit ((zbL n).1), zbz ((zbL n).2.1), zbm ((zbL n).2.2.2.1), zbi ((zbL n).1), zbt ((zbL n).2.2.2.2.2.1))
def zeS (n : Nat) : List Term → List Term → Bool × Int := (zbL n).1
def zhe (n : Nat) : Term → Term → Bool × Int := (zbL n).2.1
def zfD (n : Nat) : Term → Term → Bool × Int := (zbL n).2.2.1
def zeJ (n : Nat) : Factor → Factor → Bool × Int := (zbL n).2.2.2.1
def zfT (n : Nat) : Atom → Atom → Bool × Int := (zbL n).2.2.2.2.1
def zd8 (n : Nat) : Weighted → Weighted → Bool × Int := (zbL n).2.2.2.2.2.1
def zby (n : Nat) : List Term → List Term → Bool × Int := (zbL n).2.2.2.2.2.2.1
def zbE (n : Nat) : List Factor → List Factor → Bool × Int := (zbL n).2.2.2.2.2.2.2.1
def zbh (n : Nat) : List (List Term) → List (List Term) → Bool × Int := (zbL n).2.2.2.2.2.2.2.2.1
def zbs (n : Nat) : List Weighted → List Weighted → Bool × Int := (zbL n).2.2.2.2.2.2.2.2.2
theorem zDm (n : Nat) : zeS (n + 1) = zlO (zby n) (zhe n) := rfl
theorem zzQ (n : Nat) : zhe (n + 1) = zjL (zfD n) := rfl
theorem zx5 (n : Nat) : zfD (n + 1) = ziq (zbE n) (zeJ n) := rfl
theorem zwk (n : Nat) : zeJ (n + 1) = zhO (zfT n) := rfl
theorem zxQ (n : Nat) : zfT (n + 1) = zis (zeS n) (zd8 n) (zbh n) (zbs n) := rfl
theorem zxx (n : Nat) : zd8 (n + 1) = zit (zeS n) := rfl
theorem zgP (n : Nat) : zby (n + 1) = zbz (zhe n) := rfl
theorem zht (n : Nat) : zbE (n + 1) = zbm (zeJ n) := rfl
theorem zek (n : Nat) : zbh (n + 1) = zbi (zeS n) := rfl
theorem zfg (n : Nat) : zbs (n + 1) = zbt (zd8 n) := rfl
theorem zqm : ∀ n, Sound Tryz.prog base 38 (zdq (zeS n)) ∧ Sound Tryz.prog base 87 (zeN (zhe n)) ∧ Sound Tryz.prog base 71 (zfF (zfD n)) ∧ Sound Tryz.prog base 124 (zdN (zeJ n)) ∧ Sound Tryz.prog base 73 (zfV (zfT n)) ∧ Sound Tryz.prog base 85 (zdp (zd8 n)) ∧ Sound Tryz.prog base 86 (zbB (zby n)) ∧ Sound Tryz.prog base 123 (zbD (zbE n)) ∧ Sound Tryz.prog base 126 (zbg (zbh n)) ∧ Sound Tryz.prog base 127 (zbr (zbs n))
 | 0 => ⟨zbj Tryz.call38 (fun _ => rfl), zbj Tryz.call87 (fun _ => rfl), zbj Tryz.call71 (fun _ => rfl), zbj Tryz.call124 (fun _ => rfl), zbj Tryz.call73 (fun _ => rfl), zbj Tryz.call85 (fun _ => rfl), zbj Tryz.call86 (fun _ => rfl), zbj Tryz.call123 (fun _ => rfl), zbj Tryz.call126 (fun _ => rfl), zbj Tryz.call127 (fun _ => rfl)⟩
 | n + 1 => by
  have ih := zqm n
  exact ⟨zz7 _ _ (ih.2.2.2.2.2.2.1) (ih.2.1), zwK _ (ih.2.2.1), zvo _ _ (ih.2.2.2.2.2.2.2.1) (ih.2.2.2.1), ztw _ (ih.2.2.2.2.1), zvr _ _ _ _ (ih.1) (ih.2.2.2.2.2.1) (ih.2.2.2.2.2.2.2.2.1) (ih.2.2.2.2.2.2.2.2.2), zvn _ (ih.1), zfX _ (ih.2.1), zgz _ (ih.2.2.2.1), zd3 _ (ih.1), zeO _ (ih.2.2.2.2.2.1)⟩
def zsj : List Term → List Term → Bool × Int := zeS 1000
def annotation_Compare_spec : Ab.Spec ty := zdq zsj
theorem zCd : Sound Tryz.prog base 38 annotation_Compare_spec := (zqm 1000).1
def zbF : Term → Term → Bool × Int := zfD 1000
def annotation_compareLists_spec : Ab.Spec ty := zfF zbF
theorem zjD : Sound Tryz.prog base 71 annotation_compareLists_spec := (zqm 1000).2.2.1
def zhp : Atom → Atom → Bool × Int := zfT 1000
def annotation_compareAtoms_spec : Ab.Spec ty := zfV zhp
theorem zn3 : Sound Tryz.prog base 73 annotation_compareAtoms_spec := (zqm 1000).2.2.2.2.1
def zbu : Weighted → Weighted → Bool × Int := zd8 1000
def annotation_compareItems_spec : Ab.Spec ty := zdp zbu
theorem zgk : Sound Tryz.prog base 85 annotation_compareItems_spec := (zqm 1000).2.2.2.2.2.1
def zwC (r : Bool) : ARes ty := ⟨[.pure (.lit (.bool r))], []⟩
def zzd : AL base (List Term × Unit) := zf (zg (vSl 42)) aNil
def zgo (F : List Term → Bool × Bool) : Ab.Spec ty := zk zzd fun x => ((F x.1).1, zwC (F x.1).2)
def zb2 (r : Bool) : ARes ty := ⟨[.pure (.lit (.bool r))], []⟩
def ztQ : AL base (Atom × Unit) := zf (zg (vAgg 48)) aNil
def zkn (F : Atom → Bool × Bool) : Ab.Spec ty := zk ztQ fun x => ((F x.1).1, zb2 (F x.1).2)
def zpk (r : Bool) : ARes ty := ⟨[.pure (.lit (.bool r))], []⟩
def zqU : AL base (List Term × Unit) := zf (zg (vSl 42)) aNil
def zcJ (F : List Term → Bool × Bool) : Ab.Spec ty := zk zqU fun x => ((F x.1).1, zpk (F x.1).2)
def zo7 (r : Bool) : ARes ty := ⟨[.pure (.lit (.bool r))], []⟩
def zq8 : AL base (Weighted × Unit) := zf (zg (vAgg 52)) aNil
def zcM (F : Weighted → Bool × Bool) : Ab.Spec ty := zk zq8 fun x => ((F x.1).1, zo7 (F x.1).2)
def zeE (r : Int) : ARes ty := ⟨[.pure (.lit (.int .i64 r))], []⟩
def ze9 : AL base (List (List Term) × Unit × Unit) := zf (zg (vSl 23)) (zf (zg (vFn 130 vNil)) aNil)
def zb6 (F : List (List Term) → Bool × Int) : Ab.Spec ty := zk ze9 fun x => ((F x.1).1, zeE (F x.1).2)
def zef (r : Bool) : ARes ty := ⟨[.pure (.lit (.bool r))], []⟩
def zex : AL base (List (List Term) × Unit × Unit) := zf (zg (vSl 23)) (zf (zg (vFn 130 vNil)) aNil)
def zbS (F : List (List Term) → Bool × Bool) : Ab.Spec ty := zk zex fun x => ((F x.1).1, zef (F x.1).2)
def zfJ (r : Int) : ARes ty := ⟨[.pure (.lit (.int .i64 r))], []⟩
def zgL : AL base (List Weighted × Unit × Unit) := zf (zg (vSl 52)) (zf (zg (vFn 131 vNil)) aNil)
def zcr (F : List Weighted → Bool × Int) : Ab.Spec ty := zk zgL fun x => ((F x.1).1, zfJ (F x.1).2)
def zeT (r : Bool) : ARes ty := ⟨[.pure (.lit (.bool r))], []⟩
def zfs : AL base (List Weighted × Unit × Unit) := zf (zg (vSl 52)) (zf (zg (vFn 131 vNil)) aNil)
def zcb (F : List Weighted → Bool × Bool) : Ab.Spec ty := zk zfs fun x => ((F x.1).1, zeT (F x.1).2)
def zBX : Cx ty := mkCx base 11 [] [] [] [] [] []
def zm1 (x_ : Atom) : Wy0 (Bool) := .i (x_.Kind == 3) (.k true) (.k (x_.Kind == 4))
def zep (x_ : Atom) : Bool × Bool := (zm1 x_).fin default
def zqZ (r : Bool) : ARes ty := ⟨[.pure (.lit (.bool r))], []⟩
def zsM : AL base (Atom × Unit) := zf (zg (vAgg 48)) aNil
def zh4 : Ab.Spec ty := zk zsM fun x => ((zep x.1).1, zqZ (zep x.1).2)
theorem zku : Sound Tryz.prog base 72 zh4 :=
 zo (cx' := zBX) zH zm zy (zn trivial) Tryz.call72 Tryz.func72 (c := body Tryz.f72) (by kernel_rfl) (zh (l := []) (by kernel_rfl) trivial) (sg := ⟨[.pure], []⟩) (A := zsM) (res := zqZ) (W := fun x => zm1 x.1) (z := default)
def zwY (r : Int) : ARes ty := ⟨[.pure (.lit (.int .i64 r))], []⟩
def zAm : AL base (List Term × Unit) := zf (zg (vSl 42)) aNil
def zlv (F : List Term → Bool × Int) : Ab.Spec ty := zk zAm fun x => ((F x.1).1, zwY (F x.1).2)
abbrev ttTannotationSize0 := Int × Unit × List Term × Int × Int × List Factor × Int × Int × List (List Term) × Int × Int × Unit
abbrev ttTannotationSize1 := Int × List Term × Int × Int × List Factor × Int × Int × Factor
abbrev ttTannotationSize2 := Int × List Term × Int × Int × List Factor × Int × Int × List Weighted × Int × Int × Unit
abbrev ttTannotationSize3 := Int × List Term × Int × Int × List Factor × Int × Int
abbrev ttTannotationSize4 := Int × List Term × Int × Int × List Factor × Int × Int × Unit
abbrev ttTannotationSize5 := Int × List Term × Int × Int
abbrev ttTannotationSize6 := Int × List Term × Int × Int × Unit
def zik (zl : List Term → Bool × Int) (n_ : Int) (t12 : List Term) (t13 : Int) (t14 : Int) (t25 : List Factor) (t26 : Int) (t27 : Int) (t33 : List (List Term)) (t34 : Int) (t35 : Int) (f : Factor) : Wy ttTannotationSize0 (Factor × Unit) ttTannotationSize1 := .i (decide (t35 < t34)) (.i (decide (0 ≤ t35) && decide (t35 < Int.ofNat t33.length)) (.bn (zl (t33.getD t35.toNat default)) fun r0 => .h ((IntKind.i64.wrap (n_ + r0)), (), t12, t13, t14, t25, t26, t27, t33, t34, (IntKind.i64.wrap (t35 + 1)), ()) (f, ())) .d) (.k (n_, t12, t13, t14, t25, t26, t27, f))
def zkV (zl : List Term → Bool × Int) (x : ttTannotationSize0) (y : Factor × Unit) : Wy ttTannotationSize0 (Factor × Unit) ttTannotationSize1 := zik zl x.1 x.2.2.1 x.2.2.2.1 x.2.2.2.2.1 x.2.2.2.2.2.1 x.2.2.2.2.2.2.1 x.2.2.2.2.2.2.2.1 x.2.2.2.2.2.2.2.2.1 x.2.2.2.2.2.2.2.2.2.1 x.2.2.2.2.2.2.2.2.2.2.1 y.1
def zuU (zl : List Term → Bool × Int) (n : Nat) (n_ : Int) (t12 : List Term) (t13 : Int) (t14 : Int) (t25 : List Factor) (t26 : Int) (t27 : Int) (t33 : List (List Term)) (t34 : Int) (t35 : Int) (f : Factor) : Bool × ttTannotationSize1 := z7 (zkV zl) default n (n_, (), t12, t13, t14, t25, t26, t27, t33, t34, t35, ()) (f, ())
def zt7 (r : ttTannotationSize1) : LTree ty := .done (.exit 4) [.lit (.int .i64 r.1), .ptr 248 0, .sl 42 r.2.1, .lit (.int .i64 r.2.2.1), .lit (.int .i64 r.2.2.2.1), .sl 50 r.2.2.2.2.1, .lit (.int .i64 r.2.2.2.2.2.1), .lit (.int .i64 r.2.2.2.2.2.2.1)] [.box (base.enc 50 r.2.2.2.2.2.2.2) false]
def zuI : LL ty ttTannotationSize0 := za (lInt .i64) (za (zg3 248 0) (za (lSl 42) (za (lInt .i64) (za (lInt .i64) (za (lSl 50) (za (lInt .i64) (za (lInt .i64) (za (lSl 23) (za (lInt .i64) (za (lInt .i64) zK))))))))))
def zvf : BL ty (Factor × Unit) := bBox (ziu (fun x => (⟨⟨x.1, ⟨x.2.1, x.2.2.1⟩, x.2.2.2.1, x.2.2.2.2.1, x.2.2.2.2.2.1, x.2.2.2.2.2.2.1, ⟨x.2.2.2.2.2.2.2.1, x.2.2.2.2.2.2.2.2.1, x.2.2.2.2.2.2.2.2.2.1⟩⟩, x.2.2.2.2.2.2.2.2.2.2.1⟩ : Factor)) (fun x => (x.Atom.Kind, x.Atom.Row.Table, x.Atom.Row.Seq, x.Atom.Args, x.Atom.Func, x.Atom.Items, x.Atom.Op, x.Atom.Bound.Kind, x.Atom.Bound.Int, x.Atom.Bound.Text, x.Exp, ())) (fun _ => rfl) (za (lInt .i64) (za (lInt .i64) (za (lInt .i64) (za (lSl 23) (za (lInt .i64) (za (lSl 52) (za (lInt .i64) (za (lInt .i64) (za (lInt .i64) (za lStr (za (lInt .i64) zK)))))))))))) false (bNil)
def zin (zl : List Term → Bool × Int) (n_ : Int) (t12 : List Term) (t13 : Int) (t14 : Int) (t25 : List Factor) (t26 : Int) (t27 : Int) (t46 : List Weighted) (t47 : Int) (t48 : Int) : Wy ttTannotationSize2 (Unit) ttTannotationSize3 := .i (decide (t48 < t47)) (.i (decide (0 ≤ t48) && decide (t48 < Int.ofNat t46.length)) (.bn (zl (t46.getD t48.toNat default).Ann) fun r2 => .h ((IntKind.i64.wrap (n_ + IntKind.i64.wrap (1 + r2))), t12, t13, t14, t25, t26, t27, t46, t47, (IntKind.i64.wrap (t48 + 1)), ()) ()) .d) (.k (n_, t12, t13, t14, t25, t26, t27))
def zkR (zl : List Term → Bool × Int) (x : ttTannotationSize2) (y : Unit) : Wy ttTannotationSize2 (Unit) ttTannotationSize3 := zin zl x.1 x.2.1 x.2.2.1 x.2.2.2.1 x.2.2.2.2.1 x.2.2.2.2.2.1 x.2.2.2.2.2.2.1 x.2.2.2.2.2.2.2.1 x.2.2.2.2.2.2.2.2.1 x.2.2.2.2.2.2.2.2.2.1
def zuF (zl : List Term → Bool × Int) (n : Nat) (n_ : Int) (t12 : List Term) (t13 : Int) (t14 : Int) (t25 : List Factor) (t26 : Int) (t27 : Int) (t46 : List Weighted) (t47 : Int) (t48 : Int) : Bool × ttTannotationSize3 := z7 (zkR zl) default n (n_, t12, t13, t14, t25, t26, t27, t46, t47, t48, ()) ()
def ztx (r : ttTannotationSize3) : LTree ty := .done (.exit 6) [.lit (.int .i64 r.1), .sl 42 r.2.1, .lit (.int .i64 r.2.2.1), .lit (.int .i64 r.2.2.2.1), .sl 50 r.2.2.2.2.1, .lit (.int .i64 r.2.2.2.2.2.1), .lit (.int .i64 r.2.2.2.2.2.2)] []
def zvh : LL ty ttTannotationSize2 := za (lInt .i64) (za (lSl 42) (za (lInt .i64) (za (lInt .i64) (za (lSl 50) (za (lInt .i64) (za (lInt .i64) (za (lSl 52) (za (lInt .i64) (za (lInt .i64) zK)))))))))
def zuO : BL ty (Unit) := bNil
def zi0 (zl : List Term → Bool × Int) (n_ : Int) (t12 : List Term) (t13 : Int) (t14 : Int) (t25 : List Factor) (t26 : Int) (t27 : Int) : Wy ttTannotationSize4 (Unit) ttTannotationSize5 := .i (decide (t27 < t26)) (.i (decide (0 ≤ t27) && decide (t27 < Int.ofNat t25.length)) (.bn (zuU zl ((n_.toNat + t12.length + t13.toNat + t14.toNat + t25.length + t26.toNat + t27.toNat + (t25.getD t27.toNat default).Atom.Args.length + (Int.ofNat (t25.getD t27.toNat default).Atom.Args.length).toNat + Int.toNat 0 + 1) + (FactorOf.mk (Atom.mk (t25.getD t27.toNat default).Atom.Kind (t25.getD t27.toNat default).Atom.Row (t25.getD t27.toNat default).Atom.Args (t25.getD t27.toNat default).Atom.Func (t25.getD t27.toNat default).Atom.Items (t25.getD t27.toNat default).Atom.Op (t25.getD t27.toNat default).Atom.Bound) (t25.getD t27.toNat default).Exp).Atom.Args.length + (FactorOf.mk (Atom.mk (t25.getD t27.toNat default).Atom.Kind (t25.getD t27.toNat default).Atom.Row (t25.getD t27.toNat default).Atom.Args (t25.getD t27.toNat default).Atom.Func (t25.getD t27.toNat default).Atom.Items (t25.getD t27.toNat default).Atom.Op (t25.getD t27.toNat default).Atom.Bound) (t25.getD t27.toNat default).Exp).Atom.Items.length) n_ t12 t13 t14 t25 t26 t27 (t25.getD t27.toNat default).Atom.Args (Int.ofNat (t25.getD t27.toNat default).Atom.Args.length) 0 (FactorOf.mk (Atom.mk (t25.getD t27.toNat default).Atom.Kind (t25.getD t27.toNat default).Atom.Row (t25.getD t27.toNat default).Atom.Args (t25.getD t27.toNat default).Atom.Func (t25.getD t27.toNat default).Atom.Items (t25.getD t27.toNat default).Atom.Op (t25.getD t27.toNat default).Atom.Bound) (t25.getD t27.toNat default).Exp)) fun r5 => .bn (zuF zl (r5.1.toNat + r5.2.1.length + r5.2.2.1.toNat + r5.2.2.2.1.toNat + r5.2.2.2.2.1.length + r5.2.2.2.2.2.1.toNat + r5.2.2.2.2.2.2.1.toNat + r5.2.2.2.2.2.2.2.Atom.Items.length + (Int.ofNat r5.2.2.2.2.2.2.2.Atom.Items.length).toNat + Int.toNat 0 + 1) r5.1 r5.2.1 r5.2.2.1 r5.2.2.2.1 r5.2.2.2.2.1 r5.2.2.2.2.2.1 r5.2.2.2.2.2.2.1 r5.2.2.2.2.2.2.2.Atom.Items (Int.ofNat r5.2.2.2.2.2.2.2.Atom.Items.length) 0) fun r4 => .h ((r4.1), (r4.2.1), (r4.2.2.1), (r4.2.2.2.1), (r4.2.2.2.2.1), (r4.2.2.2.2.2.1), (IntKind.i64.wrap (r4.2.2.2.2.2.2 + 1)), ()) ()) .d) (.k (n_, t12, t13, t14))
def zlT (zl : List Term → Bool × Int) (x : ttTannotationSize4) (y : Unit) : Wy ttTannotationSize4 (Unit) ttTannotationSize5 := zi0 zl x.1 x.2.1 x.2.2.1 x.2.2.2.1 x.2.2.2.2.1 x.2.2.2.2.2.1 x.2.2.2.2.2.2.1
def zwJ (zl : List Term → Bool × Int) (n : Nat) (n_ : Int) (t12 : List Term) (t13 : Int) (t14 : Int) (t25 : List Factor) (t26 : Int) (t27 : Int) : Bool × ttTannotationSize5 := z7 (zlT zl) default n (n_, t12, t13, t14, t25, t26, t27, ()) ()
def zu3 (r : ttTannotationSize5) : LTree ty := .done (.exit 2) [.lit (.int .i64 r.1), .sl 42 r.2.1, .lit (.int .i64 r.2.2.1), .lit (.int .i64 r.2.2.2)] []
def zwq : LL ty ttTannotationSize4 := za (lInt .i64) (za (lSl 42) (za (lInt .i64) (za (lInt .i64) (za (lSl 50) (za (lInt .i64) (za (lInt .i64) zK))))))
def zwH : BL ty (Unit) := bNil
def ziU (zl : List Term → Bool × Int) (n_ : Int) (t12 : List Term) (t13 : Int) (t14 : Int) : Wy ttTannotationSize6 (Unit) (Int) := .i (decide (t14 < t13)) (.i (decide (0 ≤ t14) && decide (t14 < Int.ofNat t12.length)) (.bn (zwJ zl ((IntKind.i64.wrap (n_ + IntKind.i64.wrap (1 + Int.ofNat (t12.getD t14.toNat default).Factors.length))).toNat + t12.length + t13.toNat + t14.toNat + (t12.getD t14.toNat default).Factors.length + (Int.ofNat (t12.getD t14.toNat default).Factors.length).toNat + Int.toNat 0 + 1) (IntKind.i64.wrap (n_ + IntKind.i64.wrap (1 + Int.ofNat (t12.getD t14.toNat default).Factors.length))) t12 t13 t14 (t12.getD t14.toNat default).Factors (Int.ofNat (t12.getD t14.toNat default).Factors.length) 0) fun r8 => .h ((r8.1), (r8.2.1), (r8.2.2.1), (IntKind.i64.wrap (r8.2.2.2 + 1)), ()) ()) .d) (.k n_)
def zlH (zl : List Term → Bool × Int) (x : ttTannotationSize6) (y : Unit) : Wy ttTannotationSize6 (Unit) (Int) := ziU zl x.1 x.2.1 x.2.2.1 x.2.2.2.1
def zv4 (zl : List Term → Bool × Int) (n : Nat) (n_ : Int) (t12 : List Term) (t13 : Int) (t14 : Int) : Bool × Int := z7 (zlH zl) default n (n_, t12, t13, t14, ()) ()
def zuQ (r : Int) : LTree ty := .done (.exit 0) [.lit (.int .i64 r)] []
def zvZ : LL ty ttTannotationSize6 := za (lInt .i64) (za (lSl 42) (za (lInt .i64) (za (lInt .i64) zK)))
def zvJ : BL ty (Unit) := bNil
def zt2 (x : ttTannotationSize0) (y : Factor × Unit) : Nat := ((Int.toNat x.1 + x.2.2.1.length + Int.toNat x.2.2.2.1 + Int.toNat x.2.2.2.2.1 + x.2.2.2.2.2.1.length + Int.toNat x.2.2.2.2.2.2.1 + Int.toNat x.2.2.2.2.2.2.2.1 + x.2.2.2.2.2.2.2.2.1.length + Int.toNat x.2.2.2.2.2.2.2.2.2.1 + Int.toNat x.2.2.2.2.2.2.2.2.2.2.1 + 1) + y.1.Atom.Args.length + y.1.Atom.Items.length)
def zuf (x : ttTannotationSize2) (y : Unit) : Nat := (Int.toNat x.1 + x.2.1.length + Int.toNat x.2.2.1 + Int.toNat x.2.2.2.1 + x.2.2.2.2.1.length + Int.toNat x.2.2.2.2.2.1 + Int.toNat x.2.2.2.2.2.2.1 + x.2.2.2.2.2.2.2.1.length + Int.toNat x.2.2.2.2.2.2.2.2.1 + Int.toNat x.2.2.2.2.2.2.2.2.2.1 + 1)
def zvk (x : ttTannotationSize4) (y : Unit) : Nat := (Int.toNat x.1 + x.2.1.length + Int.toNat x.2.2.1 + Int.toNat x.2.2.2.1 + x.2.2.2.2.1.length + Int.toNat x.2.2.2.2.2.1 + Int.toNat x.2.2.2.2.2.2.1 + 1)
def zuy (x : ttTannotationSize6) (y : Unit) : Nat := (Int.toNat x.1 + x.2.1.length + Int.toNat x.2.2.1 + Int.toNat x.2.2.2.1 + 1)
def zjc (zl : List Term → Bool × Int) : Cx ty := mkCx base 62 [(47, (zlv zl))] [] [(3, [(3, .keep), (12, .keep), (13, .keep), (14, .keep)]), (7, [(3, .keep), (12, .keep), (13, .keep), (14, .keep), (25, .keep), (26, .keep), (27, .keep)]), (10, [(3, .keep), (7, .keep), (12, .keep), (13, .keep), (14, .keep), (25, .keep), (26, .keep), (27, .keep), (33, .keep), (34, .keep), (35, .keep)]), (15, [(3, .keep), (12, .keep), (13, .keep), (14, .keep), (25, .keep), (26, .keep), (27, .keep), (46, .keep), (47, .keep), (48, .keep)])] [(3, 1, [(3, .keep)]), (7, 3, [(3, .keep), (12, .keep), (13, .keep), (14, .keep)]), (10, 5, [(3, .keep), (7, .keep), (12, .keep), (13, .keep), (14, .keep), (25, .keep), (26, .keep), (27, .keep)]), (15, 7, [(3, .keep), (12, .keep), (13, .keep), (14, .keep), (25, .keep), (26, .keep), (27, .keep)])] [(10, spW zuI zvf (zkV zl) default zt7 zt2), (15, spW zvh zuO (zkR zl) default ztx zuf), (7, spW zwq zwH (zlT zl) default zu3 zvk), (3, spW zvZ zvJ (zlH zl) default zuQ zuy)] []
theorem zEv (zl : List Term → Bool × Int) : zY (zjc zl) (lp (body Tryz.f47) 2) := zO (id := 10) (V := zuI) (B := zvf) (W := zkV zl) (z := default) (tr := zt7) (m := zt2)
theorem zEC (zl : List Term → Bool × Int) : zY (zjc zl) (lp (body Tryz.f47) 3) := zO (id := 15) (V := zvh) (B := zuO) (W := zkR zl) (z := default) (tr := ztx) (m := zuf)
theorem zFN (zl : List Term → Bool × Int) : zY (zjc zl) (lp (body Tryz.f47) 1) := zO (id := 7) (V := zwq) (B := zwH) (W := zlT zl) (z := default) (tr := zu3) (m := zvk)
theorem zFz (zl : List Term → Bool × Int) : zY (zjc zl) (lp (body Tryz.f47) 0) := zO (id := 3) (V := zvZ) (B := zvJ) (W := zlH zl) (z := default) (tr := zuQ) (m := zuy)
def zqH (zl : List Term → Bool × Int) (a : List Term) : Wy0 (Int) := .bn (zv4 zl (Int.toNat 0 + a.length + (Int.ofNat a.length).toNat + Int.toNat 0 + 1) 0 a (Int.ofNat a.length) 0) fun r10 => .k r10
def zoj (zl : List Term → Bool × Int) (a : List Term) : Bool × Int := (zqH zl a).fin default
theorem zDb (zl : List Term → Bool × Int) (zHF : Sound Tryz.prog base 47 (zlv zl)) : Sound Tryz.prog base 47 (zlv (zoj zl)) :=
 zo (cx' := (zjc zl)) zH zm zy (zn ⟨zHF, trivial⟩) Tryz.call47 Tryz.func47 (c := body Tryz.f47) (by kernel_rfl) (zh (l := [lp (body Tryz.f47) 0, lp (body Tryz.f47) 1, lp (body Tryz.f47) 2, lp (body Tryz.f47) 3]) (by kernel_rfl) ⟨zFz zl, zFN zl, zEv zl, zEC zl, trivial⟩) (sg := ⟨[.pure], []⟩) (A := zAm) (res := zwY) (W := fun x => zqH zl x.1) (z := default)
def zOm : Nat → (List Term → Bool × Int)
 | 0 => fun _ => (false, default)
 | n + 1 => zoj (zOm n)
def zjm (n : Nat) : List Term → Bool × Int := zOm n
theorem zGf (n : Nat) : zjm (n + 1) = zoj (zjm n) := rfl
theorem zLp : ∀ n, Sound Tryz.prog base 47 (zlv (zjm n))
 | 0 => zbj Tryz.call47 (fun _ => rfl)
 | n + 1 => by
  have ih := zLp n
  exact zDb _ (ih)
def zwD : List Term → Bool × Int := zjm 1000
def annotation_Size_spec : Ab.Spec ty := zlv zwD
theorem zFk : Sound Tryz.prog base 47 annotation_Size_spec := (zLp 1000)
def ztG (r : Int) : ARes ty := ⟨[.pure (.lit (.int .i64 r))], []⟩
def zwh : AL base (List Term × Unit) := zf (zg (vSl 42)) aNil
def ziP (F : List Term → Bool × Int) : Ab.Spec ty := zk zwh fun x => ((F x.1).1, ztG (F x.1).2)
abbrev ttTannotationnesting0 := Int × Unit × Int × List Term × Int × Int × List Factor × Int × Int × List (List Term) × Int × Int × Unit
abbrev ttTannotationnesting1 := Int × Int × List Term × Int × Int × List Factor × Int × Int × Factor
abbrev ttTannotationnesting2 := Int × Int × List Term × Int × Int × List Factor × Int × Int × List Weighted × Int × Int × Unit
abbrev ttTannotationnesting3 := Int × Int × List Term × Int × Int × List Factor × Int × Int
abbrev ttTannotationnesting4 := Int × List Term × Int × Int × List Factor × Int × Int × Unit
abbrev ttTannotationnesting5 := Int × List Term × Int × Int
abbrev ttTannotationnesting6 := Int × List Term × Int × Int × Unit
def zgC (zi : List Term → Bool × Int) (n_ : Int) (inner : Int) (t13 : List Term) (t14 : Int) (t15 : Int) (t20 : List Factor) (t21 : Int) (t22 : Int) (t32 : List (List Term)) (t33 : Int) (t34 : Int) (f : Factor) : Wy ttTannotationnesting0 (Factor × Unit) ttTannotationnesting1 := .i (decide (t34 < t33)) (.i (decide (0 ≤ t34) && decide (t34 < Int.ofNat t32.length)) (.bn (zi (t32.getD t34.toNat default)) fun r0 => .h (n_, (), (if r0 > inner then r0 else inner), t13, t14, t15, t20, t21, t22, t32, t33, (IntKind.i64.wrap (t34 + 1)), ()) (f, ())) .d) (.k (n_, inner, t13, t14, t15, t20, t21, t22, f))
def zjd (zi : List Term → Bool × Int) (x : ttTannotationnesting0) (y : Factor × Unit) : Wy ttTannotationnesting0 (Factor × Unit) ttTannotationnesting1 := zgC zi x.1 x.2.2.1 x.2.2.2.1 x.2.2.2.2.1 x.2.2.2.2.2.1 x.2.2.2.2.2.2.1 x.2.2.2.2.2.2.2.1 x.2.2.2.2.2.2.2.2.1 x.2.2.2.2.2.2.2.2.2.1 x.2.2.2.2.2.2.2.2.2.2.1 x.2.2.2.2.2.2.2.2.2.2.2.1 y.1
def zsh (zi : List Term → Bool × Int) (n : Nat) (n_ : Int) (inner : Int) (t13 : List Term) (t14 : Int) (t15 : Int) (t20 : List Factor) (t21 : Int) (t22 : Int) (t32 : List (List Term)) (t33 : Int) (t34 : Int) (f : Factor) : Bool × ttTannotationnesting1 := z7 (zjd zi) default n (n_, (), inner, t13, t14, t15, t20, t21, t22, t32, t33, t34, ()) (f, ())
def zq6 (r : ttTannotationnesting1) : LTree ty := .done (.exit 4) [.lit (.int .i64 r.1), .ptr 256 0, .lit (.int .i64 r.2.1), .sl 42 r.2.2.1, .lit (.int .i64 r.2.2.2.1), .lit (.int .i64 r.2.2.2.2.1), .sl 50 r.2.2.2.2.2.1, .lit (.int .i64 r.2.2.2.2.2.2.1), .lit (.int .i64 r.2.2.2.2.2.2.2.1)] [.box (base.enc 50 r.2.2.2.2.2.2.2.2) false]
def zrB : LL ty ttTannotationnesting0 := za (lInt .i64) (za (zg3 256 0) (za (lInt .i64) (za (lSl 42) (za (lInt .i64) (za (lInt .i64) (za (lSl 50) (za (lInt .i64) (za (lInt .i64) (za (lSl 23) (za (lInt .i64) (za (lInt .i64) zK)))))))))))
def zrD : BL ty (Factor × Unit) := bBox (ziu (fun x => (⟨⟨x.1, ⟨x.2.1, x.2.2.1⟩, x.2.2.2.1, x.2.2.2.2.1, x.2.2.2.2.2.1, x.2.2.2.2.2.2.1, ⟨x.2.2.2.2.2.2.2.1, x.2.2.2.2.2.2.2.2.1, x.2.2.2.2.2.2.2.2.2.1⟩⟩, x.2.2.2.2.2.2.2.2.2.2.1⟩ : Factor)) (fun x => (x.Atom.Kind, x.Atom.Row.Table, x.Atom.Row.Seq, x.Atom.Args, x.Atom.Func, x.Atom.Items, x.Atom.Op, x.Atom.Bound.Kind, x.Atom.Bound.Int, x.Atom.Bound.Text, x.Exp, ())) (fun _ => rfl) (za (lInt .i64) (za (lInt .i64) (za (lInt .i64) (za (lSl 23) (za (lInt .i64) (za (lSl 52) (za (lInt .i64) (za (lInt .i64) (za (lInt .i64) (za lStr (za (lInt .i64) zK)))))))))))) false (bNil)
def zgs (zi : List Term → Bool × Int) (n_ : Int) (inner : Int) (t13 : List Term) (t14 : Int) (t15 : Int) (t20 : List Factor) (t21 : Int) (t22 : Int) (t45 : List Weighted) (t46 : Int) (t47 : Int) : Wy ttTannotationnesting2 (Unit) ttTannotationnesting3 := .i (decide (t47 < t46)) (.i (decide (0 ≤ t47) && decide (t47 < Int.ofNat t45.length)) (.bn (zi (t45.getD t47.toNat default).Ann) fun r2 => .h (n_, (if r2 > inner then r2 else inner), t13, t14, t15, t20, t21, t22, t45, t46, (IntKind.i64.wrap (t47 + 1)), ()) ()) .d) (.k (n_, inner, t13, t14, t15, t20, t21, t22))
def zi1 (zi : List Term → Bool × Int) (x : ttTannotationnesting2) (y : Unit) : Wy ttTannotationnesting2 (Unit) ttTannotationnesting3 := zgs zi x.1 x.2.1 x.2.2.1 x.2.2.2.1 x.2.2.2.2.1 x.2.2.2.2.2.1 x.2.2.2.2.2.2.1 x.2.2.2.2.2.2.2.1 x.2.2.2.2.2.2.2.2.1 x.2.2.2.2.2.2.2.2.2.1 x.2.2.2.2.2.2.2.2.2.2.1
def zrl (zi : List Term → Bool × Int) (n : Nat) (n_ : Int) (inner : Int) (t13 : List Term) (t14 : Int) (t15 : Int) (t20 : List Factor) (t21 : Int) (t22 : Int) (t45 : List Weighted) (t46 : Int) (t47 : Int) : Bool × ttTannotationnesting3 := z7 (zi1 zi) default n (n_, inner, t13, t14, t15, t20, t21, t22, t45, t46, t47, ()) ()
def zq2 (r : ttTannotationnesting3) : LTree ty := .done (.exit 6) [.lit (.int .i64 r.1), .lit (.int .i64 r.2.1), .sl 42 r.2.2.1, .lit (.int .i64 r.2.2.2.1), .lit (.int .i64 r.2.2.2.2.1), .sl 50 r.2.2.2.2.2.1, .lit (.int .i64 r.2.2.2.2.2.2.1), .lit (.int .i64 r.2.2.2.2.2.2.2)] []
def zsi : LL ty ttTannotationnesting2 := za (lInt .i64) (za (lInt .i64) (za (lSl 42) (za (lInt .i64) (za (lInt .i64) (za (lSl 50) (za (lInt .i64) (za (lInt .i64) (za (lSl 52) (za (lInt .i64) (za (lInt .i64) zK))))))))))
def zrP : BL ty (Unit) := bNil
def zhb (zi : List Term → Bool × Int) (n_ : Int) (t13 : List Term) (t14 : Int) (t15 : Int) (t20 : List Factor) (t21 : Int) (t22 : Int) : Wy ttTannotationnesting4 (Unit) ttTannotationnesting5 := .i (decide (t22 < t21)) (.i (decide (0 ≤ t22) && decide (t22 < Int.ofNat t20.length)) (.i ((t20.getD t22.toNat default).Atom.Kind == 0) (.h (n_, t13, t14, t15, t20, t21, (IntKind.i64.wrap (t22 + 1)), ()) ()) (.bn (zsh zi ((n_.toNat + Int.toNat 0 + t13.length + t14.toNat + t15.toNat + t20.length + t21.toNat + t22.toNat + (t20.getD t22.toNat default).Atom.Args.length + (Int.ofNat (t20.getD t22.toNat default).Atom.Args.length).toNat + Int.toNat 0 + 1) + (FactorOf.mk (Atom.mk (t20.getD t22.toNat default).Atom.Kind (t20.getD t22.toNat default).Atom.Row (t20.getD t22.toNat default).Atom.Args (t20.getD t22.toNat default).Atom.Func (t20.getD t22.toNat default).Atom.Items (t20.getD t22.toNat default).Atom.Op (t20.getD t22.toNat default).Atom.Bound) (t20.getD t22.toNat default).Exp).Atom.Args.length + (FactorOf.mk (Atom.mk (t20.getD t22.toNat default).Atom.Kind (t20.getD t22.toNat default).Atom.Row (t20.getD t22.toNat default).Atom.Args (t20.getD t22.toNat default).Atom.Func (t20.getD t22.toNat default).Atom.Items (t20.getD t22.toNat default).Atom.Op (t20.getD t22.toNat default).Atom.Bound) (t20.getD t22.toNat default).Exp).Atom.Items.length) n_ 0 t13 t14 t15 t20 t21 t22 (t20.getD t22.toNat default).Atom.Args (Int.ofNat (t20.getD t22.toNat default).Atom.Args.length) 0 (FactorOf.mk (Atom.mk (t20.getD t22.toNat default).Atom.Kind (t20.getD t22.toNat default).Atom.Row (t20.getD t22.toNat default).Atom.Args (t20.getD t22.toNat default).Atom.Func (t20.getD t22.toNat default).Atom.Items (t20.getD t22.toNat default).Atom.Op (t20.getD t22.toNat default).Atom.Bound) (t20.getD t22.toNat default).Exp)) fun r5 => .bn (zrl zi (r5.1.toNat + r5.2.1.toNat + r5.2.2.1.length + r5.2.2.2.1.toNat + r5.2.2.2.2.1.toNat + r5.2.2.2.2.2.1.length + r5.2.2.2.2.2.2.1.toNat + r5.2.2.2.2.2.2.2.1.toNat + r5.2.2.2.2.2.2.2.2.Atom.Items.length + (Int.ofNat r5.2.2.2.2.2.2.2.2.Atom.Items.length).toNat + Int.toNat 0 + 1) r5.1 r5.2.1 r5.2.2.1 r5.2.2.2.1 r5.2.2.2.2.1 r5.2.2.2.2.2.1 r5.2.2.2.2.2.2.1 r5.2.2.2.2.2.2.2.1 r5.2.2.2.2.2.2.2.2.Atom.Items (Int.ofNat r5.2.2.2.2.2.2.2.2.Atom.Items.length) 0) fun r4 => .h ((if IntKind.i64.wrap (1 + r4.2.1) > r4.1 then IntKind.i64.wrap (1 + r4.2.1) else r4.1), (r4.2.2.1), (r4.2.2.2.1), (r4.2.2.2.2.1), (r4.2.2.2.2.2.1), (r4.2.2.2.2.2.2.1), (IntKind.i64.wrap (r4.2.2.2.2.2.2.2 + 1)), ()) ())) .d) (.k (n_, t13, t14, t15))
def zjI (zi : List Term → Bool × Int) (x : ttTannotationnesting4) (y : Unit) : Wy ttTannotationnesting4 (Unit) ttTannotationnesting5 := zhb zi x.1 x.2.1 x.2.2.1 x.2.2.2.1 x.2.2.2.2.1 x.2.2.2.2.2.1 x.2.2.2.2.2.2.1
def zsQ (zi : List Term → Bool × Int) (n : Nat) (n_ : Int) (t13 : List Term) (t14 : Int) (t15 : Int) (t20 : List Factor) (t21 : Int) (t22 : Int) : Bool × ttTannotationnesting5 := z7 (zjI zi) default n (n_, t13, t14, t15, t20, t21, t22, ()) ()
def zrp (r : ttTannotationnesting5) : LTree ty := .done (.exit 2) [.lit (.int .i64 r.1), .sl 42 r.2.1, .lit (.int .i64 r.2.2.1), .lit (.int .i64 r.2.2.2)] []
def zsN : LL ty ttTannotationnesting4 := za (lInt .i64) (za (lSl 42) (za (lInt .i64) (za (lInt .i64) (za (lSl 50) (za (lInt .i64) (za (lInt .i64) zK))))))
def zs6 : BL ty (Unit) := bNil
def zhr (zi : List Term → Bool × Int) (n_ : Int) (t13 : List Term) (t14 : Int) (t15 : Int) : Wy ttTannotationnesting6 (Unit) (Int) := .i (decide (t15 < t14)) (.i (decide (0 ≤ t15) && decide (t15 < Int.ofNat t13.length)) (.bn (zsQ zi (n_.toNat + t13.length + t14.toNat + t15.toNat + (t13.getD t15.toNat default).Factors.length + (Int.ofNat (t13.getD t15.toNat default).Factors.length).toNat + Int.toNat 0 + 1) n_ t13 t14 t15 (t13.getD t15.toNat default).Factors (Int.ofNat (t13.getD t15.toNat default).Factors.length) 0) fun r8 => .h ((r8.1), (r8.2.1), (r8.2.2.1), (IntKind.i64.wrap (r8.2.2.2 + 1)), ()) ()) .d) (.k n_)
def zjF (zi : List Term → Bool × Int) (x : ttTannotationnesting6) (y : Unit) : Wy ttTannotationnesting6 (Unit) (Int) := zhr zi x.1 x.2.1 x.2.2.1 x.2.2.2.1
def zsE (zi : List Term → Bool × Int) (n : Nat) (n_ : Int) (t13 : List Term) (t14 : Int) (t15 : Int) : Bool × Int := z7 (zjF zi) default n (n_, t13, t14, t15, ()) ()
def zrK (r : Int) : LTree ty := .done (.exit 0) [.lit (.int .i64 r)] []
def zsZ : LL ty ttTannotationnesting6 := za (lInt .i64) (za (lSl 42) (za (lInt .i64) (za (lInt .i64) zK)))
def zs9 : BL ty (Unit) := bNil
def zq9 (x : ttTannotationnesting0) (y : Factor × Unit) : Nat := ((Int.toNat x.1 + Int.toNat x.2.2.1 + x.2.2.2.1.length + Int.toNat x.2.2.2.2.1 + Int.toNat x.2.2.2.2.2.1 + x.2.2.2.2.2.2.1.length + Int.toNat x.2.2.2.2.2.2.2.1 + Int.toNat x.2.2.2.2.2.2.2.2.1 + x.2.2.2.2.2.2.2.2.2.1.length + Int.toNat x.2.2.2.2.2.2.2.2.2.2.1 + Int.toNat x.2.2.2.2.2.2.2.2.2.2.2.1 + 1) + y.1.Atom.Args.length + y.1.Atom.Items.length)
def zrd (x : ttTannotationnesting2) (y : Unit) : Nat := (Int.toNat x.1 + Int.toNat x.2.1 + x.2.2.1.length + Int.toNat x.2.2.2.1 + Int.toNat x.2.2.2.2.1 + x.2.2.2.2.2.1.length + Int.toNat x.2.2.2.2.2.2.1 + Int.toNat x.2.2.2.2.2.2.2.1 + x.2.2.2.2.2.2.2.2.1.length + Int.toNat x.2.2.2.2.2.2.2.2.2.1 + Int.toNat x.2.2.2.2.2.2.2.2.2.2.1 + 1)
def zsb (x : ttTannotationnesting4) (y : Unit) : Nat := (Int.toNat x.1 + x.2.1.length + Int.toNat x.2.2.1 + Int.toNat x.2.2.2.1 + x.2.2.2.2.1.length + Int.toNat x.2.2.2.2.2.1 + Int.toNat x.2.2.2.2.2.2.1 + 1)
def zrk (x : ttTannotationnesting6) (y : Unit) : Nat := (Int.toNat x.1 + x.2.1.length + Int.toNat x.2.2.1 + Int.toNat x.2.2.2.1 + 1)
def zhx (zi : List Term → Bool × Int) : Cx ty := mkCx base 64 [(120, (ziP zi))] [] [(3, [(3, .keep), (13, .keep), (14, .keep), (15, .keep)]), (6, [(3, .keep), (13, .keep), (14, .keep), (15, .keep), (20, .keep), (21, .keep), (22, .keep)]), (11, [(3, .keep), (7, .keep), (8, .keep), (13, .keep), (14, .keep), (15, .keep), (20, .keep), (21, .keep), (22, .keep), (32, .keep), (33, .keep), (34, .keep)]), (16, [(3, .keep), (8, .keep), (13, .keep), (14, .keep), (15, .keep), (20, .keep), (21, .keep), (22, .keep), (45, .keep), (46, .keep), (47, .keep)])] [(3, 1, [(3, .keep)]), (6, 3, [(3, .keep), (13, .keep), (14, .keep), (15, .keep)]), (11, 5, [(3, .keep), (7, .keep), (8, .keep), (13, .keep), (14, .keep), (15, .keep), (20, .keep), (21, .keep), (22, .keep)]), (16, 7, [(3, .keep), (8, .keep), (13, .keep), (14, .keep), (15, .keep), (20, .keep), (21, .keep), (22, .keep)])] [(11, spW zrB zrD (zjd zi) default zq6 zq9), (16, spW zsi zrP (zi1 zi) default zq2 zrd), (6, spW zsN zs6 (zjI zi) default zrp zsb), (3, spW zsZ zs9 (zjF zi) default zrK zrk)] []
theorem zBe (zi : List Term → Bool × Int) : zY (zhx zi) (lp (body Tryz.f120) 2) := zO (id := 11) (V := zrB) (B := zrD) (W := zjd zi) (z := default) (tr := zq6) (m := zq9)
theorem zA1 (zi : List Term → Bool × Int) : zY (zhx zi) (lp (body Tryz.f120) 3) := zO (id := 16) (V := zsi) (B := zrP) (W := zi1 zi) (z := default) (tr := zq2) (m := zrd)
theorem zCM (zi : List Term → Bool × Int) : zY (zhx zi) (lp (body Tryz.f120) 1) := zO (id := 6) (V := zsN) (B := zs6) (W := zjI zi) (z := default) (tr := zrp) (m := zsb)
theorem zC6 (zi : List Term → Bool × Int) : zY (zhx zi) (lp (body Tryz.f120) 0) := zO (id := 3) (V := zsZ) (B := zs9) (W := zjF zi) (z := default) (tr := zrK) (m := zrk)
def znR (zi : List Term → Bool × Int) (a : List Term) : Wy0 (Int) := .bn (zsE zi (Int.toNat 0 + a.length + (Int.ofNat a.length).toNat + Int.toNat 0 + 1) 0 a (Int.ofNat a.length) 0) fun r10 => .k r10
def zlB (zi : List Term → Bool × Int) (a : List Term) : Bool × Int := (znR zi a).fin default
theorem zz8 (zi : List Term → Bool × Int) (zEo : Sound Tryz.prog base 120 (ziP zi)) : Sound Tryz.prog base 120 (ziP (zlB zi)) :=
 zo (cx' := (zhx zi)) zH zm zy (zn ⟨zEo, trivial⟩) Tryz.call120 Tryz.func120 (c := body Tryz.f120) (by kernel_rfl) (zh (l := [lp (body Tryz.f120) 0, lp (body Tryz.f120) 1, lp (body Tryz.f120) 2, lp (body Tryz.f120) 3]) (by kernel_rfl) ⟨zC6 zi, zCM zi, zBe zi, zA1 zi, trivial⟩) (sg := ⟨[.pure], []⟩) (A := zwh) (res := ztG) (W := fun x => znR zi x.1) (z := default)
def zKc : Nat → (List Term → Bool × Int)
 | 0 => fun _ => (false, default)
 | n + 1 => zlB (zKc n)
def zeP (n : Nat) : List Term → Bool × Int := zKc n
theorem zDe (n : Nat) : zeP (n + 1) = zlB (zeP n) := rfl
theorem zGV : ∀ n, Sound Tryz.prog base 120 (ziP (zeP n))
 | 0 => zbj Tryz.call120 (fun _ => rfl)
 | n + 1 => by
  have ih := zGV n
  exact zz8 _ (ih)
def zr6 : List Term → Bool × Int := zeP 1000
def annotation_nesting_spec : Ab.Spec ty := ziP zr6
theorem zCt : Sound Tryz.prog base 120 annotation_nesting_spec := (zGV 1000)
def zzT : Cx ty := mkCx base 13 [] [] [] [] [] []
def zlQ (f : Factor) : Wy0 (Bool) := .i (decide (f.Exp > 64)) (.k true) (.k (decide (Int.ofNat f.Atom.Items.length > 1024)))
def zeK (f : Factor) : Bool × Bool := (zlQ f).fin default
def zo6 (r : Bool) : ARes ty := ⟨[.pure (.lit (.bool r))], []⟩
def zq7 : AL base (Factor × Unit) := zf (zg (vAgg 50)) aNil
def zg9 : Ab.Spec ty := zk zq7 fun x => ((zeK x.1).1, zo6 (zeK x.1).2)
theorem zjB : Sound Tryz.prog base 122 zg9 :=
 zo (cx' := zzT) zH zm zy (zn trivial) Tryz.call122 Tryz.func122 (c := body Tryz.f122) (by kernel_rfl) (zh (l := []) (by kernel_rfl) trivial) (sg := ⟨[.pure], []⟩) (A := zq7) (res := zo6) (W := fun x => zlQ x.1) (z := default)
abbrev ttTslicesIndexFuncLapiFactorapiFactorwi0 := List Factor × Unit × Int × Int × Unit
def zhM (s : List Factor) (t7 : Int) (t8 : Int) : Wy ttTslicesIndexFuncLapiFactorapiFactorwi0 (Unit) (Int ⊕ Unit) := .i (decide (t8 < t7)) (.i (decide (0 ≤ t8) && decide (t8 < Int.ofNat s.length)) (.bn (zeK (FactorOf.mk (Atom.mk (s.getD t8.toNat default).Atom.Kind (s.getD t8.toNat default).Atom.Row (s.getD t8.toNat default).Atom.Args (s.getD t8.toNat default).Atom.Func (s.getD t8.toNat default).Atom.Items (s.getD t8.toNat default).Atom.Op (s.getD t8.toNat default).Atom.Bound) (s.getD t8.toNat default).Exp)) fun r0 => .i (r0) (.k (.inl t8)) (.h (s, (), t7, (IntKind.i64.wrap (t8 + 1)), ()) ())) .d) (.k (.inr ()))
def zb1 (x : ttTslicesIndexFuncLapiFactorapiFactorwi0) (y : Unit) : Wy ttTslicesIndexFuncLapiFactorapiFactorwi0 (Unit) (Int ⊕ Unit) := zhM x.1 x.2.2.1 x.2.2.2.1
def zhH (n : Nat) (s : List Factor) (t7 : Int) (t8 : Int) : Bool × (Int ⊕ Unit) := z7 (zb1) (.inl default) n (s, (), t7, t8, ()) ()
def zhi (r : Int ⊕ Unit) : LTree ty := .ite (isL r) (.done .ret [.lit (.int .i64 (getL r))] []) (.done (.exit 0) [] [])
def zhK : LL ty ttTslicesIndexFuncLapiFactorapiFactorwi0 := za (lSl 50) (za (lFn 122 (zK)) (za (lInt .i64) (za (lInt .i64) zK)))
def zhB : BL ty (Unit) := bNil
def zhm (x : ttTslicesIndexFuncLapiFactorapiFactorwi0) (y : Unit) : Nat := (x.1.length + Int.toNat x.2.2.1 + Int.toNat x.2.2.2.1 + 1)
def zhL : Cx ty := mkCx base 19 [(122, zg9)] [] [(2, [(0, .keep), (1, .keep), (7, .keep), (8, .keep)])] [(2, 1, []), (2, 0, [(4, .keep)])] [(2, spW zhK zhB (zb1) (.inl default) zhi zhm)] []
theorem zm8 : zY zhL (lp (body Tryz.f150) 0) := zO (id := 2) (V := zhK) (B := zhB) (W := zb1) (z := .inl default) (tr := zhi) (m := zhm)
def zd5 (s : List Factor) : Wy0 (Int) := .bn (zhH (s.length + (Int.ofNat s.length).toNat + Int.toNat 0 + 1) s (Int.ofNat s.length) 0) fun r2 => .i (isL r2) (.k (getL r2)) (.k (-1 : Int))
def zci (s : List Factor) : Bool × Int := (zd5 s).fin default
def zhc (r : Int) : ARes ty := ⟨[.pure (.lit (.int .i64 r))], []⟩
def zhU : AL base (List Factor × Unit × Unit) := zf (zg (vSl 50)) (zf (zg (vFn 122 vNil)) aNil)
def zdS : Ab.Spec ty := zk zhU fun x => ((zci x.1).1, zhc (zci x.1).2)
theorem zgE : Sound Tryz.prog base 150 zdS :=
 zo (cx' := zhL) zH zm zy (zn ⟨zjB, trivial⟩) Tryz.call150 Tryz.func150 (c := body Tryz.f150) (by kernel_rfl) (zh (l := [lp (body Tryz.f150) 0]) (by kernel_rfl) ⟨zm8, trivial⟩) (sg := ⟨[.pure], []⟩) (A := zhU) (res := zhc) (W := fun x => zd5 x.1) (z := default)
def zmr : Cx ty := mkCx base 9 [(122, zg9), (150, (zIj zdS zdS))] [] [] [] [] []
def zdO (s : List Factor) : Wy0 (Bool) := .bn (zci s) fun r0 => .k (decide (r0 ≥ 0))
def zb0 (s : List Factor) : Bool × Bool := (zdO s).fin default
def zgf (r : Bool) : ARes ty := ⟨[.pure (.lit (.bool r))], []⟩
def zg2 : AL base (List Factor × Unit × Unit) := zf (zg (vSl 50)) (zf (zg (vFn 122 vNil)) aNil)
def zfB : Ab.Spec ty := zk zg2 fun x => ((zb0 x.1).1, zgf (zb0 x.1).2)
theorem zlm : Sound Tryz.prog base 107 zfB :=
 zo (cx' := zmr) zH zm zy (zn ⟨zjB, (Sound.or (zgE) (zgE)), trivial⟩) Tryz.call107 Tryz.func107 (c := body Tryz.f107) (by kernel_rfl) (zh (l := []) (by kernel_rfl) trivial) (sg := ⟨[.pure], []⟩) (A := zg2) (res := zgf) (W := fun x => zdO x.1) (z := default)
def zDo : Cx ty := mkCx base 12 [(107, zfB), (122, zg9)] [] [] [] [] []
def znX (t : Term) : Wy0 (Bool) := .i (decide (Int.ofNat t.Factors.length > 64)) (.k true) (.bn (zb0 t.Factors) fun r0 => .k r0)
def zjf (t : Term) : Bool × Bool := (znX t).fin default
def zrJ (r : Bool) : ARes ty := ⟨[.pure (.lit (.bool r))], []⟩
def ztY : AL base (Term × Unit) := zf (zg (vAgg 42)) aNil
def ziv : Ab.Spec ty := zk ztY fun x => ((zjf x.1).1, zrJ (zjf x.1).2)
theorem zlj : Sound Tryz.prog base 121 ziv :=
 zo (cx' := zDo) zH zm zy (zn ⟨zlm, zjB, trivial⟩) Tryz.call121 Tryz.func121 (c := body Tryz.f121) (by kernel_rfl) (zh (l := []) (by kernel_rfl) trivial) (sg := ⟨[.pure], []⟩) (A := ztY) (res := zrJ) (W := fun x => znX x.1) (z := default)
abbrev ttTslicesIndexFuncapiAnnotationapiTermwi0 := List Term × Unit × Int × Int × Unit
def znf (s : List Term) (t7 : Int) (t8 : Int) : Wy ttTslicesIndexFuncapiAnnotationapiTermwi0 (Unit) (Int ⊕ Unit) := .i (decide (t8 < t7)) (.i (decide (0 ≤ t8) && decide (t8 < Int.ofNat s.length)) (.bn (zjf (s.getD t8.toNat default)) fun r0 => .i (r0) (.k (.inl t8)) (.h (s, (), t7, (IntKind.i64.wrap (t8 + 1)), ()) ())) .d) (.k (.inr ()))
def zdW (x : ttTslicesIndexFuncapiAnnotationapiTermwi0) (y : Unit) : Wy ttTslicesIndexFuncapiAnnotationapiTermwi0 (Unit) (Int ⊕ Unit) := znf x.1 x.2.2.1 x.2.2.2.1
def zm4 (n : Nat) (s : List Term) (t7 : Int) (t8 : Int) : Bool × (Int ⊕ Unit) := z7 (zdW) (.inl default) n (s, (), t7, t8, ()) ()
def zg0 (r : Int ⊕ Unit) : LTree ty := .ite (isL r) (.done .ret [.lit (.int .i64 (getL r))] []) (.done (.exit 0) [] [])
def zhl : LL ty ttTslicesIndexFuncapiAnnotationapiTermwi0 := za (lSl 42) (za (lFn 121 (zK)) (za (lInt .i64) (za (lInt .i64) zK)))
def zhk : BL ty (Unit) := bNil
def zgZ (x : ttTslicesIndexFuncapiAnnotationapiTermwi0) (y : Unit) : Nat := (x.1.length + Int.toNat x.2.2.1 + Int.toNat x.2.2.2.1 + 1)
def zhn : Cx ty := mkCx base 19 [(121, ziv)] [] [(2, [(0, .keep), (1, .keep), (7, .keep), (8, .keep)])] [(2, 1, []), (2, 0, [(4, .keep)])] [(2, spW zhl zhk (zdW) (.inl default) zg0 zgZ)] []
theorem zmT : zY zhn (lp (body Tryz.f149) 0) := zO (id := 2) (V := zhl) (B := zhk) (W := zdW) (z := .inl default) (tr := zg0) (m := zgZ)
def zhG (s : List Term) : Wy0 (Int) := .bn (zm4 (s.length + (Int.ofNat s.length).toNat + Int.toNat 0 + 1) s (Int.ofNat s.length) 0) fun r2 => .i (isL r2) (.k (getL r2)) (.k (-1 : Int))
def zcX (s : List Term) : Bool × Int := (zhG s).fin default
def zgY (r : Int) : ARes ty := ⟨[.pure (.lit (.int .i64 r))], []⟩
def zhI : AL base (List Term × Unit × Unit) := zf (zg (vSl 42)) (zf (zg (vFn 121 vNil)) aNil)
def zdI : Ab.Spec ty := zk zhI fun x => ((zcX x.1).1, zgY (zcX x.1).2)
theorem zf1 : Sound Tryz.prog base 149 zdI :=
 zo (cx' := zhn) zH zm zy (zn ⟨zlj, trivial⟩) Tryz.call149 Tryz.func149 (c := body Tryz.f149) (by kernel_rfl) (zh (l := [lp (body Tryz.f149) 0]) (by kernel_rfl) ⟨zmT, trivial⟩) (sg := ⟨[.pure], []⟩) (A := zhI) (res := zgY) (W := fun x => zhG x.1) (z := default)
def zmc : Cx ty := mkCx base 9 [(121, ziv), (149, (zIj zdI zdI))] [] [] [] [] []
def zdG (s : List Term) : Wy0 (Bool) := .bn (zcX s) fun r0 => .k (decide (r0 ≥ 0))
def zbR (s : List Term) : Bool × Bool := (zdG s).fin default
def zfC (r : Bool) : ARes ty := ⟨[.pure (.lit (.bool r))], []⟩
def zgn : AL base (List Term × Unit × Unit) := zf (zg (vSl 42)) (zf (zg (vFn 121 vNil)) aNil)
def zfu : Ab.Spec ty := zk zgn fun x => ((zbR x.1).1, zfC (zbR x.1).2)
theorem zla : Sound Tryz.prog base 105 zfu :=
 zo (cx' := zmc) zH zm zy (zn ⟨zlj, (Sound.or (zf1) (zf1)), trivial⟩) Tryz.call105 Tryz.func105 (c := body Tryz.f105) (by kernel_rfl) (zh (l := []) (by kernel_rfl) trivial) (sg := ⟨[.pure], []⟩) (A := zgn) (res := zfC) (W := fun x => zdG x.1) (z := default)
def zGr : Cx ty := mkCx base 19 [(47, annotation_Size_spec), (105, zfu), (120, annotation_nesting_spec), (121, ziv)] [] [] [] [] []
def zqK (a : List Term) : Wy0 (Bool) := .i (decide (Int.ofNat a.length > 512)) (.k false) (.bn (zr6 a) fun r2 => .i (decide (r2 > 8)) (.k false) (.bn (zwD a) fun r1 => .i (decide (r1 > 4096)) (.k false) (.bn (zbR a) fun r0 => .k (!r0))))
def zjp (a : List Term) : Bool × Bool := (zqK a).fin default
def zu6 (r : Bool) : ARes ty := ⟨[.pure (.lit (.bool r))], []⟩
def zwS : AL base (List Term × Unit) := zf (zg (vSl 42)) aNil
def znL : Ab.Spec ty := zk zwS fun x => ((zjp x.1).1, zu6 (zjp x.1).2)
theorem zsW : Sound Tryz.prog base 70 znL :=
 zo (cx' := zGr) zH zm zy (zn ⟨zFk, zla, zCt, zlj, trivial⟩) Tryz.call70 Tryz.func70 (c := body Tryz.f70) (by kernel_rfl) (zh (l := []) (by kernel_rfl) trivial) (sg := ⟨[.pure], []⟩) (A := zwS) (res := zu6) (W := fun x => zqK x.1) (z := default)
abbrev ttTannotationValid0 := List Term × Unit × List Term × Int × Int × List Factor × Int × Int × Unit
abbrev ttTannotationValid1 := Bool ⊕ (List Term × List Term × Int × Int)
abbrev ttTannotationValid2 := List Term × List Term × Int × Int × Unit
def zih (zu : Atom → Bool × Bool) (a : List Term) (t10 : List Term) (t11 : Int) (t12 : Int) (t40 : List Factor) (t41 : Int) (t42 : Int) (t : Term) : Wy ttTannotationValid0 (Term × Unit) ttTannotationValid1 := .i (decide (t42 < t41)) (.i (decide (0 ≤ t42) && decide (t42 < Int.ofNat t40.length)) (.i (decide ((t40.getD t42.toNat default).Exp < 1)) (.k (.inl false)) (.bn (zep (Atom.mk (t40.getD t42.toNat default).Atom.Kind (t40.getD t42.toNat default).Atom.Row (t40.getD t42.toNat default).Atom.Args (t40.getD t42.toNat default).Atom.Func (t40.getD t42.toNat default).Atom.Items (t40.getD t42.toNat default).Atom.Op (t40.getD t42.toNat default).Atom.Bound)) fun r6 => .i (r6) (.i ((t40.getD t42.toNat default).Exp != 1) (.k (.inl false)) (.i (decide (t42 > 0)) (.i (decide (0 ≤ IntKind.i64.wrap (t42 - 1)) && decide (IntKind.i64.wrap (t42 - 1) < Int.ofNat t.Factors.length)) (.bn (zhp (Atom.mk (t.Factors.getD (IntKind.i64.wrap (t42 - 1)).toNat default).Atom.Kind (t.Factors.getD (IntKind.i64.wrap (t42 - 1)).toNat default).Atom.Row (t.Factors.getD (IntKind.i64.wrap (t42 - 1)).toNat default).Atom.Args (t.Factors.getD (IntKind.i64.wrap (t42 - 1)).toNat default).Atom.Func (t.Factors.getD (IntKind.i64.wrap (t42 - 1)).toNat default).Atom.Items (t.Factors.getD (IntKind.i64.wrap (t42 - 1)).toNat default).Atom.Op (t.Factors.getD (IntKind.i64.wrap (t42 - 1)).toNat default).Atom.Bound) (Atom.mk (t40.getD t42.toNat default).Atom.Kind (t40.getD t42.toNat default).Atom.Row (t40.getD t42.toNat default).Atom.Args (t40.getD t42.toNat default).Atom.Func (t40.getD t42.toNat default).Atom.Items (t40.getD t42.toNat default).Atom.Op (t40.getD t42.toNat default).Atom.Bound)) fun r1 => .i (decide (r1 ≥ 0)) (.k (.inl false)) (.bn (zu (Atom.mk (t40.getD t42.toNat default).Atom.Kind (t40.getD t42.toNat default).Atom.Row (t40.getD t42.toNat default).Atom.Args (t40.getD t42.toNat default).Atom.Func (t40.getD t42.toNat default).Atom.Items (t40.getD t42.toNat default).Atom.Op (t40.getD t42.toNat default).Atom.Bound)) fun r0 => .i (!r0) (.k (.inl false)) (.h (a, (), t10, t11, t12, t40, t41, (IntKind.i64.wrap (t42 + 1)), ()) (t, ())))) .d) (.bn (zu (Atom.mk (t40.getD t42.toNat default).Atom.Kind (t40.getD t42.toNat default).Atom.Row (t40.getD t42.toNat default).Atom.Args (t40.getD t42.toNat default).Atom.Func (t40.getD t42.toNat default).Atom.Items (t40.getD t42.toNat default).Atom.Op (t40.getD t42.toNat default).Atom.Bound)) fun r2 => .i (!r2) (.k (.inl false)) (.h (a, (), t10, t11, t12, t40, t41, (IntKind.i64.wrap (t42 + 1)), ()) (t, ()))))) (.i (decide (t42 > 0)) (.i (decide (0 ≤ IntKind.i64.wrap (t42 - 1)) && decide (IntKind.i64.wrap (t42 - 1) < Int.ofNat t.Factors.length)) (.bn (zhp (Atom.mk (t.Factors.getD (IntKind.i64.wrap (t42 - 1)).toNat default).Atom.Kind (t.Factors.getD (IntKind.i64.wrap (t42 - 1)).toNat default).Atom.Row (t.Factors.getD (IntKind.i64.wrap (t42 - 1)).toNat default).Atom.Args (t.Factors.getD (IntKind.i64.wrap (t42 - 1)).toNat default).Atom.Func (t.Factors.getD (IntKind.i64.wrap (t42 - 1)).toNat default).Atom.Items (t.Factors.getD (IntKind.i64.wrap (t42 - 1)).toNat default).Atom.Op (t.Factors.getD (IntKind.i64.wrap (t42 - 1)).toNat default).Atom.Bound) (Atom.mk (t40.getD t42.toNat default).Atom.Kind (t40.getD t42.toNat default).Atom.Row (t40.getD t42.toNat default).Atom.Args (t40.getD t42.toNat default).Atom.Func (t40.getD t42.toNat default).Atom.Items (t40.getD t42.toNat default).Atom.Op (t40.getD t42.toNat default).Atom.Bound)) fun r4 => .i (decide (r4 ≥ 0)) (.k (.inl false)) (.bn (zu (Atom.mk (t40.getD t42.toNat default).Atom.Kind (t40.getD t42.toNat default).Atom.Row (t40.getD t42.toNat default).Atom.Args (t40.getD t42.toNat default).Atom.Func (t40.getD t42.toNat default).Atom.Items (t40.getD t42.toNat default).Atom.Op (t40.getD t42.toNat default).Atom.Bound)) fun r3 => .i (!r3) (.k (.inl false)) (.h (a, (), t10, t11, t12, t40, t41, (IntKind.i64.wrap (t42 + 1)), ()) (t, ())))) .d) (.bn (zu (Atom.mk (t40.getD t42.toNat default).Atom.Kind (t40.getD t42.toNat default).Atom.Row (t40.getD t42.toNat default).Atom.Args (t40.getD t42.toNat default).Atom.Func (t40.getD t42.toNat default).Atom.Items (t40.getD t42.toNat default).Atom.Op (t40.getD t42.toNat default).Atom.Bound)) fun r5 => .i (!r5) (.k (.inl false)) (.h (a, (), t10, t11, t12, t40, t41, (IntKind.i64.wrap (t42 + 1)), ()) (t, ())))))) .d) (.k (.inr (a, t10, t11, t12)))
def zkS (zu : Atom → Bool × Bool) (x : ttTannotationValid0) (y : Term × Unit) : Wy ttTannotationValid0 (Term × Unit) ttTannotationValid1 := zih zu x.1 x.2.2.1 x.2.2.2.1 x.2.2.2.2.1 x.2.2.2.2.2.1 x.2.2.2.2.2.2.1 x.2.2.2.2.2.2.2.1 y.1
def zoQ (zu : Atom → Bool × Bool) (n : Nat) (a : List Term) (t10 : List Term) (t11 : Int) (t12 : Int) (t40 : List Factor) (t41 : Int) (t42 : Int) (t : Term) : Bool × ttTannotationValid1 := z7 (zkS zu) (.inl default) n (a, (), t10, t11, t12, t40, t41, t42, ()) (t, ())
def zuh (r : ttTannotationValid1) : LTree ty := .ite (isL r) (.done .ret [.lit (.bool (getL r))] []) (.done (.exit 2) [.sl 42 (getR r).1, .sl 42 (getR r).2.1, .lit (.int .i64 (getR r).2.2.1), .lit (.int .i64 (getR r).2.2.2)] [])
def zva : LL ty ttTannotationValid0 := za (lSl 42) (za (zg3 340 0) (za (lSl 42) (za (lInt .i64) (za (lInt .i64) (za (lSl 50) (za (lInt .i64) (za (lInt .i64) zK)))))))
def zuX : BL ty (Term × Unit) := bBox (ziu (fun x => (⟨x.1, x.2.1⟩ : Term)) (fun x => (x.Coeff, x.Factors, ())) (fun _ => rfl) (za (lInt .i64) (za (lSl 50) zK))) false (bNil)
def zie (zu : Atom → Bool × Bool) (a : List Term) (t10 : List Term) (t11 : Int) (t12 : Int) : Wy ttTannotationValid2 (Unit) (Bool ⊕ Unit) := .i (decide (t12 < t11)) (.i (decide (0 ≤ t12) && decide (t12 < Int.ofNat t10.length)) (.i (decide ((t10.getD t12.toNat default).Coeff < 1)) (.k (.inl false)) (.i (decide ((t10.getD t12.toNat default).Coeff > 1152921504606846976)) (.k (.inl false)) (.i (decide (t12 > 0)) (.i (decide (0 ≤ IntKind.i64.wrap (t12 - 1)) && decide (IntKind.i64.wrap (t12 - 1) < Int.ofNat a.length)) (.bn (zbF (a.getD (IntKind.i64.wrap (t12 - 1)).toNat default) (t10.getD t12.toNat default)) fun r15 => .i (decide (r15 ≥ 0)) (.k (.inl false)) (.bn (zoQ zu (a.length + t10.length + t11.toNat + t12.toNat + (t10.getD t12.toNat default).Factors.length + (Int.ofNat (t10.getD t12.toNat default).Factors.length).toNat + Int.toNat 0 + (t10.getD t12.toNat default).Factors.length + 1) a t10 t11 t12 (t10.getD t12.toNat default).Factors (Int.ofNat (t10.getD t12.toNat default).Factors.length) 0 (t10.getD t12.toNat default)) fun r14 => .i (isL r14) (.k (.inl (getL r14))) (.h ((getR r14).1, (getR r14).2.1, (getR r14).2.2.1, (IntKind.i64.wrap ((getR r14).2.2.2 + 1)), ()) ()))) .d) (.bn (zoQ zu (a.length + t10.length + t11.toNat + t12.toNat + (t10.getD t12.toNat default).Factors.length + (Int.ofNat (t10.getD t12.toNat default).Factors.length).toNat + Int.toNat 0 + (t10.getD t12.toNat default).Factors.length + 1) a t10 t11 t12 (t10.getD t12.toNat default).Factors (Int.ofNat (t10.getD t12.toNat default).Factors.length) 0 (t10.getD t12.toNat default)) fun r16 => .i (isL r16) (.k (.inl (getL r16))) (.h ((getR r16).1, (getR r16).2.1, (getR r16).2.2.1, (IntKind.i64.wrap ((getR r16).2.2.2 + 1)), ()) ()))))) .d) (.k (.inr ()))
def zk1 (zu : Atom → Bool × Bool) (x : ttTannotationValid2) (y : Unit) : Wy ttTannotationValid2 (Unit) (Bool ⊕ Unit) := zie zu x.1 x.2.1 x.2.2.1 x.2.2.2.1
def zu1 (zu : Atom → Bool × Bool) (n : Nat) (a : List Term) (t10 : List Term) (t11 : Int) (t12 : Int) : Bool × (Bool ⊕ Unit) := z7 (zk1 zu) (.inl default) n (a, t10, t11, t12, ()) ()
def ztS (r : Bool ⊕ Unit) : LTree ty := .ite (isL r) (.done .ret [.lit (.bool (getL r))] []) (.done (.exit 0) [] [])
def zuS : LL ty ttTannotationValid2 := za (lSl 42) (za (lSl 42) (za (lInt .i64) (za (lInt .i64) zK)))
def zuz : BL ty (Unit) := bNil
def ztZ (x : ttTannotationValid0) (y : Term × Unit) : Nat := (x.1.length + x.2.2.1.length + Int.toNat x.2.2.2.1 + Int.toNat x.2.2.2.2.1 + x.2.2.2.2.2.1.length + Int.toNat x.2.2.2.2.2.2.1 + Int.toNat x.2.2.2.2.2.2.2.1 + y.1.Factors.length + 1)
def ztP (x : ttTannotationValid2) (y : Unit) : Nat := (x.1.length + x.2.1.length + Int.toNat x.2.2.1 + Int.toNat x.2.2.2.1 + 1)
def zoX (zu : Atom → Bool × Bool) : Cx ty := mkCx base 85 [(70, znL), (71, annotation_compareLists_spec), (72, zh4), (73, annotation_compareAtoms_spec), (74, (zkn zu))] [] [(4, [(0, .keep), (10, .keep), (11, .keep), (12, .keep)]), (9, [(0, .keep), (4, .keep), (10, .keep), (11, .keep), (12, .keep), (40, .keep), (41, .keep), (42, .keep)])] [(4, 1, []), (4, 0, [(2, .keep)]), (9, 3, [(0, .keep), (10, .keep), (11, .keep), (12, .keep)]), (9, 0, [(2, .keep)])] [(9, spW zva zuX (zkS zu) (.inl default) zuh ztZ), (4, spW zuS zuz (zk1 zu) (.inl default) ztS ztP)] []
theorem zEm (zu : Atom → Bool × Bool) : zY (zoX zu) (lp (body Tryz.f31) 1) := zO (id := 9) (V := zva) (B := zuX) (W := zkS zu) (z := .inl default) (tr := zuh) (m := ztZ)
theorem zEJ (zu : Atom → Bool × Bool) : zY (zoX zu) (lp (body Tryz.f31) 0) := zO (id := 4) (V := zuS) (B := zuz) (W := zk1 zu) (z := .inl default) (tr := ztS) (m := ztP)
def zpG (zu : Atom → Bool × Bool) (a : List Term) : Wy0 (Bool) := .bn (zjp a) fun r21 => .i (!r21) (.k false) (.bn (zu1 zu (a.length + a.length + (Int.ofNat a.length).toNat + Int.toNat 0 + 1) a a (Int.ofNat a.length) 0) fun r20 => .i (isL r20) (.k (getL r20)) (.k true))
def zkD (zu : Atom → Bool × Bool) (a : List Term) : Bool × Bool := (zpG zu a).fin default
theorem zBO (zu : Atom → Bool × Bool) (zCV : Sound Tryz.prog base 74 (zkn zu)) : Sound Tryz.prog base 31 (zgo (zkD zu)) :=
 zo (cx' := (zoX zu)) zH zm zy (zn ⟨zsW, zjD, zku, zn3, zCV, trivial⟩) Tryz.call31 Tryz.func31 (c := body Tryz.f31) (by kernel_rfl) (zh (l := [lp (body Tryz.f31) 0, lp (body Tryz.f31) 1]) (by kernel_rfl) ⟨zEJ zu, zEm zu, trivial⟩) (sg := ⟨[.pure], []⟩) (A := zzd) (res := zwC) (W := fun x => zpG zu x.1) (z := default)
def zHG : Cx ty := mkCx base 9 [(38, annotation_Compare_spec)] [] [] [] [] []
def zrO (a : List Term) (b : List Term) : Wy0 (Bool) := .bn (zsj a b) fun r0 => .k (r0 == 0)
def zic (a : List Term) (b : List Term) : Bool × Bool := (zrO a b).fin default
def zvW (r : Bool) : ARes ty := ⟨[.pure (.lit (.bool r))], []⟩
def zyJ : AL base (List Term × List Term × Unit) := zf (zg (vSl 42)) (zf (zg (vSl 42)) aNil)
def zow : Ab.Spec ty := zk zyJ fun x => ((zic x.1 x.2.1).1, zvW (zic x.1 x.2.1).2)
theorem ztK : Sound Tryz.prog base 32 zow :=
 zo (cx' := zHG) zH zm zy (zn ⟨zCd, trivial⟩) Tryz.call32 Tryz.func32 (c := body Tryz.f32) (by kernel_rfl) (zh (l := []) (by kernel_rfl) trivial) (sg := ⟨[.pure], []⟩) (A := zyJ) (res := zvW) (W := fun x => zrO x.1 x.2.1) (z := default)
def zMF : Cx ty := mkCx base 36 [] [] [] [] [] []
def zzz (v : Value) : Wy0 (Bool) := .i (v.Kind == 0) (.k (v.Text.toList == (ByteArray.mk #[]).toList)) (.i (v.Kind == 1) (.i (v.Int == 0) (.k (decide (Int.ofNat v.Text.size ≤ 255))) (.k false)) (.i (v.Kind == 2) (.i (v.Int == 0) (.k (v.Text.toList == (ByteArray.mk #[]).toList)) (.i (v.Int == 1) (.k (v.Text.toList == (ByteArray.mk #[]).toList)) (.k false))) (.k false)))
def znN (v : Value) : Bool × Bool := (zzz v).fin default
def zDM (r : Bool) : ARes ty := ⟨[.pure (.lit (.bool r))], []⟩
def zGO : AL base (Value × Unit) := zf (zg (vAgg 46)) aNil
def zpO : Ab.Spec ty := zk zGO fun x => ((znN x.1).1, zDM (znN x.1).2)
theorem zts : Sound Tryz.prog base 133 zpO :=
 zo (cx' := zMF) zH zm zy (zn trivial) Tryz.call133 Tryz.func133 (c := body Tryz.f133) (by kernel_rfl) (zh (l := []) (by kernel_rfl) trivial) (sg := ⟨[.pure], []⟩) (A := zGO) (res := zDM) (W := fun x => zzz x.1) (z := default)
def zCv : Cx ty := mkCx base 27 [(133, zpO)] [] [] [] [] []
def zm0 (w : Weighted) (p1 : Value) (p2 : Int) : Wy0 (Bool) := .bn (znN w.Value) fun r0 => .i (!r0) (.k true) (.i (w.Value.Kind != p1.Kind) (.k true) (.i (p2 == 0) (.k (w.Value.Int != 1)) (.k false)))
def zge (w : Weighted) (p1 : Value) (p2 : Int) : Bool × Bool := (zm0 w p1 p2).fin default
def zq0 (r : Bool) : ARes ty := ⟨[.pure (.lit (.bool r))], []⟩
def zs0 : AL base (Weighted × Value × (Int × Unit) × Unit) := zf (zg (vAgg 52)) (zf (zg (zLv 46)) (zf (zg (vBox (zsB (vInt .i64) vNil))) aNil))
def zh9 : Ab.Spec ty := zk zs0 fun x => ((zge x.1 x.2.1 x.2.2.1.1).1, zq0 (zge x.1 x.2.1 x.2.2.1.1).2)
theorem zkq : Sound Tryz.prog base 134 zh9 :=
 zo (cx' := zCv) zH zm zy (zn ⟨zts, trivial⟩) Tryz.call134 Tryz.func134 (c := body Tryz.f134) (by kernel_rfl) (zh (l := []) (by kernel_rfl) trivial) (sg := ⟨[.pure], []⟩) (A := zs0) (res := zq0) (W := fun x => zm0 x.1 x.2.1 x.2.2.1.1) (z := default)
abbrev ttTslicesIndexFuncLapiWeightedapiWeightedfi0 := List Weighted × (Value × (Int × Unit) × Unit) × Int × Int × Unit
def zmi (s : List Weighted) (f_0 : Value) (f_1 : Int) (t7 : Int) (t8 : Int) : Wy ttTslicesIndexFuncLapiWeightedapiWeightedfi0 (Unit) (Int ⊕ Unit) := .i (decide (t8 < t7)) (.i (decide (0 ≤ t8) && decide (t8 < Int.ofNat s.length)) (.bn (zge (s.getD t8.toNat default) f_0 f_1) fun r0 => .i (r0) (.k (.inl t8)) (.h (s, (f_0, (f_1, ()), ()), t7, (IntKind.i64.wrap (t8 + 1)), ()) ())) .d) (.k (.inr ()))
def zdB (x : ttTslicesIndexFuncLapiWeightedapiWeightedfi0) (y : Unit) : Wy ttTslicesIndexFuncLapiWeightedapiWeightedfi0 (Unit) (Int ⊕ Unit) := zmi x.1 x.2.1.1 x.2.1.2.1.1 x.2.2.1 x.2.2.2.1
def zmh (n : Nat) (s : List Weighted) (f_0 : Value) (f_1 : Int) (t7 : Int) (t8 : Int) : Bool × (Int ⊕ Unit) := z7 (zdB) (.inl default) n (s, (f_0, (f_1, ()), ()), t7, t8, ()) ()
def zfO (r : Int ⊕ Unit) : LTree ty := .ite (isL r) (.done .ret [.lit (.int .i64 (getL r))] []) (.done (.exit 0) [] [])
def zf7 : LL ty ttTslicesIndexFuncLapiWeightedapiWeightedfi0 := za (lSl 52) (za (lFn 134 (za (zy9 (ziu (fun x => (⟨x.1, x.2.1, x.2.2.1⟩ : Value)) (fun x => (x.Kind, x.Int, x.Text, ())) (fun _ => rfl) (za (lInt .i64) (za (lInt .i64) (za lStr zK)))) 0) (za (zy9 (za (lInt .i64) zK) 0) zK))) (za (lInt .i64) (za (lInt .i64) zK)))
def zf9 : BL ty (Unit) := bNil
def zfI (x : ttTslicesIndexFuncLapiWeightedapiWeightedfi0) (y : Unit) : Nat := (x.1.length + Int.toNat x.2.1.2.1.1 + Int.toNat x.2.2.1 + Int.toNat x.2.2.2.1 + 1)
def zfY : Cx ty := mkCx base 19 [(134, zh9)] [] [(2, [(0, .keep), (1, .keep), (7, .keep), (8, .keep)])] [(2, 1, []), (2, 0, [(4, .keep)])] [(2, spW zf7 zf9 (zdB) (.inl default) zfO zfI)] []
theorem zlJ : zY zfY (lp (body Tryz.f135) 0) := zO (id := 2) (V := zf7) (B := zf9) (W := zdB) (z := .inl default) (tr := zfO) (m := zfI)
def zgK (s : List Weighted) (f_0 : Value) (f_1 : Int) : Wy0 (Int) := .bn (zmh (s.length + f_1.toNat + (Int.ofNat s.length).toNat + Int.toNat 0 + 1) s f_0 f_1 (Int.ofNat s.length) 0) fun r2 => .i (isL r2) (.k (getL r2)) (.k (-1 : Int))
def zcB (s : List Weighted) (f_0 : Value) (f_1 : Int) : Bool × Int := (zgK s f_0 f_1).fin default
def zfG (r : Int) : ARes ty := ⟨[.pure (.lit (.int .i64 r))], []⟩
def zgI : AL base (List Weighted × (Value × (Int × Unit) × Unit) × Unit) := zf (zg (vSl 52)) (zf (zg (vFn 134 (zsB (zLv 46) (zsB (vBox (zsB (vInt .i64) vNil)) vNil)))) aNil)
def zfm : Ab.Spec ty := zk zgI fun x => ((zcB x.1 x.2.1.1 x.2.1.2.1.1).1, zfG (zcB x.1 x.2.1.1 x.2.1.2.1.1).2)
theorem zlg : Sound Tryz.prog base 135 zfm :=
 zo (cx' := zfY) zH zm zy (zn ⟨zkq, trivial⟩) Tryz.call135 Tryz.func135 (c := body Tryz.f135) (by kernel_rfl) (zh (l := [lp (body Tryz.f135) 0]) (by kernel_rfl) ⟨zlJ, trivial⟩) (sg := ⟨[.pure], []⟩) (A := zgI) (res := zfG) (W := fun x => zgK x.1 x.2.1.1 x.2.1.2.1.1) (z := default)
def zk9 : Cx ty := mkCx base 9 [(134, zh9), (135, zfm)] [] [] [] [] []
def zdk (s : List Weighted) (f_0 : Value) (f_1 : Int) : Wy0 (Bool) := .bn (zcB s f_0 f_1) fun r0 => .k (decide (r0 ≥ 0))
def zbn (s : List Weighted) (f_0 : Value) (f_1 : Int) : Bool × Bool := (zdk s f_0 f_1).fin default
def zeV (r : Bool) : ARes ty := ⟨[.pure (.lit (.bool r))], []⟩
def zfi : AL base (List Weighted × (Value × (Int × Unit) × Unit) × Unit) := zf (zg (vSl 52)) (zf (zg (vFn 134 (zsB (zLv 46) (zsB (vBox (zsB (vInt .i64) vNil)) vNil)))) aNil)
def zeD : Ab.Spec ty := zk zfi fun x => ((zbn x.1 x.2.1.1 x.2.1.2.1.1).1, zeV (zbn x.1 x.2.1.1 x.2.1.2.1.1).2)
theorem zkl : Sound Tryz.prog base 76 zeD :=
 zo (cx' := zk9) zH zm zy (zn ⟨zkq, zlg, trivial⟩) Tryz.call76 Tryz.func76 (c := body Tryz.f76) (by kernel_rfl) (zh (l := []) (by kernel_rfl) trivial) (sg := ⟨[.pure], []⟩) (A := zfi) (res := zeV) (W := fun x => zdk x.1 x.2.1.1 x.2.1.2.1.1) (z := default)
def zFp : Cx ty := mkCx base 43 [(76, zeD), (133, zpO), (134, zh9)] [] [] [] [] []
def zpw (fn : Int) (items : List Weighted) (op : Int) (bound : Value) : Wy0 (Bool) := .i (decide (fn < 0)) (.k false) (.i (decide (fn > 3)) (.k false) (.i (decide (op < 5)) (.k false) (.i (decide (op > 10)) (.k false) (.bn (znN bound) fun r3 => .i (!r3) (.k false) (.i (fn == 0) (.i (bound.Kind != 0) (.k false) (.bn (zbn items bound fn) fun r0 => .k (!r0))) (.i (fn == 1) (.i (bound.Kind != 0) (.k false) (.bn (zbn items bound fn) fun r1 => .k (!r1))) (.bn (zbn items bound fn) fun r2 => .k (!r2))))))))
def zii (fn : Int) (items : List Weighted) (op : Int) (bound : Value) : Bool × Bool := (zpw fn items op bound).fin default
def zt4 (r : Bool) : ARes ty := ⟨[.pure (.lit (.bool r))], []⟩
def zwB : AL base (Int × List Weighted × Int × Value × Unit) := zf (zg (vInt .i64)) (zf (zg (vSl 52)) (zf (zg (vInt .i64)) (zf (zg (vAgg 46)) aNil)))
def zm2 : Ab.Spec ty := zk zwB fun x => ((zii x.1 x.2.1 x.2.2.1 x.2.2.2.1).1, zt4 (zii x.1 x.2.1 x.2.2.1 x.2.2.2.1).2)
theorem zrN : Sound Tryz.prog base 75 zm2 :=
 zo (cx' := zFp) zH zm zy (zn ⟨zkl, zts, zkq, trivial⟩) Tryz.call75 Tryz.func75 (c := body Tryz.f75) (by kernel_rfl) (zh (l := []) (by kernel_rfl) trivial) (sg := ⟨[.pure], []⟩) (A := zwB) (res := zt4) (W := fun x => zpw x.1 x.2.1 x.2.2.1 x.2.2.2.1) (z := default)
def zxS : Cx ty := mkCx base 7 [] [] [] [] [] []
def zkw (t : Term) : Wy0 (Bool) := .k (Int.ofNat t.Factors.length == 0)
def zfK (t : Term) : Bool × Bool := (zkw t).fin default
def zn6 (r : Bool) : ARes ty := ⟨[.pure (.lit (.bool r))], []⟩
def zpg : AL base (Term × Unit) := zf (zg (vAgg 42)) aNil
def zfE : Ab.Spec ty := zk zpg fun x => ((zfK x.1).1, zn6 (zfK x.1).2)
theorem ziy : Sound Tryz.prog base 119 zfE :=
 zo (cx' := zxS) zH zm zy (zn trivial) Tryz.call119 Tryz.func119 (c := body Tryz.f119) (by kernel_rfl) (zh (l := []) (by kernel_rfl) trivial) (sg := ⟨[.pure], []⟩) (A := zpg) (res := zn6) (W := fun x => zkw x.1) (z := default)
abbrev ttTslicesIndexFuncapiAnnotationapiTermhc0 := List Term × Unit × Int × Int × Unit
def zm5 (s : List Term) (t7 : Int) (t8 : Int) : Wy ttTslicesIndexFuncapiAnnotationapiTermhc0 (Unit) (Int ⊕ Unit) := .i (decide (t8 < t7)) (.i (decide (0 ≤ t8) && decide (t8 < Int.ofNat s.length)) (.i ((zfK (s.getD t8.toNat default)).2) (.k (.inl t8)) (.h (s, (), t7, (IntKind.i64.wrap (t8 + 1)), ()) ())) .d) (.k (.inr ()))
def zdV (x : ttTslicesIndexFuncapiAnnotationapiTermhc0) (y : Unit) : Wy ttTslicesIndexFuncapiAnnotationapiTermhc0 (Unit) (Int ⊕ Unit) := zm5 x.1 x.2.2.1 x.2.2.2.1
def znd (n : Nat) (s : List Term) (t7 : Int) (t8 : Int) : Bool × (Int ⊕ Unit) := z7 (zdV) (.inl default) n (s, (), t7, t8, ()) ()
def zg1 (r : Int ⊕ Unit) : LTree ty := .ite (isL r) (.done .ret [.lit (.int .i64 (getL r))] []) (.done (.exit 0) [] [])
def zhs : LL ty ttTslicesIndexFuncapiAnnotationapiTermhc0 := za (lSl 42) (za (lFn 119 (zK)) (za (lInt .i64) (za (lInt .i64) zK)))
def zhw : BL ty (Unit) := bNil
def zgQ (x : ttTslicesIndexFuncapiAnnotationapiTermhc0) (y : Unit) : Nat := (x.1.length + Int.toNat x.2.2.1 + Int.toNat x.2.2.2.1 + 1)
def zhu : Cx ty := mkCx base 19 [(119, zfE)] [] [(2, [(0, .keep), (1, .keep), (7, .keep), (8, .keep)])] [(2, 1, []), (2, 0, [(4, .keep)])] [(2, spW zhs zhw (zdV) (.inl default) zg1 zgQ)] []
theorem zmV : zY zhu (lp (body Tryz.f149) 0) := zO (id := 2) (V := zhs) (B := zhw) (W := zdV) (z := .inl default) (tr := zg1) (m := zgQ)
def zhN (s : List Term) : Wy0 (Int) := .bn (znd (s.length + (Int.ofNat s.length).toNat + Int.toNat 0 + 1) s (Int.ofNat s.length) 0) fun r0 => .i (isL r0) (.k (getL r0)) (.k (-1 : Int))
def zcZ (s : List Term) : Bool × Int := (zhN s).fin default
def zgX (r : Int) : ARes ty := ⟨[.pure (.lit (.int .i64 r))], []⟩
def zhD : AL base (List Term × Unit × Unit) := zf (zg (vSl 42)) (zf (zg (vFn 119 vNil)) aNil)
def zdJ : Ab.Spec ty := zk zhD fun x => ((zcZ x.1).1, zgX (zcZ x.1).2)
theorem zgg : Sound Tryz.prog base 149 zdJ :=
 zo (cx' := zhu) zH zm zy (zn ⟨ziy, trivial⟩) Tryz.call149 Tryz.func149 (c := body Tryz.f149) (by kernel_rfl) (zh (l := [lp (body Tryz.f149) 0]) (by kernel_rfl) ⟨zmV, trivial⟩) (sg := ⟨[.pure], []⟩) (A := zhD) (res := zgX) (W := fun x => zhN x.1) (z := default)
def zl7 : Cx ty := mkCx base 9 [(119, zfE), (149, (zIj zdJ zdJ))] [] [] [] [] []
def zdH (s : List Term) : Wy0 (Bool) := .bn (zcZ s) fun r0 => .k (decide (r0 ≥ 0))
def zcC (s : List Term) : Bool × Bool := (zdH s).fin default
def zfA (r : Bool) : ARes ty := ⟨[.pure (.lit (.bool r))], []⟩
def zgm : AL base (List Term × Unit × Unit) := zf (zg (vSl 42)) (zf (zg (vFn 119 vNil)) aNil)
def zfj : Ab.Spec ty := zk zgm fun x => ((zcC x.1).1, zfA (zcC x.1).2)
theorem zk7 : Sound Tryz.prog base 105 zfj :=
 zo (cx' := zl7) zH zm zy (zn ⟨ziy, (Sound.or (zgg) (zgg)), trivial⟩) Tryz.call105 Tryz.func105 (c := body Tryz.f105) (by kernel_rfl) (zh (l := []) (by kernel_rfl) trivial) (sg := ⟨[.pure], []⟩) (A := zgm) (res := zfA) (W := fun x => zdH x.1) (z := default)
def zBf : Cx ty := mkCx base 5 [(105, zfj), (119, zfE)] [] [] [] [] []
def zmo (a : List Term) : Wy0 (Bool) := .bn (zcC a) fun r0 => .k r0
def zd6 (a : List Term) : Bool × Bool := (zmo a).fin default
def zqd (r : Bool) : ARes ty := ⟨[.pure (.lit (.bool r))], []⟩
def zr7 : AL base (List Term × Unit) := zf (zg (vSl 42)) aNil
def zkz : Ab.Spec ty := zk zr7 fun x => ((zd6 x.1).1, zqd (zd6 x.1).2)
theorem zoP : Sound Tryz.prog base 68 zkz :=
 zo (cx' := zBf) zH zm zy (zn ⟨zk7, ziy, trivial⟩) Tryz.call68 Tryz.func68 (c := body Tryz.f68) (by kernel_rfl) (zh (l := []) (by kernel_rfl) trivial) (sg := ⟨[.pure], []⟩) (A := zr7) (res := zqd) (W := fun x => zmo x.1) (z := default)
def zCF : Cx ty := mkCx base 14 [] [] [] [] [] []
def zm3 (a : List Term) : Wy0 (Bool) := .i (Int.ofNat a.length == 1) (.i (decide ((0 : Int) ≤ (0 : Int)) && decide (0 < Int.ofNat a.length)) (.k (Int.ofNat (a.getD (Int.toNat 0) default).Factors.length == 0)) .d) (.k false)
def zf5 (a : List Term) : Bool × Bool := (zm3 a).fin default
def zre (r : Bool) : ARes ty := ⟨[.pure (.lit (.bool r))], []⟩
def zsI : AL base (List Term × Unit) := zf (zg (vSl 42)) aNil
def zli : Ab.Spec ty := zk zsI fun x => ((zf5 x.1).1, zre (zf5 x.1).2)
theorem zpm : Sound Tryz.prog base 65 zli :=
 zo (cx' := zCF) zH zm zy (zn trivial) Tryz.call65 Tryz.func65 (c := body Tryz.f65) (by kernel_rfl) (zh (l := []) (by kernel_rfl) trivial) (sg := ⟨[.pure], []⟩) (A := zsI) (res := zre) (W := fun x => zm3 x.1) (z := default)
def zGx : Cx ty := mkCx base 42 [(72, zh4)] [] [] [] [] []
def zqI (a : List Term) : Wy0 (Bool) := .i (Int.ofNat a.length != 1) (.k false) (.i (decide ((0 : Int) ≤ (0 : Int)) && decide (0 < Int.ofNat a.length)) (.i ((a.getD (Int.toNat 0) default).Coeff != 1) (.k false) (.i (decide ((0 : Int) ≤ (0 : Int)) && decide (0 < Int.ofNat a.length)) (.i (Int.ofNat (a.getD (Int.toNat 0) default).Factors.length != 1) (.k false) (.i (decide ((0 : Int) ≤ (0 : Int)) && decide (0 < Int.ofNat a.length)) (.i (decide ((0 : Int) ≤ (0 : Int)) && decide (0 < Int.ofNat (a.getD (Int.toNat 0) default).Factors.length)) (.i (((a.getD (Int.toNat 0) default).Factors.getD (Int.toNat 0) default).Exp == 1) (.i (((a.getD (Int.toNat 0) default).Factors.getD (Int.toNat 0) default).Atom.Kind == 2) (.k true) (.bn (zep (Atom.mk ((a.getD (Int.toNat 0) default).Factors.getD (Int.toNat 0) default).Atom.Kind ((a.getD (Int.toNat 0) default).Factors.getD (Int.toNat 0) default).Atom.Row ((a.getD (Int.toNat 0) default).Factors.getD (Int.toNat 0) default).Atom.Args ((a.getD (Int.toNat 0) default).Factors.getD (Int.toNat 0) default).Atom.Func ((a.getD (Int.toNat 0) default).Factors.getD (Int.toNat 0) default).Atom.Items ((a.getD (Int.toNat 0) default).Factors.getD (Int.toNat 0) default).Atom.Op ((a.getD (Int.toNat 0) default).Factors.getD (Int.toNat 0) default).Atom.Bound)) fun r0 => .k r0)) (.k false)) .d) .d)) .d)) .d)
def zjn (a : List Term) : Bool × Bool := (zqI a).fin default
def zuR (r : Bool) : ARes ty := ⟨[.pure (.lit (.bool r))], []⟩
def zw3 : AL base (List Term × Unit) := zf (zg (vSl 42)) aNil
def znU : Ab.Spec ty := zk zw3 fun x => ((zjn x.1).1, zuR (zjn x.1).2)
theorem zsJ : Sound Tryz.prog base 64 znU :=
 zo (cx' := zGx) zH zm zy (zn ⟨zku, trivial⟩) Tryz.call64 Tryz.func64 (c := body Tryz.f64) (by kernel_rfl) (zh (l := []) (by kernel_rfl) trivial) (sg := ⟨[.pure], []⟩) (A := zw3) (res := zuR) (W := fun x => zqI x.1) (z := default)
def zLg : Cx ty := mkCx base 11 [] [] [] [] [] []
def zxG (id : RowID) : Wy0 (Bool) := .i (decide (id.Table ≥ 1)) (.k (decide (id.Seq ≥ 1))) (.k false)
def zmB (id : RowID) : Bool × Bool := (zxG id).fin default
def zCj (r : Bool) : ARes ty := ⟨[.pure (.lit (.bool r))], []⟩
def zFx : AL base (RowID × Unit) := zf (zg (vAgg 25)) aNil
def zom : Ab.Spec ty := zk zFx fun x => ((zmB x.1).1, zCj (zmB x.1).2)
theorem zry : Sound Tryz.prog base 69 zom :=
 zo (cx' := zLg) zH zm zy (zn trivial) Tryz.call69 Tryz.func69 (c := body Tryz.f69) (by kernel_rfl) (zh (l := []) (by kernel_rfl) trivial) (sg := ⟨[.pure], []⟩) (A := zFx) (res := zCj) (W := fun x => zxG x.1) (z := default)
abbrev ttTslicesIsSortedFuncLapiWeightedapiWeighted0 := List Weighted × Unit × Int × Unit
def zdz (x_ : List Weighted) (i : Int) : Wy ttTslicesIsSortedFuncLapiWeightedapiWeighted0 (Unit) (Bool ⊕ Unit) := .i (decide (i > 0)) (.i (decide (0 ≤ i) && decide (i < Int.ofNat x_.length)) (.i (decide (0 ≤ IntKind.i64.wrap (i - 1)) && decide (IntKind.i64.wrap (i - 1) < Int.ofNat x_.length)) (.bn (zbu (x_.getD i.toNat default) (x_.getD (IntKind.i64.wrap (i - 1)).toNat default)) fun r0 => .i (decide (r0 < 0)) (.k (.inl false)) (.h (x_, (), (IntKind.i64.wrap (i - 1)), ()) ())) .d) .d) (.k (.inr ()))
def zdC (x : ttTslicesIsSortedFuncLapiWeightedapiWeighted0) (y : Unit) : Wy ttTslicesIsSortedFuncLapiWeightedapiWeighted0 (Unit) (Bool ⊕ Unit) := zdz x.1 x.2.2.1
def zdA (n : Nat) (x_ : List Weighted) (i : Int) : Bool × (Bool ⊕ Unit) := z7 (zdC) (.inl default) n (x_, (), i, ()) ()
def zfR (r : Bool ⊕ Unit) : LTree ty := .ite (isL r) (.done .ret [.lit (.bool (getL r))] []) (.done (.exit 0) [] [])
def zfZ : LL ty ttTslicesIsSortedFuncLapiWeightedapiWeighted0 := za (lSl 52) (za (lFn 85 (zK)) (za (lInt .i64) zK))
def zf6 : BL ty (Unit) := bNil
def zgb : Cx ty := mkCx base 25 [(85, annotation_compareItems_spec)] [] [(2, [(0, .keep), (1, .keep), (5, .keep)])] [(2, 1, []), (2, 0, [(4, .keep)])] [(2, spW zfZ zf6 (zdC) (.inl default) zfR fun x y => (x.1.length + Int.toNat x.2.2.1 + 1))] []
theorem zlN : zY zgb (lp (body Tryz.f132) 0) := zO (id := 2) (V := zfZ) (B := zf6) (W := zdC) (z := .inl default) (tr := zfR) (m := fun x y => (x.1.length + Int.toNat x.2.2.1 + 1))
def zdF (x_ : List Weighted) : Wy0 (Bool) := .bn (zdA (x_.length + (IntKind.i64.wrap (Int.ofNat x_.length - 1)).toNat + 1) x_ (IntKind.i64.wrap (Int.ofNat x_.length - 1))) fun r2 => .i (isL r2) (.k (getL r2)) (.k true)
def zbQ (x_ : List Weighted) : Bool × Bool := (zdF x_).fin default
def zfH (r : Bool) : ARes ty := ⟨[.pure (.lit (.bool r))], []⟩
def zgy : AL base (List Weighted × Unit × Unit) := zf (zg (vSl 52)) (zf (zg (vFn 85 vNil)) aNil)
def zfo : Ab.Spec ty := zk zgy fun x => ((zbQ x.1).1, zfH (zbQ x.1).2)
theorem zlh : Sound Tryz.prog base 132 zfo :=
 zo (cx' := zgb) zH zm zy (zn ⟨zgk, trivial⟩) Tryz.call132 Tryz.func132 (c := body Tryz.f132) (by kernel_rfl) (zh (l := [lp (body Tryz.f132) 0]) (by kernel_rfl) ⟨zlN, trivial⟩) (sg := ⟨[.pure], []⟩) (A := zgy) (res := zfH) (W := fun x => zdF x.1) (z := default)
def zck (zc : List Weighted → Bool × Bool) (zb : List (List Term) → Bool × Bool) (zd : List Term → Bool × Bool) (ze : Weighted → Bool × Bool) : Cx ty := mkCx base 149 [(32, zow), (64, znU), (65, zli), (68, zkz), (69, zom), (75, zm2), (76, (zcb zc)), (85, annotation_compareItems_spec), (129, (zbS zb)), (130, (zcJ zd)), (131, (zcM ze)), (132, zfo)] [] [] [] [] []
def zbK (zc : List Weighted → Bool × Bool) (zb : List (List Term) → Bool × Bool) (zd : List Term → Bool × Bool) (ze : Weighted → Bool × Bool) (x_ : Atom) : Wy0 (Bool) := .i (x_.Kind == 0) (.i (x_.Func != 0) (.k false) (.i (Int.ofNat x_.Items.length != 0) (.k false) (.i (x_.Op != 0) (.k false) (.i (!(x_.Bound.Kind == 0 && (x_.Bound.Int == 0 && (x_.Bound.Text.toList == (ByteArray.mk #[]).toList && true)))) (.k false) (.bn (zb x_.Args) fun r1 => .i (r1) (.k false) (.bn (zmB x_.Row) fun r0 => .i (r0) (.k (Int.ofNat x_.Args.length == 0)) (.k false))))))) (.i (x_.Kind == 1) (.i (x_.Func != 0) (.k false) (.i (Int.ofNat x_.Items.length != 0) (.k false) (.i (x_.Op != 0) (.k false) (.i (!(x_.Bound.Kind == 0 && (x_.Bound.Int == 0 && (x_.Bound.Text.toList == (ByteArray.mk #[]).toList && true)))) (.k false) (.i (!(x_.Row.Table == 0 && (x_.Row.Seq == 0 && true))) (.k false) (.bn (zb x_.Args) fun r3 => .i (r3) (.k false) (.i (Int.ofNat x_.Args.length == 2) (.i (decide ((0 : Int) ≤ (0 : Int)) && decide (0 < Int.ofNat x_.Args.length)) (.i (decide ((0 : Int) ≤ (1 : Int)) && decide (1 < Int.ofNat x_.Args.length)) (.bn (zic (x_.Args.getD (Int.toNat 0) default) (x_.Args.getD (Int.toNat 1) default)) fun r2 => .k (!r2)) .d) .d) (.k false)))))))) (.i (x_.Kind == 2) (.i (x_.Func != 0) (.k false) (.i (Int.ofNat x_.Items.length != 0) (.k false) (.i (x_.Op != 0) (.k false) (.i (!(x_.Bound.Kind == 0 && (x_.Bound.Int == 0 && (x_.Bound.Text.toList == (ByteArray.mk #[]).toList && true)))) (.k false) (.i (!(x_.Row.Table == 0 && (x_.Row.Seq == 0 && true))) (.k false) (.bn (zb x_.Args) fun r6 => .i (r6) (.k false) (.i (Int.ofNat x_.Args.length == 1) (.i (decide ((0 : Int) ≤ (0 : Int)) && decide (0 < Int.ofNat x_.Args.length)) (.bn (zf5 (x_.Args.getD (Int.toNat 0) default)) fun r5 => .i (!r5) (.i (decide ((0 : Int) ≤ (0 : Int)) && decide (0 < Int.ofNat x_.Args.length)) (.bn (zjn (x_.Args.getD (Int.toNat 0) default)) fun r4 => .k (!r4)) .d) (.k false)) .d) (.k false)))))))) (.i (x_.Kind == 3) (.i (x_.Func != 0) (.k false) (.i (Int.ofNat x_.Items.length != 0) (.k false) (.i (x_.Op != 0) (.k false) (.i (!(x_.Bound.Kind == 0 && (x_.Bound.Int == 0 && (x_.Bound.Text.toList == (ByteArray.mk #[]).toList && true)))) (.k false) (.i (!(x_.Row.Table == 0 && (x_.Row.Seq == 0 && true))) (.k false) (.bn (zb x_.Args) fun r8 => .i (r8) (.k false) (.i (Int.ofNat x_.Args.length == 1) (.i (decide ((0 : Int) ≤ (0 : Int)) && decide (0 < Int.ofNat x_.Args.length)) (.bn (zd6 (x_.Args.getD (Int.toNat 0) default)) fun r7 => .k (!r7)) .d) (.k false)))))))) (.i (x_.Kind == 4) (.i (!(x_.Row.Table == 0 && (x_.Row.Seq == 0 && true))) (.k false) (.bn (zb x_.Args) fun r12 => .i (r12) (.k false) (.bn (zc x_.Items) fun r11 => .i (Int.ofNat x_.Args.length == 0) (.i (decide (Int.ofNat x_.Items.length > 0)) (.i (!r11) (.bn (zbQ x_.Items) fun r10 => .i (r10) (.bn (zii x_.Func x_.Items x_.Op x_.Bound) fun r9 => .k r9) (.k false)) (.k false)) (.k false)) (.k false)))) (.i (x_.Func != 0) (.k false) (.i (Int.ofNat x_.Items.length != 0) (.k false) (.i (x_.Op != 0) (.k false) (.i (!(x_.Bound.Kind == 0 && (x_.Bound.Int == 0 && (x_.Bound.Text.toList == (ByteArray.mk #[]).toList && true)))) (.k false) (.i (!(x_.Row.Table == 0 && (x_.Row.Seq == 0 && true))) (.k false) (.bn (zb x_.Args) fun r14 => .i (r14) (.k false) (.k false)))))))))))
def zhZ (zc : List Weighted → Bool × Bool) (zb : List (List Term) → Bool × Bool) (zd : List Term → Bool × Bool) (ze : Weighted → Bool × Bool) (x_ : Atom) : Bool × Bool := (zbK zc zb zd ze x_).fin default
theorem zzg (zc : List Weighted → Bool × Bool) (zb : List (List Term) → Bool × Bool) (zd : List Term → Bool × Bool) (ze : Weighted → Bool × Bool) (v_Row : RowID) (v_Args : List (List Term)) (v_Func : Int) (v_Items : List Weighted) (v_Op : Int) (v_Bound : Value)  : zh6 (zck zc zb zd ze) Tryz.f74 (body Tryz.f74) ⟨[.pure], []⟩ [.pure (.agg (base.enc 48 (Atom.mk (Int.ofNat 0) v_Row v_Args v_Func v_Items v_Op v_Bound)))] = (zbK zc zb zd ze (Atom.mk (Int.ofNat 0) v_Row v_Args v_Func v_Items v_Op v_Bound)).ev noH (fun r => some (zb2 r)) none := by kernel_rfl
theorem zzp (zc : List Weighted → Bool × Bool) (zb : List (List Term) → Bool × Bool) (zd : List Term → Bool × Bool) (ze : Weighted → Bool × Bool) (v_Row : RowID) (v_Args : List (List Term)) (v_Func : Int) (v_Items : List Weighted) (v_Op : Int) (v_Bound : Value)  : zh6 (zck zc zb zd ze) Tryz.f74 (body Tryz.f74) ⟨[.pure], []⟩ [.pure (.agg (base.enc 48 (Atom.mk (Int.ofNat 1) v_Row v_Args v_Func v_Items v_Op v_Bound)))] = (zbK zc zb zd ze (Atom.mk (Int.ofNat 1) v_Row v_Args v_Func v_Items v_Op v_Bound)).ev noH (fun r => some (zb2 r)) none := by kernel_rfl
theorem zyK (zc : List Weighted → Bool × Bool) (zb : List (List Term) → Bool × Bool) (zd : List Term → Bool × Bool) (ze : Weighted → Bool × Bool) (v_Row : RowID) (v_Args : List (List Term)) (v_Func : Int) (v_Items : List Weighted) (v_Op : Int) (v_Bound : Value)  : zh6 (zck zc zb zd ze) Tryz.f74 (body Tryz.f74) ⟨[.pure], []⟩ [.pure (.agg (base.enc 48 (Atom.mk (Int.ofNat 2) v_Row v_Args v_Func v_Items v_Op v_Bound)))] = (zbK zc zb zd ze (Atom.mk (Int.ofNat 2) v_Row v_Args v_Func v_Items v_Op v_Bound)).ev noH (fun r => some (zb2 r)) none := by kernel_rfl
theorem zyI (zc : List Weighted → Bool × Bool) (zb : List (List Term) → Bool × Bool) (zd : List Term → Bool × Bool) (ze : Weighted → Bool × Bool) (v_Row : RowID) (v_Args : List (List Term)) (v_Func : Int) (v_Items : List Weighted) (v_Op : Int) (v_Bound : Value)  : zh6 (zck zc zb zd ze) Tryz.f74 (body Tryz.f74) ⟨[.pure], []⟩ [.pure (.agg (base.enc 48 (Atom.mk (Int.ofNat 3) v_Row v_Args v_Func v_Items v_Op v_Bound)))] = (zbK zc zb zd ze (Atom.mk (Int.ofNat 3) v_Row v_Args v_Func v_Items v_Op v_Bound)).ev noH (fun r => some (zb2 r)) none := by kernel_rfl
theorem zzl (zc : List Weighted → Bool × Bool) (zb : List (List Term) → Bool × Bool) (zd : List Term → Bool × Bool) (ze : Weighted → Bool × Bool) (v_Row : RowID) (v_Args : List (List Term)) (v_Func : Int) (v_Items : List Weighted) (v_Op : Int) (v_Bound : Value)  : zh6 (zck zc zb zd ze) Tryz.f74 (body Tryz.f74) ⟨[.pure], []⟩ [.pure (.agg (base.enc 48 (Atom.mk (Int.ofNat 4) v_Row v_Args v_Func v_Items v_Op v_Bound)))] = (zbK zc zb zd ze (Atom.mk (Int.ofNat 4) v_Row v_Args v_Func v_Items v_Op v_Bound)).ev noH (fun r => some (zb2 r)) none := by kernel_rfl
theorem zzf (zc : List Weighted → Bool × Bool) (zb : List (List Term) → Bool × Bool) (zd : List Term → Bool × Bool) (ze : Weighted → Bool × Bool) (n : Nat) (v_Row : RowID) (v_Args : List (List Term)) (v_Func : Int) (v_Items : List Weighted) (v_Op : Int) (v_Bound : Value)  : zh6 (zck zc zb zd ze) Tryz.f74 (body Tryz.f74) ⟨[.pure], []⟩ [.pure (.agg (base.enc 48 (Atom.mk (Int.ofNat (n + 5)) v_Row v_Args v_Func v_Items v_Op v_Bound)))] = (zbK zc zb zd ze (Atom.mk (Int.ofNat (n + 5)) v_Row v_Args v_Func v_Items v_Op v_Bound)).ev noH (fun r => some (zb2 r)) none := by kernel_rfl
theorem zy1 (zc : List Weighted → Bool × Bool) (zb : List (List Term) → Bool × Bool) (zd : List Term → Bool × Bool) (ze : Weighted → Bool × Bool) (n : Nat) (v_Row : RowID) (v_Args : List (List Term)) (v_Func : Int) (v_Items : List Weighted) (v_Op : Int) (v_Bound : Value)  : zh6 (zck zc zb zd ze) Tryz.f74 (body Tryz.f74) ⟨[.pure], []⟩ [.pure (.agg (base.enc 48 (Atom.mk (Int.negSucc n) v_Row v_Args v_Func v_Items v_Op v_Bound)))] = (zbK zc zb zd ze (Atom.mk (Int.negSucc n) v_Row v_Args v_Func v_Items v_Op v_Bound)).ev noH (fun r => some (zb2 r)) none := by kernel_rfl
theorem zzB (zc : List Weighted → Bool × Bool) (zb : List (List Term) → Bool × Bool) (zd : List Term → Bool × Bool) (ze : Weighted → Bool × Bool) (x_ : Atom) : zh6 (zck zc zb zd ze) Tryz.f74 (body Tryz.f74) ⟨[.pure], []⟩ [.pure (.agg (base.enc 48 x_))] = (zbK zc zb zd ze x_).ev noH (fun r => some (zb2 r)) none := by
 obtain ⟨v_Kind, v_Row, v_Args, v_Func, v_Items, v_Op, v_Bound⟩ := x_
 match v_Kind with
 | .ofNat 0 => exact zzg zc zb zd ze v_Row v_Args v_Func v_Items v_Op v_Bound 
 | .ofNat 1 => exact zzp zc zb zd ze v_Row v_Args v_Func v_Items v_Op v_Bound 
 | .ofNat 2 => exact zyK zc zb zd ze v_Row v_Args v_Func v_Items v_Op v_Bound 
 | .ofNat 3 => exact zyI zc zb zd ze v_Row v_Args v_Func v_Items v_Op v_Bound 
 | .ofNat 4 => exact zzl zc zb zd ze v_Row v_Args v_Func v_Items v_Op v_Bound 
 | .ofNat (n + 5) => exact zzf zc zb zd ze n v_Row v_Args v_Func v_Items v_Op v_Bound 
 | .negSucc n => exact zy1 zc zb zd ze n v_Row v_Args v_Func v_Items v_Op v_Bound 
theorem zxZ (zc : List Weighted → Bool × Bool) (zb : List (List Term) → Bool × Bool) (zd : List Term → Bool × Bool) (ze : Weighted → Bool × Bool) (zkQ : Sound Tryz.prog base 76 (zcb zc)) (zjV : Sound Tryz.prog base 129 (zbS zb)) (zeG : Sound Tryz.prog base 130 (zcJ zd)) (zeI : Sound Tryz.prog base 131 (zcM ze)) : Sound Tryz.prog base 74 (zkn (zhZ zc zb zd ze)) :=
 zo (cx' := (zck zc zb zd ze)) zH zm zy (zn ⟨ztK, zsJ, zpm, zoP, zry, zrN, zkQ, zgk, zjV, zeG, zeI, zlh, trivial⟩) Tryz.call74 Tryz.func74 (c := body Tryz.f74) (by kernel_rfl) (zh (l := []) (by kernel_rfl) trivial) (sg := ⟨[.pure], []⟩) (A := ztQ) (res := zb2) (W := fun x => zbK zc zb zd ze x.1) (z := default) (fun x => zzB zc zb zd ze x.1) (fun _ => by kernel_rfl)
def zxP (zbl : List Term → Bool × Bool) : Cx ty := mkCx base 11 [(31, (zgo zbl))] [] [] [] [] []
def zkO (zbl : List Term → Bool × Bool) (a : List Term) : Wy0 (Bool) := .bn (zbl a) fun r0 => .i (!r0) (.k true) (.k (Int.ofNat a.length == 0))
def zir (zbl : List Term → Bool × Bool) (a : List Term) : Bool × Bool := (zkO zbl a).fin default
theorem zvq (zbl : List Term → Bool × Bool) (zpH : Sound Tryz.prog base 31 (zgo zbl)) : Sound Tryz.prog base 130 (zcJ (zir zbl)) :=
 zo (cx' := (zxP zbl)) zH zm zy (zn ⟨zpH, trivial⟩) Tryz.call130 Tryz.func130 (c := body Tryz.f130) (by kernel_rfl) (zh (l := []) (by kernel_rfl) trivial) (sg := ⟨[.pure], []⟩) (A := zqU) (res := zpk) (W := fun x => zkO zbl x.1) (z := default)
def zxN (zbl : List Term → Bool × Bool) : Cx ty := mkCx base 13 [(31, (zgo zbl))] [] [] [] [] []
def zky (zbl : List Term → Bool × Bool) (w : Weighted) : Wy0 (Bool) := .bn (zbl w.Ann) fun r0 => .i (!r0) (.k true) (.k (Int.ofNat w.Ann.length == 0))
def ziw (zbl : List Term → Bool × Bool) (w : Weighted) : Bool × Bool := (zky zbl w).fin default
theorem zvp (zbl : List Term → Bool × Bool) (zpH : Sound Tryz.prog base 31 (zgo zbl)) : Sound Tryz.prog base 131 (zcM (ziw zbl)) :=
 zo (cx' := (zxN zbl)) zH zm zy (zn ⟨zpH, trivial⟩) Tryz.call131 Tryz.func131 (c := body Tryz.f131) (by kernel_rfl) (zh (l := []) (by kernel_rfl) trivial) (sg := ⟨[.pure], []⟩) (A := zq8) (res := zo7) (W := fun x => zky zbl x.1) (z := default)
def zjx (zd : List Term → Bool × Bool) (zS : List (List Term) → Bool × Int) : Cx ty := mkCx base 9 [(130, (zcJ zd)), (163, (zb6 zS))] [] [] [] [] []
def zcF (zd : List Term → Bool × Bool) (zS : List (List Term) → Bool × Int) (s : List (List Term)) : Wy0 (Bool) := .bn (zS s) fun r0 => .k (decide (r0 ≥ 0))
def zbU (zd : List Term → Bool × Bool) (zS : List (List Term) → Bool × Int) (s : List (List Term)) : Bool × Bool := (zcF zd zS s).fin default
theorem ziI (zd : List Term → Bool × Bool) (zS : List (List Term) → Bool × Int) (zeG : Sound Tryz.prog base 130 (zcJ zd)) (zkH : Sound Tryz.prog base 163 (zb6 zS)) : Sound Tryz.prog base 129 (zbS (zbU zd zS)) :=
 zo (cx' := (zjx zd zS)) zH zm zy (zn ⟨zeG, zkH, trivial⟩) Tryz.call129 Tryz.func129 (c := body Tryz.f129) (by kernel_rfl) (zh (l := []) (by kernel_rfl) trivial) (sg := ⟨[.pure], []⟩) (A := zex) (res := zef) (W := fun x => zcF zd zS x.1) (z := default)
def zkK (ze : Weighted → Bool × Bool) (zU : List Weighted → Bool × Int) : Cx ty := mkCx base 9 [(131, (zcM ze)), (135, (zcr zU))] [] [] [] [] []
def zc4 (ze : Weighted → Bool × Bool) (zU : List Weighted → Bool × Int) (s : List Weighted) : Wy0 (Bool) := .bn (zU s) fun r0 => .k (decide (r0 ≥ 0))
def zcf (ze : Weighted → Bool × Bool) (zU : List Weighted → Bool × Int) (s : List Weighted) : Bool × Bool := (zc4 ze zU s).fin default
theorem zjY (ze : Weighted → Bool × Bool) (zU : List Weighted → Bool × Int) (zeI : Sound Tryz.prog base 131 (zcM ze)) (zlL : Sound Tryz.prog base 135 (zcr zU)) : Sound Tryz.prog base 76 (zcb (zcf ze zU)) :=
 zo (cx' := (zkK ze zU)) zH zm zy (zn ⟨zeI, zlL, trivial⟩) Tryz.call76 Tryz.func76 (c := body Tryz.f76) (by kernel_rfl) (zh (l := []) (by kernel_rfl) trivial) (sg := ⟨[.pure], []⟩) (A := zfs) (res := zeT) (W := fun x => zc4 ze zU x.1) (z := default)
end Go.Proofs.YtnolcogncjijpaaGreatDoor
end
