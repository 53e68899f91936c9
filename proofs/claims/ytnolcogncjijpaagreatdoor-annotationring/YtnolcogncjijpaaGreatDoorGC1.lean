/- Texts of this claim, joined (the program, its functions in plain words, and what they compute). -/
import Derived.KernelRfl
import Derived.Shelf.Strconv.Itoa3
import Derived.Stop.LaidErr
import Derived.Shelf.Vars
import Derived.Shelf.SlSortCmp.NoneTotal
import Derived.Shelf.Strings.OnBuilder
import Derived.Shelf.Strconv.Itoa4
import Derived.Shelf.Small.Strs
import Derived.Shelf.Strings.Replace
import Derived.Shelf.Small.Bits
import Derived.Test.YtnolcogncjijpaaGreatDoorChecked
import Derived.Test.YtnolcogncjijpaaGreatDoorRows
import Derived.Test.YtnolcogncjijpaaGreatDoorProg
import Derived.Test.YtnolcogncjijpaaGreatDoorGA2
import Derived.Test.YtnolcogncjijpaaGreatDoorGB1
set_option autoImplicit false
set_option linter.unusedVariables false
set_option linter.unusedSectionVars false
set_option linter.unusedSimpArgs false
set_option maxRecDepth 1000000
set_option maxHeartbeats 0
/- The types of the program, as plain data. -/
noncomputable section
namespace Go.Proofs.YtnolcogncjijpaaGreatDoor
open Go Go.Ab
open Go.Proofs Go.Shelf
structure RowID where
 Table : Int
 Seq : Int
 deriving DecidableEq, Inhabited
structure Value where
 Kind : Int
 Int : Int
 Text : ByteArray
 deriving DecidableEq, Inhabited
structure FactorOf (A : Type) where
 Atom : A
 Exp : Int
structure TermOf (A : Type) where
 Coeff : Int
 Factors : List (FactorOf A)
structure WeightedOf (A : Type) where
 Value : Value
 Ann : List (TermOf A)
structure Atom where
 Kind : Int
 Row : RowID
 Args : List (List (TermOf Atom))
 Func : Int
 Items : List (WeightedOf Atom)
 Op : Int
 Bound : Value
abbrev Factor := FactorOf Atom
abbrev Term := TermOf Atom
abbrev Weighted := WeightedOf Atom
instance : Inhabited Atom := ⟨⟨0, default, [], 0, [], 0, default⟩⟩
instance : Inhabited Factor := ⟨⟨default, 0⟩⟩
instance : Inhabited Term := ⟨⟨0, []⟩⟩
instance : Inhabited Weighted := ⟨⟨default, []⟩⟩
theorem Atom.eta (x : Atom) : (⟨x.Kind, x.Row, x.Args, x.Func, x.Items, x.Op, x.Bound⟩ : Atom) = x := by cases x; rfl
mutual
def zLZ : (x y : Atom) → Decidable (x = y)
 | ⟨k, r, a, f, i, o, b⟩, ⟨k', r', a', f', i', o', b'⟩ =>
  match decEq k k', decEq r r', zMc a a', decEq f f', zKd i i', decEq o o', decEq b b' with
  | .isTrue h1, .isTrue h2, .isTrue h3, .isTrue h4, .isTrue h5, .isTrue h6, .isTrue h7 => .isTrue (by subst h1 h2 h3 h4 h5 h6 h7; rfl)
  | .isFalse h, _, _, _, _, _, _ => .isFalse (fun e => by cases e; exact h rfl)
  | _, .isFalse h, _, _, _, _, _ => .isFalse (fun e => by cases e; exact h rfl)
  | _, _, .isFalse h, _, _, _, _ => .isFalse (fun e => by cases e; exact h rfl)
  | _, _, _, .isFalse h, _, _, _ => .isFalse (fun e => by cases e; exact h rfl)
  | _, _, _, _, .isFalse h, _, _ => .isFalse (fun e => by cases e; exact h rfl)
  | _, _, _, _, _, .isFalse h, _ => .isFalse (fun e => by cases e; exact h rfl)
  | _, _, _, _, _, _, .isFalse h => .isFalse (fun e => by cases e; exact h rfl)
def zJz : (x y : Factor) → Decidable (x = y)
 | ⟨a, e⟩, ⟨a', e'⟩ => match zLZ a a', decEq e e' with
  | .isTrue h1, .isTrue h2 => .isTrue (by subst h1 h2; rfl)
  | .isFalse h, _ => .isFalse (fun e => by cases e; exact h rfl)
  | _, .isFalse h => .isFalse (fun e => by cases e; exact h rfl)
def zHK : (x y : List Factor) → Decidable (x = y)
 | [], [] => .isTrue rfl
 | [], _ :: _ => .isFalse (by simp)
 | _ :: _, [] => .isFalse (by simp)
 | x :: r, y :: s => match zJz x y, zHK r s with
  | .isTrue h1, .isTrue h2 => .isTrue (by subst h1 h2; rfl)
  | .isFalse h, _ => .isFalse (fun e => by cases e; exact h rfl)
  | _, .isFalse h => .isFalse (fun e => by cases e; exact h rfl)
def zMD : (x y : Term) → Decidable (x = y)
 | ⟨a, e⟩, ⟨a', e'⟩ => match decEq a a', zHK e e' with
  | .isTrue h1, .isTrue h2 => .isTrue (by subst h1 h2; rfl)
  | .isFalse h, _ => .isFalse (fun e => by cases e; exact h rfl)
  | _, .isFalse h => .isFalse (fun e => by cases e; exact h rfl)
def zKo : (x y : List Term) → Decidable (x = y)
 | [], [] => .isTrue rfl
 | [], _ :: _ => .isFalse (by simp)
 | _ :: _, [] => .isFalse (by simp)
 | x :: r, y :: s => match zMD x y, zKo r s with
  | .isTrue h1, .isTrue h2 => .isTrue (by subst h1 h2; rfl)
  | .isFalse h, _ => .isFalse (fun e => by cases e; exact h rfl)
  | _, .isFalse h => .isFalse (fun e => by cases e; exact h rfl)
def zMc : (x y : List (List Term)) → Decidable (x = y)
 | [], [] => .isTrue rfl
 | [], _ :: _ => .isFalse (by simp)
 | _ :: _, [] => .isFalse (by simp)
 | x :: r, y :: s => match zKo x y, zMc r s with
  | .isTrue h1, .isTrue h2 => .isTrue (by subst h1 h2; rfl)
  | .isFalse h, _ => .isFalse (fun e => by cases e; exact h rfl)
  | _, .isFalse h => .isFalse (fun e => by cases e; exact h rfl)
def zL6 : (x y : Weighted) → Decidable (x = y)
 | ⟨a, e⟩, ⟨a', e'⟩ => match decEq a a', zKo e e' with
  | .isTrue h1, .isTrue h2 => .isTrue (by subst h1 h2; rfl)
  | .isFalse h, _ => .isFalse (fun e => by cases e; exact h rfl)
  | _, .isFalse h => .isFalse (fun e => by cases e; exact h rfl)
def zKd : (x y : List Weighted) → Decidable (x = y)
 | [], [] => .isTrue rfl
 | [], _ :: _ => .isFalse (by simp)
 | _ :: _, [] => .isFalse (by simp)
 | x :: r, y :: s => match zL6 x y, zKd r s with
  | .isTrue h1, .isTrue h2 => .isTrue (by subst h1 h2; rfl)
  | .isFalse h, _ => .isFalse (fun e => by cases e; exact h rfl)
  | _, .isFalse h => .isFalse (fun e => by cases e; exact h rfl)
end
instance : DecidableEq Atom := zLZ
instance : DecidableEq Factor := zJz
instance : DecidableEq Term := zMD
instance : DecidableEq Weighted := zL6
structure Binding where
 Row : RowID
 To : List Term
 deriving DecidableEq, Inhabited
def ty : Nat → Type
 | 2 => Int
 | 3 => Int
 | 4 => Bool
 | 5 => Int
 | 9 => ByteArray
 | 22 => List Term
 | 23 => List Term
 | 25 => RowID
 | 28 => Int
 | 40 => List Factor
 | 42 => Term
 | 43 => List (List Term)
 | 44 => List Weighted
 | 46 => Value
 | 48 => Atom
 | 50 => Factor
 | 52 => Weighted
 | 59 => List Binding
 | 65 => List RowID
 | 69 => Binding
 | 106 => Unit
 | 128 => List Int
 | 136 => List ByteArray
 | 143 => Int
 | 144 => List (List Factor)
 | _ => Unit
instance : (T : Nat) → Inhabited (ty T) := fun T => by
 unfold ty
 split <;> infer_instance
def dt25 : DT ty RowID := zD1 (fun x => ⟨x.1, x.2⟩) (fun x => (x.Table, x.Seq)) (fun _ => rfl) (zoj (zqs .i64) (zqs .i64))
def dt46 : DT ty Value := zD1 (fun x => ⟨x.1, x.2.1, x.2.2⟩) (fun x => (x.Kind, x.Int, x.Text)) (fun _ => rfl) (zoj (zqs .i64) (zoj (zqs .i64) (zPR)))
def dt48 : DT ty Atom := zD1 (fun x => ⟨x.1, x.2.1, x.2.2.1, x.2.2.2.1, x.2.2.2.2.1, x.2.2.2.2.2.1, x.2.2.2.2.2.2⟩) (fun x => (x.Kind, x.Row, x.Args, x.Func, x.Items, x.Op, x.Bound)) (fun _ => rfl) (zoj (zqs .i64) (zoj (dt25) (zoj (dtSl 23) (zoj (zqs .i64) (zoj (dtSl 52) (zoj (zqs .i64) (dt46)))))))
def dt50 : DT ty Factor := zD1 (fun x => ⟨x.1, x.2⟩) (fun x => (x.Atom, x.Exp)) (fun _ => rfl) (zoj (dt48) (zqs .i64))
def dt42 : DT ty Term := zD1 (fun x => ⟨x.1, x.2⟩) (fun x => (x.Coeff, x.Factors)) (fun _ => rfl) (zoj (zqs .i64) (dtSl 50))
def dt52 : DT ty Weighted := zD1 (fun x => ⟨x.1, x.2⟩) (fun x => (x.Value, x.Ann)) (fun _ => rfl) (zoj (dt46) (dtSl 42))
def dt69 : DT ty Binding := zD1 (fun x => ⟨x.1, x.2⟩) (fun x => (x.Row, x.To)) (fun _ => rfl) (zoj (dt25) (dtSl 42))
def zHl : List ((T : Nat) × DT ty (ty T)) := [⟨2, (zqs .i64 : DT ty Int)⟩, ⟨3, (zqs .i64 : DT ty Int)⟩, ⟨4, (zRo : DT ty Bool)⟩, ⟨5, (zqs .u8 : DT ty Int)⟩, ⟨9, (zPR : DT ty ByteArray)⟩, ⟨22, (dtSl 42 : DT ty (List Term))⟩, ⟨23, (dtSl 42 : DT ty (List Term))⟩, ⟨25, (dt25 : DT ty RowID)⟩, ⟨28, (zqs .i64 : DT ty Int)⟩, ⟨40, (dtSl 50 : DT ty (List Factor))⟩, ⟨42, (dt42 : DT ty Term)⟩, ⟨43, (dtSl 23 : DT ty (List (List Term)))⟩, ⟨44, (dtSl 52 : DT ty (List Weighted))⟩, ⟨46, (dt46 : DT ty Value)⟩, ⟨48, (dt48 : DT ty Atom)⟩, ⟨50, (dt50 : DT ty Factor)⟩, ⟨52, (dt52 : DT ty Weighted)⟩, ⟨59, (dtSl 69 : DT ty (List Binding))⟩, ⟨65, (dtSl 25 : DT ty (List RowID))⟩, ⟨69, (dt69 : DT ty Binding)⟩, ⟨106, (dtMp : DT ty Unit)⟩, ⟨128, (dtSl 3 : DT ty (List Int))⟩, ⟨136, (dtSl 9 : DT ty (List ByteArray))⟩, ⟨143, (zqs .u64 : DT ty Int)⟩, ⟨144, (dtSl 40 : DT ty (List (List Factor)))⟩]
def zJ3 : List (Nat × TInfo) := [(2, ⟨.int .i64, 1, 8, [.int .i64 (0)]⟩),
 (3, ⟨.int .i64, 1, 8, [.int .i64 (0)]⟩),
 (4, ⟨.bool, 1, 1, [.bool false]⟩),
 (5, ⟨.int .u8, 1, 1, [.int .u8 (0)]⟩),
 (9, ⟨.str, 1, 16, [.string ⟨#[]⟩]⟩),
 (22, ⟨.slice 42, 1, 24, [.slice none 0 0]⟩),
 (23, ⟨.slice 42, 1, 24, [.slice none 0 0]⟩),
 (25, ⟨.struct [(0, 3), (1, 3)], 2, 16, [.int .i64 (0), .int .i64 (0)]⟩),
 (28, ⟨.int .i64, 1, 8, [.int .i64 (0)]⟩),
 (40, ⟨.slice 50, 1, 24, [.slice none 0 0]⟩),
 (42, ⟨.struct [(0, 2), (1, 40)], 2, 32, [.int .i64 (0), .slice none 0 0]⟩),
 (43, ⟨.slice 23, 1, 24, [.slice none 0 0]⟩),
 (44, ⟨.slice 52, 1, 24, [.slice none 0 0]⟩),
 (46, ⟨.struct [(0, 3), (1, 2), (2, 9)], 3, 32, [.int .i64 (0), .int .i64 (0), .string ⟨#[]⟩]⟩),
 (48, ⟨.struct [(0, 3), (1, 25), (3, 43), (4, 3), (5, 44), (6, 3), (7, 46)], 10, 120, [.int .i64 (0), .int .i64 (0), .int .i64 (0), .slice none 0 0, .int .i64 (0), .slice none 0 0, .int .i64 (0), .int .i64 (0), .int .i64 (0), .string ⟨#[]⟩]⟩),
 (50, ⟨.struct [(0, 48), (10, 3)], 11, 128, [.int .i64 (0), .int .i64 (0), .int .i64 (0), .slice none 0 0, .int .i64 (0), .slice none 0 0, .int .i64 (0), .int .i64 (0), .int .i64 (0), .string ⟨#[]⟩, .int .i64 (0)]⟩),
 (52, ⟨.struct [(0, 46), (3, 23)], 4, 56, [.int .i64 (0), .int .i64 (0), .string ⟨#[]⟩, .slice none 0 0]⟩),
 (59, ⟨.slice 69, 1, 24, [.slice none 0 0]⟩),
 (65, ⟨.slice 25, 1, 24, [.slice none 0 0]⟩),
 (69, ⟨.struct [(0, 25), (2, 23)], 3, 40, [.int .i64 (0), .int .i64 (0), .slice none 0 0]⟩),
 (106, ⟨.map 9 3, 1, 8, [.map none]⟩),
 (128, ⟨.slice 3, 1, 24, [.slice none 0 0]⟩),
 (136, ⟨.slice 9, 1, 24, [.slice none 0 0]⟩),
 (143, ⟨.int .u64, 1, 8, [.int .u64 (0)]⟩),
 (144, ⟨.slice 40, 1, 24, [.slice none 0 0]⟩)]
def zLe : List (Nat × List TD) := [(25, [.int .i64, .int .i64]), (46, [.int .i64, .int .i64, .str])]
def inv (w : World) : Prop := Lib.TabIs Tryz.prog w "internal/strconv.uint64pow10" .u64 Lib.pow10Tab ∧ (∃ m, w.cell? ⟨0, 0, none⟩ = some (.int .i64 m))
theorem zPH {n : String} {g : Nat} {w w' : World} (hg : Tryz.prog.globalNamed n = some g) (h : w'.heap[g]? = w.heap[g]?) : w'.var? Tryz.prog n = w.var? Tryz.prog n := by
 unfold World.var?; rw [hg]; simp only [Option.bind_some, h]
theorem zNd (w w' : World) (hi : inv w) (hb : ∀ b, b < 4 → w'.heap[b]? = w.heap[b]?) : inv w' := by
 obtain ⟨h1, ⟨m, h2⟩⟩ := hi
 refine ⟨(zPH (g := 1) (by kernel_rfl) (hb 1 (by omega))).trans h1, ⟨m, ?_⟩⟩
 rw [← h2]; exact World.cell?_of_block (a := ⟨0, 0, none⟩) (hb 0 (by omega))
def base : Cx ty := { ti := fun T => zJ3.lookup T, dflt := fun _ => default, enc := fun T => (tabT zHl T).enc, dec := fun T => (tabT zHl T).dec, spec := fun _ => none, io := fun _ => [], eqs := fun T us vs => match zLe.lookup T with | some ts => zfY ts us vs | none => none, nt := 0, head := fun _ => [], out := fun _ _ => [], loops := fun _ => none, ng := 4, inv := inv }
theorem zNq : Tryz.prog.info? 2 = some Tryz.t2 := by kernel_rfl
theorem zBD : Tryz.prog.info? 3 = some Tryz.t3 := by kernel_rfl
theorem zRG : Tryz.prog.info? 4 = some Tryz.t4 := by kernel_rfl
theorem zRL : Tryz.prog.info? 5 = some Tryz.t5 := by kernel_rfl
theorem zPK : Tryz.prog.info? 9 = some Tryz.t9 := by kernel_rfl
theorem zRv : Tryz.prog.info? 22 = some Tryz.t22 := by kernel_rfl
theorem zKj : Tryz.prog.info? 23 = some Tryz.t23 := by kernel_rfl
theorem zKu : Tryz.prog.info? 25 = some Tryz.t25 := by kernel_rfl
theorem zRt : Tryz.prog.info? 28 = some Tryz.t28 := by kernel_rfl
theorem zOG : Tryz.prog.info? 40 = some Tryz.t40 := by kernel_rfl
theorem zQU : Tryz.prog.info? 42 = some Tryz.t42 := by kernel_rfl
theorem zOh : Tryz.prog.info? 43 = some Tryz.t43 := by kernel_rfl
theorem zOD : Tryz.prog.info? 44 = some Tryz.t44 := by kernel_rfl
theorem zLi : Tryz.prog.info? 46 = some Tryz.t46 := by kernel_rfl
theorem zN3 : Tryz.prog.info? 48 = some Tryz.t48 := by kernel_rfl
theorem zRc : Tryz.prog.info? 50 = some Tryz.t50 := by kernel_rfl
theorem zQ1 : Tryz.prog.info? 52 = some Tryz.t52 := by kernel_rfl
theorem zRg : Tryz.prog.info? 59 = some Tryz.t59 := by kernel_rfl
theorem zRa : Tryz.prog.info? 65 = some Tryz.t65 := by kernel_rfl
theorem zQP : Tryz.prog.info? 69 = some Tryz.t69 := by kernel_rfl
theorem zQa : Tryz.prog.info? 106 = some Tryz.t106 := by kernel_rfl
theorem zQL : Tryz.prog.info? 128 = some Tryz.t128 := by kernel_rfl
theorem zQd : Tryz.prog.info? 136 = some Tryz.t136 := by kernel_rfl
theorem zQH : Tryz.prog.info? 143 = some Tryz.t143 := by kernel_rfl
theorem zQK : Tryz.prog.info? 144 = some Tryz.t144 := by kernel_rfl
theorem zQb : ∀ T i, zJ3.lookup T = some i → InfoOK Tryz.prog T i := by
 intro T i h
 have h := zyJ _ _ _ h
 simp only [zJ3, List.mem_cons, List.not_mem_nil, or_false, Prod.mk.injEq] at h
 rcases h with ⟨rfl, rfl⟩ | ⟨rfl, rfl⟩ | ⟨rfl, rfl⟩ | ⟨rfl, rfl⟩ | ⟨rfl, rfl⟩ | ⟨rfl, rfl⟩ | ⟨rfl, rfl⟩ | ⟨rfl, rfl⟩ | ⟨rfl, rfl⟩ | ⟨rfl, rfl⟩ | ⟨rfl, rfl⟩ | ⟨rfl, rfl⟩ | ⟨rfl, rfl⟩ | ⟨rfl, rfl⟩ | ⟨rfl, rfl⟩ | ⟨rfl, rfl⟩ | ⟨rfl, rfl⟩ | ⟨rfl, rfl⟩ | ⟨rfl, rfl⟩ | ⟨rfl, rfl⟩ | ⟨rfl, rfl⟩ | ⟨rfl, rfl⟩ | ⟨rfl, rfl⟩ | ⟨rfl, rfl⟩ | ⟨rfl, rfl⟩
 ·exact ⟨Tryz.t2, _, _, zNq, Tryz.underlying2, rfl, rfl, rfl, rfl, rfl, ⟨by simp [zbX], fun _ => rfl⟩, rfl⟩
 ·exact ⟨Tryz.t3, _, _, zBD, Tryz.underlying3, rfl, rfl, rfl, rfl, rfl, ⟨by simp [zbX], fun _ => rfl⟩, rfl⟩
 ·exact ⟨Tryz.t4, _, _, zRG, Tryz.underlying4, rfl, rfl, rfl, rfl, rfl, ⟨by simp [zbX], fun _ => rfl⟩, rfl⟩
 ·exact ⟨Tryz.t5, _, _, zRL, Tryz.underlying5, rfl, rfl, rfl, rfl, rfl, ⟨by simp [zbX], fun _ => rfl⟩, rfl⟩
 ·exact ⟨Tryz.t9, _, _, zPK, Tryz.underlying9, rfl, rfl, rfl, rfl, rfl, ⟨by simp [zbX], fun _ => rfl⟩, rfl⟩
 ·exact ⟨Tryz.t22, _, _, zRv, Tryz.underlying22, rfl, rfl, rfl, rfl, rfl, ⟨by simp [zbX], fun _ => rfl⟩, rfl⟩
 ·exact ⟨Tryz.t23, _, _, zKj, Tryz.underlying23, rfl, rfl, rfl, rfl, rfl, ⟨by simp [zbX], fun _ => rfl⟩, rfl⟩
 ·exact ⟨Tryz.t25, _, _, zKu, Tryz.underlying25, rfl, rfl, rfl, rfl, rfl, ⟨by simp [zbX], fun h => by cases h⟩, ⟨_, rfl, rfl, fun f hf => by
   simp only [List.mem_cons, List.not_mem_nil, or_false] at hf
   rcases hf with rfl | rfl
   ·exact Option.isSome_iff_exists.2 ⟨_, zBD⟩
   ·exact Option.isSome_iff_exists.2 ⟨_, zBD⟩⟩⟩
 ·exact ⟨Tryz.t28, _, _, zRt, Tryz.underlying28, rfl, rfl, rfl, rfl, rfl, ⟨by simp [zbX], fun _ => rfl⟩, rfl⟩
 ·exact ⟨Tryz.t40, _, _, zOG, Tryz.underlying40, rfl, rfl, rfl, rfl, rfl, ⟨by simp [zbX], fun _ => rfl⟩, rfl⟩
 ·exact ⟨Tryz.t42, _, _, zQU, Tryz.underlying42, rfl, rfl, rfl, rfl, rfl, ⟨by simp [zbX], fun h => by cases h⟩, ⟨_, rfl, rfl, fun f hf => by
   simp only [List.mem_cons, List.not_mem_nil, or_false] at hf
   rcases hf with rfl | rfl
   ·exact Option.isSome_iff_exists.2 ⟨_, zNq⟩
   ·exact Option.isSome_iff_exists.2 ⟨_, zOG⟩⟩⟩
 ·exact ⟨Tryz.t43, _, _, zOh, Tryz.underlying43, rfl, rfl, rfl, rfl, rfl, ⟨by simp [zbX], fun _ => rfl⟩, rfl⟩
 ·exact ⟨Tryz.t44, _, _, zOD, Tryz.underlying44, rfl, rfl, rfl, rfl, rfl, ⟨by simp [zbX], fun _ => rfl⟩, rfl⟩
 ·exact ⟨Tryz.t46, _, _, zLi, Tryz.underlying46, rfl, rfl, rfl, rfl, rfl, ⟨by simp [zbX], fun h => by cases h⟩, ⟨_, rfl, rfl, fun f hf => by
   simp only [List.mem_cons, List.not_mem_nil, or_false] at hf
   rcases hf with rfl | rfl | rfl
   ·exact Option.isSome_iff_exists.2 ⟨_, zBD⟩
   ·exact Option.isSome_iff_exists.2 ⟨_, zNq⟩
   ·exact Option.isSome_iff_exists.2 ⟨_, zPK⟩⟩⟩
 ·exact ⟨Tryz.t48, _, _, zN3, Tryz.underlying48, rfl, rfl, rfl, rfl, rfl, ⟨by simp [zbX], fun h => by cases h⟩, ⟨_, rfl, rfl, fun f hf => by
   simp only [List.mem_cons, List.not_mem_nil, or_false] at hf
   rcases hf with rfl | rfl | rfl | rfl | rfl | rfl | rfl
   ·exact Option.isSome_iff_exists.2 ⟨_, zBD⟩
   ·exact Option.isSome_iff_exists.2 ⟨_, zKu⟩
   ·exact Option.isSome_iff_exists.2 ⟨_, zOh⟩
   ·exact Option.isSome_iff_exists.2 ⟨_, zBD⟩
   ·exact Option.isSome_iff_exists.2 ⟨_, zOD⟩
   ·exact Option.isSome_iff_exists.2 ⟨_, zBD⟩
   ·exact Option.isSome_iff_exists.2 ⟨_, zLi⟩⟩⟩
 ·exact ⟨Tryz.t50, _, _, zRc, Tryz.underlying50, rfl, rfl, rfl, rfl, rfl, ⟨by simp [zbX], fun h => by cases h⟩, ⟨_, rfl, rfl, fun f hf => by
   simp only [List.mem_cons, List.not_mem_nil, or_false] at hf
   rcases hf with rfl | rfl
   ·exact Option.isSome_iff_exists.2 ⟨_, zN3⟩
   ·exact Option.isSome_iff_exists.2 ⟨_, zBD⟩⟩⟩
 ·exact ⟨Tryz.t52, _, _, zQ1, Tryz.underlying52, rfl, rfl, rfl, rfl, rfl, ⟨by simp [zbX], fun h => by cases h⟩, ⟨_, rfl, rfl, fun f hf => by
   simp only [List.mem_cons, List.not_mem_nil, or_false] at hf
   rcases hf with rfl | rfl
   ·exact Option.isSome_iff_exists.2 ⟨_, zLi⟩
   ·exact Option.isSome_iff_exists.2 ⟨_, zKj⟩⟩⟩
 ·exact ⟨Tryz.t59, _, _, zRg, Tryz.underlying59, rfl, rfl, rfl, rfl, rfl, ⟨by simp [zbX], fun _ => rfl⟩, rfl⟩
 ·exact ⟨Tryz.t65, _, _, zRa, Tryz.underlying65, rfl, rfl, rfl, rfl, rfl, ⟨by simp [zbX], fun _ => rfl⟩, rfl⟩
 ·exact ⟨Tryz.t69, _, _, zQP, Tryz.underlying69, rfl, rfl, rfl, rfl, rfl, ⟨by simp [zbX], fun h => by cases h⟩, ⟨_, rfl, rfl, fun f hf => by
   simp only [List.mem_cons, List.not_mem_nil, or_false] at hf
   rcases hf with rfl | rfl
   ·exact Option.isSome_iff_exists.2 ⟨_, zKu⟩
   ·exact Option.isSome_iff_exists.2 ⟨_, zKj⟩⟩⟩
 ·exact ⟨Tryz.t106, _, _, zQa, Tryz.underlying106, rfl, rfl, rfl, rfl, rfl, ⟨by simp [zbX], fun _ => rfl⟩, rfl⟩
 ·exact ⟨Tryz.t128, _, _, zQL, Tryz.underlying128, rfl, rfl, rfl, rfl, rfl, ⟨by simp [zbX], fun _ => rfl⟩, rfl⟩
 ·exact ⟨Tryz.t136, _, _, zQd, Tryz.underlying136, rfl, rfl, rfl, rfl, rfl, ⟨by simp [zbX], fun _ => rfl⟩, rfl⟩
 ·exact ⟨Tryz.t143, _, _, zQH, Tryz.underlying143, rfl, rfl, rfl, rfl, rfl, ⟨by simp [zbX], fun _ => rfl⟩, rfl⟩
 ·exact ⟨Tryz.t144, _, _, zQK, Tryz.underlying144, rfl, rfl, rfl, rfl, rfl, ⟨by simp [zbX], fun _ => rfl⟩, rfl⟩
theorem zO6 : ∀ T us vs b, (match zLe.lookup T with | some ts => zfY ts us vs | none => none) = some b → ∀ w, (binOp .eql T (.agg us.toArray) (.agg vs.toArray)).run Tryz.prog w = .ok (.bool b) w ∧ (binOp .neq T (.agg us.toArray) (.agg vs.toArray)).run Tryz.prog w = .ok (.bool (!b)) w ∧
  ∀ op x y, (eqGuard op T x y (.agg us.toArray) (.agg vs.toArray)).run Tryz.prog w = .ok () w := by
 intro T us vs b h w
 split at h
 ·rename_i ts hl
  have hl := zyJ _ _ _ hl
  simp only [zLe, List.mem_cons, List.not_mem_nil, or_false, Prod.mk.injEq] at hl
  rcases hl with ⟨rfl, rfl⟩ | ⟨rfl, rfl⟩
  ·refine zHZ _ _ Tryz.underlying25 (by kernel_rfl) (by kernel_rfl) rfl ?_ h w
   intro j f t hj ht
   rcases j with _ | j
   ·simp at hj ht; subst hj ht; exact ⟨rfl, by decide, _, Tryz.underlying3, rfl⟩
   rcases j with _ | j
   ·simp at hj ht; subst hj ht; exact ⟨rfl, by decide, _, Tryz.underlying3, rfl⟩
   simp at hj
  ·refine zHZ _ _ Tryz.underlying46 (by kernel_rfl) (by kernel_rfl) rfl ?_ h w
   intro j f t hj ht
   rcases j with _ | j
   ·simp at hj ht; subst hj ht; exact ⟨rfl, by decide, _, Tryz.underlying3, rfl⟩
   rcases j with _ | j
   ·simp at hj ht; subst hj ht; exact ⟨rfl, by decide, _, Tryz.underlying2, rfl⟩
   rcases j with _ | j
   ·simp at hj ht; subst hj ht; exact ⟨rfl, by decide, _, Tryz.underlying9, rfl⟩
   simp at hj
 ·cases h
theorem zB : CxOK Tryz.prog base := ⟨zQb, fun T x => by rw [show szOf base T = _ from (zKn zHl zJ3 rfl T).symm]; exact DT.len _ x, fun T x c h => by have := DT.cell _ _ c h; revert this; cases c <;> exact id, fun T cs x h F w us hr => DT.ok _ base F w us cs x h hr, zO6, zNd⟩
def base0 : Cx ty := { base with dr := false }
theorem zic : CxOK Tryz.prog base0 := CxOK.cg (cx := base) (cx' := base0) ⟨rfl, rfl, rfl, rfl, rfl, rfl⟩ zB
theorem zR : Tryz.prog.follows .mixedOrders = true := by kernel_rfl
end Go.Proofs.YtnolcogncjijpaaGreatDoor
/- What is read of an argument, as typed data. -/
namespace Go.Proofs.YtnolcogncjijpaaGreatDoor
open Go Go.Ab
def wf2 (x : Int) : Prop := (Lit.int .i64 x).wf = true
def wf3 (x : Int) : Prop := (Lit.int .i64 x).wf = true
def wf4 (x : Bool) : Prop := True
def wf5 (x : Int) : Prop := (Lit.int .u8 x).wf = true
def wf9 (x : ByteArray) : Prop := ByteArray.size x ≤ roomLen
def wf25 (x : RowID) : Prop := wf3 x.Table ∧ wf3 x.Seq
def wf46 (x : Value) : Prop := wf3 x.Kind ∧ wf2 x.Int ∧ wf9 x.Text
mutual
def zlm : Atom → Prop
 | ⟨k, r, a, f, i, o, b⟩ => wf3 k ∧ wf25 r ∧ (zu4 a ∧ a.length ≤ roomLen) ∧ wf3 f ∧ (zrT i ∧ i.length ≤ roomLen) ∧ wf3 o ∧ wf46 b
def zo1 : Factor → Prop
 | ⟨a, e⟩ => zlm a ∧ wf3 e
def zna : List Factor → Prop
 | [] => True
 | x :: r => zo1 x ∧ zna r
def zsR : Term → Prop
 | ⟨c, f⟩ => wf2 c ∧ (zna f ∧ f.length ≤ roomLen)
def zhZ : List Term → Prop
 | [] => True
 | x :: r => zsR x ∧ zhZ r
def zu4 : List (List Term) → Prop
 | [] => True
 | x :: r => (zhZ x ∧ x.length ≤ roomLen) ∧ zu4 r
def zC7 : Weighted → Prop
 | ⟨v, a⟩ => wf46 v ∧ (zhZ a ∧ a.length ≤ roomLen)
def zrT : List Weighted → Prop
 | [] => True
 | x :: r => zC7 x ∧ zrT r
end
theorem zA0 : ∀ l : List Factor, (∀ x ∈ l, zo1 x) → zna l
 | [], _ => by unfold zna; trivial
 | x :: r, h => by unfold zna; exact ⟨h x (by simp), zA0 r fun y hy => h y (by simp [hy])⟩
theorem zG6 : ∀ l : List Term, (∀ x ∈ l, zsR x) → zhZ l
 | [], _ => by unfold zhZ; trivial
 | x :: r, h => by unfold zhZ; exact ⟨h x (by simp), zG6 r fun y hy => h y (by simp [hy])⟩
theorem zJd : ∀ l : List (List Term), (∀ x ∈ l, zhZ x ∧ x.length ≤ roomLen) → zu4 l
 | [], _ => by unfold zu4; trivial
 | x :: r, h => by unfold zu4; exact ⟨h x (by simp), zJd r fun y hy => h y (by simp [hy])⟩
theorem zHN : ∀ l : List Weighted, (∀ x ∈ l, zC7 x) → zrT l
 | [], _ => by unfold zrT; trivial
 | x :: r, h => by unfold zrT; exact ⟨h x (by simp), zHN r fun y hy => h y (by simp [hy])⟩
def wf23 (x : List Term) : Prop := zhZ x ∧ List.length x ≤ roomLen
def wf40 (x : List Factor) : Prop := zna x ∧ List.length x ≤ roomLen
def wf42 (x : Term) : Prop := zsR x
def wf43 (x : List (List Term)) : Prop := zu4 x ∧ List.length x ≤ roomLen
def wf44 (x : List Weighted) : Prop := zrT x ∧ List.length x ≤ roomLen
def wf48 (x : Atom) : Prop := zlm x
def wf50 (x : Factor) : Prop := zo1 x
def wf52 (x : Weighted) : Prop := zC7 x
def wf69 (x : Binding) : Prop := wf25 x.Row ∧ wf23 x.To
def wf59 (x : List Binding) : Prop := (∀ y ∈ x, wf69 y) ∧ List.length x ≤ roomLen
def wf (T : Nat) : ty T → Prop := match T with
 | 2 => wf2
 | 3 => wf3
 | 4 => wf4
 | 5 => wf5
 | 9 => wf9
 | 23 => wf23
 | 25 => wf25
 | 40 => wf40
 | 42 => wf42
 | 43 => wf43
 | 44 => wf44
 | 46 => wf46
 | 48 => wf48
 | 50 => wf50
 | 52 => wf52
 | 59 => wf59
 | 69 => wf69
 | _ => fun _ => True
theorem zOw : zrK Tryz.prog base wf 2 := zJm Tryz.underlying2 (fun n => n) (fun _ => rfl) (fun _ h => h)
theorem zA3 : zrK Tryz.prog base wf 3 := zJm Tryz.underlying3 (fun n => n) (fun _ => rfl) (fun _ h => h)
theorem zQX : zrK Tryz.prog base wf 9 := zNW Tryz.underlying9 (fun n => n) (fun _ => rfl) (fun _ h => h)
theorem zQE : zrK Tryz.prog base wf 25 := by
 intro H en w sp held fuel cs y h hz
 obtain ⟨xs, n, _, hy, hl, hlen, hf⟩ := DataW.trod_struct Tryz.underlying25 h
 have hs := zl6 Tryz.underlying25 hy hz
 obtain ⟨x0, h0, w0⟩ := ztj (off := 0) zA3 (by kernel_rfl) hlen hf hs 0 _ rfl rfl rfl
 obtain ⟨x1, h1, w1⟩ := ztj (off := 1) zA3 (by kernel_rfl) hlen hf hs 1 _ rfl rfl rfl
 have hl : cs.length = 2 := hl.trans (by kernel_rfl)
 have := zh4 h0 (zwT h1 hl)
 exact ⟨(⟨x0, x1⟩ : RowID), this, ⟨w0, w1⟩⟩
theorem zMh : zrK Tryz.prog base wf 46 := by
 intro H en w sp held fuel cs y h hz
 obtain ⟨xs, n, _, hy, hl, hlen, hf⟩ := DataW.trod_struct Tryz.underlying46 h
 have hs := zl6 Tryz.underlying46 hy hz
 obtain ⟨x0, h0, w0⟩ := ztj (off := 0) zA3 (by kernel_rfl) hlen hf hs 0 _ rfl rfl rfl
 obtain ⟨x1, h1, w1⟩ := ztj (off := 1) zOw (by kernel_rfl) hlen hf hs 1 _ rfl rfl rfl
 obtain ⟨x2, h2, w2⟩ := ztj (off := 2) zQX (by kernel_rfl) hlen hf hs 2 _ rfl rfl rfl
 have hl : cs.length = 3 := hl.trans (by kernel_rfl)
 have := zh4 h0 (zh4 h1 (zwT h2 hl))
 exact ⟨(⟨x0, x1, x2⟩ : Value), this, ⟨w0, w1, w2⟩⟩
theorem zKm : ∀ m, znl Tryz.prog base wf m 23 ∧ znl Tryz.prog base wf m 40 ∧ znl Tryz.prog base wf m 42 ∧ znl Tryz.prog base wf m 43 ∧ znl Tryz.prog base wf m 44 ∧ znl Tryz.prog base wf m 48 ∧ znl Tryz.prog base wf m 50 ∧ znl Tryz.prog base wf m 52
 | 0 => ⟨zlU, zlU, zlU, zlU, zlU, zlU, zlU, zlU⟩
 | m + 1 => by
  obtain ⟨h23, h40, h42, h43, h44, h48, h50, h52⟩ := zKm m
  refine ⟨?_, ?_, ?_, ?_, ?_, ?_, ?_, ?_⟩
  ·exact zuU zB Tryz.underlying23 (by kernel_rfl) (by decide) (fun l => l) (fun _ => rfl) (of_decide_eq_true (by kernel_rfl)) h42 (fun l h h2 => ⟨zG6 l h, h2⟩)
  ·exact zuU zB Tryz.underlying40 (by kernel_rfl) (by decide) (fun l => l) (fun _ => rfl) (of_decide_eq_true (by kernel_rfl)) h50 (fun l h h2 => ⟨zA0 l h, h2⟩)
  ·intro H en w sp held fuel cs y hfu h hz
   obtain ⟨xs, n, hn, hy, hl, hlen, hf⟩ := DataW.trod_struct Tryz.underlying42 h
   have hs := zl6 Tryz.underlying42 hy hz
   have hn : n ≤ m := by omega
   obtain ⟨x0, hx0, w0⟩ := zeu (off := 0) (zOw.at m) (by kernel_rfl) hn hlen hf hs 0 _ rfl rfl rfl
   obtain ⟨x1, hx1, w1⟩ := zeu (off := 1) h40 (by kernel_rfl) hn hlen hf hs 1 _ rfl rfl rfl
   have hl : cs.length = 2 := hl.trans (by kernel_rfl)
   have := zh4 hx0 (zwT hx1 hl)
   exact ⟨(⟨x0, x1⟩ : Term), this, by show zsR (⟨x0, x1⟩ : Term); unfold zsR; exact ⟨w0, w1⟩⟩
  ·exact zuU zB Tryz.underlying43 (by kernel_rfl) (by decide) (fun l => l) (fun _ => rfl) (of_decide_eq_true (by kernel_rfl)) h23 (fun l h h2 => ⟨zJd l h, h2⟩)
  ·exact zuU zB Tryz.underlying44 (by kernel_rfl) (by decide) (fun l => l) (fun _ => rfl) (of_decide_eq_true (by kernel_rfl)) h52 (fun l h h2 => ⟨zHN l h, h2⟩)
  ·intro H en w sp held fuel cs y hfu h hz
   obtain ⟨xs, n, hn, hy, hl, hlen, hf⟩ := DataW.trod_struct Tryz.underlying48 h
   have hs := zl6 Tryz.underlying48 hy hz
   have hn : n ≤ m := by omega
   obtain ⟨x0, hx0, w0⟩ := zeu (off := 0) (zA3.at m) (by kernel_rfl) hn hlen hf hs 0 _ rfl rfl rfl
   obtain ⟨x1, hx1, w1⟩ := zeu (off := 1) (zQE.at m) (by kernel_rfl) hn hlen hf hs 1 _ rfl rfl rfl
   obtain ⟨x2, hx2, w2⟩ := zeu (off := 3) h43 (by kernel_rfl) hn hlen hf hs 2 _ rfl rfl rfl
   obtain ⟨x3, hx3, w3⟩ := zeu (off := 4) (zA3.at m) (by kernel_rfl) hn hlen hf hs 3 _ rfl rfl rfl
   obtain ⟨x4, hx4, w4⟩ := zeu (off := 5) h44 (by kernel_rfl) hn hlen hf hs 4 _ rfl rfl rfl
   obtain ⟨x5, hx5, w5⟩ := zeu (off := 6) (zA3.at m) (by kernel_rfl) hn hlen hf hs 5 _ rfl rfl rfl
   obtain ⟨x6, hx6, w6⟩ := zeu (off := 7) (zMh.at m) (by kernel_rfl) hn hlen hf hs 6 _ rfl rfl rfl
   have hl : cs.length = 10 := hl.trans (by kernel_rfl)
   have := zh4 hx0 (zh4 hx1 (zh4 hx2 (zh4 hx3 (zh4 hx4 (zh4 hx5 (zwT hx6 hl))))))
   exact ⟨(⟨x0, x1, x2, x3, x4, x5, x6⟩ : Atom), this, by show zlm (⟨x0, x1, x2, x3, x4, x5, x6⟩ : Atom); unfold zlm; exact ⟨w0, w1, w2, w3, w4, w5, w6⟩⟩
  ·intro H en w sp held fuel cs y hfu h hz
   obtain ⟨xs, n, hn, hy, hl, hlen, hf⟩ := DataW.trod_struct Tryz.underlying50 h
   have hs := zl6 Tryz.underlying50 hy hz
   have hn : n ≤ m := by omega
   obtain ⟨x0, hx0, w0⟩ := zeu (off := 0) h48 (by kernel_rfl) hn hlen hf hs 0 _ rfl rfl rfl
   obtain ⟨x1, hx1, w1⟩ := zeu (off := 10) (zA3.at m) (by kernel_rfl) hn hlen hf hs 1 _ rfl rfl rfl
   have hl : cs.length = 11 := hl.trans (by kernel_rfl)
   have := zh4 hx0 (zwT hx1 hl)
   exact ⟨(⟨x0, x1⟩ : Factor), this, by show zo1 (⟨x0, x1⟩ : Factor); unfold zo1; exact ⟨w0, w1⟩⟩
  ·intro H en w sp held fuel cs y hfu h hz
   obtain ⟨xs, n, hn, hy, hl, hlen, hf⟩ := DataW.trod_struct Tryz.underlying52 h
   have hs := zl6 Tryz.underlying52 hy hz
   have hn : n ≤ m := by omega
   obtain ⟨x0, hx0, w0⟩ := zeu (off := 0) (zMh.at m) (by kernel_rfl) hn hlen hf hs 0 _ rfl rfl rfl
   obtain ⟨x1, hx1, w1⟩ := zeu (off := 3) h23 (by kernel_rfl) hn hlen hf hs 1 _ rfl rfl rfl
   have hl : cs.length = 4 := hl.trans (by kernel_rfl)
   have := zh4 hx0 (zwT hx1 hl)
   exact ⟨(⟨x0, x1⟩ : Weighted), this, by show zC7 (⟨x0, x1⟩ : Weighted); unfold zC7; exact ⟨w0, w1⟩⟩
theorem zIv : zrK Tryz.prog base wf 23 := zOi fun m => (zKm m).1
end Go.Proofs.YtnolcogncjijpaaGreatDoor
/- A world in which the row's condition holds; what the program's rows share. -/
namespace Go.Proofs.YtnolcogncjijpaaGreatDoor
open Go Go.Ab Go.Lib
theorem own : ownKnob Tryz.prog.godebug = none := by kernel_rfl
theorem zQe : laidOutB Tryz.prog = true := by kernel_rfl
def zRC : DataW Unit → Go.Value
 | .lit (.int k n) => .int k n
 | .lit (.bool b) => .bool b
 | .lit (.string s) => .string ⟨s.toArray⟩
 | _ => undef
def zNP : Nat → DataW Unit → List Go.Value
 | n + 1, .agg ds => ds.flatMap (zNP n)
 | _, d => [zRC d]
def cellsOf (d : DataW Unit) : Array Go.Value := (zNP 3 d).toArray
def zH4 (h : Array Obj) (g : Nat) (cs : Array Go.Value) : Array Obj := h.modify g fun
 | .cells _ t fr => .cells cs t fr
 | o => o
def zJG (os : Os) : World :=
 let w0 := World.holding Tryz.prog os ⟨#[], #[], []⟩
 { w0 with heap := zH4 (zH4 (zH4 (zH4 (zH4 (w0.heap) 2 (cellsOf Rows.laid_math_bits_deBruijn32tab)) 3 (cellsOf Rows.laid_math_bits_deBruijn64tab)) 1 (cellsOf Rows.laid_internal_strconv_uint64pow10)) 5 (cellsOf Rows.laid_unicode_utf8_acceptRanges)) 4 (cellsOf Rows.laid_unicode_utf8_first) }
def zwB : List (String × DataW Unit) := [("math/bits.deBruijn32tab", Rows.laid_math_bits_deBruijn32tab), ("math/bits.deBruijn64tab", Rows.laid_math_bits_deBruijn64tab), ("internal/strconv.uint64pow10", Rows.laid_internal_strconv_uint64pow10), ("unicode/utf8.acceptRanges", Rows.laid_unicode_utf8_acceptRanges), ("unicode/utf8.first", Rows.laid_unicode_utf8_first)]
theorem zJO (os : Os) (args : Array Go.Value) : laidMetH Tryz.prog zwB ((zJG os).forCall (fun _ _ => 0) ⟨#[], args, []⟩).memory :=
 laidMetH_of_parts (laidMet_of_run3 8 (by kernel_rfl) (by kernel_rfl) (by kernel_rfl)) (by kernel_rfl)
theorem zN1 {w : World} (h : laidMetH Tryz.prog zwB w) : laidMet Tryz.prog zwB w := by
 unfold laidMetH at h
 rw [show (zwB.filter fun x => x.2.handleName?.isSome) = [] by kernel_rfl] at h
 exact h
theorem zRf (w : World) (hsh : w.ShapedOpen Tryz.prog) (h : laidMetH Tryz.prog zwB w) : base.inv w ∧ base.ng ≤ w.heap.size := by
 have h := zN1 h
 have h1 : TabIs Tryz.prog w "internal/strconv.uint64pow10" .u64 pow10Tab :=
  tabIs_of_head (g := 1) (by kernel_rfl) (by kernel_rfl) Tryz.underlying199 Tryz.underlying178 (by kernel_rfl) (by kernel_rfl) h.tail.tail
 have h4 := cell_of_shapedOpen_int (g := 0) (t := 3) (zero := #[.int .i64 0]) hsh (of_decide_eq_true (by kernel_rfl)) (by kernel_rfl) rfl (by kernel_rfl) (by kernel_rfl) Tryz.underlying3
 obtain ⟨ps, ⟨g', t', cs, fuel, p, q, hg', _, hvar, _⟩, _⟩ := h.tail
 refine ⟨⟨h1, h4⟩, ?_⟩
 unfold World.var? at hvar
 rw [show Tryz.prog.globalNamed "math/bits.deBruijn64tab" = some 3 by kernel_rfl] at hvar
 simp only [Option.bind_some] at hvar
 show 4 ≤ w.heap.size
 cases hh : w.heap[3]? with
 | none => rw [hh] at hvar; cases hvar
 | some o => exact (Array.getElem?_eq_some_iff.1 hh).1
end Go.Proofs.YtnolcogncjijpaaGreatDoor
namespace Go.Proofs.YtnolcogncjijpaaGreatDoor
open Go Go.Ab
def ztc (r : Int) : ARes ty := ⟨[.pure (.lit (.int .i64 r))], []⟩
def zuI : AL base (List Term × List Term × Unit) := zf (zg (vSl 42)) (zf (zg (vSl 42)) aNil)
def zds (F : List Term → List Term → Bool × Int) : Ab.Spec ty := zr zuI fun x => ((F x.1 x.2.1).1, ztc (F x.1 x.2.1).2)
def zqb (r : Int) : ARes ty := ⟨[.pure (.lit (.int .i64 r))], []⟩
def zrV : AL base (Term × Term × Unit) := zf (zg (vAgg 42)) (zf (zg (vAgg 42)) aNil)
def zeP (F : Term → Term → Bool × Int) : Ab.Spec ty := zr zrV fun x => ((F x.1 x.2.1).1, zqb (F x.1 x.2.1).2)
def zoY (r : Int) : ARes ty := ⟨[.pure (.lit (.int .i64 r))], []⟩
def zqu : AL base (Term × Term × Unit) := zf (zg (vAgg 42)) (zf (zg (vAgg 42)) aNil)
def zfT (F : Term → Term → Bool × Int) : Ab.Spec ty := zr zqu fun x => ((F x.1 x.2.1).1, zoY (F x.1 x.2.1).2)
def znH (r : Int) : ARes ty := ⟨[.pure (.lit (.int .i64 r))], []⟩
def zoK : AL base (Factor × Factor × Unit) := zf (zg (vAgg 50)) (zf (zg (vAgg 50)) aNil)
def zdS (F : Factor → Factor → Bool × Int) : Ab.Spec ty := zr zoK fun x => ((F x.1 x.2.1).1, znH (F x.1 x.2.1).2)
def zoM (r : Int) : ARes ty := ⟨[.pure (.lit (.int .i64 r))], []⟩
def zqy : AL base (Atom × Atom × Unit) := zf (zg (vAgg 48)) (zf (zg (vAgg 48)) aNil)
def zfU (F : Atom → Atom → Bool × Int) : Ab.Spec ty := zr zqy fun x => ((F x.1 x.2.1).1, zoM (F x.1 x.2.1).2)
def zoP (r : Int) : ARes ty := ⟨[.pure (.lit (.int .i64 r))], []⟩
def zqg : AL base (Weighted × Weighted × Unit) := zf (zg (vAgg 52)) (zf (zg (vAgg 52)) aNil)
def zdp (F : Weighted → Weighted → Bool × Int) : Ab.Spec ty := zr zqg fun x => ((F x.1 x.2.1).1, zoP (F x.1 x.2.1).2)
def zdc (r : Int) : ARes ty := ⟨[.pure (.lit (.int .i64 r))], []⟩
def zdn : AL base (List Term × List Term × Unit × Unit) := zf (zg (vSl 42)) (zf (zg (vSl 42)) (zf (zg (vFn 87 vNil)) aNil))
def zbt (F : List Term → List Term → Bool × Int) : Ab.Spec ty := zr zdn fun x => ((F x.1 x.2.1).1, zdc (F x.1 x.2.1).2)
def zdm (r : Int) : ARes ty := ⟨[.pure (.lit (.int .i64 r))], []⟩
def zdv : AL base (List Factor × List Factor × Unit × Unit) := zf (zg (vSl 50)) (zf (zg (vSl 50)) (zf (zg (vFn 124 vNil)) aNil))
def zbx (F : List Factor → List Factor → Bool × Int) : Ab.Spec ty := zr zdv fun x => ((F x.1 x.2.1).1, zdm (F x.1 x.2.1).2)
def zch (r : Int) : ARes ty := ⟨[.pure (.lit (.int .i64 r))], []⟩
def zck : AL base (List (List Term) × List (List Term) × Unit × Unit) := zf (zg (vSl 23)) (zf (zg (vSl 23)) (zf (zg (vFn 38 vNil)) aNil))
def z8 (F : List (List Term) → List (List Term) → Bool × Int) : Ab.Spec ty := zr zck fun x => ((F x.1 x.2.1).1, zch (F x.1 x.2.1).2)
def zcE (r : Int) : ARes ty := ⟨[.pure (.lit (.int .i64 r))], []⟩
def zcM : AL base (List Weighted × List Weighted × Unit × Unit) := zf (zg (vSl 52)) (zf (zg (vSl 52)) (zf (zg (vFn 85 vNil)) aNil))
def zbl (F : List Weighted → List Weighted → Bool × Int) : Ab.Spec ty := zr zcM fun x => ((F x.1 x.2.1).1, zcE (F x.1 x.2.1).2)
def zBr (zw : List Term → List Term → Bool × Int) (zx : Term → Term → Bool × Int) : Cx ty := mkCx base 8 [(86, (zbt zw)), (87, (zeP zx))] [] [] [] [] []
def zny (zw : List Term → List Term → Bool × Int) (zx : Term → Term → Bool × Int) (a : List Term) (b : List Term) : Wy0 (Int) := .bn (zw a b) fun r0 => .k r0
def zlL (zw : List Term → List Term → Bool × Int) (zx : Term → Term → Bool × Int) (a : List Term) (b : List Term) : Bool × Int := (zny zw zx a b).fin default
theorem zyD (zw : List Term → List Term → Bool × Int) (zx : Term → Term → Bool × Int) (zg6 : Sound Tryz.prog base 86 (zbt zw)) (zlQ : Sound Tryz.prog base 87 (zeP zx)) : Sound Tryz.prog base 38 (zds (zlL zw zx)) :=
 zF (cx' := (zBr zw zx)) zR zB zL (zG ⟨zg6, zlQ, trivial⟩) Tryz.call38 Tryz.func38 (c := body Tryz.f38) (by kernel_rfl) (zj (l := []) (by kernel_rfl) trivial) (sg := ⟨[.pure], []⟩) (A := zuI) (res := ztc) (W := fun x => zny zw zx x.1 x.2.1) (z := default)
def zER : Cx ty := mkCx base 6 [] [] [] [] [] []
def zsv (x_ : Int) : Wy0 (Bool) := .k (x_ != x_)
def zkT (x_ : Int) : Bool × Bool := (zsv x_).fin default
def zwi (r : Bool) : ARes ty := ⟨[.pure (.lit (.bool r))], []⟩
def zyO : AL base (Int × Unit) := zf (zg (vInt .i64)) aNil
def zve : Ab.Spec ty := zr zyO fun x => ((zkT x.1).1, zwi (zkT x.1).2)
theorem zDg : Sound Tryz.prog base 136 zve :=
 zF (cx' := zER) zR zB zL (zG trivial) Tryz.call136 Tryz.func136 (c := body Tryz.f136) (by kernel_rfl) (zj (l := []) (by kernel_rfl) trivial) (sg := ⟨[.pure], []⟩) (A := zyO) (res := zwi) (W := fun x => zsv x.1) (z := default)
def zDK : Cx ty := mkCx base 20 [(136, zve)] [] [] [] [] []
def zpX (x_ : Int) (y_ : Int) : Wy0 (Int) := .i ((zkT x_).2) (.i ((zkT y_).2) (.k 0) (.k (-1 : Int))) (.i ((zkT y_).2) (.k 1) (.i (decide (x_ < y_)) (.k (-1 : Int)) (.i (decide (x_ > y_)) (.k 1) (.k 0))))
def zhB (x_ : Int) (y_ : Int) : Bool × Int := (zpX x_ y_).fin default
def zuA (r : Int) : ARes ty := ⟨[.pure (.lit (.int .i64 r))], []⟩
def zwj : AL base (Int × Int × Unit) := zf (zg (vInt .i64)) (zf (zg (vInt .i64)) aNil)
def zkg : Ab.Spec ty := zr zwj fun x => ((zhB x.1 x.2.1).1, zuA (zhB x.1 x.2.1).2)
theorem zmQ : Sound Tryz.prog base 79 zkg :=
 zF (cx' := zDK) zR zB zL (zG ⟨zDg, trivial⟩) Tryz.call79 Tryz.func79 (c := body Tryz.f79) (by kernel_rfl) (zj (l := []) (by kernel_rfl) trivial) (sg := ⟨[.pure], []⟩) (A := zwj) (res := zuA) (W := fun x => zpX x.1 x.2.1) (z := default)
abbrev ttTcmpOrint0 := Int × List Int × Int × Int × Unit
def zyq (zero : Int) (t6 : List Int) (t7 : Int) (t8 : Int) : Wy ttTcmpOrint0 (Unit) (Int ⊕ Int) := .i (decide (t8 < t7)) (.i (decide (0 ≤ t8) && decide (t8 < Int.ofNat t6.length)) (.i (t6.getD t8.toNat default != zero) (.k (.inl (t6.getD t8.toNat default))) (.h (zero, t6, t7, (IntKind.i64.wrap (t8 + 1)), ()) ())) .d) (.k (.inr zero))
def zym (x : ttTcmpOrint0) (y : Unit) : Wy ttTcmpOrint0 (Unit) (Int ⊕ Int) := zyq x.1 x.2.1 x.2.2.1 x.2.2.2.1
def zyu (n : Nat) (zero : Int) (t6 : List Int) (t7 : Int) (t8 : Int) : Bool × (Int ⊕ Int) := zN (zym) (.inl default) n (zero, t6, t7, t8, ()) ()
def zC3 (r : Int ⊕ Int) : LTree ty := .ite (isL r) (.done .ret [.lit (.int .i64 (getL r))] []) (.done (.exit 0) [.lit (.int .i64 (getR r))] [])
def zEw : LL ty ttTcmpOrint0 := za (lInt .i64) (za (lSl 3) (za (lInt .i64) (za (lInt .i64) zT)))
def zEl : BL ty (Unit) := bNil
def zCW (x : ttTcmpOrint0) (y : Unit) : Nat := (Int.toNat x.1 + x.2.1.length + Int.toNat x.2.2.1 + Int.toNat x.2.2.2.1 + 1)
def zEp : Cx ty := mkCx base 18 [] [] [(3, [(3, .keep), (6, .keep), (7, .keep), (8, .keep)])] [(3, 1, [(3, .keep)]), (3, 0, [(2, .keep)])] [(3, spW zEw zEl (zym) (.inl default) zC3 zCW)] []
theorem zIV : zbr zEp (lp (body Tryz.f88) 0) := zZ (id := 3) (V := zEw) (B := zEl) (W := zym) (z := .inl default) (tr := zC3) (m := zCW)
def zAQ (vals : List Int) : Wy0 (Int) := .bn (zyu (Int.toNat 0 + vals.length + (Int.ofNat vals.length).toNat + Int.toNat 0 + 1) 0 vals (Int.ofNat vals.length) 0) fun r0 => .i (isL r0) (.k (getL r0)) (.k (getR r0))
def zlO (vals : List Int) : Bool × Int := (zAQ vals).fin default
def zCA (r : Int) : ARes ty := ⟨[.pure (.lit (.int .i64 r))], []⟩
def zFw : AL base (List Int × Unit) := zf (zg (vSl 3)) aNil
def zkR : Ab.Spec ty := zr zFw fun x => ((zlO x.1).1, zCA (zlO x.1).2)
theorem zme : Sound Tryz.prog base 88 zkR :=
 zF (cx' := zEp) zR zB zL (zG trivial) Tryz.call88 Tryz.func88 (c := body Tryz.f88) (by kernel_rfl) (zj (l := [lp (body Tryz.f88) 0]) (by kernel_rfl) ⟨zIV, trivial⟩) (sg := ⟨[.pure], []⟩) (A := zFw) (res := zCA) (W := fun x => zAQ x.1) (z := default)
def zyB (zbV : Term → Term → Bool × Int) : Cx ty := mkCx base 15 [(71, (zfT zbV)), (79, zkg), (88, zkR)] [] [] [] [] []
def zlJ (zbV : Term → Term → Bool × Int) (x_ : Term) (y_ : Term) : Wy0 (Int) := .bn (zbV x_ y_) fun r2 => .bn (zhB x_.Coeff y_.Coeff) fun r1 => .bn (zlO [r2, r1]) fun r0 => .k r0
def zjC (zbV : Term → Term → Bool × Int) (x_ : Term) (y_ : Term) : Bool × Int := (zlJ zbV x_ y_).fin default
theorem zvS (zbV : Term → Term → Bool × Int) (zxu : Sound Tryz.prog base 71 (zfT zbV)) : Sound Tryz.prog base 87 (zeP (zjC zbV)) :=
 zF (cx' := (zyB zbV)) zR zB zL (zG ⟨zxu, zmQ, zme, trivial⟩) Tryz.call87 Tryz.func87 (c := body Tryz.f87) (by kernel_rfl) (zj (l := []) (by kernel_rfl) trivial) (sg := ⟨[.pure], []⟩) (A := zrV) (res := zqb) (W := fun x => zlJ zbV x.1 x.2.1) (z := default)
def zGU : Cx ty := mkCx base 6 [] [] [] [] [] []
def zvb (x_ : Int) : Wy0 (Bool) := .k (x_ != x_)
def zm8 (x_ : Int) : Bool × Bool := (zvb x_).fin default
def zzc (r : Bool) : ARes ty := ⟨[.pure (.lit (.bool r))], []⟩
def zB0 : AL base (Int × Unit) := zf (zg (vInt .i64)) aNil
def zxV : Ab.Spec ty := zr zB0 fun x => ((zm8 x.1).1, zzc (zm8 x.1).2)
theorem zEy : Sound Tryz.prog base 161 zxV :=
 zF (cx' := zGU) zR zB zL (zG trivial) Tryz.call161 Tryz.func161 (c := body Tryz.f161) (by kernel_rfl) (zj (l := []) (by kernel_rfl) trivial) (sg := ⟨[.pure], []⟩) (A := zB0) (res := zzc) (W := fun x => zvb x.1) (z := default)
def zFA : Cx ty := mkCx base 20 [(161, zxV)] [] [] [] [] []
def zsF (x_ : Int) (y_ : Int) : Wy0 (Int) := .i ((zm8 x_).2) (.i ((zm8 y_).2) (.k 0) (.k (-1 : Int))) (.i ((zm8 y_).2) (.k 1) (.i (decide (x_ < y_)) (.k (-1 : Int)) (.i (decide (x_ > y_)) (.k 1) (.k 0))))
def zd6 (x_ : Int) (y_ : Int) : Bool × Int := (zsF x_ y_).fin default
def zwr (r : Int) : ARes ty := ⟨[.pure (.lit (.int .i64 r))], []⟩
def zza : AL base (Int × Int × Unit) := zf (zg (vInt .i64)) (zf (zg (vInt .i64)) aNil)
def zls : Ab.Spec ty := zr zza fun x => ((zd6 x.1 x.2.1).1, zwr (zd6 x.1 x.2.1).2)
theorem zom : Sound Tryz.prog base 125 zls :=
 zF (cx' := zFA) zR zB zL (zG ⟨zEy, trivial⟩) Tryz.call125 Tryz.func125 (c := body Tryz.f125) (by kernel_rfl) (zj (l := []) (by kernel_rfl) trivial) (sg := ⟨[.pure], []⟩) (A := zza) (res := zwr) (W := fun x => zsF x.1 x.2.1) (z := default)
end Go.Proofs.YtnolcogncjijpaaGreatDoor
/-
 DERIVED: THE SHELF's CONTRACTS AT THIS DUMP, IN PLAIN WORDS (tools/lay-plain.mjs out of 'TryzShelf.lean', which tools/lay-shelf.mjs wrote): THE SAME DECLARATIONS UNDER THE SAME NAMES: 'import', 'namespace', 'open', 'def', 'theorem' AND NOTHING ELSE: no command of the shelf's: FOR A HAND-IN. Each laying: the table of numbers ('.._ren') and one theorem, a field a fact of the dump's own or the kernel's comparison; each contract: ONE APPLICATION.
-/
namespace Go.Proofs
open Go.Shelf
def Tryz.pdqTerm_ren : Go.Shelf.Ren := ⟨fun | 14 => 155 | 20 => 177 | 21 => 178 | 22 => 179 | 23 => 180 | 24 => 181 | 25 => 182 | 26 => 183 | 27 => 184 | 46 => 204 | 47 => 205 | 48 => 206 | 49 => 207 | 50 => 208 | 15 => 156 | 57 => 221 | 28 => 185 | 29 => 186 | n => n, fun | 24 => 42 | 22 => 22 | 3 => 3 | 25 => 80 | 4 => 4 | 0 => 0 | 46 => 170 | 45 => 169 | 50 => 108 | 66 => 190 | 39 => 143 | 55 => 178 | 70 => 194 | 76 => 205 | 77 => 206 | 53 => 176 | 5 => 5 | 9 => 9 | n => n, fun | n => n⟩
theorem Tryz.pdqTerm : Go.Proofs.SlLaysF0.n14 Tryz.prog Tryz.pdqTerm_ren := {
 mixed := by kernel_rfl
 f14 := ⟨Tryz.f155.name, by decide, Tryz.func155.trans (congrArg some (by kernel_rfl))⟩
 f15 := Tryz.func156.trans (congrArg some (by kernel_rfl))
 f20 := ⟨Tryz.f177.name, by decide, Tryz.func177.trans (congrArg some (by kernel_rfl))⟩
 f21 := ⟨Tryz.f178.name, by decide, Tryz.func178.trans (congrArg some (by kernel_rfl))⟩
 f22 := ⟨Tryz.f179.name, by decide, Tryz.func179.trans (congrArg some (by kernel_rfl))⟩
 f23 := ⟨Tryz.f180.name, by decide, Tryz.func180.trans (congrArg some (by kernel_rfl))⟩
 f24 := ⟨Tryz.f181.name, by decide, Tryz.func181.trans (congrArg some (by kernel_rfl))⟩
 f25 := ⟨Tryz.f182.name, by decide, Tryz.func182.trans (congrArg some (by kernel_rfl))⟩
 f26 := ⟨Tryz.f183.name, by decide, Tryz.func183.trans (congrArg some (by kernel_rfl))⟩
 f27 := ⟨Tryz.f184.name, by decide, Tryz.func184.trans (congrArg some (by kernel_rfl))⟩
 f28 := Tryz.func185.trans (congrArg some (by kernel_rfl))
 f29 := Tryz.func186.trans (congrArg some (by kernel_rfl))
 f46 := ⟨Tryz.f204.name, by decide, Tryz.func204.trans (congrArg some (by kernel_rfl))⟩
 f47 := Tryz.func205.trans (congrArg some (by kernel_rfl))
 f48 := Tryz.func206.trans (congrArg some (by kernel_rfl))
 f49 := ⟨Tryz.f207.name, by decide, Tryz.func207.trans (congrArg some (by kernel_rfl))⟩
 f50 := ⟨Tryz.f208.name, by decide, Tryz.func208.trans (congrArg some (by kernel_rfl))⟩
 f57 := ⟨Tryz.f221.name, by decide, Tryz.func221.trans (congrArg some (by kernel_rfl))⟩
 t0 := Tryz.underlying0
 a0 := Tryz.isAgg0
 z0 := Tryz.sizeOf0
 v0 := Tryz.zeroValue0
 t3 := Tryz.underlying3
 a3 := Tryz.isAgg3
 z3 := Tryz.sizeOf3
 v3 := Tryz.zeroValue3
 t4 := Tryz.underlying4
 a4 := Tryz.isAgg4
 z4 := Tryz.sizeOf4
 v4 := Tryz.zeroValue4
 t5 := Tryz.underlying5
 a5 := Tryz.isAgg5
 z5 := Tryz.sizeOf5
 v5 := Tryz.zeroValue5
 t9 := Tryz.underlying9
 a9 := Tryz.isAgg9
 z9 := Tryz.sizeOf9
 v9 := Tryz.zeroValue9
 t22 := Tryz.underlying22
 a22 := Tryz.isAgg22
 z22 := Tryz.sizeOf22
 v22 := Tryz.zeroValue22
 t25 := Tryz.underlying80
 a25 := Tryz.isAgg80
 z25 := Tryz.sizeOf80
 v25 := Tryz.zeroValue80
 t39 := Tryz.underlying143
 a39 := Tryz.isAgg143
 z39 := Tryz.sizeOf143
 v39 := Tryz.zeroValue143
 t45 := Tryz.underlying169
 a45 := Tryz.isAgg169
 z45 := Tryz.sizeOf169
 v45 := Tryz.zeroValue169
 t46 := Tryz.underlying170
 a46 := Tryz.isAgg170
 z46 := Tryz.sizeOf170
 v46 := Tryz.zeroValue170
 t50 := Tryz.underlying108
 a50 := Tryz.isAgg108
 z50 := Tryz.sizeOf108
 v50 := Tryz.zeroValue108
 t53 := Tryz.underlying176
 a53 := Tryz.isAgg176
 z53 := Tryz.sizeOf176
 v53 := Tryz.zeroValue176
 t55 := Tryz.underlying178
 a55 := Tryz.isAgg178
 z55 := Tryz.sizeOf178
 v55 := Tryz.zeroValue178
 t66 := Tryz.underlying190
 a66 := Tryz.isAgg190
 z66 := Tryz.sizeOf190
 v66 := Tryz.zeroValue190
 t70 := Tryz.underlying194
 a70 := Tryz.isAgg194
 z70 := Tryz.sizeOf194
 v70 := Tryz.zeroValue194
 t76 := Tryz.underlying205
 a76 := Tryz.isAgg205
 z76 := Tryz.sizeOf205
 v76 := Tryz.zeroValue205
 t77 := Tryz.underlying206
 a77 := Tryz.isAgg206
 z77 := Tryz.sizeOf206
 v77 := Tryz.zeroValue206 }
def Tryz.insW_ren : Go.Shelf.Ren := ⟨fun | 20 => 164 | n => n, fun | 24 => 52 | 22 => 44 | 3 => 3 | 25 => 89 | 4 => 4 | 0 => 0 | n => n, fun | n => n⟩
theorem Tryz.insW : Go.Proofs.SlLaysF0.n20 Tryz.prog Tryz.insW_ren := {
 mixed := by kernel_rfl
 f20 := ⟨Tryz.f164.name, by decide, Tryz.func164.trans (congrArg some (by kernel_rfl))⟩
 t0 := Tryz.underlying0
 a0 := Tryz.isAgg0
 z0 := Tryz.sizeOf0
 v0 := Tryz.zeroValue0
 t3 := Tryz.underlying3
 a3 := Tryz.isAgg3
 z3 := Tryz.sizeOf3
 v3 := Tryz.zeroValue3
 t4 := Tryz.underlying4
 a4 := Tryz.isAgg4
 z4 := Tryz.sizeOf4
 v4 := Tryz.zeroValue4
 t22 := Tryz.underlying44
 a22 := Tryz.isAgg44
 z22 := Tryz.sizeOf44
 v22 := Tryz.zeroValue44
 t25 := Tryz.underlying89
 a25 := Tryz.isAgg89
 z25 := Tryz.sizeOf89
 v25 := Tryz.zeroValue89 }
def Tryz.lays106_ren : Go.Shelf.Ren := ⟨fun | 106 => 162 | 213 => 187 | 265 => 209 | n => n, fun | 9 => 9 | 3 => 3 | n => n, fun | n => n⟩
theorem Tryz.lays106 : Go.Proofs.Lays.n106 Tryz.prog Tryz.lays106_ren := {
 mixed := by kernel_rfl
 f106 := Tryz.func162.trans (congrArg some (by kernel_rfl))
 f213 := Tryz.func187.trans (congrArg some (by kernel_rfl))
 f265 := Tryz.func209.trans (congrArg some (by kernel_rfl))
 t3 := Tryz.underlying3
 a3 := Tryz.isAgg3
 z3 := Tryz.sizeOf3
 v3 := Tryz.zeroValue3
 t9 := Tryz.underlying9
 a9 := Tryz.isAgg9
 z9 := Tryz.sizeOf9
 v9 := Tryz.zeroValue9 }
def Tryz.laysM173_ren : Go.Shelf.Ren := ⟨fun | 173 => 151 | 246 => 168 | 283 => 197 | 284 => 198 | 285 => 199 | 286 => 200 | 129 => 186 | 317 => 214 | 318 => 215 | 319 => 216 | 320 => 217 | 337 => 223 | 338 => 224 | n => n, fun | 2 => 2 | 3 => 3 | 9 => 9 | 4 => 4 | 171 => 184 | 0 => 0 | 53 => 178 | 37 => 156 | 5 => 5 | 173 => 186 | 212 => 199 | 51 => 176 | 20 => 20 | 213 => 200 | 46 => 143 | 232 => 211 | 233 => 212 | n => n, fun | 17 => 1 | 18 => 2 | 19 => 3 | n => n⟩
theorem Tryz.laysM173 : Go.Proofs.LaysM.n173 Tryz.prog Tryz.laysM173_ren := {
 mixed := by kernel_rfl
 f129 := Tryz.func186.trans (congrArg some (by kernel_rfl))
 f173 := Tryz.func151.trans (congrArg some (by kernel_rfl))
 f246 := Tryz.func168.trans (congrArg some (by kernel_rfl))
 f283 := Tryz.func197.trans (congrArg some (by kernel_rfl))
 f284 := Tryz.func198.trans (congrArg some (by kernel_rfl))
 f285 := Tryz.func199.trans (congrArg some (by kernel_rfl))
 f286 := Tryz.func200.trans (congrArg some (by kernel_rfl))
 f317 := Tryz.func214.trans (congrArg some (by kernel_rfl))
 f318 := Tryz.func215.trans (congrArg some (by kernel_rfl))
 f319 := Tryz.func216.trans (congrArg some (by kernel_rfl))
 f320 := Tryz.func217.trans (congrArg some (by kernel_rfl))
 f337 := Tryz.func223.trans (congrArg some (by kernel_rfl))
 f338 := Tryz.func224.trans (congrArg some (by kernel_rfl))
 t0 := Tryz.underlying0
 a0 := Tryz.isAgg0
 z0 := Tryz.sizeOf0
 v0 := Tryz.zeroValue0
 t2 := Tryz.underlying2
 a2 := Tryz.isAgg2
 z2 := Tryz.sizeOf2
 v2 := Tryz.zeroValue2
 t3 := Tryz.underlying3
 a3 := Tryz.isAgg3
 z3 := Tryz.sizeOf3
 v3 := Tryz.zeroValue3
 t4 := Tryz.underlying4
 a4 := Tryz.isAgg4
 z4 := Tryz.sizeOf4
 v4 := Tryz.zeroValue4
 t5 := Tryz.underlying5
 a5 := Tryz.isAgg5
 z5 := Tryz.sizeOf5
 v5 := Tryz.zeroValue5
 t9 := Tryz.underlying9
 a9 := Tryz.isAgg9
 z9 := Tryz.sizeOf9
 v9 := Tryz.zeroValue9
 t20 := Tryz.underlying20
 a20 := Tryz.isAgg20
 z20 := Tryz.sizeOf20
 v20 := Tryz.zeroValue20
 t37 := Tryz.underlying156
 a37 := Tryz.isAgg156
 z37 := Tryz.sizeOf156
 v37 := Tryz.zeroValue156
 t46 := Tryz.underlying143
 a46 := Tryz.isAgg143
 z46 := Tryz.sizeOf143
 v46 := Tryz.zeroValue143
 t51 := Tryz.underlying176
 a51 := Tryz.isAgg176
 z51 := Tryz.sizeOf176
 v51 := Tryz.zeroValue176
 t53 := Tryz.underlying178
 a53 := Tryz.isAgg178
 z53 := Tryz.sizeOf178
 v53 := Tryz.zeroValue178
 t171 := Tryz.underlying184
 a171 := Tryz.isAgg184
 z171 := Tryz.sizeOf184
 v171 := Tryz.zeroValue184
 t173 := Tryz.underlying186
 a173 := Tryz.isAgg186
 z173 := Tryz.sizeOf186
 v173 := Tryz.zeroValue186
 t212 := Tryz.underlying199
 a212 := Tryz.isAgg199
 z212 := Tryz.sizeOf199
 v212 := Tryz.zeroValue199
 t213 := Tryz.underlying200
 a213 := Tryz.isAgg200
 z213 := Tryz.sizeOf200
 t232 := Tryz.underlying211
 a232 := Tryz.isAgg211
 z232 := Tryz.sizeOf211
 v232 := Tryz.zeroValue211
 t233 := Tryz.underlying212
 a233 := Tryz.isAgg212
 z233 := Tryz.sizeOf212
 v233 := Tryz.zeroValue212
 g17 := by kernel_rfl
 g18 := by kernel_rfl
 g19 := by kernel_rfl
 i0 := by kernel_rfl
 i2 := by kernel_rfl
 i3 := by kernel_rfl
 i4 := by kernel_rfl
 i5 := by kernel_rfl
 i9 := by kernel_rfl
 i20 := by kernel_rfl
 i37 := by kernel_rfl
 i46 := by kernel_rfl
 i51 := by kernel_rfl
 i53 := by kernel_rfl
 i171 := by kernel_rfl
 i173 := by kernel_rfl
 i212 := by kernel_rfl
 i232 := by kernel_rfl
 i233 := by kernel_rfl
 m17 := by kernel_rfl
 m18 := by kernel_rfl
 m19 := by kernel_rfl }
def Tryz.laysM171_ren : Go.Shelf.Ren := ⟨fun | 171 => 154 | 243 => 176 | 246 => 168 | 283 => 197 | 284 => 198 | 285 => 199 | 286 => 200 | 129 => 186 | 317 => 214 | 318 => 215 | 319 => 216 | 320 => 217 | 337 => 223 | 338 => 224 | n => n, fun | 3 => 3 | 9 => 9 | 2 => 2 | 4 => 4 | 171 => 184 | 0 => 0 | 53 => 178 | 37 => 156 | 5 => 5 | 173 => 186 | 212 => 199 | 51 => 176 | 20 => 20 | 213 => 200 | 46 => 143 | 232 => 211 | 233 => 212 | n => n, fun | 17 => 1 | 18 => 2 | 19 => 3 | n => n⟩
theorem Tryz.laysM171 : Go.Proofs.LaysM.n171 Tryz.prog Tryz.laysM171_ren := {
 mixed := by kernel_rfl
 f129 := Tryz.func186.trans (congrArg some (by kernel_rfl))
 f171 := Tryz.func154.trans (congrArg some (by kernel_rfl))
 f243 := Tryz.func176.trans (congrArg some (by kernel_rfl))
 f246 := Tryz.func168.trans (congrArg some (by kernel_rfl))
 f283 := Tryz.func197.trans (congrArg some (by kernel_rfl))
 f284 := Tryz.func198.trans (congrArg some (by kernel_rfl))
 f285 := Tryz.func199.trans (congrArg some (by kernel_rfl))
 f286 := Tryz.func200.trans (congrArg some (by kernel_rfl))
 f317 := Tryz.func214.trans (congrArg some (by kernel_rfl))
 f318 := Tryz.func215.trans (congrArg some (by kernel_rfl))
 f319 := Tryz.func216.trans (congrArg some (by kernel_rfl))
 f320 := Tryz.func217.trans (congrArg some (by kernel_rfl))
 f337 := Tryz.func223.trans (congrArg some (by kernel_rfl))
 f338 := Tryz.func224.trans (congrArg some (by kernel_rfl))
 t0 := Tryz.underlying0
 a0 := Tryz.isAgg0
 z0 := Tryz.sizeOf0
 v0 := Tryz.zeroValue0
 t2 := Tryz.underlying2
 a2 := Tryz.isAgg2
 z2 := Tryz.sizeOf2
 v2 := Tryz.zeroValue2
 t3 := Tryz.underlying3
 a3 := Tryz.isAgg3
 z3 := Tryz.sizeOf3
 v3 := Tryz.zeroValue3
 t4 := Tryz.underlying4
 a4 := Tryz.isAgg4
 z4 := Tryz.sizeOf4
 v4 := Tryz.zeroValue4
 t5 := Tryz.underlying5
 a5 := Tryz.isAgg5
 z5 := Tryz.sizeOf5
 v5 := Tryz.zeroValue5
 t9 := Tryz.underlying9
 a9 := Tryz.isAgg9
 z9 := Tryz.sizeOf9
 v9 := Tryz.zeroValue9
 t20 := Tryz.underlying20
 a20 := Tryz.isAgg20
 z20 := Tryz.sizeOf20
 v20 := Tryz.zeroValue20
 t37 := Tryz.underlying156
 a37 := Tryz.isAgg156
 z37 := Tryz.sizeOf156
 v37 := Tryz.zeroValue156
 t46 := Tryz.underlying143
 a46 := Tryz.isAgg143
 z46 := Tryz.sizeOf143
 v46 := Tryz.zeroValue143
 t51 := Tryz.underlying176
 a51 := Tryz.isAgg176
 z51 := Tryz.sizeOf176
 v51 := Tryz.zeroValue176
 t53 := Tryz.underlying178
 a53 := Tryz.isAgg178
 z53 := Tryz.sizeOf178
 v53 := Tryz.zeroValue178
 t171 := Tryz.underlying184
 a171 := Tryz.isAgg184
 z171 := Tryz.sizeOf184
 v171 := Tryz.zeroValue184
 t173 := Tryz.underlying186
 a173 := Tryz.isAgg186
 z173 := Tryz.sizeOf186
 v173 := Tryz.zeroValue186
 t212 := Tryz.underlying199
 a212 := Tryz.isAgg199
 z212 := Tryz.sizeOf199
 v212 := Tryz.zeroValue199
 t213 := Tryz.underlying200
 a213 := Tryz.isAgg200
 z213 := Tryz.sizeOf200
 t232 := Tryz.underlying211
 a232 := Tryz.isAgg211
 z232 := Tryz.sizeOf211
 v232 := Tryz.zeroValue211
 t233 := Tryz.underlying212
 a233 := Tryz.isAgg212
 z233 := Tryz.sizeOf212
 v233 := Tryz.zeroValue212
 g17 := by kernel_rfl
 g18 := by kernel_rfl
 g19 := by kernel_rfl
 i0 := by kernel_rfl
 i2 := by kernel_rfl
 i3 := by kernel_rfl
 i4 := by kernel_rfl
 i5 := by kernel_rfl
 i9 := by kernel_rfl
 i20 := by kernel_rfl
 i37 := by kernel_rfl
 i46 := by kernel_rfl
 i51 := by kernel_rfl
 i53 := by kernel_rfl
 i171 := by kernel_rfl
 i173 := by kernel_rfl
 i212 := by kernel_rfl
 i232 := by kernel_rfl
 i233 := by kernel_rfl
 m17 := by kernel_rfl
 m18 := by kernel_rfl
 m19 := by kernel_rfl }
def Tryz.lays155_ren : Go.Shelf.Ren := ⟨fun | 155 => 203 | 154 => 220 | 138 => 225 | 165 => 169 | 143 => 226 | 166 => 170 | 197 => 227 | 169 => 171 | 195 => 228 | 218 => 229 | 240 => 201 | 241 => 202 | 219 => 230 | 260 => 231 | 276 => 218 | 277 => 219 | 217 => 232 | 225 => 233 | 224 => 234 | 267 => 235 | 266 => 236 | 314 => 237 | n => n, fun | 9 => 9 | 3 => 3 | 4 => 4 | 72 => 158 | 0 => 0 | 76 => 162 | 105 => 209 | 21 => 21 | 5 => 5 | 70 => 155 | 20 => 20 | 37 => 156 | 75 => 161 | 127 => 188 | 164 => 201 | 46 => 143 | 119 => 215 | 139 => 218 | 138 => 217 | 146 => 219 | 51 => 176 | 80 => 164 | n => n, fun | 1 => 0 | 3 => 4 | 4 => 5 | n => n⟩
theorem Tryz.lays155 : Go.Proofs.Lays.n155 Tryz.prog Tryz.lays155_ren := {
 mixed := by kernel_rfl
 f138 := Tryz.func225.trans (congrArg some (by kernel_rfl))
 f143 := Tryz.func226.trans (congrArg some (by kernel_rfl))
 f154 := Tryz.func220.trans (congrArg some (by kernel_rfl))
 f155 := Tryz.func203.trans (congrArg some (by kernel_rfl))
 f165 := Tryz.func169.trans (congrArg some (by kernel_rfl))
 f166 := Tryz.func170.trans (congrArg some (by kernel_rfl))
 f169 := Tryz.func171.trans (congrArg some (by kernel_rfl))
 f195 := Tryz.func228.trans (congrArg some (by kernel_rfl))
 f197 := Tryz.func227.trans (congrArg some (by kernel_rfl))
 f217 := Tryz.func232.trans (congrArg some (by kernel_rfl))
 f218 := Tryz.func229.trans (congrArg some (by kernel_rfl))
 f219 := Tryz.func230.trans (congrArg some (by kernel_rfl))
 f224 := Tryz.func234.trans (congrArg some (by kernel_rfl))
 f225 := Tryz.func233.trans (congrArg some (by kernel_rfl))
 f240 := Tryz.func201.trans (congrArg some (by kernel_rfl))
 f241 := Tryz.func202.trans (congrArg some (by kernel_rfl))
 f260 := Tryz.func231.trans (congrArg some (by kernel_rfl))
 f266 := Tryz.func236.trans (congrArg some (by kernel_rfl))
 f267 := Tryz.func235.trans (congrArg some (by kernel_rfl))
 f276 := Tryz.func218.trans (congrArg some (by kernel_rfl))
 f277 := Tryz.func219.trans (congrArg some (by kernel_rfl))
 f314 := Tryz.func237.trans (congrArg some (by kernel_rfl))
 t0 := Tryz.underlying0
 a0 := Tryz.isAgg0
 z0 := Tryz.sizeOf0
 v0 := Tryz.zeroValue0
 t3 := Tryz.underlying3
 a3 := Tryz.isAgg3
 z3 := Tryz.sizeOf3
 v3 := Tryz.zeroValue3
 t4 := Tryz.underlying4
 a4 := Tryz.isAgg4
 z4 := Tryz.sizeOf4
 v4 := Tryz.zeroValue4
 t5 := Tryz.underlying5
 a5 := Tryz.isAgg5
 z5 := Tryz.sizeOf5
 v5 := Tryz.zeroValue5
 t9 := Tryz.underlying9
 a9 := Tryz.isAgg9
 z9 := Tryz.sizeOf9
 v9 := Tryz.zeroValue9
 t20 := Tryz.underlying20
 a20 := Tryz.isAgg20
 z20 := Tryz.sizeOf20
 v20 := Tryz.zeroValue20
 t21 := Tryz.underlying21
 a21 := Tryz.isAgg21
 z21 := Tryz.sizeOf21
 v21 := Tryz.zeroValue21
 t37 := Tryz.underlying156
 a37 := Tryz.isAgg156
 z37 := Tryz.sizeOf156
 v37 := Tryz.zeroValue156
 t46 := Tryz.underlying143
 a46 := Tryz.isAgg143
 z46 := Tryz.sizeOf143
 v46 := Tryz.zeroValue143
 t51 := Tryz.underlying176
 a51 := Tryz.isAgg176
 z51 := Tryz.sizeOf176
 v51 := Tryz.zeroValue176
 t70 := Tryz.underlying155
 a70 := Tryz.isAgg155
 z70 := Tryz.sizeOf155
 v70 := Tryz.zeroValue155
 t72 := Tryz.underlying158
 a72 := Tryz.isAgg158
 z72 := Tryz.sizeOf158
 v72 := Tryz.zeroValue158
 t75 := Tryz.underlying161
 a75 := Tryz.isAgg161
 z75 := Tryz.sizeOf161
 v75 := Tryz.zeroValue161
 t76 := Tryz.underlying162
 a76 := Tryz.isAgg162
 z76 := Tryz.sizeOf162
 v76 := Tryz.zeroValue162
 t105 := Tryz.underlying209
 a105 := Tryz.isAgg209
 z105 := Tryz.sizeOf209
 v105 := Tryz.zeroValue209
 t119 := Tryz.underlying215
 a119 := Tryz.isAgg215
 z119 := Tryz.sizeOf215
 t127 := Tryz.underlying188
 a127 := Tryz.isAgg188
 z127 := Tryz.sizeOf188
 v127 := Tryz.zeroValue188
 t138 := Tryz.underlying217
 a138 := Tryz.isAgg217
 z138 := Tryz.sizeOf217
 v138 := Tryz.zeroValue217
 t139 := Tryz.underlying218
 a139 := Tryz.isAgg218
 z139 := Tryz.sizeOf218
 v139 := Tryz.zeroValue218
 t146 := Tryz.underlying219
 a146 := Tryz.isAgg219
 z146 := Tryz.sizeOf219
 v146 := Tryz.zeroValue219
 t164 := Tryz.underlying201
 a164 := Tryz.isAgg201
 z164 := Tryz.sizeOf201
 v164 := Tryz.zeroValue201
 g1 := by kernel_rfl
 g3 := by kernel_rfl
 g4 := by kernel_rfl }
theorem Tryz.Builder_Extra_155 : Builder.Extra Tryz.prog Tryz.lays155_ren := {
 sizeBuilder := by kernel_rfl
 liesBuilder := by kernel_rfl
 t5 := Tryz.underlying5
 a5 := Tryz.isAgg5
 z5 := Tryz.sizeOf5
 v5 := Tryz.zeroValue5
 infoByte := by kernel_rfl
 cellsByte := by kernel_rfl
 sizeByte := by kernel_rfl
 neB5 := by decide }
def Tryz.lays156_ren : Go.Shelf.Ren := ⟨fun | 156 => 152 | 165 => 169 | 166 => 170 | 169 => 171 | 240 => 201 | 241 => 202 | 276 => 218 | 277 => 219 | n => n, fun | 31 => 136 | 9 => 9 | 3 => 3 | 4 => 4 | 0 => 0 | 20 => 20 | 72 => 158 | 76 => 162 | 70 => 155 | 37 => 156 | 75 => 161 | 127 => 188 | 164 => 201 | 5 => 5 | 80 => 164 | n => n, fun | n => n⟩
theorem Tryz.lays156 : Go.Proofs.Lays.n156 Tryz.prog Tryz.lays156_ren := {
 mixed := by kernel_rfl
 f156 := Tryz.func152.trans (congrArg some (by kernel_rfl))
 f165 := Tryz.func169.trans (congrArg some (by kernel_rfl))
 f166 := Tryz.func170.trans (congrArg some (by kernel_rfl))
 f169 := Tryz.func171.trans (congrArg some (by kernel_rfl))
 f240 := Tryz.func201.trans (congrArg some (by kernel_rfl))
 f241 := Tryz.func202.trans (congrArg some (by kernel_rfl))
 f276 := Tryz.func218.trans (congrArg some (by kernel_rfl))
 f277 := Tryz.func219.trans (congrArg some (by kernel_rfl))
 t0 := Tryz.underlying0
 a0 := Tryz.isAgg0
 z0 := Tryz.sizeOf0
 v0 := Tryz.zeroValue0
 t3 := Tryz.underlying3
 a3 := Tryz.isAgg3
 z3 := Tryz.sizeOf3
 v3 := Tryz.zeroValue3
 t4 := Tryz.underlying4
 a4 := Tryz.isAgg4
 z4 := Tryz.sizeOf4
 v4 := Tryz.zeroValue4
 t9 := Tryz.underlying9
 a9 := Tryz.isAgg9
 z9 := Tryz.sizeOf9
 v9 := Tryz.zeroValue9
 t20 := Tryz.underlying20
 a20 := Tryz.isAgg20
 z20 := Tryz.sizeOf20
 v20 := Tryz.zeroValue20
 t31 := Tryz.underlying136
 a31 := Tryz.isAgg136
 z31 := Tryz.sizeOf136
 v31 := Tryz.zeroValue136
 t37 := Tryz.underlying156
 a37 := Tryz.isAgg156
 z37 := Tryz.sizeOf156
 v37 := Tryz.zeroValue156
 t70 := Tryz.underlying155
 a70 := Tryz.isAgg155
 z70 := Tryz.sizeOf155
 v70 := Tryz.zeroValue155
 t72 := Tryz.underlying158
 a72 := Tryz.isAgg158
 z72 := Tryz.sizeOf158
 v72 := Tryz.zeroValue158
 t75 := Tryz.underlying161
 a75 := Tryz.isAgg161
 z75 := Tryz.sizeOf161
 v75 := Tryz.zeroValue161
 t76 := Tryz.underlying162
 a76 := Tryz.isAgg162
 z76 := Tryz.sizeOf162
 v76 := Tryz.zeroValue162
 t127 := Tryz.underlying188
 a127 := Tryz.isAgg188
 z127 := Tryz.sizeOf188
 v127 := Tryz.zeroValue188
 t164 := Tryz.underlying201
 a164 := Tryz.isAgg201
 z164 := Tryz.sizeOf201
 v164 := Tryz.zeroValue201 }
theorem Tryz.Builder_Extra_156 : Builder.Extra Tryz.prog Tryz.lays156_ren := {
 sizeBuilder := by kernel_rfl
 liesBuilder := by kernel_rfl
 t5 := Tryz.underlying5
 a5 := Tryz.isAgg5
 z5 := Tryz.sizeOf5
 v5 := Tryz.zeroValue5
 infoByte := by kernel_rfl
 cellsByte := by kernel_rfl
 sizeByte := by kernel_rfl
 neB5 := by decide }
def Tryz.lays125_ren : Go.Shelf.Ren := ⟨fun | 125 => 156 | 128 => 185 | 129 => 186 | n => n, fun | 46 => 143 | 3 => 3 | 51 => 176 | 53 => 178 | 4 => 4 | 5 => 5 | 9 => 9 | n => n, fun | n => n⟩
theorem Tryz.lays125 : Go.Proofs.Lays.n125 Tryz.prog Tryz.lays125_ren := {
 mixed := by kernel_rfl
 f125 := Tryz.func156.trans (congrArg some (by kernel_rfl))
 f128 := Tryz.func185.trans (congrArg some (by kernel_rfl))
 f129 := Tryz.func186.trans (congrArg some (by kernel_rfl))
 t3 := Tryz.underlying3
 a3 := Tryz.isAgg3
 z3 := Tryz.sizeOf3
 v3 := Tryz.zeroValue3
 t4 := Tryz.underlying4
 a4 := Tryz.isAgg4
 z4 := Tryz.sizeOf4
 v4 := Tryz.zeroValue4
 t5 := Tryz.underlying5
 a5 := Tryz.isAgg5
 z5 := Tryz.sizeOf5
 v5 := Tryz.zeroValue5
 t9 := Tryz.underlying9
 a9 := Tryz.isAgg9
 z9 := Tryz.sizeOf9
 v9 := Tryz.zeroValue9
 t46 := Tryz.underlying143
 a46 := Tryz.isAgg143
 z46 := Tryz.sizeOf143
 v46 := Tryz.zeroValue143
 t51 := Tryz.underlying176
 a51 := Tryz.isAgg176
 z51 := Tryz.sizeOf176
 v51 := Tryz.zeroValue176
 t53 := Tryz.underlying178
 a53 := Tryz.isAgg178
 z53 := Tryz.sizeOf178
 v53 := Tryz.zeroValue178 }
end Go.Proofs
namespace Go.Proofs.YtnolcogncjijpaaGreatDoor
open Go Go.Ab
def strings_Compare (s p : ByteArray) : Bool × Int := zzT s p
def strings_Compare_spec : Ab.Spec ty := zr (cx := base) (zf (zg vStr) (zf (zg vStr) aNil)) fun x => ((strings_Compare x.1 x.2.1).1, ⟨[.pure (.lit (.int .i64 (strings_Compare x.1 x.2.1).2))], []⟩)
theorem zDa : Sound Tryz.prog base 162 strings_Compare_spec := zJX zB Go.Proofs.Tryz.lays106 Tryz.call162
end Go.Proofs.YtnolcogncjijpaaGreatDoor
namespace Go.Proofs.YtnolcogncjijpaaGreatDoor
open Go Go.Ab
def zHc : Cx ty := mkCx base 22 [(79, zkg), (88, zkR), (125, zls), (162, strings_Compare_spec)] [] [] [] [] []
def zvo (a : Value) (b : Value) : Wy0 (Int) := .bn (zd6 a.Kind b.Kind) fun r2 => .bn (zhB a.Int b.Int) fun r1 => .bn (zlO [r2, r1, (strings_Compare a.Text b.Text).2]) fun r0 => .k r0
def zm6 (a : Value) (b : Value) : Bool × Int := (zvo a b).fin default
def zy2 (r : Int) : ARes ty := ⟨[.pure (.lit (.int .i64 r))], []⟩
def zBU : AL base (Value × Value × Unit) := zf (zg (vAgg 46)) (zf (zg (vAgg 46)) aNil)
def zqL : Ab.Spec ty := zr zBU fun x => ((zm6 x.1 x.2.1).1, zy2 (zm6 x.1 x.2.1).2)
theorem zv7 : Sound Tryz.prog base 128 zqL :=
 zF (cx' := zHc) zR zB zL (zG ⟨zmQ, zme, zom, zDa, trivial⟩) Tryz.call128 Tryz.func128 (c := body Tryz.f128) (by kernel_rfl) (zj (l := []) (by kernel_rfl) trivial) (sg := ⟨[.pure], []⟩) (A := zBU) (res := zy2) (W := fun x => zvo x.1 x.2.1) (z := default)
def zwW (zn : List Term → List Term → Bool × Int) (zq : Weighted → Weighted → Bool × Int) (zl : List (List Term) → List (List Term) → Bool × Int) (zo : List Weighted → List Weighted → Bool × Int) : Cx ty := mkCx base 51 [(38, (zds zn)), (85, (zdp zq)), (88, zkR), (125, zls), (126, (z8 zl)), (127, (zbl zo)), (128, zqL)] [] [] [] [] []
def zkw (zn : List Term → List Term → Bool × Int) (zq : Weighted → Weighted → Bool × Int) (zl : List (List Term) → List (List Term) → Bool × Int) (zo : List Weighted → List Weighted → Bool × Int) (a : Atom) (b : Atom) : Wy0 (Int) := .bn (zd6 a.Kind b.Kind) fun r8 => .bn (zd6 a.Row.Table b.Row.Table) fun r7 => .bn (zd6 a.Row.Seq b.Row.Seq) fun r6 => .bn (zl a.Args b.Args) fun r5 => .bn (zd6 a.Func b.Func) fun r4 => .bn (zo a.Items b.Items) fun r3 => .bn (zd6 a.Op b.Op) fun r2 => .bn (zm6 a.Bound b.Bound) fun r1 => .bn (zlO [r8, r7, r6, r5, r4, r3, r2, r1]) fun r0 => .k r0
def zis (zn : List Term → List Term → Bool × Int) (zq : Weighted → Weighted → Bool × Int) (zl : List (List Term) → List (List Term) → Bool × Int) (zo : List Weighted → List Weighted → Bool × Int) (a : Atom) (b : Atom) : Bool × Int := (zkw zn zq zl zo a b).fin default
theorem zuF (zn : List Term → List Term → Bool × Int) (zq : Weighted → Weighted → Bool × Int) (zl : List (List Term) → List (List Term) → Bool × Int) (zo : List Weighted → List Weighted → Bool × Int) (zhX : Sound Tryz.prog base 38 (zds zn)) (zkx : Sound Tryz.prog base 85 (zdp zq)) (zeq : Sound Tryz.prog base 126 (z8 zl)) (zfC : Sound Tryz.prog base 127 (zbl zo)) : Sound Tryz.prog base 73 (zfU (zis zn zq zl zo)) :=
 zF (cx' := (zwW zn zq zl zo)) zR zB zL (zG ⟨zhX, zkx, zme, zom, zeq, zfC, zv7, trivial⟩) Tryz.call73 Tryz.func73 (c := body Tryz.f73) (by kernel_rfl) (zj (l := []) (by kernel_rfl) trivial) (sg := ⟨[.pure], []⟩) (A := zqy) (res := zoM) (W := fun x => zkw zn zq zl zo x.1 x.2.1) (z := default)
def zvp (zbU : Atom → Atom → Bool × Int) : Cx ty := mkCx base 17 [(73, (zfU zbU)), (88, zkR), (125, zls)] [] [] [] [] []
def zjz (zbU : Atom → Atom → Bool × Int) (a : Factor) (b : Factor) : Wy0 (Int) := .bn (zbU (Atom.mk a.Atom.Kind a.Atom.Row a.Atom.Args a.Atom.Func a.Atom.Items a.Atom.Op a.Atom.Bound) (Atom.mk b.Atom.Kind b.Atom.Row b.Atom.Args b.Atom.Func b.Atom.Items b.Atom.Op b.Atom.Bound)) fun r2 => .bn (zd6 a.Exp b.Exp) fun r1 => .bn (zlO [r2, r1]) fun r0 => .k r0
def zhI (zbU : Atom → Atom → Bool × Int) (a : Factor) (b : Factor) : Bool × Int := (zjz zbU a b).fin default
theorem zs7 (zbU : Atom → Atom → Bool × Int) (zxZ : Sound Tryz.prog base 73 (zfU zbU)) : Sound Tryz.prog base 124 (zdS (zhI zbU)) :=
 zF (cx' := (zvp zbU)) zR zB zL (zG ⟨zxZ, zme, zom, trivial⟩) Tryz.call124 Tryz.func124 (c := body Tryz.f124) (by kernel_rfl) (zj (l := []) (by kernel_rfl) trivial) (sg := ⟨[.pure], []⟩) (A := zoK) (res := znH) (W := fun x => zjz zbU x.1 x.2.1) (z := default)
def zw0 (zn : List Term → List Term → Bool × Int) : Cx ty := mkCx base 17 [(38, (zds zn)), (88, zkR), (128, zqL)] [] [] [] [] []
def zkG (zn : List Term → List Term → Bool × Int) (a : Weighted) (b : Weighted) : Wy0 (Int) := .bn (zm6 a.Value b.Value) fun r2 => .bn (zn a.Ann b.Ann) fun r1 => .bn (zlO [r2, r1]) fun r0 => .k r0
def ziv (zn : List Term → List Term → Bool × Int) (a : Weighted) (b : Weighted) : Bool × Int := (zkG zn a b).fin default
theorem zuE (zn : List Term → List Term → Bool × Int) (zhX : Sound Tryz.prog base 38 (zds zn)) : Sound Tryz.prog base 85 (zdp (ziv zn)) :=
 zF (cx' := (zw0 zn)) zR zB zL (zG ⟨zhX, zme, zv7, trivial⟩) Tryz.call85 Tryz.func85 (c := body Tryz.f85) (by kernel_rfl) (zj (l := []) (by kernel_rfl) trivial) (sg := ⟨[.pure], []⟩) (A := zqg) (res := zoP) (W := fun x => zkG zn x.1 x.2.1) (z := default)
def zwy (zy : List Factor → List Factor → Bool × Int) (zm : Factor → Factor → Bool × Int) : Cx ty := mkCx base 10 [(123, (zbx zy)), (124, (zdS zm))] [] [] [] [] []
def zkt (zy : List Factor → List Factor → Bool × Int) (zm : Factor → Factor → Bool × Int) (a : Term) (b : Term) : Wy0 (Int) := .bn (zy a.Factors b.Factors) fun r0 => .k r0
def zit (zy : List Factor → List Factor → Bool × Int) (zm : Factor → Factor → Bool × Int) (a : Term) (b : Term) : Bool × Int := (zkt zy zm a b).fin default
theorem zuD (zy : List Factor → List Factor → Bool × Int) (zm : Factor → Factor → Bool × Int) (zhA : Sound Tryz.prog base 123 (zbx zy)) (zjx : Sound Tryz.prog base 124 (zdS zm)) : Sound Tryz.prog base 71 (zfT (zit zy zm)) :=
 zF (cx' := (zwy zy zm)) zR zB zL (zG ⟨zhA, zjx, trivial⟩) Tryz.call71 Tryz.func71 (c := body Tryz.f71) (by kernel_rfl) (zj (l := []) (by kernel_rfl) trivial) (sg := ⟨[.pure], []⟩) (A := zqu) (res := zoY) (W := fun x => zkt zy zm x.1 x.2.1) (z := default)
abbrev ttTslicesCompareFuncLapiAnnotationLapiAnnotationapiAnnotationapiAnnotation0 := List (List Term) × List (List Term) × Unit × List (List Term) × Int × Int × Unit
abbrev ttTslicesCompareFuncLapiAnnotationLapiAnnotationapiAnnotationapiAnnotation1 := Int ⊕ (List (List Term) × List (List Term))
def zem (zn : List Term → List Term → Bool × Int) (s1 : List (List Term)) (s2 : List (List Term)) (t11 : List (List Term)) (t12 : Int) (t13 : Int) : Wy ttTslicesCompareFuncLapiAnnotationLapiAnnotationapiAnnotationapiAnnotation0 (Unit) ttTslicesCompareFuncLapiAnnotationLapiAnnotationapiAnnotationapiAnnotation1 := .i (decide (t13 < t12)) (.i (decide (0 ≤ t13) && decide (t13 < Int.ofNat t11.length)) (.i (decide (t13 ≥ Int.ofNat s2.length)) (.k (.inl 1)) (.i (decide (0 ≤ t13) && decide (t13 < Int.ofNat s2.length)) (.bn (zn (t11.getD t13.toNat default) (s2.getD t13.toNat default)) fun r0 => .i (r0 != 0) (.k (.inl (r0))) (.h (s1, s2, (), t11, t12, (IntKind.i64.wrap (t13 + 1)), ()) ())) .d)) .d) (.k (.inr (s1, s2)))
def zbu (zn : List Term → List Term → Bool × Int) (x : ttTslicesCompareFuncLapiAnnotationLapiAnnotationapiAnnotationapiAnnotation0) (y : Unit) : Wy ttTslicesCompareFuncLapiAnnotationLapiAnnotationapiAnnotationapiAnnotation0 (Unit) ttTslicesCompareFuncLapiAnnotationLapiAnnotationapiAnnotationapiAnnotation1 := zem zn x.1 x.2.1 x.2.2.2.1 x.2.2.2.2.1 x.2.2.2.2.2.1
def zen (zn : List Term → List Term → Bool × Int) (n : Nat) (s1 : List (List Term)) (s2 : List (List Term)) (t11 : List (List Term)) (t12 : Int) (t13 : Int) : Bool × ttTslicesCompareFuncLapiAnnotationLapiAnnotationapiAnnotationapiAnnotation1 := zN (zbu zn) (.inl default) n (s1, s2, (), t11, t12, t13, ()) ()
def zb8 (r : ttTslicesCompareFuncLapiAnnotationLapiAnnotationapiAnnotationapiAnnotation1) : LTree ty := .ite (isL r) (.done .ret [.lit (.int .i64 (getL r))] []) (.done (.exit 0) [.sl 23 (getR r).1, .sl 23 (getR r).2] [])
def zce : LL ty ttTslicesCompareFuncLapiAnnotationLapiAnnotationapiAnnotationapiAnnotation0 := za (lSl 23) (za (lSl 23) (za (lFn 38 (zT)) (za (lSl 23) (za (lInt .i64) (za (lInt .i64) zT)))))
def zcb : BL ty (Unit) := bNil
def zb9 (x : ttTslicesCompareFuncLapiAnnotationLapiAnnotationapiAnnotationapiAnnotation0) (y : Unit) : Nat := (x.1.length + x.2.1.length + x.2.2.2.1.length + Int.toNat x.2.2.2.2.1 + Int.toNat x.2.2.2.2.2.1 + 1)
def zca (zn : List Term → List Term → Bool × Int) : Cx ty := mkCx base 39 [(38, (zds zn))] [] [(2, [(0, .keep), (1, .keep), (2, .keep), (11, .keep), (12, .keep), (13, .keep)])] [(2, 1, [(0, .keep), (1, .keep)]), (2, 0, [(6, .keep)])] [(2, spW zce zcb (zbu zn) (.inl default) zb8 zb9)] []
theorem zej (zn : List Term → List Term → Bool × Int) : zbr (zca zn) (lp (body Tryz.f126) 0) := zZ (id := 2) (V := zce) (B := zcb) (W := zbu zn) (z := .inl default) (tr := zb8) (m := zb9)
def zci (zn : List Term → List Term → Bool × Int) (s1 : List (List Term)) (s2 : List (List Term)) : Wy0 (Int) := .bn (zen zn (s1.length + s2.length + s1.length + (Int.ofNat s1.length).toNat + Int.toNat 0 + 1) s1 s2 s1 (Int.ofNat s1.length) 0) fun r2 => .i (isL r2) (.k (getL r2)) (.i (decide (Int.ofNat (getR r2).1.length < Int.ofNat (getR r2).2.length)) (.k (-1 : Int)) (.k 0))
def zba (zn : List Term → List Term → Bool × Int) (s1 : List (List Term)) (s2 : List (List Term)) : Bool × Int := (zci zn s1 s2).fin default
theorem zd8 (zn : List Term → List Term → Bool × Int) (zhX : Sound Tryz.prog base 38 (zds zn)) : Sound Tryz.prog base 126 (z8 (zba zn)) :=
 zF (cx' := (zca zn)) zR zB zL (zG ⟨zhX, trivial⟩) Tryz.call126 Tryz.func126 (c := body Tryz.f126) (by kernel_rfl) (zj (l := [lp (body Tryz.f126) 0]) (by kernel_rfl) ⟨zej zn, trivial⟩) (sg := ⟨[.pure], []⟩) (A := zck) (res := zch) (W := fun x => zci zn x.1 x.2.1) (z := default)
abbrev ttTslicesCompareFuncLapiFactorLapiFactorapiFactorapiFactor0 := List Factor × List Factor × Unit × List Factor × Int × Int × Unit
abbrev ttTslicesCompareFuncLapiFactorLapiFactorapiFactorapiFactor1 := Int ⊕ (List Factor × List Factor)
def zdg (zm : Factor → Factor → Bool × Int) (s1 : List Factor) (s2 : List Factor) (t11 : List Factor) (t12 : Int) (t13 : Int) : Wy ttTslicesCompareFuncLapiFactorLapiFactorapiFactorapiFactor0 (Unit) ttTslicesCompareFuncLapiFactorLapiFactorapiFactorapiFactor1 := .i (decide (t13 < t12)) (.i (decide (0 ≤ t13) && decide (t13 < Int.ofNat t11.length)) (.i (decide (t13 ≥ Int.ofNat s2.length)) (.k (.inl 1)) (.i (decide (0 ≤ t13) && decide (t13 < Int.ofNat s2.length)) (.bn (zm (FactorOf.mk (Atom.mk (t11.getD t13.toNat default).Atom.Kind (t11.getD t13.toNat default).Atom.Row (t11.getD t13.toNat default).Atom.Args (t11.getD t13.toNat default).Atom.Func (t11.getD t13.toNat default).Atom.Items (t11.getD t13.toNat default).Atom.Op (t11.getD t13.toNat default).Atom.Bound) (t11.getD t13.toNat default).Exp) (FactorOf.mk (Atom.mk (s2.getD t13.toNat default).Atom.Kind (s2.getD t13.toNat default).Atom.Row (s2.getD t13.toNat default).Atom.Args (s2.getD t13.toNat default).Atom.Func (s2.getD t13.toNat default).Atom.Items (s2.getD t13.toNat default).Atom.Op (s2.getD t13.toNat default).Atom.Bound) (s2.getD t13.toNat default).Exp)) fun r0 => .i (r0 != 0) (.k (.inl (r0))) (.h (s1, s2, (), t11, t12, (IntKind.i64.wrap (t13 + 1)), ()) ())) .d)) .d) (.k (.inr (s1, s2)))
def z6 (zm : Factor → Factor → Bool × Int) (x : ttTslicesCompareFuncLapiFactorLapiFactorapiFactorapiFactor0) (y : Unit) : Wy ttTslicesCompareFuncLapiFactorLapiFactorapiFactorapiFactor0 (Unit) ttTslicesCompareFuncLapiFactorLapiFactorapiFactorapiFactor1 := zdg zm x.1 x.2.1 x.2.2.2.1 x.2.2.2.2.1 x.2.2.2.2.2.1
def zdf (zm : Factor → Factor → Bool × Int) (n : Nat) (s1 : List Factor) (s2 : List Factor) (t11 : List Factor) (t12 : Int) (t13 : Int) : Bool × ttTslicesCompareFuncLapiFactorLapiFactorapiFactorapiFactor1 := zN (z6 zm) (.inl default) n (s1, s2, (), t11, t12, t13, ()) ()
def zc9 (r : ttTslicesCompareFuncLapiFactorLapiFactorapiFactorapiFactor1) : LTree ty := .ite (isL r) (.done .ret [.lit (.int .i64 (getL r))] []) (.done (.exit 0) [.sl 50 (getR r).1, .sl 50 (getR r).2] [])
def zdh : LL ty ttTslicesCompareFuncLapiFactorLapiFactorapiFactorapiFactor0 := za (lSl 50) (za (lSl 50) (za (lFn 124 (zT)) (za (lSl 50) (za (lInt .i64) (za (lInt .i64) zT)))))
def zde : BL ty (Unit) := bNil
def zdd (x : ttTslicesCompareFuncLapiFactorLapiFactorapiFactorapiFactor0) (y : Unit) : Nat := (x.1.length + x.2.1.length + x.2.2.2.1.length + Int.toNat x.2.2.2.2.1 + Int.toNat x.2.2.2.2.2.1 + 1)
def zdi (zm : Factor → Factor → Bool × Int) : Cx ty := mkCx base 39 [(124, (zdS zm))] [] [(2, [(0, .keep), (1, .keep), (2, .keep), (11, .keep), (12, .keep), (13, .keep)])] [(2, 1, [(0, .keep), (1, .keep)]), (2, 0, [(6, .keep)])] [(2, spW zdh zde (z6 zm) (.inl default) zc9 zdd)] []
theorem zg8 (zm : Factor → Factor → Bool × Int) : zbr (zdi zm) (lp (body Tryz.f123) 0) := zZ (id := 2) (V := zdh) (B := zde) (W := z6 zm) (z := .inl default) (tr := zc9) (m := zdd)
def zbZ (zm : Factor → Factor → Bool × Int) (s1 : List Factor) (s2 : List Factor) : Wy0 (Int) := .bn (zdf zm (s1.length + s2.length + s1.length + (Int.ofNat s1.length).toNat + Int.toNat 0 + 1) s1 s2 s1 (Int.ofNat s1.length) 0) fun r2 => .i (isL r2) (.k (getL r2)) (.i (decide (Int.ofNat (getR r2).1.length < Int.ofNat (getR r2).2.length)) (.k (-1 : Int)) (.k 0))
def zbd (zm : Factor → Factor → Bool × Int) (s1 : List Factor) (s2 : List Factor) : Bool × Int := (zbZ zm s1 s2).fin default
theorem zgA (zm : Factor → Factor → Bool × Int) (zjx : Sound Tryz.prog base 124 (zdS zm)) : Sound Tryz.prog base 123 (zbx (zbd zm)) :=
 zF (cx' := (zdi zm)) zR zB zL (zG ⟨zjx, trivial⟩) Tryz.call123 Tryz.func123 (c := body Tryz.f123) (by kernel_rfl) (zj (l := [lp (body Tryz.f123) 0]) (by kernel_rfl) ⟨zg8 zm, trivial⟩) (sg := ⟨[.pure], []⟩) (A := zdv) (res := zdm) (W := fun x => zbZ zm x.1 x.2.1) (z := default)
abbrev ttTslicesCompareFuncLapiWeightedLapiWeightedapiWeightedapiWeighted0 := List Weighted × List Weighted × Unit × List Weighted × Int × Int × Unit
abbrev ttTslicesCompareFuncLapiWeightedLapiWeightedapiWeightedapiWeighted1 := Int ⊕ (List Weighted × List Weighted)
def zfk (zq : Weighted → Weighted → Bool × Int) (s1 : List Weighted) (s2 : List Weighted) (t11 : List Weighted) (t12 : Int) (t13 : Int) : Wy ttTslicesCompareFuncLapiWeightedLapiWeightedapiWeightedapiWeighted0 (Unit) ttTslicesCompareFuncLapiWeightedLapiWeightedapiWeightedapiWeighted1 := .i (decide (t13 < t12)) (.i (decide (0 ≤ t13) && decide (t13 < Int.ofNat t11.length)) (.i (decide (t13 ≥ Int.ofNat s2.length)) (.k (.inl 1)) (.i (decide (0 ≤ t13) && decide (t13 < Int.ofNat s2.length)) (.bn (zq (t11.getD t13.toNat default) (s2.getD t13.toNat default)) fun r0 => .i (r0 != 0) (.k (.inl (r0))) (.h (s1, s2, (), t11, t12, (IntKind.i64.wrap (t13 + 1)), ()) ())) .d)) .d) (.k (.inr (s1, s2)))
def zbC (zq : Weighted → Weighted → Bool × Int) (x : ttTslicesCompareFuncLapiWeightedLapiWeightedapiWeightedapiWeighted0) (y : Unit) : Wy ttTslicesCompareFuncLapiWeightedLapiWeightedapiWeightedapiWeighted0 (Unit) ttTslicesCompareFuncLapiWeightedLapiWeightedapiWeightedapiWeighted1 := zfk zq x.1 x.2.1 x.2.2.2.1 x.2.2.2.2.1 x.2.2.2.2.2.1
def zfj (zq : Weighted → Weighted → Bool × Int) (n : Nat) (s1 : List Weighted) (s2 : List Weighted) (t11 : List Weighted) (t12 : Int) (t13 : Int) : Bool × ttTslicesCompareFuncLapiWeightedLapiWeightedapiWeightedapiWeighted1 := zN (zbC zq) (.inl default) n (s1, s2, (), t11, t12, t13, ()) ()
def zcu (r : ttTslicesCompareFuncLapiWeightedLapiWeightedapiWeightedapiWeighted1) : LTree ty := .ite (isL r) (.done .ret [.lit (.int .i64 (getL r))] []) (.done (.exit 0) [.sl 52 (getR r).1, .sl 52 (getR r).2] [])
def zcz : LL ty ttTslicesCompareFuncLapiWeightedLapiWeightedapiWeightedapiWeighted0 := za (lSl 52) (za (lSl 52) (za (lFn 85 (zT)) (za (lSl 52) (za (lInt .i64) (za (lInt .i64) zT)))))
def zcy : BL ty (Unit) := bNil
def zcw (x : ttTslicesCompareFuncLapiWeightedLapiWeightedapiWeightedapiWeighted0) (y : Unit) : Nat := (x.1.length + x.2.1.length + x.2.2.2.1.length + Int.toNat x.2.2.2.2.1 + Int.toNat x.2.2.2.2.2.1 + 1)
def zcx (zq : Weighted → Weighted → Bool × Int) : Cx ty := mkCx base 39 [(85, (zdp zq))] [] [(2, [(0, .keep), (1, .keep), (2, .keep), (11, .keep), (12, .keep), (13, .keep)])] [(2, 1, [(0, .keep), (1, .keep)]), (2, 0, [(6, .keep)])] [(2, spW zcz zcy (zbC zq) (.inl default) zcu zcw)] []
theorem ze1 (zq : Weighted → Weighted → Bool × Int) : zbr (zcx zq) (lp (body Tryz.f127) 0) := zZ (id := 2) (V := zcz) (B := zcy) (W := zbC zq) (z := .inl default) (tr := zcu) (m := zcw)
def zcD (zq : Weighted → Weighted → Bool × Int) (s1 : List Weighted) (s2 : List Weighted) : Wy0 (Int) := .bn (zfj zq (s1.length + s2.length + s1.length + (Int.ofNat s1.length).toNat + Int.toNat 0 + 1) s1 s2 s1 (Int.ofNat s1.length) 0) fun r2 => .i (isL r2) (.k (getL r2)) (.i (decide (Int.ofNat (getR r2).1.length < Int.ofNat (getR r2).2.length)) (.k (-1 : Int)) (.k 0))
def zbk (zq : Weighted → Weighted → Bool × Int) (s1 : List Weighted) (s2 : List Weighted) : Bool × Int := (zcD zq s1 s2).fin default
theorem zeX (zq : Weighted → Weighted → Bool × Int) (zkx : Sound Tryz.prog base 85 (zdp zq)) : Sound Tryz.prog base 127 (zbl (zbk zq)) :=
 zF (cx' := (zcx zq)) zR zB zL (zG ⟨zkx, trivial⟩) Tryz.call127 Tryz.func127 (c := body Tryz.f127) (by kernel_rfl) (zj (l := [lp (body Tryz.f127) 0]) (by kernel_rfl) ⟨ze1 zq, trivial⟩) (sg := ⟨[.pure], []⟩) (A := zcM) (res := zcE) (W := fun x => zcD zq x.1 x.2.1) (z := default)
abbrev ttTslicesCompareFuncapiAnnotationapiAnnotationapiTermapiTerm0 := List Term × List Term × Unit × List Term × Int × Int × Unit
abbrev ttTslicesCompareFuncapiAnnotationapiAnnotationapiTermapiTerm1 := Int ⊕ (List Term × List Term)
def zgS (zx : Term → Term → Bool × Int) (s1 : List Term) (s2 : List Term) (t11 : List Term) (t12 : Int) (t13 : Int) : Wy ttTslicesCompareFuncapiAnnotationapiAnnotationapiTermapiTerm0 (Unit) ttTslicesCompareFuncapiAnnotationapiAnnotationapiTermapiTerm1 := .i (decide (t13 < t12)) (.i (decide (0 ≤ t13) && decide (t13 < Int.ofNat t11.length)) (.i (decide (t13 ≥ Int.ofNat s2.length)) (.k (.inl 1)) (.i (decide (0 ≤ t13) && decide (t13 < Int.ofNat s2.length)) (.bn (zx (t11.getD t13.toNat default) (s2.getD t13.toNat default)) fun r0 => .i (r0 != 0) (.k (.inl (r0))) (.h (s1, s2, (), t11, t12, (IntKind.i64.wrap (t13 + 1)), ()) ())) .d)) .d) (.k (.inr (s1, s2)))
def zbM (zx : Term → Term → Bool × Int) (x : ttTslicesCompareFuncapiAnnotationapiAnnotationapiTermapiTerm0) (y : Unit) : Wy ttTslicesCompareFuncapiAnnotationapiAnnotationapiTermapiTerm0 (Unit) ttTslicesCompareFuncapiAnnotationapiAnnotationapiTermapiTerm1 := zgS zx x.1 x.2.1 x.2.2.2.1 x.2.2.2.2.1 x.2.2.2.2.2.1
def zgQ (zx : Term → Term → Bool × Int) (n : Nat) (s1 : List Term) (s2 : List Term) (t11 : List Term) (t12 : Int) (t13 : Int) : Bool × ttTslicesCompareFuncapiAnnotationapiAnnotationapiTermapiTerm1 := zN (zbM zx) (.inl default) n (s1, s2, (), t11, t12, t13, ()) ()
def zcW (r : ttTslicesCompareFuncapiAnnotationapiAnnotationapiTermapiTerm1) : LTree ty := .ite (isL r) (.done .ret [.lit (.int .i64 (getL r))] []) (.done (.exit 0) [.sl 42 (getR r).1, .sl 42 (getR r).2] [])
def zc0 : LL ty ttTslicesCompareFuncapiAnnotationapiAnnotationapiTermapiTerm0 := za (lSl 42) (za (lSl 42) (za (lFn 87 (zT)) (za (lSl 42) (za (lInt .i64) (za (lInt .i64) zT)))))
def zc2 : BL ty (Unit) := bNil
def zcV (x : ttTslicesCompareFuncapiAnnotationapiAnnotationapiTermapiTerm0) (y : Unit) : Nat := (x.1.length + x.2.1.length + x.2.2.2.1.length + Int.toNat x.2.2.2.2.1 + Int.toNat x.2.2.2.2.2.1 + 1)
def zc1 (zx : Term → Term → Bool × Int) : Cx ty := mkCx base 39 [(87, (zeP zx))] [] [(2, [(0, .keep), (1, .keep), (2, .keep), (11, .keep), (12, .keep), (13, .keep)])] [(2, 1, [(0, .keep), (1, .keep)]), (2, 0, [(6, .keep)])] [(2, spW zc0 zc2 (zbM zx) (.inl default) zcW zcV)] []
theorem zgx (zx : Term → Term → Bool × Int) : zbr (zc1 zx) (lp (body Tryz.f86) 0) := zZ (id := 2) (V := zc0) (B := zc2) (W := zbM zx) (z := .inl default) (tr := zcW) (m := zcV)
def zdb (zx : Term → Term → Bool × Int) (s1 : List Term) (s2 : List Term) : Wy0 (Int) := .bn (zgQ zx (s1.length + s2.length + s1.length + (Int.ofNat s1.length).toNat + Int.toNat 0 + 1) s1 s2 s1 (Int.ofNat s1.length) 0) fun r2 => .i (isL r2) (.k (getL r2)) (.i (decide (Int.ofNat (getR r2).1.length < Int.ofNat (getR r2).2.length)) (.k (-1 : Int)) (.k 0))
def zbv (zx : Term → Term → Bool × Int) (s1 : List Term) (s2 : List Term) : Bool × Int := (zdb zx s1 s2).fin default
theorem zf1 (zx : Term → Term → Bool × Int) (zlQ : Sound Tryz.prog base 87 (zeP zx)) : Sound Tryz.prog base 86 (zbt (zbv zx)) :=
 zF (cx' := (zc1 zx)) zR zB zL (zG ⟨zlQ, trivial⟩) Tryz.call86 Tryz.func86 (c := body Tryz.f86) (by kernel_rfl) (zj (l := [lp (body Tryz.f86) 0]) (by kernel_rfl) ⟨zgx zx, trivial⟩) (sg := ⟨[.pure], []⟩) (A := zdn) (res := zdc) (W := fun x => zdb zx x.1 x.2.1) (z := default)
def zbL : Nat → (List Term → List Term → Bool × Int) × (Term → Term → Bool × Int) × (Term → Term → Bool × Int) × (Factor → Factor → Bool × Int) × (Atom → Atom → Bool × Int) × (Weighted → Weighted → Bool × Int) × (List Term → List Term → Bool × Int) × (List Factor → List Factor → Bool × Int) × (List (List Term) → List (List Term) → Bool × Int) × (List Weighted → List Weighted → Bool × Int)
 | 0 => (fun _ _ => (false, default), fun _ _ => (false, default), fun _ _ => (false, default), fun _ _ => (false, default), fun _ _ => (false, default), fun _ _ => (false, default), fun _ _ => (false, default), fun _ _ => (false, default), fun _ _ => (false, default), fun _ _ => (false, default))
 | n + 1 => (zlL ((zbL n).2.2.2.2.2.2.1) ((zbL n).2.1), zjC ((zbL n).2.2.1), zit ((zbL n).2.2.2.2.2.2.2.1) ((zbL n).2.2.2.1), zhI ((zbL n).2.2.2.2.1), zis ((zbL n).1) ((zbL n).2.2.2.2.2.1) ((zbL n).2.2.2.2.2.2.2.2.1) ((zbL n).2.2.2.2.2.2.2.2.2), ziv ((zbL n).1), zbv ((zbL n).2.1), zbd ((zbL n).2.2.2.1), zba ((zbL n).1), zbk ((zbL n).2.2.2.2.2.1))
def zeU (n : Nat) : List Term → List Term → Bool × Int := (zbL n).1
def zhs (n : Nat) : Term → Term → Bool × Int := (zbL n).2.1
def zfV (n : Nat) : Term → Term → Bool × Int := (zbL n).2.2.1
def zeG (n : Nat) : Factor → Factor → Bool × Int := (zbL n).2.2.2.1
def zfP (n : Nat) : Atom → Atom → Bool × Int := (zbL n).2.2.2.2.1
def zeh (n : Nat) : Weighted → Weighted → Bool × Int := (zbL n).2.2.2.2.2.1
def zbs (n : Nat) : List Term → List Term → Bool × Int := (zbL n).2.2.2.2.2.2.1
def zby (n : Nat) : List Factor → List Factor → Bool × Int := (zbL n).2.2.2.2.2.2.2.1
def z7 (n : Nat) : List (List Term) → List (List Term) → Bool × Int := (zbL n).2.2.2.2.2.2.2.2.1
def zbj (n : Nat) : List Weighted → List Weighted → Bool × Int := (zbL n).2.2.2.2.2.2.2.2.2
theorem zBb (n : Nat) : zeU (n + 1) = zlL (zbs n) (zhs n) := rfl
theorem zyj (n : Nat) : zhs (n + 1) = zjC (zfV n) := rfl
theorem zw3 (n : Nat) : zfV (n + 1) = zit (zby n) (zeG n) := rfl
theorem zvA (n : Nat) : zeG (n + 1) = zhI (zfP n) := rfl
theorem zwV (n : Nat) : zfP (n + 1) = zis (zeU n) (zeh n) (z7 n) (zbj n) := rfl
theorem zwX (n : Nat) : zeh (n + 1) = ziv (zeU n) := rfl
theorem zgR (n : Nat) : zbs (n + 1) = zbv (zhs n) := rfl
theorem zhi (n : Nat) : zby (n + 1) = zbd (zeG n) := rfl
theorem zeo (n : Nat) : z7 (n + 1) = zba (zeU n) := rfl
theorem zfg (n : Nat) : zbj (n + 1) = zbk (zeh n) := rfl
theorem zpt : ∀ n, Sound Tryz.prog base 38 (zds (zeU n)) ∧ Sound Tryz.prog base 87 (zeP (zhs n)) ∧ Sound Tryz.prog base 71 (zfT (zfV n)) ∧ Sound Tryz.prog base 124 (zdS (zeG n)) ∧ Sound Tryz.prog base 73 (zfU (zfP n)) ∧ Sound Tryz.prog base 85 (zdp (zeh n)) ∧ Sound Tryz.prog base 86 (zbt (zbs n)) ∧ Sound Tryz.prog base 123 (zbx (zby n)) ∧ Sound Tryz.prog base 126 (z8 (z7 n)) ∧ Sound Tryz.prog base 127 (zbl (zbj n))
 | 0 => ⟨zbB Tryz.call38 (fun _ => rfl), zbB Tryz.call87 (fun _ => rfl), zbB Tryz.call71 (fun _ => rfl), zbB Tryz.call124 (fun _ => rfl), zbB Tryz.call73 (fun _ => rfl), zbB Tryz.call85 (fun _ => rfl), zbB Tryz.call86 (fun _ => rfl), zbB Tryz.call123 (fun _ => rfl), zbB Tryz.call126 (fun _ => rfl), zbB Tryz.call127 (fun _ => rfl)⟩
 | n + 1 => by
  have ih := zpt n
  exact ⟨zyD _ _ (ih.2.2.2.2.2.2.1) (ih.2.1), zvS _ (ih.2.2.1), zuD _ _ (ih.2.2.2.2.2.2.2.1) (ih.2.2.2.1), zs7 _ (ih.2.2.2.2.1), zuF _ _ _ _ (ih.1) (ih.2.2.2.2.2.1) (ih.2.2.2.2.2.2.2.2.1) (ih.2.2.2.2.2.2.2.2.2), zuE _ (ih.1), zf1 _ (ih.2.1), zgA _ (ih.2.2.2.1), zd8 _ (ih.1), zeX _ (ih.2.2.2.2.2.1)⟩
def zrb : List Term → List Term → Bool × Int := zeU 1000
def annotation_Compare_spec : Ab.Spec ty := zds zrb
theorem zA7 : Sound Tryz.prog base 38 annotation_Compare_spec := (zpt 1000).1
def zbz : Term → Term → Bool × Int := zfV 1000
def annotation_compareLists_spec : Ab.Spec ty := zfT zbz
theorem zjy : Sound Tryz.prog base 71 annotation_compareLists_spec := (zpt 1000).2.2.1
def zht : Atom → Atom → Bool × Int := zfP 1000
def annotation_compareAtoms_spec : Ab.Spec ty := zfU zht
theorem znN : Sound Tryz.prog base 73 annotation_compareAtoms_spec := (zpt 1000).2.2.2.2.1
def zbm : Weighted → Weighted → Bool × Int := zeh 1000
def annotation_compareItems_spec : Ab.Spec ty := zdp zbm
theorem zgl : Sound Tryz.prog base 85 annotation_compareItems_spec := (zpt 1000).2.2.2.2.2.1
def zvi (r : Bool) : ARes ty := ⟨[.pure (.lit (.bool r))], []⟩
def zx9 : AL base (List Term × Unit) := zf (zg (vSl 42)) aNil
def zgu (F : List Term → Bool × Bool) : Ab.Spec ty := zr zx9 fun x => ((F x.1).1, zvi (F x.1).2)
def zb3 (r : Bool) : ARes ty := ⟨[.pure (.lit (.bool r))], []⟩
def zsJ : AL base (Atom × Unit) := zf (zg (vAgg 48)) aNil
def zkc (F : Atom → Bool × Bool) : Ab.Spec ty := zr zsJ fun x => ((F x.1).1, zb3 (F x.1).2)
def zoS (r : Bool) : ARes ty := ⟨[.pure (.lit (.bool r))], []⟩
def zqf : AL base (List Term × Unit) := zf (zg (vSl 42)) aNil
def zcI (F : List Term → Bool × Bool) : Ab.Spec ty := zr zqf fun x => ((F x.1).1, zoS (F x.1).2)
def zoQ (r : Bool) : ARes ty := ⟨[.pure (.lit (.bool r))], []⟩
def zqv : AL base (Weighted × Unit) := zf (zg (vAgg 52)) aNil
def zcK (F : Weighted → Bool × Bool) : Ab.Spec ty := zr zqv fun x => ((F x.1).1, zoQ (F x.1).2)
def zeH (r : Int) : ARes ty := ⟨[.pure (.lit (.int .i64 r))], []⟩
def zfb : AL base (List (List Term) × Unit × Unit) := zf (zg (vSl 23)) (zf (zg (vFn 130 vNil)) aNil)
def zb6 (F : List (List Term) → Bool × Int) : Ab.Spec ty := zr zfb fun x => ((F x.1).1, zeH (F x.1).2)
def zek (r : Bool) : ARes ty := ⟨[.pure (.lit (.bool r))], []⟩
def zeE : AL base (List (List Term) × Unit × Unit) := zf (zg (vSl 23)) (zf (zg (vFn 130 vNil)) aNil)
def zbW (F : List (List Term) → Bool × Bool) : Ab.Spec ty := zr zeE fun x => ((F x.1).1, zek (F x.1).2)
def zfG (r : Int) : ARes ty := ⟨[.pure (.lit (.int .i64 r))], []⟩
def zgB : AL base (List Weighted × Unit × Unit) := zf (zg (vSl 52)) (zf (zg (vFn 131 vNil)) aNil)
def zcr (F : List Weighted → Bool × Int) : Ab.Spec ty := zr zgB fun x => ((F x.1).1, zfG (F x.1).2)
def zeZ (r : Bool) : ARes ty := ⟨[.pure (.lit (.bool r))], []⟩
def zfy : AL base (List Weighted × Unit × Unit) := zf (zg (vSl 52)) (zf (zg (vFn 131 vNil)) aNil)
def zcf (F : List Weighted → Bool × Bool) : Ab.Spec ty := zr zfy fun x => ((F x.1).1, zeZ (F x.1).2)
def zAn : Cx ty := mkCx base 11 [] [] [] [] [] []
def zmP (x_ : Atom) : Wy0 (Bool) := .i (x_.Kind == 3) (.k true) (.k (x_.Kind == 4))
def zez (x_ : Atom) : Bool × Bool := (zmP x_).fin default
def zqq (r : Bool) : ARes ty := ⟨[.pure (.lit (.bool r))], []⟩
def zsc : AL base (Atom × Unit) := zf (zg (vAgg 48)) aNil
def zh6 : Ab.Spec ty := zr zsc fun x => ((zez x.1).1, zqq (zez x.1).2)
theorem zkp : Sound Tryz.prog base 72 zh6 :=
 zF (cx' := zAn) zR zB zL (zG trivial) Tryz.call72 Tryz.func72 (c := body Tryz.f72) (by kernel_rfl) (zj (l := []) (by kernel_rfl) trivial) (sg := ⟨[.pure], []⟩) (A := zsc) (res := zqq) (W := fun x => zmP x.1) (z := default)
def zwk (r : Int) : ARes ty := ⟨[.pure (.lit (.int .i64 r))], []⟩
def zyW : AL base (List Term × Unit) := zf (zg (vSl 42)) aNil
def zlq (F : List Term → Bool × Int) : Ab.Spec ty := zr zyW fun x => ((F x.1).1, zwk (F x.1).2)
abbrev ttTannotationSize0 := Int × Unit × List Term × Int × Int × List Factor × Int × Int × List (List Term) × Int × Int × Unit
abbrev ttTannotationSize1 := Int × List Term × Int × Int × List Factor × Int × Int × Factor
abbrev ttTannotationSize2 := Int × List Term × Int × Int × List Factor × Int × Int × List Weighted × Int × Int × Unit
abbrev ttTannotationSize3 := Int × List Term × Int × Int × List Factor × Int × Int
abbrev ttTannotationSize4 := Int × List Term × Int × Int × List Factor × Int × Int × Unit
abbrev ttTannotationSize5 := Int × List Term × Int × Int
abbrev ttTannotationSize6 := Int × List Term × Int × Int × Unit
def ziq (zk : List Term → Bool × Int) (n_ : Int) (t12 : List Term) (t13 : Int) (t14 : Int) (t25 : List Factor) (t26 : Int) (t27 : Int) (t33 : List (List Term)) (t34 : Int) (t35 : Int) (f : Factor) : Wy ttTannotationSize0 (Factor × Unit) ttTannotationSize1 := .i (decide (t35 < t34)) (.i (decide (0 ≤ t35) && decide (t35 < Int.ofNat t33.length)) (.bn (zk (t33.getD t35.toNat default)) fun r0 => .h ((IntKind.i64.wrap (n_ + r0)), (), t12, t13, t14, t25, t26, t27, t33, t34, (IntKind.i64.wrap (t35 + 1)), ()) (f, ())) .d) (.k (n_, t12, t13, t14, t25, t26, t27, f))
def zkY (zk : List Term → Bool × Int) (x : ttTannotationSize0) (y : Factor × Unit) : Wy ttTannotationSize0 (Factor × Unit) ttTannotationSize1 := ziq zk x.1 x.2.2.1 x.2.2.2.1 x.2.2.2.2.1 x.2.2.2.2.2.1 x.2.2.2.2.2.2.1 x.2.2.2.2.2.2.2.1 x.2.2.2.2.2.2.2.2.1 x.2.2.2.2.2.2.2.2.2.1 x.2.2.2.2.2.2.2.2.2.2.1 y.1
def zup (zk : List Term → Bool × Int) (n : Nat) (n_ : Int) (t12 : List Term) (t13 : Int) (t14 : Int) (t25 : List Factor) (t26 : Int) (t27 : Int) (t33 : List (List Term)) (t34 : Int) (t35 : Int) (f : Factor) : Bool × ttTannotationSize1 := zN (zkY zk) default n (n_, (), t12, t13, t14, t25, t26, t27, t33, t34, t35, ()) (f, ())
def zte (r : ttTannotationSize1) : LTree ty := .done (.exit 4) [.lit (.int .i64 r.1), .ptr 248 0, .sl 42 r.2.1, .lit (.int .i64 r.2.2.1), .lit (.int .i64 r.2.2.2.1), .sl 50 r.2.2.2.2.1, .lit (.int .i64 r.2.2.2.2.2.1), .lit (.int .i64 r.2.2.2.2.2.2.1)] [.box (base.enc 50 r.2.2.2.2.2.2.2) false]
def zud : LL ty ttTannotationSize0 := za (lInt .i64) (za (zqn 248 0) (za (lSl 42) (za (lInt .i64) (za (lInt .i64) (za (lSl 50) (za (lInt .i64) (za (lInt .i64) (za (lSl 23) (za (lInt .i64) (za (lInt .i64) zT))))))))))
def zul : BL ty (Factor × Unit) := bBox (ztu (fun x => (⟨⟨x.1, ⟨x.2.1, x.2.2.1⟩, x.2.2.2.1, x.2.2.2.2.1, x.2.2.2.2.2.1, x.2.2.2.2.2.2.1, ⟨x.2.2.2.2.2.2.2.1, x.2.2.2.2.2.2.2.2.1, x.2.2.2.2.2.2.2.2.2.1⟩⟩, x.2.2.2.2.2.2.2.2.2.2.1⟩ : Factor)) (fun x => (x.Atom.Kind, x.Atom.Row.Table, x.Atom.Row.Seq, x.Atom.Args, x.Atom.Func, x.Atom.Items, x.Atom.Op, x.Atom.Bound.Kind, x.Atom.Bound.Int, x.Atom.Bound.Text, x.Exp, ())) (fun _ => rfl) (za (lInt .i64) (za (lInt .i64) (za (lInt .i64) (za (lSl 23) (za (lInt .i64) (za (lSl 52) (za (lInt .i64) (za (lInt .i64) (za (lInt .i64) (za lStr (za (lInt .i64) zT)))))))))))) false (bNil)
def zik (zk : List Term → Bool × Int) (n_ : Int) (t12 : List Term) (t13 : Int) (t14 : Int) (t25 : List Factor) (t26 : Int) (t27 : Int) (t46 : List Weighted) (t47 : Int) (t48 : Int) : Wy ttTannotationSize2 (Unit) ttTannotationSize3 := .i (decide (t48 < t47)) (.i (decide (0 ≤ t48) && decide (t48 < Int.ofNat t46.length)) (.bn (zk (t46.getD t48.toNat default).Ann) fun r2 => .h ((IntKind.i64.wrap (n_ + IntKind.i64.wrap (1 + r2))), t12, t13, t14, t25, t26, t27, t46, t47, (IntKind.i64.wrap (t48 + 1)), ()) ()) .d) (.k (n_, t12, t13, t14, t25, t26, t27))
def zkU (zk : List Term → Bool × Int) (x : ttTannotationSize2) (y : Unit) : Wy ttTannotationSize2 (Unit) ttTannotationSize3 := zik zk x.1 x.2.1 x.2.2.1 x.2.2.2.1 x.2.2.2.2.1 x.2.2.2.2.2.1 x.2.2.2.2.2.2.1 x.2.2.2.2.2.2.2.1 x.2.2.2.2.2.2.2.2.1 x.2.2.2.2.2.2.2.2.2.1
def zuo (zk : List Term → Bool × Int) (n : Nat) (n_ : Int) (t12 : List Term) (t13 : Int) (t14 : Int) (t25 : List Factor) (t26 : Int) (t27 : Int) (t46 : List Weighted) (t47 : Int) (t48 : Int) : Bool × ttTannotationSize3 := zN (zkU zk) default n (n_, t12, t13, t14, t25, t26, t27, t46, t47, t48, ()) ()
def ztl (r : ttTannotationSize3) : LTree ty := .done (.exit 6) [.lit (.int .i64 r.1), .sl 42 r.2.1, .lit (.int .i64 r.2.2.1), .lit (.int .i64 r.2.2.2.1), .sl 50 r.2.2.2.2.1, .lit (.int .i64 r.2.2.2.2.2.1), .lit (.int .i64 r.2.2.2.2.2.2)] []
def zui : LL ty ttTannotationSize2 := za (lInt .i64) (za (lSl 42) (za (lInt .i64) (za (lInt .i64) (za (lSl 50) (za (lInt .i64) (za (lInt .i64) (za (lSl 52) (za (lInt .i64) (za (lInt .i64) zT)))))))))
def ztO : BL ty (Unit) := bNil
def zi4 (zk : List Term → Bool × Int) (n_ : Int) (t12 : List Term) (t13 : Int) (t14 : Int) (t25 : List Factor) (t26 : Int) (t27 : Int) : Wy ttTannotationSize4 (Unit) ttTannotationSize5 := .i (decide (t27 < t26)) (.i (decide (0 ≤ t27) && decide (t27 < Int.ofNat t25.length)) (.bn (zup zk ((n_.toNat + t12.length + t13.toNat + t14.toNat + t25.length + t26.toNat + t27.toNat + (t25.getD t27.toNat default).Atom.Args.length + (Int.ofNat (t25.getD t27.toNat default).Atom.Args.length).toNat + Int.toNat 0 + 1) + (FactorOf.mk (Atom.mk (t25.getD t27.toNat default).Atom.Kind (t25.getD t27.toNat default).Atom.Row (t25.getD t27.toNat default).Atom.Args (t25.getD t27.toNat default).Atom.Func (t25.getD t27.toNat default).Atom.Items (t25.getD t27.toNat default).Atom.Op (t25.getD t27.toNat default).Atom.Bound) (t25.getD t27.toNat default).Exp).Atom.Args.length + (FactorOf.mk (Atom.mk (t25.getD t27.toNat default).Atom.Kind (t25.getD t27.toNat default).Atom.Row (t25.getD t27.toNat default).Atom.Args (t25.getD t27.toNat default).Atom.Func (t25.getD t27.toNat default).Atom.Items (t25.getD t27.toNat default).Atom.Op (t25.getD t27.toNat default).Atom.Bound) (t25.getD t27.toNat default).Exp).Atom.Items.length) n_ t12 t13 t14 t25 t26 t27 (t25.getD t27.toNat default).Atom.Args (Int.ofNat (t25.getD t27.toNat default).Atom.Args.length) 0 (FactorOf.mk (Atom.mk (t25.getD t27.toNat default).Atom.Kind (t25.getD t27.toNat default).Atom.Row (t25.getD t27.toNat default).Atom.Args (t25.getD t27.toNat default).Atom.Func (t25.getD t27.toNat default).Atom.Items (t25.getD t27.toNat default).Atom.Op (t25.getD t27.toNat default).Atom.Bound) (t25.getD t27.toNat default).Exp)) fun r5 => .bn (zuo zk (r5.1.toNat + r5.2.1.length + r5.2.2.1.toNat + r5.2.2.2.1.toNat + r5.2.2.2.2.1.length + r5.2.2.2.2.2.1.toNat + r5.2.2.2.2.2.2.1.toNat + r5.2.2.2.2.2.2.2.Atom.Items.length + (Int.ofNat r5.2.2.2.2.2.2.2.Atom.Items.length).toNat + Int.toNat 0 + 1) r5.1 r5.2.1 r5.2.2.1 r5.2.2.2.1 r5.2.2.2.2.1 r5.2.2.2.2.2.1 r5.2.2.2.2.2.2.1 r5.2.2.2.2.2.2.2.Atom.Items (Int.ofNat r5.2.2.2.2.2.2.2.Atom.Items.length) 0) fun r4 => .h ((r4.1), (r4.2.1), (r4.2.2.1), (r4.2.2.2.1), (r4.2.2.2.2.1), (r4.2.2.2.2.2.1), (IntKind.i64.wrap (r4.2.2.2.2.2.2 + 1)), ()) ()) .d) (.k (n_, t12, t13, t14))
def zlI (zk : List Term → Bool × Int) (x : ttTannotationSize4) (y : Unit) : Wy ttTannotationSize4 (Unit) ttTannotationSize5 := zi4 zk x.1 x.2.1 x.2.2.1 x.2.2.2.1 x.2.2.2.2.1 x.2.2.2.2.2.1 x.2.2.2.2.2.2.1
def zvB (zk : List Term → Bool × Int) (n : Nat) (n_ : Int) (t12 : List Term) (t13 : Int) (t14 : Int) (t25 : List Factor) (t26 : Int) (t27 : Int) : Bool × ttTannotationSize5 := zN (zlI zk) default n (n_, t12, t13, t14, t25, t26, t27, ()) ()
def ztQ (r : ttTannotationSize5) : LTree ty := .done (.exit 2) [.lit (.int .i64 r.1), .sl 42 r.2.1, .lit (.int .i64 r.2.2.1), .lit (.int .i64 r.2.2.2)] []
def zvI : LL ty ttTannotationSize4 := za (lInt .i64) (za (lSl 42) (za (lInt .i64) (za (lInt .i64) (za (lSl 50) (za (lInt .i64) (za (lInt .i64) zT))))))
def zvR : BL ty (Unit) := bNil
def zja (zk : List Term → Bool × Int) (n_ : Int) (t12 : List Term) (t13 : Int) (t14 : Int) : Wy ttTannotationSize6 (Unit) (Int) := .i (decide (t14 < t13)) (.i (decide (0 ≤ t14) && decide (t14 < Int.ofNat t12.length)) (.bn (zvB zk ((IntKind.i64.wrap (n_ + IntKind.i64.wrap (1 + Int.ofNat (t12.getD t14.toNat default).Factors.length))).toNat + t12.length + t13.toNat + t14.toNat + (t12.getD t14.toNat default).Factors.length + (Int.ofNat (t12.getD t14.toNat default).Factors.length).toNat + Int.toNat 0 + 1) (IntKind.i64.wrap (n_ + IntKind.i64.wrap (1 + Int.ofNat (t12.getD t14.toNat default).Factors.length))) t12 t13 t14 (t12.getD t14.toNat default).Factors (Int.ofNat (t12.getD t14.toNat default).Factors.length) 0) fun r8 => .h ((r8.1), (r8.2.1), (r8.2.2.1), (IntKind.i64.wrap (r8.2.2.2 + 1)), ()) ()) .d) (.k n_)
def zlD (zk : List Term → Bool × Int) (x : ttTannotationSize6) (y : Unit) : Wy ttTannotationSize6 (Unit) (Int) := zja zk x.1 x.2.1 x.2.2.1 x.2.2.2.1
def zvy (zk : List Term → Bool × Int) (n : Nat) (n_ : Int) (t12 : List Term) (t13 : Int) (t14 : Int) : Bool × Int := zN (zlD zk) default n (n_, t12, t13, t14, ()) ()
def ztP (r : Int) : LTree ty := .done (.exit 0) [.lit (.int .i64 r)] []
def zvQ : LL ty ttTannotationSize6 := za (lInt .i64) (za (lSl 42) (za (lInt .i64) (za (lInt .i64) zT)))
def zu9 : BL ty (Unit) := bNil
def ztf (x : ttTannotationSize0) (y : Factor × Unit) : Nat := ((Int.toNat x.1 + x.2.2.1.length + Int.toNat x.2.2.2.1 + Int.toNat x.2.2.2.2.1 + x.2.2.2.2.2.1.length + Int.toNat x.2.2.2.2.2.2.1 + Int.toNat x.2.2.2.2.2.2.2.1 + x.2.2.2.2.2.2.2.2.1.length + Int.toNat x.2.2.2.2.2.2.2.2.2.1 + Int.toNat x.2.2.2.2.2.2.2.2.2.2.1 + 1) + y.1.Atom.Args.length + y.1.Atom.Items.length)
def zs2 (x : ttTannotationSize2) (y : Unit) : Nat := (Int.toNat x.1 + x.2.1.length + Int.toNat x.2.2.1 + Int.toNat x.2.2.2.1 + x.2.2.2.2.1.length + Int.toNat x.2.2.2.2.2.1 + Int.toNat x.2.2.2.2.2.2.1 + x.2.2.2.2.2.2.2.1.length + Int.toNat x.2.2.2.2.2.2.2.2.1 + Int.toNat x.2.2.2.2.2.2.2.2.2.1 + 1)
def zux (x : ttTannotationSize4) (y : Unit) : Nat := (Int.toNat x.1 + x.2.1.length + Int.toNat x.2.2.1 + Int.toNat x.2.2.2.1 + x.2.2.2.2.1.length + Int.toNat x.2.2.2.2.2.1 + Int.toNat x.2.2.2.2.2.2.1 + 1)
def zuk (x : ttTannotationSize6) (y : Unit) : Nat := (Int.toNat x.1 + x.2.1.length + Int.toNat x.2.2.1 + Int.toNat x.2.2.2.1 + 1)
def zi8 (zk : List Term → Bool × Int) : Cx ty := mkCx base 62 [(47, (zlq zk))] [] [(3, [(3, .keep), (12, .keep), (13, .keep), (14, .keep)]), (7, [(3, .keep), (12, .keep), (13, .keep), (14, .keep), (25, .keep), (26, .keep), (27, .keep)]), (10, [(3, .keep), (7, .keep), (12, .keep), (13, .keep), (14, .keep), (25, .keep), (26, .keep), (27, .keep), (33, .keep), (34, .keep), (35, .keep)]), (15, [(3, .keep), (12, .keep), (13, .keep), (14, .keep), (25, .keep), (26, .keep), (27, .keep), (46, .keep), (47, .keep), (48, .keep)])] [(3, 1, [(3, .keep)]), (7, 3, [(3, .keep), (12, .keep), (13, .keep), (14, .keep)]), (10, 5, [(3, .keep), (7, .keep), (12, .keep), (13, .keep), (14, .keep), (25, .keep), (26, .keep), (27, .keep)]), (15, 7, [(3, .keep), (12, .keep), (13, .keep), (14, .keep), (25, .keep), (26, .keep), (27, .keep)])] [(10, spW zud zul (zkY zk) default zte ztf), (15, spW zui ztO (zkU zk) default ztl zs2), (7, spW zvI zvR (zlI zk) default ztQ zux), (3, spW zvQ zu9 (zlD zk) default ztP zuk)] []
theorem zCj (zk : List Term → Bool × Int) : zbr (zi8 zk) (lp (body Tryz.f47) 2) := zZ (id := 10) (V := zud) (B := zul) (W := zkY zk) (z := default) (tr := zte) (m := ztf)
theorem zCr (zk : List Term → Bool × Int) : zbr (zi8 zk) (lp (body Tryz.f47) 3) := zZ (id := 15) (V := zui) (B := ztO) (W := zkU zk) (z := default) (tr := ztl) (m := zs2)
theorem zCS (zk : List Term → Bool × Int) : zbr (zi8 zk) (lp (body Tryz.f47) 1) := zZ (id := 7) (V := zvI) (B := zvR) (W := zlI zk) (z := default) (tr := ztQ) (m := zux)
theorem zCu (zk : List Term → Bool × Int) : zbr (zi8 zk) (lp (body Tryz.f47) 0) := zZ (id := 3) (V := zvQ) (B := zu9) (W := zlD zk) (z := default) (tr := ztP) (m := zuk)
def zp2 (zk : List Term → Bool × Int) (a : List Term) : Wy0 (Int) := .bn (zvy zk (Int.toNat 0 + a.length + (Int.ofNat a.length).toNat + Int.toNat 0 + 1) 0 a (Int.ofNat a.length) 0) fun r10 => .k r10
def znX (zk : List Term → Bool × Int) (a : List Term) : Bool × Int := (zp2 zk a).fin default
theorem zBj (zk : List Term → Bool × Int) (zEJ : Sound Tryz.prog base 47 (zlq zk)) : Sound Tryz.prog base 47 (zlq (znX zk)) :=
 zF (cx' := (zi8 zk)) zR zB zL (zG ⟨zEJ, trivial⟩) Tryz.call47 Tryz.func47 (c := body Tryz.f47) (by kernel_rfl) (zj (l := [lp (body Tryz.f47) 0, lp (body Tryz.f47) 1, lp (body Tryz.f47) 2, lp (body Tryz.f47) 3]) (by kernel_rfl) ⟨zCu zk, zCS zk, zCj zk, zCr zk, trivial⟩) (sg := ⟨[.pure], []⟩) (A := zyW) (res := zwk) (W := fun x => zp2 zk x.1) (z := default)
def zKx : Nat → (List Term → Bool × Int)
 | 0 => fun _ => (false, default)
 | n + 1 => znX (zKx n)
def zjl (n : Nat) : List Term → Bool × Int := zKx n
theorem zDu (n : Nat) : zjl (n + 1) = znX (zjl n) := rfl
theorem zH2 : ∀ n, Sound Tryz.prog base 47 (zlq (zjl n))
 | 0 => zbB Tryz.call47 (fun _ => rfl)
 | n + 1 => by
  have ih := zH2 n
  exact zBj _ (ih)
def zu5 : List Term → Bool × Int := zjl 1000
def annotation_Size_spec : Ab.Spec ty := zlq zu5
theorem zCI : Sound Tryz.prog base 47 annotation_Size_spec := (zH2 1000)
def zs0 (r : Int) : ARes ty := ⟨[.pure (.lit (.int .i64 r))], []⟩
def zvE : AL base (List Term × Unit) := zf (zg (vSl 42)) aNil
def ziX (F : List Term → Bool × Int) : Ab.Spec ty := zr zvE fun x => ((F x.1).1, zs0 (F x.1).2)
abbrev ttTannotationnesting0 := Int × Unit × Int × List Term × Int × Int × List Factor × Int × Int × List (List Term) × Int × Int × Unit
abbrev ttTannotationnesting1 := Int × Int × List Term × Int × Int × List Factor × Int × Int × Factor
abbrev ttTannotationnesting2 := Int × Int × List Term × Int × Int × List Factor × Int × Int × List Weighted × Int × Int × Unit
abbrev ttTannotationnesting3 := Int × Int × List Term × Int × Int × List Factor × Int × Int
abbrev ttTannotationnesting4 := Int × List Term × Int × Int × List Factor × Int × Int × Unit
abbrev ttTannotationnesting5 := Int × List Term × Int × Int
abbrev ttTannotationnesting6 := Int × List Term × Int × Int × Unit
def zgv (zh : List Term → Bool × Int) (n_ : Int) (inner : Int) (t13 : List Term) (t14 : Int) (t15 : Int) (t20 : List Factor) (t21 : Int) (t22 : Int) (t32 : List (List Term)) (t33 : Int) (t34 : Int) (f : Factor) : Wy ttTannotationnesting0 (Factor × Unit) ttTannotationnesting1 := .i (decide (t34 < t33)) (.i (decide (0 ≤ t34) && decide (t34 < Int.ofNat t32.length)) (.bn (zh (t32.getD t34.toNat default)) fun r0 => .h (n_, (), (if r0 > inner then r0 else inner), t13, t14, t15, t20, t21, t22, t32, t33, (IntKind.i64.wrap (t34 + 1)), ()) (f, ())) .d) (.k (n_, inner, t13, t14, t15, t20, t21, t22, f))
def ziZ (zh : List Term → Bool × Int) (x : ttTannotationnesting0) (y : Factor × Unit) : Wy ttTannotationnesting0 (Factor × Unit) ttTannotationnesting1 := zgv zh x.1 x.2.2.1 x.2.2.2.1 x.2.2.2.2.1 x.2.2.2.2.2.1 x.2.2.2.2.2.2.1 x.2.2.2.2.2.2.2.1 x.2.2.2.2.2.2.2.2.1 x.2.2.2.2.2.2.2.2.2.1 x.2.2.2.2.2.2.2.2.2.2.1 x.2.2.2.2.2.2.2.2.2.2.2.1 y.1
def zq5 (zh : List Term → Bool × Int) (n : Nat) (n_ : Int) (inner : Int) (t13 : List Term) (t14 : Int) (t15 : Int) (t20 : List Factor) (t21 : Int) (t22 : Int) (t32 : List (List Term)) (t33 : Int) (t34 : Int) (f : Factor) : Bool × ttTannotationnesting1 := zN (ziZ zh) default n (n_, (), inner, t13, t14, t15, t20, t21, t22, t32, t33, t34, ()) (f, ())
def zqa (r : ttTannotationnesting1) : LTree ty := .done (.exit 4) [.lit (.int .i64 r.1), .ptr 256 0, .lit (.int .i64 r.2.1), .sl 42 r.2.2.1, .lit (.int .i64 r.2.2.2.1), .lit (.int .i64 r.2.2.2.2.1), .sl 50 r.2.2.2.2.2.1, .lit (.int .i64 r.2.2.2.2.2.2.1), .lit (.int .i64 r.2.2.2.2.2.2.2.1)] [.box (base.enc 50 r.2.2.2.2.2.2.2.2) false]
def zqY : LL ty ttTannotationnesting0 := za (lInt .i64) (za (zqn 256 0) (za (lInt .i64) (za (lSl 42) (za (lInt .i64) (za (lInt .i64) (za (lSl 50) (za (lInt .i64) (za (lInt .i64) (za (lSl 23) (za (lInt .i64) (za (lInt .i64) zT)))))))))))
def zrH : BL ty (Factor × Unit) := bBox (ztu (fun x => (⟨⟨x.1, ⟨x.2.1, x.2.2.1⟩, x.2.2.2.1, x.2.2.2.2.1, x.2.2.2.2.2.1, x.2.2.2.2.2.2.1, ⟨x.2.2.2.2.2.2.2.1, x.2.2.2.2.2.2.2.2.1, x.2.2.2.2.2.2.2.2.2.1⟩⟩, x.2.2.2.2.2.2.2.2.2.2.1⟩ : Factor)) (fun x => (x.Atom.Kind, x.Atom.Row.Table, x.Atom.Row.Seq, x.Atom.Args, x.Atom.Func, x.Atom.Items, x.Atom.Op, x.Atom.Bound.Kind, x.Atom.Bound.Int, x.Atom.Bound.Text, x.Exp, ())) (fun _ => rfl) (za (lInt .i64) (za (lInt .i64) (za (lInt .i64) (za (lSl 23) (za (lInt .i64) (za (lSl 52) (za (lInt .i64) (za (lInt .i64) (za (lInt .i64) (za lStr (za (lInt .i64) zT)))))))))))) false (bNil)
def zgN (zh : List Term → Bool × Int) (n_ : Int) (inner : Int) (t13 : List Term) (t14 : Int) (t15 : Int) (t20 : List Factor) (t21 : Int) (t22 : Int) (t45 : List Weighted) (t46 : Int) (t47 : Int) : Wy ttTannotationnesting2 (Unit) ttTannotationnesting3 := .i (decide (t47 < t46)) (.i (decide (0 ≤ t47) && decide (t47 < Int.ofNat t45.length)) (.bn (zh (t45.getD t47.toNat default).Ann) fun r2 => .h (n_, (if r2 > inner then r2 else inner), t13, t14, t15, t20, t21, t22, t45, t46, (IntKind.i64.wrap (t47 + 1)), ()) ()) .d) (.k (n_, inner, t13, t14, t15, t20, t21, t22))
def zi2 (zh : List Term → Bool × Int) (x : ttTannotationnesting2) (y : Unit) : Wy ttTannotationnesting2 (Unit) ttTannotationnesting3 := zgN zh x.1 x.2.1 x.2.2.1 x.2.2.2.1 x.2.2.2.2.1 x.2.2.2.2.2.1 x.2.2.2.2.2.2.1 x.2.2.2.2.2.2.2.1 x.2.2.2.2.2.2.2.2.1 x.2.2.2.2.2.2.2.2.2.1 x.2.2.2.2.2.2.2.2.2.2.1
def zrs (zh : List Term → Bool × Int) (n : Nat) (n_ : Int) (inner : Int) (t13 : List Term) (t14 : Int) (t15 : Int) (t20 : List Factor) (t21 : Int) (t22 : Int) (t45 : List Weighted) (t46 : Int) (t47 : Int) : Bool × ttTannotationnesting3 := zN (zi2 zh) default n (n_, inner, t13, t14, t15, t20, t21, t22, t45, t46, t47, ()) ()
def zqx (r : ttTannotationnesting3) : LTree ty := .done (.exit 6) [.lit (.int .i64 r.1), .lit (.int .i64 r.2.1), .sl 42 r.2.2.1, .lit (.int .i64 r.2.2.2.1), .lit (.int .i64 r.2.2.2.2.1), .sl 50 r.2.2.2.2.2.1, .lit (.int .i64 r.2.2.2.2.2.2.1), .lit (.int .i64 r.2.2.2.2.2.2.2)] []
def zrk : LL ty ttTannotationnesting2 := za (lInt .i64) (za (lInt .i64) (za (lSl 42) (za (lInt .i64) (za (lInt .i64) (za (lSl 50) (za (lInt .i64) (za (lInt .i64) (za (lSl 52) (za (lInt .i64) (za (lInt .i64) zT))))))))))
def zqI : BL ty (Unit) := bNil
def zhm (zh : List Term → Bool × Int) (n_ : Int) (t13 : List Term) (t14 : Int) (t15 : Int) (t20 : List Factor) (t21 : Int) (t22 : Int) : Wy ttTannotationnesting4 (Unit) ttTannotationnesting5 := .i (decide (t22 < t21)) (.i (decide (0 ≤ t22) && decide (t22 < Int.ofNat t20.length)) (.i ((t20.getD t22.toNat default).Atom.Kind == 0) (.h (n_, t13, t14, t15, t20, t21, (IntKind.i64.wrap (t22 + 1)), ()) ()) (.bn (zq5 zh ((n_.toNat + Int.toNat 0 + t13.length + t14.toNat + t15.toNat + t20.length + t21.toNat + t22.toNat + (t20.getD t22.toNat default).Atom.Args.length + (Int.ofNat (t20.getD t22.toNat default).Atom.Args.length).toNat + Int.toNat 0 + 1) + (FactorOf.mk (Atom.mk (t20.getD t22.toNat default).Atom.Kind (t20.getD t22.toNat default).Atom.Row (t20.getD t22.toNat default).Atom.Args (t20.getD t22.toNat default).Atom.Func (t20.getD t22.toNat default).Atom.Items (t20.getD t22.toNat default).Atom.Op (t20.getD t22.toNat default).Atom.Bound) (t20.getD t22.toNat default).Exp).Atom.Args.length + (FactorOf.mk (Atom.mk (t20.getD t22.toNat default).Atom.Kind (t20.getD t22.toNat default).Atom.Row (t20.getD t22.toNat default).Atom.Args (t20.getD t22.toNat default).Atom.Func (t20.getD t22.toNat default).Atom.Items (t20.getD t22.toNat default).Atom.Op (t20.getD t22.toNat default).Atom.Bound) (t20.getD t22.toNat default).Exp).Atom.Items.length) n_ 0 t13 t14 t15 t20 t21 t22 (t20.getD t22.toNat default).Atom.Args (Int.ofNat (t20.getD t22.toNat default).Atom.Args.length) 0 (FactorOf.mk (Atom.mk (t20.getD t22.toNat default).Atom.Kind (t20.getD t22.toNat default).Atom.Row (t20.getD t22.toNat default).Atom.Args (t20.getD t22.toNat default).Atom.Func (t20.getD t22.toNat default).Atom.Items (t20.getD t22.toNat default).Atom.Op (t20.getD t22.toNat default).Atom.Bound) (t20.getD t22.toNat default).Exp)) fun r5 => .bn (zrs zh (r5.1.toNat + r5.2.1.toNat + r5.2.2.1.length + r5.2.2.2.1.toNat + r5.2.2.2.2.1.toNat + r5.2.2.2.2.2.1.length + r5.2.2.2.2.2.2.1.toNat + r5.2.2.2.2.2.2.2.1.toNat + r5.2.2.2.2.2.2.2.2.Atom.Items.length + (Int.ofNat r5.2.2.2.2.2.2.2.2.Atom.Items.length).toNat + Int.toNat 0 + 1) r5.1 r5.2.1 r5.2.2.1 r5.2.2.2.1 r5.2.2.2.2.1 r5.2.2.2.2.2.1 r5.2.2.2.2.2.2.1 r5.2.2.2.2.2.2.2.1 r5.2.2.2.2.2.2.2.2.Atom.Items (Int.ofNat r5.2.2.2.2.2.2.2.2.Atom.Items.length) 0) fun r4 => .h ((if IntKind.i64.wrap (1 + r4.2.1) > r4.1 then IntKind.i64.wrap (1 + r4.2.1) else r4.1), (r4.2.2.1), (r4.2.2.2.1), (r4.2.2.2.2.1), (r4.2.2.2.2.2.1), (r4.2.2.2.2.2.2.1), (IntKind.i64.wrap (r4.2.2.2.2.2.2.2 + 1)), ()) ())) .d) (.k (n_, t13, t14, t15))
def zjB (zh : List Term → Bool × Int) (x : ttTannotationnesting4) (y : Unit) : Wy ttTannotationnesting4 (Unit) ttTannotationnesting5 := zhm zh x.1 x.2.1 x.2.2.1 x.2.2.2.1 x.2.2.2.2.1 x.2.2.2.2.2.1 x.2.2.2.2.2.2.1
def zsh (zh : List Term → Bool × Int) (n : Nat) (n_ : Int) (t13 : List Term) (t14 : Int) (t15 : Int) (t20 : List Factor) (t21 : Int) (t22 : Int) : Bool × ttTannotationnesting5 := zN (zjB zh) default n (n_, t13, t14, t15, t20, t21, t22, ()) ()
def zru (r : ttTannotationnesting5) : LTree ty := .done (.exit 2) [.lit (.int .i64 r.1), .sl 42 r.2.1, .lit (.int .i64 r.2.2.1), .lit (.int .i64 r.2.2.2)] []
def zsl : LL ty ttTannotationnesting4 := za (lInt .i64) (za (lSl 42) (za (lInt .i64) (za (lInt .i64) (za (lSl 50) (za (lInt .i64) (za (lInt .i64) zT))))))
def zsi : BL ty (Unit) := bNil
def zhr (zh : List Term → Bool × Int) (n_ : Int) (t13 : List Term) (t14 : Int) (t15 : Int) : Wy ttTannotationnesting6 (Unit) (Int) := .i (decide (t15 < t14)) (.i (decide (0 ≤ t15) && decide (t15 < Int.ofNat t13.length)) (.bn (zsh zh (n_.toNat + t13.length + t14.toNat + t15.toNat + (t13.getD t15.toNat default).Factors.length + (Int.ofNat (t13.getD t15.toNat default).Factors.length).toNat + Int.toNat 0 + 1) n_ t13 t14 t15 (t13.getD t15.toNat default).Factors (Int.ofNat (t13.getD t15.toNat default).Factors.length) 0) fun r8 => .h ((r8.1), (r8.2.1), (r8.2.2.1), (IntKind.i64.wrap (r8.2.2.2 + 1)), ()) ()) .d) (.k n_)
def zjF (zh : List Term → Bool × Int) (x : ttTannotationnesting6) (y : Unit) : Wy ttTannotationnesting6 (Unit) (Int) := zhr zh x.1 x.2.1 x.2.2.1 x.2.2.2.1
def zsm (zh : List Term → Bool × Int) (n : Nat) (n_ : Int) (t13 : List Term) (t14 : Int) (t15 : Int) : Bool × Int := zN (zjF zh) default n (n_, t13, t14, t15, ()) ()
def zrC (r : Int) : LTree ty := .done (.exit 0) [.lit (.int .i64 r)] []
def zsd : LL ty ttTannotationnesting6 := za (lInt .i64) (za (lSl 42) (za (lInt .i64) (za (lInt .i64) zT)))
def zso : BL ty (Unit) := bNil
def zqm (x : ttTannotationnesting0) (y : Factor × Unit) : Nat := ((Int.toNat x.1 + Int.toNat x.2.2.1 + x.2.2.2.1.length + Int.toNat x.2.2.2.2.1 + Int.toNat x.2.2.2.2.2.1 + x.2.2.2.2.2.2.1.length + Int.toNat x.2.2.2.2.2.2.2.1 + Int.toNat x.2.2.2.2.2.2.2.2.1 + x.2.2.2.2.2.2.2.2.2.1.length + Int.toNat x.2.2.2.2.2.2.2.2.2.2.1 + Int.toNat x.2.2.2.2.2.2.2.2.2.2.2.1 + 1) + y.1.Atom.Args.length + y.1.Atom.Items.length)
def zqc (x : ttTannotationnesting2) (y : Unit) : Nat := (Int.toNat x.1 + Int.toNat x.2.1 + x.2.2.1.length + Int.toNat x.2.2.2.1 + Int.toNat x.2.2.2.2.1 + x.2.2.2.2.2.1.length + Int.toNat x.2.2.2.2.2.2.1 + Int.toNat x.2.2.2.2.2.2.2.1 + x.2.2.2.2.2.2.2.2.1.length + Int.toNat x.2.2.2.2.2.2.2.2.2.1 + Int.toNat x.2.2.2.2.2.2.2.2.2.2.1 + 1)
def zrI (x : ttTannotationnesting4) (y : Unit) : Nat := (Int.toNat x.1 + x.2.1.length + Int.toNat x.2.2.1 + Int.toNat x.2.2.2.1 + x.2.2.2.2.1.length + Int.toNat x.2.2.2.2.2.1 + Int.toNat x.2.2.2.2.2.2.1 + 1)
def zrt (x : ttTannotationnesting6) (y : Unit) : Nat := (Int.toNat x.1 + x.2.1.length + Int.toNat x.2.2.1 + Int.toNat x.2.2.2.1 + 1)
def zhw (zh : List Term → Bool × Int) : Cx ty := mkCx base 64 [(120, (ziX zh))] [] [(3, [(3, .keep), (13, .keep), (14, .keep), (15, .keep)]), (6, [(3, .keep), (13, .keep), (14, .keep), (15, .keep), (20, .keep), (21, .keep), (22, .keep)]), (11, [(3, .keep), (7, .keep), (8, .keep), (13, .keep), (14, .keep), (15, .keep), (20, .keep), (21, .keep), (22, .keep), (32, .keep), (33, .keep), (34, .keep)]), (16, [(3, .keep), (8, .keep), (13, .keep), (14, .keep), (15, .keep), (20, .keep), (21, .keep), (22, .keep), (45, .keep), (46, .keep), (47, .keep)])] [(3, 1, [(3, .keep)]), (6, 3, [(3, .keep), (13, .keep), (14, .keep), (15, .keep)]), (11, 5, [(3, .keep), (7, .keep), (8, .keep), (13, .keep), (14, .keep), (15, .keep), (20, .keep), (21, .keep), (22, .keep)]), (16, 7, [(3, .keep), (8, .keep), (13, .keep), (14, .keep), (15, .keep), (20, .keep), (21, .keep), (22, .keep)])] [(11, spW zqY zrH (ziZ zh) default zqa zqm), (16, spW zrk zqI (zi2 zh) default zqx zqc), (6, spW zsl zsi (zjB zh) default zru zrI), (3, spW zsd zso (zjF zh) default zrC zrt)] []
theorem zzC (zh : List Term → Bool × Int) : zbr (zhw zh) (lp (body Tryz.f120) 2) := zZ (id := 11) (V := zqY) (B := zrH) (W := ziZ zh) (z := default) (tr := zqa) (m := zqm)
theorem zzA (zh : List Term → Bool × Int) : zbr (zhw zh) (lp (body Tryz.f120) 3) := zZ (id := 16) (V := zrk) (B := zqI) (W := zi2 zh) (z := default) (tr := zqx) (m := zqc)
theorem zzX (zh : List Term → Bool × Int) : zbr (zhw zh) (lp (body Tryz.f120) 1) := zZ (id := 6) (V := zsl) (B := zsi) (W := zjB zh) (z := default) (tr := zru) (m := zrI)
theorem zz7 (zh : List Term → Bool × Int) : zbr (zhw zh) (lp (body Tryz.f120) 0) := zZ (id := 3) (V := zsd) (B := zso) (W := zjF zh) (z := default) (tr := zrC) (m := zrt)
def znC (zh : List Term → Bool × Int) (a : List Term) : Wy0 (Int) := .bn (zsm zh (Int.toNat 0 + a.length + (Int.ofNat a.length).toNat + Int.toNat 0 + 1) 0 a (Int.ofNat a.length) 0) fun r10 => .k r10
def zlE (zh : List Term → Bool × Int) (a : List Term) : Bool × Int := (znC zh a).fin default
theorem zys (zh : List Term → Bool × Int) (zCt : Sound Tryz.prog base 120 (ziX zh)) : Sound Tryz.prog base 120 (ziX (zlE zh)) :=
 zF (cx' := (zhw zh)) zR zB zL (zG ⟨zCt, trivial⟩) Tryz.call120 Tryz.func120 (c := body Tryz.f120) (by kernel_rfl) (zj (l := [lp (body Tryz.f120) 0, lp (body Tryz.f120) 1, lp (body Tryz.f120) 2, lp (body Tryz.f120) 3]) (by kernel_rfl) ⟨zz7 zh, zzX zh, zzC zh, zzA zh, trivial⟩) (sg := ⟨[.pure], []⟩) (A := zvE) (res := zs0) (W := fun x => znC zh x.1) (z := default)
def zGI : Nat → (List Term → Bool × Int)
 | 0 => fun _ => (false, default)
 | n + 1 => zlE (zGI n)
def zeT (n : Nat) : List Term → Bool × Int := zGI n
theorem zBg (n : Nat) : zeT (n + 1) = zlE (zeT n) := rfl
theorem zEr : ∀ n, Sound Tryz.prog base 120 (ziX (zeT n))
 | 0 => zbB Tryz.call120 (fun _ => rfl)
 | n + 1 => by
  have ih := zEr n
  exact zys _ (ih)
def zrj : List Term → Bool × Int := zeT 1000
def annotation_nesting_spec : Ab.Spec ty := ziX zrj
theorem zAy : Sound Tryz.prog base 120 annotation_nesting_spec := (zEr 1000)
def zyA : Cx ty := mkCx base 13 [] [] [] [] [] []
def zlw (f : Factor) : Wy0 (Bool) := .i (decide (f.Exp > 64)) (.k true) (.k (decide (Int.ofNat f.Atom.Items.length > 1024)))
def zeR (f : Factor) : Bool × Bool := (zlw f).fin default
def zoG (r : Bool) : ARes ty := ⟨[.pure (.lit (.bool r))], []⟩
def zqr : AL base (Factor × Unit) := zf (zg (vAgg 50)) aNil
def zg7 : Ab.Spec ty := zr zqr fun x => ((zeR x.1).1, zoG (zeR x.1).2)
theorem zju : Sound Tryz.prog base 122 zg7 :=
 zF (cx' := zyA) zR zB zL (zG trivial) Tryz.call122 Tryz.func122 (c := body Tryz.f122) (by kernel_rfl) (zj (l := []) (by kernel_rfl) trivial) (sg := ⟨[.pure], []⟩) (A := zqr) (res := zoG) (W := fun x => zlw x.1) (z := default)
abbrev ttTslicesIndexFuncLapiFactorapiFactorwi0 := List Factor × Unit × Int × Int × Unit
def zhH (s : List Factor) (t7 : Int) (t8 : Int) : Wy ttTslicesIndexFuncLapiFactorapiFactorwi0 (Unit) (Int ⊕ Unit) := .i (decide (t8 < t7)) (.i (decide (0 ≤ t8) && decide (t8 < Int.ofNat s.length)) (.bn (zeR (FactorOf.mk (Atom.mk (s.getD t8.toNat default).Atom.Kind (s.getD t8.toNat default).Atom.Row (s.getD t8.toNat default).Atom.Args (s.getD t8.toNat default).Atom.Func (s.getD t8.toNat default).Atom.Items (s.getD t8.toNat default).Atom.Op (s.getD t8.toNat default).Atom.Bound) (s.getD t8.toNat default).Exp)) fun r0 => .i (r0) (.k (.inl t8)) (.h (s, (), t7, (IntKind.i64.wrap (t8 + 1)), ()) ())) .d) (.k (.inr ()))
def zb1 (x : ttTslicesIndexFuncLapiFactorapiFactorwi0) (y : Unit) : Wy ttTslicesIndexFuncLapiFactorapiFactorwi0 (Unit) (Int ⊕ Unit) := zhH x.1 x.2.2.1 x.2.2.2.1
def zhM (n : Nat) (s : List Factor) (t7 : Int) (t8 : Int) : Bool × (Int ⊕ Unit) := zN (zb1) (.inl default) n (s, (), t7, t8, ()) ()
def zhd (r : Int ⊕ Unit) : LTree ty := .ite (isL r) (.done .ret [.lit (.int .i64 (getL r))] []) (.done (.exit 0) [] [])
def zhK : LL ty ttTslicesIndexFuncLapiFactorapiFactorwi0 := za (lSl 50) (za (lFn 122 (zT)) (za (lInt .i64) (za (lInt .i64) zT)))
def zhJ : BL ty (Unit) := bNil
def zhu (x : ttTslicesIndexFuncLapiFactorapiFactorwi0) (y : Unit) : Nat := (x.1.length + Int.toNat x.2.2.1 + Int.toNat x.2.2.2.1 + 1)
def zhL : Cx ty := mkCx base 19 [(122, zg7)] [] [(2, [(0, .keep), (1, .keep), (7, .keep), (8, .keep)])] [(2, 1, []), (2, 0, [(4, .keep)])] [(2, spW zhK zhJ (zb1) (.inl default) zhd zhu)] []
theorem zmT : zbr zhL (lp (body Tryz.f150) 0) := zZ (id := 2) (V := zhK) (B := zhJ) (W := zb1) (z := .inl default) (tr := zhd) (m := zhu)
def zd7 (s : List Factor) : Wy0 (Int) := .bn (zhM (s.length + (Int.ofNat s.length).toNat + Int.toNat 0 + 1) s (Int.ofNat s.length) 0) fun r2 => .i (isL r2) (.k (getL r2)) (.k (-1 : Int))
def zcg (s : List Factor) : Bool × Int := (zd7 s).fin default
def zhn (r : Int) : ARes ty := ⟨[.pure (.lit (.int .i64 r))], []⟩
def zhW : AL base (List Factor × Unit × Unit) := zf (zg (vSl 50)) (zf (zg (vFn 122 vNil)) aNil)
def zdT : Ab.Spec ty := zr zhW fun x => ((zcg x.1).1, zhn (zcg x.1).2)
theorem zgy : Sound Tryz.prog base 150 zdT :=
 zF (cx' := zhL) zR zB zL (zG ⟨zju, trivial⟩) Tryz.call150 Tryz.func150 (c := body Tryz.f150) (by kernel_rfl) (zj (l := [lp (body Tryz.f150) 0]) (by kernel_rfl) ⟨zmT, trivial⟩) (sg := ⟨[.pure], []⟩) (A := zhW) (res := zhn) (W := fun x => zd7 x.1) (z := default)
def zmx : Cx ty := mkCx base 9 [(122, zg7), (150, (zFz zdT zdT))] [] [] [] [] []
def zdV (s : List Factor) : Wy0 (Bool) := .bn (zcg s) fun r0 => .k (decide (r0 ≥ 0))
def zb2 (s : List Factor) : Bool × Bool := (zdV s).fin default
def zf2 (r : Bool) : ARes ty := ⟨[.pure (.lit (.bool r))], []⟩
def zg3 : AL base (List Factor × Unit × Unit) := zf (zg (vSl 50)) (zf (zg (vFn 122 vNil)) aNil)
def zfF : Ab.Spec ty := zr zg3 fun x => ((zb2 x.1).1, zf2 (zb2 x.1).2)
theorem zlj : Sound Tryz.prog base 107 zfF :=
 zF (cx' := zmx) zR zB zL (zG ⟨zju, (Sound.or (zgy) (zgy)), trivial⟩) Tryz.call107 Tryz.func107 (c := body Tryz.f107) (by kernel_rfl) (zj (l := []) (by kernel_rfl) trivial) (sg := ⟨[.pure], []⟩) (A := zg3) (res := zf2) (W := fun x => zdV x.1) (z := default)
def zBl : Cx ty := mkCx base 12 [(107, zfF), (122, zg7)] [] [] [] [] []
def znt (t : Term) : Wy0 (Bool) := .i (decide (Int.ofNat t.Factors.length > 64)) (.k true) (.bn (zb2 t.Factors) fun r0 => .k r0)
def zjg (t : Term) : Bool × Bool := (znt t).fin default
def zq4 (r : Bool) : ARes ty := ⟨[.pure (.lit (.bool r))], []⟩
def zsV : AL base (Term × Unit) := zf (zg (vAgg 42)) aNil
def ziw : Ab.Spec ty := zr zsV fun x => ((zjg x.1).1, zq4 (zjg x.1).2)
theorem zk1 : Sound Tryz.prog base 121 ziw :=
 zF (cx' := zBl) zR zB zL (zG ⟨zlj, zju, trivial⟩) Tryz.call121 Tryz.func121 (c := body Tryz.f121) (by kernel_rfl) (zj (l := []) (by kernel_rfl) trivial) (sg := ⟨[.pure], []⟩) (A := zsV) (res := zq4) (W := fun x => znt x.1) (z := default)
abbrev ttTslicesIndexFuncapiAnnotationapiTermwi0 := List Term × Unit × Int × Int × Unit
def zmU (s : List Term) (t7 : Int) (t8 : Int) : Wy ttTslicesIndexFuncapiAnnotationapiTermwi0 (Unit) (Int ⊕ Unit) := .i (decide (t8 < t7)) (.i (decide (0 ≤ t8) && decide (t8 < Int.ofNat s.length)) (.bn (zjg (s.getD t8.toNat default)) fun r0 => .i (r0) (.k (.inl t8)) (.h (s, (), t7, (IntKind.i64.wrap (t8 + 1)), ()) ())) .d) (.k (.inr ()))
def zd3 (x : ttTslicesIndexFuncapiAnnotationapiTermwi0) (y : Unit) : Wy ttTslicesIndexFuncapiAnnotationapiTermwi0 (Unit) (Int ⊕ Unit) := zmU x.1 x.2.2.1 x.2.2.2.1
def zmR (n : Nat) (s : List Term) (t7 : Int) (t8 : Int) : Bool × (Int ⊕ Unit) := zN (zd3) (.inl default) n (s, (), t7, t8, ()) ()
def zgY (r : Int ⊕ Unit) : LTree ty := .ite (isL r) (.done .ret [.lit (.int .i64 (getL r))] []) (.done (.exit 0) [] [])
def zhp : LL ty ttTslicesIndexFuncapiAnnotationapiTermwi0 := za (lSl 42) (za (lFn 121 (zT)) (za (lInt .i64) (za (lInt .i64) zT)))
def zhh : BL ty (Unit) := bNil
def zgV (x : ttTslicesIndexFuncapiAnnotationapiTermwi0) (y : Unit) : Nat := (x.1.length + Int.toNat x.2.2.1 + Int.toNat x.2.2.2.1 + 1)
def zhy : Cx ty := mkCx base 19 [(121, ziw)] [] [(2, [(0, .keep), (1, .keep), (7, .keep), (8, .keep)])] [(2, 1, []), (2, 0, [(4, .keep)])] [(2, spW zhp zhh (zd3) (.inl default) zgY zgV)] []
theorem zmK : zbr zhy (lp (body Tryz.f149) 0) := zZ (id := 2) (V := zhp) (B := zhh) (W := zd3) (z := .inl default) (tr := zgY) (m := zgV)
def zhD (s : List Term) : Wy0 (Int) := .bn (zmR (s.length + (Int.ofNat s.length).toNat + Int.toNat 0 + 1) s (Int.ofNat s.length) 0) fun r2 => .i (isL r2) (.k (getL r2)) (.k (-1 : Int))
def zcZ (s : List Term) : Bool × Int := (zhD s).fin default
def zg0 (r : Int) : ARes ty := ⟨[.pure (.lit (.int .i64 r))], []⟩
def zhN : AL base (List Term × Unit × Unit) := zf (zg (vSl 42)) (zf (zg (vFn 121 vNil)) aNil)
def zdH : Ab.Spec ty := zr zhN fun x => ((zcZ x.1).1, zg0 (zcZ x.1).2)
theorem zgk : Sound Tryz.prog base 149 zdH :=
 zF (cx' := zhy) zR zB zL (zG ⟨zk1, trivial⟩) Tryz.call149 Tryz.func149 (c := body Tryz.f149) (by kernel_rfl) (zj (l := [lp (body Tryz.f149) 0]) (by kernel_rfl) ⟨zmK, trivial⟩) (sg := ⟨[.pure], []⟩) (A := zhN) (res := zg0) (W := fun x => zhD x.1) (z := default)
def zl1 : Cx ty := mkCx base 9 [(121, ziw), (149, (zFz zdH zdH))] [] [] [] [] []
def zdM (s : List Term) : Wy0 (Bool) := .bn (zcZ s) fun r0 => .k (decide (r0 ≥ 0))
def zbQ (s : List Term) : Bool × Bool := (zdM s).fin default
def zfK (r : Bool) : ARes ty := ⟨[.pure (.lit (.bool r))], []⟩
def zgP : AL base (List Term × Unit × Unit) := zf (zg (vSl 42)) (zf (zg (vFn 121 vNil)) aNil)
def zfw : Ab.Spec ty := zr zgP fun x => ((zbQ x.1).1, zfK (zbQ x.1).2)
theorem zk3 : Sound Tryz.prog base 105 zfw :=
 zF (cx' := zl1) zR zB zL (zG ⟨zk1, (Sound.or (zgk) (zgk)), trivial⟩) Tryz.call105 Tryz.func105 (c := body Tryz.f105) (by kernel_rfl) (zj (l := []) (by kernel_rfl) trivial) (sg := ⟨[.pure], []⟩) (A := zgP) (res := zfK) (W := fun x => zdM x.1) (z := default)
def zDT : Cx ty := mkCx base 19 [(47, annotation_Size_spec), (105, zfw), (120, annotation_nesting_spec), (121, ziw)] [] [] [] [] []
def zp0 (a : List Term) : Wy0 (Bool) := .i (decide (Int.ofNat a.length > 512)) (.k false) (.bn (zrj a) fun r2 => .i (decide (r2 > 8)) (.k false) (.bn (zu5 a) fun r1 => .i (decide (r1 > 4096)) (.k false) (.bn (zbQ a) fun r0 => .k (!r0))))
def zjk (a : List Term) : Bool × Bool := (zp0 a).fin default
def zt7 (r : Bool) : ARes ty := ⟨[.pure (.lit (.bool r))], []⟩
def zwn : AL base (List Term × Unit) := zf (zg (vSl 42)) aNil
def zns : Ab.Spec ty := zr zwn fun x => ((zjk x.1).1, zt7 (zjk x.1).2)
theorem zr3 : Sound Tryz.prog base 70 zns :=
 zF (cx' := zDT) zR zB zL (zG ⟨zCI, zk3, zAy, zk1, trivial⟩) Tryz.call70 Tryz.func70 (c := body Tryz.f70) (by kernel_rfl) (zj (l := []) (by kernel_rfl) trivial) (sg := ⟨[.pure], []⟩) (A := zwn) (res := zt7) (W := fun x => zp0 x.1) (z := default)
abbrev ttTannotationValid0 := List Term × Unit × List Term × Int × Int × List Factor × Int × Int × Unit
abbrev ttTannotationValid1 := Bool ⊕ (List Term × List Term × Int × Int)
abbrev ttTannotationValid2 := List Term × List Term × Int × Int × Unit
def zie (zp : Atom → Bool × Bool) (a : List Term) (t10 : List Term) (t11 : Int) (t12 : Int) (t40 : List Factor) (t41 : Int) (t42 : Int) (t : Term) : Wy ttTannotationValid0 (Term × Unit) ttTannotationValid1 := .i (decide (t42 < t41)) (.i (decide (0 ≤ t42) && decide (t42 < Int.ofNat t40.length)) (.i (decide ((t40.getD t42.toNat default).Exp < 1)) (.k (.inl false)) (.bn (zez (Atom.mk (t40.getD t42.toNat default).Atom.Kind (t40.getD t42.toNat default).Atom.Row (t40.getD t42.toNat default).Atom.Args (t40.getD t42.toNat default).Atom.Func (t40.getD t42.toNat default).Atom.Items (t40.getD t42.toNat default).Atom.Op (t40.getD t42.toNat default).Atom.Bound)) fun r6 => .i (r6) (.i ((t40.getD t42.toNat default).Exp != 1) (.k (.inl false)) (.i (decide (t42 > 0)) (.i (decide (0 ≤ IntKind.i64.wrap (t42 - 1)) && decide (IntKind.i64.wrap (t42 - 1) < Int.ofNat t.Factors.length)) (.bn (zht (Atom.mk (t.Factors.getD (IntKind.i64.wrap (t42 - 1)).toNat default).Atom.Kind (t.Factors.getD (IntKind.i64.wrap (t42 - 1)).toNat default).Atom.Row (t.Factors.getD (IntKind.i64.wrap (t42 - 1)).toNat default).Atom.Args (t.Factors.getD (IntKind.i64.wrap (t42 - 1)).toNat default).Atom.Func (t.Factors.getD (IntKind.i64.wrap (t42 - 1)).toNat default).Atom.Items (t.Factors.getD (IntKind.i64.wrap (t42 - 1)).toNat default).Atom.Op (t.Factors.getD (IntKind.i64.wrap (t42 - 1)).toNat default).Atom.Bound) (Atom.mk (t40.getD t42.toNat default).Atom.Kind (t40.getD t42.toNat default).Atom.Row (t40.getD t42.toNat default).Atom.Args (t40.getD t42.toNat default).Atom.Func (t40.getD t42.toNat default).Atom.Items (t40.getD t42.toNat default).Atom.Op (t40.getD t42.toNat default).Atom.Bound)) fun r1 => .i (decide (r1 ≥ 0)) (.k (.inl false)) (.bn (zp (Atom.mk (t40.getD t42.toNat default).Atom.Kind (t40.getD t42.toNat default).Atom.Row (t40.getD t42.toNat default).Atom.Args (t40.getD t42.toNat default).Atom.Func (t40.getD t42.toNat default).Atom.Items (t40.getD t42.toNat default).Atom.Op (t40.getD t42.toNat default).Atom.Bound)) fun r0 => .i (!r0) (.k (.inl false)) (.h (a, (), t10, t11, t12, t40, t41, (IntKind.i64.wrap (t42 + 1)), ()) (t, ())))) .d) (.bn (zp (Atom.mk (t40.getD t42.toNat default).Atom.Kind (t40.getD t42.toNat default).Atom.Row (t40.getD t42.toNat default).Atom.Args (t40.getD t42.toNat default).Atom.Func (t40.getD t42.toNat default).Atom.Items (t40.getD t42.toNat default).Atom.Op (t40.getD t42.toNat default).Atom.Bound)) fun r2 => .i (!r2) (.k (.inl false)) (.h (a, (), t10, t11, t12, t40, t41, (IntKind.i64.wrap (t42 + 1)), ()) (t, ()))))) (.i (decide (t42 > 0)) (.i (decide (0 ≤ IntKind.i64.wrap (t42 - 1)) && decide (IntKind.i64.wrap (t42 - 1) < Int.ofNat t.Factors.length)) (.bn (zht (Atom.mk (t.Factors.getD (IntKind.i64.wrap (t42 - 1)).toNat default).Atom.Kind (t.Factors.getD (IntKind.i64.wrap (t42 - 1)).toNat default).Atom.Row (t.Factors.getD (IntKind.i64.wrap (t42 - 1)).toNat default).Atom.Args (t.Factors.getD (IntKind.i64.wrap (t42 - 1)).toNat default).Atom.Func (t.Factors.getD (IntKind.i64.wrap (t42 - 1)).toNat default).Atom.Items (t.Factors.getD (IntKind.i64.wrap (t42 - 1)).toNat default).Atom.Op (t.Factors.getD (IntKind.i64.wrap (t42 - 1)).toNat default).Atom.Bound) (Atom.mk (t40.getD t42.toNat default).Atom.Kind (t40.getD t42.toNat default).Atom.Row (t40.getD t42.toNat default).Atom.Args (t40.getD t42.toNat default).Atom.Func (t40.getD t42.toNat default).Atom.Items (t40.getD t42.toNat default).Atom.Op (t40.getD t42.toNat default).Atom.Bound)) fun r4 => .i (decide (r4 ≥ 0)) (.k (.inl false)) (.bn (zp (Atom.mk (t40.getD t42.toNat default).Atom.Kind (t40.getD t42.toNat default).Atom.Row (t40.getD t42.toNat default).Atom.Args (t40.getD t42.toNat default).Atom.Func (t40.getD t42.toNat default).Atom.Items (t40.getD t42.toNat default).Atom.Op (t40.getD t42.toNat default).Atom.Bound)) fun r3 => .i (!r3) (.k (.inl false)) (.h (a, (), t10, t11, t12, t40, t41, (IntKind.i64.wrap (t42 + 1)), ()) (t, ())))) .d) (.bn (zp (Atom.mk (t40.getD t42.toNat default).Atom.Kind (t40.getD t42.toNat default).Atom.Row (t40.getD t42.toNat default).Atom.Args (t40.getD t42.toNat default).Atom.Func (t40.getD t42.toNat default).Atom.Items (t40.getD t42.toNat default).Atom.Op (t40.getD t42.toNat default).Atom.Bound)) fun r5 => .i (!r5) (.k (.inl false)) (.h (a, (), t10, t11, t12, t40, t41, (IntKind.i64.wrap (t42 + 1)), ()) (t, ())))))) .d) (.k (.inr (a, t10, t11, t12)))
def zkS (zp : Atom → Bool × Bool) (x : ttTannotationValid0) (y : Term × Unit) : Wy ttTannotationValid0 (Term × Unit) ttTannotationValid1 := zie zp x.1 x.2.2.1 x.2.2.2.1 x.2.2.2.2.1 x.2.2.2.2.2.1 x.2.2.2.2.2.2.1 x.2.2.2.2.2.2.2.1 y.1
def zob (zp : Atom → Bool × Bool) (n : Nat) (a : List Term) (t10 : List Term) (t11 : Int) (t12 : Int) (t40 : List Factor) (t41 : Int) (t42 : Int) (t : Term) : Bool × ttTannotationValid1 := zN (zkS zp) (.inl default) n (a, (), t10, t11, t12, t40, t41, t42, ()) (t, ())
def ztm (r : ttTannotationValid1) : LTree ty := .ite (isL r) (.done .ret [.lit (.bool (getL r))] []) (.done (.exit 2) [.sl 42 (getR r).1, .sl 42 (getR r).2.1, .lit (.int .i64 (getR r).2.2.1), .lit (.int .i64 (getR r).2.2.2)] [])
def ztZ : LL ty ttTannotationValid0 := za (lSl 42) (za (zqn 340 0) (za (lSl 42) (za (lInt .i64) (za (lInt .i64) (za (lSl 50) (za (lInt .i64) (za (lInt .i64) zT)))))))
def zuv : BL ty (Term × Unit) := bBox (ztu (fun x => (⟨x.1, x.2.1⟩ : Term)) (fun x => (x.Coeff, x.Factors, ())) (fun _ => rfl) (za (lInt .i64) (za (lSl 50) zT))) false (bNil)
def zim (zp : Atom → Bool × Bool) (a : List Term) (t10 : List Term) (t11 : Int) (t12 : Int) : Wy ttTannotationValid2 (Unit) (Bool ⊕ Unit) := .i (decide (t12 < t11)) (.i (decide (0 ≤ t12) && decide (t12 < Int.ofNat t10.length)) (.i (decide ((t10.getD t12.toNat default).Coeff < 1)) (.k (.inl false)) (.i (decide ((t10.getD t12.toNat default).Coeff > 1152921504606846976)) (.k (.inl false)) (.i (decide (t12 > 0)) (.i (decide (0 ≤ IntKind.i64.wrap (t12 - 1)) && decide (IntKind.i64.wrap (t12 - 1) < Int.ofNat a.length)) (.bn (zbz (a.getD (IntKind.i64.wrap (t12 - 1)).toNat default) (t10.getD t12.toNat default)) fun r15 => .i (decide (r15 ≥ 0)) (.k (.inl false)) (.bn (zob zp (a.length + t10.length + t11.toNat + t12.toNat + (t10.getD t12.toNat default).Factors.length + (Int.ofNat (t10.getD t12.toNat default).Factors.length).toNat + Int.toNat 0 + (t10.getD t12.toNat default).Factors.length + 1) a t10 t11 t12 (t10.getD t12.toNat default).Factors (Int.ofNat (t10.getD t12.toNat default).Factors.length) 0 (t10.getD t12.toNat default)) fun r14 => .i (isL r14) (.k (.inl (getL r14))) (.h ((getR r14).1, (getR r14).2.1, (getR r14).2.2.1, (IntKind.i64.wrap ((getR r14).2.2.2 + 1)), ()) ()))) .d) (.bn (zob zp (a.length + t10.length + t11.toNat + t12.toNat + (t10.getD t12.toNat default).Factors.length + (Int.ofNat (t10.getD t12.toNat default).Factors.length).toNat + Int.toNat 0 + (t10.getD t12.toNat default).Factors.length + 1) a t10 t11 t12 (t10.getD t12.toNat default).Factors (Int.ofNat (t10.getD t12.toNat default).Factors.length) 0 (t10.getD t12.toNat default)) fun r16 => .i (isL r16) (.k (.inl (getL r16))) (.h ((getR r16).1, (getR r16).2.1, (getR r16).2.2.1, (IntKind.i64.wrap ((getR r16).2.2.2 + 1)), ()) ()))))) .d) (.k (.inr ()))
def zkO (zp : Atom → Bool × Bool) (x : ttTannotationValid2) (y : Unit) : Wy ttTannotationValid2 (Unit) (Bool ⊕ Unit) := zim zp x.1 x.2.1 x.2.2.1 x.2.2.2.1
def zt5 (zp : Atom → Bool × Bool) (n : Nat) (a : List Term) (t10 : List Term) (t11 : Int) (t12 : Int) : Bool × (Bool ⊕ Unit) := zN (zkO zp) (.inl default) n (a, t10, t11, t12, ()) ()
def zsN (r : Bool ⊕ Unit) : LTree ty := .ite (isL r) (.done .ret [.lit (.bool (getL r))] []) (.done (.exit 0) [] [])
def zua : LL ty ttTannotationValid2 := za (lSl 42) (za (lSl 42) (za (lInt .i64) (za (lInt .i64) zT)))
def ztW : BL ty (Unit) := bNil
def zsO (x : ttTannotationValid0) (y : Term × Unit) : Nat := (x.1.length + x.2.2.1.length + Int.toNat x.2.2.2.1 + Int.toNat x.2.2.2.2.1 + x.2.2.2.2.2.1.length + Int.toNat x.2.2.2.2.2.2.1 + Int.toNat x.2.2.2.2.2.2.2.1 + y.1.Factors.length + 1)
def ztb (x : ttTannotationValid2) (y : Unit) : Nat := (x.1.length + x.2.1.length + Int.toNat x.2.2.1 + Int.toNat x.2.2.2.1 + 1)
def zou (zp : Atom → Bool × Bool) : Cx ty := mkCx base 85 [(70, zns), (71, annotation_compareLists_spec), (72, zh6), (73, annotation_compareAtoms_spec), (74, (zkc zp))] [] [(4, [(0, .keep), (10, .keep), (11, .keep), (12, .keep)]), (9, [(0, .keep), (4, .keep), (10, .keep), (11, .keep), (12, .keep), (40, .keep), (41, .keep), (42, .keep)])] [(4, 1, []), (4, 0, [(2, .keep)]), (9, 3, [(0, .keep), (10, .keep), (11, .keep), (12, .keep)]), (9, 0, [(2, .keep)])] [(9, spW ztZ zuv (zkS zp) (.inl default) ztm zsO), (4, spW zua ztW (zkO zp) (.inl default) zsN ztb)] []
theorem zB5 (zp : Atom → Bool × Bool) : zbr (zou zp) (lp (body Tryz.f31) 1) := zZ (id := 9) (V := ztZ) (B := zuv) (W := zkS zp) (z := .inl default) (tr := ztm) (m := zsO)
theorem zB3 (zp : Atom → Bool × Bool) : zbr (zou zp) (lp (body Tryz.f31) 0) := zZ (id := 4) (V := zua) (B := ztW) (W := zkO zp) (z := .inl default) (tr := zsN) (m := ztb)
def zpd (zp : Atom → Bool × Bool) (a : List Term) : Wy0 (Bool) := .bn (zjk a) fun r21 => .i (!r21) (.k false) (.bn (zt5 zp (a.length + a.length + (Int.ofNat a.length).toNat + Int.toNat 0 + 1) a a (Int.ofNat a.length) 0) fun r20 => .i (isL r20) (.k (getL r20)) (.k true))
def zkB (zp : Atom → Bool × Bool) (a : List Term) : Bool × Bool := (zpd zp a).fin default
theorem zzP (zp : Atom → Bool × Bool) (zzZ : Sound Tryz.prog base 74 (zkc zp)) : Sound Tryz.prog base 31 (zgu (zkB zp)) :=
 zF (cx' := (zou zp)) zR zB zL (zG ⟨zr3, zjy, zkp, znN, zzZ, trivial⟩) Tryz.call31 Tryz.func31 (c := body Tryz.f31) (by kernel_rfl) (zj (l := [lp (body Tryz.f31) 0, lp (body Tryz.f31) 1]) (by kernel_rfl) ⟨zB3 zp, zB5 zp, trivial⟩) (sg := ⟨[.pure], []⟩) (A := zx9) (res := zvi) (W := fun x => zpd zp x.1) (z := default)
def zEI : Cx ty := mkCx base 9 [(38, annotation_Compare_spec)] [] [] [] [] []
def zrz (a : List Term) (b : List Term) : Wy0 (Bool) := .bn (zrb a b) fun r0 => .k (r0 == 0)
def zb0 (a : List Term) (b : List Term) : Bool × Bool := (zrz a b).fin default
def zvc (r : Bool) : ARes ty := ⟨[.pure (.lit (.bool r))], []⟩
def zxS : AL base (List Term × List Term × Unit) := zf (zg (vSl 42)) (zf (zg (vSl 42)) aNil)
def zkM : Ab.Spec ty := zr zxS fun x => ((zb0 x.1 x.2.1).1, zvc (zb0 x.1 x.2.1).2)
theorem znx : Sound Tryz.prog base 32 zkM :=
 zF (cx' := zEI) zR zB zL (zG ⟨zA7, trivial⟩) Tryz.call32 Tryz.func32 (c := body Tryz.f32) (by kernel_rfl) (zj (l := []) (by kernel_rfl) trivial) (sg := ⟨[.pure], []⟩) (A := zxS) (res := zvc) (W := fun x => zrz x.1 x.2.1) (z := default)
def zIN : Cx ty := mkCx base 36 [] [] [] [] [] []
def zyy (v : Value) : Wy0 (Bool) := .i (v.Kind == 0) (.k (v.Text.toList == (ByteArray.mk #[]).toList)) (.i (v.Kind == 1) (.i (v.Int == 0) (.k (decide (Int.ofNat v.Text.size ≤ 255))) (.k false)) (.i (v.Kind == 2) (.i (v.Int == 0) (.k (v.Text.toList == (ByteArray.mk #[]).toList)) (.i (v.Int == 1) (.k (v.Text.toList == (ByteArray.mk #[]).toList)) (.k false))) (.k false)))
def znw (v : Value) : Bool × Bool := (zyy v).fin default
def zBC (r : Bool) : ARes ty := ⟨[.pure (.lit (.bool r))], []⟩
def zD9 : AL base (Value × Unit) := zf (zg (vAgg 46)) aNil
def zo5 : Ab.Spec ty := zr zD9 fun x => ((znw x.1).1, zBC (znw x.1).2)
theorem zsG : Sound Tryz.prog base 133 zo5 :=
 zF (cx' := zIN) zR zB zL (zG trivial) Tryz.call133 Tryz.func133 (c := body Tryz.f133) (by kernel_rfl) (zj (l := []) (by kernel_rfl) trivial) (sg := ⟨[.pure], []⟩) (A := zD9) (res := zBC) (W := fun x => zyy x.1) (z := default)
def zAM : Cx ty := mkCx base 27 [(133, zo5)] [] [] [] [] []
def zmV (w : Weighted) (p1 : Value) (p2 : Int) : Wy0 (Bool) := .bn (znw w.Value) fun r0 => .i (!r0) (.k true) (.i (w.Value.Kind != p1.Kind) (.k true) (.i (p2 == 0) (.k (w.Value.Int != 1)) (.k false)))
def zgj (w : Weighted) (p1 : Value) (p2 : Int) : Bool × Bool := (zmV w p1 p2).fin default
def zp9 (r : Bool) : ARes ty := ⟨[.pure (.lit (.bool r))], []⟩
def zr8 : AL base (Weighted × Value × (Int × Unit) × Unit) := zf (zg (vAgg 52)) (zf (zg (zHF 46)) (zf (zg (vBox (zrN (vInt .i64) vNil))) aNil))
def zh1 : Ab.Spec ty := zr zr8 fun x => ((zgj x.1 x.2.1 x.2.2.1.1).1, zp9 (zgj x.1 x.2.1 x.2.2.1.1).2)
theorem zko : Sound Tryz.prog base 134 zh1 :=
 zF (cx' := zAM) zR zB zL (zG ⟨zsG, trivial⟩) Tryz.call134 Tryz.func134 (c := body Tryz.f134) (by kernel_rfl) (zj (l := []) (by kernel_rfl) trivial) (sg := ⟨[.pure], []⟩) (A := zr8) (res := zp9) (W := fun x => zmV x.1 x.2.1 x.2.2.1.1) (z := default)
abbrev ttTslicesIndexFuncLapiWeightedapiWeightedfi0 := List Weighted × (Value × (Int × Unit) × Unit) × Int × Int × Unit
def zl0 (s : List Weighted) (f_0 : Value) (f_1 : Int) (t7 : Int) (t8 : Int) : Wy ttTslicesIndexFuncLapiWeightedapiWeightedfi0 (Unit) (Int ⊕ Unit) := .i (decide (t8 < t7)) (.i (decide (0 ≤ t8) && decide (t8 < Int.ofNat s.length)) (.bn (zgj (s.getD t8.toNat default) f_0 f_1) fun r0 => .i (r0) (.k (.inl t8)) (.h (s, (f_0, (f_1, ()), ()), t7, (IntKind.i64.wrap (t8 + 1)), ()) ())) .d) (.k (.inr ()))
def zdA (x : ttTslicesIndexFuncLapiWeightedapiWeightedfi0) (y : Unit) : Wy ttTslicesIndexFuncLapiWeightedapiWeightedfi0 (Unit) (Int ⊕ Unit) := zl0 x.1 x.2.1.1 x.2.1.2.1.1 x.2.2.1 x.2.2.2.1
def zlY (n : Nat) (s : List Weighted) (f_0 : Value) (f_1 : Int) (t7 : Int) (t8 : Int) : Bool × (Int ⊕ Unit) := zN (zdA) (.inl default) n (s, (f_0, (f_1, ()), ()), t7, t8, ()) ()
def zfO (r : Int ⊕ Unit) : LTree ty := .ite (isL r) (.done .ret [.lit (.int .i64 (getL r))] []) (.done (.exit 0) [] [])
def zge : LL ty ttTslicesIndexFuncLapiWeightedapiWeightedfi0 := za (lSl 52) (za (lFn 134 (za (zxp (ztu (fun x => (⟨x.1, x.2.1, x.2.2.1⟩ : Value)) (fun x => (x.Kind, x.Int, x.Text, ())) (fun _ => rfl) (za (lInt .i64) (za (lInt .i64) (za lStr zT)))) 0) (za (zxp (za (lInt .i64) zT) 0) zT))) (za (lInt .i64) (za (lInt .i64) zT)))
def zgi : BL ty (Unit) := bNil
def zfE (x : ttTslicesIndexFuncLapiWeightedapiWeightedfi0) (y : Unit) : Nat := (x.1.length + Int.toNat x.2.1.2.1.1 + Int.toNat x.2.2.1 + Int.toNat x.2.2.2.1 + 1)
def zgb : Cx ty := mkCx base 19 [(134, zh1)] [] [(2, [(0, .keep), (1, .keep), (7, .keep), (8, .keep)])] [(2, 1, []), (2, 0, [(4, .keep)])] [(2, spW zge zgi (zdA) (.inl default) zfO zfE)] []
theorem zlA : zbr zgb (lp (body Tryz.f135) 0) := zZ (id := 2) (V := zge) (B := zgi) (W := zdA) (z := .inl default) (tr := zfO) (m := zfE)
def zgD (s : List Weighted) (f_0 : Value) (f_1 : Int) : Wy0 (Int) := .bn (zlY (s.length + f_1.toNat + (Int.ofNat s.length).toNat + Int.toNat 0 + 1) s f_0 f_1 (Int.ofNat s.length) 0) fun r2 => .i (isL r2) (.k (getL r2)) (.k (-1 : Int))
def zcC (s : List Weighted) (f_0 : Value) (f_1 : Int) : Bool × Int := (zgD s f_0 f_1).fin default
def zfZ (r : Int) : ARes ty := ⟨[.pure (.lit (.int .i64 r))], []⟩
def zgM : AL base (List Weighted × (Value × (Int × Unit) × Unit) × Unit) := zf (zg (vSl 52)) (zf (zg (vFn 134 (zrN (zHF 46) (zrN (vBox (zrN (vInt .i64) vNil)) vNil)))) aNil)
def zfo : Ab.Spec ty := zr zgM fun x => ((zcC x.1 x.2.1.1 x.2.1.2.1.1).1, zfZ (zcC x.1 x.2.1.1 x.2.1.2.1.1).2)
theorem zk4 : Sound Tryz.prog base 135 zfo :=
 zF (cx' := zgb) zR zB zL (zG ⟨zko, trivial⟩) Tryz.call135 Tryz.func135 (c := body Tryz.f135) (by kernel_rfl) (zj (l := [lp (body Tryz.f135) 0]) (by kernel_rfl) ⟨zlA, trivial⟩) (sg := ⟨[.pure], []⟩) (A := zgM) (res := zfZ) (W := fun x => zgD x.1 x.2.1.1 x.2.1.2.1.1) (z := default)
def zlb : Cx ty := mkCx base 9 [(134, zh1), (135, zfo)] [] [] [] [] []
def zdk (s : List Weighted) (f_0 : Value) (f_1 : Int) : Wy0 (Bool) := .bn (zcC s f_0 f_1) fun r0 => .k (decide (r0 ≥ 0))
def zbe (s : List Weighted) (f_0 : Value) (f_1 : Int) : Bool × Bool := (zdk s f_0 f_1).fin default
def zeY (r : Bool) : ARes ty := ⟨[.pure (.lit (.bool r))], []⟩
def zfu : AL base (List Weighted × (Value × (Int × Unit) × Unit) × Unit) := zf (zg (vSl 52)) (zf (zg (vFn 134 (zrN (zHF 46) (zrN (vBox (zrN (vInt .i64) vNil)) vNil)))) aNil)
def zeK : Ab.Spec ty := zr zfu fun x => ((zbe x.1 x.2.1.1 x.2.1.2.1.1).1, zeY (zbe x.1 x.2.1.1 x.2.1.2.1.1).2)
theorem zke : Sound Tryz.prog base 76 zeK :=
 zF (cx' := zlb) zR zB zL (zG ⟨zko, zk4, trivial⟩) Tryz.call76 Tryz.func76 (c := body Tryz.f76) (by kernel_rfl) (zj (l := []) (by kernel_rfl) trivial) (sg := ⟨[.pure], []⟩) (A := zfu) (res := zeY) (W := fun x => zdk x.1 x.2.1.1 x.2.1.2.1.1) (z := default)
def zDd : Cx ty := mkCx base 43 [(76, zeK), (133, zo5), (134, zh1)] [] [] [] [] []
def zo6 (fn : Int) (items : List Weighted) (op : Int) (bound : Value) : Wy0 (Bool) := .i (decide (fn < 0)) (.k false) (.i (decide (fn > 3)) (.k false) (.i (decide (op < 5)) (.k false) (.i (decide (op > 10)) (.k false) (.bn (znw bound) fun r3 => .i (!r3) (.k false) (.i (fn == 0) (.i (bound.Kind != 0) (.k false) (.bn (zbe items bound fn) fun r0 => .k (!r0))) (.i (fn == 1) (.i (bound.Kind != 0) (.k false) (.bn (zbe items bound fn) fun r1 => .k (!r1))) (.bn (zbe items bound fn) fun r2 => .k (!r2))))))))
def zif (fn : Int) (items : List Weighted) (op : Int) (bound : Value) : Bool × Bool := (zo6 fn items op bound).fin default
def zsI (r : Bool) : ARes ty := ⟨[.pure (.lit (.bool r))], []⟩
def zvl : AL base (Int × List Weighted × Int × Value × Unit) := zf (zg (vInt .i64)) (zf (zg (vSl 52)) (zf (zg (vInt .i64)) (zf (zg (vAgg 46)) aNil)))
def zm0 : Ab.Spec ty := zr zvl fun x => ((zif x.1 x.2.1 x.2.2.1 x.2.2.2.1).1, zsI (zif x.1 x.2.1 x.2.2.1 x.2.2.2.1).2)
theorem zrh : Sound Tryz.prog base 75 zm0 :=
 zF (cx' := zDd) zR zB zL (zG ⟨zke, zsG, zko, trivial⟩) Tryz.call75 Tryz.func75 (c := body Tryz.f75) (by kernel_rfl) (zj (l := []) (by kernel_rfl) trivial) (sg := ⟨[.pure], []⟩) (A := zvl) (res := zsI) (W := fun x => zo6 x.1 x.2.1 x.2.2.1 x.2.2.2.1) (z := default)
def zwz : Cx ty := mkCx base 7 [] [] [] [] [] []
def zkn (t : Term) : Wy0 (Bool) := .k (Int.ofNat t.Factors.length == 0)
def zfW (t : Term) : Bool × Bool := (zkn t).fin default
def znL (r : Bool) : ARes ty := ⟨[.pure (.lit (.bool r))], []⟩
def zoJ : AL base (Term × Unit) := zf (zg (vAgg 42)) aNil
def zfR : Ab.Spec ty := zr zoJ fun x => ((zfW x.1).1, znL (zfW x.1).2)
theorem zix : Sound Tryz.prog base 119 zfR :=
 zF (cx' := zwz) zR zB zL (zG trivial) Tryz.call119 Tryz.func119 (c := body Tryz.f119) (by kernel_rfl) (zj (l := []) (by kernel_rfl) trivial) (sg := ⟨[.pure], []⟩) (A := zoJ) (res := znL) (W := fun x => zkn x.1) (z := default)
abbrev ttTslicesIndexFuncapiAnnotationapiTermhc0 := List Term × Unit × Int × Int × Unit
def zmX (s : List Term) (t7 : Int) (t8 : Int) : Wy ttTslicesIndexFuncapiAnnotationapiTermhc0 (Unit) (Int ⊕ Unit) := .i (decide (t8 < t7)) (.i (decide (0 ≤ t8) && decide (t8 < Int.ofNat s.length)) (.i ((zfW (s.getD t8.toNat default)).2) (.k (.inl t8)) (.h (s, (), t7, (IntKind.i64.wrap (t8 + 1)), ()) ())) .d) (.k (.inr ()))
def zd0 (x : ttTslicesIndexFuncapiAnnotationapiTermhc0) (y : Unit) : Wy ttTslicesIndexFuncapiAnnotationapiTermhc0 (Unit) (Int ⊕ Unit) := zmX x.1 x.2.2.1 x.2.2.2.1
def zmW (n : Nat) (s : List Term) (t7 : Int) (t8 : Int) : Bool × (Int ⊕ Unit) := zN (zd0) (.inl default) n (s, (), t7, t8, ()) ()
def zgX (r : Int ⊕ Unit) : LTree ty := .ite (isL r) (.done .ret [.lit (.int .i64 (getL r))] []) (.done (.exit 0) [] [])
def zhc : LL ty ttTslicesIndexFuncapiAnnotationapiTermhc0 := za (lSl 42) (za (lFn 119 (zT)) (za (lInt .i64) (za (lInt .i64) zT)))
def zhj : BL ty (Unit) := bNil
def zgU (x : ttTslicesIndexFuncapiAnnotationapiTermhc0) (y : Unit) : Nat := (x.1.length + Int.toNat x.2.2.1 + Int.toNat x.2.2.2.1 + 1)
def zhx : Cx ty := mkCx base 19 [(119, zfR)] [] [(2, [(0, .keep), (1, .keep), (7, .keep), (8, .keep)])] [(2, 1, []), (2, 0, [(4, .keep)])] [(2, spW zhc zhj (zd0) (.inl default) zgX zgU)] []
theorem zmG : zbr zhx (lp (body Tryz.f149) 0) := zZ (id := 2) (V := zhc) (B := zhj) (W := zd0) (z := .inl default) (tr := zgX) (m := zgU)
def zhE (s : List Term) : Wy0 (Int) := .bn (zmW (s.length + (Int.ofNat s.length).toNat + Int.toNat 0 + 1) s (Int.ofNat s.length) 0) fun r0 => .i (isL r0) (.k (getL r0)) (.k (-1 : Int))
def zcY (s : List Term) : Bool × Int := (zhE s).fin default
def zg4 (r : Int) : ARes ty := ⟨[.pure (.lit (.int .i64 r))], []⟩
def zhP : AL base (List Term × Unit × Unit) := zf (zg (vSl 42)) (zf (zg (vFn 119 vNil)) aNil)
def zdJ : Ab.Spec ty := zr zhP fun x => ((zcY x.1).1, zg4 (zcY x.1).2)
theorem zga : Sound Tryz.prog base 149 zdJ :=
 zF (cx' := zhx) zR zB zL (zG ⟨zix, trivial⟩) Tryz.call149 Tryz.func149 (c := body Tryz.f149) (by kernel_rfl) (zj (l := [lp (body Tryz.f149) 0]) (by kernel_rfl) ⟨zmG, trivial⟩) (sg := ⟨[.pure], []⟩) (A := zhP) (res := zg4) (W := fun x => zhE x.1) (z := default)
def zl4 : Cx ty := mkCx base 9 [(119, zfR), (149, (zFz zdJ zdJ))] [] [] [] [] []
def zdI (s : List Term) : Wy0 (Bool) := .bn (zcY s) fun r0 => .k (decide (r0 ≥ 0))
def zcB (s : List Term) : Bool × Bool := (zdI s).fin default
def zfH (r : Bool) : ARes ty := ⟨[.pure (.lit (.bool r))], []⟩
def zgr : AL base (List Term × Unit × Unit) := zf (zg (vSl 42)) (zf (zg (vFn 119 vNil)) aNil)
def zfm : Ab.Spec ty := zr zgr fun x => ((zcB x.1).1, zfH (zcB x.1).2)
theorem zk5 : Sound Tryz.prog base 105 zfm :=
 zF (cx' := zl4) zR zB zL (zG ⟨zix, (Sound.or (zga) (zga)), trivial⟩) Tryz.call105 Tryz.func105 (c := body Tryz.f105) (by kernel_rfl) (zj (l := []) (by kernel_rfl) trivial) (sg := ⟨[.pure], []⟩) (A := zgr) (res := zfH) (W := fun x => zdI x.1) (z := default)
def zzl : Cx ty := mkCx base 5 [(105, zfm), (119, zfR)] [] [] [] [] []
def zmp (a : List Term) : Wy0 (Bool) := .bn (zcB a) fun r0 => .k r0
def zeb (a : List Term) : Bool × Bool := (zmp a).fin default
def zpN (r : Bool) : ARes ty := ⟨[.pure (.lit (.bool r))], []⟩
def zqG : AL base (List Term × Unit) := zf (zg (vSl 42)) aNil
def zkJ : Ab.Spec ty := zr zqG fun x => ((zeb x.1).1, zpN (zeb x.1).2)
theorem zn0 : Sound Tryz.prog base 68 zkJ :=
 zF (cx' := zzl) zR zB zL (zG ⟨zk5, zix, trivial⟩) Tryz.call68 Tryz.func68 (c := body Tryz.f68) (by kernel_rfl) (zj (l := []) (by kernel_rfl) trivial) (sg := ⟨[.pure], []⟩) (A := zqG) (res := zpN) (W := fun x => zmp x.1) (z := default)
def zz1 : Cx ty := mkCx base 14 [] [] [] [] [] []
def zmY (a : List Term) : Wy0 (Bool) := .i (Int.ofNat a.length == 1) (.i (decide ((0 : Int) ≤ (0 : Int)) && decide (0 < Int.ofNat a.length)) (.k (Int.ofNat (a.getD (Int.toNat 0) default).Factors.length == 0)) .d) (.k false)
def zgd (a : List Term) : Bool × Bool := (zmY a).fin default
def zqd (r : Bool) : ARes ty := ⟨[.pure (.lit (.bool r))], []⟩
def zr0 : AL base (List Term × Unit) := zf (zg (vSl 42)) aNil
def zk6 : Ab.Spec ty := zr zr0 fun x => ((zgd x.1).1, zqd (zgd x.1).2)
theorem zoT : Sound Tryz.prog base 65 zk6 :=
 zF (cx' := zz1) zR zB zL (zG trivial) Tryz.call65 Tryz.func65 (c := body Tryz.f65) (by kernel_rfl) (zj (l := []) (by kernel_rfl) trivial) (sg := ⟨[.pure], []⟩) (A := zr0) (res := zqd) (W := fun x => zmY x.1) (z := default)
def zDw : Cx ty := mkCx base 42 [(72, zh6)] [] [] [] [] []
def zpY (a : List Term) : Wy0 (Bool) := .i (Int.ofNat a.length != 1) (.k false) (.i (decide ((0 : Int) ≤ (0 : Int)) && decide (0 < Int.ofNat a.length)) (.i ((a.getD (Int.toNat 0) default).Coeff != 1) (.k false) (.i (decide ((0 : Int) ≤ (0 : Int)) && decide (0 < Int.ofNat a.length)) (.i (Int.ofNat (a.getD (Int.toNat 0) default).Factors.length != 1) (.k false) (.i (decide ((0 : Int) ≤ (0 : Int)) && decide (0 < Int.ofNat a.length)) (.i (decide ((0 : Int) ≤ (0 : Int)) && decide (0 < Int.ofNat (a.getD (Int.toNat 0) default).Factors.length)) (.i (((a.getD (Int.toNat 0) default).Factors.getD (Int.toNat 0) default).Exp == 1) (.i (((a.getD (Int.toNat 0) default).Factors.getD (Int.toNat 0) default).Atom.Kind == 2) (.k true) (.bn (zez (Atom.mk ((a.getD (Int.toNat 0) default).Factors.getD (Int.toNat 0) default).Atom.Kind ((a.getD (Int.toNat 0) default).Factors.getD (Int.toNat 0) default).Atom.Row ((a.getD (Int.toNat 0) default).Factors.getD (Int.toNat 0) default).Atom.Args ((a.getD (Int.toNat 0) default).Factors.getD (Int.toNat 0) default).Atom.Func ((a.getD (Int.toNat 0) default).Factors.getD (Int.toNat 0) default).Atom.Items ((a.getD (Int.toNat 0) default).Factors.getD (Int.toNat 0) default).Atom.Op ((a.getD (Int.toNat 0) default).Factors.getD (Int.toNat 0) default).Atom.Bound)) fun r0 => .k r0)) (.k false)) .d) .d)) .d)) .d)
def zji (a : List Term) : Bool × Bool := (zpY a).fin default
def zun (r : Bool) : ARes ty := ⟨[.pure (.lit (.bool r))], []⟩
def zv1 : AL base (List Term × Unit) := zf (zg (vSl 42)) aNil
def znq : Ab.Spec ty := zr zv1 fun x => ((zji x.1).1, zun (zji x.1).2)
theorem zrX : Sound Tryz.prog base 64 znq :=
 zF (cx' := zDw) zR zB zL (zG ⟨zkp, trivial⟩) Tryz.call64 Tryz.func64 (c := body Tryz.f64) (by kernel_rfl) (zj (l := []) (by kernel_rfl) trivial) (sg := ⟨[.pure], []⟩) (A := zv1) (res := zun) (W := fun x => zpY x.1) (z := default)
def zHg : Cx ty := mkCx base 11 [] [] [] [] [] []
def zwC (id : RowID) : Wy0 (Bool) := .i (decide (id.Table ≥ 1)) (.k (decide (id.Seq ≥ 1))) (.k false)
def zmb (id : RowID) : Bool × Bool := (zwC id).fin default
def zAB (r : Bool) : ARes ty := ⟨[.pure (.lit (.bool r))], []⟩
def zCE : AL base (RowID × Unit) := zf (zg (vAgg 25)) aNil
def znW : Ab.Spec ty := zr zCE fun x => ((zmb x.1).1, zAB (zmb x.1).2)
theorem zro : Sound Tryz.prog base 69 znW :=
 zF (cx' := zHg) zR zB zL (zG trivial) Tryz.call69 Tryz.func69 (c := body Tryz.f69) (by kernel_rfl) (zj (l := []) (by kernel_rfl) trivial) (sg := ⟨[.pure], []⟩) (A := zCE) (res := zAB) (W := fun x => zwC x.1) (z := default)
abbrev ttTslicesIsSortedFuncLapiWeightedapiWeighted0 := List Weighted × Unit × Int × Unit
def zdz (x_ : List Weighted) (i : Int) : Wy ttTslicesIsSortedFuncLapiWeightedapiWeighted0 (Unit) (Bool ⊕ Unit) := .i (decide (i > 0)) (.i (decide (0 ≤ i) && decide (i < Int.ofNat x_.length)) (.i (decide (0 ≤ IntKind.i64.wrap (i - 1)) && decide (IntKind.i64.wrap (i - 1) < Int.ofNat x_.length)) (.bn (zbm (x_.getD i.toNat default) (x_.getD (IntKind.i64.wrap (i - 1)).toNat default)) fun r0 => .i (decide (r0 < 0)) (.k (.inl false)) (.h (x_, (), (IntKind.i64.wrap (i - 1)), ()) ())) .d) .d) (.k (.inr ()))
def zdE (x : ttTslicesIsSortedFuncLapiWeightedapiWeighted0) (y : Unit) : Wy ttTslicesIsSortedFuncLapiWeightedapiWeighted0 (Unit) (Bool ⊕ Unit) := zdz x.1 x.2.2.1
def zdC (n : Nat) (x_ : List Weighted) (i : Int) : Bool × (Bool ⊕ Unit) := zN (zdE) (.inl default) n (x_, (), i, ()) ()
def zfL (r : Bool ⊕ Unit) : LTree ty := .ite (isL r) (.done .ret [.lit (.bool (getL r))] []) (.done (.exit 0) [] [])
def zgh : LL ty ttTslicesIsSortedFuncLapiWeightedapiWeighted0 := za (lSl 52) (za (lFn 85 (zT)) (za (lInt .i64) zT))
def zf5 : BL ty (Unit) := bNil
def zgc : Cx ty := mkCx base 25 [(85, annotation_compareItems_spec)] [] [(2, [(0, .keep), (1, .keep), (5, .keep)])] [(2, 1, []), (2, 0, [(4, .keep)])] [(2, spW zgh zf5 (zdE) (.inl default) zfL fun x y => (x.1.length + Int.toNat x.2.2.1 + 1))] []
theorem zlR : zbr zgc (lp (body Tryz.f132) 0) := zZ (id := 2) (V := zgh) (B := zf5) (W := zdE) (z := .inl default) (tr := zfL) (m := fun x y => (x.1.length + Int.toNat x.2.2.1 + 1))
def zdK (x_ : List Weighted) : Wy0 (Bool) := .bn (zdC (x_.length + (IntKind.i64.wrap (Int.ofNat x_.length - 1)).toNat + 1) x_ (IntKind.i64.wrap (Int.ofNat x_.length - 1))) fun r2 => .i (isL r2) (.k (getL r2)) (.k true)
def zbR (x_ : List Weighted) : Bool × Bool := (zdK x_).fin default
def zfN (r : Bool) : ARes ty := ⟨[.pure (.lit (.bool r))], []⟩
def zgF : AL base (List Weighted × Unit × Unit) := zf (zg (vSl 52)) (zf (zg (vFn 85 vNil)) aNil)
def zft : Ab.Spec ty := zr zgF fun x => ((zbR x.1).1, zfN (zbR x.1).2)
theorem zkZ : Sound Tryz.prog base 132 zft :=
 zF (cx' := zgc) zR zB zL (zG ⟨zgl, trivial⟩) Tryz.call132 Tryz.func132 (c := body Tryz.f132) (by kernel_rfl) (zj (l := [lp (body Tryz.f132) 0]) (by kernel_rfl) ⟨zlR, trivial⟩) (sg := ⟨[.pure], []⟩) (A := zgF) (res := zfN) (W := fun x => zdK x.1) (z := default)
def zcj (zc : List Weighted → Bool × Bool) (zb : List (List Term) → Bool × Bool) (ze : List Term → Bool × Bool) (zd : Weighted → Bool × Bool) : Cx ty := mkCx base 149 [(32, zkM), (64, znq), (65, zk6), (68, zkJ), (69, znW), (75, zm0), (76, (zcf zc)), (85, annotation_compareItems_spec), (129, (zbW zb)), (130, (zcI ze)), (131, (zcK zd)), (132, zft)] [] [] [] [] []
def zbK (zc : List Weighted → Bool × Bool) (zb : List (List Term) → Bool × Bool) (ze : List Term → Bool × Bool) (zd : Weighted → Bool × Bool) (x_ : Atom) : Wy0 (Bool) := .i (x_.Kind == 0) (.i (x_.Func != 0) (.k false) (.i (Int.ofNat x_.Items.length != 0) (.k false) (.i (x_.Op != 0) (.k false) (.i (!(x_.Bound.Kind == 0 && (x_.Bound.Int == 0 && (x_.Bound.Text.toList == (ByteArray.mk #[]).toList && true)))) (.k false) (.bn (zb x_.Args) fun r1 => .i (r1) (.k false) (.bn (zmb x_.Row) fun r0 => .i (r0) (.k (Int.ofNat x_.Args.length == 0)) (.k false))))))) (.i (x_.Kind == 1) (.i (x_.Func != 0) (.k false) (.i (Int.ofNat x_.Items.length != 0) (.k false) (.i (x_.Op != 0) (.k false) (.i (!(x_.Bound.Kind == 0 && (x_.Bound.Int == 0 && (x_.Bound.Text.toList == (ByteArray.mk #[]).toList && true)))) (.k false) (.i (!(x_.Row.Table == 0 && (x_.Row.Seq == 0 && true))) (.k false) (.bn (zb x_.Args) fun r3 => .i (r3) (.k false) (.i (Int.ofNat x_.Args.length == 2) (.i (decide ((0 : Int) ≤ (0 : Int)) && decide (0 < Int.ofNat x_.Args.length)) (.i (decide ((0 : Int) ≤ (1 : Int)) && decide (1 < Int.ofNat x_.Args.length)) (.bn (zb0 (x_.Args.getD (Int.toNat 0) default) (x_.Args.getD (Int.toNat 1) default)) fun r2 => .k (!r2)) .d) .d) (.k false)))))))) (.i (x_.Kind == 2) (.i (x_.Func != 0) (.k false) (.i (Int.ofNat x_.Items.length != 0) (.k false) (.i (x_.Op != 0) (.k false) (.i (!(x_.Bound.Kind == 0 && (x_.Bound.Int == 0 && (x_.Bound.Text.toList == (ByteArray.mk #[]).toList && true)))) (.k false) (.i (!(x_.Row.Table == 0 && (x_.Row.Seq == 0 && true))) (.k false) (.bn (zb x_.Args) fun r6 => .i (r6) (.k false) (.i (Int.ofNat x_.Args.length == 1) (.i (decide ((0 : Int) ≤ (0 : Int)) && decide (0 < Int.ofNat x_.Args.length)) (.bn (zgd (x_.Args.getD (Int.toNat 0) default)) fun r5 => .i (!r5) (.i (decide ((0 : Int) ≤ (0 : Int)) && decide (0 < Int.ofNat x_.Args.length)) (.bn (zji (x_.Args.getD (Int.toNat 0) default)) fun r4 => .k (!r4)) .d) (.k false)) .d) (.k false)))))))) (.i (x_.Kind == 3) (.i (x_.Func != 0) (.k false) (.i (Int.ofNat x_.Items.length != 0) (.k false) (.i (x_.Op != 0) (.k false) (.i (!(x_.Bound.Kind == 0 && (x_.Bound.Int == 0 && (x_.Bound.Text.toList == (ByteArray.mk #[]).toList && true)))) (.k false) (.i (!(x_.Row.Table == 0 && (x_.Row.Seq == 0 && true))) (.k false) (.bn (zb x_.Args) fun r8 => .i (r8) (.k false) (.i (Int.ofNat x_.Args.length == 1) (.i (decide ((0 : Int) ≤ (0 : Int)) && decide (0 < Int.ofNat x_.Args.length)) (.bn (zeb (x_.Args.getD (Int.toNat 0) default)) fun r7 => .k (!r7)) .d) (.k false)))))))) (.i (x_.Kind == 4) (.i (!(x_.Row.Table == 0 && (x_.Row.Seq == 0 && true))) (.k false) (.bn (zb x_.Args) fun r12 => .i (r12) (.k false) (.bn (zc x_.Items) fun r11 => .i (Int.ofNat x_.Args.length == 0) (.i (decide (Int.ofNat x_.Items.length > 0)) (.i (!r11) (.bn (zbR x_.Items) fun r10 => .i (r10) (.bn (zif x_.Func x_.Items x_.Op x_.Bound) fun r9 => .k r9) (.k false)) (.k false)) (.k false)) (.k false)))) (.i (x_.Func != 0) (.k false) (.i (Int.ofNat x_.Items.length != 0) (.k false) (.i (x_.Op != 0) (.k false) (.i (!(x_.Bound.Kind == 0 && (x_.Bound.Int == 0 && (x_.Bound.Text.toList == (ByteArray.mk #[]).toList && true)))) (.k false) (.i (!(x_.Row.Table == 0 && (x_.Row.Seq == 0 && true))) (.k false) (.bn (zb x_.Args) fun r14 => .i (r14) (.k false) (.k false)))))))))))
def zhV (zc : List Weighted → Bool × Bool) (zb : List (List Term) → Bool × Bool) (ze : List Term → Bool × Bool) (zd : Weighted → Bool × Bool) (x_ : Atom) : Bool × Bool := (zbK zc zb ze zd x_).fin default
theorem zx5 (zc : List Weighted → Bool × Bool) (zb : List (List Term) → Bool × Bool) (ze : List Term → Bool × Bool) (zd : Weighted → Bool × Bool) (v_Row : RowID) (v_Args : List (List Term)) (v_Func : Int) (v_Items : List Weighted) (v_Op : Int) (v_Bound : Value)  : zh3 (zcj zc zb ze zd) Tryz.f74 (body Tryz.f74) ⟨[.pure], []⟩ [.pure (.agg (base.enc 48 (Atom.mk (Int.ofNat 0) v_Row v_Args v_Func v_Items v_Op v_Bound)))] = (zbK zc zb ze zd (Atom.mk (Int.ofNat 0) v_Row v_Args v_Func v_Items v_Op v_Bound)).ev noH (fun r => some (zb3 r)) none := by kernel_rfl
theorem zxd (zc : List Weighted → Bool × Bool) (zb : List (List Term) → Bool × Bool) (ze : List Term → Bool × Bool) (zd : Weighted → Bool × Bool) (v_Row : RowID) (v_Args : List (List Term)) (v_Func : Int) (v_Items : List Weighted) (v_Op : Int) (v_Bound : Value)  : zh3 (zcj zc zb ze zd) Tryz.f74 (body Tryz.f74) ⟨[.pure], []⟩ [.pure (.agg (base.enc 48 (Atom.mk (Int.ofNat 1) v_Row v_Args v_Func v_Items v_Op v_Bound)))] = (zbK zc zb ze zd (Atom.mk (Int.ofNat 1) v_Row v_Args v_Func v_Items v_Op v_Bound)).ev noH (fun r => some (zb3 r)) none := by kernel_rfl
theorem zxf (zc : List Weighted → Bool × Bool) (zb : List (List Term) → Bool × Bool) (ze : List Term → Bool × Bool) (zd : Weighted → Bool × Bool) (v_Row : RowID) (v_Args : List (List Term)) (v_Func : Int) (v_Items : List Weighted) (v_Op : Int) (v_Bound : Value)  : zh3 (zcj zc zb ze zd) Tryz.f74 (body Tryz.f74) ⟨[.pure], []⟩ [.pure (.agg (base.enc 48 (Atom.mk (Int.ofNat 2) v_Row v_Args v_Func v_Items v_Op v_Bound)))] = (zbK zc zb ze zd (Atom.mk (Int.ofNat 2) v_Row v_Args v_Func v_Items v_Op v_Bound)).ev noH (fun r => some (zb3 r)) none := by kernel_rfl
theorem zxP (zc : List Weighted → Bool × Bool) (zb : List (List Term) → Bool × Bool) (ze : List Term → Bool × Bool) (zd : Weighted → Bool × Bool) (v_Row : RowID) (v_Args : List (List Term)) (v_Func : Int) (v_Items : List Weighted) (v_Op : Int) (v_Bound : Value)  : zh3 (zcj zc zb ze zd) Tryz.f74 (body Tryz.f74) ⟨[.pure], []⟩ [.pure (.agg (base.enc 48 (Atom.mk (Int.ofNat 3) v_Row v_Args v_Func v_Items v_Op v_Bound)))] = (zbK zc zb ze zd (Atom.mk (Int.ofNat 3) v_Row v_Args v_Func v_Items v_Op v_Bound)).ev noH (fun r => some (zb3 r)) none := by kernel_rfl
theorem zx8 (zc : List Weighted → Bool × Bool) (zb : List (List Term) → Bool × Bool) (ze : List Term → Bool × Bool) (zd : Weighted → Bool × Bool) (v_Row : RowID) (v_Args : List (List Term)) (v_Func : Int) (v_Items : List Weighted) (v_Op : Int) (v_Bound : Value)  : zh3 (zcj zc zb ze zd) Tryz.f74 (body Tryz.f74) ⟨[.pure], []⟩ [.pure (.agg (base.enc 48 (Atom.mk (Int.ofNat 4) v_Row v_Args v_Func v_Items v_Op v_Bound)))] = (zbK zc zb ze zd (Atom.mk (Int.ofNat 4) v_Row v_Args v_Func v_Items v_Op v_Bound)).ev noH (fun r => some (zb3 r)) none := by kernel_rfl
theorem zxD (zc : List Weighted → Bool × Bool) (zb : List (List Term) → Bool × Bool) (ze : List Term → Bool × Bool) (zd : Weighted → Bool × Bool) (n : Nat) (v_Row : RowID) (v_Args : List (List Term)) (v_Func : Int) (v_Items : List Weighted) (v_Op : Int) (v_Bound : Value)  : zh3 (zcj zc zb ze zd) Tryz.f74 (body Tryz.f74) ⟨[.pure], []⟩ [.pure (.agg (base.enc 48 (Atom.mk (Int.ofNat (n + 5)) v_Row v_Args v_Func v_Items v_Op v_Bound)))] = (zbK zc zb ze zd (Atom.mk (Int.ofNat (n + 5)) v_Row v_Args v_Func v_Items v_Op v_Bound)).ev noH (fun r => some (zb3 r)) none := by kernel_rfl
theorem zxW (zc : List Weighted → Bool × Bool) (zb : List (List Term) → Bool × Bool) (ze : List Term → Bool × Bool) (zd : Weighted → Bool × Bool) (n : Nat) (v_Row : RowID) (v_Args : List (List Term)) (v_Func : Int) (v_Items : List Weighted) (v_Op : Int) (v_Bound : Value)  : zh3 (zcj zc zb ze zd) Tryz.f74 (body Tryz.f74) ⟨[.pure], []⟩ [.pure (.agg (base.enc 48 (Atom.mk (Int.negSucc n) v_Row v_Args v_Func v_Items v_Op v_Bound)))] = (zbK zc zb ze zd (Atom.mk (Int.negSucc n) v_Row v_Args v_Func v_Items v_Op v_Bound)).ev noH (fun r => some (zb3 r)) none := by kernel_rfl
theorem zyv (zc : List Weighted → Bool × Bool) (zb : List (List Term) → Bool × Bool) (ze : List Term → Bool × Bool) (zd : Weighted → Bool × Bool) (x_ : Atom) : zh3 (zcj zc zb ze zd) Tryz.f74 (body Tryz.f74) ⟨[.pure], []⟩ [.pure (.agg (base.enc 48 x_))] = (zbK zc zb ze zd x_).ev noH (fun r => some (zb3 r)) none := by
 obtain ⟨v_Kind, v_Row, v_Args, v_Func, v_Items, v_Op, v_Bound⟩ := x_
 match v_Kind with
 | .ofNat 0 => exact zx5 zc zb ze zd v_Row v_Args v_Func v_Items v_Op v_Bound 
 | .ofNat 1 => exact zxd zc zb ze zd v_Row v_Args v_Func v_Items v_Op v_Bound 
 | .ofNat 2 => exact zxf zc zb ze zd v_Row v_Args v_Func v_Items v_Op v_Bound 
 | .ofNat 3 => exact zxP zc zb ze zd v_Row v_Args v_Func v_Items v_Op v_Bound 
 | .ofNat 4 => exact zx8 zc zb ze zd v_Row v_Args v_Func v_Items v_Op v_Bound 
 | .ofNat (n + 5) => exact zxD zc zb ze zd n v_Row v_Args v_Func v_Items v_Op v_Bound 
 | .negSucc n => exact zxW zc zb ze zd n v_Row v_Args v_Func v_Items v_Op v_Bound 
theorem zwU (zc : List Weighted → Bool × Bool) (zb : List (List Term) → Bool × Bool) (ze : List Term → Bool × Bool) (zd : Weighted → Bool × Bool) (zkL : Sound Tryz.prog base 76 (zcf zc)) (zjL : Sound Tryz.prog base 129 (zbW zb)) (zeJ : Sound Tryz.prog base 130 (zcI ze)) (zeM : Sound Tryz.prog base 131 (zcK zd)) : Sound Tryz.prog base 74 (zkc (zhV zc zb ze zd)) :=
 zF (cx' := (zcj zc zb ze zd)) zR zB zL (zG ⟨znx, zrX, zoT, zn0, zro, zrh, zkL, zgl, zjL, zeJ, zeM, zkZ, trivial⟩) Tryz.call74 Tryz.func74 (c := body Tryz.f74) (by kernel_rfl) (zj (l := []) (by kernel_rfl) trivial) (sg := ⟨[.pure], []⟩) (A := zsJ) (res := zb3) (W := fun x => zbK zc zb ze zd x.1) (z := default) (fun x => zyv zc zb ze zd x.1) (fun _ => by kernel_rfl)
def zwE (zbc : List Term → Bool × Bool) : Cx ty := mkCx base 11 [(31, (zgu zbc))] [] [] [] [] []
def zkH (zbc : List Term → Bool × Bool) (a : List Term) : Wy0 (Bool) := .bn (zbc a) fun r0 => .i (!r0) (.k true) (.k (Int.ofNat a.length == 0))
def ziu (zbc : List Term → Bool × Bool) (a : List Term) : Bool × Bool := (zkH zbc a).fin default
theorem zuC (zbc : List Term → Bool × Bool) (zpg : Sound Tryz.prog base 31 (zgu zbc)) : Sound Tryz.prog base 130 (zcI (ziu zbc)) :=
 zF (cx' := (zwE zbc)) zR zB zL (zG ⟨zpg, trivial⟩) Tryz.call130 Tryz.func130 (c := body Tryz.f130) (by kernel_rfl) (zj (l := []) (by kernel_rfl) trivial) (sg := ⟨[.pure], []⟩) (A := zqf) (res := zoS) (W := fun x => zkH zbc x.1) (z := default)
def zwO (zbc : List Term → Bool × Bool) : Cx ty := mkCx base 13 [(31, (zgu zbc))] [] [] [] [] []
def zkv (zbc : List Term → Bool × Bool) (w : Weighted) : Wy0 (Bool) := .bn (zbc w.Ann) fun r0 => .i (!r0) (.k true) (.k (Int.ofNat w.Ann.length == 0))
def zir (zbc : List Term → Bool × Bool) (w : Weighted) : Bool × Bool := (zkv zbc w).fin default
theorem zuG (zbc : List Term → Bool × Bool) (zpg : Sound Tryz.prog base 31 (zgu zbc)) : Sound Tryz.prog base 131 (zcK (zir zbc)) :=
 zF (cx' := (zwO zbc)) zR zB zL (zG ⟨zpg, trivial⟩) Tryz.call131 Tryz.func131 (c := body Tryz.f131) (by kernel_rfl) (zj (l := []) (by kernel_rfl) trivial) (sg := ⟨[.pure], []⟩) (A := zqv) (res := zoQ) (W := fun x => zkv zbc x.1) (z := default)
def zjw (ze : List Term → Bool × Bool) (zJ : List (List Term) → Bool × Int) : Cx ty := mkCx base 9 [(130, (zcI ze)), (163, (zb6 zJ))] [] [] [] [] []
def zcF (ze : List Term → Bool × Bool) (zJ : List (List Term) → Bool × Int) (s : List (List Term)) : Wy0 (Bool) := .bn (zJ s) fun r0 => .k (decide (r0 ≥ 0))
def zbT (ze : List Term → Bool × Bool) (zJ : List (List Term) → Bool × Int) (s : List (List Term)) : Bool × Bool := (zcF ze zJ s).fin default
theorem ziH (ze : List Term → Bool × Bool) (zJ : List (List Term) → Bool × Int) (zeJ : Sound Tryz.prog base 130 (zcI ze)) (zkC : Sound Tryz.prog base 163 (zb6 zJ)) : Sound Tryz.prog base 129 (zbW (zbT ze zJ)) :=
 zF (cx' := (zjw ze zJ)) zR zB zL (zG ⟨zeJ, zkC, trivial⟩) Tryz.call129 Tryz.func129 (c := body Tryz.f129) (by kernel_rfl) (zj (l := []) (by kernel_rfl) trivial) (sg := ⟨[.pure], []⟩) (A := zeE) (res := zek) (W := fun x => zcF ze zJ x.1) (z := default)
def zkF (zd : Weighted → Bool × Bool) (zO : List Weighted → Bool × Int) : Cx ty := mkCx base 9 [(131, (zcK zd)), (135, (zcr zO))] [] [] [] [] []
def zc3 (zd : Weighted → Bool × Bool) (zO : List Weighted → Bool × Int) (s : List Weighted) : Wy0 (Bool) := .bn (zO s) fun r0 => .k (decide (r0 ≥ 0))
def zcd (zd : Weighted → Bool × Bool) (zO : List Weighted → Bool × Int) (s : List Weighted) : Bool × Bool := (zc3 zd zO s).fin default
theorem zjV (zd : Weighted → Bool × Bool) (zO : List Weighted → Bool × Int) (zeM : Sound Tryz.prog base 131 (zcK zd)) (zlv : Sound Tryz.prog base 135 (zcr zO)) : Sound Tryz.prog base 76 (zcf (zcd zd zO)) :=
 zF (cx' := (zkF zd zO)) zR zB zL (zG ⟨zeM, zlv, trivial⟩) Tryz.call76 Tryz.func76 (c := body Tryz.f76) (by kernel_rfl) (zj (l := []) (by kernel_rfl) trivial) (sg := ⟨[.pure], []⟩) (A := zfy) (res := zeZ) (W := fun x => zc3 zd zO x.1) (z := default)
end Go.Proofs.YtnolcogncjijpaaGreatDoor
end
