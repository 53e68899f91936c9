/- Texts of this claim, joined (the program, its functions in plain words, and what they compute). -/
import Derived.KernelRfl
import Derived.Shelf.Strconv.Itoa3
import Derived.Stop.LaidErr
import Derived.Shelf.Vars
import Derived.Shelf.SlSortCmp.NoneTotal
import Derived.Shelf.Strings.OnBuilder
import Derived.Shelf.Strconv.Itoa4
import Derived.Shelf.Small.Strs
import Derived.Shelf.Strings.Replace
import Derived.Shelf.Small.Bits
import Derived.WalkKit
import Derived.WalkSpells
import Derived.Test.YtnolcogncjijpaaGreatDoorChecked
import Derived.Test.YtnolcogncjijpaaGreatDoorRows
import Derived.Test.YtnolcogncjijpaaGreatDoorProg
import Derived.Test.YtnolcogncjijpaaGreatDoorGA2
import Derived.Test.YtnolcogncjijpaaGreatDoorGB1
set_option autoImplicit false
set_option linter.unusedVariables false
set_option linter.unusedSectionVars false
set_option linter.unusedSimpArgs false
set_option maxRecDepth 1000000
set_option maxHeartbeats 0
/- The types of the program, as plain data. -/
noncomputable section
namespace Go.Proofs.YtnolcogncjijpaaGreatDoor
open Go Go.Ab
open Go.Proofs Go.Shelf
structure RowID where
  Table : Int
  Seq : Int
  deriving DecidableEq, Inhabited
structure Value where
  Kind : Int
  Int : Int
  Text : ByteArray
  deriving DecidableEq, Inhabited
structure FactorOf (A : Type) where
  Atom : A
  Exp : Int
structure TermOf (A : Type) where
  Coeff : Int
  Factors : List (FactorOf A)
structure WeightedOf (A : Type) where
  Value : Value
  Ann : List (TermOf A)
structure Atom where
  Kind : Int
  Row : RowID
  Args : List (List (TermOf Atom))
  Func : Int
  Items : List (WeightedOf Atom)
  Op : Int
  Bound : Value
abbrev Factor := FactorOf Atom
abbrev Term := TermOf Atom
abbrev Weighted := WeightedOf Atom
instance : Inhabited Atom := ⟨⟨0, default, [], 0, [], 0, default⟩⟩
instance : Inhabited Factor := ⟨⟨default, 0⟩⟩
instance : Inhabited Term := ⟨⟨0, []⟩⟩
instance : Inhabited Weighted := ⟨⟨default, []⟩⟩
theorem Atom.eta (x : Atom) : (⟨x.Kind, x.Row, x.Args, x.Func, x.Items, x.Op, x.Bound⟩ : Atom) = x := by cases x; rfl
mutual
def decAtom : (x y : Atom) → Decidable (x = y)
  | ⟨k, r, a, f, i, o, b⟩, ⟨k', r', a', f', i', o', b'⟩ =>
    match decEq k k', decEq r r', decAnns a a', decEq f f', zbqu i i', decEq o o', decEq b b' with
    | .isTrue h1, .isTrue h2, .isTrue h3, .isTrue h4, .isTrue h5, .isTrue h6, .isTrue h7 => .isTrue (by subst h1 h2 h3 h4 h5 h6 h7; rfl)
    | .isFalse h, _, _, _, _, _, _ => .isFalse (fun e => by cases e; exact h rfl)
    | _, .isFalse h, _, _, _, _, _ => .isFalse (fun e => by cases e; exact h rfl)
    | _, _, .isFalse h, _, _, _, _ => .isFalse (fun e => by cases e; exact h rfl)
    | _, _, _, .isFalse h, _, _, _ => .isFalse (fun e => by cases e; exact h rfl)
    | _, _, _, _, .isFalse h, _, _ => .isFalse (fun e => by cases e; exact h rfl)
    | _, _, _, _, _, .isFalse h, _ => .isFalse (fun e => by cases e; exact h rfl)
    | _, _, _, _, _, _, .isFalse h => .isFalse (fun e => by cases e; exact h rfl)
def zbpm : (x y : Factor) → Decidable (x = y)
  | ⟨a, e⟩, ⟨a', e'⟩ => match decAtom a a', decEq e e' with
    | .isTrue h1, .isTrue h2 => .isTrue (by subst h1 h2; rfl)
    | .isFalse h, _ => .isFalse (fun e => by cases e; exact h rfl)
    | _, .isFalse h => .isFalse (fun e => by cases e; exact h rfl)
def zboz : (x y : List Factor) → Decidable (x = y)
  | [], [] => .isTrue rfl
  | [], _ :: _ => .isFalse (by simp)
  | _ :: _, [] => .isFalse (by simp)
  | x :: r, y :: s => match zbpm x y, zboz r s with
    | .isTrue h1, .isTrue h2 => .isTrue (by subst h1 h2; rfl)
    | .isFalse h, _ => .isFalse (fun e => by cases e; exact h rfl)
    | _, .isFalse h => .isFalse (fun e => by cases e; exact h rfl)
def decTerm : (x y : Term) → Decidable (x = y)
  | ⟨a, e⟩, ⟨a', e'⟩ => match decEq a a', zboz e e' with
    | .isTrue h1, .isTrue h2 => .isTrue (by subst h1 h2; rfl)
    | .isFalse h, _ => .isFalse (fun e => by cases e; exact h rfl)
    | _, .isFalse h => .isFalse (fun e => by cases e; exact h rfl)
def decAnn : (x y : List Term) → Decidable (x = y)
  | [], [] => .isTrue rfl
  | [], _ :: _ => .isFalse (by simp)
  | _ :: _, [] => .isFalse (by simp)
  | x :: r, y :: s => match decTerm x y, decAnn r s with
    | .isTrue h1, .isTrue h2 => .isTrue (by subst h1 h2; rfl)
    | .isFalse h, _ => .isFalse (fun e => by cases e; exact h rfl)
    | _, .isFalse h => .isFalse (fun e => by cases e; exact h rfl)
def decAnns : (x y : List (List Term)) → Decidable (x = y)
  | [], [] => .isTrue rfl
  | [], _ :: _ => .isFalse (by simp)
  | _ :: _, [] => .isFalse (by simp)
  | x :: r, y :: s => match decAnn x y, decAnns r s with
    | .isTrue h1, .isTrue h2 => .isTrue (by subst h1 h2; rfl)
    | .isFalse h, _ => .isFalse (fun e => by cases e; exact h rfl)
    | _, .isFalse h => .isFalse (fun e => by cases e; exact h rfl)
def decItem : (x y : Weighted) → Decidable (x = y)
  | ⟨a, e⟩, ⟨a', e'⟩ => match decEq a a', decAnn e e' with
    | .isTrue h1, .isTrue h2 => .isTrue (by subst h1 h2; rfl)
    | .isFalse h, _ => .isFalse (fun e => by cases e; exact h rfl)
    | _, .isFalse h => .isFalse (fun e => by cases e; exact h rfl)
def zbqu : (x y : List Weighted) → Decidable (x = y)
  | [], [] => .isTrue rfl
  | [], _ :: _ => .isFalse (by simp)
  | _ :: _, [] => .isFalse (by simp)
  | x :: r, y :: s => match decItem x y, zbqu r s with
    | .isTrue h1, .isTrue h2 => .isTrue (by subst h1 h2; rfl)
    | .isFalse h, _ => .isFalse (fun e => by cases e; exact h rfl)
    | _, .isFalse h => .isFalse (fun e => by cases e; exact h rfl)
end
instance : DecidableEq Atom := decAtom
instance : DecidableEq Factor := zbpm
instance : DecidableEq Term := decTerm
instance : DecidableEq Weighted := decItem

structure Binding where
  Row : RowID
  To : List Term
  deriving DecidableEq, Inhabited
def ty : Nat → Type
  | 2 => Int
  | 3 => Int
  | 4 => Bool
  | 5 => Int
  | 9 => ByteArray
  | 22 => List Term
  | 23 => List Term
  | 25 => RowID
  | 28 => Int
  | 40 => List Factor
  | 42 => Term
  | 43 => List (List Term)
  | 44 => List Weighted
  | 46 => Value
  | 48 => Atom
  | 50 => Factor
  | 52 => Weighted
  | 59 => List Binding
  | 65 => List RowID
  | 69 => Binding
  | 106 => Unit
  | 128 => List Int
  | 136 => List ByteArray
  | 143 => Int
  | 144 => List (List Factor)
  | _ => Unit
instance : (T : Nat) → Inhabited (ty T) := fun T => by
  unfold ty
  split <;> infer_instance
def dt25 : DT ty RowID := dtMap (fun x => ⟨x.1, x.2⟩) (fun x => (x.Table, x.Seq)) (fun _ => rfl) (dtPair (dtInt .i64) (dtInt .i64))
def dt46 : DT ty Value := dtMap (fun x => ⟨x.1, x.2.1, x.2.2⟩) (fun x => (x.Kind, x.Int, x.Text)) (fun _ => rfl) (dtPair (dtInt .i64) (dtPair (dtInt .i64) (dtStr)))
def dt48 : DT ty Atom := dtMap (fun x => ⟨x.1, x.2.1, x.2.2.1, x.2.2.2.1, x.2.2.2.2.1, x.2.2.2.2.2.1, x.2.2.2.2.2.2⟩) (fun x => (x.Kind, x.Row, x.Args, x.Func, x.Items, x.Op, x.Bound)) (fun _ => rfl) (dtPair (dtInt .i64) (dtPair (dt25) (dtPair (dtSl 23) (dtPair (dtInt .i64) (dtPair (dtSl 52) (dtPair (dtInt .i64) (dt46)))))))
def dt50 : DT ty Factor := dtMap (fun x => ⟨x.1, x.2⟩) (fun x => (x.Atom, x.Exp)) (fun _ => rfl) (dtPair (dt48) (dtInt .i64))
def dt42 : DT ty Term := dtMap (fun x => ⟨x.1, x.2⟩) (fun x => (x.Coeff, x.Factors)) (fun _ => rfl) (dtPair (dtInt .i64) (dtSl 50))
def dt52 : DT ty Weighted := dtMap (fun x => ⟨x.1, x.2⟩) (fun x => (x.Value, x.Ann)) (fun _ => rfl) (dtPair (dt46) (dtSl 42))
def dt69 : DT ty Binding := dtMap (fun x => ⟨x.1, x.2⟩) (fun x => (x.Row, x.To)) (fun _ => rfl) (dtPair (dt25) (dtSl 42))
def codecs : List ((T : Nat) × DT ty (ty T)) := [⟨2, (dtInt .i64 : DT ty Int)⟩, ⟨3, (dtInt .i64 : DT ty Int)⟩, ⟨4, (dtBool : DT ty Bool)⟩, ⟨5, (dtInt .u8 : DT ty Int)⟩, ⟨9, (dtStr : DT ty ByteArray)⟩, ⟨22, (dtSl 42 : DT ty (List Term))⟩, ⟨23, (dtSl 42 : DT ty (List Term))⟩, ⟨25, (dt25 : DT ty RowID)⟩, ⟨28, (dtInt .i64 : DT ty Int)⟩, ⟨40, (dtSl 50 : DT ty (List Factor))⟩, ⟨42, (dt42 : DT ty Term)⟩, ⟨43, (dtSl 23 : DT ty (List (List Term)))⟩, ⟨44, (dtSl 52 : DT ty (List Weighted))⟩, ⟨46, (dt46 : DT ty Value)⟩, ⟨48, (dt48 : DT ty Atom)⟩, ⟨50, (dt50 : DT ty Factor)⟩, ⟨52, (dt52 : DT ty Weighted)⟩, ⟨59, (dtSl 69 : DT ty (List Binding))⟩, ⟨65, (dtSl 25 : DT ty (List RowID))⟩, ⟨69, (dt69 : DT ty Binding)⟩, ⟨106, (dtMp : DT ty Unit)⟩, ⟨128, (dtSl 3 : DT ty (List Int))⟩, ⟨136, (dtSl 9 : DT ty (List ByteArray))⟩, ⟨143, (dtInt .u64 : DT ty Int)⟩, ⟨144, (dtSl 40 : DT ty (List (List Factor)))⟩]
def infos : List (Nat × TInfo) := [(2, ⟨.int .i64, 1, 8, [.int .i64 (0)]⟩),
  (3, ⟨.int .i64, 1, 8, [.int .i64 (0)]⟩),
  (4, ⟨.bool, 1, 1, [.bool false]⟩),
  (5, ⟨.int .u8, 1, 1, [.int .u8 (0)]⟩),
  (9, ⟨.str, 1, 16, [.string ⟨#[]⟩]⟩),
  (22, ⟨.slice 42, 1, 24, [.slice none 0 0]⟩),
  (23, ⟨.slice 42, 1, 24, [.slice none 0 0]⟩),
  (25, ⟨.struct [(0, 3), (1, 3)], 2, 16, [.int .i64 (0), .int .i64 (0)]⟩),
  (28, ⟨.int .i64, 1, 8, [.int .i64 (0)]⟩),
  (40, ⟨.slice 50, 1, 24, [.slice none 0 0]⟩),
  (42, ⟨.struct [(0, 2), (1, 40)], 2, 32, [.int .i64 (0), .slice none 0 0]⟩),
  (43, ⟨.slice 23, 1, 24, [.slice none 0 0]⟩),
  (44, ⟨.slice 52, 1, 24, [.slice none 0 0]⟩),
  (46, ⟨.struct [(0, 3), (1, 2), (2, 9)], 3, 32, [.int .i64 (0), .int .i64 (0), .string ⟨#[]⟩]⟩),
  (48, ⟨.struct [(0, 3), (1, 25), (3, 43), (4, 3), (5, 44), (6, 3), (7, 46)], 10, 120, [.int .i64 (0), .int .i64 (0), .int .i64 (0), .slice none 0 0, .int .i64 (0), .slice none 0 0, .int .i64 (0), .int .i64 (0), .int .i64 (0), .string ⟨#[]⟩]⟩),
  (50, ⟨.struct [(0, 48), (10, 3)], 11, 128, [.int .i64 (0), .int .i64 (0), .int .i64 (0), .slice none 0 0, .int .i64 (0), .slice none 0 0, .int .i64 (0), .int .i64 (0), .int .i64 (0), .string ⟨#[]⟩, .int .i64 (0)]⟩),
  (52, ⟨.struct [(0, 46), (3, 23)], 4, 56, [.int .i64 (0), .int .i64 (0), .string ⟨#[]⟩, .slice none 0 0]⟩),
  (59, ⟨.slice 69, 1, 24, [.slice none 0 0]⟩),
  (65, ⟨.slice 25, 1, 24, [.slice none 0 0]⟩),
  (69, ⟨.struct [(0, 25), (2, 23)], 3, 40, [.int .i64 (0), .int .i64 (0), .slice none 0 0]⟩),
  (106, ⟨.map 9 3, 1, 8, [.map none]⟩),
  (128, ⟨.slice 3, 1, 24, [.slice none 0 0]⟩),
  (136, ⟨.slice 9, 1, 24, [.slice none 0 0]⟩),
  (143, ⟨.int .u64, 1, 8, [.int .u64 (0)]⟩),
  (144, ⟨.slice 40, 1, 24, [.slice none 0 0]⟩)]
def plains : List (Nat × List TD) := [(25, [.int .i64, .int .i64]), (46, [.int .i64, .int .i64, .str])]
def inv (w : World) : Prop := Lib.TabIs Tryz.prog w "internal/strconv.uint64pow10" .u64 Lib.pow10Tab ∧ (∃ m, w.cell? ⟨0, 0, none⟩ = some (.int .i64 m))
theorem zbsf {n : String} {g : Nat} {w w' : World} (hg : Tryz.prog.globalNamed n = some g) (h : w'.heap[g]? = w.heap[g]?) : w'.var? Tryz.prog n = w.var? Tryz.prog n := by
  unfold World.var?; rw [hg]; simp only [Option.bind_some, h]
theorem zbrw (w w' : World) (hi : inv w) (hb : ∀ b, b < 4 → w'.heap[b]? = w.heap[b]?) : inv w' := by
  obtain ⟨h1, ⟨m, h2⟩⟩ := hi
  refine ⟨(zbsf (g := 1) (by kernel_rfl) (hb 1 (by omega))).trans h1, ⟨m, ?_⟩⟩
  rw [← h2]; exact World.cell?_of_block (a := ⟨0, 0, none⟩) (hb 0 (by omega))

def base : Cx ty := { ti := fun T => infos.lookup T, dflt := fun _ => default, enc := fun T => (tabT codecs T).enc, dec := fun T => (tabT codecs T).dec, spec := fun _ => none, io := fun _ => [], eqs := fun T us vs => match plains.lookup T with | some ts => eqLits ts us vs | none => none, nt := 0, head := fun _ => [], out := fun _ _ => [], loops := fun _ => none, ng := 4, inv := inv }
theorem info2 : Tryz.prog.info? 2 = some Tryz.t2 := by kernel_rfl
theorem info3 : Tryz.prog.info? 3 = some Tryz.t3 := by kernel_rfl
theorem info4 : Tryz.prog.info? 4 = some Tryz.t4 := by kernel_rfl
theorem info5 : Tryz.prog.info? 5 = some Tryz.t5 := by kernel_rfl
theorem info9 : Tryz.prog.info? 9 = some Tryz.t9 := by kernel_rfl
theorem info22 : Tryz.prog.info? 22 = some Tryz.t22 := by kernel_rfl
theorem info23 : Tryz.prog.info? 23 = some Tryz.t23 := by kernel_rfl
theorem info25 : Tryz.prog.info? 25 = some Tryz.t25 := by kernel_rfl
theorem info28 : Tryz.prog.info? 28 = some Tryz.t28 := by kernel_rfl
theorem info40 : Tryz.prog.info? 40 = some Tryz.t40 := by kernel_rfl
theorem info42 : Tryz.prog.info? 42 = some Tryz.t42 := by kernel_rfl
theorem info43 : Tryz.prog.info? 43 = some Tryz.t43 := by kernel_rfl
theorem info44 : Tryz.prog.info? 44 = some Tryz.t44 := by kernel_rfl
theorem info46 : Tryz.prog.info? 46 = some Tryz.t46 := by kernel_rfl
theorem info48 : Tryz.prog.info? 48 = some Tryz.t48 := by kernel_rfl
theorem info50 : Tryz.prog.info? 50 = some Tryz.t50 := by kernel_rfl
theorem info52 : Tryz.prog.info? 52 = some Tryz.t52 := by kernel_rfl
theorem info59 : Tryz.prog.info? 59 = some Tryz.t59 := by kernel_rfl
theorem info65 : Tryz.prog.info? 65 = some Tryz.t65 := by kernel_rfl
theorem info69 : Tryz.prog.info? 69 = some Tryz.t69 := by kernel_rfl
theorem info106 : Tryz.prog.info? 106 = some Tryz.t106 := by kernel_rfl
theorem info128 : Tryz.prog.info? 128 = some Tryz.t128 := by kernel_rfl
theorem info136 : Tryz.prog.info? 136 = some Tryz.t136 := by kernel_rfl
theorem info143 : Tryz.prog.info? 143 = some Tryz.t143 := by kernel_rfl
theorem info144 : Tryz.prog.info? 144 = some Tryz.t144 := by kernel_rfl
theorem base_ti : ∀ T i, infos.lookup T = some i → InfoOK Tryz.prog T i := by
  intro T i h
  have h := mem_of_lookup _ _ _ h
  simp only [infos, List.mem_cons, List.not_mem_nil, or_false, Prod.mk.injEq] at h
  rcases h with ⟨rfl, rfl⟩ | ⟨rfl, rfl⟩ | ⟨rfl, rfl⟩ | ⟨rfl, rfl⟩ | ⟨rfl, rfl⟩ | ⟨rfl, rfl⟩ | ⟨rfl, rfl⟩ | ⟨rfl, rfl⟩ | ⟨rfl, rfl⟩ | ⟨rfl, rfl⟩ | ⟨rfl, rfl⟩ | ⟨rfl, rfl⟩ | ⟨rfl, rfl⟩ | ⟨rfl, rfl⟩ | ⟨rfl, rfl⟩ | ⟨rfl, rfl⟩ | ⟨rfl, rfl⟩ | ⟨rfl, rfl⟩ | ⟨rfl, rfl⟩ | ⟨rfl, rfl⟩ | ⟨rfl, rfl⟩ | ⟨rfl, rfl⟩ | ⟨rfl, rfl⟩ | ⟨rfl, rfl⟩ | ⟨rfl, rfl⟩
  · exact ⟨Tryz.t2, _, _, info2, Tryz.underlying2, rfl, rfl, rfl, rfl, rfl, ⟨by simp [oneCell], fun _ => rfl⟩, rfl⟩
  · exact ⟨Tryz.t3, _, _, info3, Tryz.underlying3, rfl, rfl, rfl, rfl, rfl, ⟨by simp [oneCell], fun _ => rfl⟩, rfl⟩
  · exact ⟨Tryz.t4, _, _, info4, Tryz.underlying4, rfl, rfl, rfl, rfl, rfl, ⟨by simp [oneCell], fun _ => rfl⟩, rfl⟩
  · exact ⟨Tryz.t5, _, _, info5, Tryz.underlying5, rfl, rfl, rfl, rfl, rfl, ⟨by simp [oneCell], fun _ => rfl⟩, rfl⟩
  · exact ⟨Tryz.t9, _, _, info9, Tryz.underlying9, rfl, rfl, rfl, rfl, rfl, ⟨by simp [oneCell], fun _ => rfl⟩, rfl⟩
  · exact ⟨Tryz.t22, _, _, info22, Tryz.underlying22, rfl, rfl, rfl, rfl, rfl, ⟨by simp [oneCell], fun _ => rfl⟩, rfl⟩
  · exact ⟨Tryz.t23, _, _, info23, Tryz.underlying23, rfl, rfl, rfl, rfl, rfl, ⟨by simp [oneCell], fun _ => rfl⟩, rfl⟩
  · exact ⟨Tryz.t25, _, _, info25, Tryz.underlying25, rfl, rfl, rfl, rfl, rfl, ⟨by simp [oneCell], fun h => by cases h⟩, ⟨_, rfl, rfl, fun f hf => by
      simp only [List.mem_cons, List.not_mem_nil, or_false] at hf
      rcases hf with rfl | rfl
      · exact Option.isSome_iff_exists.2 ⟨_, info3⟩
      · exact Option.isSome_iff_exists.2 ⟨_, info3⟩⟩⟩
  · exact ⟨Tryz.t28, _, _, info28, Tryz.underlying28, rfl, rfl, rfl, rfl, rfl, ⟨by simp [oneCell], fun _ => rfl⟩, rfl⟩
  · exact ⟨Tryz.t40, _, _, info40, Tryz.underlying40, rfl, rfl, rfl, rfl, rfl, ⟨by simp [oneCell], fun _ => rfl⟩, rfl⟩
  · exact ⟨Tryz.t42, _, _, info42, Tryz.underlying42, rfl, rfl, rfl, rfl, rfl, ⟨by simp [oneCell], fun h => by cases h⟩, ⟨_, rfl, rfl, fun f hf => by
      simp only [List.mem_cons, List.not_mem_nil, or_false] at hf
      rcases hf with rfl | rfl
      · exact Option.isSome_iff_exists.2 ⟨_, info2⟩
      · exact Option.isSome_iff_exists.2 ⟨_, info40⟩⟩⟩
  · exact ⟨Tryz.t43, _, _, info43, Tryz.underlying43, rfl, rfl, rfl, rfl, rfl, ⟨by simp [oneCell], fun _ => rfl⟩, rfl⟩
  · exact ⟨Tryz.t44, _, _, info44, Tryz.underlying44, rfl, rfl, rfl, rfl, rfl, ⟨by simp [oneCell], fun _ => rfl⟩, rfl⟩
  · exact ⟨Tryz.t46, _, _, info46, Tryz.underlying46, rfl, rfl, rfl, rfl, rfl, ⟨by simp [oneCell], fun h => by cases h⟩, ⟨_, rfl, rfl, fun f hf => by
      simp only [List.mem_cons, List.not_mem_nil, or_false] at hf
      rcases hf with rfl | rfl | rfl
      · exact Option.isSome_iff_exists.2 ⟨_, info3⟩
      · exact Option.isSome_iff_exists.2 ⟨_, info2⟩
      · exact Option.isSome_iff_exists.2 ⟨_, info9⟩⟩⟩
  · exact ⟨Tryz.t48, _, _, info48, Tryz.underlying48, rfl, rfl, rfl, rfl, rfl, ⟨by simp [oneCell], fun h => by cases h⟩, ⟨_, rfl, rfl, fun f hf => by
      simp only [List.mem_cons, List.not_mem_nil, or_false] at hf
      rcases hf with rfl | rfl | rfl | rfl | rfl | rfl | rfl
      · exact Option.isSome_iff_exists.2 ⟨_, info3⟩
      · exact Option.isSome_iff_exists.2 ⟨_, info25⟩
      · exact Option.isSome_iff_exists.2 ⟨_, info43⟩
      · exact Option.isSome_iff_exists.2 ⟨_, info3⟩
      · exact Option.isSome_iff_exists.2 ⟨_, info44⟩
      · exact Option.isSome_iff_exists.2 ⟨_, info3⟩
      · exact Option.isSome_iff_exists.2 ⟨_, info46⟩⟩⟩
  · exact ⟨Tryz.t50, _, _, info50, Tryz.underlying50, rfl, rfl, rfl, rfl, rfl, ⟨by simp [oneCell], fun h => by cases h⟩, ⟨_, rfl, rfl, fun f hf => by
      simp only [List.mem_cons, List.not_mem_nil, or_false] at hf
      rcases hf with rfl | rfl
      · exact Option.isSome_iff_exists.2 ⟨_, info48⟩
      · exact Option.isSome_iff_exists.2 ⟨_, info3⟩⟩⟩
  · exact ⟨Tryz.t52, _, _, info52, Tryz.underlying52, rfl, rfl, rfl, rfl, rfl, ⟨by simp [oneCell], fun h => by cases h⟩, ⟨_, rfl, rfl, fun f hf => by
      simp only [List.mem_cons, List.not_mem_nil, or_false] at hf
      rcases hf with rfl | rfl
      · exact Option.isSome_iff_exists.2 ⟨_, info46⟩
      · exact Option.isSome_iff_exists.2 ⟨_, info23⟩⟩⟩
  · exact ⟨Tryz.t59, _, _, info59, Tryz.underlying59, rfl, rfl, rfl, rfl, rfl, ⟨by simp [oneCell], fun _ => rfl⟩, rfl⟩
  · exact ⟨Tryz.t65, _, _, info65, Tryz.underlying65, rfl, rfl, rfl, rfl, rfl, ⟨by simp [oneCell], fun _ => rfl⟩, rfl⟩
  · exact ⟨Tryz.t69, _, _, info69, Tryz.underlying69, rfl, rfl, rfl, rfl, rfl, ⟨by simp [oneCell], fun h => by cases h⟩, ⟨_, rfl, rfl, fun f hf => by
      simp only [List.mem_cons, List.not_mem_nil, or_false] at hf
      rcases hf with rfl | rfl
      · exact Option.isSome_iff_exists.2 ⟨_, info25⟩
      · exact Option.isSome_iff_exists.2 ⟨_, info23⟩⟩⟩
  · exact ⟨Tryz.t106, _, _, info106, Tryz.underlying106, rfl, rfl, rfl, rfl, rfl, ⟨by simp [oneCell], fun _ => rfl⟩, rfl⟩
  · exact ⟨Tryz.t128, _, _, info128, Tryz.underlying128, rfl, rfl, rfl, rfl, rfl, ⟨by simp [oneCell], fun _ => rfl⟩, rfl⟩
  · exact ⟨Tryz.t136, _, _, info136, Tryz.underlying136, rfl, rfl, rfl, rfl, rfl, ⟨by simp [oneCell], fun _ => rfl⟩, rfl⟩
  · exact ⟨Tryz.t143, _, _, info143, Tryz.underlying143, rfl, rfl, rfl, rfl, rfl, ⟨by simp [oneCell], fun _ => rfl⟩, rfl⟩
  · exact ⟨Tryz.t144, _, _, info144, Tryz.underlying144, rfl, rfl, rfl, rfl, rfl, ⟨by simp [oneCell], fun _ => rfl⟩, rfl⟩
theorem zbsa : ∀ T us vs b, (match plains.lookup T with | some ts => eqLits ts us vs | none => none) = some b → ∀ w, (binOp .eql T (.agg us.toArray) (.agg vs.toArray)).run Tryz.prog w = .ok (.bool b) w ∧ (binOp .neq T (.agg us.toArray) (.agg vs.toArray)).run Tryz.prog w = .ok (.bool (!b)) w ∧
    ∀ op x y, (eqGuard op T x y (.agg us.toArray) (.agg vs.toArray)).run Tryz.prog w = .ok () w := by
  intro T us vs b h w
  split at h
  · rename_i ts hl
    have hl := mem_of_lookup _ _ _ hl
    simp only [plains, List.mem_cons, List.not_mem_nil, or_false, Prod.mk.injEq] at hl
    rcases hl with ⟨rfl, rfl⟩ | ⟨rfl, rfl⟩
    · refine eqs_struct _ _ Tryz.underlying25 (by kernel_rfl) (by kernel_rfl) rfl ?_ h w
      intro j f t hj ht
      rcases j with _ | j
      · simp at hj ht; subst hj ht; exact ⟨rfl, by decide, _, Tryz.underlying3, rfl⟩
      rcases j with _ | j
      · simp at hj ht; subst hj ht; exact ⟨rfl, by decide, _, Tryz.underlying3, rfl⟩
      simp at hj
    · refine eqs_struct _ _ Tryz.underlying46 (by kernel_rfl) (by kernel_rfl) rfl ?_ h w
      intro j f t hj ht
      rcases j with _ | j
      · simp at hj ht; subst hj ht; exact ⟨rfl, by decide, _, Tryz.underlying3, rfl⟩
      rcases j with _ | j
      · simp at hj ht; subst hj ht; exact ⟨rfl, by decide, _, Tryz.underlying2, rfl⟩
      rcases j with _ | j
      · simp at hj ht; subst hj ht; exact ⟨rfl, by decide, _, Tryz.underlying9, rfl⟩
      simp at hj
  · cases h
theorem base_ok : CxOK Tryz.prog base := ⟨base_ti, fun T x => by rw [show szOf base T = _ from (tab_size codecs infos rfl T).symm]; exact DT.len _ x, fun T x c h => by have := DT.cell _ _ c h; revert this; cases c <;> exact id, fun T cs x h F w us hr => DT.ok _ base F w us cs x h hr, zbsa, zbrw⟩
def base0 : Cx ty := { base with dr := false }
theorem zlc : CxOK Tryz.prog base0 := CxOK.cg (cx := base) (cx' := base0) ⟨rfl, rfl, rfl, rfl, rfl, rfl⟩ base_ok
theorem draws : Tryz.prog.follows .mixedOrders = true := by kernel_rfl
end Go.Proofs.YtnolcogncjijpaaGreatDoor
/- What is read of an argument, as typed data. -/
namespace Go.Proofs.YtnolcogncjijpaaGreatDoor
open Go Go.Ab
def wf2 (x : Int) : Prop := (Lit.int .i64 x).wf = true
def wf3 (x : Int) : Prop := (Lit.int .i64 x).wf = true
def wf4 (x : Bool) : Prop := True
def wf5 (x : Int) : Prop := (Lit.int .u8 x).wf = true
def wf9 (x : ByteArray) : Prop := ByteArray.size x ≤ roomLen
def wf25 (x : RowID) : Prop := wf3 x.Table ∧ wf3 x.Seq
def wf46 (x : Value) : Prop := wf3 x.Kind ∧ wf2 x.Int ∧ wf9 x.Text
mutual
def wfAtom : Atom → Prop
  | ⟨k, r, a, f, i, o, b⟩ => wf3 k ∧ wf25 r ∧ (wfAnns a ∧ a.length ≤ roomLen) ∧ wf3 f ∧ (wfItems i ∧ i.length ≤ roomLen) ∧ wf3 o ∧ wf46 b
def zzl : Factor → Prop
  | ⟨a, e⟩ => wfAtom a ∧ wf3 e
def zs2 : List Factor → Prop
  | [] => True
  | x :: r => zzl x ∧ zs2 r
def wfTerm : Term → Prop
  | ⟨c, f⟩ => wf2 c ∧ (zs2 f ∧ f.length ≤ roomLen)
def wfAnn : List Term → Prop
  | [] => True
  | x :: r => wfTerm x ∧ wfAnn r
def wfAnns : List (List Term) → Prop
  | [] => True
  | x :: r => (wfAnn x ∧ x.length ≤ roomLen) ∧ wfAnns r
def wfItem : Weighted → Prop
  | ⟨v, a⟩ => wf46 v ∧ (wfAnn a ∧ a.length ≤ roomLen)
def wfItems : List Weighted → Prop
  | [] => True
  | x :: r => wfItem x ∧ wfItems r
end
theorem zbl6 : ∀ l : List Factor, (∀ x ∈ l, zzl x) → zs2 l
  | [], _ => by unfold zs2; trivial
  | x :: r, h => by unfold zs2; exact ⟨h x (by simp), zbl6 r fun y hy => h y (by simp [hy])⟩
theorem zbqr : ∀ l : List Term, (∀ x ∈ l, wfTerm x) → wfAnn l
  | [], _ => by unfold wfAnn; trivial
  | x :: r, h => by unfold wfAnn; exact ⟨h x (by simp), zbqr r fun y hy => h y (by simp [hy])⟩
theorem zbpy : ∀ l : List (List Term), (∀ x ∈ l, wfAnn x ∧ x.length ≤ roomLen) → wfAnns l
  | [], _ => by unfold wfAnns; trivial
  | x :: r, h => by unfold wfAnns; exact ⟨h x (by simp), zbpy r fun y hy => h y (by simp [hy])⟩
theorem zboc : ∀ l : List Weighted, (∀ x ∈ l, wfItem x) → wfItems l
  | [], _ => by unfold wfItems; trivial
  | x :: r, h => by unfold wfItems; exact ⟨h x (by simp), zboc r fun y hy => h y (by simp [hy])⟩

def wf23 (x : List Term) : Prop := wfAnn x ∧ List.length x ≤ roomLen
def wf40 (x : List Factor) : Prop := zs2 x ∧ List.length x ≤ roomLen
def wf42 (x : Term) : Prop := wfTerm x
def wf43 (x : List (List Term)) : Prop := wfAnns x ∧ List.length x ≤ roomLen
def wf44 (x : List Weighted) : Prop := wfItems x ∧ List.length x ≤ roomLen
def wf48 (x : Atom) : Prop := wfAtom x
def wf50 (x : Factor) : Prop := zzl x
def wf52 (x : Weighted) : Prop := wfItem x
def wf69 (x : Binding) : Prop := wf25 x.Row ∧ wf23 x.To
def wf59 (x : List Binding) : Prop := (∀ y ∈ x, wf69 y) ∧ List.length x ≤ roomLen
def wf (T : Nat) : ty T → Prop := match T with
  | 2 => wf2
  | 3 => wf3
  | 4 => wf4
  | 5 => wf5
  | 9 => wf9
  | 23 => wf23
  | 25 => wf25
  | 40 => wf40
  | 42 => wf42
  | 43 => wf43
  | 44 => wf44
  | 46 => wf46
  | 48 => wf48
  | 50 => wf50
  | 52 => wf52
  | 59 => wf59
  | 69 => wf69
  | _ => fun _ => True
theorem reads2 : Reads Tryz.prog base wf 2 := reads_int Tryz.underlying2 (fun n => n) (fun _ => rfl) (fun _ h => h)
theorem reads3 : Reads Tryz.prog base wf 3 := reads_int Tryz.underlying3 (fun n => n) (fun _ => rfl) (fun _ h => h)
theorem reads4 : Reads Tryz.prog base wf 4 := reads_bool Tryz.underlying4 (fun n => n) (fun _ => rfl) (fun _ => trivial)
theorem reads5 : Reads Tryz.prog base wf 5 := reads_int Tryz.underlying5 (fun n => n) (fun _ => rfl) (fun _ h => h)
theorem reads9 : Reads Tryz.prog base wf 9 := reads_str Tryz.underlying9 (fun n => n) (fun _ => rfl) (fun _ h => h)
theorem reads25 : Reads Tryz.prog base wf 25 := by
  intro H en w sp held fuel cs y h hz
  obtain ⟨xs, n, _, hy, hl, hlen, hf⟩ := DataW.trod_struct Tryz.underlying25 h
  have hs := struct_weights Tryz.underlying25 hy hz
  obtain ⟨x0, h0, w0⟩ := field_reads (off := 0) reads3 (by kernel_rfl) hlen hf hs 0 _ rfl rfl rfl
  obtain ⟨x1, h1, w1⟩ := field_reads (off := 1) reads3 (by kernel_rfl) hlen hf hs 1 _ rfl rfl rfl
  have hl : cs.length = 2 := hl.trans (by kernel_rfl)
  have := all2_chunk h0 (all2_end h1 hl)
  exact ⟨(⟨x0, x1⟩ : RowID), this, ⟨w0, w1⟩⟩
theorem reads46 : Reads Tryz.prog base wf 46 := by
  intro H en w sp held fuel cs y h hz
  obtain ⟨xs, n, _, hy, hl, hlen, hf⟩ := DataW.trod_struct Tryz.underlying46 h
  have hs := struct_weights Tryz.underlying46 hy hz
  obtain ⟨x0, h0, w0⟩ := field_reads (off := 0) reads3 (by kernel_rfl) hlen hf hs 0 _ rfl rfl rfl
  obtain ⟨x1, h1, w1⟩ := field_reads (off := 1) reads2 (by kernel_rfl) hlen hf hs 1 _ rfl rfl rfl
  obtain ⟨x2, h2, w2⟩ := field_reads (off := 2) reads9 (by kernel_rfl) hlen hf hs 2 _ rfl rfl rfl
  have hl : cs.length = 3 := hl.trans (by kernel_rfl)
  have := all2_chunk h0 (all2_chunk h1 (all2_end h2 hl))
  exact ⟨(⟨x0, x1, x2⟩ : Value), this, ⟨w0, w1, w2⟩⟩
theorem zvz : ∀ m, ReadsB Tryz.prog base wf m 23 ∧ ReadsB Tryz.prog base wf m 40 ∧ ReadsB Tryz.prog base wf m 42 ∧ ReadsB Tryz.prog base wf m 43 ∧ ReadsB Tryz.prog base wf m 44 ∧ ReadsB Tryz.prog base wf m 48 ∧ ReadsB Tryz.prog base wf m 50 ∧ ReadsB Tryz.prog base wf m 52
  | 0 => ⟨readsB_zero, readsB_zero, readsB_zero, readsB_zero, readsB_zero, readsB_zero, readsB_zero, readsB_zero⟩
  | m + 1 => by
    obtain ⟨h23, h40, h42, h43, h44, h48, h50, h52⟩ := zvz m
    refine ⟨?_, ?_, ?_, ?_, ?_, ?_, ?_, ?_⟩
    · exact reads_sliceB base_ok Tryz.underlying23 (by kernel_rfl) (by decide) (fun l => l) (fun _ => rfl) (of_decide_eq_true (by kernel_rfl)) h42 (fun l h h2 => ⟨zbqr l h, h2⟩)
    · exact reads_sliceB base_ok Tryz.underlying40 (by kernel_rfl) (by decide) (fun l => l) (fun _ => rfl) (of_decide_eq_true (by kernel_rfl)) h50 (fun l h h2 => ⟨zbl6 l h, h2⟩)
    · intro H en w sp held fuel cs y hfu h hz
      obtain ⟨xs, n, hn, hy, hl, hlen, hf⟩ := DataW.trod_struct Tryz.underlying42 h
      have hs := struct_weights Tryz.underlying42 hy hz
      have hn : n ≤ m := by omega
      obtain ⟨x0, hx0, w0⟩ := field_readsB (off := 0) (reads2.at m) (by kernel_rfl) hn hlen hf hs 0 _ rfl rfl rfl
      obtain ⟨x1, hx1, w1⟩ := field_readsB (off := 1) h40 (by kernel_rfl) hn hlen hf hs 1 _ rfl rfl rfl
      have hl : cs.length = 2 := hl.trans (by kernel_rfl)
      have := all2_chunk hx0 (all2_end hx1 hl)
      exact ⟨(⟨x0, x1⟩ : Term), this, by show wfTerm (⟨x0, x1⟩ : Term); unfold wfTerm; exact ⟨w0, w1⟩⟩
    · exact reads_sliceB base_ok Tryz.underlying43 (by kernel_rfl) (by decide) (fun l => l) (fun _ => rfl) (of_decide_eq_true (by kernel_rfl)) h23 (fun l h h2 => ⟨zbpy l h, h2⟩)
    · exact reads_sliceB base_ok Tryz.underlying44 (by kernel_rfl) (by decide) (fun l => l) (fun _ => rfl) (of_decide_eq_true (by kernel_rfl)) h52 (fun l h h2 => ⟨zboc l h, h2⟩)
    · intro H en w sp held fuel cs y hfu h hz
      obtain ⟨xs, n, hn, hy, hl, hlen, hf⟩ := DataW.trod_struct Tryz.underlying48 h
      have hs := struct_weights Tryz.underlying48 hy hz
      have hn : n ≤ m := by omega
      obtain ⟨x0, hx0, w0⟩ := field_readsB (off := 0) (reads3.at m) (by kernel_rfl) hn hlen hf hs 0 _ rfl rfl rfl
      obtain ⟨x1, hx1, w1⟩ := field_readsB (off := 1) (reads25.at m) (by kernel_rfl) hn hlen hf hs 1 _ rfl rfl rfl
      obtain ⟨x2, hx2, w2⟩ := field_readsB (off := 3) h43 (by kernel_rfl) hn hlen hf hs 2 _ rfl rfl rfl
      obtain ⟨x3, hx3, w3⟩ := field_readsB (off := 4) (reads3.at m) (by kernel_rfl) hn hlen hf hs 3 _ rfl rfl rfl
      obtain ⟨x4, hx4, w4⟩ := field_readsB (off := 5) h44 (by kernel_rfl) hn hlen hf hs 4 _ rfl rfl rfl
      obtain ⟨x5, hx5, w5⟩ := field_readsB (off := 6) (reads3.at m) (by kernel_rfl) hn hlen hf hs 5 _ rfl rfl rfl
      obtain ⟨x6, hx6, w6⟩ := field_readsB (off := 7) (reads46.at m) (by kernel_rfl) hn hlen hf hs 6 _ rfl rfl rfl
      have hl : cs.length = 10 := hl.trans (by kernel_rfl)
      have := all2_chunk hx0 (all2_chunk hx1 (all2_chunk hx2 (all2_chunk hx3 (all2_chunk hx4 (all2_chunk hx5 (all2_end hx6 hl))))))
      exact ⟨(⟨x0, x1, x2, x3, x4, x5, x6⟩ : Atom), this, by show wfAtom (⟨x0, x1, x2, x3, x4, x5, x6⟩ : Atom); unfold wfAtom; exact ⟨w0, w1, w2, w3, w4, w5, w6⟩⟩
    · intro H en w sp held fuel cs y hfu h hz
      obtain ⟨xs, n, hn, hy, hl, hlen, hf⟩ := DataW.trod_struct Tryz.underlying50 h
      have hs := struct_weights Tryz.underlying50 hy hz
      have hn : n ≤ m := by omega
      obtain ⟨x0, hx0, w0⟩ := field_readsB (off := 0) h48 (by kernel_rfl) hn hlen hf hs 0 _ rfl rfl rfl
      obtain ⟨x1, hx1, w1⟩ := field_readsB (off := 10) (reads3.at m) (by kernel_rfl) hn hlen hf hs 1 _ rfl rfl rfl
      have hl : cs.length = 11 := hl.trans (by kernel_rfl)
      have := all2_chunk hx0 (all2_end hx1 hl)
      exact ⟨(⟨x0, x1⟩ : Factor), this, by show zzl (⟨x0, x1⟩ : Factor); unfold zzl; exact ⟨w0, w1⟩⟩
    · intro H en w sp held fuel cs y hfu h hz
      obtain ⟨xs, n, hn, hy, hl, hlen, hf⟩ := DataW.trod_struct Tryz.underlying52 h
      have hs := struct_weights Tryz.underlying52 hy hz
      have hn : n ≤ m := by omega
      obtain ⟨x0, hx0, w0⟩ := field_readsB (off := 0) (reads46.at m) (by kernel_rfl) hn hlen hf hs 0 _ rfl rfl rfl
      obtain ⟨x1, hx1, w1⟩ := field_readsB (off := 3) h23 (by kernel_rfl) hn hlen hf hs 1 _ rfl rfl rfl
      have hl : cs.length = 4 := hl.trans (by kernel_rfl)
      have := all2_chunk hx0 (all2_end hx1 hl)
      exact ⟨(⟨x0, x1⟩ : Weighted), this, by show wfItem (⟨x0, x1⟩ : Weighted); unfold wfItem; exact ⟨w0, w1⟩⟩
theorem reads23 : Reads Tryz.prog base wf 23 := reads_all fun m => (zvz m).1
theorem reads40 : Reads Tryz.prog base wf 40 := reads_all fun m => (zvz m).2.1
theorem reads42 : Reads Tryz.prog base wf 42 := reads_all fun m => (zvz m).2.2.1
theorem reads43 : Reads Tryz.prog base wf 43 := reads_all fun m => (zvz m).2.2.2.1
theorem reads44 : Reads Tryz.prog base wf 44 := reads_all fun m => (zvz m).2.2.2.2.1
theorem reads48 : Reads Tryz.prog base wf 48 := reads_all fun m => (zvz m).2.2.2.2.2.1
theorem reads50 : Reads Tryz.prog base wf 50 := reads_all fun m => (zvz m).2.2.2.2.2.2.1
theorem reads52 : Reads Tryz.prog base wf 52 := reads_all fun m => (zvz m).2.2.2.2.2.2.2
theorem reads69 : Reads Tryz.prog base wf 69 := by
  intro H en w sp held fuel cs y h hz
  obtain ⟨xs, n, _, hy, hl, hlen, hf⟩ := DataW.trod_struct Tryz.underlying69 h
  have hs := struct_weights Tryz.underlying69 hy hz
  obtain ⟨x0, h0, w0⟩ := field_reads (off := 0) reads25 (by kernel_rfl) hlen hf hs 0 _ rfl rfl rfl
  obtain ⟨x1, h1, w1⟩ := field_reads (off := 2) reads23 (by kernel_rfl) hlen hf hs 1 _ rfl rfl rfl
  have hl : cs.length = 3 := hl.trans (by kernel_rfl)
  have := all2_chunk h0 (all2_end h1 hl)
  exact ⟨(⟨x0, x1⟩ : Binding), this, ⟨w0, w1⟩⟩
theorem reads59 : Reads Tryz.prog base wf 59 := reads_slice base_ok Tryz.underlying59 (by kernel_rfl) (by decide) (fun l => l) (fun _ => rfl) (of_decide_eq_true (by kernel_rfl)) reads69 (fun _ h h2 => ⟨h, h2⟩)
end Go.Proofs.YtnolcogncjijpaaGreatDoor
/- A world in which the row's condition holds; what the program's rows share. -/
namespace Go.Proofs.YtnolcogncjijpaaGreatDoor
open Go Go.Ab Go.Lib
theorem own : ownKnob Tryz.prog.godebug = none := by kernel_rfl
theorem laidOut : laidOutB Tryz.prog = true := by kernel_rfl
def litOf : DataW Unit → Go.Value
  | .lit (.int k n) => .int k n
  | .lit (.bool b) => .bool b
  | .lit (.string s) => .string ⟨s.toArray⟩
  | _ => undef
def cellsF : Nat → DataW Unit → List Go.Value
  | n + 1, .agg ds => ds.flatMap (cellsF n)
  | _, d => [litOf d]
def cellsOf (d : DataW Unit) : Array Go.Value := (cellsF 3 d).toArray
def layAt (h : Array Obj) (g : Nat) (cs : Array Go.Value) : Array Obj := h.modify g fun
  | .cells _ t fr => .cells cs t fr
  | o => o
def zbp0 (os : Os) : World :=
  let w0 := World.holding Tryz.prog os ⟨#[], #[], []⟩
  { w0 with heap := layAt (layAt (layAt (layAt (layAt (w0.heap) 2 (cellsOf Rows.laid_math_bits_deBruijn32tab)) 3 (cellsOf Rows.laid_math_bits_deBruijn64tab)) 1 (cellsOf Rows.laid_internal_strconv_uint64pow10)) 5 (cellsOf Rows.laid_unicode_utf8_acceptRanges)) 4 (cellsOf Rows.laid_unicode_utf8_first) }
def laidAll : List (String × DataW Unit) := [("math/bits.deBruijn32tab", Rows.laid_math_bits_deBruijn32tab), ("math/bits.deBruijn64tab", Rows.laid_math_bits_deBruijn64tab), ("internal/strconv.uint64pow10", Rows.laid_internal_strconv_uint64pow10), ("unicode/utf8.acceptRanges", Rows.laid_unicode_utf8_acceptRanges), ("unicode/utf8.first", Rows.laid_unicode_utf8_first)]
theorem zbp4 (os : Os) (args : Array Go.Value) : laidMetH Tryz.prog laidAll ((zbp0 os).forCall (fun _ _ => 0) ⟨#[], args, []⟩).memory :=
  laidMetH_of_parts (laidMet_of_run3 8 (by kernel_rfl) (by kernel_rfl) (by kernel_rfl)) (by kernel_rfl)
theorem zbr8 {w : World} (h : laidMetH Tryz.prog laidAll w) : laidMet Tryz.prog laidAll w := by
  unfold laidMetH at h
  rw [show (laidAll.filter fun x => x.2.handleName?.isSome) = [] by kernel_rfl] at h
  exact h
theorem invMet (w : World) (hsh : w.ShapedOpen Tryz.prog) (h : laidMetH Tryz.prog laidAll w) : base.inv w ∧ base.ng ≤ w.heap.size := by
  have h := zbr8 h
  have h1 : TabIs Tryz.prog w "internal/strconv.uint64pow10" .u64 pow10Tab :=
    tabIs_of_head (g := 1) (by kernel_rfl) (by kernel_rfl) Tryz.underlying199 Tryz.underlying178 (by kernel_rfl) (by kernel_rfl) h.tail.tail
  have h4 := cell_of_shapedOpen_int (g := 0) (t := 3) (zero := #[.int .i64 0]) hsh (of_decide_eq_true (by kernel_rfl)) (by kernel_rfl) rfl (by kernel_rfl) (by kernel_rfl) Tryz.underlying3
  obtain ⟨ps, ⟨g', t', cs, fuel, p, q, hg', _, hvar, _⟩, _⟩ := h.tail
  refine ⟨⟨h1, h4⟩, ?_⟩
  unfold World.var? at hvar
  rw [show Tryz.prog.globalNamed "math/bits.deBruijn64tab" = some 3 by kernel_rfl] at hvar
  simp only [Option.bind_some] at hvar
  show 4 ≤ w.heap.size
  cases hh : w.heap[3]? with
  | none => rw [hh] at hvar; cases hvar
  | some o => exact (Array.getElem?_eq_some_iff.1 hh).1
end Go.Proofs.YtnolcogncjijpaaGreatDoor
namespace Go.Proofs.YtnolcogncjijpaaGreatDoor
open Go Go.Ab
def zbb1 (r : Int) : ARes ty := ⟨[.pure (.lit (.int .i64 r))], []⟩
def zbf3 : AL base (List Term × List Term × Unit) := aCons (aPure (vSl 42)) (aCons (aPure (vSl 42)) aNil)
def zmp (F : List Term → List Term → Bool × Int) : Ab.Spec ty := mkSpec zbf3 fun x => ((F x.1 x.2.1).1, zbb1 (F x.1 x.2.1).2)
def zzb (r : Int) : ARes ty := ⟨[.pure (.lit (.int .i64 r))], []⟩
def z2e : AL base (List Factor × List Factor × Unit) := aCons (aPure (vSl 50)) (aCons (aPure (vSl 50)) aNil)
def zk3 (F : List Factor → List Factor → Bool × Int) : Ab.Spec ty := mkSpec z2e fun x => ((F x.1 x.2.1).1, zzb (F x.1 x.2.1).2)
def z4d (r : Int) : ARes ty := ⟨[.pure (.lit (.int .i64 r))], []⟩
def z7e : AL base (Atom × Atom × Unit) := aCons (aPure (vAgg 48)) (aCons (aPure (vAgg 48)) aNil)
def znk (F : Atom → Atom → Bool × Int) : Ab.Spec ty := mkSpec z7e fun x => ((F x.1 x.2.1).1, z4d (F x.1 x.2.1).2)
def z1w (r : Int) : ARes ty := ⟨[.pure (.lit (.int .i64 r))], []⟩
def z5h : AL base (List Weighted × List Weighted × Unit) := aCons (aPure (vSl 52)) (aCons (aPure (vSl 52)) aNil)
def zmh (F : List Weighted → List Weighted → Bool × Int) : Ab.Spec ty := mkSpec z5h fun x => ((F x.1 x.2.1).1, z1w (F x.1 x.2.1).2)
def zbn4 : Cx ty := mkCx base 11 [] [] [] [] [] []
def z8m (a : Int) (b : Int) : Wy0 (Int) := .i (decide (a < b)) (.k (-1 : Int)) (.i (decide (a > b)) (.k (1 : Int)) (.k (0 : Int)))
def zcy (a : Int) (b : Int) : Bool × Int := (z8m a b).fin default
def zbdh (r : Int) : ARes ty := ⟨[.pure (.lit (.int .i64 r))], []⟩
def zbiq : AL base (Int × Int × Unit) := aCons (aPure (vInt .i64)) (aCons (aPure (vInt .i64)) aNil)
def zke : Ab.Spec ty := mkSpec zbiq fun x => ((zcy x.1 x.2.1).1, zbdh (zcy x.1 x.2.1).2)
theorem zlj : Sound Tryz.prog base 82 zke :=
  sound_W (cx' := zbn4) draws base_ok mkSame (mkSpecs trivial) Tryz.call82 Tryz.func82 (c := body Tryz.f82) (by kernel_rfl) (loopsOK_of (l := []) (by kernel_rfl) trivial) (sg := ⟨[.pure], []⟩) (A := zbiq) (res := zbdh) (W := fun x => z8m x.1 x.2.1) (z := default) (fun x => by kernel_rfl) (fun _ => by kernel_rfl)
def zbmc (zbe : List Factor → List Factor → Bool × Int) (a : List Term) (b : List Term) (i : Int) : Wy (List Term × List Term × Int × Unit) (Unit) (Int ⊕ (List Term × List Term)) := .i (decide (i < Int.ofNat a.length)) (.i (decide (i < Int.ofNat b.length)) (.i (decide ((0 : Int) ≤ i) && decide (i < Int.ofNat a.length)) (.i (decide ((0 : Int) ≤ i) && decide (i < Int.ofNat b.length)) (.bn (zbe (a.getD i.toNat default).Factors (b.getD i.toNat default).Factors) fun r1 => .i (r1 != (0 : Int)) (.k (.inl (r1))) (.i (decide ((0 : Int) ≤ i) && decide (i < Int.ofNat a.length)) (.i (decide ((0 : Int) ≤ i) && decide (i < Int.ofNat b.length)) (.bn (zcy (a.getD i.toNat default).Coeff (b.getD i.toNat default).Coeff) fun r0 => .i (r0 != (0 : Int)) (.k (.inl (r0))) (.h (a, b, (IntKind.i64.wrap (i + (1 : Int))), ()) ())) .d) .d)) .d) .d) (.k (.inr (a, b)))) (.k (.inr (a, b)))
def zzh (zbe : List Factor → List Factor → Bool × Int) (x : List Term × List Term × Int × Unit) (y : Unit) : Wy (List Term × List Term × Int × Unit) (Unit) (Int ⊕ (List Term × List Term)) := zbmc zbe x.1 x.2.1 x.2.2.1
def zblv (zbe : List Factor → List Factor → Bool × Int) (n : Nat) (a : List Term) (b : List Term) (i : Int) : Bool × (Int ⊕ (List Term × List Term)) := iterW (zzh zbe) (.inl default) n (a, b, i, ()) ()
def z6r (r : Int ⊕ (List Term × List Term)) : LTree ty := .ite (isL r) (.done .ret [.lit (.int .i64 (getL r))] []) (.done (.exit 0) [.sl 42 ((getR r).1), .sl 42 ((getR r).2)] [])
def zbaj : LL ty (List Term × List Term × Int × Unit) := llCons (lSl 42) (llCons (lSl 42) (llCons (lInt .i64) llNil))
def zbac : BL ty (Unit) := bNil
def z9f (zbe : List Factor → List Factor → Bool × Int) : Cx ty := mkCx base 53 [(82, zke), (89, (zk3 zbe))] [] [(2, [(0, .keep), (1, .keep), (5, .keep)])] [(2, 1, [(0, .keep), (1, .keep)]), (2, 0, [(4, .keep)])] [(2, spW zbaj zbac (zzh zbe) (.inl default) z6r fun x y => (x.1.length + x.2.1.length + Int.toNat x.2.2.1 + 1))] []
theorem zblb (zbe : List Factor → List Factor → Bool × Int) : LoopOK (z9f zbe) (lp (body Tryz.f39) 0) := loopOK_W (id := 2) (V := zbaj) (B := zbac) (W := zzh zbe) (z := .inl default) (tr := z6r) (m := fun x y => (x.1.length + x.2.1.length + Int.toNat x.2.2.1 + 1)) (by kernel_rfl) (by kernel_rfl) fun R H K x y => by kernel_rfl
def zbct (zbe : List Factor → List Factor → Bool × Int) (a : List Term) (b : List Term) : Wy0 (Int) := .bn (zblv zbe (a.length + b.length + Int.toNat (0 : Int) + (1 : Nat)) a b (0 : Int)) fun r5 => .i (isL r5) (.k (getL r5)) (.bn (zcy (Int.ofNat (getR r5).fst.length) (Int.ofNat (getR r5).snd.length)) fun r4 => .k r4)
def zxw (zbe : List Factor → List Factor → Bool × Int) (a : List Term) (b : List Term) : Bool × Int := (zbct zbe a b).fin default
theorem zbhi (zbe : List Factor → List Factor → Bool × Int) (zbe3 : Sound Tryz.prog base 89 (zk3 zbe)) : Sound Tryz.prog base 39 (zmp (zxw zbe)) :=
  sound_W (cx' := (z9f zbe)) draws base_ok mkSame (mkSpecs ⟨(zlj), (zbe3), trivial⟩) Tryz.call39 Tryz.func39 (c := body Tryz.f39) (by kernel_rfl) (loopsOK_of (l := [lp (body Tryz.f39) 0]) (by kernel_rfl) ⟨zblb zbe, trivial⟩) (sg := ⟨[.pure], []⟩) (A := zbf3) (res := zbb1) (W := fun x => zbct zbe x.1 x.2.1) (z := default) (fun x => by kernel_rfl) (fun _ => by kernel_rfl)
def zbp3 : Cx ty := mkCx base 4 [] [] [] [] [] []
def zbde (less : Bool) : Wy0 (Int) := .i (less) (.k (-1 : Int)) (.k (1 : Int))
def zz5 (less : Bool) : Bool × Int := (zbde less).fin default
def zbhm (r : Int) : ARes ty := ⟨[.pure (.lit (.int .i64 r))], []⟩
def zbl9 : AL base (Bool × Unit) := aCons (aPure vBool) aNil
def zbgi : Ab.Spec ty := mkSpec zbl9 fun x => ((zz5 x.1).1, zbhm (zz5 x.1).2)
theorem zbnp : Sound Tryz.prog base 138 zbgi :=
  sound_W (cx' := zbp3) draws base_ok mkSame (mkSpecs trivial) Tryz.call138 Tryz.func138 (c := body Tryz.f138) (by kernel_rfl) (loopsOK_of (l := []) (by kernel_rfl) trivial) (sg := ⟨[.pure], []⟩) (A := zbl9) (res := zbhm) (W := fun x => zbde x.1) (z := default) (fun x => by kernel_rfl) (fun _ => by kernel_rfl)
def zbni : Cx ty := mkCx base 38 [(138, zbgi)] [] [] [] [] []
def z4j (a : Value) (b : Value) : Wy0 (Int) := .i (a.Kind != b.Kind) (.bn (zz5 (decide (a.Kind < b.Kind))) fun r0 => .k r0) (.i (a.Int != b.Int) (.bn (zz5 (decide (a.Int < b.Int))) fun r1 => .k r1) (.i (!a.Text.toList == b.Text.toList) (.bn (zz5 (Op.bytesLess a.Text.toList b.Text.toList)) fun r2 => .k r2) (.k (0 : Int))))
def zpm (a : Value) (b : Value) : Bool × Int := (z4j a b).fin default
def zbci (r : Int) : ARes ty := ⟨[.pure (.lit (.int .i64 r))], []⟩
def zbf6 : AL base (Value × Value × Unit) := aCons (aPure (vAgg 46)) (aCons (aPure (vAgg 46)) aNil)
def zy9 : Ab.Spec ty := mkSpec zbf6 fun x => ((zpm x.1 x.2.1).1, zbci (zpm x.1 x.2.1).2)
theorem z7m : Sound Tryz.prog base 83 zy9 :=
  sound_W (cx' := zbni) draws base_ok mkSame (mkSpecs ⟨(zbnp), trivial⟩) Tryz.call83 Tryz.func83 (c := body Tryz.f83) (by kernel_rfl) (loopsOK_of (l := []) (by kernel_rfl) trivial) (sg := ⟨[.pure], []⟩) (A := zbf6) (res := zbci) (W := fun x => z4j x.1 x.2.1) (z := default) (fun x => by kernel_rfl) (fun _ => by kernel_rfl)
def zbk5 : Cx ty := mkCx base 19 [(82, zke)] [] [] [] [] []
def zze (a : RowID) (b : RowID) : Wy0 (Int) := .bn (zcy a.Table b.Table) fun r1 => .i (r1 != (0 : Int)) (.k r1) (.bn (zcy a.Seq b.Seq) fun r0 => .k r0)
def zrg (a : RowID) (b : RowID) : Bool × Int := (zze a b).fin default
def z5x (r : Int) : ARes ty := ⟨[.pure (.lit (.int .i64 r))], []⟩
def z9p : AL base (RowID × RowID × Unit) := aCons (aPure (vAgg 25)) (aCons (aPure (vAgg 25)) aNil)
def z3g : Ab.Spec ty := mkSpec z9p fun x => ((zrg x.1 x.2.1).1, z5x (zrg x.1 x.2.1).2)
theorem zbhg : Sound Tryz.prog base 146 z3g :=
  sound_W (cx' := zbk5) draws base_ok mkSame (mkSpecs ⟨(zlj), trivial⟩) Tryz.call146 Tryz.func146 (c := body Tryz.f146) (by kernel_rfl) (loopsOK_of (l := []) (by kernel_rfl) trivial) (sg := ⟨[.pure], []⟩) (A := z9p) (res := z5x) (W := fun x => zze x.1 x.2.1) (z := default) (fun x => by kernel_rfl) (fun _ => by kernel_rfl)
def ztd (zbk : List Weighted → List Weighted → Bool × Int) (zx : List Term → List Term → Bool × Int) (i : Int) (a : Atom) (b : Atom) : Wy (Unit × Unit × Int × Unit) (Atom × Atom × Unit) (Int ⊕ (Atom × Atom)) := .i (decide (i < Int.ofNat a.Args.length)) (.i (decide (i < Int.ofNat b.Args.length)) (.i (decide ((0 : Int) ≤ i) && decide (i < Int.ofNat a.Args.length)) (.i (decide ((0 : Int) ≤ i) && decide (i < Int.ofNat b.Args.length)) (.bn (zx (a.Args.getD i.toNat default) (b.Args.getD i.toNat default)) fun r0 => .i (r0 != (0 : Int)) (.k (.inl (r0))) (.h ((), (), (IntKind.i64.wrap (i + (1 : Int))), ()) (a, b, ()))) .d) .d) (.k (.inr (a, b)))) (.k (.inr (a, b)))
def ztc (zbk : List Weighted → List Weighted → Bool × Int) (zx : List Term → List Term → Bool × Int) (x : Unit × Unit × Int × Unit) (y : Atom × Atom × Unit) : Wy (Unit × Unit × Int × Unit) (Atom × Atom × Unit) (Int ⊕ (Atom × Atom)) := ztd zbk zx x.2.2.1 y.1 y.2.1
def zto (zbk : List Weighted → List Weighted → Bool × Int) (zx : List Term → List Term → Bool × Int) (n : Nat) (i : Int) (a : Atom) (b : Atom) : Bool × (Int ⊕ (Atom × Atom)) := iterW (ztc zbk zx) (.inl default) n ((), (), i, ()) (a, b, ())
def z0y (r : Int ⊕ (Atom × Atom)) : LTree ty := .ite (isL r) (.done .ret [.lit (.int .i64 (getL r))] []) (.done (.exit 0) [.ptr 384 0, .ptr 385 0] [.box (base.enc 48 ((getR r).1)) false, .box (base.enc 48 ((getR r).2)) false])
def z1s : LL ty (Unit × Unit × Int × Unit) := llCons (lPtrC 384 0) (llCons (lPtrC 385 0) (llCons (lInt .i64) llNil))
def z16 : BL ty (Atom × Atom × Unit) := bBox (llMap (fun x => (⟨x.1, ⟨x.2.1, x.2.2.1⟩, x.2.2.2.1, x.2.2.2.2.1, x.2.2.2.2.2.1, x.2.2.2.2.2.2.1, ⟨x.2.2.2.2.2.2.2.1, x.2.2.2.2.2.2.2.2.1, x.2.2.2.2.2.2.2.2.2.1⟩⟩ : Atom)) (fun x => (x.Kind, x.Row.Table, x.Row.Seq, x.Args, x.Func, x.Items, x.Op, x.Bound.Kind, x.Bound.Int, x.Bound.Text, ())) (fun _ => rfl) (llCons (lInt .i64) (llCons (lInt .i64) (llCons (lInt .i64) (llCons (lSl 23) (llCons (lInt .i64) (llCons (lSl 52) (llCons (lInt .i64) (llCons (lInt .i64) (llCons (lInt .i64) (llCons lStr llNil))))))))))) false (bBox (llMap (fun x => (⟨x.1, ⟨x.2.1, x.2.2.1⟩, x.2.2.2.1, x.2.2.2.2.1, x.2.2.2.2.2.1, x.2.2.2.2.2.2.1, ⟨x.2.2.2.2.2.2.2.1, x.2.2.2.2.2.2.2.2.1, x.2.2.2.2.2.2.2.2.2.1⟩⟩ : Atom)) (fun x => (x.Kind, x.Row.Table, x.Row.Seq, x.Args, x.Func, x.Items, x.Op, x.Bound.Kind, x.Bound.Int, x.Bound.Text, ())) (fun _ => rfl) (llCons (lInt .i64) (llCons (lInt .i64) (llCons (lInt .i64) (llCons (lSl 23) (llCons (lInt .i64) (llCons (lSl 52) (llCons (lInt .i64) (llCons (lInt .i64) (llCons (lInt .i64) (llCons lStr llNil))))))))))) false (bNil))
def z2h (zbk : List Weighted → List Weighted → Bool × Int) (zx : List Term → List Term → Bool × Int) : Cx ty := mkCx base 96 [(35, (zmh zbk)), (39, (zmp zx)), (82, zke), (83, zy9), (146, z3g)] [] [(8, [(2, .keep), (3, .keep), (7, .keep)])] [(8, 1, [(2, .keep), (3, .keep)]), (8, 0, [(4, .keep)])] [(8, spW z1s z16 (ztc zbk zx) (.inl default) z0y fun x y => ((Int.toNat x.2.2.1 + 1) + y.1.Args.length + y.1.Items.length + y.2.1.Args.length + y.2.1.Items.length))] []
theorem zbfm (zbk : List Weighted → List Weighted → Bool × Int) (zx : List Term → List Term → Bool × Int) : LoopOK (z2h zbk zx) (lp (body Tryz.f104) 0) := loopOK_W (id := 8) (V := z1s) (B := z16) (W := ztc zbk zx) (z := .inl default) (tr := z0y) (m := fun x y => ((Int.toNat x.2.2.1 + 1) + y.1.Args.length + y.1.Items.length + y.2.1.Args.length + y.2.1.Items.length)) (by kernel_rfl) (by kernel_rfl) fun R H K x y => by kernel_rfl
def zuk (zbk : List Weighted → List Weighted → Bool × Int) (zx : List Term → List Term → Bool × Int) (a : Atom) (b : Atom) : Wy0 (Int) := .bn (zcy a.Kind b.Kind) fun r9 => .i (r9 != (0 : Int)) (.k r9) (.bn (zrg a.Row b.Row) fun r8 => .i (r8 != (0 : Int)) (.k r8) (.bn (zto zbk zx ((Int.toNat (0 : Int) + (1 : Nat)) + (Atom.mk a.Kind a.Row a.Args a.Func a.Items a.Op a.Bound).Args.length + (Atom.mk a.Kind a.Row a.Args a.Func a.Items a.Op a.Bound).Items.length + (Atom.mk b.Kind b.Row b.Args b.Func b.Items b.Op b.Bound).Args.length + (Atom.mk b.Kind b.Row b.Args b.Func b.Items b.Op b.Bound).Items.length) (0 : Int) (Atom.mk a.Kind a.Row a.Args a.Func a.Items a.Op a.Bound) (Atom.mk b.Kind b.Row b.Args b.Func b.Items b.Op b.Bound)) fun r7 => .i (isL r7) (.k (getL r7)) (.bn (zcy (Int.ofNat (getR r7).fst.Args.length) (Int.ofNat (getR r7).snd.Args.length)) fun r6 => .i (r6 != (0 : Int)) (.k r6) (.bn (zcy (getR r7).fst.Func (getR r7).snd.Func) fun r5 => .i (r5 != (0 : Int)) (.k r5) (.bn (zbk (getR r7).fst.Items (getR r7).snd.Items) fun r4 => .i (r4 != (0 : Int)) (.k r4) (.bn (zcy (getR r7).fst.Op (getR r7).snd.Op) fun r3 => .i (r3 != (0 : Int)) (.k r3) (.bn (zpm (getR r7).fst.Bound (getR r7).snd.Bound) fun r2 => .k r2)))))))
def znu (zbk : List Weighted → List Weighted → Bool × Int) (zx : List Term → List Term → Bool × Int) (a : Atom) (b : Atom) : Bool × Int := (zuk zbk zx a b).fin default
theorem zbc5 (zbk : List Weighted → List Weighted → Bool × Int) (zx : List Term → List Term → Bool × Int) (zbgw : Sound Tryz.prog base 35 (zmh zbk)) (z1d : Sound Tryz.prog base 39 (zmp zx)) : Sound Tryz.prog base 104 (znk (znu zbk zx)) :=
  sound_W (cx' := (z2h zbk zx)) draws base_ok mkSame (mkSpecs ⟨(zbgw), (z1d), (zlj), (z7m), (zbhg), trivial⟩) Tryz.call104 Tryz.func104 (c := body Tryz.f104) (by kernel_rfl) (loopsOK_of (l := [lp (body Tryz.f104) 0]) (by kernel_rfl) ⟨zbfm zbk zx, trivial⟩) (sg := ⟨[.pure], []⟩) (A := z7e) (res := z4d) (W := fun x => zuk zbk zx x.1 x.2.1) (z := default) (fun x => by kernel_rfl) (fun _ => by kernel_rfl)
def zyf (zbm : Atom → Atom → Bool × Int) (a : List Factor) (b : List Factor) (i : Int) : Wy (List Factor × List Factor × Int × Unit) (Unit) (Int ⊕ (List Factor × List Factor)) := .i (decide (i < Int.ofNat a.length)) (.i (decide (i < Int.ofNat b.length)) (.i (decide ((0 : Int) ≤ i) && decide (i < Int.ofNat a.length)) (.i (decide ((0 : Int) ≤ i) && decide (i < Int.ofNat b.length)) (.bn (zbm (Atom.mk (a.getD i.toNat default).Atom.Kind (a.getD i.toNat default).Atom.Row (a.getD i.toNat default).Atom.Args (a.getD i.toNat default).Atom.Func (a.getD i.toNat default).Atom.Items (a.getD i.toNat default).Atom.Op (a.getD i.toNat default).Atom.Bound) (Atom.mk (b.getD i.toNat default).Atom.Kind (b.getD i.toNat default).Atom.Row (b.getD i.toNat default).Atom.Args (b.getD i.toNat default).Atom.Func (b.getD i.toNat default).Atom.Items (b.getD i.toNat default).Atom.Op (b.getD i.toNat default).Atom.Bound)) fun r1 => .i (r1 != (0 : Int)) (.k (.inl (r1))) (.i (decide ((0 : Int) ≤ i) && decide (i < Int.ofNat a.length)) (.i (decide ((0 : Int) ≤ i) && decide (i < Int.ofNat b.length)) (.bn (zcy (a.getD i.toNat default).Exp (b.getD i.toNat default).Exp) fun r0 => .i (r0 != (0 : Int)) (.k (.inl (r0))) (.h (a, b, (IntKind.i64.wrap (i + (1 : Int))), ()) ())) .d) .d)) .d) .d) (.k (.inr (a, b)))) (.k (.inr (a, b)))
def zhl (zbm : Atom → Atom → Bool × Int) (x : List Factor × List Factor × Int × Unit) (y : Unit) : Wy (List Factor × List Factor × Int × Unit) (Unit) (Int ⊕ (List Factor × List Factor)) := zyf zbm x.1 x.2.1 x.2.2.1
def zyg (zbm : Atom → Atom → Bool × Int) (n : Nat) (a : List Factor) (b : List Factor) (i : Int) : Bool × (Int ⊕ (List Factor × List Factor)) := iterW (zhl zbm) (.inl default) n (a, b, i, ()) ()
def zw0 (r : Int ⊕ (List Factor × List Factor)) : LTree ty := .ite (isL r) (.done .ret [.lit (.int .i64 (getL r))] []) (.done (.exit 0) [.sl 50 ((getR r).1), .sl 50 ((getR r).2)] [])
def zxu : LL ty (List Factor × List Factor × Int × Unit) := llCons (lSl 50) (llCons (lSl 50) (llCons (lInt .i64) llNil))
def zyk : BL ty (Unit) := bNil
def zxv (zbm : Atom → Atom → Bool × Int) : Cx ty := mkCx base 53 [(82, zke), (104, (znk zbm))] [] [(2, [(0, .keep), (1, .keep), (5, .keep)])] [(2, 1, [(0, .keep), (1, .keep)]), (2, 0, [(4, .keep)])] [(2, spW zxu zyk (zhl zbm) (.inl default) zw0 fun x y => (x.1.length + x.2.1.length + Int.toNat x.2.2.1 + 1))] []
theorem zba0 (zbm : Atom → Atom → Bool × Int) : LoopOK (zxv zbm) (lp (body Tryz.f89) 0) := loopOK_W (id := 2) (V := zxu) (B := zyk) (W := zhl zbm) (z := .inl default) (tr := zw0) (m := fun x y => (x.1.length + x.2.1.length + Int.toNat x.2.2.1 + 1)) (by kernel_rfl) (by kernel_rfl) fun R H K x y => by kernel_rfl
def zrj (zbm : Atom → Atom → Bool × Int) (a : List Factor) (b : List Factor) : Wy0 (Int) := .bn (zyg zbm (a.length + b.length + Int.toNat (0 : Int) + (1 : Nat)) a b (0 : Int)) fun r5 => .i (isL r5) (.k (getL r5)) (.bn (zcy (Int.ofNat (getR r5).fst.length) (Int.ofNat (getR r5).snd.length)) fun r4 => .k r4)
def zk0 (zbm : Atom → Atom → Bool × Int) (a : List Factor) (b : List Factor) : Bool × Int := (zrj zbm a b).fin default
theorem z8q (zbm : Atom → Atom → Bool × Int) (zbhj : Sound Tryz.prog base 104 (znk zbm)) : Sound Tryz.prog base 89 (zk3 (zk0 zbm)) :=
  sound_W (cx' := (zxv zbm)) draws base_ok mkSame (mkSpecs ⟨(zlj), (zbhj), trivial⟩) Tryz.call89 Tryz.func89 (c := body Tryz.f89) (by kernel_rfl) (loopsOK_of (l := [lp (body Tryz.f89) 0]) (by kernel_rfl) ⟨zba0 zbm, trivial⟩) (sg := ⟨[.pure], []⟩) (A := z2e) (res := zzb) (W := fun x => zrj zbm x.1 x.2.1) (z := default) (fun x => by kernel_rfl) (fun _ => by kernel_rfl)
def zbe7 (zx : List Term → List Term → Bool × Int) (a : List Weighted) (b : List Weighted) (i : Int) : Wy (List Weighted × List Weighted × Int × Unit) (Unit) (Int ⊕ (List Weighted × List Weighted)) := .i (decide (i < Int.ofNat a.length)) (.i (decide (i < Int.ofNat b.length)) (.i (decide ((0 : Int) ≤ i) && decide (i < Int.ofNat a.length)) (.i (decide ((0 : Int) ≤ i) && decide (i < Int.ofNat b.length)) (.bn (zpm (a.getD i.toNat default).Value (b.getD i.toNat default).Value) fun r1 => .i (r1 != (0 : Int)) (.k (.inl (r1))) (.i (decide ((0 : Int) ≤ i) && decide (i < Int.ofNat a.length)) (.i (decide ((0 : Int) ≤ i) && decide (i < Int.ofNat b.length)) (.bn (zx (a.getD i.toNat default).Ann (b.getD i.toNat default).Ann) fun r0 => .i (r0 != (0 : Int)) (.k (.inl (r0))) (.h (a, b, (IntKind.i64.wrap (i + (1 : Int))), ()) ())) .d) .d)) .d) .d) (.k (.inr (a, b)))) (.k (.inr (a, b)))
def zsh (zx : List Term → List Term → Bool × Int) (x : List Weighted × List Weighted × Int × Unit) (y : Unit) : Wy (List Weighted × List Weighted × Int × Unit) (Unit) (Int ⊕ (List Weighted × List Weighted)) := zbe7 zx x.1 x.2.1 x.2.2.1
def zbft (zx : List Term → List Term → Bool × Int) (n : Nat) (a : List Weighted) (b : List Weighted) (i : Int) : Bool × (Int ⊕ (List Weighted × List Weighted)) := iterW (zsh zx) (.inl default) n (a, b, i, ()) ()
def zyr (r : Int ⊕ (List Weighted × List Weighted)) : LTree ty := .ite (isL r) (.done .ret [.lit (.int .i64 (getL r))] []) (.done (.exit 0) [.sl 52 ((getR r).1), .sl 52 ((getR r).2)] [])
def z0j : LL ty (List Weighted × List Weighted × Int × Unit) := llCons (lSl 52) (llCons (lSl 52) (llCons (lInt .i64) llNil))
def z0m : BL ty (Unit) := bNil
def z0l (zx : List Term → List Term → Bool × Int) : Cx ty := mkCx base 53 [(39, (zmp zx)), (82, zke), (83, zy9)] [] [(2, [(0, .keep), (1, .keep), (5, .keep)])] [(2, 1, [(0, .keep), (1, .keep)]), (2, 0, [(4, .keep)])] [(2, spW z0j z0m (zsh zx) (.inl default) zyr fun x y => (x.1.length + x.2.1.length + Int.toNat x.2.2.1 + 1))] []
theorem zbdn (zx : List Term → List Term → Bool × Int) : LoopOK (z0l zx) (lp (body Tryz.f35) 0) := loopOK_W (id := 2) (V := z0j) (B := z0m) (W := zsh zx) (z := .inl default) (tr := zyr) (m := fun x y => (x.1.length + x.2.1.length + Int.toNat x.2.2.1 + 1)) (by kernel_rfl) (by kernel_rfl) fun R H K x y => by kernel_rfl
def z13 (zx : List Term → List Term → Bool × Int) (a : List Weighted) (b : List Weighted) : Wy0 (Int) := .bn (zbft zx (a.length + b.length + Int.toNat (0 : Int) + (1 : Nat)) a b (0 : Int)) fun r5 => .i (isL r5) (.k (getL r5)) (.bn (zcy (Int.ofNat (getR r5).fst.length) (Int.ofNat (getR r5).snd.length)) fun r4 => .k r4)
def zqi (zx : List Term → List Term → Bool × Int) (a : List Weighted) (b : List Weighted) : Bool × Int := (z13 zx a b).fin default
theorem zbbq (zx : List Term → List Term → Bool × Int) (z1d : Sound Tryz.prog base 39 (zmp zx)) : Sound Tryz.prog base 35 (zmh (zqi zx)) :=
  sound_W (cx' := (z0l zx)) draws base_ok mkSame (mkSpecs ⟨(z1d), (zlj), (z7m), trivial⟩) Tryz.call35 Tryz.func35 (c := body Tryz.f35) (by kernel_rfl) (loopsOK_of (l := [lp (body Tryz.f35) 0]) (by kernel_rfl) ⟨zbdn zx, trivial⟩) (sg := ⟨[.pure], []⟩) (A := z5h) (res := z1w) (W := fun x => z13 zx x.1 x.2.1) (z := default) (fun x => by kernel_rfl) (fun _ => by kernel_rfl)
def zl8 : Nat → (List Term → List Term → Bool × Int) × (List Factor → List Factor → Bool × Int) × (Atom → Atom → Bool × Int) × (List Weighted → List Weighted → Bool × Int)
  | 0 => (fun _ _ => (false, default), fun _ _ => (false, default), fun _ _ => (false, default), fun _ _ => (false, default))
  | n + 1 => (zxw ((zl8 n).2.1), zk0 ((zl8 n).2.2.1), znu ((zl8 n).2.2.2) ((zl8 n).1), zqi ((zl8 n).1))
def zpi (n : Nat) : List Term → List Term → Bool × Int := (zl8 n).1
def zk2 (n : Nat) : List Factor → List Factor → Bool × Int := (zl8 n).2.1
def zno (n : Nat) : Atom → Atom → Bool × Int := (zl8 n).2.2.1
def zmd (n : Nat) : List Weighted → List Weighted → Bool × Int := (zl8 n).2.2.2
theorem zbl0 (n : Nat) : zpi (n + 1) = zxw (zk2 n) := rfl
theorem zbdb (n : Nat) : zk2 (n + 1) = zk0 (zno n) := rfl
theorem zbha (n : Nat) : zno (n + 1) = znu (zmd n) (zpi n) := rfl
theorem zbfb (n : Nat) : zmd (n + 1) = zqi (zpi n) := rfl
theorem zug : ∀ n, Sound Tryz.prog base 39 (zmp (zpi n)) ∧ Sound Tryz.prog base 89 (zk3 (zk2 n)) ∧ Sound Tryz.prog base 104 (znk (zno n)) ∧ Sound Tryz.prog base 35 (zmh (zmd n))
  | 0 => ⟨sound_false Tryz.call39 (fun _ => rfl), sound_false Tryz.call89 (fun _ => rfl), sound_false Tryz.call104 (fun _ => rfl), sound_false Tryz.call35 (fun _ => rfl)⟩
  | n + 1 => by
    have ih := zug n
    exact ⟨zbhi _ (ih.2.1), z8q _ (ih.2.2.1), zbc5 _ _ (ih.2.2.2) (ih.1), zbbq _ (ih.1)⟩
def zbau : List Term → List Term → Bool × Int := zpi 1000
def z9l : Ab.Spec ty := zmp zbau
theorem zbkq : Sound Tryz.prog base 39 z9l := (zug 1000).1
def zvx : List Factor → List Factor → Bool × Int := zk2 1000
def zx7 : Ab.Spec ty := zk3 zvx
theorem zbbe : Sound Tryz.prog base 89 zx7 := (zug 1000).2.1
def zua : Atom → Atom → Bool × Int := zno 1000
def z1y : Ab.Spec ty := znk zua
theorem zbfs : Sound Tryz.prog base 104 z1y := (zug 1000).2.2.1
def zoo : List Weighted → List Weighted → Bool × Int := zmd 1000
def zni : Ab.Spec ty := zmh zoo
theorem zrq : Sound Tryz.prog base 35 zni := (zug 1000).2.2.2
def z2g (r : Int) : ARes ty := ⟨[.pure (.lit (.int .i64 r))], []⟩
def z4m : AL base (List Term × List Term × Unit) := aCons (aPure (vSl 42)) (aCons (aPure (vSl 42)) aNil)
def zee (F : List Term → List Term → Bool × Int) : Ab.Spec ty := mkSpec z4m fun x => ((F x.1 x.2.1).1, z2g (F x.1 x.2.1).2)
def zyb (r : Int) : ARes ty := ⟨[.pure (.lit (.int .i64 r))], []⟩
def z0f : AL base (Term × Term × Unit) := aCons (aPure (vAgg 42)) (aCons (aPure (vAgg 42)) aNil)
def ze2 (F : Term → Term → Bool × Int) : Ab.Spec ty := mkSpec z0f fun x => ((F x.1 x.2.1).1, zyb (F x.1 x.2.1).2)
def zvj (r : Int) : ARes ty := ⟨[.pure (.lit (.int .i64 r))], []⟩
def zxz : AL base (Term × Term × Unit) := aCons (aPure (vAgg 42)) (aCons (aPure (vAgg 42)) aNil)
def zho (F : Term → Term → Bool × Int) : Ab.Spec ty := mkSpec zxz fun x => ((F x.1 x.2.1).1, zvj (F x.1 x.2.1).2)
def ztt (r : Int) : ARes ty := ⟨[.pure (.lit (.int .i64 r))], []⟩
def zvi : AL base (Factor × Factor × Unit) := aCons (aPure (vAgg 50)) (aCons (aPure (vAgg 50)) aNil)
def zdm (F : Factor → Factor → Bool × Int) : Ab.Spec ty := mkSpec zvi fun x => ((F x.1 x.2.1).1, ztt (F x.1 x.2.1).2)
def zvf (r : Int) : ARes ty := ⟨[.pure (.lit (.int .i64 r))], []⟩
def zx2 : AL base (Atom × Atom × Unit) := aCons (aPure (vAgg 48)) (aCons (aPure (vAgg 48)) aNil)
def zhe (F : Atom → Atom → Bool × Int) : Ab.Spec ty := mkSpec zx2 fun x => ((F x.1 x.2.1).1, zvf (F x.1 x.2.1).2)
def zvo (r : Int) : ARes ty := ⟨[.pure (.lit (.int .i64 r))], []⟩
def zyc : AL base (Weighted × Weighted × Unit) := aCons (aPure (vAgg 52)) (aCons (aPure (vAgg 52)) aNil)
def zed (F : Weighted → Weighted → Bool × Int) : Ab.Spec ty := mkSpec zyc fun x => ((F x.1 x.2.1).1, zvo (F x.1 x.2.1).2)
def zdw (r : Int) : ARes ty := ⟨[.pure (.lit (.int .i64 r))], []⟩
def zd9 : AL base (List Term × List Term × Unit × Unit) := aCons (aPure (vSl 42)) (aCons (aPure (vSl 42)) (aCons (aPure (vFn 87 vNil)) aNil))
def zbp (F : List Term → List Term → Bool × Int) : Ab.Spec ty := mkSpec zd9 fun x => ((F x.1 x.2.1).1, zdw (F x.1 x.2.1).2)
def zd6 (r : Int) : ARes ty := ⟨[.pure (.lit (.int .i64 r))], []⟩
def zef : AL base (List Factor × List Factor × Unit × Unit) := aCons (aPure (vSl 50)) (aCons (aPure (vSl 50)) (aCons (aPure (vFn 124 vNil)) aNil))
def zbu (F : List Factor → List Factor → Bool × Int) : Ab.Spec ty := mkSpec zef fun x => ((F x.1 x.2.1).1, zd6 (F x.1 x.2.1).2)
def zcz (r : Int) : ARes ty := ⟨[.pure (.lit (.int .i64 r))], []⟩
def zc4 : AL base (List (List Term) × List (List Term) × Unit × Unit) := aCons (aPure (vSl 23)) (aCons (aPure (vSl 23)) (aCons (aPure (vFn 38 vNil)) aNil))
def zbc (F : List (List Term) → List (List Term) → Bool × Int) : Ab.Spec ty := mkSpec zc4 fun x => ((F x.1 x.2.1).1, zcz (F x.1 x.2.1).2)
def zdg (r : Int) : ARes ty := ⟨[.pure (.lit (.int .i64 r))], []⟩
def zdj : AL base (List Weighted × List Weighted × Unit × Unit) := aCons (aPure (vSl 52)) (aCons (aPure (vSl 52)) (aCons (aPure (vFn 85 vNil)) aNil))
def zbh (F : List Weighted → List Weighted → Bool × Int) : Ab.Spec ty := mkSpec zdj fun x => ((F x.1 x.2.1).1, zdg (F x.1 x.2.1).2)
def zbfj (zq : List Term → List Term → Bool × Int) (zr : Term → Term → Bool × Int) : Cx ty := mkCx base 8 [(86, (zbp zq)), (87, (ze2 zr))] [] [] [] [] []
def ztq (zq : List Term → List Term → Bool × Int) (zr : Term → Term → Bool × Int) (a : List Term) (b : List Term) : Wy0 (Int) := .bn (zq a b) fun r0 => .k r0
def zqz (zq : List Term → List Term → Bool × Int) (zr : Term → Term → Bool × Int) (a : List Term) (b : List Term) : Bool × Int := (ztq zq zr a b).fin default
theorem zbbl (zq : List Term → List Term → Bool × Int) (zr : Term → Term → Bool × Int) (zjl : Sound Tryz.prog base 86 (zbp zq)) (zqn : Sound Tryz.prog base 87 (ze2 zr)) : Sound Tryz.prog base 38 (zee (zqz zq zr)) :=
  sound_W (cx' := (zbfj zq zr)) draws base_ok mkSame (mkSpecs ⟨(zjl), (zqn), trivial⟩) Tryz.call38 Tryz.func38 (c := body Tryz.f38) (by kernel_rfl) (loopsOK_of (l := []) (by kernel_rfl) trivial) (sg := ⟨[.pure], []⟩) (A := z4m) (res := z2g) (W := fun x => ztq zq zr x.1 x.2.1) (z := default) (fun x => by kernel_rfl) (fun _ => by kernel_rfl)
def zblm : Cx ty := mkCx base 6 [] [] [] [] [] []
def z1a (x_ : Int) : Wy0 (Bool) := .k (x_ != x_)
def zpg (x_ : Int) : Bool × Bool := (z1a x_).fin default
def z7l (r : Bool) : ARes ty := ⟨[.pure (.lit (.bool r))], []⟩
def zbch : AL base (Int × Unit) := aCons (aPure (vInt .i64)) aNil
def z44 : Ab.Spec ty := mkSpec zbch fun x => ((zpg x.1).1, z7l (zpg x.1).2)
theorem zbhk : Sound Tryz.prog base 136 z44 :=
  sound_W (cx' := zblm) draws base_ok mkSame (mkSpecs trivial) Tryz.call136 Tryz.func136 (c := body Tryz.f136) (by kernel_rfl) (loopsOK_of (l := []) (by kernel_rfl) trivial) (sg := ⟨[.pure], []⟩) (A := zbch) (res := z7l) (W := fun x => z1a x.1) (z := default) (fun x => by kernel_rfl) (fun _ => by kernel_rfl)
def zbjm : Cx ty := mkCx base 20 [(136, z44)] [] [] [] [] []
def zxs (x_ : Int) (y_ : Int) : Wy0 (Int) := .i ((zpg x_).snd) (.i ((zpg y_).snd) (.k (0 : Int)) (.k (-1 : Int))) (.i ((zpg y_).snd) (.k (1 : Int)) (.i (decide (x_ < y_)) (.k (-1 : Int)) (.i (decide (x_ > y_)) (.k (1 : Int)) (.k (0 : Int)))))
def zkd (x_ : Int) (y_ : Int) : Bool × Int := (zxs x_ y_).fin default
def z33 (r : Int) : ARes ty := ⟨[.pure (.lit (.int .i64 r))], []⟩
def z7o : AL base (Int × Int × Unit) := aCons (aPure (vInt .i64)) (aCons (aPure (vInt .i64)) aNil)
def zoa : Ab.Spec ty := mkSpec z7o fun x => ((zkd x.1 x.2.1).1, z33 (zkd x.1 x.2.1).2)
theorem zsk : Sound Tryz.prog base 79 zoa :=
  sound_W (cx' := zbjm) draws base_ok mkSame (mkSpecs ⟨(zbhk), trivial⟩) Tryz.call79 Tryz.func79 (c := body Tryz.f79) (by kernel_rfl) (loopsOK_of (l := []) (by kernel_rfl) trivial) (sg := ⟨[.pure], []⟩) (A := z7o) (res := z33) (W := fun x => zxs x.1 x.2.1) (z := default) (fun x => by kernel_rfl) (fun _ => by kernel_rfl)
def zbbj (zero : Int) (t6 : List Int) (t7 : Int) (t8 : Int) : Wy (Int × List Int × Int × Int × Unit) (Unit) (Int ⊕ Int) := .i (decide (t8 < t7)) (.i (decide ((0 : Int) ≤ t8) && decide (t8 < Int.ofNat t6.length)) (.i (t6.getD t8.toNat default != zero) (.k (.inl (t6.getD t8.toNat default))) (.h (zero, t6, t7, (IntKind.i64.wrap (t8 + (1 : Int))), ()) ())) .d) (.k (.inr zero))
def zbbn (x : Int × List Int × Int × Int × Unit) (y : Unit) : Wy (Int × List Int × Int × Int × Unit) (Unit) (Int ⊕ Int) := zbbj x.1 x.2.1 x.2.2.1 x.2.2.2.1
def zbbf (n : Nat) (zero : Int) (t6 : List Int) (t7 : Int) (t8 : Int) : Bool × (Int ⊕ Int) := iterW (zbbn) (.inl default) n (zero, t6, t7, t8, ()) ()
def zbh7 (r : Int ⊕ Int) : LTree ty := .ite (isL r) (.done .ret [.lit (.int .i64 (getL r))] []) (.done (.exit 0) [.lit (.int .i64 (getR r))] [])
def zbkk : LL ty (Int × List Int × Int × Int × Unit) := llCons (lInt .i64) (llCons (lSl 3) (llCons (lInt .i64) (llCons (lInt .i64) llNil)))
def zbjv : BL ty (Unit) := bNil
def zbj6 : Cx ty := mkCx base 18 [] [] [(3, [(3, .keep), (6, .keep), (7, .keep), (8, .keep)])] [(3, 1, [(3, .keep)]), (3, 0, [(2, .keep)])] [(3, spW zbkk zbjv (zbbn) (.inl default) zbh7 fun x y => (Int.toNat x.1 + x.2.1.length + Int.toNat x.2.2.1 + Int.toNat x.2.2.2.1 + 1))] []
theorem zbpg : LoopOK zbj6 (lp (body Tryz.f88) 0) := loopOK_W (id := 3) (V := zbkk) (B := zbjv) (W := zbbn) (z := .inl default) (tr := zbh7) (m := fun x y => (Int.toNat x.1 + x.2.1.length + Int.toNat x.2.2.1 + Int.toNat x.2.2.2.1 + 1)) (by kernel_rfl) (by kernel_rfl) fun R H K x y => by kernel_rfl
def zbet (vals : List Int) : Wy0 (Int) := .bn (zbbf (Int.toNat (0 : Int) + vals.length + (Int.ofNat vals.length).toNat + Int.toNat (0 : Int) + (1 : Nat)) (0 : Int) vals (Int.ofNat vals.length) (0 : Int)) fun r0 => .i (isL r0) (.k (getL r0)) (.k (getR r0))
def zqk (vals : List Int) : Bool × Int := (zbet vals).fin default
def zbhn (r : Int) : ARes ty := ⟨[.pure (.lit (.int .i64 r))], []⟩
def zblp : AL base (List Int × Unit) := aCons (aPure (vSl 3)) aNil
def zpk : Ab.Spec ty := mkSpec zblp fun x => ((zqk x.1).1, zbhn (zqk x.1).2)
theorem zr1 : Sound Tryz.prog base 88 zpk :=
  sound_W (cx' := zbj6) draws base_ok mkSame (mkSpecs trivial) Tryz.call88 Tryz.func88 (c := body Tryz.f88) (by kernel_rfl) (loopsOK_of (l := [lp (body Tryz.f88) 0]) (by kernel_rfl) ⟨zbpg, trivial⟩) (sg := ⟨[.pure], []⟩) (A := zblp) (res := zbhn) (W := fun x => zbet x.1) (z := default) (fun x => by kernel_rfl) (fun _ => by kernel_rfl)
def zbbk (zcg : Term → Term → Bool × Int) : Cx ty := mkCx base 15 [(71, (zho zcg)), (79, zoa), (88, zpk)] [] [] [] [] []
def zqx (zcg : Term → Term → Bool × Int) (x_ : Term) (y_ : Term) : Wy0 (Int) := .bn (zcg x_ y_) fun r2 => .bn (zkd x_.Coeff y_.Coeff) fun r1 => .bn (zqk [r2, r1]) fun r0 => .k r0
def znc (zcg : Term → Term → Bool × Int) (x_ : Term) (y_ : Term) : Bool × Int := (zqx zcg x_ y_).fin default
theorem z6m (zcg : Term → Term → Bool × Int) (z9g : Sound Tryz.prog base 71 (zho zcg)) : Sound Tryz.prog base 87 (ze2 (znc zcg)) :=
  sound_W (cx' := (zbbk zcg)) draws base_ok mkSame (mkSpecs ⟨(z9g), (zsk), (zr1), trivial⟩) Tryz.call87 Tryz.func87 (c := body Tryz.f87) (by kernel_rfl) (loopsOK_of (l := []) (by kernel_rfl) trivial) (sg := ⟨[.pure], []⟩) (A := z0f) (res := zyb) (W := fun x => zqx zcg x.1 x.2.1) (z := default) (fun x => by kernel_rfl) (fun _ => by kernel_rfl)
def zbnm : Cx ty := mkCx base 6 [] [] [] [] [] []
def z59 (x_ : Int) : Wy0 (Bool) := .k (x_ != x_)
def zsx (x_ : Int) : Bool × Bool := (z59 x_).fin default
def zbb7 (r : Bool) : ARes ty := ⟨[.pure (.lit (.bool r))], []⟩
def zbga : AL base (Int × Unit) := aCons (aPure (vInt .i64)) aNil
def z9h : Ab.Spec ty := mkSpec zbga fun x => ((zsx x.1).1, zbb7 (zsx x.1).2)
theorem zbk9 : Sound Tryz.prog base 161 z9h :=
  sound_W (cx' := zbnm) draws base_ok mkSame (mkSpecs trivial) Tryz.call161 Tryz.func161 (c := body Tryz.f161) (by kernel_rfl) (loopsOK_of (l := []) (by kernel_rfl) trivial) (sg := ⟨[.pure], []⟩) (A := zbga) (res := zbb7) (W := fun x => z59 x.1) (z := default) (fun x => by kernel_rfl) (fun _ => by kernel_rfl)
def zbmk : Cx ty := mkCx base 20 [(161, z9h)] [] [] [] [] []
def z09 (x_ : Int) (y_ : Int) : Wy0 (Int) := .i ((zsx x_).snd) (.i ((zsx y_).snd) (.k (0 : Int)) (.k (-1 : Int))) (.i ((zsx y_).snd) (.k (1 : Int)) (.i (decide (x_ < y_)) (.k (-1 : Int)) (.i (decide (x_ > y_)) (.k (1 : Int)) (.k (0 : Int)))))
def ze6 (x_ : Int) (y_ : Int) : Bool × Int := (z09 x_ y_).fin default
def z65 (r : Int) : ARes ty := ⟨[.pure (.lit (.int .i64 r))], []⟩
def zbcr : AL base (Int × Int × Unit) := aCons (aPure (vInt .i64)) (aCons (aPure (vInt .i64)) aNil)
def zq0 : Ab.Spec ty := mkSpec zbcr fun x => ((ze6 x.1 x.2.1).1, z65 (ze6 x.1 x.2.1).2)
theorem zue : Sound Tryz.prog base 125 zq0 :=
  sound_W (cx' := zbmk) draws base_ok mkSame (mkSpecs ⟨(zbk9), trivial⟩) Tryz.call125 Tryz.func125 (c := body Tryz.f125) (by kernel_rfl) (loopsOK_of (l := []) (by kernel_rfl) trivial) (sg := ⟨[.pure], []⟩) (A := zbcr) (res := z65) (W := fun x => z09 x.1 x.2.1) (z := default) (fun x => by kernel_rfl) (fun _ => by kernel_rfl)
end Go.Proofs.YtnolcogncjijpaaGreatDoor
/-
  DERIVED: THE SHELF's CONTRACTS AT THIS DUMP, IN PLAIN WORDS (tools/lay-plain.mjs out of 'TryzShelf.lean', which tools/lay-shelf.mjs wrote): THE SAME DECLARATIONS UNDER THE SAME NAMES: 'import', 'namespace', 'open', 'def', 'theorem' AND NOTHING ELSE: no command of the shelf's: FOR A HAND-IN. Each laying: the table of numbers ('.._ren') and one theorem, a field a fact of the dump's own or the kernel's comparison; each contract: ONE APPLICATION.
-/
namespace Go.Proofs
open Go.Shelf
def Tryz.sortRow_ren : Go.Shelf.Ren := ⟨fun | 6 => 143 | 15 => 156 | 14 => 167 | 28 => 185 | 29 => 186 | 20 => 189 | 21 => 190 | 22 => 191 | 23 => 192 | 24 => 193 | 25 => 194 | 26 => 195 | 27 => 196 | 46 => 211 | 47 => 205 | 48 => 206 | 49 => 212 | 50 => 213 | 57 => 222 | n => n, fun | 22 => 65 | 24 => 25 | 25 => 133 | 3 => 3 | 39 => 143 | 0 => 0 | 53 => 176 | 55 => 178 | 4 => 4 | 46 => 170 | 45 => 169 | 50 => 108 | 5 => 5 | 9 => 9 | 66 => 190 | 70 => 194 | 76 => 205 | 77 => 206 | n => n, fun | n => n⟩
theorem Tryz.sortRow : Go.Proofs.SlLaysF0.n6 Tryz.prog Tryz.sortRow_ren := {
  mixed := by kernel_rfl
  f6 := ⟨Tryz.f143.name, by decide, Tryz.func143.trans (congrArg some (by kernel_rfl))⟩
  f14 := ⟨Tryz.f167.name, by decide, Tryz.func167.trans (congrArg some (by kernel_rfl))⟩
  f15 := Tryz.func156.trans (congrArg some (by kernel_rfl))
  f20 := ⟨Tryz.f189.name, by decide, Tryz.func189.trans (congrArg some (by kernel_rfl))⟩
  f21 := ⟨Tryz.f190.name, by decide, Tryz.func190.trans (congrArg some (by kernel_rfl))⟩
  f22 := ⟨Tryz.f191.name, by decide, Tryz.func191.trans (congrArg some (by kernel_rfl))⟩
  f23 := ⟨Tryz.f192.name, by decide, Tryz.func192.trans (congrArg some (by kernel_rfl))⟩
  f24 := ⟨Tryz.f193.name, by decide, Tryz.func193.trans (congrArg some (by kernel_rfl))⟩
  f25 := ⟨Tryz.f194.name, by decide, Tryz.func194.trans (congrArg some (by kernel_rfl))⟩
  f26 := ⟨Tryz.f195.name, by decide, Tryz.func195.trans (congrArg some (by kernel_rfl))⟩
  f27 := ⟨Tryz.f196.name, by decide, Tryz.func196.trans (congrArg some (by kernel_rfl))⟩
  f28 := Tryz.func185.trans (congrArg some (by kernel_rfl))
  f29 := Tryz.func186.trans (congrArg some (by kernel_rfl))
  f46 := ⟨Tryz.f211.name, by decide, Tryz.func211.trans (congrArg some (by kernel_rfl))⟩
  f47 := Tryz.func205.trans (congrArg some (by kernel_rfl))
  f48 := Tryz.func206.trans (congrArg some (by kernel_rfl))
  f49 := ⟨Tryz.f212.name, by decide, Tryz.func212.trans (congrArg some (by kernel_rfl))⟩
  f50 := ⟨Tryz.f213.name, by decide, Tryz.func213.trans (congrArg some (by kernel_rfl))⟩
  f57 := ⟨Tryz.f222.name, by decide, Tryz.func222.trans (congrArg some (by kernel_rfl))⟩
  t0 := Tryz.underlying0
  a0 := Tryz.isAgg0
  z0 := Tryz.sizeOf0
  v0 := Tryz.zeroValue0
  t3 := Tryz.underlying3
  a3 := Tryz.isAgg3
  z3 := Tryz.sizeOf3
  v3 := Tryz.zeroValue3
  t4 := Tryz.underlying4
  a4 := Tryz.isAgg4
  z4 := Tryz.sizeOf4
  v4 := Tryz.zeroValue4
  t5 := Tryz.underlying5
  a5 := Tryz.isAgg5
  z5 := Tryz.sizeOf5
  v5 := Tryz.zeroValue5
  t9 := Tryz.underlying9
  a9 := Tryz.isAgg9
  z9 := Tryz.sizeOf9
  v9 := Tryz.zeroValue9
  t22 := Tryz.underlying65
  a22 := Tryz.isAgg65
  z22 := Tryz.sizeOf65
  v22 := Tryz.zeroValue65
  t25 := Tryz.underlying133
  a25 := Tryz.isAgg133
  z25 := Tryz.sizeOf133
  v25 := Tryz.zeroValue133
  t39 := Tryz.underlying143
  a39 := Tryz.isAgg143
  z39 := Tryz.sizeOf143
  v39 := Tryz.zeroValue143
  t45 := Tryz.underlying169
  a45 := Tryz.isAgg169
  z45 := Tryz.sizeOf169
  v45 := Tryz.zeroValue169
  t46 := Tryz.underlying170
  a46 := Tryz.isAgg170
  z46 := Tryz.sizeOf170
  v46 := Tryz.zeroValue170
  t50 := Tryz.underlying108
  a50 := Tryz.isAgg108
  z50 := Tryz.sizeOf108
  v50 := Tryz.zeroValue108
  t53 := Tryz.underlying176
  a53 := Tryz.isAgg176
  z53 := Tryz.sizeOf176
  v53 := Tryz.zeroValue176
  t55 := Tryz.underlying178
  a55 := Tryz.isAgg178
  z55 := Tryz.sizeOf178
  v55 := Tryz.zeroValue178
  t66 := Tryz.underlying190
  a66 := Tryz.isAgg190
  z66 := Tryz.sizeOf190
  v66 := Tryz.zeroValue190
  t70 := Tryz.underlying194
  a70 := Tryz.isAgg194
  z70 := Tryz.sizeOf194
  v70 := Tryz.zeroValue194
  t76 := Tryz.underlying205
  a76 := Tryz.isAgg205
  z76 := Tryz.sizeOf205
  v76 := Tryz.zeroValue205
  t77 := Tryz.underlying206
  a77 := Tryz.isAgg206
  z77 := Tryz.sizeOf206
  v77 := Tryz.zeroValue206 }
def Tryz.pdqTerm_ren : Go.Shelf.Ren := ⟨fun | 14 => 155 | 20 => 177 | 21 => 178 | 22 => 179 | 23 => 180 | 24 => 181 | 25 => 182 | 26 => 183 | 27 => 184 | 46 => 204 | 47 => 205 | 48 => 206 | 49 => 207 | 50 => 208 | 15 => 156 | 57 => 221 | 28 => 185 | 29 => 186 | n => n, fun | 24 => 42 | 22 => 22 | 3 => 3 | 25 => 80 | 4 => 4 | 0 => 0 | 46 => 170 | 45 => 169 | 50 => 108 | 66 => 190 | 39 => 143 | 55 => 178 | 70 => 194 | 76 => 205 | 77 => 206 | 53 => 176 | 5 => 5 | 9 => 9 | n => n, fun | n => n⟩
theorem Tryz.pdqTerm : Go.Proofs.SlLaysF0.n14 Tryz.prog Tryz.pdqTerm_ren := {
  mixed := by kernel_rfl
  f14 := ⟨Tryz.f155.name, by decide, Tryz.func155.trans (congrArg some (by kernel_rfl))⟩
  f15 := Tryz.func156.trans (congrArg some (by kernel_rfl))
  f20 := ⟨Tryz.f177.name, by decide, Tryz.func177.trans (congrArg some (by kernel_rfl))⟩
  f21 := ⟨Tryz.f178.name, by decide, Tryz.func178.trans (congrArg some (by kernel_rfl))⟩
  f22 := ⟨Tryz.f179.name, by decide, Tryz.func179.trans (congrArg some (by kernel_rfl))⟩
  f23 := ⟨Tryz.f180.name, by decide, Tryz.func180.trans (congrArg some (by kernel_rfl))⟩
  f24 := ⟨Tryz.f181.name, by decide, Tryz.func181.trans (congrArg some (by kernel_rfl))⟩
  f25 := ⟨Tryz.f182.name, by decide, Tryz.func182.trans (congrArg some (by kernel_rfl))⟩
  f26 := ⟨Tryz.f183.name, by decide, Tryz.func183.trans (congrArg some (by kernel_rfl))⟩
  f27 := ⟨Tryz.f184.name, by decide, Tryz.func184.trans (congrArg some (by kernel_rfl))⟩
  f28 := Tryz.func185.trans (congrArg some (by kernel_rfl))
  f29 := Tryz.func186.trans (congrArg some (by kernel_rfl))
  f46 := ⟨Tryz.f204.name, by decide, Tryz.func204.trans (congrArg some (by kernel_rfl))⟩
  f47 := Tryz.func205.trans (congrArg some (by kernel_rfl))
  f48 := Tryz.func206.trans (congrArg some (by kernel_rfl))
  f49 := ⟨Tryz.f207.name, by decide, Tryz.func207.trans (congrArg some (by kernel_rfl))⟩
  f50 := ⟨Tryz.f208.name, by decide, Tryz.func208.trans (congrArg some (by kernel_rfl))⟩
  f57 := ⟨Tryz.f221.name, by decide, Tryz.func221.trans (congrArg some (by kernel_rfl))⟩
  t0 := Tryz.underlying0
  a0 := Tryz.isAgg0
  z0 := Tryz.sizeOf0
  v0 := Tryz.zeroValue0
  t3 := Tryz.underlying3
  a3 := Tryz.isAgg3
  z3 := Tryz.sizeOf3
  v3 := Tryz.zeroValue3
  t4 := Tryz.underlying4
  a4 := Tryz.isAgg4
  z4 := Tryz.sizeOf4
  v4 := Tryz.zeroValue4
  t5 := Tryz.underlying5
  a5 := Tryz.isAgg5
  z5 := Tryz.sizeOf5
  v5 := Tryz.zeroValue5
  t9 := Tryz.underlying9
  a9 := Tryz.isAgg9
  z9 := Tryz.sizeOf9
  v9 := Tryz.zeroValue9
  t22 := Tryz.underlying22
  a22 := Tryz.isAgg22
  z22 := Tryz.sizeOf22
  v22 := Tryz.zeroValue22
  t25 := Tryz.underlying80
  a25 := Tryz.isAgg80
  z25 := Tryz.sizeOf80
  v25 := Tryz.zeroValue80
  t39 := Tryz.underlying143
  a39 := Tryz.isAgg143
  z39 := Tryz.sizeOf143
  v39 := Tryz.zeroValue143
  t45 := Tryz.underlying169
  a45 := Tryz.isAgg169
  z45 := Tryz.sizeOf169
  v45 := Tryz.zeroValue169
  t46 := Tryz.underlying170
  a46 := Tryz.isAgg170
  z46 := Tryz.sizeOf170
  v46 := Tryz.zeroValue170
  t50 := Tryz.underlying108
  a50 := Tryz.isAgg108
  z50 := Tryz.sizeOf108
  v50 := Tryz.zeroValue108
  t53 := Tryz.underlying176
  a53 := Tryz.isAgg176
  z53 := Tryz.sizeOf176
  v53 := Tryz.zeroValue176
  t55 := Tryz.underlying178
  a55 := Tryz.isAgg178
  z55 := Tryz.sizeOf178
  v55 := Tryz.zeroValue178
  t66 := Tryz.underlying190
  a66 := Tryz.isAgg190
  z66 := Tryz.sizeOf190
  v66 := Tryz.zeroValue190
  t70 := Tryz.underlying194
  a70 := Tryz.isAgg194
  z70 := Tryz.sizeOf194
  v70 := Tryz.zeroValue194
  t76 := Tryz.underlying205
  a76 := Tryz.isAgg205
  z76 := Tryz.sizeOf205
  v76 := Tryz.zeroValue205
  t77 := Tryz.underlying206
  a77 := Tryz.isAgg206
  z77 := Tryz.sizeOf206
  v77 := Tryz.zeroValue206 }
def Tryz.insW_ren : Go.Shelf.Ren := ⟨fun | 20 => 164 | n => n, fun | 24 => 52 | 22 => 44 | 3 => 3 | 25 => 89 | 4 => 4 | 0 => 0 | n => n, fun | n => n⟩
theorem Tryz.insW : Go.Proofs.SlLaysF0.n20 Tryz.prog Tryz.insW_ren := {
  mixed := by kernel_rfl
  f20 := ⟨Tryz.f164.name, by decide, Tryz.func164.trans (congrArg some (by kernel_rfl))⟩
  t0 := Tryz.underlying0
  a0 := Tryz.isAgg0
  z0 := Tryz.sizeOf0
  v0 := Tryz.zeroValue0
  t3 := Tryz.underlying3
  a3 := Tryz.isAgg3
  z3 := Tryz.sizeOf3
  v3 := Tryz.zeroValue3
  t4 := Tryz.underlying4
  a4 := Tryz.isAgg4
  z4 := Tryz.sizeOf4
  v4 := Tryz.zeroValue4
  t22 := Tryz.underlying44
  a22 := Tryz.isAgg44
  z22 := Tryz.sizeOf44
  v22 := Tryz.zeroValue44
  t25 := Tryz.underlying89
  a25 := Tryz.isAgg89
  z25 := Tryz.sizeOf89
  v25 := Tryz.zeroValue89 }
def Tryz.lays106_ren : Go.Shelf.Ren := ⟨fun | 106 => 162 | 213 => 187 | 265 => 209 | n => n, fun | 9 => 9 | 3 => 3 | n => n, fun | n => n⟩
theorem Tryz.lays106 : Go.Proofs.Lays.n106 Tryz.prog Tryz.lays106_ren := {
  mixed := by kernel_rfl
  f106 := Tryz.func162.trans (congrArg some (by kernel_rfl))
  f213 := Tryz.func187.trans (congrArg some (by kernel_rfl))
  f265 := Tryz.func209.trans (congrArg some (by kernel_rfl))
  t3 := Tryz.underlying3
  a3 := Tryz.isAgg3
  z3 := Tryz.sizeOf3
  v3 := Tryz.zeroValue3
  t9 := Tryz.underlying9
  a9 := Tryz.isAgg9
  z9 := Tryz.sizeOf9
  v9 := Tryz.zeroValue9 }
def Tryz.laysM173_ren : Go.Shelf.Ren := ⟨fun | 173 => 151 | 246 => 168 | 283 => 197 | 284 => 198 | 285 => 199 | 286 => 200 | 129 => 186 | 317 => 214 | 318 => 215 | 319 => 216 | 320 => 217 | 337 => 223 | 338 => 224 | n => n, fun | 2 => 2 | 3 => 3 | 9 => 9 | 4 => 4 | 171 => 184 | 0 => 0 | 53 => 178 | 37 => 156 | 5 => 5 | 173 => 186 | 212 => 199 | 51 => 176 | 20 => 20 | 213 => 200 | 46 => 143 | 232 => 211 | 233 => 212 | n => n, fun | 17 => 1 | 18 => 2 | 19 => 3 | n => n⟩
theorem Tryz.laysM173 : Go.Proofs.LaysM.n173 Tryz.prog Tryz.laysM173_ren := {
  mixed := by kernel_rfl
  f129 := Tryz.func186.trans (congrArg some (by kernel_rfl))
  f173 := Tryz.func151.trans (congrArg some (by kernel_rfl))
  f246 := Tryz.func168.trans (congrArg some (by kernel_rfl))
  f283 := Tryz.func197.trans (congrArg some (by kernel_rfl))
  f284 := Tryz.func198.trans (congrArg some (by kernel_rfl))
  f285 := Tryz.func199.trans (congrArg some (by kernel_rfl))
  f286 := Tryz.func200.trans (congrArg some (by kernel_rfl))
  f317 := Tryz.func214.trans (congrArg some (by kernel_rfl))
  f318 := Tryz.func215.trans (congrArg some (by kernel_rfl))
  f319 := Tryz.func216.trans (congrArg some (by kernel_rfl))
  f320 := Tryz.func217.trans (congrArg some (by kernel_rfl))
  f337 := Tryz.func223.trans (congrArg some (by kernel_rfl))
  f338 := Tryz.func224.trans (congrArg some (by kernel_rfl))
  t0 := Tryz.underlying0
  a0 := Tryz.isAgg0
  z0 := Tryz.sizeOf0
  v0 := Tryz.zeroValue0
  t2 := Tryz.underlying2
  a2 := Tryz.isAgg2
  z2 := Tryz.sizeOf2
  v2 := Tryz.zeroValue2
  t3 := Tryz.underlying3
  a3 := Tryz.isAgg3
  z3 := Tryz.sizeOf3
  v3 := Tryz.zeroValue3
  t4 := Tryz.underlying4
  a4 := Tryz.isAgg4
  z4 := Tryz.sizeOf4
  v4 := Tryz.zeroValue4
  t5 := Tryz.underlying5
  a5 := Tryz.isAgg5
  z5 := Tryz.sizeOf5
  v5 := Tryz.zeroValue5
  t9 := Tryz.underlying9
  a9 := Tryz.isAgg9
  z9 := Tryz.sizeOf9
  v9 := Tryz.zeroValue9
  t20 := Tryz.underlying20
  a20 := Tryz.isAgg20
  z20 := Tryz.sizeOf20
  v20 := Tryz.zeroValue20
  t37 := Tryz.underlying156
  a37 := Tryz.isAgg156
  z37 := Tryz.sizeOf156
  v37 := Tryz.zeroValue156
  t46 := Tryz.underlying143
  a46 := Tryz.isAgg143
  z46 := Tryz.sizeOf143
  v46 := Tryz.zeroValue143
  t51 := Tryz.underlying176
  a51 := Tryz.isAgg176
  z51 := Tryz.sizeOf176
  v51 := Tryz.zeroValue176
  t53 := Tryz.underlying178
  a53 := Tryz.isAgg178
  z53 := Tryz.sizeOf178
  v53 := Tryz.zeroValue178
  t171 := Tryz.underlying184
  a171 := Tryz.isAgg184
  z171 := Tryz.sizeOf184
  v171 := Tryz.zeroValue184
  t173 := Tryz.underlying186
  a173 := Tryz.isAgg186
  z173 := Tryz.sizeOf186
  v173 := Tryz.zeroValue186
  t212 := Tryz.underlying199
  a212 := Tryz.isAgg199
  z212 := Tryz.sizeOf199
  v212 := Tryz.zeroValue199
  t213 := Tryz.underlying200
  a213 := Tryz.isAgg200
  z213 := Tryz.sizeOf200
  t232 := Tryz.underlying211
  a232 := Tryz.isAgg211
  z232 := Tryz.sizeOf211
  v232 := Tryz.zeroValue211
  t233 := Tryz.underlying212
  a233 := Tryz.isAgg212
  z233 := Tryz.sizeOf212
  v233 := Tryz.zeroValue212
  g17 := by kernel_rfl
  g18 := by kernel_rfl
  g19 := by kernel_rfl
  i0 := by kernel_rfl
  i2 := by kernel_rfl
  i3 := by kernel_rfl
  i4 := by kernel_rfl
  i5 := by kernel_rfl
  i9 := by kernel_rfl
  i20 := by kernel_rfl
  i37 := by kernel_rfl
  i46 := by kernel_rfl
  i51 := by kernel_rfl
  i53 := by kernel_rfl
  i171 := by kernel_rfl
  i173 := by kernel_rfl
  i212 := by kernel_rfl
  i232 := by kernel_rfl
  i233 := by kernel_rfl
  m17 := by kernel_rfl
  m18 := by kernel_rfl
  m19 := by kernel_rfl }
def Tryz.laysM171_ren : Go.Shelf.Ren := ⟨fun | 171 => 154 | 243 => 176 | 246 => 168 | 283 => 197 | 284 => 198 | 285 => 199 | 286 => 200 | 129 => 186 | 317 => 214 | 318 => 215 | 319 => 216 | 320 => 217 | 337 => 223 | 338 => 224 | n => n, fun | 3 => 3 | 9 => 9 | 2 => 2 | 4 => 4 | 171 => 184 | 0 => 0 | 53 => 178 | 37 => 156 | 5 => 5 | 173 => 186 | 212 => 199 | 51 => 176 | 20 => 20 | 213 => 200 | 46 => 143 | 232 => 211 | 233 => 212 | n => n, fun | 17 => 1 | 18 => 2 | 19 => 3 | n => n⟩
theorem Tryz.laysM171 : Go.Proofs.LaysM.n171 Tryz.prog Tryz.laysM171_ren := {
  mixed := by kernel_rfl
  f129 := Tryz.func186.trans (congrArg some (by kernel_rfl))
  f171 := Tryz.func154.trans (congrArg some (by kernel_rfl))
  f243 := Tryz.func176.trans (congrArg some (by kernel_rfl))
  f246 := Tryz.func168.trans (congrArg some (by kernel_rfl))
  f283 := Tryz.func197.trans (congrArg some (by kernel_rfl))
  f284 := Tryz.func198.trans (congrArg some (by kernel_rfl))
  f285 := Tryz.func199.trans (congrArg some (by kernel_rfl))
  f286 := Tryz.func200.trans (congrArg some (by kernel_rfl))
  f317 := Tryz.func214.trans (congrArg some (by kernel_rfl))
  f318 := Tryz.func215.trans (congrArg some (by kernel_rfl))
  f319 := Tryz.func216.trans (congrArg some (by kernel_rfl))
  f320 := Tryz.func217.trans (congrArg some (by kernel_rfl))
  f337 := Tryz.func223.trans (congrArg some (by kernel_rfl))
  f338 := Tryz.func224.trans (congrArg some (by kernel_rfl))
  t0 := Tryz.underlying0
  a0 := Tryz.isAgg0
  z0 := Tryz.sizeOf0
  v0 := Tryz.zeroValue0
  t2 := Tryz.underlying2
  a2 := Tryz.isAgg2
  z2 := Tryz.sizeOf2
  v2 := Tryz.zeroValue2
  t3 := Tryz.underlying3
  a3 := Tryz.isAgg3
  z3 := Tryz.sizeOf3
  v3 := Tryz.zeroValue3
  t4 := Tryz.underlying4
  a4 := Tryz.isAgg4
  z4 := Tryz.sizeOf4
  v4 := Tryz.zeroValue4
  t5 := Tryz.underlying5
  a5 := Tryz.isAgg5
  z5 := Tryz.sizeOf5
  v5 := Tryz.zeroValue5
  t9 := Tryz.underlying9
  a9 := Tryz.isAgg9
  z9 := Tryz.sizeOf9
  v9 := Tryz.zeroValue9
  t20 := Tryz.underlying20
  a20 := Tryz.isAgg20
  z20 := Tryz.sizeOf20
  v20 := Tryz.zeroValue20
  t37 := Tryz.underlying156
  a37 := Tryz.isAgg156
  z37 := Tryz.sizeOf156
  v37 := Tryz.zeroValue156
  t46 := Tryz.underlying143
  a46 := Tryz.isAgg143
  z46 := Tryz.sizeOf143
  v46 := Tryz.zeroValue143
  t51 := Tryz.underlying176
  a51 := Tryz.isAgg176
  z51 := Tryz.sizeOf176
  v51 := Tryz.zeroValue176
  t53 := Tryz.underlying178
  a53 := Tryz.isAgg178
  z53 := Tryz.sizeOf178
  v53 := Tryz.zeroValue178
  t171 := Tryz.underlying184
  a171 := Tryz.isAgg184
  z171 := Tryz.sizeOf184
  v171 := Tryz.zeroValue184
  t173 := Tryz.underlying186
  a173 := Tryz.isAgg186
  z173 := Tryz.sizeOf186
  v173 := Tryz.zeroValue186
  t212 := Tryz.underlying199
  a212 := Tryz.isAgg199
  z212 := Tryz.sizeOf199
  v212 := Tryz.zeroValue199
  t213 := Tryz.underlying200
  a213 := Tryz.isAgg200
  z213 := Tryz.sizeOf200
  t232 := Tryz.underlying211
  a232 := Tryz.isAgg211
  z232 := Tryz.sizeOf211
  v232 := Tryz.zeroValue211
  t233 := Tryz.underlying212
  a233 := Tryz.isAgg212
  z233 := Tryz.sizeOf212
  v233 := Tryz.zeroValue212
  g17 := by kernel_rfl
  g18 := by kernel_rfl
  g19 := by kernel_rfl
  i0 := by kernel_rfl
  i2 := by kernel_rfl
  i3 := by kernel_rfl
  i4 := by kernel_rfl
  i5 := by kernel_rfl
  i9 := by kernel_rfl
  i20 := by kernel_rfl
  i37 := by kernel_rfl
  i46 := by kernel_rfl
  i51 := by kernel_rfl
  i53 := by kernel_rfl
  i171 := by kernel_rfl
  i173 := by kernel_rfl
  i212 := by kernel_rfl
  i232 := by kernel_rfl
  i233 := by kernel_rfl
  m17 := by kernel_rfl
  m18 := by kernel_rfl
  m19 := by kernel_rfl }
def Tryz.lays155_ren : Go.Shelf.Ren := ⟨fun | 155 => 203 | 154 => 220 | 138 => 225 | 165 => 169 | 143 => 226 | 166 => 170 | 197 => 227 | 169 => 171 | 195 => 228 | 218 => 229 | 240 => 201 | 241 => 202 | 219 => 230 | 260 => 231 | 276 => 218 | 277 => 219 | 217 => 232 | 225 => 233 | 224 => 234 | 267 => 235 | 266 => 236 | 314 => 237 | n => n, fun | 9 => 9 | 3 => 3 | 4 => 4 | 72 => 158 | 0 => 0 | 76 => 162 | 105 => 209 | 21 => 21 | 5 => 5 | 70 => 155 | 20 => 20 | 37 => 156 | 75 => 161 | 127 => 188 | 164 => 201 | 46 => 143 | 119 => 215 | 139 => 218 | 138 => 217 | 146 => 219 | 51 => 176 | 80 => 164 | n => n, fun | 1 => 0 | 3 => 4 | 4 => 5 | n => n⟩
theorem Tryz.lays155 : Go.Proofs.Lays.n155 Tryz.prog Tryz.lays155_ren := {
  mixed := by kernel_rfl
  f138 := Tryz.func225.trans (congrArg some (by kernel_rfl))
  f143 := Tryz.func226.trans (congrArg some (by kernel_rfl))
  f154 := Tryz.func220.trans (congrArg some (by kernel_rfl))
  f155 := Tryz.func203.trans (congrArg some (by kernel_rfl))
  f165 := Tryz.func169.trans (congrArg some (by kernel_rfl))
  f166 := Tryz.func170.trans (congrArg some (by kernel_rfl))
  f169 := Tryz.func171.trans (congrArg some (by kernel_rfl))
  f195 := Tryz.func228.trans (congrArg some (by kernel_rfl))
  f197 := Tryz.func227.trans (congrArg some (by kernel_rfl))
  f217 := Tryz.func232.trans (congrArg some (by kernel_rfl))
  f218 := Tryz.func229.trans (congrArg some (by kernel_rfl))
  f219 := Tryz.func230.trans (congrArg some (by kernel_rfl))
  f224 := Tryz.func234.trans (congrArg some (by kernel_rfl))
  f225 := Tryz.func233.trans (congrArg some (by kernel_rfl))
  f240 := Tryz.func201.trans (congrArg some (by kernel_rfl))
  f241 := Tryz.func202.trans (congrArg some (by kernel_rfl))
  f260 := Tryz.func231.trans (congrArg some (by kernel_rfl))
  f266 := Tryz.func236.trans (congrArg some (by kernel_rfl))
  f267 := Tryz.func235.trans (congrArg some (by kernel_rfl))
  f276 := Tryz.func218.trans (congrArg some (by kernel_rfl))
  f277 := Tryz.func219.trans (congrArg some (by kernel_rfl))
  f314 := Tryz.func237.trans (congrArg some (by kernel_rfl))
  t0 := Tryz.underlying0
  a0 := Tryz.isAgg0
  z0 := Tryz.sizeOf0
  v0 := Tryz.zeroValue0
  t3 := Tryz.underlying3
  a3 := Tryz.isAgg3
  z3 := Tryz.sizeOf3
  v3 := Tryz.zeroValue3
  t4 := Tryz.underlying4
  a4 := Tryz.isAgg4
  z4 := Tryz.sizeOf4
  v4 := Tryz.zeroValue4
  t5 := Tryz.underlying5
  a5 := Tryz.isAgg5
  z5 := Tryz.sizeOf5
  v5 := Tryz.zeroValue5
  t9 := Tryz.underlying9
  a9 := Tryz.isAgg9
  z9 := Tryz.sizeOf9
  v9 := Tryz.zeroValue9
  t20 := Tryz.underlying20
  a20 := Tryz.isAgg20
  z20 := Tryz.sizeOf20
  v20 := Tryz.zeroValue20
  t21 := Tryz.underlying21
  a21 := Tryz.isAgg21
  z21 := Tryz.sizeOf21
  v21 := Tryz.zeroValue21
  t37 := Tryz.underlying156
  a37 := Tryz.isAgg156
  z37 := Tryz.sizeOf156
  v37 := Tryz.zeroValue156
  t46 := Tryz.underlying143
  a46 := Tryz.isAgg143
  z46 := Tryz.sizeOf143
  v46 := Tryz.zeroValue143
  t51 := Tryz.underlying176
  a51 := Tryz.isAgg176
  z51 := Tryz.sizeOf176
  v51 := Tryz.zeroValue176
  t70 := Tryz.underlying155
  a70 := Tryz.isAgg155
  z70 := Tryz.sizeOf155
  v70 := Tryz.zeroValue155
  t72 := Tryz.underlying158
  a72 := Tryz.isAgg158
  z72 := Tryz.sizeOf158
  v72 := Tryz.zeroValue158
  t75 := Tryz.underlying161
  a75 := Tryz.isAgg161
  z75 := Tryz.sizeOf161
  v75 := Tryz.zeroValue161
  t76 := Tryz.underlying162
  a76 := Tryz.isAgg162
  z76 := Tryz.sizeOf162
  v76 := Tryz.zeroValue162
  t105 := Tryz.underlying209
  a105 := Tryz.isAgg209
  z105 := Tryz.sizeOf209
  v105 := Tryz.zeroValue209
  t119 := Tryz.underlying215
  a119 := Tryz.isAgg215
  z119 := Tryz.sizeOf215
  t127 := Tryz.underlying188
  a127 := Tryz.isAgg188
  z127 := Tryz.sizeOf188
  v127 := Tryz.zeroValue188
  t138 := Tryz.underlying217
  a138 := Tryz.isAgg217
  z138 := Tryz.sizeOf217
  v138 := Tryz.zeroValue217
  t139 := Tryz.underlying218
  a139 := Tryz.isAgg218
  z139 := Tryz.sizeOf218
  v139 := Tryz.zeroValue218
  t146 := Tryz.underlying219
  a146 := Tryz.isAgg219
  z146 := Tryz.sizeOf219
  v146 := Tryz.zeroValue219
  t164 := Tryz.underlying201
  a164 := Tryz.isAgg201
  z164 := Tryz.sizeOf201
  v164 := Tryz.zeroValue201
  g1 := by kernel_rfl
  g3 := by kernel_rfl
  g4 := by kernel_rfl }
theorem Tryz.Builder_Extra_155 : Builder.Extra Tryz.prog Tryz.lays155_ren := {
  sizeBuilder := by kernel_rfl
  liesBuilder := by kernel_rfl
  t5 := Tryz.underlying5
  a5 := Tryz.isAgg5
  z5 := Tryz.sizeOf5
  v5 := Tryz.zeroValue5
  infoByte := by kernel_rfl
  cellsByte := by kernel_rfl
  sizeByte := by kernel_rfl
  neB5 := by decide }
def Tryz.lays156_ren : Go.Shelf.Ren := ⟨fun | 156 => 152 | 165 => 169 | 166 => 170 | 169 => 171 | 240 => 201 | 241 => 202 | 276 => 218 | 277 => 219 | n => n, fun | 31 => 136 | 9 => 9 | 3 => 3 | 4 => 4 | 0 => 0 | 20 => 20 | 72 => 158 | 76 => 162 | 70 => 155 | 37 => 156 | 75 => 161 | 127 => 188 | 164 => 201 | 5 => 5 | 80 => 164 | n => n, fun | n => n⟩
theorem Tryz.lays156 : Go.Proofs.Lays.n156 Tryz.prog Tryz.lays156_ren := {
  mixed := by kernel_rfl
  f156 := Tryz.func152.trans (congrArg some (by kernel_rfl))
  f165 := Tryz.func169.trans (congrArg some (by kernel_rfl))
  f166 := Tryz.func170.trans (congrArg some (by kernel_rfl))
  f169 := Tryz.func171.trans (congrArg some (by kernel_rfl))
  f240 := Tryz.func201.trans (congrArg some (by kernel_rfl))
  f241 := Tryz.func202.trans (congrArg some (by kernel_rfl))
  f276 := Tryz.func218.trans (congrArg some (by kernel_rfl))
  f277 := Tryz.func219.trans (congrArg some (by kernel_rfl))
  t0 := Tryz.underlying0
  a0 := Tryz.isAgg0
  z0 := Tryz.sizeOf0
  v0 := Tryz.zeroValue0
  t3 := Tryz.underlying3
  a3 := Tryz.isAgg3
  z3 := Tryz.sizeOf3
  v3 := Tryz.zeroValue3
  t4 := Tryz.underlying4
  a4 := Tryz.isAgg4
  z4 := Tryz.sizeOf4
  v4 := Tryz.zeroValue4
  t9 := Tryz.underlying9
  a9 := Tryz.isAgg9
  z9 := Tryz.sizeOf9
  v9 := Tryz.zeroValue9
  t20 := Tryz.underlying20
  a20 := Tryz.isAgg20
  z20 := Tryz.sizeOf20
  v20 := Tryz.zeroValue20
  t31 := Tryz.underlying136
  a31 := Tryz.isAgg136
  z31 := Tryz.sizeOf136
  v31 := Tryz.zeroValue136
  t37 := Tryz.underlying156
  a37 := Tryz.isAgg156
  z37 := Tryz.sizeOf156
  v37 := Tryz.zeroValue156
  t70 := Tryz.underlying155
  a70 := Tryz.isAgg155
  z70 := Tryz.sizeOf155
  v70 := Tryz.zeroValue155
  t72 := Tryz.underlying158
  a72 := Tryz.isAgg158
  z72 := Tryz.sizeOf158
  v72 := Tryz.zeroValue158
  t75 := Tryz.underlying161
  a75 := Tryz.isAgg161
  z75 := Tryz.sizeOf161
  v75 := Tryz.zeroValue161
  t76 := Tryz.underlying162
  a76 := Tryz.isAgg162
  z76 := Tryz.sizeOf162
  v76 := Tryz.zeroValue162
  t127 := Tryz.underlying188
  a127 := Tryz.isAgg188
  z127 := Tryz.sizeOf188
  v127 := Tryz.zeroValue188
  t164 := Tryz.underlying201
  a164 := Tryz.isAgg201
  z164 := Tryz.sizeOf201
  v164 := Tryz.zeroValue201 }
theorem Tryz.Builder_Extra_156 : Builder.Extra Tryz.prog Tryz.lays156_ren := {
  sizeBuilder := by kernel_rfl
  liesBuilder := by kernel_rfl
  t5 := Tryz.underlying5
  a5 := Tryz.isAgg5
  z5 := Tryz.sizeOf5
  v5 := Tryz.zeroValue5
  infoByte := by kernel_rfl
  cellsByte := by kernel_rfl
  sizeByte := by kernel_rfl
  neB5 := by decide }
def Tryz.lays125_ren : Go.Shelf.Ren := ⟨fun | 125 => 156 | 128 => 185 | 129 => 186 | n => n, fun | 46 => 143 | 3 => 3 | 51 => 176 | 53 => 178 | 4 => 4 | 5 => 5 | 9 => 9 | n => n, fun | n => n⟩
theorem Tryz.lays125 : Go.Proofs.Lays.n125 Tryz.prog Tryz.lays125_ren := {
  mixed := by kernel_rfl
  f125 := Tryz.func156.trans (congrArg some (by kernel_rfl))
  f128 := Tryz.func185.trans (congrArg some (by kernel_rfl))
  f129 := Tryz.func186.trans (congrArg some (by kernel_rfl))
  t3 := Tryz.underlying3
  a3 := Tryz.isAgg3
  z3 := Tryz.sizeOf3
  v3 := Tryz.zeroValue3
  t4 := Tryz.underlying4
  a4 := Tryz.isAgg4
  z4 := Tryz.sizeOf4
  v4 := Tryz.zeroValue4
  t5 := Tryz.underlying5
  a5 := Tryz.isAgg5
  z5 := Tryz.sizeOf5
  v5 := Tryz.zeroValue5
  t9 := Tryz.underlying9
  a9 := Tryz.isAgg9
  z9 := Tryz.sizeOf9
  v9 := Tryz.zeroValue9
  t46 := Tryz.underlying143
  a46 := Tryz.isAgg143
  z46 := Tryz.sizeOf143
  v46 := Tryz.zeroValue143
  t51 := Tryz.underlying176
  a51 := Tryz.isAgg176
  z51 := Tryz.sizeOf176
  v51 := Tryz.zeroValue176
  t53 := Tryz.underlying178
  a53 := Tryz.isAgg178
  z53 := Tryz.sizeOf178
  v53 := Tryz.zeroValue178 }
end Go.Proofs
namespace Go.Proofs.YtnolcogncjijpaaGreatDoor
open Go Go.Ab
def strings_Compare (s p : ByteArray) : Bool × Int := compareF s p
def z5p : Ab.Spec ty := mkSpec (cx := base) (aCons (aPure vStr) (aCons (aPure vStr) aNil)) fun x => ((strings_Compare x.1 x.2.1).1, ⟨[.pure (.lit (.int .i64 (strings_Compare x.1 x.2.1).2))], []⟩)
theorem zbh5 : Sound Tryz.prog base 162 z5p := compare_sound base_ok Go.Proofs.Tryz.lays106 Tryz.call162
end Go.Proofs.YtnolcogncjijpaaGreatDoor
namespace Go.Proofs.YtnolcogncjijpaaGreatDoor
open Go Go.Ab
def zbny : Cx ty := mkCx base 22 [(79, zoa), (88, zpk), (125, zq0), (162, z5p)] [] [] [] [] []
def z47 (a : Value) (b : Value) : Wy0 (Int) := .bn (ze6 a.Kind b.Kind) fun r2 => .bn (zkd a.Int b.Int) fun r1 => .bn (zqk [r2, r1, (strings_Compare a.Text b.Text).snd]) fun r0 => .k r0
def zsw (a : Value) (b : Value) : Bool × Int := (z47 a b).fin default
def zbcq (r : Int) : ARes ty := ⟨[.pure (.lit (.int .i64 r))], []⟩
def zbgo : AL base (Value × Value × Unit) := aCons (aPure (vAgg 46)) (aCons (aPure (vAgg 46)) aNil)
def zzs : Ab.Spec ty := mkSpec zbgo fun x => ((zsw x.1 x.2.1).1, zbcq (zsw x.1 x.2.1).2)
theorem z6s : Sound Tryz.prog base 128 zzs :=
  sound_W (cx' := zbny) draws base_ok mkSame (mkSpecs ⟨(zsk), (zr1), (zue), (zbh5), trivial⟩) Tryz.call128 Tryz.func128 (c := body Tryz.f128) (by kernel_rfl) (loopsOK_of (l := []) (by kernel_rfl) trivial) (sg := ⟨[.pure], []⟩) (A := zbgo) (res := zbcq) (W := fun x => z47 x.1 x.2.1) (z := default) (fun x => by kernel_rfl) (fun _ => by kernel_rfl)
def z7w (zj : List Term → List Term → Bool × Int) (zn : Weighted → Weighted → Bool × Int) (zh : List (List Term) → List (List Term) → Bool × Int) (zl : List Weighted → List Weighted → Bool × Int) : Cx ty := mkCx base 51 [(38, (zee zj)), (85, (zed zn)), (88, zpk), (125, zq0), (126, (zbc zh)), (127, (zbh zl)), (128, zzs)] [] [] [] [] []
def zoh (zj : List Term → List Term → Bool × Int) (zn : Weighted → Weighted → Bool × Int) (zh : List (List Term) → List (List Term) → Bool × Int) (zl : List Weighted → List Weighted → Bool × Int) (a : Atom) (b : Atom) : Wy0 (Int) := .bn (ze6 a.Kind b.Kind) fun r8 => .bn (ze6 a.Row.Table b.Row.Table) fun r7 => .bn (ze6 a.Row.Seq b.Row.Seq) fun r6 => .bn (zh a.Args b.Args) fun r5 => .bn (ze6 a.Func b.Func) fun r4 => .bn (zl a.Items b.Items) fun r3 => .bn (ze6 a.Op b.Op) fun r2 => .bn (zsw a.Bound b.Bound) fun r1 => .bn (zqk [r8, r7, r6, r5, r4, r3, r2, r1]) fun r0 => .k r0
def zlq (zj : List Term → List Term → Bool × Int) (zn : Weighted → Weighted → Bool × Int) (zh : List (List Term) → List (List Term) → Bool × Int) (zl : List Weighted → List Weighted → Bool × Int) (a : Atom) (b : Atom) : Bool × Int := (zoh zj zn zh zl a b).fin default
theorem z4g (zj : List Term → List Term → Bool × Int) (zn : Weighted → Weighted → Bool × Int) (zh : List (List Term) → List (List Term) → Bool × Int) (zl : List Weighted → List Weighted → Bool × Int) (zku : Sound Tryz.prog base 38 (zee zj)) (zon : Sound Tryz.prog base 85 (zed zn)) (zfn : Sound Tryz.prog base 126 (zbc zh)) (zg9 : Sound Tryz.prog base 127 (zbh zl)) : Sound Tryz.prog base 73 (zhe (zlq zj zn zh zl)) :=
  sound_W (cx' := (z7w zj zn zh zl)) draws base_ok mkSame (mkSpecs ⟨(zku), (zon), (zr1), (zue), (zfn), (zg9), (z6s), trivial⟩) Tryz.call73 Tryz.func73 (c := body Tryz.f73) (by kernel_rfl) (loopsOK_of (l := []) (by kernel_rfl) trivial) (sg := ⟨[.pure], []⟩) (A := zx2) (res := zvf) (W := fun x => zoh zj zn zh zl x.1 x.2.1) (z := default) (fun x => by kernel_rfl) (fun _ => by kernel_rfl)
def z42 (zci : Atom → Atom → Bool × Int) : Cx ty := mkCx base 17 [(73, (zhe zci)), (88, zpk), (125, zq0)] [] [] [] [] []
def zm3 (zci : Atom → Atom → Bool × Int) (a : Factor) (b : Factor) : Wy0 (Int) := .bn (zci (Atom.mk a.Atom.Kind a.Atom.Row a.Atom.Args a.Atom.Func a.Atom.Items a.Atom.Op a.Atom.Bound) (Atom.mk b.Atom.Kind b.Atom.Row b.Atom.Args b.Atom.Func b.Atom.Items b.Atom.Op b.Atom.Bound)) fun r2 => .bn (ze6 a.Exp b.Exp) fun r1 => .bn (zqk [r2, r1]) fun r0 => .k r0
def zkm (zci : Atom → Atom → Bool × Int) (a : Factor) (b : Factor) : Bool × Int := (zm3 zci a b).fin default
theorem z1x (zci : Atom → Atom → Bool × Int) (z9s : Sound Tryz.prog base 73 (zhe zci)) : Sound Tryz.prog base 124 (zdm (zkm zci)) :=
  sound_W (cx' := (z42 zci)) draws base_ok mkSame (mkSpecs ⟨(z9s), (zr1), (zue), trivial⟩) Tryz.call124 Tryz.func124 (c := body Tryz.f124) (by kernel_rfl) (loopsOK_of (l := []) (by kernel_rfl) trivial) (sg := ⟨[.pure], []⟩) (A := zvi) (res := ztt) (W := fun x => zm3 zci x.1 x.2.1) (z := default) (fun x => by kernel_rfl) (fun _ => by kernel_rfl)
def z8g (zj : List Term → List Term → Bool × Int) : Cx ty := mkCx base 17 [(38, (zee zj)), (88, zpk), (128, zzs)] [] [] [] [] []
def zov (zj : List Term → List Term → Bool × Int) (a : Weighted) (b : Weighted) : Wy0 (Int) := .bn (zsw a.Value b.Value) fun r2 => .bn (zj a.Ann b.Ann) fun r1 => .bn (zqk [r2, r1]) fun r0 => .k r0
def zlr (zj : List Term → List Term → Bool × Int) (a : Weighted) (b : Weighted) : Bool × Int := (zov zj a b).fin default
theorem z4f (zj : List Term → List Term → Bool × Int) (zku : Sound Tryz.prog base 38 (zee zj)) : Sound Tryz.prog base 85 (zed (zlr zj)) :=
  sound_W (cx' := (z8g zj)) draws base_ok mkSame (mkSpecs ⟨(zku), (zr1), (z6s), trivial⟩) Tryz.call85 Tryz.func85 (c := body Tryz.f85) (by kernel_rfl) (loopsOK_of (l := []) (by kernel_rfl) trivial) (sg := ⟨[.pure], []⟩) (A := zyc) (res := zvo) (W := fun x => zov zj x.1 x.2.1) (z := default) (fun x => by kernel_rfl) (fun _ => by kernel_rfl)
def z8c (zt : List Factor → List Factor → Bool × Int) (zi : Factor → Factor → Bool × Int) : Cx ty := mkCx base 10 [(123, (zbu zt)), (124, (zdm zi))] [] [] [] [] []
def zop (zt : List Factor → List Factor → Bool × Int) (zi : Factor → Factor → Bool × Int) (a : Term) (b : Term) : Wy0 (Int) := .bn (zt a.Factors b.Factors) fun r0 => .k r0
def zlt (zt : List Factor → List Factor → Bool × Int) (zi : Factor → Factor → Bool × Int) (a : Term) (b : Term) : Bool × Int := (zop zt zi a b).fin default
theorem z4e (zt : List Factor → List Factor → Bool × Int) (zi : Factor → Factor → Bool × Int) (zkf : Sound Tryz.prog base 123 (zbu zt)) (zm6 : Sound Tryz.prog base 124 (zdm zi)) : Sound Tryz.prog base 71 (zho (zlt zt zi)) :=
  sound_W (cx' := (z8c zt zi)) draws base_ok mkSame (mkSpecs ⟨(zkf), (zm6), trivial⟩) Tryz.call71 Tryz.func71 (c := body Tryz.f71) (by kernel_rfl) (loopsOK_of (l := []) (by kernel_rfl) trivial) (sg := ⟨[.pure], []⟩) (A := zxz) (res := zvj) (W := fun x => zop zt zi x.1 x.2.1) (z := default) (fun x => by kernel_rfl) (fun _ => by kernel_rfl)
def zfh (zj : List Term → List Term → Bool × Int) (s1 : List (List Term)) (s2 : List (List Term)) (t11 : List (List Term)) (t12 : Int) (t13 : Int) : Wy (List (List Term) × List (List Term) × Unit × List (List Term) × Int × Int × Unit) (Unit) (Int ⊕ (List (List Term) × List (List Term))) := .i (decide (t13 < t12)) (.i (decide ((0 : Int) ≤ t13) && decide (t13 < Int.ofNat t11.length)) (.i (decide (t13 ≥ Int.ofNat s2.length)) (.k (.inl (1 : Int))) (.i (decide ((0 : Int) ≤ t13) && decide (t13 < Int.ofNat s2.length)) (.bn (zj (t11.getD t13.toNat default) (s2.getD t13.toNat default)) fun r0 => .i (r0 != (0 : Int)) (.k (.inl (r0))) (.h (s1, s2, (), t11, t12, (IntKind.i64.wrap (t13 + (1 : Int))), ()) ())) .d)) .d) (.k (.inr (s1, s2)))
def zbx (zj : List Term → List Term → Bool × Int) (x : List (List Term) × List (List Term) × Unit × List (List Term) × Int × Int × Unit) (y : Unit) : Wy (List (List Term) × List (List Term) × Unit × List (List Term) × Int × Int × Unit) (Unit) (Int ⊕ (List (List Term) × List (List Term))) := zfh zj x.1 x.2.1 x.2.2.2.1 x.2.2.2.2.1 x.2.2.2.2.2.1
def zfi (zj : List Term → List Term → Bool × Int) (n : Nat) (s1 : List (List Term)) (s2 : List (List Term)) (t11 : List (List Term)) (t12 : Int) (t13 : Int) : Bool × (Int ⊕ (List (List Term) × List (List Term))) := iterW (zbx zj) (.inl default) n (s1, s2, (), t11, t12, t13, ()) ()
def zcr (r : Int ⊕ (List (List Term) × List (List Term))) : LTree ty := .ite (isL r) (.done .ret [.lit (.int .i64 (getL r))] []) (.done (.exit 0) [.sl 23 ((getR r).1), .sl 23 ((getR r).2)] [])
def zcs : LL ty (List (List Term) × List (List Term) × Unit × List (List Term) × Int × Int × Unit) := llCons (lSl 23) (llCons (lSl 23) (llCons (lFn 38 (llNil)) (llCons (lSl 23) (llCons (lInt .i64) (llCons (lInt .i64) llNil)))))
def zcv : BL ty (Unit) := bNil
def zct (zj : List Term → List Term → Bool × Int) : Cx ty := mkCx base 39 [(38, (zee zj))] [] [(2, [(0, .keep), (1, .keep), (2, .keep), (11, .keep), (12, .keep), (13, .keep)])] [(2, 1, [(0, .keep), (1, .keep)]), (2, 0, [(6, .keep)])] [(2, spW zcs zcv (zbx zj) (.inl default) zcr fun x y => (x.1.length + x.2.1.length + x.2.2.2.1.length + Int.toNat x.2.2.2.2.1 + Int.toNat x.2.2.2.2.2.1 + 1))] []
theorem zff (zj : List Term → List Term → Bool × Int) : LoopOK (zct zj) (lp (body Tryz.f126) 0) := loopOK_W (id := 2) (V := zcs) (B := zcv) (W := zbx zj) (z := .inl default) (tr := zcr) (m := fun x y => (x.1.length + x.2.1.length + x.2.2.2.1.length + Int.toNat x.2.2.2.2.1 + Int.toNat x.2.2.2.2.2.1 + 1)) (by kernel_rfl) (by kernel_rfl) fun R H K x y => by kernel_rfl
def zcw (zj : List Term → List Term → Bool × Int) (s1 : List (List Term)) (s2 : List (List Term)) : Wy0 (Int) := .bn (zfi zj (s1.length + s2.length + s1.length + (Int.ofNat s1.length).toNat + Int.toNat (0 : Int) + (1 : Nat)) s1 s2 s1 (Int.ofNat s1.length) (0 : Int)) fun r2 => .i (isL r2) (.k (getL r2)) (.i (decide (Int.ofNat (getR r2).fst.length < Int.ofNat (getR r2).snd.length)) (.k (-1 : Int)) (.k (0 : Int)))
def zbo (zj : List Term → List Term → Bool × Int) (s1 : List (List Term)) (s2 : List (List Term)) : Bool × Int := (zcw zj s1 s2).fin default
theorem zfc (zj : List Term → List Term → Bool × Int) (zku : Sound Tryz.prog base 38 (zee zj)) : Sound Tryz.prog base 126 (zbc (zbo zj)) :=
  sound_W (cx' := (zct zj)) draws base_ok mkSame (mkSpecs ⟨(zku), trivial⟩) Tryz.call126 Tryz.func126 (c := body Tryz.f126) (by kernel_rfl) (loopsOK_of (l := [lp (body Tryz.f126) 0]) (by kernel_rfl) ⟨zff zj, trivial⟩) (sg := ⟨[.pure], []⟩) (A := zc4) (res := zcz) (W := fun x => zcw zj x.1 x.2.1) (z := default) (fun x => by kernel_rfl) (fun _ => by kernel_rfl)
def zd0 (zi : Factor → Factor → Bool × Int) (s1 : List Factor) (s2 : List Factor) (t11 : List Factor) (t12 : Int) (t13 : Int) : Wy (List Factor × List Factor × Unit × List Factor × Int × Int × Unit) (Unit) (Int ⊕ (List Factor × List Factor)) := .i (decide (t13 < t12)) (.i (decide ((0 : Int) ≤ t13) && decide (t13 < Int.ofNat t11.length)) (.i (decide (t13 ≥ Int.ofNat s2.length)) (.k (.inl (1 : Int))) (.i (decide ((0 : Int) ≤ t13) && decide (t13 < Int.ofNat s2.length)) (.bn (zi (FactorOf.mk (Atom.mk (t11.getD t13.toNat default).Atom.Kind (t11.getD t13.toNat default).Atom.Row (t11.getD t13.toNat default).Atom.Args (t11.getD t13.toNat default).Atom.Func (t11.getD t13.toNat default).Atom.Items (t11.getD t13.toNat default).Atom.Op (t11.getD t13.toNat default).Atom.Bound) (t11.getD t13.toNat default).Exp) (FactorOf.mk (Atom.mk (s2.getD t13.toNat default).Atom.Kind (s2.getD t13.toNat default).Atom.Row (s2.getD t13.toNat default).Atom.Args (s2.getD t13.toNat default).Atom.Func (s2.getD t13.toNat default).Atom.Items (s2.getD t13.toNat default).Atom.Op (s2.getD t13.toNat default).Atom.Bound) (s2.getD t13.toNat default).Exp)) fun r0 => .i (r0 != (0 : Int)) (.k (.inl (r0))) (.h (s1, s2, (), t11, t12, (IntKind.i64.wrap (t13 + (1 : Int))), ()) ())) .d)) .d) (.k (.inr (s1, s2)))
def zbn (zi : Factor → Factor → Bool × Int) (x : List Factor × List Factor × Unit × List Factor × Int × Int × Unit) (y : Unit) : Wy (List Factor × List Factor × Unit × List Factor × Int × Int × Unit) (Unit) (Int ⊕ (List Factor × List Factor)) := zd0 zi x.1 x.2.1 x.2.2.2.1 x.2.2.2.2.1 x.2.2.2.2.2.1
def zd3 (zi : Factor → Factor → Bool × Int) (n : Nat) (s1 : List Factor) (s2 : List Factor) (t11 : List Factor) (t12 : Int) (t13 : Int) : Bool × (Int ⊕ (List Factor × List Factor)) := iterW (zbn zi) (.inl default) n (s1, s2, (), t11, t12, t13, ()) ()
def zdz (r : Int ⊕ (List Factor × List Factor)) : LTree ty := .ite (isL r) (.done .ret [.lit (.int .i64 (getL r))] []) (.done (.exit 0) [.sl 50 ((getR r).1), .sl 50 ((getR r).2)] [])
def zd4 : LL ty (List Factor × List Factor × Unit × List Factor × Int × Int × Unit) := llCons (lSl 50) (llCons (lSl 50) (llCons (lFn 124 (llNil)) (llCons (lSl 50) (llCons (lInt .i64) (llCons (lInt .i64) llNil)))))
def zd2 : BL ty (Unit) := bNil
def zd1 (zi : Factor → Factor → Bool × Int) : Cx ty := mkCx base 39 [(124, (zdm zi))] [] [(2, [(0, .keep), (1, .keep), (2, .keep), (11, .keep), (12, .keep), (13, .keep)])] [(2, 1, [(0, .keep), (1, .keep)]), (2, 0, [(6, .keep)])] [(2, spW zd4 zd2 (zbn zi) (.inl default) zdz fun x y => (x.1.length + x.2.1.length + x.2.2.2.1.length + Int.toNat x.2.2.2.2.1 + Int.toNat x.2.2.2.2.2.1 + 1))] []
theorem zjk (zi : Factor → Factor → Bool × Int) : LoopOK (zd1 zi) (lp (body Tryz.f123) 0) := loopOK_W (id := 2) (V := zd4) (B := zd2) (W := zbn zi) (z := .inl default) (tr := zdz) (m := fun x y => (x.1.length + x.2.1.length + x.2.2.2.1.length + Int.toNat x.2.2.2.2.1 + Int.toNat x.2.2.2.2.2.1 + 1)) (by kernel_rfl) (by kernel_rfl) fun R H K x y => by kernel_rfl
def zcj (zi : Factor → Factor → Bool × Int) (s1 : List Factor) (s2 : List Factor) : Wy0 (Int) := .bn (zd3 zi (s1.length + s2.length + s1.length + (Int.ofNat s1.length).toNat + Int.toNat (0 : Int) + (1 : Nat)) s1 s2 s1 (Int.ofNat s1.length) (0 : Int)) fun r2 => .i (isL r2) (.k (getL r2)) (.i (decide (Int.ofNat (getR r2).fst.length < Int.ofNat (getR r2).snd.length)) (.k (-1 : Int)) (.k (0 : Int)))
def zbs (zi : Factor → Factor → Bool × Int) (s1 : List Factor) (s2 : List Factor) : Bool × Int := (zcj zi s1 s2).fin default
theorem zix (zi : Factor → Factor → Bool × Int) (zm6 : Sound Tryz.prog base 124 (zdm zi)) : Sound Tryz.prog base 123 (zbu (zbs zi)) :=
  sound_W (cx' := (zd1 zi)) draws base_ok mkSame (mkSpecs ⟨(zm6), trivial⟩) Tryz.call123 Tryz.func123 (c := body Tryz.f123) (by kernel_rfl) (loopsOK_of (l := [lp (body Tryz.f123) 0]) (by kernel_rfl) ⟨zjk zi, trivial⟩) (sg := ⟨[.pure], []⟩) (A := zef) (res := zd6) (W := fun x => zcj zi x.1 x.2.1) (z := default) (fun x => by kernel_rfl) (fun _ => by kernel_rfl)
def zgt (zn : Weighted → Weighted → Bool × Int) (s1 : List Weighted) (s2 : List Weighted) (t11 : List Weighted) (t12 : Int) (t13 : Int) : Wy (List Weighted × List Weighted × Unit × List Weighted × Int × Int × Unit) (Unit) (Int ⊕ (List Weighted × List Weighted)) := .i (decide (t13 < t12)) (.i (decide ((0 : Int) ≤ t13) && decide (t13 < Int.ofNat t11.length)) (.i (decide (t13 ≥ Int.ofNat s2.length)) (.k (.inl (1 : Int))) (.i (decide ((0 : Int) ≤ t13) && decide (t13 < Int.ofNat s2.length)) (.bn (zn (t11.getD t13.toNat default) (s2.getD t13.toNat default)) fun r0 => .i (r0 != (0 : Int)) (.k (.inl (r0))) (.h (s1, s2, (), t11, t12, (IntKind.i64.wrap (t13 + (1 : Int))), ()) ())) .d)) .d) (.k (.inr (s1, s2)))
def zb4 (zn : Weighted → Weighted → Bool × Int) (x : List Weighted × List Weighted × Unit × List Weighted × Int × Int × Unit) (y : Unit) : Wy (List Weighted × List Weighted × Unit × List Weighted × Int × Int × Unit) (Unit) (Int ⊕ (List Weighted × List Weighted)) := zgt zn x.1 x.2.1 x.2.2.2.1 x.2.2.2.2.1 x.2.2.2.2.2.1
def zgr (zn : Weighted → Weighted → Bool × Int) (n : Nat) (s1 : List Weighted) (s2 : List Weighted) (t11 : List Weighted) (t12 : Int) (t13 : Int) : Bool × (Int ⊕ (List Weighted × List Weighted)) := iterW (zb4 zn) (.inl default) n (s1, s2, (), t11, t12, t13, ()) ()
def zc7 (r : Int ⊕ (List Weighted × List Weighted)) : LTree ty := .ite (isL r) (.done .ret [.lit (.int .i64 (getL r))] []) (.done (.exit 0) [.sl 52 ((getR r).1), .sl 52 ((getR r).2)] [])
def zdb : LL ty (List Weighted × List Weighted × Unit × List Weighted × Int × Int × Unit) := llCons (lSl 52) (llCons (lSl 52) (llCons (lFn 85 (llNil)) (llCons (lSl 52) (llCons (lInt .i64) (llCons (lInt .i64) llNil)))))
def zc8 : BL ty (Unit) := bNil
def zda (zn : Weighted → Weighted → Bool × Int) : Cx ty := mkCx base 39 [(85, (zed zn))] [] [(2, [(0, .keep), (1, .keep), (2, .keep), (11, .keep), (12, .keep), (13, .keep)])] [(2, 1, [(0, .keep), (1, .keep)]), (2, 0, [(6, .keep)])] [(2, spW zdb zc8 (zb4 zn) (.inl default) zc7 fun x y => (x.1.length + x.2.1.length + x.2.2.2.1.length + Int.toNat x.2.2.2.2.1 + Int.toNat x.2.2.2.2.2.1 + 1))] []
theorem zgj (zn : Weighted → Weighted → Bool × Int) : LoopOK (zda zn) (lp (body Tryz.f127) 0) := loopOK_W (id := 2) (V := zdb) (B := zc8) (W := zb4 zn) (z := .inl default) (tr := zc7) (m := fun x y => (x.1.length + x.2.1.length + x.2.2.2.1.length + Int.toNat x.2.2.2.2.1 + Int.toNat x.2.2.2.2.2.1 + 1)) (by kernel_rfl) (by kernel_rfl) fun R H K x y => by kernel_rfl
def zdh (zn : Weighted → Weighted → Bool × Int) (s1 : List Weighted) (s2 : List Weighted) : Wy0 (Int) := .bn (zgr zn (s1.length + s2.length + s1.length + (Int.ofNat s1.length).toNat + Int.toNat (0 : Int) + (1 : Nat)) s1 s2 s1 (Int.ofNat s1.length) (0 : Int)) fun r2 => .i (isL r2) (.k (getL r2)) (.i (decide (Int.ofNat (getR r2).fst.length < Int.ofNat (getR r2).snd.length)) (.k (-1 : Int)) (.k (0 : Int)))
def zbw (zn : Weighted → Weighted → Bool × Int) (s1 : List Weighted) (s2 : List Weighted) : Bool × Int := (zdh zn s1 s2).fin default
theorem zf6 (zn : Weighted → Weighted → Bool × Int) (zon : Sound Tryz.prog base 85 (zed zn)) : Sound Tryz.prog base 127 (zbh (zbw zn)) :=
  sound_W (cx' := (zda zn)) draws base_ok mkSame (mkSpecs ⟨(zon), trivial⟩) Tryz.call127 Tryz.func127 (c := body Tryz.f127) (by kernel_rfl) (loopsOK_of (l := [lp (body Tryz.f127) 0]) (by kernel_rfl) ⟨zgj zn, trivial⟩) (sg := ⟨[.pure], []⟩) (A := zdj) (res := zdg) (W := fun x => zdh zn x.1 x.2.1) (z := default) (fun x => by kernel_rfl) (fun _ => by kernel_rfl)
def zi6 (zr : Term → Term → Bool × Int) (s1 : List Term) (s2 : List Term) (t11 : List Term) (t12 : Int) (t13 : Int) : Wy (List Term × List Term × Unit × List Term × Int × Int × Unit) (Unit) (Int ⊕ (List Term × List Term)) := .i (decide (t13 < t12)) (.i (decide ((0 : Int) ≤ t13) && decide (t13 < Int.ofNat t11.length)) (.i (decide (t13 ≥ Int.ofNat s2.length)) (.k (.inl (1 : Int))) (.i (decide ((0 : Int) ≤ t13) && decide (t13 < Int.ofNat s2.length)) (.bn (zr (t11.getD t13.toNat default) (s2.getD t13.toNat default)) fun r0 => .i (r0 != (0 : Int)) (.k (.inl (r0))) (.h (s1, s2, (), t11, t12, (IntKind.i64.wrap (t13 + (1 : Int))), ()) ())) .d)) .d) (.k (.inr (s1, s2)))
def zcc (zr : Term → Term → Bool × Int) (x : List Term × List Term × Unit × List Term × Int × Int × Unit) (y : Unit) : Wy (List Term × List Term × Unit × List Term × Int × Int × Unit) (Unit) (Int ⊕ (List Term × List Term)) := zi6 zr x.1 x.2.1 x.2.2.2.1 x.2.2.2.2.1 x.2.2.2.2.2.1
def zi5 (zr : Term → Term → Bool × Int) (n : Nat) (s1 : List Term) (s2 : List Term) (t11 : List Term) (t12 : Int) (t13 : Int) : Bool × (Int ⊕ (List Term × List Term)) := iterW (zcc zr) (.inl default) n (s1, s2, (), t11, t12, t13, ()) ()
def zdn (r : Int ⊕ (List Term × List Term)) : LTree ty := .ite (isL r) (.done .ret [.lit (.int .i64 (getL r))] []) (.done (.exit 0) [.sl 42 ((getR r).1), .sl 42 ((getR r).2)] [])
def zdr : LL ty (List Term × List Term × Unit × List Term × Int × Int × Unit) := llCons (lSl 42) (llCons (lSl 42) (llCons (lFn 87 (llNil)) (llCons (lSl 42) (llCons (lInt .i64) (llCons (lInt .i64) llNil)))))
def zds : BL ty (Unit) := bNil
def zdt (zr : Term → Term → Bool × Int) : Cx ty := mkCx base 39 [(87, (ze2 zr))] [] [(2, [(0, .keep), (1, .keep), (2, .keep), (11, .keep), (12, .keep), (13, .keep)])] [(2, 1, [(0, .keep), (1, .keep)]), (2, 0, [(6, .keep)])] [(2, spW zdr zds (zcc zr) (.inl default) zdn fun x y => (x.1.length + x.2.1.length + x.2.2.2.1.length + Int.toNat x.2.2.2.2.1 + Int.toNat x.2.2.2.2.2.1 + 1))] []
theorem ziy (zr : Term → Term → Bool × Int) : LoopOK (zdt zr) (lp (body Tryz.f86) 0) := loopOK_W (id := 2) (V := zdr) (B := zds) (W := zcc zr) (z := .inl default) (tr := zdn) (m := fun x y => (x.1.length + x.2.1.length + x.2.2.2.1.length + Int.toNat x.2.2.2.2.1 + Int.toNat x.2.2.2.2.2.1 + 1)) (by kernel_rfl) (by kernel_rfl) fun R H K x y => by kernel_rfl
def zdx (zr : Term → Term → Bool × Int) (s1 : List Term) (s2 : List Term) : Wy0 (Int) := .bn (zi5 zr (s1.length + s2.length + s1.length + (Int.ofNat s1.length).toNat + Int.toNat (0 : Int) + (1 : Nat)) s1 s2 s1 (Int.ofNat s1.length) (0 : Int)) fun r2 => .i (isL r2) (.k (getL r2)) (.i (decide (Int.ofNat (getR r2).fst.length < Int.ofNat (getR r2).snd.length)) (.k (-1 : Int)) (.k (0 : Int)))
def zby (zr : Term → Term → Bool × Int) (s1 : List Term) (s2 : List Term) : Bool × Int := (zdx zr s1 s2).fin default
theorem zht (zr : Term → Term → Bool × Int) (zqn : Sound Tryz.prog base 87 (ze2 zr)) : Sound Tryz.prog base 86 (zbp (zby zr)) :=
  sound_W (cx' := (zdt zr)) draws base_ok mkSame (mkSpecs ⟨(zqn), trivial⟩) Tryz.call86 Tryz.func86 (c := body Tryz.f86) (by kernel_rfl) (loopsOK_of (l := [lp (body Tryz.f86) 0]) (by kernel_rfl) ⟨ziy zr, trivial⟩) (sg := ⟨[.pure], []⟩) (A := zd9) (res := zdw) (W := fun x => zdx zr x.1 x.2.1) (z := default) (fun x => by kernel_rfl) (fun _ => by kernel_rfl)
def zcb : Nat → (List Term → List Term → Bool × Int) × (Term → Term → Bool × Int) × (Term → Term → Bool × Int) × (Factor → Factor → Bool × Int) × (Atom → Atom → Bool × Int) × (Weighted → Weighted → Bool × Int) × (List Term → List Term → Bool × Int) × (List Factor → List Factor → Bool × Int) × (List (List Term) → List (List Term) → Bool × Int) × (List Weighted → List Weighted → Bool × Int)
  | 0 => (fun _ _ => (false, default), fun _ _ => (false, default), fun _ _ => (false, default), fun _ _ => (false, default), fun _ _ => (false, default), fun _ _ => (false, default), fun _ _ => (false, default), fun _ _ => (false, default), fun _ _ => (false, default), fun _ _ => (false, default))
  | n + 1 => (zqz ((zcb n).2.2.2.2.2.2.1) ((zcb n).2.1), znc ((zcb n).2.2.1), zlt ((zcb n).2.2.2.2.2.2.2.1) ((zcb n).2.2.2.1), zkm ((zcb n).2.2.2.2.1), zlq ((zcb n).1) ((zcb n).2.2.2.2.2.1) ((zcb n).2.2.2.2.2.2.2.2.1) ((zcb n).2.2.2.2.2.2.2.2.2), zlr ((zcb n).1), zby ((zcb n).2.1), zbs ((zcb n).2.2.2.1), zbo ((zcb n).1), zbw ((zcb n).2.2.2.2.2.1))
def zf5 (n : Nat) : List Term → List Term → Bool × Int := (zcb n).1
def zf3 (n : Nat) : Term → Term → Bool × Int := (zcb n).2.1
def zhb (n : Nat) : Term → Term → Bool × Int := (zcb n).2.2.1
def zev (n : Nat) : Factor → Factor → Bool × Int := (zcb n).2.2.2.1
def zhi (n : Nat) : Atom → Atom → Bool × Int := (zcb n).2.2.2.2.1
def zfd (n : Nat) : Weighted → Weighted → Bool × Int := (zcb n).2.2.2.2.2.1
def zbq (n : Nat) : List Term → List Term → Bool × Int := (zcb n).2.2.2.2.2.2.1
def zbr (n : Nat) : List Factor → List Factor → Bool × Int := (zcb n).2.2.2.2.2.2.2.1
def zbd (n : Nat) : List (List Term) → List (List Term) → Bool × Int := (zcb n).2.2.2.2.2.2.2.2.1
def zbg (n : Nat) : List Weighted → List Weighted → Bool × Int := (zcb n).2.2.2.2.2.2.2.2.2
theorem zbfe (n : Nat) : zf5 (n + 1) = zqz (zbq n) (zf3 n) := rfl
theorem zbaw (n : Nat) : zf3 (n + 1) = znc (zhb n) := rfl
theorem z73 (n : Nat) : zhb (n + 1) = zlt (zbr n) (zev n) := rfl
theorem z6a (n : Nat) : zev (n + 1) = zkm (zhi n) := rfl
theorem z78 (n : Nat) : zhi (n + 1) = zlq (zf5 n) (zfd n) (zbd n) (zbg n) := rfl
theorem z8d (n : Nat) : zfd (n + 1) = zlr (zf5 n) := rfl
theorem zi7 (n : Nat) : zbq (n + 1) = zby (zf3 n) := rfl
theorem zjz (n : Nat) : zbr (n + 1) = zbs (zev n) := rfl
theorem zfk (n : Nat) : zbd (n + 1) = zbo (zf5 n) := rfl
theorem zgs (n : Nat) : zbg (n + 1) = zbw (zfd n) := rfl
theorem zgg : ∀ n, Sound Tryz.prog base 38 (zee (zf5 n)) ∧ Sound Tryz.prog base 87 (ze2 (zf3 n)) ∧ Sound Tryz.prog base 71 (zho (zhb n)) ∧ Sound Tryz.prog base 124 (zdm (zev n)) ∧ Sound Tryz.prog base 73 (zhe (zhi n)) ∧ Sound Tryz.prog base 85 (zed (zfd n)) ∧ Sound Tryz.prog base 86 (zbp (zbq n)) ∧ Sound Tryz.prog base 123 (zbu (zbr n)) ∧ Sound Tryz.prog base 126 (zbc (zbd n)) ∧ Sound Tryz.prog base 127 (zbh (zbg n))
  | 0 => ⟨sound_false Tryz.call38 (fun _ => rfl), sound_false Tryz.call87 (fun _ => rfl), sound_false Tryz.call71 (fun _ => rfl), sound_false Tryz.call124 (fun _ => rfl), sound_false Tryz.call73 (fun _ => rfl), sound_false Tryz.call85 (fun _ => rfl), sound_false Tryz.call86 (fun _ => rfl), sound_false Tryz.call123 (fun _ => rfl), sound_false Tryz.call126 (fun _ => rfl), sound_false Tryz.call127 (fun _ => rfl)⟩
  | n + 1 => by
    have ih := zgg n
    exact ⟨zbbl _ _ (ih.2.2.2.2.2.2.1) (ih.2.1), z6m _ (ih.2.2.1), z4e _ _ (ih.2.2.2.2.2.2.2.1) (ih.2.2.2.1), z1x _ (ih.2.2.2.2.1), z4g _ _ _ _ (ih.1) (ih.2.2.2.2.2.1) (ih.2.2.2.2.2.2.2.2.1) (ih.2.2.2.2.2.2.2.2.2), z4f _ (ih.1), zht _ (ih.2.1), zix _ (ih.2.2.2.1), zfc _ (ih.1), zf6 _ (ih.2.2.2.2.2.1)⟩
def zzw : List Term → List Term → Bool × Int := zf5 1000
def z0g : Ab.Spec ty := zee zzw
theorem zbd6 : Sound Tryz.prog base 38 z0g := (zgg 1000).1
def zbii : Term → Term → Bool × Int := zf3 1000
def zbaz : Ab.Spec ty := ze2 zbii
theorem zbps : Sound Tryz.prog base 87 zbaz := (zgg 1000).2.1
def zce : Term → Term → Bool × Int := zhb 1000
def zjn : Ab.Spec ty := zho zce
theorem zm8 : Sound Tryz.prog base 71 zjn := (zgg 1000).2.2.1
def zbcx : Factor → Factor → Bool × Int := zev 1000
def z5l : Ab.Spec ty := zdm zbcx
theorem zbnz : Sound Tryz.prog base 124 z5l := (zgg 1000).2.2.2.1
def zjq : Atom → Atom → Bool × Int := zhi 1000
def znz : Ab.Spec ty := zhe zjq
theorem ztu : Sound Tryz.prog base 73 znz := (zgg 1000).2.2.2.2.1
def zbf : Weighted → Weighted → Bool × Int := zfd 1000
def zfq : Ab.Spec ty := zed zbf
theorem zif : Sound Tryz.prog base 85 zfq := (zgg 1000).2.2.2.2.2.1
def zkz : List Term → List Term → Bool × Int := zbq 1000
def zi4 : Ab.Spec ty := zbp zkz
theorem zyp : Sound Tryz.prog base 86 zi4 := (zgg 1000).2.2.2.2.2.2.1
def zlb : List Factor → List Factor → Bool × Int := zbr 1000
def zj0 : Ab.Spec ty := zbu zlb
theorem zz9 : Sound Tryz.prog base 123 zj0 := (zgg 1000).2.2.2.2.2.2.2.1
def zf8 : List (List Term) → List (List Term) → Bool × Int := zbd 1000
def zfj : Ab.Spec ty := zbc zf8
theorem zt4 : Sound Tryz.prog base 126 zfj := (zgg 1000).2.2.2.2.2.2.2.2.1
def zis : List Weighted → List Weighted → Bool × Int := zbg 1000
def zgq : Ab.Spec ty := zbh zis
theorem zwy : Sound Tryz.prog base 127 zgq := (zgg 1000).2.2.2.2.2.2.2.2.2
def z4c (r : List Term) : ARes ty := ⟨[.own 42 r], []⟩
def z7h : AL base (List Term × Unit) := aCons (aPure (vSl 42)) aNil
def znl (F : List Term → Bool × List Term) : Ab.Spec ty := mkSpec z7h fun x => ((F x.1).1, z4c (F x.1).2)
def zx1 (r : Atom) : ARes ty := ⟨[.pure (.agg (base.enc 48 r))], []⟩
def z05 : AL base (Atom × Unit) := aCons (aPure (vAgg 48)) aNil
def zkb (F : Atom → Bool × Atom) : Ab.Spec ty := mkSpec z05 fun x => ((F x.1).1, zx1 (F x.1).2)
def zet : Cx ty := { base with nt := 8 }
def zfe (s : List Factor) : Bool × List Factor := (decide (s.length * 128 ≤ reach), s)
def zmr : Ab.Spec ty := mkSpec (cx := base) (aCons (aPure (vSl 50)) aNil) fun x => ((zfe x.1).1, ⟨[.own 50 (zfe x.1).2], []⟩)
theorem zw6 : runFn zet Tryz.f117 (body Tryz.f117) ⟨[.own 50], []⟩ [.pure (.lit (.slice none 0 0))] = some ⟨[.own 50 []], []⟩ := by kernel_rfl
theorem zve (p : Addr) (c : Nat) : runFn zet Tryz.f117 (body Tryz.f117) ⟨[.own 50], []⟩ [.pure (.lit (.slice (some p) 0 c))] = some ⟨[.own 50 []], []⟩ := by kernel_rfl
theorem zv9 (l : List Factor) : runFn zet Tryz.f117 (body Tryz.f117) ⟨[.own 50], []⟩ [.pure (.sl 50 l)] = bif !l.isEmpty then bif decide ((([] : List (ty 50)).length + l.length) * 128 ≤ reach) then some ⟨[.own 50 l], []⟩ else none else none := by kernel_rfl
theorem zu8 : Sound Tryz.prog base 117 zmr :=
  clone_sound (cx' := zet) (bytes := 128) draws base_ok ⟨⟨rfl, rfl, rfl, rfl, rfl, rfl⟩, rfl⟩ (fun g s h => by cases h) Tryz.call117 Tryz.func117 (c := body Tryz.f117) (by kernel_rfl) (loopsOK_of (l := []) (by kernel_rfl) trivial) zw6 zve zv9 (by kernel_rfl)
def zk1 (zp : Atom → Bool × Atom) (t8 : List Term) (t9 : Int) (t10 : Int) (t18 : Int) (t19 : Int) (out_ : List Term) (t : Term) (factors : List Factor) : Wy (Unit × Unit × Unit × List Term × Int × Int × Int × Int × Unit) (List Term × Term × List Factor × Unit) (List Term × Int × Int × List Term × Term × List Factor) := .i (decide (t19 < t18)) (.i (decide ((0 : Int) ≤ t19) && decide (t19 < Int.ofNat factors.length)) (.bn (zp (Atom.mk (factors.getD t19.toNat default).Atom.Kind (factors.getD t19.toNat default).Atom.Row (factors.getD t19.toNat default).Atom.Args (factors.getD t19.toNat default).Atom.Func (factors.getD t19.toNat default).Atom.Items (factors.getD t19.toNat default).Atom.Op (factors.getD t19.toNat default).Atom.Bound)) fun r2 => .i (decide ((0 : Int) ≤ t19) && decide (t19 < Int.ofNat factors.length)) (.i (decide (t19.toNat < factors.length)) (.h ((), (), (), t8, t9, t10, t18, (IntKind.i64.wrap (t19 + (1 : Int))), ()) (out_, t, (factors.set t19.toNat (FactorOf.mk (Atom.mk r2.Kind r2.Row r2.Args r2.Func r2.Items r2.Op r2.Bound) (factors.getD t19.toNat default).Exp)), ())) .d) .d) .d) (.k (t8, t9, t10, out_, t, factors))
def zn5 (zp : Atom → Bool × Atom) (x : Unit × Unit × Unit × List Term × Int × Int × Int × Int × Unit) (y : List Term × Term × List Factor × Unit) : Wy (Unit × Unit × Unit × List Term × Int × Int × Int × Int × Unit) (List Term × Term × List Factor × Unit) (List Term × Int × Int × List Term × Term × List Factor) := zk1 zp x.2.2.2.1 x.2.2.2.2.1 x.2.2.2.2.2.1 x.2.2.2.2.2.2.1 x.2.2.2.2.2.2.2.1 y.1 y.2.1 y.2.2.1
def z2p (zp : Atom → Bool × Atom) (n : Nat) (t8 : List Term) (t9 : Int) (t10 : Int) (t18 : Int) (t19 : Int) (out_ : List Term) (t : Term) (factors : List Factor) : Bool × (List Term × Int × Int × List Term × Term × List Factor) := iterW (zn5 zp) default n ((), (), (), t8, t9, t10, t18, t19, ()) (out_, t, factors, ())
def z0t (r : List Term × Int × Int × List Term × Term × List Factor) : LTree ty := .done (.exit 2) [.own 168, .ptr 169 0, .own 170, .sl 42 r.1, .lit (.int .i64 r.2.1), .lit (.int .i64 r.2.2.1)] [.arr 42 r.2.2.2.1 false, .box (base.enc 42 r.2.2.2.2.1) false, .arr 50 r.2.2.2.2.2 false]
def z12 : LL ty (Unit × Unit × Unit × List Term × Int × Int × Int × Int × Unit) := llCons (lOwn 168) (llCons (lPtrC 169 0) (llCons (lOwn 170) (llCons (lSl 42) (llCons (lInt .i64) (llCons (lInt .i64) (llCons (lInt .i64) (llCons (lInt .i64) llNil)))))))
def z2q : BL ty (List Term × Term × List Factor × Unit) := bArr 42 false (bBox (llMap (fun x => (⟨x.1, x.2.1⟩ : Term)) (fun x => (x.Coeff, x.Factors, ())) (fun _ => rfl) (llCons (lInt .i64) (llCons (lSl 50) llNil))) false (bArr 50 false (bNil)))
def zkt (zp : Atom → Bool × Atom) (t8 : List Term) (t9 : Int) (t10 : Int) (out_ : List Term) : Wy (Unit × List Term × Int × Int × Unit) (List Term × Unit) (List Term) := .i (decide (t10 < t9)) (.i (decide ((0 : Int) ≤ t10) && decide (t10 < Int.ofNat t8.length)) (.bn (zfe (t8.getD t10.toNat default).Factors) fun r5 => .bn (z2p zp (t8.length + t9.toNat + t10.toNat + (Int.ofNat r5.length).toNat + Int.toNat (0 : Int) + out_.length + (t8.getD t10.toNat default).Factors.length + r5.length + (1 : Nat)) t8 t9 t10 (Int.ofNat r5.length) (0 : Int) out_ (t8.getD t10.toNat default) r5) fun r4 => .i (decide ((r4.snd.snd.snd.fst.length + [TermOf.mk r4.snd.snd.snd.snd.fst.Coeff r4.snd.snd.snd.snd.snd].length) * (32 : Nat) ≤ reach)) (.h ((), (r4.fst), (r4.snd.fst), (IntKind.i64.wrap (r4.snd.snd.fst + (1 : Int))), ()) ((r4.snd.snd.snd.fst ++ [TermOf.mk r4.snd.snd.snd.snd.fst.Coeff r4.snd.snd.snd.snd.snd]), ())) .d) .d) (.k out_)
def zn8 (zp : Atom → Bool × Atom) (x : Unit × List Term × Int × Int × Unit) (y : List Term × Unit) : Wy (Unit × List Term × Int × Int × Unit) (List Term × Unit) (List Term) := zkt zp x.2.1 x.2.2.1 x.2.2.2.1 y.1
def z2n (zp : Atom → Bool × Atom) (n : Nat) (t8 : List Term) (t9 : Int) (t10 : Int) (out_ : List Term) : Bool × List Term := iterW (zn8 zp) default n ((), t8, t9, t10, ()) (out_, ())
def z0n (r : List Term) : LTree ty := .done (.exit 0) [.own 168] [.arr 42 r false]
def z17 : LL ty (Unit × List Term × Int × Int × Unit) := llCons (lOwn 168) (llCons (lSl 42) (llCons (lInt .i64) (llCons (lInt .i64) llNil)))
def z2f : BL ty (List Term × Unit) := bArr 42 false (bNil)
def ztb (zp : Atom → Bool × Atom) : Cx ty := mkCx base 42 [(117, zmr), (118, (zkb zp))] [] [(3, [(3, .own 42), (8, .keep), (9, .keep), (10, .keep)]), (7, [(3, .keep), (5, .keep), (6, .keep), (8, .keep), (9, .keep), (10, .keep), (18, .keep), (19, .keep)])] [(3, 1, [(3, .keep)]), (7, 3, [(3, .keep), (5, .keep), (6, .keep), (8, .keep), (9, .keep), (10, .keep)])] [(7, spW z12 z2q (zn5 zp) default z0t fun x y => (x.2.2.2.1.length + Int.toNat x.2.2.2.2.1 + Int.toNat x.2.2.2.2.2.1 + Int.toNat x.2.2.2.2.2.2.1 + Int.toNat x.2.2.2.2.2.2.2.1 + y.1.length + y.2.1.Factors.length + y.2.2.1.length + 1)), (3, spW z17 z2f (zn8 zp) default z0n fun x y => (x.2.1.length + Int.toNat x.2.2.1 + Int.toNat x.2.2.2.1 + y.1.length + 1))] []
theorem zbe9 (zp : Atom → Bool × Atom) : LoopOK (ztb zp) (lp (body Tryz.f61) 1) := loopOK_W (id := 7) (V := z12) (B := z2q) (W := zn5 zp) (z := default) (tr := z0t) (m := fun x y => (x.2.2.2.1.length + Int.toNat x.2.2.2.2.1 + Int.toNat x.2.2.2.2.2.1 + Int.toNat x.2.2.2.2.2.2.1 + Int.toNat x.2.2.2.2.2.2.2.1 + y.1.length + y.2.1.Factors.length + y.2.2.1.length + 1)) (by kernel_rfl) (by kernel_rfl) fun R H K x y => by kernel_rfl
theorem zbfq (zp : Atom → Bool × Atom) : LoopOK (ztb zp) (lp (body Tryz.f61) 0) := loopOK_W (id := 3) (V := z17) (B := z2f) (W := zn8 zp) (z := default) (tr := z0n) (m := fun x y => (x.2.1.length + Int.toNat x.2.2.1 + Int.toNat x.2.2.2.1 + y.1.length + 1)) (by kernel_rfl) (by kernel_rfl) fun R H K x y => by kernel_rfl
def zux (zp : Atom → Bool × Atom) (a : List Term) : Wy0 (List Term) := .bn (z2n zp (a.length + (Int.ofNat a.length).toNat + Int.toNat (0 : Int) + (0 : Nat) + (1 : Nat)) a (Int.ofNat a.length) (0 : Int) []) fun r8 => .k r8
def znt (zp : Atom → Bool × Atom) (a : List Term) : Bool × List Term := (zux zp a).fin default
theorem zbc9 (zp : Atom → Bool × Atom) (zbcz : Sound Tryz.prog base 118 (zkb zp)) : Sound Tryz.prog base 61 (znl (znt zp)) :=
  sound_W (cx' := (ztb zp)) draws base_ok mkSame (mkSpecs ⟨(zu8), (zbcz), trivial⟩) Tryz.call61 Tryz.func61 (c := body Tryz.f61) (by kernel_rfl) (loopsOK_of (l := [lp (body Tryz.f61) 0, lp (body Tryz.f61) 1]) (by kernel_rfl) ⟨zbfq zp, zbe9 zp, trivial⟩) (sg := ⟨[.own 42], []⟩) (A := z7h) (res := z4c) (W := fun x => zux zp x.1) (z := default) (fun x => by kernel_rfl) (fun _ => by kernel_rfl)
def zde : Cx ty := { base with nt := 8 }
def zdq (s : List (List Term)) : Bool × List (List Term) := (decide (s.length * 24 ≤ reach), s)
def zi1 : Ab.Spec ty := mkSpec (cx := base) (aCons (aPure (vSl 23)) aNil) fun x => ((zdq x.1).1, ⟨[.own 23 (zdq x.1).2], []⟩)
theorem zsc : runFn zde Tryz.f159 (body Tryz.f159) ⟨[.own 23], []⟩ [.pure (.lit (.slice none 0 0))] = some ⟨[.own 23 []], []⟩ := by kernel_rfl
theorem zrc (p : Addr) (c : Nat) : runFn zde Tryz.f159 (body Tryz.f159) ⟨[.own 23], []⟩ [.pure (.lit (.slice (some p) 0 c))] = some ⟨[.own 23 []], []⟩ := by kernel_rfl
theorem zrz (l : List (List Term)) : runFn zde Tryz.f159 (body Tryz.f159) ⟨[.own 23], []⟩ [.pure (.sl 23 l)] = bif !l.isEmpty then bif decide ((([] : List (ty 23)).length + l.length) * 24 ≤ reach) then some ⟨[.own 23 l], []⟩ else none else none := by kernel_rfl
theorem zq8 : Sound Tryz.prog base 159 zi1 :=
  clone_sound (cx' := zde) (bytes := 24) draws base_ok ⟨⟨rfl, rfl, rfl, rfl, rfl, rfl⟩, rfl⟩ (fun g s h => by cases h) Tryz.call159 Tryz.func159 (c := body Tryz.f159) (by kernel_rfl) (loopsOK_of (l := []) (by kernel_rfl) trivial) zsc zrc zrz (by kernel_rfl)
def zdy : Cx ty := { base with nt := 8 }
def zen (s : List Weighted) : Bool × List Weighted := (decide (s.length * 56 ≤ reach), s)
def zks : Ab.Spec ty := mkSpec (cx := base) (aCons (aPure (vSl 52)) aNil) fun x => ((zen x.1).1, ⟨[.own 52 (zen x.1).2], []⟩)
theorem zt2 : runFn zdy Tryz.f160 (body Tryz.f160) ⟨[.own 52], []⟩ [.pure (.lit (.slice none 0 0))] = some ⟨[.own 52 []], []⟩ := by kernel_rfl
theorem zs3 (p : Addr) (c : Nat) : runFn zdy Tryz.f160 (body Tryz.f160) ⟨[.own 52], []⟩ [.pure (.lit (.slice (some p) 0 c))] = some ⟨[.own 52 []], []⟩ := by kernel_rfl
theorem zth (l : List Weighted) : runFn zdy Tryz.f160 (body Tryz.f160) ⟨[.own 52], []⟩ [.pure (.sl 52 l)] = bif !l.isEmpty then bif decide ((([] : List (ty 52)).length + l.length) * 56 ≤ reach) then some ⟨[.own 52 l], []⟩ else none else none := by kernel_rfl
theorem zsz : Sound Tryz.prog base 160 zks :=
  clone_sound (cx' := zdy) (bytes := 56) draws base_ok ⟨⟨rfl, rfl, rfl, rfl, rfl, rfl⟩, rfl⟩ (fun g s h => by cases h) Tryz.call160 Tryz.func160 (c := body Tryz.f160) (by kernel_rfl) (loopsOK_of (l := []) (by kernel_rfl) trivial) zt2 zs3 zth (by kernel_rfl)
def zgf (zy : List Term → Bool × List Term) (t11 : Int) (t12 : Int) (x_0 : Int) (x_1 : Int) (x_2 : Int) (x_3 : Int) (x_4 : List Weighted) (x_5 : Int) (x_6 : Int) (x_7 : Int) (x_8 : ByteArray) (t2_0 : Int) (t2_1 : Int) (t2_2 : Int) (t2_3 : Int) (t2_4 : Int) (t2_5 : Int) (t2_6 : Int) (t2_7 : ByteArray) (b2 : List (List Term)) : Wy (Unit × Unit × Int × Int × Unit) ((Int × Int × Int × Unit × Int × List Weighted × Int × Int × Int × ByteArray × Unit) × (Int × Int × Int × Unit × Int × Unit × Int × Int × Int × ByteArray × Unit) × List (List Term) × Unit) (Int × Int × Int × Int × List Weighted × Int × Int × Int × ByteArray × Int × Int × Int × Int × Int × Int × Int × ByteArray × List (List Term)) := .i (decide (t12 < t11)) (.i (decide ((0 : Int) ≤ t12) && decide (t12 < Int.ofNat b2.length)) (.bn (zy (b2.getD t12.toNat default)) fun r0 => .i (decide ((0 : Int) ≤ t12) && decide (t12 < Int.ofNat b2.length)) (.i (decide (t12.toNat < b2.length)) (.h ((), (), t11, (IntKind.i64.wrap (t12 + (1 : Int))), ()) ((x_0, x_1, x_2, (), x_3, x_4, x_5, x_6, x_7, x_8, ()), (t2_0, t2_1, t2_2, (), t2_3, (), t2_4, t2_5, t2_6, t2_7, ()), (b2.set t12.toNat r0), ())) .d) .d) .d) (.k (x_0, x_1, x_2, x_3, x_4, x_5, x_6, x_7, x_8, t2_0, t2_1, t2_2, t2_3, t2_4, t2_5, t2_6, t2_7, b2))
def zk6 (zy : List Term → Bool × List Term) (x : Unit × Unit × Int × Int × Unit) (y : (Int × Int × Int × Unit × Int × List Weighted × Int × Int × Int × ByteArray × Unit) × (Int × Int × Int × Unit × Int × Unit × Int × Int × Int × ByteArray × Unit) × List (List Term) × Unit) : Wy (Unit × Unit × Int × Int × Unit) ((Int × Int × Int × Unit × Int × List Weighted × Int × Int × Int × ByteArray × Unit) × (Int × Int × Int × Unit × Int × Unit × Int × Int × Int × ByteArray × Unit) × List (List Term) × Unit) (Int × Int × Int × Int × List Weighted × Int × Int × Int × ByteArray × Int × Int × Int × Int × Int × Int × Int × ByteArray × List (List Term)) := zgf zy x.2.2.1 x.2.2.2.1 y.1.1 y.1.2.1 y.1.2.2.1 y.1.2.2.2.2.1 y.1.2.2.2.2.2.1 y.1.2.2.2.2.2.2.1 y.1.2.2.2.2.2.2.2.1 y.1.2.2.2.2.2.2.2.2.1 y.1.2.2.2.2.2.2.2.2.2.1 y.2.1.1 y.2.1.2.1 y.2.1.2.2.1 y.2.1.2.2.2.2.1 y.2.1.2.2.2.2.2.2.1 y.2.1.2.2.2.2.2.2.2.1 y.2.1.2.2.2.2.2.2.2.2.1 y.2.1.2.2.2.2.2.2.2.2.2.1 y.2.2.1
def zwo (zy : List Term → Bool × List Term) (n : Nat) (t11 : Int) (t12 : Int) (x_0 : Int) (x_1 : Int) (x_2 : Int) (x_3 : Int) (x_4 : List Weighted) (x_5 : Int) (x_6 : Int) (x_7 : Int) (x_8 : ByteArray) (t2_0 : Int) (t2_1 : Int) (t2_2 : Int) (t2_3 : Int) (t2_4 : Int) (t2_5 : Int) (t2_6 : Int) (t2_7 : ByteArray) (b2 : List (List Term)) : Bool × (Int × Int × Int × Int × List Weighted × Int × Int × Int × ByteArray × Int × Int × Int × Int × Int × Int × Int × ByteArray × List (List Term)) := iterW (zk6 zy) default n ((), (), t11, t12, ()) ((x_0, x_1, x_2, (), x_3, x_4, x_5, x_6, x_7, x_8, ()), (t2_0, t2_1, t2_2, (), t2_3, (), t2_4, t2_5, t2_6, t2_7, ()), b2, ())
def zvn (r : Int × Int × Int × Int × List Weighted × Int × Int × Int × ByteArray × Int × Int × Int × Int × Int × Int × Int × ByteArray × List (List Term)) : LTree ty := .done (.exit 0) [.ptr 200 0, .ptr 201 0] [.box ([.lit (.int .i64 r.1), .lit (.int .i64 r.2.1), .lit (.int .i64 r.2.2.1), .own 202, .lit (.int .i64 r.2.2.2.1), .sl 52 r.2.2.2.2.1, .lit (.int .i64 r.2.2.2.2.2.1), .lit (.int .i64 r.2.2.2.2.2.2.1), .lit (.int .i64 r.2.2.2.2.2.2.2.1), .lit (.string r.2.2.2.2.2.2.2.2.1)]) false, .box ([.lit (.int .i64 r.2.2.2.2.2.2.2.2.2.1), .lit (.int .i64 r.2.2.2.2.2.2.2.2.2.2.1), .lit (.int .i64 r.2.2.2.2.2.2.2.2.2.2.2.1), .lit (.slice none 0 0), .lit (.int .i64 r.2.2.2.2.2.2.2.2.2.2.2.2.1), .lit (.slice none 0 0), .lit (.int .i64 r.2.2.2.2.2.2.2.2.2.2.2.2.2.1), .lit (.int .i64 r.2.2.2.2.2.2.2.2.2.2.2.2.2.2.1), .lit (.int .i64 r.2.2.2.2.2.2.2.2.2.2.2.2.2.2.2.1), .lit (.string r.2.2.2.2.2.2.2.2.2.2.2.2.2.2.2.2.1)]) false, .arr 23 r.2.2.2.2.2.2.2.2.2.2.2.2.2.2.2.2.2 false]
def zwm : LL ty (Unit × Unit × Int × Int × Unit) := llCons (lPtrC 200 0) (llCons (lPtrC 201 0) (llCons (lInt .i64) (llCons (lInt .i64) llNil)))
def zxa : BL ty ((Int × Int × Int × Unit × Int × List Weighted × Int × Int × Int × ByteArray × Unit) × (Int × Int × Int × Unit × Int × Unit × Int × Int × Int × ByteArray × Unit) × List (List Term) × Unit) := bBox (llCons (lInt .i64) (llCons (lInt .i64) (llCons (lInt .i64) (llCons (lOwn 202) (llCons (lInt .i64) (llCons (lSl 52) (llCons (lInt .i64) (llCons (lInt .i64) (llCons (lInt .i64) (llCons lStr llNil)))))))))) false (bBox (llCons (lInt .i64) (llCons (lInt .i64) (llCons (lInt .i64) (llCons lNil (llCons (lInt .i64) (llCons lNil (llCons (lInt .i64) (llCons (lInt .i64) (llCons (lInt .i64) (llCons lStr llNil)))))))))) false (bArr 23 false (bNil)))
def zgk (zy : List Term → Bool × List Term) (t32 : Int) (t33 : Int) (x_0 : Int) (x_1 : Int) (x_2 : Int) (x_3 : Int) (x_4 : Int) (x_5 : Int) (x_6 : Int) (x_7 : ByteArray) (t2_0 : Int) (t2_1 : Int) (t2_2 : Int) (t2_3 : Int) (t2_4 : Int) (t2_5 : Int) (t2_6 : Int) (t2_7 : ByteArray) (b2 : List (List Term)) (b3 : List Weighted) : Wy (Unit × Unit × Int × Int × Unit) ((Int × Int × Int × Unit × Int × Unit × Int × Int × Int × ByteArray × Unit) × (Int × Int × Int × Unit × Int × Unit × Int × Int × Int × ByteArray × Unit) × List (List Term) × List Weighted × Unit) (Int × Int × Int × Int × Int × Int × Int × ByteArray × Int × Int × Int × Int × Int × Int × Int × ByteArray × List (List Term) × List Weighted) := .i (decide (t33 < t32)) (.i (decide ((0 : Int) ≤ t33) && decide (t33 < Int.ofNat b3.length)) (.bn (zy (b3.getD t33.toNat default).Ann) fun r2 => .i (decide ((0 : Int) ≤ t33) && decide (t33 < Int.ofNat b3.length)) (.i (decide (t33.toNat < b3.length)) (.h ((), (), t32, (IntKind.i64.wrap (t33 + (1 : Int))), ()) ((x_0, x_1, x_2, (), x_3, (), x_4, x_5, x_6, x_7, ()), (t2_0, t2_1, t2_2, (), t2_3, (), t2_4, t2_5, t2_6, t2_7, ()), b2, (b3.set t33.toNat (WeightedOf.mk (b3.getD t33.toNat default).Value r2)), ())) .d) .d) .d) (.k (x_0, x_1, x_2, x_3, x_4, x_5, x_6, x_7, t2_0, t2_1, t2_2, t2_3, t2_4, t2_5, t2_6, t2_7, b2, b3))
def zk4 (zy : List Term → Bool × List Term) (x : Unit × Unit × Int × Int × Unit) (y : (Int × Int × Int × Unit × Int × Unit × Int × Int × Int × ByteArray × Unit) × (Int × Int × Int × Unit × Int × Unit × Int × Int × Int × ByteArray × Unit) × List (List Term) × List Weighted × Unit) : Wy (Unit × Unit × Int × Int × Unit) ((Int × Int × Int × Unit × Int × Unit × Int × Int × Int × ByteArray × Unit) × (Int × Int × Int × Unit × Int × Unit × Int × Int × Int × ByteArray × Unit) × List (List Term) × List Weighted × Unit) (Int × Int × Int × Int × Int × Int × Int × ByteArray × Int × Int × Int × Int × Int × Int × Int × ByteArray × List (List Term) × List Weighted) := zgk zy x.2.2.1 x.2.2.2.1 y.1.1 y.1.2.1 y.1.2.2.1 y.1.2.2.2.2.1 y.1.2.2.2.2.2.2.1 y.1.2.2.2.2.2.2.2.1 y.1.2.2.2.2.2.2.2.2.1 y.1.2.2.2.2.2.2.2.2.2.1 y.2.1.1 y.2.1.2.1 y.2.1.2.2.1 y.2.1.2.2.2.2.1 y.2.1.2.2.2.2.2.2.1 y.2.1.2.2.2.2.2.2.2.1 y.2.1.2.2.2.2.2.2.2.2.1 y.2.1.2.2.2.2.2.2.2.2.2.1 y.2.2.1 y.2.2.2.1
def zxe (zy : List Term → Bool × List Term) (n : Nat) (t32 : Int) (t33 : Int) (x_0 : Int) (x_1 : Int) (x_2 : Int) (x_3 : Int) (x_4 : Int) (x_5 : Int) (x_6 : Int) (x_7 : ByteArray) (t2_0 : Int) (t2_1 : Int) (t2_2 : Int) (t2_3 : Int) (t2_4 : Int) (t2_5 : Int) (t2_6 : Int) (t2_7 : ByteArray) (b2 : List (List Term)) (b3 : List Weighted) : Bool × (Int × Int × Int × Int × Int × Int × Int × ByteArray × Int × Int × Int × Int × Int × Int × Int × ByteArray × List (List Term) × List Weighted) := iterW (zk4 zy) default n ((), (), t32, t33, ()) ((x_0, x_1, x_2, (), x_3, (), x_4, x_5, x_6, x_7, ()), (t2_0, t2_1, t2_2, (), t2_3, (), t2_4, t2_5, t2_6, t2_7, ()), b2, b3, ())
def zvp (r : Int × Int × Int × Int × Int × Int × Int × ByteArray × Int × Int × Int × Int × Int × Int × Int × ByteArray × List (List Term) × List Weighted) : LTree ty := .done (.exit 2) [.ptr 200 0, .ptr 201 0] [.box ([.lit (.int .i64 r.1), .lit (.int .i64 r.2.1), .lit (.int .i64 r.2.2.1), .own 202, .lit (.int .i64 r.2.2.2.1), .own 203, .lit (.int .i64 r.2.2.2.2.1), .lit (.int .i64 r.2.2.2.2.2.1), .lit (.int .i64 r.2.2.2.2.2.2.1), .lit (.string r.2.2.2.2.2.2.2.1)]) false, .box ([.lit (.int .i64 r.2.2.2.2.2.2.2.2.1), .lit (.int .i64 r.2.2.2.2.2.2.2.2.2.1), .lit (.int .i64 r.2.2.2.2.2.2.2.2.2.2.1), .lit (.slice none 0 0), .lit (.int .i64 r.2.2.2.2.2.2.2.2.2.2.2.1), .lit (.slice none 0 0), .lit (.int .i64 r.2.2.2.2.2.2.2.2.2.2.2.2.1), .lit (.int .i64 r.2.2.2.2.2.2.2.2.2.2.2.2.2.1), .lit (.int .i64 r.2.2.2.2.2.2.2.2.2.2.2.2.2.2.1), .lit (.string r.2.2.2.2.2.2.2.2.2.2.2.2.2.2.2.1)]) false, .arr 23 r.2.2.2.2.2.2.2.2.2.2.2.2.2.2.2.2.1 false, .arr 52 r.2.2.2.2.2.2.2.2.2.2.2.2.2.2.2.2.2 false]
def zwx : LL ty (Unit × Unit × Int × Int × Unit) := llCons (lPtrC 200 0) (llCons (lPtrC 201 0) (llCons (lInt .i64) (llCons (lInt .i64) llNil)))
def zwt : BL ty ((Int × Int × Int × Unit × Int × Unit × Int × Int × Int × ByteArray × Unit) × (Int × Int × Int × Unit × Int × Unit × Int × Int × Int × ByteArray × Unit) × List (List Term) × List Weighted × Unit) := bBox (llCons (lInt .i64) (llCons (lInt .i64) (llCons (lInt .i64) (llCons (lOwn 202) (llCons (lInt .i64) (llCons (lOwn 203) (llCons (lInt .i64) (llCons (lInt .i64) (llCons (lInt .i64) (llCons lStr llNil)))))))))) false (bBox (llCons (lInt .i64) (llCons (lInt .i64) (llCons (lInt .i64) (llCons lNil (llCons (lInt .i64) (llCons lNil (llCons (lInt .i64) (llCons (lInt .i64) (llCons (lInt .i64) (llCons lStr llNil)))))))))) false (bArr 23 false (bArr 52 false (bNil))))
def zpu (zy : List Term → Bool × List Term) : Cx ty := mkCx base 50 [(61, (znl zy)), (159, zi1), (160, zks)] [] [(3, [(1, .keep), (2, .keep), (11, .keep), (12, .keep)]), (9, [(1, .keep), (2, .keep), (32, .keep), (33, .keep)])] [(3, 1, [(1, .keep), (2, .keep)]), (9, 3, [(1, .keep), (2, .keep)])] [(3, spW zwm zxa (zk6 zy) default zvn fun x y => (Int.toNat x.2.2.1 + Int.toNat x.2.2.2.1 + Int.toNat y.1.1 + Int.toNat y.1.2.1 + Int.toNat y.1.2.2.1 + Int.toNat y.1.2.2.2.2.1 + y.1.2.2.2.2.2.1.length + Int.toNat y.1.2.2.2.2.2.2.1 + Int.toNat y.1.2.2.2.2.2.2.2.1 + Int.toNat y.1.2.2.2.2.2.2.2.2.1 + y.1.2.2.2.2.2.2.2.2.2.1.size + Int.toNat y.2.1.1 + Int.toNat y.2.1.2.1 + Int.toNat y.2.1.2.2.1 + Int.toNat y.2.1.2.2.2.2.1 + Int.toNat y.2.1.2.2.2.2.2.2.1 + Int.toNat y.2.1.2.2.2.2.2.2.2.1 + Int.toNat y.2.1.2.2.2.2.2.2.2.2.1 + y.2.1.2.2.2.2.2.2.2.2.2.1.size + y.2.2.1.length + 1)), (9, spW zwx zwt (zk4 zy) default zvp fun x y => (Int.toNat x.2.2.1 + Int.toNat x.2.2.2.1 + Int.toNat y.1.1 + Int.toNat y.1.2.1 + Int.toNat y.1.2.2.1 + Int.toNat y.1.2.2.2.2.1 + Int.toNat y.1.2.2.2.2.2.2.1 + Int.toNat y.1.2.2.2.2.2.2.2.1 + Int.toNat y.1.2.2.2.2.2.2.2.2.1 + y.1.2.2.2.2.2.2.2.2.2.1.size + Int.toNat y.2.1.1 + Int.toNat y.2.1.2.1 + Int.toNat y.2.1.2.2.1 + Int.toNat y.2.1.2.2.2.2.1 + Int.toNat y.2.1.2.2.2.2.2.2.1 + Int.toNat y.2.1.2.2.2.2.2.2.2.1 + Int.toNat y.2.1.2.2.2.2.2.2.2.2.1 + y.2.1.2.2.2.2.2.2.2.2.2.1.size + y.2.2.1.length + y.2.2.2.1.length + 1))] []
theorem zbae (zy : List Term → Bool × List Term) : LoopOK (zpu zy) (lp (body Tryz.f118) 0) := loopOK_W (id := 3) (V := zwm) (B := zxa) (W := zk6 zy) (z := default) (tr := zvn) (m := fun x y => (Int.toNat x.2.2.1 + Int.toNat x.2.2.2.1 + Int.toNat y.1.1 + Int.toNat y.1.2.1 + Int.toNat y.1.2.2.1 + Int.toNat y.1.2.2.2.2.1 + y.1.2.2.2.2.2.1.length + Int.toNat y.1.2.2.2.2.2.2.1 + Int.toNat y.1.2.2.2.2.2.2.2.1 + Int.toNat y.1.2.2.2.2.2.2.2.2.1 + y.1.2.2.2.2.2.2.2.2.2.1.size + Int.toNat y.2.1.1 + Int.toNat y.2.1.2.1 + Int.toNat y.2.1.2.2.1 + Int.toNat y.2.1.2.2.2.2.1 + Int.toNat y.2.1.2.2.2.2.2.2.1 + Int.toNat y.2.1.2.2.2.2.2.2.2.1 + Int.toNat y.2.1.2.2.2.2.2.2.2.2.1 + y.2.1.2.2.2.2.2.2.2.2.2.1.size + y.2.2.1.length + 1)) (by kernel_rfl) (by kernel_rfl) fun R H K x y => by kernel_rfl
theorem z80 (zy : List Term → Bool × List Term) : LoopOK (zpu zy) (lp (body Tryz.f118) 1) := loopOK_W (id := 9) (V := zwx) (B := zwt) (W := zk4 zy) (z := default) (tr := zvp) (m := fun x y => (Int.toNat x.2.2.1 + Int.toNat x.2.2.2.1 + Int.toNat y.1.1 + Int.toNat y.1.2.1 + Int.toNat y.1.2.2.1 + Int.toNat y.1.2.2.2.2.1 + Int.toNat y.1.2.2.2.2.2.2.1 + Int.toNat y.1.2.2.2.2.2.2.2.1 + Int.toNat y.1.2.2.2.2.2.2.2.2.1 + y.1.2.2.2.2.2.2.2.2.2.1.size + Int.toNat y.2.1.1 + Int.toNat y.2.1.2.1 + Int.toNat y.2.1.2.2.1 + Int.toNat y.2.1.2.2.2.2.1 + Int.toNat y.2.1.2.2.2.2.2.2.1 + Int.toNat y.2.1.2.2.2.2.2.2.2.1 + Int.toNat y.2.1.2.2.2.2.2.2.2.2.1 + y.2.1.2.2.2.2.2.2.2.2.2.1.size + y.2.2.1.length + y.2.2.2.1.length + 1)) (by kernel_rfl) (by kernel_rfl) fun R H K x y => by kernel_rfl
def zqh (zy : List Term → Bool × List Term) (x_ : Atom) : Wy0 (Atom) := .bn (zdq x_.Args) fun r7 => .bn (zwo zy ((Int.ofNat r7.length).toNat + Int.toNat (0 : Int) + x_.Kind.toNat + x_.Row.Table.toNat + x_.Row.Seq.toNat + x_.Func.toNat + x_.Items.length + x_.Op.toNat + x_.Bound.Kind.toNat + x_.Bound.Int.toNat + x_.Bound.Text.size + Int.toNat (0 : Int) + Int.toNat (0 : Int) + Int.toNat (0 : Int) + Int.toNat (0 : Int) + Int.toNat (0 : Int) + Int.toNat (0 : Int) + Int.toNat (0 : Int) + (ByteArray.mk #[]).size + r7.length + (1 : Nat)) (Int.ofNat r7.length) (0 : Int) x_.Kind x_.Row.Table x_.Row.Seq x_.Func x_.Items x_.Op x_.Bound.Kind x_.Bound.Int x_.Bound.Text (0 : Int) (0 : Int) (0 : Int) (0 : Int) (0 : Int) (0 : Int) (0 : Int) (ByteArray.mk #[]) r7) fun r6 => .bn (zen r6.snd.snd.snd.snd.fst) fun r5 => .bn (zxe zy ((Int.ofNat r5.length).toNat + Int.toNat (0 : Int) + r6.fst.toNat + r6.snd.fst.toNat + r6.snd.snd.fst.toNat + r6.snd.snd.snd.fst.toNat + r6.snd.snd.snd.snd.snd.fst.toNat + r6.snd.snd.snd.snd.snd.snd.fst.toNat + r6.snd.snd.snd.snd.snd.snd.snd.fst.toNat + r6.snd.snd.snd.snd.snd.snd.snd.snd.fst.size + r6.snd.snd.snd.snd.snd.snd.snd.snd.snd.fst.toNat + r6.snd.snd.snd.snd.snd.snd.snd.snd.snd.snd.fst.toNat + r6.snd.snd.snd.snd.snd.snd.snd.snd.snd.snd.snd.fst.toNat + r6.snd.snd.snd.snd.snd.snd.snd.snd.snd.snd.snd.snd.fst.toNat + r6.snd.snd.snd.snd.snd.snd.snd.snd.snd.snd.snd.snd.snd.fst.toNat + r6.snd.snd.snd.snd.snd.snd.snd.snd.snd.snd.snd.snd.snd.snd.fst.toNat + r6.snd.snd.snd.snd.snd.snd.snd.snd.snd.snd.snd.snd.snd.snd.snd.fst.toNat + r6.snd.snd.snd.snd.snd.snd.snd.snd.snd.snd.snd.snd.snd.snd.snd.snd.fst.size + r6.snd.snd.snd.snd.snd.snd.snd.snd.snd.snd.snd.snd.snd.snd.snd.snd.snd.length + r5.length + (1 : Nat)) (Int.ofNat r5.length) (0 : Int) r6.fst r6.snd.fst r6.snd.snd.fst r6.snd.snd.snd.fst r6.snd.snd.snd.snd.snd.fst r6.snd.snd.snd.snd.snd.snd.fst r6.snd.snd.snd.snd.snd.snd.snd.fst r6.snd.snd.snd.snd.snd.snd.snd.snd.fst r6.snd.snd.snd.snd.snd.snd.snd.snd.snd.fst r6.snd.snd.snd.snd.snd.snd.snd.snd.snd.snd.fst r6.snd.snd.snd.snd.snd.snd.snd.snd.snd.snd.snd.fst r6.snd.snd.snd.snd.snd.snd.snd.snd.snd.snd.snd.snd.fst r6.snd.snd.snd.snd.snd.snd.snd.snd.snd.snd.snd.snd.snd.fst r6.snd.snd.snd.snd.snd.snd.snd.snd.snd.snd.snd.snd.snd.snd.fst r6.snd.snd.snd.snd.snd.snd.snd.snd.snd.snd.snd.snd.snd.snd.snd.fst r6.snd.snd.snd.snd.snd.snd.snd.snd.snd.snd.snd.snd.snd.snd.snd.snd.fst r6.snd.snd.snd.snd.snd.snd.snd.snd.snd.snd.snd.snd.snd.snd.snd.snd.snd r5) fun r4 => .k (⟨r4.fst, (⟨r4.snd.fst, r4.snd.snd.fst⟩ : RowID), r4.snd.snd.snd.snd.snd.snd.snd.snd.snd.snd.snd.snd.snd.snd.snd.snd.fst, r4.snd.snd.snd.fst, r4.snd.snd.snd.snd.snd.snd.snd.snd.snd.snd.snd.snd.snd.snd.snd.snd.snd, r4.snd.snd.snd.snd.fst, (⟨r4.snd.snd.snd.snd.snd.fst, r4.snd.snd.snd.snd.snd.snd.fst, r4.snd.snd.snd.snd.snd.snd.snd.fst⟩ : Value)⟩ : Atom)
def zjs (zy : List Term → Bool × List Term) (x_ : Atom) : Bool × Atom := (zqh zy x_).fin default
theorem z6k (zy : List Term → Bool × List Term) (zbie : Sound Tryz.prog base 61 (znl zy)) : Sound Tryz.prog base 118 (zkb (zjs zy)) :=
  sound_W (cx' := (zpu zy)) draws base_ok mkSame (mkSpecs ⟨(zbie), (zq8), (zsz), trivial⟩) Tryz.call118 Tryz.func118 (c := body Tryz.f118) (by kernel_rfl) (loopsOK_of (l := [lp (body Tryz.f118) 0, lp (body Tryz.f118) 1]) (by kernel_rfl) ⟨zbae zy, z80 zy, trivial⟩) (sg := ⟨[.pure], []⟩) (A := z05) (res := zx1) (W := fun x => zqh zy x.1) (z := default) (fun x => by kernel_rfl) (fun _ => by kernel_rfl)
def zbc2 : Nat → (List Term → Bool × List Term) × (Atom → Bool × Atom)
  | 0 => (fun _ => (false, default), fun _ => (false, default))
  | n + 1 => (znt ((zbc2 n).2), zjs ((zbc2 n).1))
def znx (n : Nat) : List Term → Bool × List Term := (zbc2 n).1
def zjv (n : Nat) : Atom → Bool × Atom := (zbc2 n).2
theorem zbgu (n : Nat) : znx (n + 1) = znt (zjv n) := rfl
theorem zbbd (n : Nat) : zjv (n + 1) = zjs (znx n) := rfl
theorem zbdq : ∀ n, Sound Tryz.prog base 61 (znl (znx n)) ∧ Sound Tryz.prog base 118 (zkb (zjv n))
  | 0 => ⟨sound_false Tryz.call61 (fun _ => rfl), sound_false Tryz.call118 (fun _ => rfl)⟩
  | n + 1 => by
    have ih := zbdq n
    exact ⟨zbc9 _ (ih.2), z6k _ (ih.1)⟩
def zg1 : List Term → Bool × List Term := znx 1000
def zgp : Ab.Spec ty := znl zg1
theorem zj6 : Sound Tryz.prog base 61 zgp := (zbdq 1000).1
def zbib : Atom → Bool × Atom := zjv 1000
def zbba : Ab.Spec ty := zkb zbib
theorem zbpv : Sound Tryz.prog base 118 zbba := (zbdq 1000).2
def zf7 (x : List Weighted) (a b : Int) : Bool × List Weighted := insFunc zbf x a b
def zs7 : Ab.Spec ty := mkSpec (cx := base) (aCons (aOwn 52) (aCons (aPure (vInt .i64)) (aCons (aPure (vInt .i64)) (aCons (aPure (vFn 85 vNil)) aNil)))) fun x => ((zf7 x.1 x.2.1 x.2.2.1).1, ⟨[], [some ⟨52, (zf7 x.1 x.2.1 x.2.2.1).2⟩]⟩)
theorem ztr (c : Unit) (x y : Weighted) (h : (zbf x y).1 = true) : zfq ((AV.agg (base.enc 52 x) :: AV.agg (base.enc 52 y) :: (vNil : VL base Unit).enc c).map Arg.pure) = some (true, ⟨[.pure (.lit (.int .i64 (zbf x y).2))], []⟩) := by
  rw [← h]; kernel_rfl
theorem zso : Sound Tryz.prog base 164 zs7 := by
  letI : DecidableEq (ty 52) := inferInstanceAs (DecidableEq Weighted)
  exact insK_sound (T := 52) base_ok rfl Go.Proofs.Tryz.insW Tryz.isAgg52 (by unfold szOf; exact Tryz.sizeOf52) Tryz.call164 zif vNil (fun c => zbf) ztr
open Go.Proofs Go.RowKit
def zcn (x : List Weighted) (m : Int) : Bool × List Weighted := (decide (SortOK zbf x) && (decide (m = x.length) && decide (m < 20)), isort zbf x)
def znw : Ab.Spec ty := mkSpec (cx := base) (aCons (aOwn 52) (aCons (aPure (vInt .i64)) (aCons (aPure (vFn 85 vNil)) aNil))) fun x => ((zcn x.1 x.2.1).1, ⟨[], [some ⟨52, (zcn x.1 x.2.1).2⟩]⟩)
set_option maxHeartbeats 1000000 in
theorem zwr : Sound Tryz.prog base 139 znw where
  enters := Tryz.call139
  calls := fun avs r hsp w F vs hF ha hsep => by
    unfold znw mkSpec at hsp
    split at hsp
    · rename_i x hx
      simp only [Option.some.injEq, Prod.mk.injEq] at hsp
      obtain ⟨hpre, rfl⟩ := hsp
      have hk := (aCons (aOwn 52) (aCons (aPure (vInt .i64)) (aCons (aPure (vFn 85 vNil)) aNil)) : AL base _).kind vs avs x hx
      have ha' := (aCons (aOwn 52) (aCons (aPure (vInt .i64)) (aCons (aPure (vFn 85 vNil)) aNil)) : AL base _).ok Tryz.prog base_ok F w vs avs x hx ha
      rw [hk] at hsep ⊢
      clear hk hx ha
      obtain ⟨l0, m, c, u0⟩ := x
      obtain ⟨l, rfl⟩ : ∃ l : List Weighted, l = l0 := ⟨l0, rfl⟩
      obtain ⟨v, vs', rfl, hv, hv'⟩ := ha'.inv
      obtain ⟨mv, vs1, rfl, hm, hv1⟩ := hv'.inv
      obtain ⟨fv, vs'', rfl, hfv, h0⟩ := hv1.inv
      obtain rfl := h0.nil_left.1
      have hm : Rep base F w mv (.lit (.int .i64 m)) := hm
      obtain rfl : mv = .int .i64 m := by cases hm; rfl
      have hsl : ∃ p cap, v = .slice p l.length cap := by
        obtain ⟨⟨xs, hown, _⟩, _⟩ := (show RowOK base F w v 52 l ∧ ∀ b, blkOf v = some b → ¬ F b from hv)
        rcases hown.2 with ⟨h1, h2⟩ | ⟨g0, cap, cur, h1, _⟩
        · exact ⟨none, 0, by rw [h1, show l.length = 0 from h2]⟩
        · exact ⟨_, cap, h1⟩
      have hpre : (decide (SortOK (α := Weighted) zbf l) && (decide (m = l.length) && decide (m < 20))) = true := hpre
      simp only [Bool.and_eq_true, decide_eq_true_eq] at hpre
      obtain ⟨hok, rfl, h20⟩ := hpre
      have hpp : (zf7 l 0 (l.length : Int)).1 = true := by
        show (decide (SortOK (α := Weighted) zbf l) && (decide ((0 : Int) = 0) && decide ((l.length : Int) = l.length))) = true
        simp only [Bool.and_eq_true, decide_eq_true_eq]
        exact ⟨hok, trivial, trivial⟩
      have hp := (zso).calls [.own 52 l, .pure (.lit (.int .i64 0)), .pure (.lit (.int .i64 (l.length : Int))), .pure (.fn 85 [])] ⟨[], [some ⟨52, (zcn l (l.length : Int)).2⟩]⟩
        (by rw [← hpp]; kernel_rfl) w F [v, .int .i64 0, .int .i64 (l.length : Int), fv] hF (.cons hv (.cons (Rep.lit _) (.cons (Rep.lit _) (.cons hfv .nil)))) hsep
      replace hp : Calls Tryz.prog 164 #[v, .int .i64 0, .int .i64 (l.length : Int), fv] w fun e w' => ∃ u, e = .returned u ∧ Post base F w [v] ⟨[], [some ⟨52, (zcn l (l.length : Int)).2⟩]⟩ u w' := hp
      show Calls Tryz.prog 139 #[v, .int .i64 (l.length : Int), fv] w fun e w' => ∃ u, e = .returned u ∧ Post base F w [v] ⟨[], [some ⟨52, (zcn l (l.length : Int)).2⟩]⟩ u w'
      generalize (zcn l (l.length : Int)).2 = res at hp ⊢
      generalize hn : l.length = m at *
      clear hpp hv hfv hsep hok hF hm
      obtain ⟨p, cap, rfl⟩ := hsl
      clear hn
      go_enter Tryz.func139, Tryz.ntmps139
      go_wp2
      refine wp_loop_rounds 1 ?_
      rw [rounds_succ]
      go_wp2_with (go_at_call 164; refine hp.mono ?_; rintro e w' ⟨u, rfl, hpost⟩; obtain rfl := hpost.unit)
      refine wp_loop_rounds 1 ?_
      rw [rounds_succ]
      go_wp2
      all_goals first | (exfalso; omega) | (go_end0; exact ⟨_, rfl, hpost⟩)
    · cases hsp
end Go.Proofs.YtnolcogncjijpaaGreatDoor
namespace Go.Proofs.YtnolcogncjijpaaGreatDoor
open Go Go.Ab
open Go.Proofs Go.RowKit
def zbl (x : List Weighted) : Bool × List Weighted := (decide (SortOK zbf x) && decide (x.length < 20), isort zbf x)
def zdu : Ab.Spec ty := mkSpec (cx := base) (aCons (aOwn 52) (aCons (aPure (vFn 85 vNil)) aNil)) fun x => ((zbl x.1).1, ⟨[], [some ⟨52, (zbl x.1).2⟩]⟩)
set_option maxHeartbeats 1000000 in
theorem zoq : Sound Tryz.prog base 84 zdu where
  enters := Tryz.call84
  calls := fun avs r hsp w F vs hF ha hsep => by
    unfold zdu mkSpec at hsp
    split at hsp
    · rename_i x hx
      simp only [Option.some.injEq, Prod.mk.injEq] at hsp
      obtain ⟨hpre, rfl⟩ := hsp
      have hk := (aCons (aOwn 52) (aCons (aPure (vFn 85 vNil)) aNil) : AL base _).kind vs avs x hx
      have ha' := (aCons (aOwn 52) (aCons (aPure (vFn 85 vNil)) aNil) : AL base _).ok Tryz.prog base_ok F w vs avs x hx ha
      rw [hk] at hsep ⊢
      clear hk hx ha
      obtain ⟨l0, c, u0⟩ := x
      obtain ⟨l, rfl⟩ : ∃ l : List Weighted, l = l0 := ⟨l0, rfl⟩
      obtain ⟨v, vs', rfl, hv, hv'⟩ := ha'.inv
      obtain ⟨fv, vs'', rfl, hfv, h0⟩ := hv'.inv
      obtain rfl := h0.nil_left.1
      have hsl : ∃ p cap, v = .slice p l.length cap := by
        obtain ⟨⟨xs, hown, _⟩, _⟩ := (show RowOK base F w v 52 l ∧ ∀ b, blkOf v = some b → ¬ F b from hv)
        rcases hown.2 with ⟨h1, h2⟩ | ⟨g0, cap, cur, h1, _⟩
        · exact ⟨none, 0, by rw [h1, show l.length = 0 from h2]⟩
        · exact ⟨_, cap, h1⟩
      have hpre : (decide (SortOK (α := Weighted) zbf l) && decide (l.length < 20)) = true := hpre
      simp only [Bool.and_eq_true, decide_eq_true_eq] at hpre
      obtain ⟨hok, h20⟩ := hpre
      have hpp : (zcn l (l.length : Int)).1 = true := by
        show (decide (SortOK (α := Weighted) zbf l) && (decide ((l.length : Int) = l.length) && decide ((l.length : Int) < 20))) = true
        simp only [Bool.and_eq_true, decide_eq_true_eq]
        exact ⟨hok, trivial, by omega⟩
      have hp := (zwr).calls [.own 52 l, .pure (.lit (.int .i64 (l.length : Int))), .pure (.fn 85 [])] ⟨[], [some ⟨52, (zbl l).2⟩]⟩
        (by rw [← hpp]; kernel_rfl) w F [v, .int .i64 (l.length : Int), fv] hF (.cons hv (.cons (Rep.lit _) (.cons hfv .nil))) hsep
      replace hp : Calls Tryz.prog 139 #[v, .int .i64 (l.length : Int), fv] w fun e w' => ∃ u, e = .returned u ∧ Post base F w [v] ⟨[], [some ⟨52, (zbl l).2⟩]⟩ u w' := hp
      show Calls Tryz.prog 84 #[v, fv] w fun e w' => ∃ u, e = .returned u ∧ Post base F w [v] ⟨[], [some ⟨52, (zbl l).2⟩]⟩ u w'
      generalize (zbl l).2 = res at hp ⊢
      generalize hn : l.length = m at *
      clear hpp hv hfv hsep hok hF
      obtain ⟨p, cap, rfl⟩ := hsl
      clear hn
      go_enter Tryz.func84, Tryz.ntmps84
      go_wp2_with (go_at_call 139; refine hp.mono ?_; rintro e w' ⟨u, rfl, hpost⟩; obtain rfl := hpost.unit)
      go_end0
      exact ⟨_, rfl, hpost⟩
    · cases hsp
end Go.Proofs.YtnolcogncjijpaaGreatDoor
namespace Go.Proofs.YtnolcogncjijpaaGreatDoor
open Go Go.Ab
def znn (t6 : List Weighted) (t7 : Int) (t8 : Int) (out_ : List Weighted) : Wy (Unit × List Weighted × Int × Int × Unit) (List Weighted × Unit) (List Weighted) := .i (decide (t8 < t7)) (.i (decide ((0 : Int) ≤ t8) && decide (t8 < Int.ofNat t6.length)) (.i (decide (Int.ofNat (t6.getD t8.toNat default).Ann.length > (0 : Int))) (.bn (zg1 (t6.getD t8.toNat default).Ann) fun r0 => .i (decide ((out_.length + [WeightedOf.mk (t6.getD t8.toNat default).Value r0].length) * (56 : Nat) ≤ reach)) (.h ((), t6, t7, (IntKind.i64.wrap (t8 + (1 : Int))), ()) ((out_ ++ [WeightedOf.mk (t6.getD t8.toNat default).Value r0]), ())) .d) (.h ((), t6, t7, (IntKind.i64.wrap (t8 + (1 : Int))), ()) (out_, ()))) .d) (.k out_)
def zr3 (x : Unit × List Weighted × Int × Int × Unit) (y : List Weighted × Unit) : Wy (Unit × List Weighted × Int × Int × Unit) (List Weighted × Unit) (List Weighted) := znn x.2.1 x.2.2.1 x.2.2.2.1 y.1
def z7d (n : Nat) (t6 : List Weighted) (t7 : Int) (t8 : Int) (out_ : List Weighted) : Bool × List Weighted := iterW (zr3) default n ((), t6, t7, t8, ()) (out_, ())
def z4x (r : List Weighted) : LTree ty := .done (.exit 0) [.own 116] [.arr 52 r false]
def z6y : LL ty (Unit × List Weighted × Int × Int × Unit) := llCons (lOwn 116) (llCons (lSl 52) (llCons (lInt .i64) (llCons (lInt .i64) llNil)))
def z6u : BL ty (List Weighted × Unit) := bArr 52 false (bNil)
def z7g : Cx ty := mkCx base 29 [(61, zgp), (84, zdu), (85, zfq)] [(84, [true, false])] [(3, [(3, .own 52), (6, .keep), (7, .keep), (8, .keep)])] [(3, 1, [(3, .keep)])] [(3, spW z6y z6u (zr3) default z4x fun x y => (x.2.1.length + Int.toNat x.2.2.1 + Int.toNat x.2.2.2.1 + y.1.length + 1))] []
theorem zbje : LoopOK z7g (lp (body Tryz.f36) 0) := loopOK_W (id := 3) (V := z6y) (B := z6u) (W := zr3) (z := default) (tr := z4x) (m := fun x y => (x.2.1.length + Int.toNat x.2.2.1 + Int.toNat x.2.2.2.1 + y.1.length + 1)) (by kernel_rfl) (by kernel_rfl) fun R H K x y => by kernel_rfl
def zzm (l : List Weighted) : Wy0 (List Weighted) := .bn (z7d (l.length + (Int.ofNat l.length).toNat + Int.toNat (0 : Int) + (0 : Nat) + (1 : Nat)) l (Int.ofNat l.length) (0 : Int) []) fun r3 => .bn (zbl r3) fun r2 => .k r2
def zn1 (l : List Weighted) : Bool × List Weighted := (zzm l).fin default
def z5u (r : List Weighted) : ARes ty := ⟨[.own 52 r], []⟩
def zbaf : AL base (List Weighted × Unit) := aCons (aPure (vSl 52)) aNil
def zuu : Ab.Spec ty := mkSpec zbaf fun x => ((zn1 x.1).1, z5u (zn1 x.1).2)
theorem z2k : Sound Tryz.prog base 36 zuu :=
  sound_W (cx' := z7g) draws base_ok mkSame (mkSpecs ⟨(zj6), (zoq), (zif), trivial⟩) Tryz.call36 Tryz.func36 (c := body Tryz.f36) (by kernel_rfl) (loopsOK_of (l := [lp (body Tryz.f36) 0]) (by kernel_rfl) ⟨zbje, trivial⟩) (sg := ⟨[.own 52], []⟩) (A := zbaf) (res := z5u) (W := fun x => zzm x.1) (z := default) (fun x => by kernel_rfl) (fun _ => by kernel_rfl)
def zbmu : Cx ty := mkCx base 3 [] [] [] [] [] []
def zbez : Wy0 (List Term) := .k [TermOf.mk (1 : Int) []]
def zui : Bool × List Term := (zbez).fin default
def zbal (r : List Term) : ARes ty := ⟨[.own 42 r], []⟩
def zbdp : AL base (Unit) := aNil
def zr2 : Ab.Spec ty := mkSpec zbdp fun x => ((zui ).1, zbal (zui ).2)
theorem zvv : Sound Tryz.prog base 29 zr2 :=
  sound_W (cx' := zbmu) draws base_ok mkSame (mkSpecs trivial) Tryz.call29 Tryz.func29 (c := body Tryz.f29) (by kernel_rfl) (loopsOK_of (l := []) (by kernel_rfl) trivial) (sg := ⟨[.own 42], []⟩) (A := zbdp) (res := zbal) (W := fun x => zbez ) (z := default) (fun x => by kernel_rfl) (fun _ => by kernel_rfl)
def z5k (r : Bool) : ARes ty := ⟨[.pure (.lit (.bool r))], []⟩
def zbam : AL base (List Term × Unit) := aCons (aPure (vSl 42)) aNil
def zi3 (F : List Term → Bool × Bool) : Ab.Spec ty := mkSpec zbam fun x => ((F x.1).1, z5k (F x.1).2)
def zcm (r : Bool) : ARes ty := ⟨[.pure (.lit (.bool r))], []⟩
def z14 : AL base (Atom × Unit) := aCons (aPure (vAgg 48)) aNil
def zkr (F : Atom → Bool × Bool) : Ab.Spec ty := mkSpec z14 fun x => ((F x.1).1, zcm (F x.1).2)
def zvl (r : Bool) : ARes ty := ⟨[.pure (.lit (.bool r))], []⟩
def zym : AL base (List Term × Unit) := aCons (aPure (vSl 42)) aNil
def zc3 (F : List Term → Bool × Bool) : Ab.Spec ty := mkSpec zym fun x => ((F x.1).1, zvl (F x.1).2)
def zvk (r : Bool) : ARes ty := ⟨[.pure (.lit (.bool r))], []⟩
def zyj : AL base (Weighted × Unit) := aCons (aPure (vAgg 52)) aNil
def zc1 (F : Weighted → Bool × Bool) : Ab.Spec ty := mkSpec zyj fun x => ((F x.1).1, zvk (F x.1).2)
def zf0 (r : Int) : ARes ty := ⟨[.pure (.lit (.int .i64 r))], []⟩
def zgl : AL base (List (List Term) × Unit × Unit) := aCons (aPure (vSl 23)) (aCons (aPure (vFn 130 vNil)) aNil)
def zb3 (F : List (List Term) → Bool × Int) : Ab.Spec ty := mkSpec zgl fun x => ((F x.1).1, zf0 (F x.1).2)
def zfg (r : Bool) : ARes ty := ⟨[.pure (.lit (.bool r))], []⟩
def zft : AL base (List (List Term) × Unit × Unit) := aCons (aPure (vSl 23)) (aCons (aPure (vFn 130 vNil)) aNil)
def zb0 (F : List (List Term) → Bool × Bool) : Ab.Spec ty := mkSpec zft fun x => ((F x.1).1, zfg (F x.1).2)
def zhp (r : Int) : ARes ty := ⟨[.pure (.lit (.int .i64 r))], []⟩
def ziv : AL base (List Weighted × Unit × Unit) := aCons (aPure (vSl 52)) (aCons (aPure (vFn 131 vNil)) aNil)
def zca (F : List Weighted → Bool × Int) : Ab.Spec ty := mkSpec ziv fun x => ((F x.1).1, zhp (F x.1).2)
def zge (r : Bool) : ARes ty := ⟨[.pure (.lit (.bool r))], []⟩
def zg8 : AL base (List Weighted × Unit × Unit) := aCons (aPure (vSl 52)) (aCons (aPure (vFn 131 vNil)) aNil)
def zb6 (F : List Weighted → Bool × Bool) : Ab.Spec ty := mkSpec zg8 fun x => ((F x.1).1, zge (F x.1).2)
def zben : Cx ty := mkCx base 11 [] [] [] [] [] []
def zsj (x_ : Atom) : Wy0 (Bool) := .i (x_.Kind == (3 : Int)) (.k true) (.k (x_.Kind == (4 : Int)))
def zfo (x_ : Atom) : Bool × Bool := (zsj x_).fin default
def zx5 (r : Bool) : ARes ty := ⟨[.pure (.lit (.bool r))], []⟩
def z0i : AL base (Atom × Unit) := aCons (aPure (vAgg 48)) aNil
def zk5 : Ab.Spec ty := mkSpec z0i fun x => ((zfo x.1).1, zx5 (zfo x.1).2)
theorem zot : Sound Tryz.prog base 72 zk5 :=
  sound_W (cx' := zben) draws base_ok mkSame (mkSpecs trivial) Tryz.call72 Tryz.func72 (c := body Tryz.f72) (by kernel_rfl) (loopsOK_of (l := []) (by kernel_rfl) trivial) (sg := ⟨[.pure], []⟩) (A := z0i) (res := zx5) (W := fun x => zsj x.1) (z := default) (fun x => by kernel_rfl) (fun _ => by kernel_rfl)
def z7i (r : Int) : ARes ty := ⟨[.pure (.lit (.int .i64 r))], []⟩
def zbcf : AL base (List Term × Unit) := aCons (aPure (vSl 42)) aNil
def zqd (F : List Term → Bool × Int) : Ab.Spec ty := mkSpec zbcf fun x => ((F x.1).1, z7i (F x.1).2)
def zlg (zg : List Term → Bool × Int) (n_ : Int) (t12 : List Term) (t13 : Int) (t14 : Int) (t25 : List Factor) (t26 : Int) (t27 : Int) (t33 : List (List Term)) (t34 : Int) (t35 : Int) (f : Factor) : Wy (Int × Unit × List Term × Int × Int × List Factor × Int × Int × List (List Term) × Int × Int × Unit) (Factor × Unit) (Int × List Term × Int × Int × List Factor × Int × Int × Factor) := .i (decide (t35 < t34)) (.i (decide ((0 : Int) ≤ t35) && decide (t35 < Int.ofNat t33.length)) (.bn (zg (t33.getD t35.toNat default)) fun r0 => .h ((IntKind.i64.wrap (n_ + r0)), (), t12, t13, t14, t25, t26, t27, t33, t34, (IntKind.i64.wrap (t35 + (1 : Int))), ()) (f, ())) .d) (.k (n_, t12, t13, t14, t25, t26, t27, f))
def zpc (zg : List Term → Bool × Int) (x : Int × Unit × List Term × Int × Int × List Factor × Int × Int × List (List Term) × Int × Int × Unit) (y : Factor × Unit) : Wy (Int × Unit × List Term × Int × Int × List Factor × Int × Int × List (List Term) × Int × Int × Unit) (Factor × Unit) (Int × List Term × Int × Int × List Factor × Int × Int × Factor) := zlg zg x.1 x.2.2.1 x.2.2.2.1 x.2.2.2.2.1 x.2.2.2.2.2.1 x.2.2.2.2.2.2.1 x.2.2.2.2.2.2.2.1 x.2.2.2.2.2.2.2.2.1 x.2.2.2.2.2.2.2.2.2.1 x.2.2.2.2.2.2.2.2.2.2.1 y.1
def z3q (zg : List Term → Bool × Int) (n : Nat) (n_ : Int) (t12 : List Term) (t13 : Int) (t14 : Int) (t25 : List Factor) (t26 : Int) (t27 : Int) (t33 : List (List Term)) (t34 : Int) (t35 : Int) (f : Factor) : Bool × (Int × List Term × Int × Int × List Factor × Int × Int × Factor) := iterW (zpc zg) default n (n_, (), t12, t13, t14, t25, t26, t27, t33, t34, t35, ()) (f, ())
def z2l (r : Int × List Term × Int × Int × List Factor × Int × Int × Factor) : LTree ty := .done (.exit 4) [.lit (.int .i64 r.1), .ptr 248 0, .sl 42 r.2.1, .lit (.int .i64 r.2.2.1), .lit (.int .i64 r.2.2.2.1), .sl 50 r.2.2.2.2.1, .lit (.int .i64 r.2.2.2.2.2.1), .lit (.int .i64 r.2.2.2.2.2.2.1)] [.box (base.enc 50 r.2.2.2.2.2.2.2) false]
def z3v : LL ty (Int × Unit × List Term × Int × Int × List Factor × Int × Int × List (List Term) × Int × Int × Unit) := llCons (lInt .i64) (llCons (lPtrC 248 0) (llCons (lSl 42) (llCons (lInt .i64) (llCons (lInt .i64) (llCons (lSl 50) (llCons (lInt .i64) (llCons (lInt .i64) (llCons (lSl 23) (llCons (lInt .i64) (llCons (lInt .i64) llNil))))))))))
def z3k : BL ty (Factor × Unit) := bBox (llMap (fun x => (⟨⟨x.1, ⟨x.2.1, x.2.2.1⟩, x.2.2.2.1, x.2.2.2.2.1, x.2.2.2.2.2.1, x.2.2.2.2.2.2.1, ⟨x.2.2.2.2.2.2.2.1, x.2.2.2.2.2.2.2.2.1, x.2.2.2.2.2.2.2.2.2.1⟩⟩, x.2.2.2.2.2.2.2.2.2.2.1⟩ : Factor)) (fun x => (x.Atom.Kind, x.Atom.Row.Table, x.Atom.Row.Seq, x.Atom.Args, x.Atom.Func, x.Atom.Items, x.Atom.Op, x.Atom.Bound.Kind, x.Atom.Bound.Int, x.Atom.Bound.Text, x.Exp, ())) (fun _ => rfl) (llCons (lInt .i64) (llCons (lInt .i64) (llCons (lInt .i64) (llCons (lSl 23) (llCons (lInt .i64) (llCons (lSl 52) (llCons (lInt .i64) (llCons (lInt .i64) (llCons (lInt .i64) (llCons lStr (llCons (lInt .i64) llNil)))))))))))) false (bNil)
def zlk (zg : List Term → Bool × Int) (n_ : Int) (t12 : List Term) (t13 : Int) (t14 : Int) (t25 : List Factor) (t26 : Int) (t27 : Int) (t46 : List Weighted) (t47 : Int) (t48 : Int) : Wy (Int × List Term × Int × Int × List Factor × Int × Int × List Weighted × Int × Int × Unit) (Unit) (Int × List Term × Int × Int × List Factor × Int × Int) := .i (decide (t48 < t47)) (.i (decide ((0 : Int) ≤ t48) && decide (t48 < Int.ofNat t46.length)) (.bn (zg (t46.getD t48.toNat default).Ann) fun r2 => .h ((IntKind.i64.wrap (n_ + IntKind.i64.wrap ((1 : Int) + r2))), t12, t13, t14, t25, t26, t27, t46, t47, (IntKind.i64.wrap (t48 + (1 : Int))), ()) ()) .d) (.k (n_, t12, t13, t14, t25, t26, t27))
def zph (zg : List Term → Bool × Int) (x : Int × List Term × Int × Int × List Factor × Int × Int × List Weighted × Int × Int × Unit) (y : Unit) : Wy (Int × List Term × Int × Int × List Factor × Int × Int × List Weighted × Int × Int × Unit) (Unit) (Int × List Term × Int × Int × List Factor × Int × Int) := zlk zg x.1 x.2.1 x.2.2.1 x.2.2.2.1 x.2.2.2.2.1 x.2.2.2.2.2.1 x.2.2.2.2.2.2.1 x.2.2.2.2.2.2.2.1 x.2.2.2.2.2.2.2.2.1 x.2.2.2.2.2.2.2.2.2.1
def z35 (zg : List Term → Bool × Int) (n : Nat) (n_ : Int) (t12 : List Term) (t13 : Int) (t14 : Int) (t25 : List Factor) (t26 : Int) (t27 : Int) (t46 : List Weighted) (t47 : Int) (t48 : Int) : Bool × (Int × List Term × Int × Int × List Factor × Int × Int) := iterW (zph zg) default n (n_, t12, t13, t14, t25, t26, t27, t46, t47, t48, ()) ()
def z18 (r : Int × List Term × Int × Int × List Factor × Int × Int) : LTree ty := .done (.exit 6) [.lit (.int .i64 r.1), .sl 42 r.2.1, .lit (.int .i64 r.2.2.1), .lit (.int .i64 r.2.2.2.1), .sl 50 r.2.2.2.2.1, .lit (.int .i64 r.2.2.2.2.2.1), .lit (.int .i64 r.2.2.2.2.2.2)] []
def z3c : LL ty (Int × List Term × Int × Int × List Factor × Int × Int × List Weighted × Int × Int × Unit) := llCons (lInt .i64) (llCons (lSl 42) (llCons (lInt .i64) (llCons (lInt .i64) (llCons (lSl 50) (llCons (lInt .i64) (llCons (lInt .i64) (llCons (lSl 52) (llCons (lInt .i64) (llCons (lInt .i64) llNil)))))))))
def z3f : BL ty (Unit) := bNil
def zmc (zg : List Term → Bool × Int) (n_ : Int) (t12 : List Term) (t13 : Int) (t14 : Int) (t25 : List Factor) (t26 : Int) (t27 : Int) : Wy (Int × List Term × Int × Int × List Factor × Int × Int × Unit) (Unit) (Int × List Term × Int × Int) := .i (decide (t27 < t26)) (.i (decide ((0 : Int) ≤ t27) && decide (t27 < Int.ofNat t25.length)) (.bn (z3q zg ((n_.toNat + t12.length + t13.toNat + t14.toNat + t25.length + t26.toNat + t27.toNat + (t25.getD t27.toNat default).Atom.Args.length + (Int.ofNat (t25.getD t27.toNat default).Atom.Args.length).toNat + Int.toNat (0 : Int) + (1 : Nat)) + (FactorOf.mk (Atom.mk (t25.getD t27.toNat default).Atom.Kind (t25.getD t27.toNat default).Atom.Row (t25.getD t27.toNat default).Atom.Args (t25.getD t27.toNat default).Atom.Func (t25.getD t27.toNat default).Atom.Items (t25.getD t27.toNat default).Atom.Op (t25.getD t27.toNat default).Atom.Bound) (t25.getD t27.toNat default).Exp).Atom.Args.length + (FactorOf.mk (Atom.mk (t25.getD t27.toNat default).Atom.Kind (t25.getD t27.toNat default).Atom.Row (t25.getD t27.toNat default).Atom.Args (t25.getD t27.toNat default).Atom.Func (t25.getD t27.toNat default).Atom.Items (t25.getD t27.toNat default).Atom.Op (t25.getD t27.toNat default).Atom.Bound) (t25.getD t27.toNat default).Exp).Atom.Items.length) n_ t12 t13 t14 t25 t26 t27 (t25.getD t27.toNat default).Atom.Args (Int.ofNat (t25.getD t27.toNat default).Atom.Args.length) (0 : Int) (FactorOf.mk (Atom.mk (t25.getD t27.toNat default).Atom.Kind (t25.getD t27.toNat default).Atom.Row (t25.getD t27.toNat default).Atom.Args (t25.getD t27.toNat default).Atom.Func (t25.getD t27.toNat default).Atom.Items (t25.getD t27.toNat default).Atom.Op (t25.getD t27.toNat default).Atom.Bound) (t25.getD t27.toNat default).Exp)) fun r5 => .bn (z35 zg (r5.fst.toNat + r5.snd.fst.length + r5.snd.snd.fst.toNat + r5.snd.snd.snd.fst.toNat + r5.snd.snd.snd.snd.fst.length + r5.snd.snd.snd.snd.snd.fst.toNat + r5.snd.snd.snd.snd.snd.snd.fst.toNat + r5.snd.snd.snd.snd.snd.snd.snd.Atom.Items.length + (Int.ofNat r5.snd.snd.snd.snd.snd.snd.snd.Atom.Items.length).toNat + Int.toNat (0 : Int) + (1 : Nat)) r5.fst r5.snd.fst r5.snd.snd.fst r5.snd.snd.snd.fst r5.snd.snd.snd.snd.fst r5.snd.snd.snd.snd.snd.fst r5.snd.snd.snd.snd.snd.snd.fst r5.snd.snd.snd.snd.snd.snd.snd.Atom.Items (Int.ofNat r5.snd.snd.snd.snd.snd.snd.snd.Atom.Items.length) (0 : Int)) fun r4 => .h ((r4.fst), (r4.snd.fst), (r4.snd.snd.fst), (r4.snd.snd.snd.fst), (r4.snd.snd.snd.snd.fst), (r4.snd.snd.snd.snd.snd.fst), (IntKind.i64.wrap (r4.snd.snd.snd.snd.snd.snd + (1 : Int))), ()) ()) .d) (.k (n_, t12, t13, t14))
def zql (zg : List Term → Bool × Int) (x : Int × List Term × Int × Int × List Factor × Int × Int × Unit) (y : Unit) : Wy (Int × List Term × Int × Int × List Factor × Int × Int × Unit) (Unit) (Int × List Term × Int × Int) := zmc zg x.1 x.2.1 x.2.2.1 x.2.2.2.1 x.2.2.2.2.1 x.2.2.2.2.2.1 x.2.2.2.2.2.2.1
def z41 (zg : List Term → Bool × Int) (n : Nat) (n_ : Int) (t12 : List Term) (t13 : Int) (t14 : Int) (t25 : List Factor) (t26 : Int) (t27 : Int) : Bool × (Int × List Term × Int × Int) := iterW (zql zg) default n (n_, t12, t13, t14, t25, t26, t27, ()) ()
def z4b (r : Int × List Term × Int × Int) : LTree ty := .done (.exit 2) [.lit (.int .i64 r.1), .sl 42 r.2.1, .lit (.int .i64 r.2.2.1), .lit (.int .i64 r.2.2.2)] []
def z4o : LL ty (Int × List Term × Int × Int × List Factor × Int × Int × Unit) := llCons (lInt .i64) (llCons (lSl 42) (llCons (lInt .i64) (llCons (lInt .i64) (llCons (lSl 50) (llCons (lInt .i64) (llCons (lInt .i64) llNil))))))
def z57 : BL ty (Unit) := bNil
def zmi (zg : List Term → Bool × Int) (n_ : Int) (t12 : List Term) (t13 : Int) (t14 : Int) : Wy (Int × List Term × Int × Int × Unit) (Unit) (Int) := .i (decide (t14 < t13)) (.i (decide ((0 : Int) ≤ t14) && decide (t14 < Int.ofNat t12.length)) (.bn (z41 zg ((IntKind.i64.wrap (n_ + IntKind.i64.wrap ((1 : Int) + Int.ofNat (t12.getD t14.toNat default).Factors.length))).toNat + t12.length + t13.toNat + t14.toNat + (t12.getD t14.toNat default).Factors.length + (Int.ofNat (t12.getD t14.toNat default).Factors.length).toNat + Int.toNat (0 : Int) + (1 : Nat)) (IntKind.i64.wrap (n_ + IntKind.i64.wrap ((1 : Int) + Int.ofNat (t12.getD t14.toNat default).Factors.length))) t12 t13 t14 (t12.getD t14.toNat default).Factors (Int.ofNat (t12.getD t14.toNat default).Factors.length) (0 : Int)) fun r8 => .h ((r8.fst), (r8.snd.fst), (r8.snd.snd.fst), (IntKind.i64.wrap (r8.snd.snd.snd + (1 : Int))), ()) ()) .d) (.k n_)
def zqm (zg : List Term → Bool × Int) (x : Int × List Term × Int × Int × Unit) (y : Unit) : Wy (Int × List Term × Int × Int × Unit) (Unit) (Int) := zmi zg x.1 x.2.1 x.2.2.1 x.2.2.2.1
def z54 (zg : List Term → Bool × Int) (n : Nat) (n_ : Int) (t12 : List Term) (t13 : Int) (t14 : Int) : Bool × Int := iterW (zqm zg) default n (n_, t12, t13, t14, ()) ()
def z3r (r : Int) : LTree ty := .done (.exit 0) [.lit (.int .i64 r)] []
def z6h : LL ty (Int × List Term × Int × Int × Unit) := llCons (lInt .i64) (llCons (lSl 42) (llCons (lInt .i64) (llCons (lInt .i64) llNil)))
def z6e : BL ty (Unit) := bNil
def zmb (zg : List Term → Bool × Int) : Cx ty := mkCx base 62 [(47, (zqd zg))] [] [(3, [(3, .keep), (12, .keep), (13, .keep), (14, .keep)]), (7, [(3, .keep), (12, .keep), (13, .keep), (14, .keep), (25, .keep), (26, .keep), (27, .keep)]), (10, [(3, .keep), (7, .keep), (12, .keep), (13, .keep), (14, .keep), (25, .keep), (26, .keep), (27, .keep), (33, .keep), (34, .keep), (35, .keep)]), (15, [(3, .keep), (12, .keep), (13, .keep), (14, .keep), (25, .keep), (26, .keep), (27, .keep), (46, .keep), (47, .keep), (48, .keep)])] [(3, 1, [(3, .keep)]), (7, 3, [(3, .keep), (12, .keep), (13, .keep), (14, .keep)]), (10, 5, [(3, .keep), (7, .keep), (12, .keep), (13, .keep), (14, .keep), (25, .keep), (26, .keep), (27, .keep)]), (15, 7, [(3, .keep), (12, .keep), (13, .keep), (14, .keep), (25, .keep), (26, .keep), (27, .keep)])] [(10, spW z3v z3k (zpc zg) default z2l fun x y => ((Int.toNat x.1 + x.2.2.1.length + Int.toNat x.2.2.2.1 + Int.toNat x.2.2.2.2.1 + x.2.2.2.2.2.1.length + Int.toNat x.2.2.2.2.2.2.1 + Int.toNat x.2.2.2.2.2.2.2.1 + x.2.2.2.2.2.2.2.2.1.length + Int.toNat x.2.2.2.2.2.2.2.2.2.1 + Int.toNat x.2.2.2.2.2.2.2.2.2.2.1 + 1) + y.1.Atom.Args.length + y.1.Atom.Items.length)), (15, spW z3c z3f (zph zg) default z18 fun x y => (Int.toNat x.1 + x.2.1.length + Int.toNat x.2.2.1 + Int.toNat x.2.2.2.1 + x.2.2.2.2.1.length + Int.toNat x.2.2.2.2.2.1 + Int.toNat x.2.2.2.2.2.2.1 + x.2.2.2.2.2.2.2.1.length + Int.toNat x.2.2.2.2.2.2.2.2.1 + Int.toNat x.2.2.2.2.2.2.2.2.2.1 + 1)), (7, spW z4o z57 (zql zg) default z4b fun x y => (Int.toNat x.1 + x.2.1.length + Int.toNat x.2.2.1 + Int.toNat x.2.2.2.1 + x.2.2.2.2.1.length + Int.toNat x.2.2.2.2.2.1 + Int.toNat x.2.2.2.2.2.2.1 + 1)), (3, spW z6h z6e (zqm zg) default z3r fun x y => (Int.toNat x.1 + x.2.1.length + Int.toNat x.2.2.1 + Int.toNat x.2.2.2.1 + 1))] []
theorem zbg2 (zg : List Term → Bool × Int) : LoopOK (zmb zg) (lp (body Tryz.f47) 2) := loopOK_W (id := 10) (V := z3v) (B := z3k) (W := zpc zg) (z := default) (tr := z2l) (m := fun x y => ((Int.toNat x.1 + x.2.2.1.length + Int.toNat x.2.2.2.1 + Int.toNat x.2.2.2.2.1 + x.2.2.2.2.2.1.length + Int.toNat x.2.2.2.2.2.2.1 + Int.toNat x.2.2.2.2.2.2.2.1 + x.2.2.2.2.2.2.2.2.1.length + Int.toNat x.2.2.2.2.2.2.2.2.2.1 + Int.toNat x.2.2.2.2.2.2.2.2.2.2.1 + 1) + y.1.Atom.Args.length + y.1.Atom.Items.length)) (by kernel_rfl) (by kernel_rfl) fun R H K x y => by kernel_rfl
theorem zbg4 (zg : List Term → Bool × Int) : LoopOK (zmb zg) (lp (body Tryz.f47) 3) := loopOK_W (id := 15) (V := z3c) (B := z3f) (W := zph zg) (z := default) (tr := z18) (m := fun x y => (Int.toNat x.1 + x.2.1.length + Int.toNat x.2.2.1 + Int.toNat x.2.2.2.1 + x.2.2.2.2.1.length + Int.toNat x.2.2.2.2.2.1 + Int.toNat x.2.2.2.2.2.2.1 + x.2.2.2.2.2.2.2.1.length + Int.toNat x.2.2.2.2.2.2.2.2.1 + Int.toNat x.2.2.2.2.2.2.2.2.2.1 + 1)) (by kernel_rfl) (by kernel_rfl) fun R H K x y => by kernel_rfl
theorem zbip (zg : List Term → Bool × Int) : LoopOK (zmb zg) (lp (body Tryz.f47) 1) := loopOK_W (id := 7) (V := z4o) (B := z57) (W := zql zg) (z := default) (tr := z4b) (m := fun x y => (Int.toNat x.1 + x.2.1.length + Int.toNat x.2.2.1 + Int.toNat x.2.2.2.1 + x.2.2.2.2.1.length + Int.toNat x.2.2.2.2.2.1 + Int.toNat x.2.2.2.2.2.2.1 + 1)) (by kernel_rfl) (by kernel_rfl) fun R H K x y => by kernel_rfl
theorem zbik (zg : List Term → Bool × Int) : LoopOK (zmb zg) (lp (body Tryz.f47) 0) := loopOK_W (id := 3) (V := z6h) (B := z6e) (W := zqm zg) (z := default) (tr := z3r) (m := fun x y => (Int.toNat x.1 + x.2.1.length + Int.toNat x.2.2.1 + Int.toNat x.2.2.2.1 + 1)) (by kernel_rfl) (by kernel_rfl) fun R H K x y => by kernel_rfl
def zxr (zg : List Term → Bool × Int) (a : List Term) : Wy0 (Int) := .bn (z54 zg (Int.toNat (0 : Int) + a.length + (Int.ofNat a.length).toNat + Int.toNat (0 : Int) + (1 : Nat)) (0 : Int) a (Int.ofNat a.length) (0 : Int)) fun r10 => .k r10
def zt6 (zg : List Term → Bool × Int) (a : List Term) : Bool × Int := (zxr zg a).fin default
theorem zbfa (zg : List Term → Bool × Int) (zbk0 : Sound Tryz.prog base 47 (zqd zg)) : Sound Tryz.prog base 47 (zqd (zt6 zg)) :=
  sound_W (cx' := (zmb zg)) draws base_ok mkSame (mkSpecs ⟨(zbk0), trivial⟩) Tryz.call47 Tryz.func47 (c := body Tryz.f47) (by kernel_rfl) (loopsOK_of (l := [lp (body Tryz.f47) 0, lp (body Tryz.f47) 1, lp (body Tryz.f47) 2, lp (body Tryz.f47) 3]) (by kernel_rfl) ⟨zbik zg, zbip zg, zbg2 zg, zbg4 zg, trivial⟩) (sg := ⟨[.pure], []⟩) (A := zbcf) (res := z7i) (W := fun x => zxr zg x.1) (z := default) (fun x => by kernel_rfl) (fun _ => by kernel_rfl)
def zbqt : Nat → (List Term → Bool × Int)
  | 0 => fun _ => (false, default)
  | n + 1 => zt6 (zbqt n)
def zmv (n : Nat) : List Term → Bool × Int := zbqt n
theorem zbjo (n : Nat) : zmv (n + 1) = zt6 (zmv n) := rfl
theorem zbn5 : ∀ n, Sound Tryz.prog base 47 (zqd (zmv n))
  | 0 => sound_false Tryz.call47 (fun _ => rfl)
  | n + 1 => by
    have ih := zbn5 n
    exact zbfa _ (ih)
def z4t : List Term → Bool × Int := zmv 1000
def z4k : Ab.Spec ty := zqd z4t
theorem zbin : Sound Tryz.prog base 47 z4k := (zbn5 1000)
def z2i (r : Int) : ARes ty := ⟨[.pure (.lit (.int .i64 r))], []⟩
def z43 : AL base (List Term × Unit) := aCons (aPure (vSl 42)) aNil
def zmf (F : List Term → Bool × Int) : Ab.Spec ty := mkSpec z43 fun x => ((F x.1).1, z2i (F x.1).2)
def ziq (ze : List Term → Bool × Int) (n_ : Int) (inner : Int) (t13 : List Term) (t14 : Int) (t15 : Int) (t20 : List Factor) (t21 : Int) (t22 : Int) (t32 : List (List Term)) (t33 : Int) (t34 : Int) (f : Factor) : Wy (Int × Unit × Int × List Term × Int × Int × List Factor × Int × Int × List (List Term) × Int × Int × Unit) (Factor × Unit) (Int × Int × List Term × Int × Int × List Factor × Int × Int × Factor) := .i (decide (t34 < t33)) (.i (decide ((0 : Int) ≤ t34) && decide (t34 < Int.ofNat t32.length)) (.bn (ze (t32.getD t34.toNat default)) fun r0 => .h (n_, (), (if r0 > inner then r0 else inner), t13, t14, t15, t20, t21, t22, t32, t33, (IntKind.i64.wrap (t34 + (1 : Int))), ()) (f, ())) .d) (.k (n_, inner, t13, t14, t15, t20, t21, t22, f))
def zmn (ze : List Term → Bool × Int) (x : Int × Unit × Int × List Term × Int × Int × List Factor × Int × Int × List (List Term) × Int × Int × Unit) (y : Factor × Unit) : Wy (Int × Unit × Int × List Term × Int × Int × List Factor × Int × Int × List (List Term) × Int × Int × Unit) (Factor × Unit) (Int × Int × List Term × Int × Int × List Factor × Int × Int × Factor) := ziq ze x.1 x.2.2.1 x.2.2.2.1 x.2.2.2.2.1 x.2.2.2.2.2.1 x.2.2.2.2.2.2.1 x.2.2.2.2.2.2.2.1 x.2.2.2.2.2.2.2.2.1 x.2.2.2.2.2.2.2.2.2.1 x.2.2.2.2.2.2.2.2.2.2.1 x.2.2.2.2.2.2.2.2.2.2.2.1 y.1
def zy5 (ze : List Term → Bool × Int) (n : Nat) (n_ : Int) (inner : Int) (t13 : List Term) (t14 : Int) (t15 : Int) (t20 : List Factor) (t21 : Int) (t22 : Int) (t32 : List (List Term)) (t33 : Int) (t34 : Int) (f : Factor) : Bool × (Int × Int × List Term × Int × Int × List Factor × Int × Int × Factor) := iterW (zmn ze) default n (n_, (), inner, t13, t14, t15, t20, t21, t22, t32, t33, t34, ()) (f, ())
def zx9 (r : Int × Int × List Term × Int × Int × List Factor × Int × Int × Factor) : LTree ty := .done (.exit 4) [.lit (.int .i64 r.1), .ptr 256 0, .lit (.int .i64 r.2.1), .sl 42 r.2.2.1, .lit (.int .i64 r.2.2.2.1), .lit (.int .i64 r.2.2.2.2.1), .sl 50 r.2.2.2.2.2.1, .lit (.int .i64 r.2.2.2.2.2.2.1), .lit (.int .i64 r.2.2.2.2.2.2.2.1)] [.box (base.enc 50 r.2.2.2.2.2.2.2.2) false]
def zy3 : LL ty (Int × Unit × Int × List Term × Int × Int × List Factor × Int × Int × List (List Term) × Int × Int × Unit) := llCons (lInt .i64) (llCons (lPtrC 256 0) (llCons (lInt .i64) (llCons (lSl 42) (llCons (lInt .i64) (llCons (lInt .i64) (llCons (lSl 50) (llCons (lInt .i64) (llCons (lInt .i64) (llCons (lSl 23) (llCons (lInt .i64) (llCons (lInt .i64) llNil)))))))))))
def zz1 : BL ty (Factor × Unit) := bBox (llMap (fun x => (⟨⟨x.1, ⟨x.2.1, x.2.2.1⟩, x.2.2.2.1, x.2.2.2.2.1, x.2.2.2.2.2.1, x.2.2.2.2.2.2.1, ⟨x.2.2.2.2.2.2.2.1, x.2.2.2.2.2.2.2.2.1, x.2.2.2.2.2.2.2.2.2.1⟩⟩, x.2.2.2.2.2.2.2.2.2.2.1⟩ : Factor)) (fun x => (x.Atom.Kind, x.Atom.Row.Table, x.Atom.Row.Seq, x.Atom.Args, x.Atom.Func, x.Atom.Items, x.Atom.Op, x.Atom.Bound.Kind, x.Atom.Bound.Int, x.Atom.Bound.Text, x.Exp, ())) (fun _ => rfl) (llCons (lInt .i64) (llCons (lInt .i64) (llCons (lInt .i64) (llCons (lSl 23) (llCons (lInt .i64) (llCons (lSl 52) (llCons (lInt .i64) (llCons (lInt .i64) (llCons (lInt .i64) (llCons lStr (llCons (lInt .i64) llNil)))))))))))) false (bNil)
def zih (ze : List Term → Bool × Int) (n_ : Int) (inner : Int) (t13 : List Term) (t14 : Int) (t15 : Int) (t20 : List Factor) (t21 : Int) (t22 : Int) (t45 : List Weighted) (t46 : Int) (t47 : Int) : Wy (Int × Int × List Term × Int × Int × List Factor × Int × Int × List Weighted × Int × Int × Unit) (Unit) (Int × Int × List Term × Int × Int × List Factor × Int × Int) := .i (decide (t47 < t46)) (.i (decide ((0 : Int) ≤ t47) && decide (t47 < Int.ofNat t45.length)) (.bn (ze (t45.getD t47.toNat default).Ann) fun r2 => .h (n_, (if r2 > inner then r2 else inner), t13, t14, t15, t20, t21, t22, t45, t46, (IntKind.i64.wrap (t47 + (1 : Int))), ()) ()) .d) (.k (n_, inner, t13, t14, t15, t20, t21, t22))
def zme (ze : List Term → Bool × Int) (x : Int × Int × List Term × Int × Int × List Factor × Int × Int × List Weighted × Int × Int × Unit) (y : Unit) : Wy (Int × Int × List Term × Int × Int × List Factor × Int × Int × List Weighted × Int × Int × Unit) (Unit) (Int × Int × List Term × Int × Int × List Factor × Int × Int) := zih ze x.1 x.2.1 x.2.2.1 x.2.2.2.1 x.2.2.2.2.1 x.2.2.2.2.2.1 x.2.2.2.2.2.2.1 x.2.2.2.2.2.2.2.1 x.2.2.2.2.2.2.2.2.1 x.2.2.2.2.2.2.2.2.2.1 x.2.2.2.2.2.2.2.2.2.2.1
def zy1 (ze : List Term → Bool × Int) (n : Nat) (n_ : Int) (inner : Int) (t13 : List Term) (t14 : Int) (t15 : Int) (t20 : List Factor) (t21 : Int) (t22 : Int) (t45 : List Weighted) (t46 : Int) (t47 : Int) : Bool × (Int × Int × List Term × Int × Int × List Factor × Int × Int) := iterW (zme ze) default n (n_, inner, t13, t14, t15, t20, t21, t22, t45, t46, t47, ()) ()
def zyl (r : Int × Int × List Term × Int × Int × List Factor × Int × Int) : LTree ty := .done (.exit 6) [.lit (.int .i64 r.1), .lit (.int .i64 r.2.1), .sl 42 r.2.2.1, .lit (.int .i64 r.2.2.2.1), .lit (.int .i64 r.2.2.2.2.1), .sl 50 r.2.2.2.2.2.1, .lit (.int .i64 r.2.2.2.2.2.2.1), .lit (.int .i64 r.2.2.2.2.2.2.2)] []
def zyx : LL ty (Int × Int × List Term × Int × Int × List Factor × Int × Int × List Weighted × Int × Int × Unit) := llCons (lInt .i64) (llCons (lInt .i64) (llCons (lSl 42) (llCons (lInt .i64) (llCons (lInt .i64) (llCons (lSl 50) (llCons (lInt .i64) (llCons (lInt .i64) (llCons (lSl 52) (llCons (lInt .i64) (llCons (lInt .i64) llNil))))))))))
def zzx : BL ty (Unit) := bNil
def zj7 (ze : List Term → Bool × Int) (n_ : Int) (t13 : List Term) (t14 : Int) (t15 : Int) (t20 : List Factor) (t21 : Int) (t22 : Int) : Wy (Int × List Term × Int × Int × List Factor × Int × Int × Unit) (Unit) (Int × List Term × Int × Int) := .i (decide (t22 < t21)) (.i (decide ((0 : Int) ≤ t22) && decide (t22 < Int.ofNat t20.length)) (.i ((t20.getD t22.toNat default).Atom.Kind == (0 : Int)) (.h (n_, t13, t14, t15, t20, t21, (IntKind.i64.wrap (t22 + (1 : Int))), ()) ()) (.bn (zy5 ze ((n_.toNat + Int.toNat (0 : Int) + t13.length + t14.toNat + t15.toNat + t20.length + t21.toNat + t22.toNat + (t20.getD t22.toNat default).Atom.Args.length + (Int.ofNat (t20.getD t22.toNat default).Atom.Args.length).toNat + Int.toNat (0 : Int) + (1 : Nat)) + (FactorOf.mk (Atom.mk (t20.getD t22.toNat default).Atom.Kind (t20.getD t22.toNat default).Atom.Row (t20.getD t22.toNat default).Atom.Args (t20.getD t22.toNat default).Atom.Func (t20.getD t22.toNat default).Atom.Items (t20.getD t22.toNat default).Atom.Op (t20.getD t22.toNat default).Atom.Bound) (t20.getD t22.toNat default).Exp).Atom.Args.length + (FactorOf.mk (Atom.mk (t20.getD t22.toNat default).Atom.Kind (t20.getD t22.toNat default).Atom.Row (t20.getD t22.toNat default).Atom.Args (t20.getD t22.toNat default).Atom.Func (t20.getD t22.toNat default).Atom.Items (t20.getD t22.toNat default).Atom.Op (t20.getD t22.toNat default).Atom.Bound) (t20.getD t22.toNat default).Exp).Atom.Items.length) n_ (0 : Int) t13 t14 t15 t20 t21 t22 (t20.getD t22.toNat default).Atom.Args (Int.ofNat (t20.getD t22.toNat default).Atom.Args.length) (0 : Int) (FactorOf.mk (Atom.mk (t20.getD t22.toNat default).Atom.Kind (t20.getD t22.toNat default).Atom.Row (t20.getD t22.toNat default).Atom.Args (t20.getD t22.toNat default).Atom.Func (t20.getD t22.toNat default).Atom.Items (t20.getD t22.toNat default).Atom.Op (t20.getD t22.toNat default).Atom.Bound) (t20.getD t22.toNat default).Exp)) fun r5 => .bn (zy1 ze (r5.fst.toNat + r5.snd.fst.toNat + r5.snd.snd.fst.length + r5.snd.snd.snd.fst.toNat + r5.snd.snd.snd.snd.fst.toNat + r5.snd.snd.snd.snd.snd.fst.length + r5.snd.snd.snd.snd.snd.snd.fst.toNat + r5.snd.snd.snd.snd.snd.snd.snd.fst.toNat + r5.snd.snd.snd.snd.snd.snd.snd.snd.Atom.Items.length + (Int.ofNat r5.snd.snd.snd.snd.snd.snd.snd.snd.Atom.Items.length).toNat + Int.toNat (0 : Int) + (1 : Nat)) r5.fst r5.snd.fst r5.snd.snd.fst r5.snd.snd.snd.fst r5.snd.snd.snd.snd.fst r5.snd.snd.snd.snd.snd.fst r5.snd.snd.snd.snd.snd.snd.fst r5.snd.snd.snd.snd.snd.snd.snd.fst r5.snd.snd.snd.snd.snd.snd.snd.snd.Atom.Items (Int.ofNat r5.snd.snd.snd.snd.snd.snd.snd.snd.Atom.Items.length) (0 : Int)) fun r4 => .h ((if IntKind.i64.wrap ((1 : Int) + r4.snd.fst) > r4.fst then IntKind.i64.wrap ((1 : Int) + r4.snd.fst) else r4.fst), (r4.snd.snd.fst), (r4.snd.snd.snd.fst), (r4.snd.snd.snd.snd.fst), (r4.snd.snd.snd.snd.snd.fst), (r4.snd.snd.snd.snd.snd.snd.fst), (IntKind.i64.wrap (r4.snd.snd.snd.snd.snd.snd.snd + (1 : Int))), ()) ())) .d) (.k (n_, t13, t14, t15))
def zng (ze : List Term → Bool × Int) (x : Int × List Term × Int × Int × List Factor × Int × Int × Unit) (y : Unit) : Wy (Int × List Term × Int × Int × List Factor × Int × Int × Unit) (Unit) (Int × List Term × Int × Int) := zj7 ze x.1 x.2.1 x.2.2.1 x.2.2.2.1 x.2.2.2.2.1 x.2.2.2.2.2.1 x.2.2.2.2.2.2.1
def z0x (ze : List Term → Bool × Int) (n : Nat) (n_ : Int) (t13 : List Term) (t14 : Int) (t15 : Int) (t20 : List Factor) (t21 : Int) (t22 : Int) : Bool × (Int × List Term × Int × Int) := iterW (zng ze) default n (n_, t13, t14, t15, t20, t21, t22, ()) ()
def zys (r : Int × List Term × Int × Int) : LTree ty := .done (.exit 2) [.lit (.int .i64 r.1), .sl 42 r.2.1, .lit (.int .i64 r.2.2.1), .lit (.int .i64 r.2.2.2)] []
def z00 : LL ty (Int × List Term × Int × Int × List Factor × Int × Int × Unit) := llCons (lInt .i64) (llCons (lSl 42) (llCons (lInt .i64) (llCons (lInt .i64) (llCons (lSl 50) (llCons (lInt .i64) (llCons (lInt .i64) llNil))))))
def z0r : BL ty (Unit) := bNil
def zjo (ze : List Term → Bool × Int) (n_ : Int) (t13 : List Term) (t14 : Int) (t15 : Int) : Wy (Int × List Term × Int × Int × Unit) (Unit) (Int) := .i (decide (t15 < t14)) (.i (decide ((0 : Int) ≤ t15) && decide (t15 < Int.ofNat t13.length)) (.bn (z0x ze (n_.toNat + t13.length + t14.toNat + t15.toNat + (t13.getD t15.toNat default).Factors.length + (Int.ofNat (t13.getD t15.toNat default).Factors.length).toNat + Int.toNat (0 : Int) + (1 : Nat)) n_ t13 t14 t15 (t13.getD t15.toNat default).Factors (Int.ofNat (t13.getD t15.toNat default).Factors.length) (0 : Int)) fun r8 => .h ((r8.fst), (r8.snd.fst), (r8.snd.snd.fst), (IntKind.i64.wrap (r8.snd.snd.snd + (1 : Int))), ()) ()) .d) (.k n_)
def znh (ze : List Term → Bool × Int) (x : Int × List Term × Int × Int × Unit) (y : Unit) : Wy (Int × List Term × Int × Int × Unit) (Unit) (Int) := zjo ze x.1 x.2.1 x.2.2.1 x.2.2.2.1
def z0v (ze : List Term → Bool × Int) (n : Nat) (n_ : Int) (t13 : List Term) (t14 : Int) (t15 : Int) : Bool × Int := iterW (znh ze) default n (n_, t13, t14, t15, ()) ()
def zzo (r : Int) : LTree ty := .done (.exit 0) [.lit (.int .i64 r)] []
def z0o : LL ty (Int × List Term × Int × Int × Unit) := llCons (lInt .i64) (llCons (lSl 42) (llCons (lInt .i64) (llCons (lInt .i64) llNil)))
def z0b : BL ty (Unit) := bNil
def zjy (ze : List Term → Bool × Int) : Cx ty := mkCx base 64 [(120, (zmf ze))] [] [(3, [(3, .keep), (13, .keep), (14, .keep), (15, .keep)]), (6, [(3, .keep), (13, .keep), (14, .keep), (15, .keep), (20, .keep), (21, .keep), (22, .keep)]), (11, [(3, .keep), (7, .keep), (8, .keep), (13, .keep), (14, .keep), (15, .keep), (20, .keep), (21, .keep), (22, .keep), (32, .keep), (33, .keep), (34, .keep)]), (16, [(3, .keep), (8, .keep), (13, .keep), (14, .keep), (15, .keep), (20, .keep), (21, .keep), (22, .keep), (45, .keep), (46, .keep), (47, .keep)])] [(3, 1, [(3, .keep)]), (6, 3, [(3, .keep), (13, .keep), (14, .keep), (15, .keep)]), (11, 5, [(3, .keep), (7, .keep), (8, .keep), (13, .keep), (14, .keep), (15, .keep), (20, .keep), (21, .keep), (22, .keep)]), (16, 7, [(3, .keep), (8, .keep), (13, .keep), (14, .keep), (15, .keep), (20, .keep), (21, .keep), (22, .keep)])] [(11, spW zy3 zz1 (zmn ze) default zx9 fun x y => ((Int.toNat x.1 + Int.toNat x.2.2.1 + x.2.2.2.1.length + Int.toNat x.2.2.2.2.1 + Int.toNat x.2.2.2.2.2.1 + x.2.2.2.2.2.2.1.length + Int.toNat x.2.2.2.2.2.2.2.1 + Int.toNat x.2.2.2.2.2.2.2.2.1 + x.2.2.2.2.2.2.2.2.2.1.length + Int.toNat x.2.2.2.2.2.2.2.2.2.2.1 + Int.toNat x.2.2.2.2.2.2.2.2.2.2.2.1 + 1) + y.1.Atom.Args.length + y.1.Atom.Items.length)), (16, spW zyx zzx (zme ze) default zyl fun x y => (Int.toNat x.1 + Int.toNat x.2.1 + x.2.2.1.length + Int.toNat x.2.2.2.1 + Int.toNat x.2.2.2.2.1 + x.2.2.2.2.2.1.length + Int.toNat x.2.2.2.2.2.2.1 + Int.toNat x.2.2.2.2.2.2.2.1 + x.2.2.2.2.2.2.2.2.1.length + Int.toNat x.2.2.2.2.2.2.2.2.2.1 + Int.toNat x.2.2.2.2.2.2.2.2.2.2.1 + 1)), (6, spW z00 z0r (zng ze) default zys fun x y => (Int.toNat x.1 + x.2.1.length + Int.toNat x.2.2.1 + Int.toNat x.2.2.2.1 + x.2.2.2.2.1.length + Int.toNat x.2.2.2.2.2.1 + Int.toNat x.2.2.2.2.2.2.1 + 1)), (3, spW z0o z0b (znh ze) default zzo fun x y => (Int.toNat x.1 + x.2.1.length + Int.toNat x.2.2.1 + Int.toNat x.2.2.2.1 + 1))] []
theorem zbda (ze : List Term → Bool × Int) : LoopOK (zjy ze) (lp (body Tryz.f120) 2) := loopOK_W (id := 11) (V := zy3) (B := zz1) (W := zmn ze) (z := default) (tr := zx9) (m := fun x y => ((Int.toNat x.1 + Int.toNat x.2.2.1 + x.2.2.2.1.length + Int.toNat x.2.2.2.2.1 + Int.toNat x.2.2.2.2.2.1 + x.2.2.2.2.2.2.1.length + Int.toNat x.2.2.2.2.2.2.2.1 + Int.toNat x.2.2.2.2.2.2.2.2.1 + x.2.2.2.2.2.2.2.2.2.1.length + Int.toNat x.2.2.2.2.2.2.2.2.2.2.1 + Int.toNat x.2.2.2.2.2.2.2.2.2.2.2.1 + 1) + y.1.Atom.Args.length + y.1.Atom.Items.length)) (by kernel_rfl) (by kernel_rfl) fun R H K x y => by kernel_rfl
theorem zbcy (ze : List Term → Bool × Int) : LoopOK (zjy ze) (lp (body Tryz.f120) 3) := loopOK_W (id := 16) (V := zyx) (B := zzx) (W := zme ze) (z := default) (tr := zyl) (m := fun x y => (Int.toNat x.1 + Int.toNat x.2.1 + x.2.2.1.length + Int.toNat x.2.2.2.1 + Int.toNat x.2.2.2.2.1 + x.2.2.2.2.2.1.length + Int.toNat x.2.2.2.2.2.2.1 + Int.toNat x.2.2.2.2.2.2.2.1 + x.2.2.2.2.2.2.2.2.1.length + Int.toNat x.2.2.2.2.2.2.2.2.2.1 + Int.toNat x.2.2.2.2.2.2.2.2.2.2.1 + 1)) (by kernel_rfl) (by kernel_rfl) fun R H K x y => by kernel_rfl
theorem zbe5 (ze : List Term → Bool × Int) : LoopOK (zjy ze) (lp (body Tryz.f120) 1) := loopOK_W (id := 6) (V := z00) (B := z0r) (W := zng ze) (z := default) (tr := zys) (m := fun x y => (Int.toNat x.1 + x.2.1.length + Int.toNat x.2.2.1 + Int.toNat x.2.2.2.1 + x.2.2.2.2.1.length + Int.toNat x.2.2.2.2.2.1 + Int.toNat x.2.2.2.2.2.2.1 + 1)) (by kernel_rfl) (by kernel_rfl) fun R H K x y => by kernel_rfl
theorem zbd9 (ze : List Term → Bool × Int) : LoopOK (zjy ze) (lp (body Tryz.f120) 0) := loopOK_W (id := 3) (V := z0o) (B := z0b) (W := znh ze) (z := default) (tr := zzo) (m := fun x y => (Int.toNat x.1 + x.2.1.length + Int.toNat x.2.2.1 + Int.toNat x.2.2.2.1 + 1)) (by kernel_rfl) (by kernel_rfl) fun R H K x y => by kernel_rfl
def zti (ze : List Term → Bool × Int) (a : List Term) : Wy0 (Int) := .bn (z0v ze (Int.toNat (0 : Int) + a.length + (Int.ofNat a.length).toNat + Int.toNat (0 : Int) + (1 : Nat)) (0 : Int) a (Int.ofNat a.length) (0 : Int)) fun r10 => .k r10
def zqs (ze : List Term → Bool × Int) (a : List Term) : Bool × Int := (zti ze a).fin default
theorem zba3 (ze : List Term → Bool × Int) (zbhd : Sound Tryz.prog base 120 (zmf ze)) : Sound Tryz.prog base 120 (zmf (zqs ze)) :=
  sound_W (cx' := (zjy ze)) draws base_ok mkSame (mkSpecs ⟨(zbhd), trivial⟩) Tryz.call120 Tryz.func120 (c := body Tryz.f120) (by kernel_rfl) (loopsOK_of (l := [lp (body Tryz.f120) 0, lp (body Tryz.f120) 1, lp (body Tryz.f120) 2, lp (body Tryz.f120) 3]) (by kernel_rfl) ⟨zbd9 ze, zbe5 ze, zbda ze, zbcy ze, trivial⟩) (sg := ⟨[.pure], []⟩) (A := z43) (res := z2i) (W := fun x => zti ze x.1) (z := default) (fun x => by kernel_rfl) (fun _ => by kernel_rfl)
def zbm8 : Nat → (List Term → Bool × Int)
  | 0 => fun _ => (false, default)
  | n + 1 => zqs (zbm8 n)
def zgb (n : Nat) : List Term → Bool × Int := zbm8 n
theorem zbfv (n : Nat) : zgb (n + 1) = zqs (zgb n) := rfl
theorem zbkl : ∀ n, Sound Tryz.prog base 120 (zmf (zgb n))
  | 0 => sound_false Tryz.call120 (fun _ => rfl)
  | n + 1 => by
    have ih := zbkl n
    exact zba3 _ (ih)
def zzc : List Term → Bool × Int := zgb 1000
def z0p : Ab.Spec ty := zmf zzc
theorem zbex : Sound Tryz.prog base 120 z0p := (zbkl 1000)
def zba9 : Cx ty := mkCx base 13 [] [] [] [] [] []
def zqv (f : Factor) : Wy0 (Bool) := .i (decide (f.Exp > (64 : Int))) (.k true) (.k (decide (Int.ofNat f.Atom.Items.length > (1024 : Int))))
def zf2 (f : Factor) : Bool × Bool := (zqv f).fin default
def zvr (r : Bool) : ARes ty := ⟨[.pure (.lit (.bool r))], []⟩
def zyh : AL base (Factor × Unit) := aCons (aPure (vAgg 50)) aNil
def zjj : Ab.Spec ty := mkSpec zyh fun x => ((zf2 x.1).1, zvr (zf2 x.1).2)
theorem zm9 : Sound Tryz.prog base 122 zjj :=
  sound_W (cx' := zba9) draws base_ok mkSame (mkSpecs trivial) Tryz.call122 Tryz.func122 (c := body Tryz.f122) (by kernel_rfl) (loopsOK_of (l := []) (by kernel_rfl) trivial) (sg := ⟨[.pure], []⟩) (A := zyh) (res := zvr) (W := fun x => zqv x.1) (z := default) (fun x => by kernel_rfl) (fun _ => by kernel_rfl)
def zkg (s : List Factor) (t7 : Int) (t8 : Int) : Wy (List Factor × Unit × Int × Int × Unit) (Unit) (Int ⊕ Unit) := .i (decide (t8 < t7)) (.i (decide ((0 : Int) ≤ t8) && decide (t8 < Int.ofNat s.length)) (.bn (zf2 (FactorOf.mk (Atom.mk (s.getD t8.toNat default).Atom.Kind (s.getD t8.toNat default).Atom.Row (s.getD t8.toNat default).Atom.Args (s.getD t8.toNat default).Atom.Func (s.getD t8.toNat default).Atom.Items (s.getD t8.toNat default).Atom.Op (s.getD t8.toNat default).Atom.Bound) (s.getD t8.toNat default).Exp)) fun r0 => .i (r0) (.k (.inl t8)) (.h (s, (), t7, (IntKind.i64.wrap (t8 + (1 : Int))), ()) ())) .d) (.k (.inr ()))
def zcl (x : List Factor × Unit × Int × Int × Unit) (y : Unit) : Wy (List Factor × Unit × Int × Int × Unit) (Unit) (Int ⊕ Unit) := zkg x.1 x.2.2.1 x.2.2.2.1
def zkj (n : Nat) (s : List Factor) (t7 : Int) (t8 : Int) : Bool × (Int ⊕ Unit) := iterW (zcl) (.inl default) n (s, (), t7, t8, ()) ()
def zj8 (r : Int ⊕ Unit) : LTree ty := .ite (isL r) (.done .ret [.lit (.int .i64 (getL r))] []) (.done (.exit 0) [] [])
def zkl : LL ty (List Factor × Unit × Int × Int × Unit) := llCons (lSl 50) (llCons (lFn 122 (llNil)) (llCons (lInt .i64) (llCons (lInt .i64) llNil)))
def zkk : BL ty (Unit) := bNil
def zko : Cx ty := mkCx base 19 [(122, zjj)] [] [(2, [(0, .keep), (1, .keep), (7, .keep), (8, .keep)])] [(2, 1, []), (2, 0, [(4, .keep)])] [(2, spW zkl zkk (zcl) (.inl default) zj8 fun x y => (x.1.length + Int.toNat x.2.2.1 + Int.toNat x.2.2.2.1 + 1))] []
theorem zst : LoopOK zko (lp (body Tryz.f150) 0) := loopOK_W (id := 2) (V := zkl) (B := zkk) (W := zcl) (z := .inl default) (tr := zj8) (m := fun x y => (x.1.length + Int.toNat x.2.2.1 + Int.toNat x.2.2.2.1 + 1)) (by kernel_rfl) (by kernel_rfl) fun R H K x y => by kernel_rfl
def zfb (s : List Factor) : Wy0 (Int) := .bn (zkj (s.length + (Int.ofNat s.length).toNat + Int.toNat (0 : Int) + (1 : Nat)) s (Int.ofNat s.length) (0 : Int)) fun r2 => .i (isL r2) (.k (getL r2)) (.k (-1 : Int))
def zcx (s : List Factor) : Bool × Int := (zfb s).fin default
def zj9 (r : Int) : ARes ty := ⟨[.pure (.lit (.int .i64 r))], []⟩
def zkv : AL base (List Factor × Unit × Unit) := aCons (aPure (vSl 50)) (aCons (aPure (vFn 122 vNil)) aNil)
def ze0 : Ab.Spec ty := mkSpec zkv fun x => ((zcx x.1).1, zj9 (zcx x.1).2)
theorem zio : Sound Tryz.prog base 150 ze0 :=
  sound_W (cx' := zko) draws base_ok mkSame (mkSpecs ⟨(zm9), trivial⟩) Tryz.call150 Tryz.func150 (c := body Tryz.f150) (by kernel_rfl) (loopsOK_of (l := [lp (body Tryz.f150) 0]) (by kernel_rfl) ⟨zst, trivial⟩) (sg := ⟨[.pure], []⟩) (A := zkv) (res := zj9) (W := fun x => zfb x.1) (z := default) (fun x => by kernel_rfl) (fun _ => by kernel_rfl)
end Go.Proofs.YtnolcogncjijpaaGreatDoor
end
