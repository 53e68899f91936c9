/- Texts of this claim, joined (the program, its functions in plain words, and what they compute). -/
import Derived.KernelRfl
import Derived.Shelf.Strconv.Itoa3
import Derived.Stop.LaidErr
import Derived.Shelf.Vars
import Derived.Shelf.SlSortCmp.NoneTotal
import Derived.Shelf.Strings.OnBuilder
import Derived.Shelf.Strconv.Itoa4
import Derived.Shelf.Small.Strs
import Derived.Shelf.Strings.Replace
import Derived.Shelf.Small.Bits
import Derived.Test.YtnolcogncjijpaaGreatDoorChecked
import Derived.Test.YtnolcogncjijpaaGreatDoorRows
import Derived.Test.YtnolcogncjijpaaGreatDoorProg
import Derived.Test.YtnolcogncjijpaaGreatDoorGA2
import Derived.Test.YtnolcogncjijpaaGreatDoorGB1
set_option autoImplicit false
set_option linter.unusedVariables false
set_option linter.unusedSimpArgs false
set_option maxRecDepth 1000000
set_option maxHeartbeats 0
/- The types of the program, as plain data. -/
namespace Go.Proofs.YtnolcogncjijpaaGreatDoor
open Go Go.Ab
open Go.Proofs Go.Shelf
structure RowID where
  Table : Int
  Seq : Int
  deriving DecidableEq, Inhabited
structure Value where
  Kind : Int
  Int : Int
  Text : ByteArray
  deriving DecidableEq, Inhabited
structure FactorOf (A : Type) where
  Atom : A
  Exp : Int
structure TermOf (A : Type) where
  Coeff : Int
  Factors : List (FactorOf A)
structure WeightedOf (A : Type) where
  Value : Value
  Ann : List (TermOf A)
structure Atom where
  Kind : Int
  Row : RowID
  Args : List (List (TermOf Atom))
  Func : Int
  Items : List (WeightedOf Atom)
  Op : Int
  Bound : Value
abbrev Factor := FactorOf Atom
abbrev Term := TermOf Atom
abbrev Weighted := WeightedOf Atom
instance : Inhabited Atom := ⟨⟨0, default, [], 0, [], 0, default⟩⟩
instance : Inhabited Factor := ⟨⟨default, 0⟩⟩
instance : Inhabited Term := ⟨⟨0, []⟩⟩
instance : Inhabited Weighted := ⟨⟨default, []⟩⟩
theorem Atom.eta (x : Atom) : (⟨x.Kind, x.Row, x.Args, x.Func, x.Items, x.Op, x.Bound⟩ : Atom) = x := by cases x; rfl
mutual
def decAtom : (x y : Atom) → Decidable (x = y)
  | ⟨k, r, a, f, i, o, b⟩, ⟨k', r', a', f', i', o', b'⟩ =>
    match decEq k k', decEq r r', decAnns a a', decEq f f', decItems i i', decEq o o', decEq b b' with
    | .isTrue h1, .isTrue h2, .isTrue h3, .isTrue h4, .isTrue h5, .isTrue h6, .isTrue h7 => .isTrue (by subst h1 h2 h3 h4 h5 h6 h7; rfl)
    | .isFalse h, _, _, _, _, _, _ => .isFalse (fun e => by cases e; exact h rfl)
    | _, .isFalse h, _, _, _, _, _ => .isFalse (fun e => by cases e; exact h rfl)
    | _, _, .isFalse h, _, _, _, _ => .isFalse (fun e => by cases e; exact h rfl)
    | _, _, _, .isFalse h, _, _, _ => .isFalse (fun e => by cases e; exact h rfl)
    | _, _, _, _, .isFalse h, _, _ => .isFalse (fun e => by cases e; exact h rfl)
    | _, _, _, _, _, .isFalse h, _ => .isFalse (fun e => by cases e; exact h rfl)
    | _, _, _, _, _, _, .isFalse h => .isFalse (fun e => by cases e; exact h rfl)
def decFactor : (x y : Factor) → Decidable (x = y)
  | ⟨a, e⟩, ⟨a', e'⟩ => match decAtom a a', decEq e e' with
    | .isTrue h1, .isTrue h2 => .isTrue (by subst h1 h2; rfl)
    | .isFalse h, _ => .isFalse (fun e => by cases e; exact h rfl)
    | _, .isFalse h => .isFalse (fun e => by cases e; exact h rfl)
def decFactors : (x y : List Factor) → Decidable (x = y)
  | [], [] => .isTrue rfl
  | [], _ :: _ => .isFalse (by simp)
  | _ :: _, [] => .isFalse (by simp)
  | x :: r, y :: s => match decFactor x y, decFactors r s with
    | .isTrue h1, .isTrue h2 => .isTrue (by subst h1 h2; rfl)
    | .isFalse h, _ => .isFalse (fun e => by cases e; exact h rfl)
    | _, .isFalse h => .isFalse (fun e => by cases e; exact h rfl)
def decTerm : (x y : Term) → Decidable (x = y)
  | ⟨a, e⟩, ⟨a', e'⟩ => match decEq a a', decFactors e e' with
    | .isTrue h1, .isTrue h2 => .isTrue (by subst h1 h2; rfl)
    | .isFalse h, _ => .isFalse (fun e => by cases e; exact h rfl)
    | _, .isFalse h => .isFalse (fun e => by cases e; exact h rfl)
def decAnn : (x y : List Term) → Decidable (x = y)
  | [], [] => .isTrue rfl
  | [], _ :: _ => .isFalse (by simp)
  | _ :: _, [] => .isFalse (by simp)
  | x :: r, y :: s => match decTerm x y, decAnn r s with
    | .isTrue h1, .isTrue h2 => .isTrue (by subst h1 h2; rfl)
    | .isFalse h, _ => .isFalse (fun e => by cases e; exact h rfl)
    | _, .isFalse h => .isFalse (fun e => by cases e; exact h rfl)
def decAnns : (x y : List (List Term)) → Decidable (x = y)
  | [], [] => .isTrue rfl
  | [], _ :: _ => .isFalse (by simp)
  | _ :: _, [] => .isFalse (by simp)
  | x :: r, y :: s => match decAnn x y, decAnns r s with
    | .isTrue h1, .isTrue h2 => .isTrue (by subst h1 h2; rfl)
    | .isFalse h, _ => .isFalse (fun e => by cases e; exact h rfl)
    | _, .isFalse h => .isFalse (fun e => by cases e; exact h rfl)
def decItem : (x y : Weighted) → Decidable (x = y)
  | ⟨a, e⟩, ⟨a', e'⟩ => match decEq a a', decAnn e e' with
    | .isTrue h1, .isTrue h2 => .isTrue (by subst h1 h2; rfl)
    | .isFalse h, _ => .isFalse (fun e => by cases e; exact h rfl)
    | _, .isFalse h => .isFalse (fun e => by cases e; exact h rfl)
def decItems : (x y : List Weighted) → Decidable (x = y)
  | [], [] => .isTrue rfl
  | [], _ :: _ => .isFalse (by simp)
  | _ :: _, [] => .isFalse (by simp)
  | x :: r, y :: s => match decItem x y, decItems r s with
    | .isTrue h1, .isTrue h2 => .isTrue (by subst h1 h2; rfl)
    | .isFalse h, _ => .isFalse (fun e => by cases e; exact h rfl)
    | _, .isFalse h => .isFalse (fun e => by cases e; exact h rfl)
end
instance : DecidableEq Atom := decAtom
instance : DecidableEq Factor := decFactor
instance : DecidableEq Term := decTerm
instance : DecidableEq Weighted := decItem

structure Binding where
  Row : RowID
  To : List Term
  deriving DecidableEq, Inhabited
def ty : Nat → Type
  | 2 => Int
  | 3 => Int
  | 4 => Bool
  | 5 => Int
  | 9 => ByteArray
  | 22 => List Term
  | 23 => List Term
  | 25 => RowID
  | 28 => Int
  | 40 => List Factor
  | 42 => Term
  | 43 => List (List Term)
  | 44 => List Weighted
  | 46 => Value
  | 48 => Atom
  | 50 => Factor
  | 52 => Weighted
  | 59 => List Binding
  | 65 => List RowID
  | 69 => Binding
  | 106 => Unit
  | 128 => List Int
  | 136 => List ByteArray
  | 143 => Int
  | 144 => List (List Factor)
  | _ => Unit
instance : (T : Nat) → Inhabited (ty T) := fun T => by
  unfold ty
  split <;> infer_instance
def dt25 : DT ty RowID := dtMap (fun x => ⟨x.1, x.2⟩) (fun x => (x.Table, x.Seq)) (fun _ => rfl) (dtPair (dtInt .i64) (dtInt .i64))
def dt46 : DT ty Value := dtMap (fun x => ⟨x.1, x.2.1, x.2.2⟩) (fun x => (x.Kind, x.Int, x.Text)) (fun _ => rfl) (dtPair (dtInt .i64) (dtPair (dtInt .i64) (dtStr)))
def dt48 : DT ty Atom := dtMap (fun x => ⟨x.1, x.2.1, x.2.2.1, x.2.2.2.1, x.2.2.2.2.1, x.2.2.2.2.2.1, x.2.2.2.2.2.2⟩) (fun x => (x.Kind, x.Row, x.Args, x.Func, x.Items, x.Op, x.Bound)) (fun _ => rfl) (dtPair (dtInt .i64) (dtPair (dt25) (dtPair (dtSl 23) (dtPair (dtInt .i64) (dtPair (dtSl 52) (dtPair (dtInt .i64) (dt46)))))))
def dt50 : DT ty Factor := dtMap (fun x => ⟨x.1, x.2⟩) (fun x => (x.Atom, x.Exp)) (fun _ => rfl) (dtPair (dt48) (dtInt .i64))
def dt42 : DT ty Term := dtMap (fun x => ⟨x.1, x.2⟩) (fun x => (x.Coeff, x.Factors)) (fun _ => rfl) (dtPair (dtInt .i64) (dtSl 50))
def dt52 : DT ty Weighted := dtMap (fun x => ⟨x.1, x.2⟩) (fun x => (x.Value, x.Ann)) (fun _ => rfl) (dtPair (dt46) (dtSl 42))
def dt69 : DT ty Binding := dtMap (fun x => ⟨x.1, x.2⟩) (fun x => (x.Row, x.To)) (fun _ => rfl) (dtPair (dt25) (dtSl 42))
def codecs : List ((T : Nat) × DT ty (ty T)) := [⟨2, (dtInt .i64 : DT ty Int)⟩, ⟨3, (dtInt .i64 : DT ty Int)⟩, ⟨4, (dtBool : DT ty Bool)⟩, ⟨5, (dtInt .u8 : DT ty Int)⟩, ⟨9, (dtStr : DT ty ByteArray)⟩, ⟨22, (dtSl 42 : DT ty (List Term))⟩, ⟨23, (dtSl 42 : DT ty (List Term))⟩, ⟨25, (dt25 : DT ty RowID)⟩, ⟨28, (dtInt .i64 : DT ty Int)⟩, ⟨40, (dtSl 50 : DT ty (List Factor))⟩, ⟨42, (dt42 : DT ty Term)⟩, ⟨43, (dtSl 23 : DT ty (List (List Term)))⟩, ⟨44, (dtSl 52 : DT ty (List Weighted))⟩, ⟨46, (dt46 : DT ty Value)⟩, ⟨48, (dt48 : DT ty Atom)⟩, ⟨50, (dt50 : DT ty Factor)⟩, ⟨52, (dt52 : DT ty Weighted)⟩, ⟨59, (dtSl 69 : DT ty (List Binding))⟩, ⟨65, (dtSl 25 : DT ty (List RowID))⟩, ⟨69, (dt69 : DT ty Binding)⟩, ⟨106, (dtMp : DT ty Unit)⟩, ⟨128, (dtSl 3 : DT ty (List Int))⟩, ⟨136, (dtSl 9 : DT ty (List ByteArray))⟩, ⟨143, (dtInt .u64 : DT ty Int)⟩, ⟨144, (dtSl 40 : DT ty (List (List Factor)))⟩]
def infos : List (Nat × TInfo) := [(2, ⟨.int .i64, 1, 8, [.int .i64 (0)]⟩),
  (3, ⟨.int .i64, 1, 8, [.int .i64 (0)]⟩),
  (4, ⟨.bool, 1, 1, [.bool false]⟩),
  (5, ⟨.int .u8, 1, 1, [.int .u8 (0)]⟩),
  (9, ⟨.str, 1, 16, [.string ⟨#[]⟩]⟩),
  (22, ⟨.slice 42, 1, 24, [.slice none 0 0]⟩),
  (23, ⟨.slice 42, 1, 24, [.slice none 0 0]⟩),
  (25, ⟨.struct [(0, 3), (1, 3)], 2, 16, [.int .i64 (0), .int .i64 (0)]⟩),
  (28, ⟨.int .i64, 1, 8, [.int .i64 (0)]⟩),
  (40, ⟨.slice 50, 1, 24, [.slice none 0 0]⟩),
  (42, ⟨.struct [(0, 2), (1, 40)], 2, 32, [.int .i64 (0), .slice none 0 0]⟩),
  (43, ⟨.slice 23, 1, 24, [.slice none 0 0]⟩),
  (44, ⟨.slice 52, 1, 24, [.slice none 0 0]⟩),
  (46, ⟨.struct [(0, 3), (1, 2), (2, 9)], 3, 32, [.int .i64 (0), .int .i64 (0), .string ⟨#[]⟩]⟩),
  (48, ⟨.struct [(0, 3), (1, 25), (3, 43), (4, 3), (5, 44), (6, 3), (7, 46)], 10, 120, [.int .i64 (0), .int .i64 (0), .int .i64 (0), .slice none 0 0, .int .i64 (0), .slice none 0 0, .int .i64 (0), .int .i64 (0), .int .i64 (0), .string ⟨#[]⟩]⟩),
  (50, ⟨.struct [(0, 48), (10, 3)], 11, 128, [.int .i64 (0), .int .i64 (0), .int .i64 (0), .slice none 0 0, .int .i64 (0), .slice none 0 0, .int .i64 (0), .int .i64 (0), .int .i64 (0), .string ⟨#[]⟩, .int .i64 (0)]⟩),
  (52, ⟨.struct [(0, 46), (3, 23)], 4, 56, [.int .i64 (0), .int .i64 (0), .string ⟨#[]⟩, .slice none 0 0]⟩),
  (59, ⟨.slice 69, 1, 24, [.slice none 0 0]⟩),
  (65, ⟨.slice 25, 1, 24, [.slice none 0 0]⟩),
  (69, ⟨.struct [(0, 25), (2, 23)], 3, 40, [.int .i64 (0), .int .i64 (0), .slice none 0 0]⟩),
  (106, ⟨.map 9 3, 1, 8, [.map none]⟩),
  (128, ⟨.slice 3, 1, 24, [.slice none 0 0]⟩),
  (136, ⟨.slice 9, 1, 24, [.slice none 0 0]⟩),
  (143, ⟨.int .u64, 1, 8, [.int .u64 (0)]⟩),
  (144, ⟨.slice 40, 1, 24, [.slice none 0 0]⟩)]
def plains : List (Nat × List TD) := [(25, [.int .i64, .int .i64]), (46, [.int .i64, .int .i64, .str])]
/-- What is known of the package variables. -/
def inv (w : World) : Prop := Lib.TabIs Tryz.prog w "internal/strconv.uint64pow10" .u64 Lib.pow10Tab ∧ (∃ m, w.cell? ⟨0, 0, none⟩ = some (.int .i64 m))
theorem var_same {n : String} {g : Nat} {w w' : World} (hg : Tryz.prog.globalNamed n = some g) (h : w'.heap[g]? = w.heap[g]?) : w'.var? Tryz.prog n = w.var? Tryz.prog n := by
  unfold World.var?; rw [hg]; simp only [Option.bind_some, h]
theorem inv_stable (w w' : World) (hi : inv w) (hb : ∀ b, b < 4 → w'.heap[b]? = w.heap[b]?) : inv w' := by
  obtain ⟨h1, ⟨m, h2⟩⟩ := hi
  refine ⟨(var_same (g := 1) (by kernel_rfl) (hb 1 (by omega))).trans h1, ⟨m, ?_⟩⟩
  rw [← h2]; exact World.cell?_of_block (a := ⟨0, 0, none⟩) (hb 0 (by omega))

/-- What is told of the program, but for callees and loops. -/
def base : Cx ty := { ti := fun T => infos.lookup T, dflt := fun _ => default, enc := fun T => (tabT codecs T).enc, dec := fun T => (tabT codecs T).dec, spec := fun _ => none, io := fun _ => [], eqs := fun T us vs => match plains.lookup T with | some ts => eqLits ts us vs | none => none, nt := 0, head := fun _ => [], out := fun _ _ => [], loops := fun _ => none, ng := 4, inv := inv }
theorem info2 : Tryz.prog.info? 2 = some Tryz.t2 := by kernel_rfl
theorem info3 : Tryz.prog.info? 3 = some Tryz.t3 := by kernel_rfl
theorem info4 : Tryz.prog.info? 4 = some Tryz.t4 := by kernel_rfl
theorem info5 : Tryz.prog.info? 5 = some Tryz.t5 := by kernel_rfl
theorem info9 : Tryz.prog.info? 9 = some Tryz.t9 := by kernel_rfl
theorem info22 : Tryz.prog.info? 22 = some Tryz.t22 := by kernel_rfl
theorem info23 : Tryz.prog.info? 23 = some Tryz.t23 := by kernel_rfl
theorem info25 : Tryz.prog.info? 25 = some Tryz.t25 := by kernel_rfl
theorem info28 : Tryz.prog.info? 28 = some Tryz.t28 := by kernel_rfl
theorem info40 : Tryz.prog.info? 40 = some Tryz.t40 := by kernel_rfl
theorem info42 : Tryz.prog.info? 42 = some Tryz.t42 := by kernel_rfl
theorem info43 : Tryz.prog.info? 43 = some Tryz.t43 := by kernel_rfl
theorem info44 : Tryz.prog.info? 44 = some Tryz.t44 := by kernel_rfl
theorem info46 : Tryz.prog.info? 46 = some Tryz.t46 := by kernel_rfl
theorem info48 : Tryz.prog.info? 48 = some Tryz.t48 := by kernel_rfl
theorem info50 : Tryz.prog.info? 50 = some Tryz.t50 := by kernel_rfl
theorem info52 : Tryz.prog.info? 52 = some Tryz.t52 := by kernel_rfl
theorem info59 : Tryz.prog.info? 59 = some Tryz.t59 := by kernel_rfl
theorem info65 : Tryz.prog.info? 65 = some Tryz.t65 := by kernel_rfl
theorem info69 : Tryz.prog.info? 69 = some Tryz.t69 := by kernel_rfl
theorem info106 : Tryz.prog.info? 106 = some Tryz.t106 := by kernel_rfl
theorem info128 : Tryz.prog.info? 128 = some Tryz.t128 := by kernel_rfl
theorem info136 : Tryz.prog.info? 136 = some Tryz.t136 := by kernel_rfl
theorem info143 : Tryz.prog.info? 143 = some Tryz.t143 := by kernel_rfl
theorem info144 : Tryz.prog.info? 144 = some Tryz.t144 := by kernel_rfl
theorem base_ti : ∀ T i, infos.lookup T = some i → InfoOK Tryz.prog T i := by
  intro T i h
  have h := mem_of_lookup _ _ _ h
  simp only [infos, List.mem_cons, List.not_mem_nil, or_false, Prod.mk.injEq] at h
  rcases h with ⟨rfl, rfl⟩ | ⟨rfl, rfl⟩ | ⟨rfl, rfl⟩ | ⟨rfl, rfl⟩ | ⟨rfl, rfl⟩ | ⟨rfl, rfl⟩ | ⟨rfl, rfl⟩ | ⟨rfl, rfl⟩ | ⟨rfl, rfl⟩ | ⟨rfl, rfl⟩ | ⟨rfl, rfl⟩ | ⟨rfl, rfl⟩ | ⟨rfl, rfl⟩ | ⟨rfl, rfl⟩ | ⟨rfl, rfl⟩ | ⟨rfl, rfl⟩ | ⟨rfl, rfl⟩ | ⟨rfl, rfl⟩ | ⟨rfl, rfl⟩ | ⟨rfl, rfl⟩ | ⟨rfl, rfl⟩ | ⟨rfl, rfl⟩ | ⟨rfl, rfl⟩ | ⟨rfl, rfl⟩ | ⟨rfl, rfl⟩
  · exact ⟨Tryz.t2, _, _, info2, Tryz.underlying2, rfl, rfl, rfl, rfl, rfl, ⟨by simp [oneCell], fun _ => rfl⟩, rfl⟩
  · exact ⟨Tryz.t3, _, _, info3, Tryz.underlying3, rfl, rfl, rfl, rfl, rfl, ⟨by simp [oneCell], fun _ => rfl⟩, rfl⟩
  · exact ⟨Tryz.t4, _, _, info4, Tryz.underlying4, rfl, rfl, rfl, rfl, rfl, ⟨by simp [oneCell], fun _ => rfl⟩, rfl⟩
  · exact ⟨Tryz.t5, _, _, info5, Tryz.underlying5, rfl, rfl, rfl, rfl, rfl, ⟨by simp [oneCell], fun _ => rfl⟩, rfl⟩
  · exact ⟨Tryz.t9, _, _, info9, Tryz.underlying9, rfl, rfl, rfl, rfl, rfl, ⟨by simp [oneCell], fun _ => rfl⟩, rfl⟩
  · exact ⟨Tryz.t22, _, _, info22, Tryz.underlying22, rfl, rfl, rfl, rfl, rfl, ⟨by simp [oneCell], fun _ => rfl⟩, rfl⟩
  · exact ⟨Tryz.t23, _, _, info23, Tryz.underlying23, rfl, rfl, rfl, rfl, rfl, ⟨by simp [oneCell], fun _ => rfl⟩, rfl⟩
  · exact ⟨Tryz.t25, _, _, info25, Tryz.underlying25, rfl, rfl, rfl, rfl, rfl, ⟨by simp [oneCell], fun h => by cases h⟩, ⟨_, rfl, rfl, fun f hf => by
      simp only [List.mem_cons, List.not_mem_nil, or_false] at hf
      rcases hf with rfl | rfl
      · exact Option.isSome_iff_exists.2 ⟨_, info3⟩
      · exact Option.isSome_iff_exists.2 ⟨_, info3⟩⟩⟩
  · exact ⟨Tryz.t28, _, _, info28, Tryz.underlying28, rfl, rfl, rfl, rfl, rfl, ⟨by simp [oneCell], fun _ => rfl⟩, rfl⟩
  · exact ⟨Tryz.t40, _, _, info40, Tryz.underlying40, rfl, rfl, rfl, rfl, rfl, ⟨by simp [oneCell], fun _ => rfl⟩, rfl⟩
  · exact ⟨Tryz.t42, _, _, info42, Tryz.underlying42, rfl, rfl, rfl, rfl, rfl, ⟨by simp [oneCell], fun h => by cases h⟩, ⟨_, rfl, rfl, fun f hf => by
      simp only [List.mem_cons, List.not_mem_nil, or_false] at hf
      rcases hf with rfl | rfl
      · exact Option.isSome_iff_exists.2 ⟨_, info2⟩
      · exact Option.isSome_iff_exists.2 ⟨_, info40⟩⟩⟩
  · exact ⟨Tryz.t43, _, _, info43, Tryz.underlying43, rfl, rfl, rfl, rfl, rfl, ⟨by simp [oneCell], fun _ => rfl⟩, rfl⟩
  · exact ⟨Tryz.t44, _, _, info44, Tryz.underlying44, rfl, rfl, rfl, rfl, rfl, ⟨by simp [oneCell], fun _ => rfl⟩, rfl⟩
  · exact ⟨Tryz.t46, _, _, info46, Tryz.underlying46, rfl, rfl, rfl, rfl, rfl, ⟨by simp [oneCell], fun h => by cases h⟩, ⟨_, rfl, rfl, fun f hf => by
      simp only [List.mem_cons, List.not_mem_nil, or_false] at hf
      rcases hf with rfl | rfl | rfl
      · exact Option.isSome_iff_exists.2 ⟨_, info3⟩
      · exact Option.isSome_iff_exists.2 ⟨_, info2⟩
      · exact Option.isSome_iff_exists.2 ⟨_, info9⟩⟩⟩
  · exact ⟨Tryz.t48, _, _, info48, Tryz.underlying48, rfl, rfl, rfl, rfl, rfl, ⟨by simp [oneCell], fun h => by cases h⟩, ⟨_, rfl, rfl, fun f hf => by
      simp only [List.mem_cons, List.not_mem_nil, or_false] at hf
      rcases hf with rfl | rfl | rfl | rfl | rfl | rfl | rfl
      · exact Option.isSome_iff_exists.2 ⟨_, info3⟩
      · exact Option.isSome_iff_exists.2 ⟨_, info25⟩
      · exact Option.isSome_iff_exists.2 ⟨_, info43⟩
      · exact Option.isSome_iff_exists.2 ⟨_, info3⟩
      · exact Option.isSome_iff_exists.2 ⟨_, info44⟩
      · exact Option.isSome_iff_exists.2 ⟨_, info3⟩
      · exact Option.isSome_iff_exists.2 ⟨_, info46⟩⟩⟩
  · exact ⟨Tryz.t50, _, _, info50, Tryz.underlying50, rfl, rfl, rfl, rfl, rfl, ⟨by simp [oneCell], fun h => by cases h⟩, ⟨_, rfl, rfl, fun f hf => by
      simp only [List.mem_cons, List.not_mem_nil, or_false] at hf
      rcases hf with rfl | rfl
      · exact Option.isSome_iff_exists.2 ⟨_, info48⟩
      · exact Option.isSome_iff_exists.2 ⟨_, info3⟩⟩⟩
  · exact ⟨Tryz.t52, _, _, info52, Tryz.underlying52, rfl, rfl, rfl, rfl, rfl, ⟨by simp [oneCell], fun h => by cases h⟩, ⟨_, rfl, rfl, fun f hf => by
      simp only [List.mem_cons, List.not_mem_nil, or_false] at hf
      rcases hf with rfl | rfl
      · exact Option.isSome_iff_exists.2 ⟨_, info46⟩
      · exact Option.isSome_iff_exists.2 ⟨_, info23⟩⟩⟩
  · exact ⟨Tryz.t59, _, _, info59, Tryz.underlying59, rfl, rfl, rfl, rfl, rfl, ⟨by simp [oneCell], fun _ => rfl⟩, rfl⟩
  · exact ⟨Tryz.t65, _, _, info65, Tryz.underlying65, rfl, rfl, rfl, rfl, rfl, ⟨by simp [oneCell], fun _ => rfl⟩, rfl⟩
  · exact ⟨Tryz.t69, _, _, info69, Tryz.underlying69, rfl, rfl, rfl, rfl, rfl, ⟨by simp [oneCell], fun h => by cases h⟩, ⟨_, rfl, rfl, fun f hf => by
      simp only [List.mem_cons, List.not_mem_nil, or_false] at hf
      rcases hf with rfl | rfl
      · exact Option.isSome_iff_exists.2 ⟨_, info25⟩
      · exact Option.isSome_iff_exists.2 ⟨_, info23⟩⟩⟩
  · exact ⟨Tryz.t106, _, _, info106, Tryz.underlying106, rfl, rfl, rfl, rfl, rfl, ⟨by simp [oneCell], fun _ => rfl⟩, rfl⟩
  · exact ⟨Tryz.t128, _, _, info128, Tryz.underlying128, rfl, rfl, rfl, rfl, rfl, ⟨by simp [oneCell], fun _ => rfl⟩, rfl⟩
  · exact ⟨Tryz.t136, _, _, info136, Tryz.underlying136, rfl, rfl, rfl, rfl, rfl, ⟨by simp [oneCell], fun _ => rfl⟩, rfl⟩
  · exact ⟨Tryz.t143, _, _, info143, Tryz.underlying143, rfl, rfl, rfl, rfl, rfl, ⟨by simp [oneCell], fun _ => rfl⟩, rfl⟩
  · exact ⟨Tryz.t144, _, _, info144, Tryz.underlying144, rfl, rfl, rfl, rfl, rfl, ⟨by simp [oneCell], fun _ => rfl⟩, rfl⟩
theorem base_eqs : ∀ T us vs b, (match plains.lookup T with | some ts => eqLits ts us vs | none => none) = some b → ∀ w, (binOp .eql T (.agg us.toArray) (.agg vs.toArray)).run Tryz.prog w = .ok (.bool b) w ∧ (binOp .neq T (.agg us.toArray) (.agg vs.toArray)).run Tryz.prog w = .ok (.bool (!b)) w ∧
    ∀ op x y, (eqGuard op T x y (.agg us.toArray) (.agg vs.toArray)).run Tryz.prog w = .ok () w := by
  intro T us vs b h w
  split at h
  · rename_i ts hl
    have hl := mem_of_lookup _ _ _ hl
    simp only [plains, List.mem_cons, List.not_mem_nil, or_false, Prod.mk.injEq] at hl
    rcases hl with ⟨rfl, rfl⟩ | ⟨rfl, rfl⟩
    · refine eqs_struct _ _ Tryz.underlying25 (by kernel_rfl) (by kernel_rfl) rfl ?_ h w
      intro j f t hj ht
      rcases j with _ | j
      · simp at hj ht; subst hj ht; exact ⟨rfl, by decide, _, Tryz.underlying3, rfl⟩
      rcases j with _ | j
      · simp at hj ht; subst hj ht; exact ⟨rfl, by decide, _, Tryz.underlying3, rfl⟩
      simp at hj
    · refine eqs_struct _ _ Tryz.underlying46 (by kernel_rfl) (by kernel_rfl) rfl ?_ h w
      intro j f t hj ht
      rcases j with _ | j
      · simp at hj ht; subst hj ht; exact ⟨rfl, by decide, _, Tryz.underlying3, rfl⟩
      rcases j with _ | j
      · simp at hj ht; subst hj ht; exact ⟨rfl, by decide, _, Tryz.underlying2, rfl⟩
      rcases j with _ | j
      · simp at hj ht; subst hj ht; exact ⟨rfl, by decide, _, Tryz.underlying9, rfl⟩
      simp at hj
  · cases h
theorem base_ok : CxOK Tryz.prog base := ⟨base_ti, fun T x => by rw [show szOf base T = _ from (tab_size codecs infos rfl T).symm]; exact DT.len _ x, fun T x c h => by have := DT.cell _ _ c h; revert this; cases c <;> exact id, fun T cs x h F w us hr => DT.ok _ base F w us cs x h hr, base_eqs, inv_stable⟩
def base0 : Cx ty := { base with dr := false }
theorem base0_ok : CxOK Tryz.prog base0 := CxOK.cg (cx := base) (cx' := base0) ⟨rfl, rfl, rfl, rfl, rfl, rfl⟩ base_ok
theorem draws : Tryz.prog.follows .mixedOrders = true := by kernel_rfl
end Go.Proofs.YtnolcogncjijpaaGreatDoor
/- What is read of an argument, as typed data. -/
namespace Go.Proofs.YtnolcogncjijpaaGreatDoor
open Go Go.Ab
def wf2 (x : Int) : Prop := (Lit.int .i64 x).wf = true
def wf3 (x : Int) : Prop := (Lit.int .i64 x).wf = true
def wf4 (x : Bool) : Prop := True
def wf5 (x : Int) : Prop := (Lit.int .u8 x).wf = true
def wf9 (x : ByteArray) : Prop := ByteArray.size x ≤ roomLen
def wf25 (x : RowID) : Prop := wf3 x.Table ∧ wf3 x.Seq
def wf46 (x : Value) : Prop := wf3 x.Kind ∧ wf2 x.Int ∧ wf9 x.Text
mutual
def wfAtom : Atom → Prop
  | ⟨k, r, a, f, i, o, b⟩ => wf3 k ∧ wf25 r ∧ (wfAnns a ∧ a.length ≤ roomLen) ∧ wf3 f ∧ (wfItems i ∧ i.length ≤ roomLen) ∧ wf3 o ∧ wf46 b
def wfFactor : Factor → Prop
  | ⟨a, e⟩ => wfAtom a ∧ wf3 e
def wfFactors : List Factor → Prop
  | [] => True
  | x :: r => wfFactor x ∧ wfFactors r
def wfTerm : Term → Prop
  | ⟨c, f⟩ => wf2 c ∧ (wfFactors f ∧ f.length ≤ roomLen)
def wfAnn : List Term → Prop
  | [] => True
  | x :: r => wfTerm x ∧ wfAnn r
def wfAnns : List (List Term) → Prop
  | [] => True
  | x :: r => (wfAnn x ∧ x.length ≤ roomLen) ∧ wfAnns r
def wfItem : Weighted → Prop
  | ⟨v, a⟩ => wf46 v ∧ (wfAnn a ∧ a.length ≤ roomLen)
def wfItems : List Weighted → Prop
  | [] => True
  | x :: r => wfItem x ∧ wfItems r
end
theorem wfFactors_of : ∀ l : List Factor, (∀ x ∈ l, wfFactor x) → wfFactors l
  | [], _ => by unfold wfFactors; trivial
  | x :: r, h => by unfold wfFactors; exact ⟨h x (by simp), wfFactors_of r fun y hy => h y (by simp [hy])⟩
theorem wfAnn_of : ∀ l : List Term, (∀ x ∈ l, wfTerm x) → wfAnn l
  | [], _ => by unfold wfAnn; trivial
  | x :: r, h => by unfold wfAnn; exact ⟨h x (by simp), wfAnn_of r fun y hy => h y (by simp [hy])⟩
theorem wfAnns_of : ∀ l : List (List Term), (∀ x ∈ l, wfAnn x ∧ x.length ≤ roomLen) → wfAnns l
  | [], _ => by unfold wfAnns; trivial
  | x :: r, h => by unfold wfAnns; exact ⟨h x (by simp), wfAnns_of r fun y hy => h y (by simp [hy])⟩
theorem wfItems_of : ∀ l : List Weighted, (∀ x ∈ l, wfItem x) → wfItems l
  | [], _ => by unfold wfItems; trivial
  | x :: r, h => by unfold wfItems; exact ⟨h x (by simp), wfItems_of r fun y hy => h y (by simp [hy])⟩

def wf23 (x : List Term) : Prop := wfAnn x ∧ List.length x ≤ roomLen
def wf40 (x : List Factor) : Prop := wfFactors x ∧ List.length x ≤ roomLen
def wf42 (x : Term) : Prop := wfTerm x
def wf43 (x : List (List Term)) : Prop := wfAnns x ∧ List.length x ≤ roomLen
def wf44 (x : List Weighted) : Prop := wfItems x ∧ List.length x ≤ roomLen
def wf48 (x : Atom) : Prop := wfAtom x
def wf50 (x : Factor) : Prop := wfFactor x
def wf52 (x : Weighted) : Prop := wfItem x
def wf69 (x : Binding) : Prop := wf25 x.Row ∧ wf23 x.To
def wf59 (x : List Binding) : Prop := (∀ y ∈ x, wf69 y) ∧ List.length x ≤ roomLen
def wf (T : Nat) : ty T → Prop := match T with
  | 2 => wf2
  | 3 => wf3
  | 4 => wf4
  | 5 => wf5
  | 9 => wf9
  | 23 => wf23
  | 25 => wf25
  | 40 => wf40
  | 42 => wf42
  | 43 => wf43
  | 44 => wf44
  | 46 => wf46
  | 48 => wf48
  | 50 => wf50
  | 52 => wf52
  | 59 => wf59
  | 69 => wf69
  | _ => fun _ => True
theorem reads2 : Reads Tryz.prog base wf 2 := reads_int Tryz.underlying2 (fun n => n) (fun _ => rfl) (fun _ h => h)
theorem reads3 : Reads Tryz.prog base wf 3 := reads_int Tryz.underlying3 (fun n => n) (fun _ => rfl) (fun _ h => h)
theorem reads4 : Reads Tryz.prog base wf 4 := reads_bool Tryz.underlying4 (fun n => n) (fun _ => rfl) (fun _ => trivial)
theorem reads5 : Reads Tryz.prog base wf 5 := reads_int Tryz.underlying5 (fun n => n) (fun _ => rfl) (fun _ h => h)
theorem reads9 : Reads Tryz.prog base wf 9 := reads_str Tryz.underlying9 (fun n => n) (fun _ => rfl) (fun _ h => h)
theorem reads25 : Reads Tryz.prog base wf 25 := by
  intro H en w sp held fuel cs y h hz
  obtain ⟨xs, n, _, hy, hl, hlen, hf⟩ := DataW.trod_struct Tryz.underlying25 h
  have hs := struct_weights Tryz.underlying25 hy hz
  obtain ⟨x0, h0, w0⟩ := field_reads (off := 0) reads3 (by kernel_rfl) hlen hf hs 0 _ rfl rfl rfl
  obtain ⟨x1, h1, w1⟩ := field_reads (off := 1) reads3 (by kernel_rfl) hlen hf hs 1 _ rfl rfl rfl
  have hl : cs.length = 2 := hl.trans (by kernel_rfl)
  have := all2_chunk h0 (all2_end h1 hl)
  exact ⟨(⟨x0, x1⟩ : RowID), this, ⟨w0, w1⟩⟩
theorem reads46 : Reads Tryz.prog base wf 46 := by
  intro H en w sp held fuel cs y h hz
  obtain ⟨xs, n, _, hy, hl, hlen, hf⟩ := DataW.trod_struct Tryz.underlying46 h
  have hs := struct_weights Tryz.underlying46 hy hz
  obtain ⟨x0, h0, w0⟩ := field_reads (off := 0) reads3 (by kernel_rfl) hlen hf hs 0 _ rfl rfl rfl
  obtain ⟨x1, h1, w1⟩ := field_reads (off := 1) reads2 (by kernel_rfl) hlen hf hs 1 _ rfl rfl rfl
  obtain ⟨x2, h2, w2⟩ := field_reads (off := 2) reads9 (by kernel_rfl) hlen hf hs 2 _ rfl rfl rfl
  have hl : cs.length = 3 := hl.trans (by kernel_rfl)
  have := all2_chunk h0 (all2_chunk h1 (all2_end h2 hl))
  exact ⟨(⟨x0, x1, x2⟩ : Value), this, ⟨w0, w1, w2⟩⟩
theorem readsRec : ∀ m, ReadsB Tryz.prog base wf m 23 ∧ ReadsB Tryz.prog base wf m 40 ∧ ReadsB Tryz.prog base wf m 42 ∧ ReadsB Tryz.prog base wf m 43 ∧ ReadsB Tryz.prog base wf m 44 ∧ ReadsB Tryz.prog base wf m 48 ∧ ReadsB Tryz.prog base wf m 50 ∧ ReadsB Tryz.prog base wf m 52
  | 0 => ⟨readsB_zero, readsB_zero, readsB_zero, readsB_zero, readsB_zero, readsB_zero, readsB_zero, readsB_zero⟩
  | m + 1 => by
    obtain ⟨h23, h40, h42, h43, h44, h48, h50, h52⟩ := readsRec m
    refine ⟨?_, ?_, ?_, ?_, ?_, ?_, ?_, ?_⟩
    · exact reads_sliceB base_ok Tryz.underlying23 (by kernel_rfl) (by decide) (fun l => l) (fun _ => rfl) (of_decide_eq_true (by kernel_rfl)) h42 (fun l h h2 => ⟨wfAnn_of l h, h2⟩)
    · exact reads_sliceB base_ok Tryz.underlying40 (by kernel_rfl) (by decide) (fun l => l) (fun _ => rfl) (of_decide_eq_true (by kernel_rfl)) h50 (fun l h h2 => ⟨wfFactors_of l h, h2⟩)
    · intro H en w sp held fuel cs y hfu h hz
      obtain ⟨xs, n, hn, hy, hl, hlen, hf⟩ := DataW.trod_struct Tryz.underlying42 h
      have hs := struct_weights Tryz.underlying42 hy hz
      have hn : n ≤ m := by omega
      obtain ⟨x0, hx0, w0⟩ := field_readsB (off := 0) (reads2.at m) (by kernel_rfl) hn hlen hf hs 0 _ rfl rfl rfl
      obtain ⟨x1, hx1, w1⟩ := field_readsB (off := 1) h40 (by kernel_rfl) hn hlen hf hs 1 _ rfl rfl rfl
      have hl : cs.length = 2 := hl.trans (by kernel_rfl)
      have := all2_chunk hx0 (all2_end hx1 hl)
      exact ⟨(⟨x0, x1⟩ : Term), this, by show wfTerm (⟨x0, x1⟩ : Term); unfold wfTerm; exact ⟨w0, w1⟩⟩
    · exact reads_sliceB base_ok Tryz.underlying43 (by kernel_rfl) (by decide) (fun l => l) (fun _ => rfl) (of_decide_eq_true (by kernel_rfl)) h23 (fun l h h2 => ⟨wfAnns_of l h, h2⟩)
    · exact reads_sliceB base_ok Tryz.underlying44 (by kernel_rfl) (by decide) (fun l => l) (fun _ => rfl) (of_decide_eq_true (by kernel_rfl)) h52 (fun l h h2 => ⟨wfItems_of l h, h2⟩)
    · intro H en w sp held fuel cs y hfu h hz
      obtain ⟨xs, n, hn, hy, hl, hlen, hf⟩ := DataW.trod_struct Tryz.underlying48 h
      have hs := struct_weights Tryz.underlying48 hy hz
      have hn : n ≤ m := by omega
      obtain ⟨x0, hx0, w0⟩ := field_readsB (off := 0) (reads3.at m) (by kernel_rfl) hn hlen hf hs 0 _ rfl rfl rfl
      obtain ⟨x1, hx1, w1⟩ := field_readsB (off := 1) (reads25.at m) (by kernel_rfl) hn hlen hf hs 1 _ rfl rfl rfl
      obtain ⟨x2, hx2, w2⟩ := field_readsB (off := 3) h43 (by kernel_rfl) hn hlen hf hs 2 _ rfl rfl rfl
      obtain ⟨x3, hx3, w3⟩ := field_readsB (off := 4) (reads3.at m) (by kernel_rfl) hn hlen hf hs 3 _ rfl rfl rfl
      obtain ⟨x4, hx4, w4⟩ := field_readsB (off := 5) h44 (by kernel_rfl) hn hlen hf hs 4 _ rfl rfl rfl
      obtain ⟨x5, hx5, w5⟩ := field_readsB (off := 6) (reads3.at m) (by kernel_rfl) hn hlen hf hs 5 _ rfl rfl rfl
      obtain ⟨x6, hx6, w6⟩ := field_readsB (off := 7) (reads46.at m) (by kernel_rfl) hn hlen hf hs 6 _ rfl rfl rfl
      have hl : cs.length = 10 := hl.trans (by kernel_rfl)
      have := all2_chunk hx0 (all2_chunk hx1 (all2_chunk hx2 (all2_chunk hx3 (all2_chunk hx4 (all2_chunk hx5 (all2_end hx6 hl))))))
      exact ⟨(⟨x0, x1, x2, x3, x4, x5, x6⟩ : Atom), this, by show wfAtom (⟨x0, x1, x2, x3, x4, x5, x6⟩ : Atom); unfold wfAtom; exact ⟨w0, w1, w2, w3, w4, w5, w6⟩⟩
    · intro H en w sp held fuel cs y hfu h hz
      obtain ⟨xs, n, hn, hy, hl, hlen, hf⟩ := DataW.trod_struct Tryz.underlying50 h
      have hs := struct_weights Tryz.underlying50 hy hz
      have hn : n ≤ m := by omega
      obtain ⟨x0, hx0, w0⟩ := field_readsB (off := 0) h48 (by kernel_rfl) hn hlen hf hs 0 _ rfl rfl rfl
      obtain ⟨x1, hx1, w1⟩ := field_readsB (off := 10) (reads3.at m) (by kernel_rfl) hn hlen hf hs 1 _ rfl rfl rfl
      have hl : cs.length = 11 := hl.trans (by kernel_rfl)
      have := all2_chunk hx0 (all2_end hx1 hl)
      exact ⟨(⟨x0, x1⟩ : Factor), this, by show wfFactor (⟨x0, x1⟩ : Factor); unfold wfFactor; exact ⟨w0, w1⟩⟩
    · intro H en w sp held fuel cs y hfu h hz
      obtain ⟨xs, n, hn, hy, hl, hlen, hf⟩ := DataW.trod_struct Tryz.underlying52 h
      have hs := struct_weights Tryz.underlying52 hy hz
      have hn : n ≤ m := by omega
      obtain ⟨x0, hx0, w0⟩ := field_readsB (off := 0) (reads46.at m) (by kernel_rfl) hn hlen hf hs 0 _ rfl rfl rfl
      obtain ⟨x1, hx1, w1⟩ := field_readsB (off := 3) h23 (by kernel_rfl) hn hlen hf hs 1 _ rfl rfl rfl
      have hl : cs.length = 4 := hl.trans (by kernel_rfl)
      have := all2_chunk hx0 (all2_end hx1 hl)
      exact ⟨(⟨x0, x1⟩ : Weighted), this, by show wfItem (⟨x0, x1⟩ : Weighted); unfold wfItem; exact ⟨w0, w1⟩⟩
theorem reads23 : Reads Tryz.prog base wf 23 := reads_all fun m => (readsRec m).1
theorem reads40 : Reads Tryz.prog base wf 40 := reads_all fun m => (readsRec m).2.1
theorem reads42 : Reads Tryz.prog base wf 42 := reads_all fun m => (readsRec m).2.2.1
theorem reads43 : Reads Tryz.prog base wf 43 := reads_all fun m => (readsRec m).2.2.2.1
theorem reads44 : Reads Tryz.prog base wf 44 := reads_all fun m => (readsRec m).2.2.2.2.1
theorem reads48 : Reads Tryz.prog base wf 48 := reads_all fun m => (readsRec m).2.2.2.2.2.1
theorem reads50 : Reads Tryz.prog base wf 50 := reads_all fun m => (readsRec m).2.2.2.2.2.2.1
theorem reads52 : Reads Tryz.prog base wf 52 := reads_all fun m => (readsRec m).2.2.2.2.2.2.2
theorem reads69 : Reads Tryz.prog base wf 69 := by
  intro H en w sp held fuel cs y h hz
  obtain ⟨xs, n, _, hy, hl, hlen, hf⟩ := DataW.trod_struct Tryz.underlying69 h
  have hs := struct_weights Tryz.underlying69 hy hz
  obtain ⟨x0, h0, w0⟩ := field_reads (off := 0) reads25 (by kernel_rfl) hlen hf hs 0 _ rfl rfl rfl
  obtain ⟨x1, h1, w1⟩ := field_reads (off := 2) reads23 (by kernel_rfl) hlen hf hs 1 _ rfl rfl rfl
  have hl : cs.length = 3 := hl.trans (by kernel_rfl)
  have := all2_chunk h0 (all2_end h1 hl)
  exact ⟨(⟨x0, x1⟩ : Binding), this, ⟨w0, w1⟩⟩
theorem reads59 : Reads Tryz.prog base wf 59 := reads_slice base_ok Tryz.underlying59 (by kernel_rfl) (by decide) (fun l => l) (fun _ => rfl) (of_decide_eq_true (by kernel_rfl)) reads69 (fun _ h h2 => ⟨h, h2⟩)
end Go.Proofs.YtnolcogncjijpaaGreatDoor
/- A world in which the row's condition holds; what the program's rows share. -/
namespace Go.Proofs.YtnolcogncjijpaaGreatDoor
open Go Go.Ab Go.Lib
theorem own : ownKnob Tryz.prog.godebug = none := by kernel_rfl
theorem laidOut : laidOutB Tryz.prog = true := by kernel_rfl
def litOf : DataW Unit → Go.Value
  | .lit (.int k n) => .int k n
  | .lit (.bool b) => .bool b
  | .lit (.string s) => .string ⟨s.toArray⟩
  | _ => undef
def cellsF : Nat → DataW Unit → List Go.Value
  | n + 1, .agg ds => ds.flatMap (cellsF n)
  | _, d => [litOf d]
def cellsOf (d : DataW Unit) : Array Go.Value := (cellsF 3 d).toArray
def layAt (h : Array Obj) (g : Nat) (cs : Array Go.Value) : Array Obj := h.modify g fun
  | .cells _ t fr => .cells cs t fr
  | o => o
noncomputable def laidWorld (os : Os) : World :=
  let w0 := World.holding Tryz.prog os ⟨#[], #[], []⟩
  { w0 with heap := layAt (layAt (layAt (layAt (layAt (w0.heap) 2 (cellsOf Rows.laid_math_bits_deBruijn32tab)) 3 (cellsOf Rows.laid_math_bits_deBruijn64tab)) 1 (cellsOf Rows.laid_internal_strconv_uint64pow10)) 5 (cellsOf Rows.laid_unicode_utf8_acceptRanges)) 4 (cellsOf Rows.laid_unicode_utf8_first) }
def laidAll : List (String × DataW Unit) := [("math/bits.deBruijn32tab", Rows.laid_math_bits_deBruijn32tab), ("math/bits.deBruijn64tab", Rows.laid_math_bits_deBruijn64tab), ("internal/strconv.uint64pow10", Rows.laid_internal_strconv_uint64pow10), ("unicode/utf8.acceptRanges", Rows.laid_unicode_utf8_acceptRanges), ("unicode/utf8.first", Rows.laid_unicode_utf8_first)]
theorem laidWorld_met (os : Os) (args : Array Go.Value) : laidMetH Tryz.prog laidAll ((laidWorld os).forCall (fun _ _ => 0) ⟨#[], args, []⟩).memory :=
  laidMetH_of_parts (laidMet_of_run3 8 (by kernel_rfl) (by kernel_rfl) (by kernel_rfl)) (by kernel_rfl)
theorem laidPlain {w : World} (h : laidMetH Tryz.prog laidAll w) : laidMet Tryz.prog laidAll w := by
  unfold laidMetH at h
  rw [show (laidAll.filter fun x => x.2.handleName?.isSome) = [] by kernel_rfl] at h
  exact h
theorem invMet (w : World) (hsh : w.ShapedOpen Tryz.prog) (h : laidMetH Tryz.prog laidAll w) : base.inv w ∧ base.ng ≤ w.heap.size := by
  have h := laidPlain h
  have h1 : TabIs Tryz.prog w "internal/strconv.uint64pow10" .u64 pow10Tab :=
    tabIs_of_head (g := 1) (by kernel_rfl) (by kernel_rfl) Tryz.underlying199 Tryz.underlying178 (by kernel_rfl) (by kernel_rfl) h.tail.tail
  have h4 := cell_of_shapedOpen_int (g := 0) (t := 3) (zero := #[.int .i64 0]) hsh (of_decide_eq_true (by kernel_rfl)) (by kernel_rfl) rfl (by kernel_rfl) (by kernel_rfl) Tryz.underlying3
  obtain ⟨ps, ⟨g', t', cs, fuel, p, q, hg', _, hvar, _⟩, _⟩ := h.tail
  refine ⟨⟨h1, h4⟩, ?_⟩
  unfold World.var? at hvar
  rw [show Tryz.prog.globalNamed "math/bits.deBruijn64tab" = some 3 by kernel_rfl] at hvar
  simp only [Option.bind_some] at hvar
  show 4 ≤ w.heap.size
  cases hh : w.heap[3]? with
  | none => rw [hh] at hvar; cases hvar
  | some o => exact (Array.getElem?_eq_some_iff.1 hh).1
end Go.Proofs.YtnolcogncjijpaaGreatDoor
namespace Go.Proofs.YtnolcogncjijpaaGreatDoor
open Go Go.Ab
/-! ### lineage/annotation.Compare -/
noncomputable def annotation_Compare_res (r : Int) : ARes ty := ⟨[.pure (.lit (.int .i64 r))], []⟩
noncomputable def annotation_Compare_A : AL base (List Term × List Term × Unit) := aCons (aPure (vSl 42)) (aCons (aPure (vSl 42)) aNil)
noncomputable def annotation_Compare_S (F : List Term → List Term → Bool × Int) : Ab.Spec ty := mkSpec annotation_Compare_A fun x => ((F x.1 x.2.1).1, annotation_Compare_res (F x.1 x.2.1).2)
/-! ### lineage/annotation.Compare literal 1 -/
noncomputable def annotation_Compare_c1_res (r : Int) : ARes ty := ⟨[.pure (.lit (.int .i64 r))], []⟩
noncomputable def annotation_Compare_c1_A : AL base (Term × Term × Unit) := aCons (aPure (vAgg 42)) (aCons (aPure (vAgg 42)) aNil)
noncomputable def annotation_Compare_c1_S (F : Term → Term → Bool × Int) : Ab.Spec ty := mkSpec annotation_Compare_c1_A fun x => ((F x.1 x.2.1).1, annotation_Compare_c1_res (F x.1 x.2.1).2)
/-! ### lineage/annotation.compareLists -/
noncomputable def annotation_compareLists_res (r : Int) : ARes ty := ⟨[.pure (.lit (.int .i64 r))], []⟩
noncomputable def annotation_compareLists_A : AL base (Term × Term × Unit) := aCons (aPure (vAgg 42)) (aCons (aPure (vAgg 42)) aNil)
noncomputable def annotation_compareLists_S (F : Term → Term → Bool × Int) : Ab.Spec ty := mkSpec annotation_compareLists_A fun x => ((F x.1 x.2.1).1, annotation_compareLists_res (F x.1 x.2.1).2)
/-! ### lineage/annotation.compareFactors -/
noncomputable def annotation_compareFactors_res (r : Int) : ARes ty := ⟨[.pure (.lit (.int .i64 r))], []⟩
noncomputable def annotation_compareFactors_A : AL base (Factor × Factor × Unit) := aCons (aPure (vAgg 50)) (aCons (aPure (vAgg 50)) aNil)
noncomputable def annotation_compareFactors_S (F : Factor → Factor → Bool × Int) : Ab.Spec ty := mkSpec annotation_compareFactors_A fun x => ((F x.1 x.2.1).1, annotation_compareFactors_res (F x.1 x.2.1).2)
/-! ### lineage/annotation.compareAtoms -/
noncomputable def annotation_compareAtoms_res (r : Int) : ARes ty := ⟨[.pure (.lit (.int .i64 r))], []⟩
noncomputable def annotation_compareAtoms_A : AL base (Atom × Atom × Unit) := aCons (aPure (vAgg 48)) (aCons (aPure (vAgg 48)) aNil)
noncomputable def annotation_compareAtoms_S (F : Atom → Atom → Bool × Int) : Ab.Spec ty := mkSpec annotation_compareAtoms_A fun x => ((F x.1 x.2.1).1, annotation_compareAtoms_res (F x.1 x.2.1).2)
/-! ### lineage/annotation.compareItems -/
noncomputable def annotation_compareItems_res (r : Int) : ARes ty := ⟨[.pure (.lit (.int .i64 r))], []⟩
noncomputable def annotation_compareItems_A : AL base (Weighted × Weighted × Unit) := aCons (aPure (vAgg 52)) (aCons (aPure (vAgg 52)) aNil)
noncomputable def annotation_compareItems_S (F : Weighted → Weighted → Bool × Int) : Ab.Spec ty := mkSpec annotation_compareItems_A fun x => ((F x.1 x.2.1).1, annotation_compareItems_res (F x.1 x.2.1).2)
/-! ### slices.CompareFunc[lineage/api.Annotation,lineage/api.Annotation,lineage/api.Term,lineage/api.Term] -/
noncomputable def slices_CompareFunc_api_Annotation_api_Annotation_api_Term_api_Term_res (r : Int) : ARes ty := ⟨[.pure (.lit (.int .i64 r))], []⟩
noncomputable def slices_CompareFunc_api_Annotation_api_Annotation_api_Term_api_Term_A : AL base (List Term × List Term × Unit × Unit) := aCons (aPure (vSl 42)) (aCons (aPure (vSl 42)) (aCons (aPure (vFn 87 vNil)) aNil))
noncomputable def slices_CompareFunc_api_Annotation_api_Annotation_api_Term_api_Term_S (F : List Term → List Term → Bool × Int) : Ab.Spec ty := mkSpec slices_CompareFunc_api_Annotation_api_Annotation_api_Term_api_Term_A fun x => ((F x.1 x.2.1).1, slices_CompareFunc_api_Annotation_api_Annotation_api_Term_api_Term_res (F x.1 x.2.1).2)
/-! ### slices.CompareFunc[[]lineage/api.Factor,[]lineage/api.Factor,lineage/api.Factor,lineage/api.Factor] -/
noncomputable def slices_CompareFunc_Lapi_Factor_Lapi_Factor_api_Factor_api_Factor_res (r : Int) : ARes ty := ⟨[.pure (.lit (.int .i64 r))], []⟩
noncomputable def slices_CompareFunc_Lapi_Factor_Lapi_Factor_api_Factor_api_Factor_A : AL base (List Factor × List Factor × Unit × Unit) := aCons (aPure (vSl 50)) (aCons (aPure (vSl 50)) (aCons (aPure (vFn 124 vNil)) aNil))
noncomputable def slices_CompareFunc_Lapi_Factor_Lapi_Factor_api_Factor_api_Factor_S (F : List Factor → List Factor → Bool × Int) : Ab.Spec ty := mkSpec slices_CompareFunc_Lapi_Factor_Lapi_Factor_api_Factor_api_Factor_A fun x => ((F x.1 x.2.1).1, slices_CompareFunc_Lapi_Factor_Lapi_Factor_api_Factor_api_Factor_res (F x.1 x.2.1).2)
/-! ### slices.CompareFunc[[]lineage/api.Annotation,[]lineage/api.Annotation,lineage/api.Annotation,lineage/api.Annotation] -/
noncomputable def slices_CompareFunc_Lapi_Annotation_Lapi_Annotation_api_Annotation_api_Annotation_res (r : Int) : ARes ty := ⟨[.pure (.lit (.int .i64 r))], []⟩
noncomputable def slices_CompareFunc_Lapi_Annotation_Lapi_Annotation_api_Annotation_api_Annotation_A : AL base (List (List Term) × List (List Term) × Unit × Unit) := aCons (aPure (vSl 23)) (aCons (aPure (vSl 23)) (aCons (aPure (vFn 38 vNil)) aNil))
noncomputable def slices_CompareFunc_Lapi_Annotation_Lapi_Annotation_api_Annotation_api_Annotation_S (F : List (List Term) → List (List Term) → Bool × Int) : Ab.Spec ty := mkSpec slices_CompareFunc_Lapi_Annotation_Lapi_Annotation_api_Annotation_api_Annotation_A fun x => ((F x.1 x.2.1).1, slices_CompareFunc_Lapi_Annotation_Lapi_Annotation_api_Annotation_api_Annotation_res (F x.1 x.2.1).2)
/-! ### slices.CompareFunc[[]lineage/api.Weighted,[]lineage/api.Weighted,lineage/api.Weighted,lineage/api.Weighted] -/
noncomputable def slices_CompareFunc_Lapi_Weighted_Lapi_Weighted_api_Weighted_api_Weighted_res (r : Int) : ARes ty := ⟨[.pure (.lit (.int .i64 r))], []⟩
noncomputable def slices_CompareFunc_Lapi_Weighted_Lapi_Weighted_api_Weighted_api_Weighted_A : AL base (List Weighted × List Weighted × Unit × Unit) := aCons (aPure (vSl 52)) (aCons (aPure (vSl 52)) (aCons (aPure (vFn 85 vNil)) aNil))
noncomputable def slices_CompareFunc_Lapi_Weighted_Lapi_Weighted_api_Weighted_api_Weighted_S (F : List Weighted → List Weighted → Bool × Int) : Ab.Spec ty := mkSpec slices_CompareFunc_Lapi_Weighted_Lapi_Weighted_api_Weighted_api_Weighted_A fun x => ((F x.1 x.2.1).1, slices_CompareFunc_Lapi_Weighted_Lapi_Weighted_api_Weighted_api_Weighted_res (F x.1 x.2.1).2)
end Go.Proofs.YtnolcogncjijpaaGreatDoor
namespace Go.Proofs.YtnolcogncjijpaaGreatDoor
open Go Go.Ab
/-! ### lineage/annotation.Compare -/
noncomputable def annotation_Compare_b_cx (g_slices_CompareFunc_api_Annotation_api_Annotation_api_Term_api_Term : List Term → List Term → Bool × Int) (g_annotation_Compare_c1 : Term → Term → Bool × Int) : Cx ty := mkCx base 8 [(86, (slices_CompareFunc_api_Annotation_api_Annotation_api_Term_api_Term_S g_slices_CompareFunc_api_Annotation_api_Annotation_api_Term_api_Term)), (87, (annotation_Compare_c1_S g_annotation_Compare_c1))] [] [] [] [] []
noncomputable def annotation_Compare_b_W (g_slices_CompareFunc_api_Annotation_api_Annotation_api_Term_api_Term : List Term → List Term → Bool × Int) (g_annotation_Compare_c1 : Term → Term → Bool × Int) (a : List Term) (b : List Term) : Wy0 (Int) := .bn (g_slices_CompareFunc_api_Annotation_api_Annotation_api_Term_api_Term a b) fun r0 => .k r0
noncomputable def annotation_Compare_b (g_slices_CompareFunc_api_Annotation_api_Annotation_api_Term_api_Term : List Term → List Term → Bool × Int) (g_annotation_Compare_c1 : Term → Term → Bool × Int) (a : List Term) (b : List Term) : Bool × Int := (annotation_Compare_b_W g_slices_CompareFunc_api_Annotation_api_Annotation_api_Term_api_Term g_annotation_Compare_c1 a b).fin default
theorem annotation_Compare_b_sound (g_slices_CompareFunc_api_Annotation_api_Annotation_api_Term_api_Term : List Term → List Term → Bool × Int) (g_annotation_Compare_c1 : Term → Term → Bool × Int) (h_g_slices_CompareFunc_api_Annotation_api_Annotation_api_Term_api_Term : Sound Tryz.prog base 86 (slices_CompareFunc_api_Annotation_api_Annotation_api_Term_api_Term_S g_slices_CompareFunc_api_Annotation_api_Annotation_api_Term_api_Term)) (h_g_annotation_Compare_c1 : Sound Tryz.prog base 87 (annotation_Compare_c1_S g_annotation_Compare_c1)) : Sound Tryz.prog base 38 (annotation_Compare_S (annotation_Compare_b g_slices_CompareFunc_api_Annotation_api_Annotation_api_Term_api_Term g_annotation_Compare_c1)) :=
  sound_W (cx' := (annotation_Compare_b_cx g_slices_CompareFunc_api_Annotation_api_Annotation_api_Term_api_Term g_annotation_Compare_c1)) draws base_ok mkSame (mkSpecs ⟨(h_g_slices_CompareFunc_api_Annotation_api_Annotation_api_Term_api_Term), (h_g_annotation_Compare_c1), trivial⟩) Tryz.call38 Tryz.func38 (c := body Tryz.f38) (by kernel_rfl) (loopsOK_of (l := []) (by kernel_rfl) trivial) (sg := ⟨[.pure], []⟩) (A := annotation_Compare_A) (res := annotation_Compare_res) (W := fun x => annotation_Compare_b_W g_slices_CompareFunc_api_Annotation_api_Annotation_api_Term_api_Term g_annotation_Compare_c1 x.1 x.2.1) (z := default) (fun x => by kernel_rfl) (fun _ => by kernel_rfl)
end Go.Proofs.YtnolcogncjijpaaGreatDoor
namespace Go.Proofs.YtnolcogncjijpaaGreatDoor
open Go Go.Ab
/-! ### cmp.isNaN[int64] -/
noncomputable def cmp_isNaN_int64_cx : Cx ty := mkCx base 6 [] [] [] [] [] []
noncomputable def cmp_isNaN_int64_W (x_ : Int) : Wy0 (Bool) := .k (x_ != x_)
noncomputable def cmp_isNaN_int64 (x_ : Int) : Bool × Bool := (cmp_isNaN_int64_W x_).fin default
noncomputable def cmp_isNaN_int64_res (r : Bool) : ARes ty := ⟨[.pure (.lit (.bool r))], []⟩
noncomputable def cmp_isNaN_int64_A : AL base (Int × Unit) := aCons (aPure (vInt .i64)) aNil
noncomputable def cmp_isNaN_int64_spec : Ab.Spec ty := mkSpec cmp_isNaN_int64_A fun x => ((cmp_isNaN_int64 x.1).1, cmp_isNaN_int64_res (cmp_isNaN_int64 x.1).2)
theorem cmp_isNaN_int64_sound : Sound Tryz.prog base 136 cmp_isNaN_int64_spec :=
  sound_W (cx' := cmp_isNaN_int64_cx) draws base_ok mkSame (mkSpecs trivial) Tryz.call136 Tryz.func136 (c := body Tryz.f136) (by kernel_rfl) (loopsOK_of (l := []) (by kernel_rfl) trivial) (sg := ⟨[.pure], []⟩) (A := cmp_isNaN_int64_A) (res := cmp_isNaN_int64_res) (W := fun x => cmp_isNaN_int64_W x.1) (z := default) (fun x => by kernel_rfl) (fun _ => by kernel_rfl)
end Go.Proofs.YtnolcogncjijpaaGreatDoor
namespace Go.Proofs.YtnolcogncjijpaaGreatDoor
open Go Go.Ab
/-! ### cmp.Compare[int64] -/
noncomputable def cmp_Compare_int64_cx : Cx ty := mkCx base 20 [(136, cmp_isNaN_int64_spec)] [] [] [] [] []
noncomputable def cmp_Compare_int64_W (x_ : Int) (y_ : Int) : Wy0 (Int) := .i ((cmp_isNaN_int64 x_).snd) (.i ((cmp_isNaN_int64 y_).snd) (.k (0 : Int)) (.k (-1 : Int))) (.i ((cmp_isNaN_int64 y_).snd) (.k (1 : Int)) (.i (decide (x_ < y_)) (.k (-1 : Int)) (.i (decide (x_ > y_)) (.k (1 : Int)) (.k (0 : Int)))))
noncomputable def cmp_Compare_int64 (x_ : Int) (y_ : Int) : Bool × Int := (cmp_Compare_int64_W x_ y_).fin default
noncomputable def cmp_Compare_int64_res (r : Int) : ARes ty := ⟨[.pure (.lit (.int .i64 r))], []⟩
noncomputable def cmp_Compare_int64_A : AL base (Int × Int × Unit) := aCons (aPure (vInt .i64)) (aCons (aPure (vInt .i64)) aNil)
noncomputable def cmp_Compare_int64_spec : Ab.Spec ty := mkSpec cmp_Compare_int64_A fun x => ((cmp_Compare_int64 x.1 x.2.1).1, cmp_Compare_int64_res (cmp_Compare_int64 x.1 x.2.1).2)
theorem cmp_Compare_int64_sound : Sound Tryz.prog base 79 cmp_Compare_int64_spec :=
  sound_W (cx' := cmp_Compare_int64_cx) draws base_ok mkSame (mkSpecs ⟨(cmp_isNaN_int64_sound), trivial⟩) Tryz.call79 Tryz.func79 (c := body Tryz.f79) (by kernel_rfl) (loopsOK_of (l := []) (by kernel_rfl) trivial) (sg := ⟨[.pure], []⟩) (A := cmp_Compare_int64_A) (res := cmp_Compare_int64_res) (W := fun x => cmp_Compare_int64_W x.1 x.2.1) (z := default) (fun x => by kernel_rfl) (fun _ => by kernel_rfl)
end Go.Proofs.YtnolcogncjijpaaGreatDoor
namespace Go.Proofs.YtnolcogncjijpaaGreatDoor
open Go Go.Ab
/-! ### cmp.Or[int] -/
noncomputable def cmp_Or_int_W3 (zero : Int) (t6 : List Int) (t7 : Int) (t8 : Int) : Wy (Int × List Int × Int × Int × Unit) (Unit) (Int ⊕ Int) := .i (decide (t8 < t7)) (.i (decide ((0 : Int) ≤ t8) && decide (t8 < Int.ofNat t6.length)) (.i (t6.getD t8.toNat default != zero) (.k (.inl (t6.getD t8.toNat default))) (.h (zero, t6, t7, (IntKind.i64.wrap (t8 + (1 : Int))), ()) ())) .d) (.k (.inr zero))
noncomputable def cmp_Or_int_w3 (x : Int × List Int × Int × Int × Unit) (y : Unit) : Wy (Int × List Int × Int × Int × Unit) (Unit) (Int ⊕ Int) := cmp_Or_int_W3 x.1 x.2.1 x.2.2.1 x.2.2.2.1
noncomputable def cmp_Or_int_L3 (n : Nat) (zero : Int) (t6 : List Int) (t7 : Int) (t8 : Int) : Bool × (Int ⊕ Int) := iterW (cmp_Or_int_w3) (.inl default) n (zero, t6, t7, t8, ()) ()
noncomputable def cmp_Or_int_tr3 (r : Int ⊕ Int) : LTree ty := .ite (isL r) (.done .ret [.lit (.int .i64 (getL r))] []) (.done (.exit 0) [.lit (.int .i64 (getR r))] [])
noncomputable def cmp_Or_int_V3 : LL ty (Int × List Int × Int × Int × Unit) := llCons (lInt .i64) (llCons (lSl 3) (llCons (lInt .i64) (llCons (lInt .i64) llNil)))
noncomputable def cmp_Or_int_B3 : BL ty (Unit) := bNil
noncomputable def cmp_Or_int_cx : Cx ty := mkCx base 18 [] [] [(3, [(3, .keep), (6, .keep), (7, .keep), (8, .keep)])] [(3, 1, [(3, .keep)]), (3, 0, [(2, .keep)])] [(3, spW cmp_Or_int_V3 cmp_Or_int_B3 (cmp_Or_int_w3) (.inl default) cmp_Or_int_tr3 fun x y => (Int.toNat x.1 + x.2.1.length + Int.toNat x.2.2.1 + Int.toNat x.2.2.2.1 + 1))] []
theorem cmp_Or_int_to3 : LoopOK cmp_Or_int_cx (lp (body Tryz.f88) 0) := loopOK_W (id := 3) (V := cmp_Or_int_V3) (B := cmp_Or_int_B3) (W := cmp_Or_int_w3) (z := .inl default) (tr := cmp_Or_int_tr3) (m := fun x y => (Int.toNat x.1 + x.2.1.length + Int.toNat x.2.2.1 + Int.toNat x.2.2.2.1 + 1)) (by kernel_rfl) (by kernel_rfl) fun R H K x y => by kernel_rfl
noncomputable def cmp_Or_int_W (vals : List Int) : Wy0 (Int) := .bn (cmp_Or_int_L3 (Int.toNat (0 : Int) + vals.length + (Int.ofNat vals.length).toNat + Int.toNat (0 : Int) + (1 : Nat)) (0 : Int) vals (Int.ofNat vals.length) (0 : Int)) fun r0 => .i (isL r0) (.k (getL r0)) (.k (getR r0))
noncomputable def cmp_Or_int (vals : List Int) : Bool × Int := (cmp_Or_int_W vals).fin default
noncomputable def cmp_Or_int_res (r : Int) : ARes ty := ⟨[.pure (.lit (.int .i64 r))], []⟩
noncomputable def cmp_Or_int_A : AL base (List Int × Unit) := aCons (aPure (vSl 3)) aNil
noncomputable def cmp_Or_int_spec : Ab.Spec ty := mkSpec cmp_Or_int_A fun x => ((cmp_Or_int x.1).1, cmp_Or_int_res (cmp_Or_int x.1).2)
theorem cmp_Or_int_sound : Sound Tryz.prog base 88 cmp_Or_int_spec :=
  sound_W (cx' := cmp_Or_int_cx) draws base_ok mkSame (mkSpecs trivial) Tryz.call88 Tryz.func88 (c := body Tryz.f88) (by kernel_rfl) (loopsOK_of (l := [lp (body Tryz.f88) 0]) (by kernel_rfl) ⟨cmp_Or_int_to3, trivial⟩) (sg := ⟨[.pure], []⟩) (A := cmp_Or_int_A) (res := cmp_Or_int_res) (W := fun x => cmp_Or_int_W x.1) (z := default) (fun x => by kernel_rfl) (fun _ => by kernel_rfl)
end Go.Proofs.YtnolcogncjijpaaGreatDoor
namespace Go.Proofs.YtnolcogncjijpaaGreatDoor
open Go Go.Ab
/-! ### lineage/annotation.Compare literal 1 -/
noncomputable def annotation_Compare_c1_b_cx (g_annotation_compareLists : Term → Term → Bool × Int) : Cx ty := mkCx base 15 [(71, (annotation_compareLists_S g_annotation_compareLists)), (79, cmp_Compare_int64_spec), (88, cmp_Or_int_spec)] [] [] [] [] []
noncomputable def annotation_Compare_c1_b_W (g_annotation_compareLists : Term → Term → Bool × Int) (x_ : Term) (y_ : Term) : Wy0 (Int) := .bn (g_annotation_compareLists x_ y_) fun r2 => .bn (cmp_Compare_int64 x_.Coeff y_.Coeff) fun r1 => .bn (cmp_Or_int [r2, r1]) fun r0 => .k r0
noncomputable def annotation_Compare_c1_b (g_annotation_compareLists : Term → Term → Bool × Int) (x_ : Term) (y_ : Term) : Bool × Int := (annotation_Compare_c1_b_W g_annotation_compareLists x_ y_).fin default
theorem annotation_Compare_c1_b_sound (g_annotation_compareLists : Term → Term → Bool × Int) (h_g_annotation_compareLists : Sound Tryz.prog base 71 (annotation_compareLists_S g_annotation_compareLists)) : Sound Tryz.prog base 87 (annotation_Compare_c1_S (annotation_Compare_c1_b g_annotation_compareLists)) :=
  sound_W (cx' := (annotation_Compare_c1_b_cx g_annotation_compareLists)) draws base_ok mkSame (mkSpecs ⟨(h_g_annotation_compareLists), (cmp_Compare_int64_sound), (cmp_Or_int_sound), trivial⟩) Tryz.call87 Tryz.func87 (c := body Tryz.f87) (by kernel_rfl) (loopsOK_of (l := []) (by kernel_rfl) trivial) (sg := ⟨[.pure], []⟩) (A := annotation_Compare_c1_A) (res := annotation_Compare_c1_res) (W := fun x => annotation_Compare_c1_b_W g_annotation_compareLists x.1 x.2.1) (z := default) (fun x => by kernel_rfl) (fun _ => by kernel_rfl)
end Go.Proofs.YtnolcogncjijpaaGreatDoor
namespace Go.Proofs.YtnolcogncjijpaaGreatDoor
open Go Go.Ab
/-! ### cmp.isNaN[int] -/
noncomputable def cmp_isNaN_int_cx : Cx ty := mkCx base 6 [] [] [] [] [] []
noncomputable def cmp_isNaN_int_W (x_ : Int) : Wy0 (Bool) := .k (x_ != x_)
noncomputable def cmp_isNaN_int (x_ : Int) : Bool × Bool := (cmp_isNaN_int_W x_).fin default
noncomputable def cmp_isNaN_int_res (r : Bool) : ARes ty := ⟨[.pure (.lit (.bool r))], []⟩
noncomputable def cmp_isNaN_int_A : AL base (Int × Unit) := aCons (aPure (vInt .i64)) aNil
noncomputable def cmp_isNaN_int_spec : Ab.Spec ty := mkSpec cmp_isNaN_int_A fun x => ((cmp_isNaN_int x.1).1, cmp_isNaN_int_res (cmp_isNaN_int x.1).2)
theorem cmp_isNaN_int_sound : Sound Tryz.prog base 161 cmp_isNaN_int_spec :=
  sound_W (cx' := cmp_isNaN_int_cx) draws base_ok mkSame (mkSpecs trivial) Tryz.call161 Tryz.func161 (c := body Tryz.f161) (by kernel_rfl) (loopsOK_of (l := []) (by kernel_rfl) trivial) (sg := ⟨[.pure], []⟩) (A := cmp_isNaN_int_A) (res := cmp_isNaN_int_res) (W := fun x => cmp_isNaN_int_W x.1) (z := default) (fun x => by kernel_rfl) (fun _ => by kernel_rfl)
end Go.Proofs.YtnolcogncjijpaaGreatDoor
namespace Go.Proofs.YtnolcogncjijpaaGreatDoor
open Go Go.Ab
/-! ### cmp.Compare[int] -/
noncomputable def cmp_Compare_int_cx : Cx ty := mkCx base 20 [(161, cmp_isNaN_int_spec)] [] [] [] [] []
noncomputable def cmp_Compare_int_W (x_ : Int) (y_ : Int) : Wy0 (Int) := .i ((cmp_isNaN_int x_).snd) (.i ((cmp_isNaN_int y_).snd) (.k (0 : Int)) (.k (-1 : Int))) (.i ((cmp_isNaN_int y_).snd) (.k (1 : Int)) (.i (decide (x_ < y_)) (.k (-1 : Int)) (.i (decide (x_ > y_)) (.k (1 : Int)) (.k (0 : Int)))))
noncomputable def cmp_Compare_int (x_ : Int) (y_ : Int) : Bool × Int := (cmp_Compare_int_W x_ y_).fin default
noncomputable def cmp_Compare_int_res (r : Int) : ARes ty := ⟨[.pure (.lit (.int .i64 r))], []⟩
noncomputable def cmp_Compare_int_A : AL base (Int × Int × Unit) := aCons (aPure (vInt .i64)) (aCons (aPure (vInt .i64)) aNil)
noncomputable def cmp_Compare_int_spec : Ab.Spec ty := mkSpec cmp_Compare_int_A fun x => ((cmp_Compare_int x.1 x.2.1).1, cmp_Compare_int_res (cmp_Compare_int x.1 x.2.1).2)
theorem cmp_Compare_int_sound : Sound Tryz.prog base 125 cmp_Compare_int_spec :=
  sound_W (cx' := cmp_Compare_int_cx) draws base_ok mkSame (mkSpecs ⟨(cmp_isNaN_int_sound), trivial⟩) Tryz.call125 Tryz.func125 (c := body Tryz.f125) (by kernel_rfl) (loopsOK_of (l := []) (by kernel_rfl) trivial) (sg := ⟨[.pure], []⟩) (A := cmp_Compare_int_A) (res := cmp_Compare_int_res) (W := fun x => cmp_Compare_int_W x.1 x.2.1) (z := default) (fun x => by kernel_rfl) (fun _ => by kernel_rfl)
end Go.Proofs.YtnolcogncjijpaaGreatDoor
/-
  DERIVED: THE SHELF's CONTRACTS AT THIS DUMP, IN PLAIN WORDS (tools/lay-plain.mjs out of 'TryzShelf.lean', which tools/lay-shelf.mjs wrote): THE SAME DECLARATIONS UNDER THE SAME NAMES: 'import', 'namespace', 'open', 'def', 'theorem' AND NOTHING ELSE: no command of the shelf's: FOR A HAND-IN. Each laying: the table of numbers ('.._ren') and one theorem, a field a fact of the dump's own or the kernel's comparison; each contract: ONE APPLICATION.
-/
namespace Go.Proofs
open Go.Shelf
def Tryz.sortRow_ren : Go.Shelf.Ren := ⟨fun | 6 => 143 | 15 => 156 | 14 => 167 | 28 => 185 | 29 => 186 | 20 => 189 | 21 => 190 | 22 => 191 | 23 => 192 | 24 => 193 | 25 => 194 | 26 => 195 | 27 => 196 | 46 => 211 | 47 => 205 | 48 => 206 | 49 => 212 | 50 => 213 | 57 => 222 | n => n, fun | 22 => 65 | 24 => 25 | 25 => 133 | 3 => 3 | 39 => 143 | 0 => 0 | 53 => 176 | 55 => 178 | 4 => 4 | 46 => 170 | 45 => 169 | 50 => 108 | 5 => 5 | 9 => 9 | 66 => 190 | 70 => 194 | 76 => 205 | 77 => 206 | n => n, fun | n => n⟩
theorem Tryz.sortRow : Go.Proofs.SlLaysF0.n6 Tryz.prog Tryz.sortRow_ren := {
  mixed := by kernel_rfl
  f6 := ⟨Tryz.f143.name, by decide, Tryz.func143.trans (congrArg some (by kernel_rfl))⟩
  f14 := ⟨Tryz.f167.name, by decide, Tryz.func167.trans (congrArg some (by kernel_rfl))⟩
  f15 := Tryz.func156.trans (congrArg some (by kernel_rfl))
  f20 := ⟨Tryz.f189.name, by decide, Tryz.func189.trans (congrArg some (by kernel_rfl))⟩
  f21 := ⟨Tryz.f190.name, by decide, Tryz.func190.trans (congrArg some (by kernel_rfl))⟩
  f22 := ⟨Tryz.f191.name, by decide, Tryz.func191.trans (congrArg some (by kernel_rfl))⟩
  f23 := ⟨Tryz.f192.name, by decide, Tryz.func192.trans (congrArg some (by kernel_rfl))⟩
  f24 := ⟨Tryz.f193.name, by decide, Tryz.func193.trans (congrArg some (by kernel_rfl))⟩
  f25 := ⟨Tryz.f194.name, by decide, Tryz.func194.trans (congrArg some (by kernel_rfl))⟩
  f26 := ⟨Tryz.f195.name, by decide, Tryz.func195.trans (congrArg some (by kernel_rfl))⟩
  f27 := ⟨Tryz.f196.name, by decide, Tryz.func196.trans (congrArg some (by kernel_rfl))⟩
  f28 := Tryz.func185.trans (congrArg some (by kernel_rfl))
  f29 := Tryz.func186.trans (congrArg some (by kernel_rfl))
  f46 := ⟨Tryz.f211.name, by decide, Tryz.func211.trans (congrArg some (by kernel_rfl))⟩
  f47 := Tryz.func205.trans (congrArg some (by kernel_rfl))
  f48 := Tryz.func206.trans (congrArg some (by kernel_rfl))
  f49 := ⟨Tryz.f212.name, by decide, Tryz.func212.trans (congrArg some (by kernel_rfl))⟩
  f50 := ⟨Tryz.f213.name, by decide, Tryz.func213.trans (congrArg some (by kernel_rfl))⟩
  f57 := ⟨Tryz.f222.name, by decide, Tryz.func222.trans (congrArg some (by kernel_rfl))⟩
  t0 := Tryz.underlying0
  a0 := Tryz.isAgg0
  z0 := Tryz.sizeOf0
  v0 := Tryz.zeroValue0
  t3 := Tryz.underlying3
  a3 := Tryz.isAgg3
  z3 := Tryz.sizeOf3
  v3 := Tryz.zeroValue3
  t4 := Tryz.underlying4
  a4 := Tryz.isAgg4
  z4 := Tryz.sizeOf4
  v4 := Tryz.zeroValue4
  t5 := Tryz.underlying5
  a5 := Tryz.isAgg5
  z5 := Tryz.sizeOf5
  v5 := Tryz.zeroValue5
  t9 := Tryz.underlying9
  a9 := Tryz.isAgg9
  z9 := Tryz.sizeOf9
  v9 := Tryz.zeroValue9
  t22 := Tryz.underlying65
  a22 := Tryz.isAgg65
  z22 := Tryz.sizeOf65
  v22 := Tryz.zeroValue65
  t25 := Tryz.underlying133
  a25 := Tryz.isAgg133
  z25 := Tryz.sizeOf133
  v25 := Tryz.zeroValue133
  t39 := Tryz.underlying143
  a39 := Tryz.isAgg143
  z39 := Tryz.sizeOf143
  v39 := Tryz.zeroValue143
  t45 := Tryz.underlying169
  a45 := Tryz.isAgg169
  z45 := Tryz.sizeOf169
  v45 := Tryz.zeroValue169
  t46 := Tryz.underlying170
  a46 := Tryz.isAgg170
  z46 := Tryz.sizeOf170
  v46 := Tryz.zeroValue170
  t50 := Tryz.underlying108
  a50 := Tryz.isAgg108
  z50 := Tryz.sizeOf108
  v50 := Tryz.zeroValue108
  t53 := Tryz.underlying176
  a53 := Tryz.isAgg176
  z53 := Tryz.sizeOf176
  v53 := Tryz.zeroValue176
  t55 := Tryz.underlying178
  a55 := Tryz.isAgg178
  z55 := Tryz.sizeOf178
  v55 := Tryz.zeroValue178
  t66 := Tryz.underlying190
  a66 := Tryz.isAgg190
  z66 := Tryz.sizeOf190
  v66 := Tryz.zeroValue190
  t70 := Tryz.underlying194
  a70 := Tryz.isAgg194
  z70 := Tryz.sizeOf194
  v70 := Tryz.zeroValue194
  t76 := Tryz.underlying205
  a76 := Tryz.isAgg205
  z76 := Tryz.sizeOf205
  v76 := Tryz.zeroValue205
  t77 := Tryz.underlying206
  a77 := Tryz.isAgg206
  z77 := Tryz.sizeOf206
  v77 := Tryz.zeroValue206 }
def Tryz.pdqTerm_ren : Go.Shelf.Ren := ⟨fun | 14 => 155 | 20 => 177 | 21 => 178 | 22 => 179 | 23 => 180 | 24 => 181 | 25 => 182 | 26 => 183 | 27 => 184 | 46 => 204 | 47 => 205 | 48 => 206 | 49 => 207 | 50 => 208 | 15 => 156 | 57 => 221 | 28 => 185 | 29 => 186 | n => n, fun | 24 => 42 | 22 => 22 | 3 => 3 | 25 => 80 | 4 => 4 | 0 => 0 | 46 => 170 | 45 => 169 | 50 => 108 | 66 => 190 | 39 => 143 | 55 => 178 | 70 => 194 | 76 => 205 | 77 => 206 | 53 => 176 | 5 => 5 | 9 => 9 | n => n, fun | n => n⟩
theorem Tryz.pdqTerm : Go.Proofs.SlLaysF0.n14 Tryz.prog Tryz.pdqTerm_ren := {
  mixed := by kernel_rfl
  f14 := ⟨Tryz.f155.name, by decide, Tryz.func155.trans (congrArg some (by kernel_rfl))⟩
  f15 := Tryz.func156.trans (congrArg some (by kernel_rfl))
  f20 := ⟨Tryz.f177.name, by decide, Tryz.func177.trans (congrArg some (by kernel_rfl))⟩
  f21 := ⟨Tryz.f178.name, by decide, Tryz.func178.trans (congrArg some (by kernel_rfl))⟩
  f22 := ⟨Tryz.f179.name, by decide, Tryz.func179.trans (congrArg some (by kernel_rfl))⟩
  f23 := ⟨Tryz.f180.name, by decide, Tryz.func180.trans (congrArg some (by kernel_rfl))⟩
  f24 := ⟨Tryz.f181.name, by decide, Tryz.func181.trans (congrArg some (by kernel_rfl))⟩
  f25 := ⟨Tryz.f182.name, by decide, Tryz.func182.trans (congrArg some (by kernel_rfl))⟩
  f26 := ⟨Tryz.f183.name, by decide, Tryz.func183.trans (congrArg some (by kernel_rfl))⟩
  f27 := ⟨Tryz.f184.name, by decide, Tryz.func184.trans (congrArg some (by kernel_rfl))⟩
  f28 := Tryz.func185.trans (congrArg some (by kernel_rfl))
  f29 := Tryz.func186.trans (congrArg some (by kernel_rfl))
  f46 := ⟨Tryz.f204.name, by decide, Tryz.func204.trans (congrArg some (by kernel_rfl))⟩
  f47 := Tryz.func205.trans (congrArg some (by kernel_rfl))
  f48 := Tryz.func206.trans (congrArg some (by kernel_rfl))
  f49 := ⟨Tryz.f207.name, by decide, Tryz.func207.trans (congrArg some (by kernel_rfl))⟩
  f50 := ⟨Tryz.f208.name, by decide, Tryz.func208.trans (congrArg some (by kernel_rfl))⟩
  f57 := ⟨Tryz.f221.name, by decide, Tryz.func221.trans (congrArg some (by kernel_rfl))⟩
  t0 := Tryz.underlying0
  a0 := Tryz.isAgg0
  z0 := Tryz.sizeOf0
  v0 := Tryz.zeroValue0
  t3 := Tryz.underlying3
  a3 := Tryz.isAgg3
  z3 := Tryz.sizeOf3
  v3 := Tryz.zeroValue3
  t4 := Tryz.underlying4
  a4 := Tryz.isAgg4
  z4 := Tryz.sizeOf4
  v4 := Tryz.zeroValue4
  t5 := Tryz.underlying5
  a5 := Tryz.isAgg5
  z5 := Tryz.sizeOf5
  v5 := Tryz.zeroValue5
  t9 := Tryz.underlying9
  a9 := Tryz.isAgg9
  z9 := Tryz.sizeOf9
  v9 := Tryz.zeroValue9
  t22 := Tryz.underlying22
  a22 := Tryz.isAgg22
  z22 := Tryz.sizeOf22
  v22 := Tryz.zeroValue22
  t25 := Tryz.underlying80
  a25 := Tryz.isAgg80
  z25 := Tryz.sizeOf80
  v25 := Tryz.zeroValue80
  t39 := Tryz.underlying143
  a39 := Tryz.isAgg143
  z39 := Tryz.sizeOf143
  v39 := Tryz.zeroValue143
  t45 := Tryz.underlying169
  a45 := Tryz.isAgg169
  z45 := Tryz.sizeOf169
  v45 := Tryz.zeroValue169
  t46 := Tryz.underlying170
  a46 := Tryz.isAgg170
  z46 := Tryz.sizeOf170
  v46 := Tryz.zeroValue170
  t50 := Tryz.underlying108
  a50 := Tryz.isAgg108
  z50 := Tryz.sizeOf108
  v50 := Tryz.zeroValue108
  t53 := Tryz.underlying176
  a53 := Tryz.isAgg176
  z53 := Tryz.sizeOf176
  v53 := Tryz.zeroValue176
  t55 := Tryz.underlying178
  a55 := Tryz.isAgg178
  z55 := Tryz.sizeOf178
  v55 := Tryz.zeroValue178
  t66 := Tryz.underlying190
  a66 := Tryz.isAgg190
  z66 := Tryz.sizeOf190
  v66 := Tryz.zeroValue190
  t70 := Tryz.underlying194
  a70 := Tryz.isAgg194
  z70 := Tryz.sizeOf194
  v70 := Tryz.zeroValue194
  t76 := Tryz.underlying205
  a76 := Tryz.isAgg205
  z76 := Tryz.sizeOf205
  v76 := Tryz.zeroValue205
  t77 := Tryz.underlying206
  a77 := Tryz.isAgg206
  z77 := Tryz.sizeOf206
  v77 := Tryz.zeroValue206 }
def Tryz.insW_ren : Go.Shelf.Ren := ⟨fun | 20 => 164 | n => n, fun | 24 => 52 | 22 => 44 | 3 => 3 | 25 => 89 | 4 => 4 | 0 => 0 | n => n, fun | n => n⟩
theorem Tryz.insW : Go.Proofs.SlLaysF0.n20 Tryz.prog Tryz.insW_ren := {
  mixed := by kernel_rfl
  f20 := ⟨Tryz.f164.name, by decide, Tryz.func164.trans (congrArg some (by kernel_rfl))⟩
  t0 := Tryz.underlying0
  a0 := Tryz.isAgg0
  z0 := Tryz.sizeOf0
  v0 := Tryz.zeroValue0
  t3 := Tryz.underlying3
  a3 := Tryz.isAgg3
  z3 := Tryz.sizeOf3
  v3 := Tryz.zeroValue3
  t4 := Tryz.underlying4
  a4 := Tryz.isAgg4
  z4 := Tryz.sizeOf4
  v4 := Tryz.zeroValue4
  t22 := Tryz.underlying44
  a22 := Tryz.isAgg44
  z22 := Tryz.sizeOf44
  v22 := Tryz.zeroValue44
  t25 := Tryz.underlying89
  a25 := Tryz.isAgg89
  z25 := Tryz.sizeOf89
  v25 := Tryz.zeroValue89 }
def Tryz.lays106_ren : Go.Shelf.Ren := ⟨fun | 106 => 162 | 213 => 187 | 265 => 209 | n => n, fun | 9 => 9 | 3 => 3 | n => n, fun | n => n⟩
theorem Tryz.lays106 : Go.Proofs.Lays.n106 Tryz.prog Tryz.lays106_ren := {
  mixed := by kernel_rfl
  f106 := Tryz.func162.trans (congrArg some (by kernel_rfl))
  f213 := Tryz.func187.trans (congrArg some (by kernel_rfl))
  f265 := Tryz.func209.trans (congrArg some (by kernel_rfl))
  t3 := Tryz.underlying3
  a3 := Tryz.isAgg3
  z3 := Tryz.sizeOf3
  v3 := Tryz.zeroValue3
  t9 := Tryz.underlying9
  a9 := Tryz.isAgg9
  z9 := Tryz.sizeOf9
  v9 := Tryz.zeroValue9 }
def Tryz.laysM173_ren : Go.Shelf.Ren := ⟨fun | 173 => 151 | 246 => 168 | 283 => 197 | 284 => 198 | 285 => 199 | 286 => 200 | 129 => 186 | 317 => 214 | 318 => 215 | 319 => 216 | 320 => 217 | 337 => 223 | 338 => 224 | n => n, fun | 2 => 2 | 3 => 3 | 9 => 9 | 4 => 4 | 171 => 184 | 0 => 0 | 53 => 178 | 37 => 156 | 5 => 5 | 173 => 186 | 212 => 199 | 51 => 176 | 20 => 20 | 213 => 200 | 46 => 143 | 232 => 211 | 233 => 212 | n => n, fun | 17 => 1 | 18 => 2 | 19 => 3 | n => n⟩
theorem Tryz.laysM173 : Go.Proofs.LaysM.n173 Tryz.prog Tryz.laysM173_ren := {
  mixed := by kernel_rfl
  f129 := Tryz.func186.trans (congrArg some (by kernel_rfl))
  f173 := Tryz.func151.trans (congrArg some (by kernel_rfl))
  f246 := Tryz.func168.trans (congrArg some (by kernel_rfl))
  f283 := Tryz.func197.trans (congrArg some (by kernel_rfl))
  f284 := Tryz.func198.trans (congrArg some (by kernel_rfl))
  f285 := Tryz.func199.trans (congrArg some (by kernel_rfl))
  f286 := Tryz.func200.trans (congrArg some (by kernel_rfl))
  f317 := Tryz.func214.trans (congrArg some (by kernel_rfl))
  f318 := Tryz.func215.trans (congrArg some (by kernel_rfl))
  f319 := Tryz.func216.trans (congrArg some (by kernel_rfl))
  f320 := Tryz.func217.trans (congrArg some (by kernel_rfl))
  f337 := Tryz.func223.trans (congrArg some (by kernel_rfl))
  f338 := Tryz.func224.trans (congrArg some (by kernel_rfl))
  t0 := Tryz.underlying0
  a0 := Tryz.isAgg0
  z0 := Tryz.sizeOf0
  v0 := Tryz.zeroValue0
  t2 := Tryz.underlying2
  a2 := Tryz.isAgg2
  z2 := Tryz.sizeOf2
  v2 := Tryz.zeroValue2
  t3 := Tryz.underlying3
  a3 := Tryz.isAgg3
  z3 := Tryz.sizeOf3
  v3 := Tryz.zeroValue3
  t4 := Tryz.underlying4
  a4 := Tryz.isAgg4
  z4 := Tryz.sizeOf4
  v4 := Tryz.zeroValue4
  t5 := Tryz.underlying5
  a5 := Tryz.isAgg5
  z5 := Tryz.sizeOf5
  v5 := Tryz.zeroValue5
  t9 := Tryz.underlying9
  a9 := Tryz.isAgg9
  z9 := Tryz.sizeOf9
  v9 := Tryz.zeroValue9
  t20 := Tryz.underlying20
  a20 := Tryz.isAgg20
  z20 := Tryz.sizeOf20
  v20 := Tryz.zeroValue20
  t37 := Tryz.underlying156
  a37 := Tryz.isAgg156
  z37 := Tryz.sizeOf156
  v37 := Tryz.zeroValue156
  t46 := Tryz.underlying143
  a46 := Tryz.isAgg143
  z46 := Tryz.sizeOf143
  v46 := Tryz.zeroValue143
  t51 := Tryz.underlying176
  a51 := Tryz.isAgg176
  z51 := Tryz.sizeOf176
  v51 := Tryz.zeroValue176
  t53 := Tryz.underlying178
  a53 := Tryz.isAgg178
  z53 := Tryz.sizeOf178
  v53 := Tryz.zeroValue178
  t171 := Tryz.underlying184
  a171 := Tryz.isAgg184
  z171 := Tryz.sizeOf184
  v171 := Tryz.zeroValue184
  t173 := Tryz.underlying186
  a173 := Tryz.isAgg186
  z173 := Tryz.sizeOf186
  v173 := Tryz.zeroValue186
  t212 := Tryz.underlying199
  a212 := Tryz.isAgg199
  z212 := Tryz.sizeOf199
  v212 := Tryz.zeroValue199
  t213 := Tryz.underlying200
  a213 := Tryz.isAgg200
  z213 := Tryz.sizeOf200
  t232 := Tryz.underlying211
  a232 := Tryz.isAgg211
  z232 := Tryz.sizeOf211
  v232 := Tryz.zeroValue211
  t233 := Tryz.underlying212
  a233 := Tryz.isAgg212
  z233 := Tryz.sizeOf212
  v233 := Tryz.zeroValue212
  g17 := by kernel_rfl
  g18 := by kernel_rfl
  g19 := by kernel_rfl
  i0 := by kernel_rfl
  i2 := by kernel_rfl
  i3 := by kernel_rfl
  i4 := by kernel_rfl
  i5 := by kernel_rfl
  i9 := by kernel_rfl
  i20 := by kernel_rfl
  i37 := by kernel_rfl
  i46 := by kernel_rfl
  i51 := by kernel_rfl
  i53 := by kernel_rfl
  i171 := by kernel_rfl
  i173 := by kernel_rfl
  i212 := by kernel_rfl
  i232 := by kernel_rfl
  i233 := by kernel_rfl
  m17 := by kernel_rfl
  m18 := by kernel_rfl
  m19 := by kernel_rfl }
def Tryz.laysM171_ren : Go.Shelf.Ren := ⟨fun | 171 => 154 | 243 => 176 | 246 => 168 | 283 => 197 | 284 => 198 | 285 => 199 | 286 => 200 | 129 => 186 | 317 => 214 | 318 => 215 | 319 => 216 | 320 => 217 | 337 => 223 | 338 => 224 | n => n, fun | 3 => 3 | 9 => 9 | 2 => 2 | 4 => 4 | 171 => 184 | 0 => 0 | 53 => 178 | 37 => 156 | 5 => 5 | 173 => 186 | 212 => 199 | 51 => 176 | 20 => 20 | 213 => 200 | 46 => 143 | 232 => 211 | 233 => 212 | n => n, fun | 17 => 1 | 18 => 2 | 19 => 3 | n => n⟩
theorem Tryz.laysM171 : Go.Proofs.LaysM.n171 Tryz.prog Tryz.laysM171_ren := {
  mixed := by kernel_rfl
  f129 := Tryz.func186.trans (congrArg some (by kernel_rfl))
  f171 := Tryz.func154.trans (congrArg some (by kernel_rfl))
  f243 := Tryz.func176.trans (congrArg some (by kernel_rfl))
  f246 := Tryz.func168.trans (congrArg some (by kernel_rfl))
  f283 := Tryz.func197.trans (congrArg some (by kernel_rfl))
  f284 := Tryz.func198.trans (congrArg some (by kernel_rfl))
  f285 := Tryz.func199.trans (congrArg some (by kernel_rfl))
  f286 := Tryz.func200.trans (congrArg some (by kernel_rfl))
  f317 := Tryz.func214.trans (congrArg some (by kernel_rfl))
  f318 := Tryz.func215.trans (congrArg some (by kernel_rfl))
  f319 := Tryz.func216.trans (congrArg some (by kernel_rfl))
  f320 := Tryz.func217.trans (congrArg some (by kernel_rfl))
  f337 := Tryz.func223.trans (congrArg some (by kernel_rfl))
  f338 := Tryz.func224.trans (congrArg some (by kernel_rfl))
  t0 := Tryz.underlying0
  a0 := Tryz.isAgg0
  z0 := Tryz.sizeOf0
  v0 := Tryz.zeroValue0
  t2 := Tryz.underlying2
  a2 := Tryz.isAgg2
  z2 := Tryz.sizeOf2
  v2 := Tryz.zeroValue2
  t3 := Tryz.underlying3
  a3 := Tryz.isAgg3
  z3 := Tryz.sizeOf3
  v3 := Tryz.zeroValue3
  t4 := Tryz.underlying4
  a4 := Tryz.isAgg4
  z4 := Tryz.sizeOf4
  v4 := Tryz.zeroValue4
  t5 := Tryz.underlying5
  a5 := Tryz.isAgg5
  z5 := Tryz.sizeOf5
  v5 := Tryz.zeroValue5
  t9 := Tryz.underlying9
  a9 := Tryz.isAgg9
  z9 := Tryz.sizeOf9
  v9 := Tryz.zeroValue9
  t20 := Tryz.underlying20
  a20 := Tryz.isAgg20
  z20 := Tryz.sizeOf20
  v20 := Tryz.zeroValue20
  t37 := Tryz.underlying156
  a37 := Tryz.isAgg156
  z37 := Tryz.sizeOf156
  v37 := Tryz.zeroValue156
  t46 := Tryz.underlying143
  a46 := Tryz.isAgg143
  z46 := Tryz.sizeOf143
  v46 := Tryz.zeroValue143
  t51 := Tryz.underlying176
  a51 := Tryz.isAgg176
  z51 := Tryz.sizeOf176
  v51 := Tryz.zeroValue176
  t53 := Tryz.underlying178
  a53 := Tryz.isAgg178
  z53 := Tryz.sizeOf178
  v53 := Tryz.zeroValue178
  t171 := Tryz.underlying184
  a171 := Tryz.isAgg184
  z171 := Tryz.sizeOf184
  v171 := Tryz.zeroValue184
  t173 := Tryz.underlying186
  a173 := Tryz.isAgg186
  z173 := Tryz.sizeOf186
  v173 := Tryz.zeroValue186
  t212 := Tryz.underlying199
  a212 := Tryz.isAgg199
  z212 := Tryz.sizeOf199
  v212 := Tryz.zeroValue199
  t213 := Tryz.underlying200
  a213 := Tryz.isAgg200
  z213 := Tryz.sizeOf200
  t232 := Tryz.underlying211
  a232 := Tryz.isAgg211
  z232 := Tryz.sizeOf211
  v232 := Tryz.zeroValue211
  t233 := Tryz.underlying212
  a233 := Tryz.isAgg212
  z233 := Tryz.sizeOf212
  v233 := Tryz.zeroValue212
  g17 := by kernel_rfl
  g18 := by kernel_rfl
  g19 := by kernel_rfl
  i0 := by kernel_rfl
  i2 := by kernel_rfl
  i3 := by kernel_rfl
  i4 := by kernel_rfl
  i5 := by kernel_rfl
  i9 := by kernel_rfl
  i20 := by kernel_rfl
  i37 := by kernel_rfl
  i46 := by kernel_rfl
  i51 := by kernel_rfl
  i53 := by kernel_rfl
  i171 := by kernel_rfl
  i173 := by kernel_rfl
  i212 := by kernel_rfl
  i232 := by kernel_rfl
  i233 := by kernel_rfl
  m17 := by kernel_rfl
  m18 := by kernel_rfl
  m19 := by kernel_rfl }
def Tryz.lays155_ren : Go.Shelf.Ren := ⟨fun | 155 => 203 | 154 => 220 | 138 => 225 | 165 => 169 | 143 => 226 | 166 => 170 | 197 => 227 | 169 => 171 | 195 => 228 | 218 => 229 | 240 => 201 | 241 => 202 | 219 => 230 | 260 => 231 | 276 => 218 | 277 => 219 | 217 => 232 | 225 => 233 | 224 => 234 | 267 => 235 | 266 => 236 | 314 => 237 | n => n, fun | 9 => 9 | 3 => 3 | 4 => 4 | 72 => 158 | 0 => 0 | 76 => 162 | 105 => 209 | 21 => 21 | 5 => 5 | 70 => 155 | 20 => 20 | 37 => 156 | 75 => 161 | 127 => 188 | 164 => 201 | 46 => 143 | 119 => 215 | 139 => 218 | 138 => 217 | 146 => 219 | 51 => 176 | 80 => 164 | n => n, fun | 1 => 0 | 3 => 4 | 4 => 5 | n => n⟩
theorem Tryz.lays155 : Go.Proofs.Lays.n155 Tryz.prog Tryz.lays155_ren := {
  mixed := by kernel_rfl
  f138 := Tryz.func225.trans (congrArg some (by kernel_rfl))
  f143 := Tryz.func226.trans (congrArg some (by kernel_rfl))
  f154 := Tryz.func220.trans (congrArg some (by kernel_rfl))
  f155 := Tryz.func203.trans (congrArg some (by kernel_rfl))
  f165 := Tryz.func169.trans (congrArg some (by kernel_rfl))
  f166 := Tryz.func170.trans (congrArg some (by kernel_rfl))
  f169 := Tryz.func171.trans (congrArg some (by kernel_rfl))
  f195 := Tryz.func228.trans (congrArg some (by kernel_rfl))
  f197 := Tryz.func227.trans (congrArg some (by kernel_rfl))
  f217 := Tryz.func232.trans (congrArg some (by kernel_rfl))
  f218 := Tryz.func229.trans (congrArg some (by kernel_rfl))
  f219 := Tryz.func230.trans (congrArg some (by kernel_rfl))
  f224 := Tryz.func234.trans (congrArg some (by kernel_rfl))
  f225 := Tryz.func233.trans (congrArg some (by kernel_rfl))
  f240 := Tryz.func201.trans (congrArg some (by kernel_rfl))
  f241 := Tryz.func202.trans (congrArg some (by kernel_rfl))
  f260 := Tryz.func231.trans (congrArg some (by kernel_rfl))
  f266 := Tryz.func236.trans (congrArg some (by kernel_rfl))
  f267 := Tryz.func235.trans (congrArg some (by kernel_rfl))
  f276 := Tryz.func218.trans (congrArg some (by kernel_rfl))
  f277 := Tryz.func219.trans (congrArg some (by kernel_rfl))
  f314 := Tryz.func237.trans (congrArg some (by kernel_rfl))
  t0 := Tryz.underlying0
  a0 := Tryz.isAgg0
  z0 := Tryz.sizeOf0
  v0 := Tryz.zeroValue0
  t3 := Tryz.underlying3
  a3 := Tryz.isAgg3
  z3 := Tryz.sizeOf3
  v3 := Tryz.zeroValue3
  t4 := Tryz.underlying4
  a4 := Tryz.isAgg4
  z4 := Tryz.sizeOf4
  v4 := Tryz.zeroValue4
  t5 := Tryz.underlying5
  a5 := Tryz.isAgg5
  z5 := Tryz.sizeOf5
  v5 := Tryz.zeroValue5
  t9 := Tryz.underlying9
  a9 := Tryz.isAgg9
  z9 := Tryz.sizeOf9
  v9 := Tryz.zeroValue9
  t20 := Tryz.underlying20
  a20 := Tryz.isAgg20
  z20 := Tryz.sizeOf20
  v20 := Tryz.zeroValue20
  t21 := Tryz.underlying21
  a21 := Tryz.isAgg21
  z21 := Tryz.sizeOf21
  v21 := Tryz.zeroValue21
  t37 := Tryz.underlying156
  a37 := Tryz.isAgg156
  z37 := Tryz.sizeOf156
  v37 := Tryz.zeroValue156
  t46 := Tryz.underlying143
  a46 := Tryz.isAgg143
  z46 := Tryz.sizeOf143
  v46 := Tryz.zeroValue143
  t51 := Tryz.underlying176
  a51 := Tryz.isAgg176
  z51 := Tryz.sizeOf176
  v51 := Tryz.zeroValue176
  t70 := Tryz.underlying155
  a70 := Tryz.isAgg155
  z70 := Tryz.sizeOf155
  v70 := Tryz.zeroValue155
  t72 := Tryz.underlying158
  a72 := Tryz.isAgg158
  z72 := Tryz.sizeOf158
  v72 := Tryz.zeroValue158
  t75 := Tryz.underlying161
  a75 := Tryz.isAgg161
  z75 := Tryz.sizeOf161
  v75 := Tryz.zeroValue161
  t76 := Tryz.underlying162
  a76 := Tryz.isAgg162
  z76 := Tryz.sizeOf162
  v76 := Tryz.zeroValue162
  t105 := Tryz.underlying209
  a105 := Tryz.isAgg209
  z105 := Tryz.sizeOf209
  v105 := Tryz.zeroValue209
  t119 := Tryz.underlying215
  a119 := Tryz.isAgg215
  z119 := Tryz.sizeOf215
  t127 := Tryz.underlying188
  a127 := Tryz.isAgg188
  z127 := Tryz.sizeOf188
  v127 := Tryz.zeroValue188
  t138 := Tryz.underlying217
  a138 := Tryz.isAgg217
  z138 := Tryz.sizeOf217
  v138 := Tryz.zeroValue217
  t139 := Tryz.underlying218
  a139 := Tryz.isAgg218
  z139 := Tryz.sizeOf218
  v139 := Tryz.zeroValue218
  t146 := Tryz.underlying219
  a146 := Tryz.isAgg219
  z146 := Tryz.sizeOf219
  v146 := Tryz.zeroValue219
  t164 := Tryz.underlying201
  a164 := Tryz.isAgg201
  z164 := Tryz.sizeOf201
  v164 := Tryz.zeroValue201
  g1 := by kernel_rfl
  g3 := by kernel_rfl
  g4 := by kernel_rfl }
theorem Tryz.Builder_Extra_155 : Builder.Extra Tryz.prog Tryz.lays155_ren := {
  sizeBuilder := by kernel_rfl
  liesBuilder := by kernel_rfl
  t5 := Tryz.underlying5
  a5 := Tryz.isAgg5
  z5 := Tryz.sizeOf5
  v5 := Tryz.zeroValue5
  infoByte := by kernel_rfl
  cellsByte := by kernel_rfl
  sizeByte := by kernel_rfl
  neB5 := by decide }
def Tryz.lays156_ren : Go.Shelf.Ren := ⟨fun | 156 => 152 | 165 => 169 | 166 => 170 | 169 => 171 | 240 => 201 | 241 => 202 | 276 => 218 | 277 => 219 | n => n, fun | 31 => 136 | 9 => 9 | 3 => 3 | 4 => 4 | 0 => 0 | 20 => 20 | 72 => 158 | 76 => 162 | 70 => 155 | 37 => 156 | 75 => 161 | 127 => 188 | 164 => 201 | 5 => 5 | 80 => 164 | n => n, fun | n => n⟩
theorem Tryz.lays156 : Go.Proofs.Lays.n156 Tryz.prog Tryz.lays156_ren := {
  mixed := by kernel_rfl
  f156 := Tryz.func152.trans (congrArg some (by kernel_rfl))
  f165 := Tryz.func169.trans (congrArg some (by kernel_rfl))
  f166 := Tryz.func170.trans (congrArg some (by kernel_rfl))
  f169 := Tryz.func171.trans (congrArg some (by kernel_rfl))
  f240 := Tryz.func201.trans (congrArg some (by kernel_rfl))
  f241 := Tryz.func202.trans (congrArg some (by kernel_rfl))
  f276 := Tryz.func218.trans (congrArg some (by kernel_rfl))
  f277 := Tryz.func219.trans (congrArg some (by kernel_rfl))
  t0 := Tryz.underlying0
  a0 := Tryz.isAgg0
  z0 := Tryz.sizeOf0
  v0 := Tryz.zeroValue0
  t3 := Tryz.underlying3
  a3 := Tryz.isAgg3
  z3 := Tryz.sizeOf3
  v3 := Tryz.zeroValue3
  t4 := Tryz.underlying4
  a4 := Tryz.isAgg4
  z4 := Tryz.sizeOf4
  v4 := Tryz.zeroValue4
  t9 := Tryz.underlying9
  a9 := Tryz.isAgg9
  z9 := Tryz.sizeOf9
  v9 := Tryz.zeroValue9
  t20 := Tryz.underlying20
  a20 := Tryz.isAgg20
  z20 := Tryz.sizeOf20
  v20 := Tryz.zeroValue20
  t31 := Tryz.underlying136
  a31 := Tryz.isAgg136
  z31 := Tryz.sizeOf136
  v31 := Tryz.zeroValue136
  t37 := Tryz.underlying156
  a37 := Tryz.isAgg156
  z37 := Tryz.sizeOf156
  v37 := Tryz.zeroValue156
  t70 := Tryz.underlying155
  a70 := Tryz.isAgg155
  z70 := Tryz.sizeOf155
  v70 := Tryz.zeroValue155
  t72 := Tryz.underlying158
  a72 := Tryz.isAgg158
  z72 := Tryz.sizeOf158
  v72 := Tryz.zeroValue158
  t75 := Tryz.underlying161
  a75 := Tryz.isAgg161
  z75 := Tryz.sizeOf161
  v75 := Tryz.zeroValue161
  t76 := Tryz.underlying162
  a76 := Tryz.isAgg162
  z76 := Tryz.sizeOf162
  v76 := Tryz.zeroValue162
  t127 := Tryz.underlying188
  a127 := Tryz.isAgg188
  z127 := Tryz.sizeOf188
  v127 := Tryz.zeroValue188
  t164 := Tryz.underlying201
  a164 := Tryz.isAgg201
  z164 := Tryz.sizeOf201
  v164 := Tryz.zeroValue201 }
theorem Tryz.Builder_Extra_156 : Builder.Extra Tryz.prog Tryz.lays156_ren := {
  sizeBuilder := by kernel_rfl
  liesBuilder := by kernel_rfl
  t5 := Tryz.underlying5
  a5 := Tryz.isAgg5
  z5 := Tryz.sizeOf5
  v5 := Tryz.zeroValue5
  infoByte := by kernel_rfl
  cellsByte := by kernel_rfl
  sizeByte := by kernel_rfl
  neB5 := by decide }
def Tryz.lays125_ren : Go.Shelf.Ren := ⟨fun | 125 => 156 | 128 => 185 | 129 => 186 | n => n, fun | 46 => 143 | 3 => 3 | 51 => 176 | 53 => 178 | 4 => 4 | 5 => 5 | 9 => 9 | n => n, fun | n => n⟩
theorem Tryz.lays125 : Go.Proofs.Lays.n125 Tryz.prog Tryz.lays125_ren := {
  mixed := by kernel_rfl
  f125 := Tryz.func156.trans (congrArg some (by kernel_rfl))
  f128 := Tryz.func185.trans (congrArg some (by kernel_rfl))
  f129 := Tryz.func186.trans (congrArg some (by kernel_rfl))
  t3 := Tryz.underlying3
  a3 := Tryz.isAgg3
  z3 := Tryz.sizeOf3
  v3 := Tryz.zeroValue3
  t4 := Tryz.underlying4
  a4 := Tryz.isAgg4
  z4 := Tryz.sizeOf4
  v4 := Tryz.zeroValue4
  t5 := Tryz.underlying5
  a5 := Tryz.isAgg5
  z5 := Tryz.sizeOf5
  v5 := Tryz.zeroValue5
  t9 := Tryz.underlying9
  a9 := Tryz.isAgg9
  z9 := Tryz.sizeOf9
  v9 := Tryz.zeroValue9
  t46 := Tryz.underlying143
  a46 := Tryz.isAgg143
  z46 := Tryz.sizeOf143
  v46 := Tryz.zeroValue143
  t51 := Tryz.underlying176
  a51 := Tryz.isAgg176
  z51 := Tryz.sizeOf176
  v51 := Tryz.zeroValue176
  t53 := Tryz.underlying178
  a53 := Tryz.isAgg178
  z53 := Tryz.sizeOf178
  v53 := Tryz.zeroValue178 }
end Go.Proofs
namespace Go.Proofs.YtnolcogncjijpaaGreatDoor
open Go Go.Ab
/-! ### strings.Compare -/
noncomputable def strings_Compare (s p : ByteArray) : Bool × Int := compareF s p
noncomputable def strings_Compare_spec : Ab.Spec ty := mkSpec (cx := base) (aCons (aPure vStr) (aCons (aPure vStr) aNil)) fun x => ((strings_Compare x.1 x.2.1).1, ⟨[.pure (.lit (.int .i64 (strings_Compare x.1 x.2.1).2))], []⟩)
theorem strings_Compare_sound : Sound Tryz.prog base 162 strings_Compare_spec := compare_sound base_ok Go.Proofs.Tryz.lays106 Tryz.call162
end Go.Proofs.YtnolcogncjijpaaGreatDoor
namespace Go.Proofs.YtnolcogncjijpaaGreatDoor
open Go Go.Ab
/-! ### lineage/value.Compare -/
noncomputable def value_Compare_cx : Cx ty := mkCx base 22 [(79, cmp_Compare_int64_spec), (88, cmp_Or_int_spec), (125, cmp_Compare_int_spec), (162, strings_Compare_spec)] [] [] [] [] []
noncomputable def value_Compare_W (a : Value) (b : Value) : Wy0 (Int) := .bn (cmp_Compare_int a.Kind b.Kind) fun r2 => .bn (cmp_Compare_int64 a.Int b.Int) fun r1 => .bn (cmp_Or_int [r2, r1, (strings_Compare a.Text b.Text).snd]) fun r0 => .k r0
noncomputable def value_Compare (a : Value) (b : Value) : Bool × Int := (value_Compare_W a b).fin default
noncomputable def value_Compare_res (r : Int) : ARes ty := ⟨[.pure (.lit (.int .i64 r))], []⟩
noncomputable def value_Compare_A : AL base (Value × Value × Unit) := aCons (aPure (vAgg 46)) (aCons (aPure (vAgg 46)) aNil)
noncomputable def value_Compare_spec : Ab.Spec ty := mkSpec value_Compare_A fun x => ((value_Compare x.1 x.2.1).1, value_Compare_res (value_Compare x.1 x.2.1).2)
theorem value_Compare_sound : Sound Tryz.prog base 128 value_Compare_spec :=
  sound_W (cx' := value_Compare_cx) draws base_ok mkSame (mkSpecs ⟨(cmp_Compare_int64_sound), (cmp_Or_int_sound), (cmp_Compare_int_sound), (strings_Compare_sound), trivial⟩) Tryz.call128 Tryz.func128 (c := body Tryz.f128) (by kernel_rfl) (loopsOK_of (l := []) (by kernel_rfl) trivial) (sg := ⟨[.pure], []⟩) (A := value_Compare_A) (res := value_Compare_res) (W := fun x => value_Compare_W x.1 x.2.1) (z := default) (fun x => by kernel_rfl) (fun _ => by kernel_rfl)
end Go.Proofs.YtnolcogncjijpaaGreatDoor
namespace Go.Proofs.YtnolcogncjijpaaGreatDoor
open Go Go.Ab
/-! ### lineage/annotation.compareAtoms -/
noncomputable def annotation_compareAtoms_b_cx (g_annotation_Compare : List Term → List Term → Bool × Int) (g_annotation_compareItems : Weighted → Weighted → Bool × Int) (g_slices_CompareFunc_Lapi_Annotation_Lapi_Annotation_api_Annotation_api_Annotation : List (List Term) → List (List Term) → Bool × Int) (g_slices_CompareFunc_Lapi_Weighted_Lapi_Weighted_api_Weighted_api_Weighted : List Weighted → List Weighted → Bool × Int) : Cx ty := mkCx base 51 [(38, (annotation_Compare_S g_annotation_Compare)), (85, (annotation_compareItems_S g_annotation_compareItems)), (88, cmp_Or_int_spec), (125, cmp_Compare_int_spec), (126, (slices_CompareFunc_Lapi_Annotation_Lapi_Annotation_api_Annotation_api_Annotation_S g_slices_CompareFunc_Lapi_Annotation_Lapi_Annotation_api_Annotation_api_Annotation)), (127, (slices_CompareFunc_Lapi_Weighted_Lapi_Weighted_api_Weighted_api_Weighted_S g_slices_CompareFunc_Lapi_Weighted_Lapi_Weighted_api_Weighted_api_Weighted)), (128, value_Compare_spec)] [] [] [] [] []
noncomputable def annotation_compareAtoms_b_W (g_annotation_Compare : List Term → List Term → Bool × Int) (g_annotation_compareItems : Weighted → Weighted → Bool × Int) (g_slices_CompareFunc_Lapi_Annotation_Lapi_Annotation_api_Annotation_api_Annotation : List (List Term) → List (List Term) → Bool × Int) (g_slices_CompareFunc_Lapi_Weighted_Lapi_Weighted_api_Weighted_api_Weighted : List Weighted → List Weighted → Bool × Int) (a : Atom) (b : Atom) : Wy0 (Int) := .bn (cmp_Compare_int a.Kind b.Kind) fun r8 => .bn (cmp_Compare_int a.Row.Table b.Row.Table) fun r7 => .bn (cmp_Compare_int a.Row.Seq b.Row.Seq) fun r6 => .bn (g_slices_CompareFunc_Lapi_Annotation_Lapi_Annotation_api_Annotation_api_Annotation a.Args b.Args) fun r5 => .bn (cmp_Compare_int a.Func b.Func) fun r4 => .bn (g_slices_CompareFunc_Lapi_Weighted_Lapi_Weighted_api_Weighted_api_Weighted a.Items b.Items) fun r3 => .bn (cmp_Compare_int a.Op b.Op) fun r2 => .bn (value_Compare a.Bound b.Bound) fun r1 => .bn (cmp_Or_int [r8, r7, r6, r5, r4, r3, r2, r1]) fun r0 => .k r0
noncomputable def annotation_compareAtoms_b (g_annotation_Compare : List Term → List Term → Bool × Int) (g_annotation_compareItems : Weighted → Weighted → Bool × Int) (g_slices_CompareFunc_Lapi_Annotation_Lapi_Annotation_api_Annotation_api_Annotation : List (List Term) → List (List Term) → Bool × Int) (g_slices_CompareFunc_Lapi_Weighted_Lapi_Weighted_api_Weighted_api_Weighted : List Weighted → List Weighted → Bool × Int) (a : Atom) (b : Atom) : Bool × Int := (annotation_compareAtoms_b_W g_annotation_Compare g_annotation_compareItems g_slices_CompareFunc_Lapi_Annotation_Lapi_Annotation_api_Annotation_api_Annotation g_slices_CompareFunc_Lapi_Weighted_Lapi_Weighted_api_Weighted_api_Weighted a b).fin default
theorem annotation_compareAtoms_b_sound (g_annotation_Compare : List Term → List Term → Bool × Int) (g_annotation_compareItems : Weighted → Weighted → Bool × Int) (g_slices_CompareFunc_Lapi_Annotation_Lapi_Annotation_api_Annotation_api_Annotation : List (List Term) → List (List Term) → Bool × Int) (g_slices_CompareFunc_Lapi_Weighted_Lapi_Weighted_api_Weighted_api_Weighted : List Weighted → List Weighted → Bool × Int) (h_g_annotation_Compare : Sound Tryz.prog base 38 (annotation_Compare_S g_annotation_Compare)) (h_g_annotation_compareItems : Sound Tryz.prog base 85 (annotation_compareItems_S g_annotation_compareItems)) (h_g_slices_CompareFunc_Lapi_Annotation_Lapi_Annotation_api_Annotation_api_Annotation : Sound Tryz.prog base 126 (slices_CompareFunc_Lapi_Annotation_Lapi_Annotation_api_Annotation_api_Annotation_S g_slices_CompareFunc_Lapi_Annotation_Lapi_Annotation_api_Annotation_api_Annotation)) (h_g_slices_CompareFunc_Lapi_Weighted_Lapi_Weighted_api_Weighted_api_Weighted : Sound Tryz.prog base 127 (slices_CompareFunc_Lapi_Weighted_Lapi_Weighted_api_Weighted_api_Weighted_S g_slices_CompareFunc_Lapi_Weighted_Lapi_Weighted_api_Weighted_api_Weighted)) : Sound Tryz.prog base 73 (annotation_compareAtoms_S (annotation_compareAtoms_b g_annotation_Compare g_annotation_compareItems g_slices_CompareFunc_Lapi_Annotation_Lapi_Annotation_api_Annotation_api_Annotation g_slices_CompareFunc_Lapi_Weighted_Lapi_Weighted_api_Weighted_api_Weighted)) :=
  sound_W (cx' := (annotation_compareAtoms_b_cx g_annotation_Compare g_annotation_compareItems g_slices_CompareFunc_Lapi_Annotation_Lapi_Annotation_api_Annotation_api_Annotation g_slices_CompareFunc_Lapi_Weighted_Lapi_Weighted_api_Weighted_api_Weighted)) draws base_ok mkSame (mkSpecs ⟨(h_g_annotation_Compare), (h_g_annotation_compareItems), (cmp_Or_int_sound), (cmp_Compare_int_sound), (h_g_slices_CompareFunc_Lapi_Annotation_Lapi_Annotation_api_Annotation_api_Annotation), (h_g_slices_CompareFunc_Lapi_Weighted_Lapi_Weighted_api_Weighted_api_Weighted), (value_Compare_sound), trivial⟩) Tryz.call73 Tryz.func73 (c := body Tryz.f73) (by kernel_rfl) (loopsOK_of (l := []) (by kernel_rfl) trivial) (sg := ⟨[.pure], []⟩) (A := annotation_compareAtoms_A) (res := annotation_compareAtoms_res) (W := fun x => annotation_compareAtoms_b_W g_annotation_Compare g_annotation_compareItems g_slices_CompareFunc_Lapi_Annotation_Lapi_Annotation_api_Annotation_api_Annotation g_slices_CompareFunc_Lapi_Weighted_Lapi_Weighted_api_Weighted_api_Weighted x.1 x.2.1) (z := default) (fun x => by kernel_rfl) (fun _ => by kernel_rfl)
end Go.Proofs.YtnolcogncjijpaaGreatDoor
namespace Go.Proofs.YtnolcogncjijpaaGreatDoor
open Go Go.Ab
/-! ### lineage/annotation.compareFactors -/
noncomputable def annotation_compareFactors_b_cx (g_annotation_compareAtoms : Atom → Atom → Bool × Int) : Cx ty := mkCx base 17 [(73, (annotation_compareAtoms_S g_annotation_compareAtoms)), (88, cmp_Or_int_spec), (125, cmp_Compare_int_spec)] [] [] [] [] []
noncomputable def annotation_compareFactors_b_W (g_annotation_compareAtoms : Atom → Atom → Bool × Int) (a : Factor) (b : Factor) : Wy0 (Int) := .bn (g_annotation_compareAtoms (Atom.mk a.Atom.Kind a.Atom.Row a.Atom.Args a.Atom.Func a.Atom.Items a.Atom.Op a.Atom.Bound) (Atom.mk b.Atom.Kind b.Atom.Row b.Atom.Args b.Atom.Func b.Atom.Items b.Atom.Op b.Atom.Bound)) fun r2 => .bn (cmp_Compare_int a.Exp b.Exp) fun r1 => .bn (cmp_Or_int [r2, r1]) fun r0 => .k r0
noncomputable def annotation_compareFactors_b (g_annotation_compareAtoms : Atom → Atom → Bool × Int) (a : Factor) (b : Factor) : Bool × Int := (annotation_compareFactors_b_W g_annotation_compareAtoms a b).fin default
theorem annotation_compareFactors_b_sound (g_annotation_compareAtoms : Atom → Atom → Bool × Int) (h_g_annotation_compareAtoms : Sound Tryz.prog base 73 (annotation_compareAtoms_S g_annotation_compareAtoms)) : Sound Tryz.prog base 124 (annotation_compareFactors_S (annotation_compareFactors_b g_annotation_compareAtoms)) :=
  sound_W (cx' := (annotation_compareFactors_b_cx g_annotation_compareAtoms)) draws base_ok mkSame (mkSpecs ⟨(h_g_annotation_compareAtoms), (cmp_Or_int_sound), (cmp_Compare_int_sound), trivial⟩) Tryz.call124 Tryz.func124 (c := body Tryz.f124) (by kernel_rfl) (loopsOK_of (l := []) (by kernel_rfl) trivial) (sg := ⟨[.pure], []⟩) (A := annotation_compareFactors_A) (res := annotation_compareFactors_res) (W := fun x => annotation_compareFactors_b_W g_annotation_compareAtoms x.1 x.2.1) (z := default) (fun x => by kernel_rfl) (fun _ => by kernel_rfl)
end Go.Proofs.YtnolcogncjijpaaGreatDoor
namespace Go.Proofs.YtnolcogncjijpaaGreatDoor
open Go Go.Ab
/-! ### lineage/annotation.compareItems -/
noncomputable def annotation_compareItems_b_cx (g_annotation_Compare : List Term → List Term → Bool × Int) : Cx ty := mkCx base 17 [(38, (annotation_Compare_S g_annotation_Compare)), (88, cmp_Or_int_spec), (128, value_Compare_spec)] [] [] [] [] []
noncomputable def annotation_compareItems_b_W (g_annotation_Compare : List Term → List Term → Bool × Int) (a : Weighted) (b : Weighted) : Wy0 (Int) := .bn (value_Compare a.Value b.Value) fun r2 => .bn (g_annotation_Compare a.Ann b.Ann) fun r1 => .bn (cmp_Or_int [r2, r1]) fun r0 => .k r0
noncomputable def annotation_compareItems_b (g_annotation_Compare : List Term → List Term → Bool × Int) (a : Weighted) (b : Weighted) : Bool × Int := (annotation_compareItems_b_W g_annotation_Compare a b).fin default
theorem annotation_compareItems_b_sound (g_annotation_Compare : List Term → List Term → Bool × Int) (h_g_annotation_Compare : Sound Tryz.prog base 38 (annotation_Compare_S g_annotation_Compare)) : Sound Tryz.prog base 85 (annotation_compareItems_S (annotation_compareItems_b g_annotation_Compare)) :=
  sound_W (cx' := (annotation_compareItems_b_cx g_annotation_Compare)) draws base_ok mkSame (mkSpecs ⟨(h_g_annotation_Compare), (cmp_Or_int_sound), (value_Compare_sound), trivial⟩) Tryz.call85 Tryz.func85 (c := body Tryz.f85) (by kernel_rfl) (loopsOK_of (l := []) (by kernel_rfl) trivial) (sg := ⟨[.pure], []⟩) (A := annotation_compareItems_A) (res := annotation_compareItems_res) (W := fun x => annotation_compareItems_b_W g_annotation_Compare x.1 x.2.1) (z := default) (fun x => by kernel_rfl) (fun _ => by kernel_rfl)
end Go.Proofs.YtnolcogncjijpaaGreatDoor
namespace Go.Proofs.YtnolcogncjijpaaGreatDoor
open Go Go.Ab
/-! ### lineage/annotation.compareLists -/
noncomputable def annotation_compareLists_b_cx (g_slices_CompareFunc_Lapi_Factor_Lapi_Factor_api_Factor_api_Factor : List Factor → List Factor → Bool × Int) (g_annotation_compareFactors : Factor → Factor → Bool × Int) : Cx ty := mkCx base 10 [(123, (slices_CompareFunc_Lapi_Factor_Lapi_Factor_api_Factor_api_Factor_S g_slices_CompareFunc_Lapi_Factor_Lapi_Factor_api_Factor_api_Factor)), (124, (annotation_compareFactors_S g_annotation_compareFactors))] [] [] [] [] []
noncomputable def annotation_compareLists_b_W (g_slices_CompareFunc_Lapi_Factor_Lapi_Factor_api_Factor_api_Factor : List Factor → List Factor → Bool × Int) (g_annotation_compareFactors : Factor → Factor → Bool × Int) (a : Term) (b : Term) : Wy0 (Int) := .bn (g_slices_CompareFunc_Lapi_Factor_Lapi_Factor_api_Factor_api_Factor a.Factors b.Factors) fun r0 => .k r0
noncomputable def annotation_compareLists_b (g_slices_CompareFunc_Lapi_Factor_Lapi_Factor_api_Factor_api_Factor : List Factor → List Factor → Bool × Int) (g_annotation_compareFactors : Factor → Factor → Bool × Int) (a : Term) (b : Term) : Bool × Int := (annotation_compareLists_b_W g_slices_CompareFunc_Lapi_Factor_Lapi_Factor_api_Factor_api_Factor g_annotation_compareFactors a b).fin default
theorem annotation_compareLists_b_sound (g_slices_CompareFunc_Lapi_Factor_Lapi_Factor_api_Factor_api_Factor : List Factor → List Factor → Bool × Int) (g_annotation_compareFactors : Factor → Factor → Bool × Int) (h_g_slices_CompareFunc_Lapi_Factor_Lapi_Factor_api_Factor_api_Factor : Sound Tryz.prog base 123 (slices_CompareFunc_Lapi_Factor_Lapi_Factor_api_Factor_api_Factor_S g_slices_CompareFunc_Lapi_Factor_Lapi_Factor_api_Factor_api_Factor)) (h_g_annotation_compareFactors : Sound Tryz.prog base 124 (annotation_compareFactors_S g_annotation_compareFactors)) : Sound Tryz.prog base 71 (annotation_compareLists_S (annotation_compareLists_b g_slices_CompareFunc_Lapi_Factor_Lapi_Factor_api_Factor_api_Factor g_annotation_compareFactors)) :=
  sound_W (cx' := (annotation_compareLists_b_cx g_slices_CompareFunc_Lapi_Factor_Lapi_Factor_api_Factor_api_Factor g_annotation_compareFactors)) draws base_ok mkSame (mkSpecs ⟨(h_g_slices_CompareFunc_Lapi_Factor_Lapi_Factor_api_Factor_api_Factor), (h_g_annotation_compareFactors), trivial⟩) Tryz.call71 Tryz.func71 (c := body Tryz.f71) (by kernel_rfl) (loopsOK_of (l := []) (by kernel_rfl) trivial) (sg := ⟨[.pure], []⟩) (A := annotation_compareLists_A) (res := annotation_compareLists_res) (W := fun x => annotation_compareLists_b_W g_slices_CompareFunc_Lapi_Factor_Lapi_Factor_api_Factor_api_Factor g_annotation_compareFactors x.1 x.2.1) (z := default) (fun x => by kernel_rfl) (fun _ => by kernel_rfl)
end Go.Proofs.YtnolcogncjijpaaGreatDoor
namespace Go.Proofs.YtnolcogncjijpaaGreatDoor
open Go Go.Ab
/-! ### slices.CompareFunc[[]lineage/api.Annotation,[]lineage/api.Annotation,lineage/api.Annotation,lineage/api.Annotation] -/
noncomputable def slices_CompareFunc_Lapi_Annotation_Lapi_Annotation_api_Annotation_api_Annotation_b_W2 (g_annotation_Compare : List Term → List Term → Bool × Int) (s1 : List (List Term)) (s2 : List (List Term)) (t11 : List (List Term)) (t12 : Int) (t13 : Int) : Wy (List (List Term) × List (List Term) × Unit × List (List Term) × Int × Int × Unit) (Unit) (Int ⊕ (List (List Term) × List (List Term))) := .i (decide (t13 < t12)) (.i (decide ((0 : Int) ≤ t13) && decide (t13 < Int.ofNat t11.length)) (.i (decide (t13 ≥ Int.ofNat s2.length)) (.k (.inl (1 : Int))) (.i (decide ((0 : Int) ≤ t13) && decide (t13 < Int.ofNat s2.length)) (.bn (g_annotation_Compare (t11.getD t13.toNat default) (s2.getD t13.toNat default)) fun r0 => .i (r0 != (0 : Int)) (.k (.inl (r0))) (.h (s1, s2, (), t11, t12, (IntKind.i64.wrap (t13 + (1 : Int))), ()) ())) .d)) .d) (.k (.inr (s1, s2)))
noncomputable def slices_CompareFunc_Lapi_Annotation_Lapi_Annotation_api_Annotation_api_Annotation_b_w2 (g_annotation_Compare : List Term → List Term → Bool × Int) (x : List (List Term) × List (List Term) × Unit × List (List Term) × Int × Int × Unit) (y : Unit) : Wy (List (List Term) × List (List Term) × Unit × List (List Term) × Int × Int × Unit) (Unit) (Int ⊕ (List (List Term) × List (List Term))) := slices_CompareFunc_Lapi_Annotation_Lapi_Annotation_api_Annotation_api_Annotation_b_W2 g_annotation_Compare x.1 x.2.1 x.2.2.2.1 x.2.2.2.2.1 x.2.2.2.2.2.1
noncomputable def slices_CompareFunc_Lapi_Annotation_Lapi_Annotation_api_Annotation_api_Annotation_b_L2 (g_annotation_Compare : List Term → List Term → Bool × Int) (n : Nat) (s1 : List (List Term)) (s2 : List (List Term)) (t11 : List (List Term)) (t12 : Int) (t13 : Int) : Bool × (Int ⊕ (List (List Term) × List (List Term))) := iterW (slices_CompareFunc_Lapi_Annotation_Lapi_Annotation_api_Annotation_api_Annotation_b_w2 g_annotation_Compare) (.inl default) n (s1, s2, (), t11, t12, t13, ()) ()
noncomputable def slices_CompareFunc_Lapi_Annotation_Lapi_Annotation_api_Annotation_api_Annotation_b_tr2 (r : Int ⊕ (List (List Term) × List (List Term))) : LTree ty := .ite (isL r) (.done .ret [.lit (.int .i64 (getL r))] []) (.done (.exit 0) [.sl 23 ((getR r).1), .sl 23 ((getR r).2)] [])
noncomputable def slices_CompareFunc_Lapi_Annotation_Lapi_Annotation_api_Annotation_api_Annotation_b_V2 : LL ty (List (List Term) × List (List Term) × Unit × List (List Term) × Int × Int × Unit) := llCons (lSl 23) (llCons (lSl 23) (llCons (lFn 38 (llNil)) (llCons (lSl 23) (llCons (lInt .i64) (llCons (lInt .i64) llNil)))))
noncomputable def slices_CompareFunc_Lapi_Annotation_Lapi_Annotation_api_Annotation_api_Annotation_b_B2 : BL ty (Unit) := bNil
noncomputable def slices_CompareFunc_Lapi_Annotation_Lapi_Annotation_api_Annotation_api_Annotation_b_cx (g_annotation_Compare : List Term → List Term → Bool × Int) : Cx ty := mkCx base 39 [(38, (annotation_Compare_S g_annotation_Compare))] [] [(2, [(0, .keep), (1, .keep), (2, .keep), (11, .keep), (12, .keep), (13, .keep)])] [(2, 1, [(0, .keep), (1, .keep)]), (2, 0, [(6, .keep)])] [(2, spW slices_CompareFunc_Lapi_Annotation_Lapi_Annotation_api_Annotation_api_Annotation_b_V2 slices_CompareFunc_Lapi_Annotation_Lapi_Annotation_api_Annotation_api_Annotation_b_B2 (slices_CompareFunc_Lapi_Annotation_Lapi_Annotation_api_Annotation_api_Annotation_b_w2 g_annotation_Compare) (.inl default) slices_CompareFunc_Lapi_Annotation_Lapi_Annotation_api_Annotation_api_Annotation_b_tr2 fun x y => (x.1.length + x.2.1.length + x.2.2.2.1.length + Int.toNat x.2.2.2.2.1 + Int.toNat x.2.2.2.2.2.1 + 1))] []
theorem slices_CompareFunc_Lapi_Annotation_Lapi_Annotation_api_Annotation_api_Annotation_b_to2 (g_annotation_Compare : List Term → List Term → Bool × Int) : LoopOK (slices_CompareFunc_Lapi_Annotation_Lapi_Annotation_api_Annotation_api_Annotation_b_cx g_annotation_Compare) (lp (body Tryz.f126) 0) := loopOK_W (id := 2) (V := slices_CompareFunc_Lapi_Annotation_Lapi_Annotation_api_Annotation_api_Annotation_b_V2) (B := slices_CompareFunc_Lapi_Annotation_Lapi_Annotation_api_Annotation_api_Annotation_b_B2) (W := slices_CompareFunc_Lapi_Annotation_Lapi_Annotation_api_Annotation_api_Annotation_b_w2 g_annotation_Compare) (z := .inl default) (tr := slices_CompareFunc_Lapi_Annotation_Lapi_Annotation_api_Annotation_api_Annotation_b_tr2) (m := fun x y => (x.1.length + x.2.1.length + x.2.2.2.1.length + Int.toNat x.2.2.2.2.1 + Int.toNat x.2.2.2.2.2.1 + 1)) (by kernel_rfl) (by kernel_rfl) fun R H K x y => by kernel_rfl
noncomputable def slices_CompareFunc_Lapi_Annotation_Lapi_Annotation_api_Annotation_api_Annotation_b_W (g_annotation_Compare : List Term → List Term → Bool × Int) (s1 : List (List Term)) (s2 : List (List Term)) : Wy0 (Int) := .bn (slices_CompareFunc_Lapi_Annotation_Lapi_Annotation_api_Annotation_api_Annotation_b_L2 g_annotation_Compare (s1.length + s2.length + s1.length + (Int.ofNat s1.length).toNat + Int.toNat (0 : Int) + (1 : Nat)) s1 s2 s1 (Int.ofNat s1.length) (0 : Int)) fun r2 => .i (isL r2) (.k (getL r2)) (.i (decide (Int.ofNat (getR r2).fst.length < Int.ofNat (getR r2).snd.length)) (.k (-1 : Int)) (.k (0 : Int)))
noncomputable def slices_CompareFunc_Lapi_Annotation_Lapi_Annotation_api_Annotation_api_Annotation_b (g_annotation_Compare : List Term → List Term → Bool × Int) (s1 : List (List Term)) (s2 : List (List Term)) : Bool × Int := (slices_CompareFunc_Lapi_Annotation_Lapi_Annotation_api_Annotation_api_Annotation_b_W g_annotation_Compare s1 s2).fin default
theorem slices_CompareFunc_Lapi_Annotation_Lapi_Annotation_api_Annotation_api_Annotation_b_sound (g_annotation_Compare : List Term → List Term → Bool × Int) (h_g_annotation_Compare : Sound Tryz.prog base 38 (annotation_Compare_S g_annotation_Compare)) : Sound Tryz.prog base 126 (slices_CompareFunc_Lapi_Annotation_Lapi_Annotation_api_Annotation_api_Annotation_S (slices_CompareFunc_Lapi_Annotation_Lapi_Annotation_api_Annotation_api_Annotation_b g_annotation_Compare)) :=
  sound_W (cx' := (slices_CompareFunc_Lapi_Annotation_Lapi_Annotation_api_Annotation_api_Annotation_b_cx g_annotation_Compare)) draws base_ok mkSame (mkSpecs ⟨(h_g_annotation_Compare), trivial⟩) Tryz.call126 Tryz.func126 (c := body Tryz.f126) (by kernel_rfl) (loopsOK_of (l := [lp (body Tryz.f126) 0]) (by kernel_rfl) ⟨slices_CompareFunc_Lapi_Annotation_Lapi_Annotation_api_Annotation_api_Annotation_b_to2 g_annotation_Compare, trivial⟩) (sg := ⟨[.pure], []⟩) (A := slices_CompareFunc_Lapi_Annotation_Lapi_Annotation_api_Annotation_api_Annotation_A) (res := slices_CompareFunc_Lapi_Annotation_Lapi_Annotation_api_Annotation_api_Annotation_res) (W := fun x => slices_CompareFunc_Lapi_Annotation_Lapi_Annotation_api_Annotation_api_Annotation_b_W g_annotation_Compare x.1 x.2.1) (z := default) (fun x => by kernel_rfl) (fun _ => by kernel_rfl)
end Go.Proofs.YtnolcogncjijpaaGreatDoor
namespace Go.Proofs.YtnolcogncjijpaaGreatDoor
open Go Go.Ab
/-! ### slices.CompareFunc[[]lineage/api.Factor,[]lineage/api.Factor,lineage/api.Factor,lineage/api.Factor] -/
noncomputable def slices_CompareFunc_Lapi_Factor_Lapi_Factor_api_Factor_api_Factor_b_W2 (g_annotation_compareFactors : Factor → Factor → Bool × Int) (s1 : List Factor) (s2 : List Factor) (t11 : List Factor) (t12 : Int) (t13 : Int) : Wy (List Factor × List Factor × Unit × List Factor × Int × Int × Unit) (Unit) (Int ⊕ (List Factor × List Factor)) := .i (decide (t13 < t12)) (.i (decide ((0 : Int) ≤ t13) && decide (t13 < Int.ofNat t11.length)) (.i (decide (t13 ≥ Int.ofNat s2.length)) (.k (.inl (1 : Int))) (.i (decide ((0 : Int) ≤ t13) && decide (t13 < Int.ofNat s2.length)) (.bn (g_annotation_compareFactors (FactorOf.mk (Atom.mk (t11.getD t13.toNat default).Atom.Kind (t11.getD t13.toNat default).Atom.Row (t11.getD t13.toNat default).Atom.Args (t11.getD t13.toNat default).Atom.Func (t11.getD t13.toNat default).Atom.Items (t11.getD t13.toNat default).Atom.Op (t11.getD t13.toNat default).Atom.Bound) (t11.getD t13.toNat default).Exp) (FactorOf.mk (Atom.mk (s2.getD t13.toNat default).Atom.Kind (s2.getD t13.toNat default).Atom.Row (s2.getD t13.toNat default).Atom.Args (s2.getD t13.toNat default).Atom.Func (s2.getD t13.toNat default).Atom.Items (s2.getD t13.toNat default).Atom.Op (s2.getD t13.toNat default).Atom.Bound) (s2.getD t13.toNat default).Exp)) fun r0 => .i (r0 != (0 : Int)) (.k (.inl (r0))) (.h (s1, s2, (), t11, t12, (IntKind.i64.wrap (t13 + (1 : Int))), ()) ())) .d)) .d) (.k (.inr (s1, s2)))
noncomputable def slices_CompareFunc_Lapi_Factor_Lapi_Factor_api_Factor_api_Factor_b_w2 (g_annotation_compareFactors : Factor → Factor → Bool × Int) (x : List Factor × List Factor × Unit × List Factor × Int × Int × Unit) (y : Unit) : Wy (List Factor × List Factor × Unit × List Factor × Int × Int × Unit) (Unit) (Int ⊕ (List Factor × List Factor)) := slices_CompareFunc_Lapi_Factor_Lapi_Factor_api_Factor_api_Factor_b_W2 g_annotation_compareFactors x.1 x.2.1 x.2.2.2.1 x.2.2.2.2.1 x.2.2.2.2.2.1
noncomputable def slices_CompareFunc_Lapi_Factor_Lapi_Factor_api_Factor_api_Factor_b_L2 (g_annotation_compareFactors : Factor → Factor → Bool × Int) (n : Nat) (s1 : List Factor) (s2 : List Factor) (t11 : List Factor) (t12 : Int) (t13 : Int) : Bool × (Int ⊕ (List Factor × List Factor)) := iterW (slices_CompareFunc_Lapi_Factor_Lapi_Factor_api_Factor_api_Factor_b_w2 g_annotation_compareFactors) (.inl default) n (s1, s2, (), t11, t12, t13, ()) ()
noncomputable def slices_CompareFunc_Lapi_Factor_Lapi_Factor_api_Factor_api_Factor_b_tr2 (r : Int ⊕ (List Factor × List Factor)) : LTree ty := .ite (isL r) (.done .ret [.lit (.int .i64 (getL r))] []) (.done (.exit 0) [.sl 50 ((getR r).1), .sl 50 ((getR r).2)] [])
noncomputable def slices_CompareFunc_Lapi_Factor_Lapi_Factor_api_Factor_api_Factor_b_V2 : LL ty (List Factor × List Factor × Unit × List Factor × Int × Int × Unit) := llCons (lSl 50) (llCons (lSl 50) (llCons (lFn 124 (llNil)) (llCons (lSl 50) (llCons (lInt .i64) (llCons (lInt .i64) llNil)))))
noncomputable def slices_CompareFunc_Lapi_Factor_Lapi_Factor_api_Factor_api_Factor_b_B2 : BL ty (Unit) := bNil
noncomputable def slices_CompareFunc_Lapi_Factor_Lapi_Factor_api_Factor_api_Factor_b_cx (g_annotation_compareFactors : Factor → Factor → Bool × Int) : Cx ty := mkCx base 39 [(124, (annotation_compareFactors_S g_annotation_compareFactors))] [] [(2, [(0, .keep), (1, .keep), (2, .keep), (11, .keep), (12, .keep), (13, .keep)])] [(2, 1, [(0, .keep), (1, .keep)]), (2, 0, [(6, .keep)])] [(2, spW slices_CompareFunc_Lapi_Factor_Lapi_Factor_api_Factor_api_Factor_b_V2 slices_CompareFunc_Lapi_Factor_Lapi_Factor_api_Factor_api_Factor_b_B2 (slices_CompareFunc_Lapi_Factor_Lapi_Factor_api_Factor_api_Factor_b_w2 g_annotation_compareFactors) (.inl default) slices_CompareFunc_Lapi_Factor_Lapi_Factor_api_Factor_api_Factor_b_tr2 fun x y => (x.1.length + x.2.1.length + x.2.2.2.1.length + Int.toNat x.2.2.2.2.1 + Int.toNat x.2.2.2.2.2.1 + 1))] []
theorem slices_CompareFunc_Lapi_Factor_Lapi_Factor_api_Factor_api_Factor_b_to2 (g_annotation_compareFactors : Factor → Factor → Bool × Int) : LoopOK (slices_CompareFunc_Lapi_Factor_Lapi_Factor_api_Factor_api_Factor_b_cx g_annotation_compareFactors) (lp (body Tryz.f123) 0) := loopOK_W (id := 2) (V := slices_CompareFunc_Lapi_Factor_Lapi_Factor_api_Factor_api_Factor_b_V2) (B := slices_CompareFunc_Lapi_Factor_Lapi_Factor_api_Factor_api_Factor_b_B2) (W := slices_CompareFunc_Lapi_Factor_Lapi_Factor_api_Factor_api_Factor_b_w2 g_annotation_compareFactors) (z := .inl default) (tr := slices_CompareFunc_Lapi_Factor_Lapi_Factor_api_Factor_api_Factor_b_tr2) (m := fun x y => (x.1.length + x.2.1.length + x.2.2.2.1.length + Int.toNat x.2.2.2.2.1 + Int.toNat x.2.2.2.2.2.1 + 1)) (by kernel_rfl) (by kernel_rfl) fun R H K x y => by kernel_rfl
noncomputable def slices_CompareFunc_Lapi_Factor_Lapi_Factor_api_Factor_api_Factor_b_W (g_annotation_compareFactors : Factor → Factor → Bool × Int) (s1 : List Factor) (s2 : List Factor) : Wy0 (Int) := .bn (slices_CompareFunc_Lapi_Factor_Lapi_Factor_api_Factor_api_Factor_b_L2 g_annotation_compareFactors (s1.length + s2.length + s1.length + (Int.ofNat s1.length).toNat + Int.toNat (0 : Int) + (1 : Nat)) s1 s2 s1 (Int.ofNat s1.length) (0 : Int)) fun r2 => .i (isL r2) (.k (getL r2)) (.i (decide (Int.ofNat (getR r2).fst.length < Int.ofNat (getR r2).snd.length)) (.k (-1 : Int)) (.k (0 : Int)))
noncomputable def slices_CompareFunc_Lapi_Factor_Lapi_Factor_api_Factor_api_Factor_b (g_annotation_compareFactors : Factor → Factor → Bool × Int) (s1 : List Factor) (s2 : List Factor) : Bool × Int := (slices_CompareFunc_Lapi_Factor_Lapi_Factor_api_Factor_api_Factor_b_W g_annotation_compareFactors s1 s2).fin default
theorem slices_CompareFunc_Lapi_Factor_Lapi_Factor_api_Factor_api_Factor_b_sound (g_annotation_compareFactors : Factor → Factor → Bool × Int) (h_g_annotation_compareFactors : Sound Tryz.prog base 124 (annotation_compareFactors_S g_annotation_compareFactors)) : Sound Tryz.prog base 123 (slices_CompareFunc_Lapi_Factor_Lapi_Factor_api_Factor_api_Factor_S (slices_CompareFunc_Lapi_Factor_Lapi_Factor_api_Factor_api_Factor_b g_annotation_compareFactors)) :=
  sound_W (cx' := (slices_CompareFunc_Lapi_Factor_Lapi_Factor_api_Factor_api_Factor_b_cx g_annotation_compareFactors)) draws base_ok mkSame (mkSpecs ⟨(h_g_annotation_compareFactors), trivial⟩) Tryz.call123 Tryz.func123 (c := body Tryz.f123) (by kernel_rfl) (loopsOK_of (l := [lp (body Tryz.f123) 0]) (by kernel_rfl) ⟨slices_CompareFunc_Lapi_Factor_Lapi_Factor_api_Factor_api_Factor_b_to2 g_annotation_compareFactors, trivial⟩) (sg := ⟨[.pure], []⟩) (A := slices_CompareFunc_Lapi_Factor_Lapi_Factor_api_Factor_api_Factor_A) (res := slices_CompareFunc_Lapi_Factor_Lapi_Factor_api_Factor_api_Factor_res) (W := fun x => slices_CompareFunc_Lapi_Factor_Lapi_Factor_api_Factor_api_Factor_b_W g_annotation_compareFactors x.1 x.2.1) (z := default) (fun x => by kernel_rfl) (fun _ => by kernel_rfl)
end Go.Proofs.YtnolcogncjijpaaGreatDoor
namespace Go.Proofs.YtnolcogncjijpaaGreatDoor
open Go Go.Ab
/-! ### slices.CompareFunc[[]lineage/api.Weighted,[]lineage/api.Weighted,lineage/api.Weighted,lineage/api.Weighted] -/
noncomputable def slices_CompareFunc_Lapi_Weighted_Lapi_Weighted_api_Weighted_api_Weighted_b_W2 (g_annotation_compareItems : Weighted → Weighted → Bool × Int) (s1 : List Weighted) (s2 : List Weighted) (t11 : List Weighted) (t12 : Int) (t13 : Int) : Wy (List Weighted × List Weighted × Unit × List Weighted × Int × Int × Unit) (Unit) (Int ⊕ (List Weighted × List Weighted)) := .i (decide (t13 < t12)) (.i (decide ((0 : Int) ≤ t13) && decide (t13 < Int.ofNat t11.length)) (.i (decide (t13 ≥ Int.ofNat s2.length)) (.k (.inl (1 : Int))) (.i (decide ((0 : Int) ≤ t13) && decide (t13 < Int.ofNat s2.length)) (.bn (g_annotation_compareItems (t11.getD t13.toNat default) (s2.getD t13.toNat default)) fun r0 => .i (r0 != (0 : Int)) (.k (.inl (r0))) (.h (s1, s2, (), t11, t12, (IntKind.i64.wrap (t13 + (1 : Int))), ()) ())) .d)) .d) (.k (.inr (s1, s2)))
noncomputable def slices_CompareFunc_Lapi_Weighted_Lapi_Weighted_api_Weighted_api_Weighted_b_w2 (g_annotation_compareItems : Weighted → Weighted → Bool × Int) (x : List Weighted × List Weighted × Unit × List Weighted × Int × Int × Unit) (y : Unit) : Wy (List Weighted × List Weighted × Unit × List Weighted × Int × Int × Unit) (Unit) (Int ⊕ (List Weighted × List Weighted)) := slices_CompareFunc_Lapi_Weighted_Lapi_Weighted_api_Weighted_api_Weighted_b_W2 g_annotation_compareItems x.1 x.2.1 x.2.2.2.1 x.2.2.2.2.1 x.2.2.2.2.2.1
noncomputable def slices_CompareFunc_Lapi_Weighted_Lapi_Weighted_api_Weighted_api_Weighted_b_L2 (g_annotation_compareItems : Weighted → Weighted → Bool × Int) (n : Nat) (s1 : List Weighted) (s2 : List Weighted) (t11 : List Weighted) (t12 : Int) (t13 : Int) : Bool × (Int ⊕ (List Weighted × List Weighted)) := iterW (slices_CompareFunc_Lapi_Weighted_Lapi_Weighted_api_Weighted_api_Weighted_b_w2 g_annotation_compareItems) (.inl default) n (s1, s2, (), t11, t12, t13, ()) ()
noncomputable def slices_CompareFunc_Lapi_Weighted_Lapi_Weighted_api_Weighted_api_Weighted_b_tr2 (r : Int ⊕ (List Weighted × List Weighted)) : LTree ty := .ite (isL r) (.done .ret [.lit (.int .i64 (getL r))] []) (.done (.exit 0) [.sl 52 ((getR r).1), .sl 52 ((getR r).2)] [])
noncomputable def slices_CompareFunc_Lapi_Weighted_Lapi_Weighted_api_Weighted_api_Weighted_b_V2 : LL ty (List Weighted × List Weighted × Unit × List Weighted × Int × Int × Unit) := llCons (lSl 52) (llCons (lSl 52) (llCons (lFn 85 (llNil)) (llCons (lSl 52) (llCons (lInt .i64) (llCons (lInt .i64) llNil)))))
noncomputable def slices_CompareFunc_Lapi_Weighted_Lapi_Weighted_api_Weighted_api_Weighted_b_B2 : BL ty (Unit) := bNil
noncomputable def slices_CompareFunc_Lapi_Weighted_Lapi_Weighted_api_Weighted_api_Weighted_b_cx (g_annotation_compareItems : Weighted → Weighted → Bool × Int) : Cx ty := mkCx base 39 [(85, (annotation_compareItems_S g_annotation_compareItems))] [] [(2, [(0, .keep), (1, .keep), (2, .keep), (11, .keep), (12, .keep), (13, .keep)])] [(2, 1, [(0, .keep), (1, .keep)]), (2, 0, [(6, .keep)])] [(2, spW slices_CompareFunc_Lapi_Weighted_Lapi_Weighted_api_Weighted_api_Weighted_b_V2 slices_CompareFunc_Lapi_Weighted_Lapi_Weighted_api_Weighted_api_Weighted_b_B2 (slices_CompareFunc_Lapi_Weighted_Lapi_Weighted_api_Weighted_api_Weighted_b_w2 g_annotation_compareItems) (.inl default) slices_CompareFunc_Lapi_Weighted_Lapi_Weighted_api_Weighted_api_Weighted_b_tr2 fun x y => (x.1.length + x.2.1.length + x.2.2.2.1.length + Int.toNat x.2.2.2.2.1 + Int.toNat x.2.2.2.2.2.1 + 1))] []
theorem slices_CompareFunc_Lapi_Weighted_Lapi_Weighted_api_Weighted_api_Weighted_b_to2 (g_annotation_compareItems : Weighted → Weighted → Bool × Int) : LoopOK (slices_CompareFunc_Lapi_Weighted_Lapi_Weighted_api_Weighted_api_Weighted_b_cx g_annotation_compareItems) (lp (body Tryz.f127) 0) := loopOK_W (id := 2) (V := slices_CompareFunc_Lapi_Weighted_Lapi_Weighted_api_Weighted_api_Weighted_b_V2) (B := slices_CompareFunc_Lapi_Weighted_Lapi_Weighted_api_Weighted_api_Weighted_b_B2) (W := slices_CompareFunc_Lapi_Weighted_Lapi_Weighted_api_Weighted_api_Weighted_b_w2 g_annotation_compareItems) (z := .inl default) (tr := slices_CompareFunc_Lapi_Weighted_Lapi_Weighted_api_Weighted_api_Weighted_b_tr2) (m := fun x y => (x.1.length + x.2.1.length + x.2.2.2.1.length + Int.toNat x.2.2.2.2.1 + Int.toNat x.2.2.2.2.2.1 + 1)) (by kernel_rfl) (by kernel_rfl) fun R H K x y => by kernel_rfl
noncomputable def slices_CompareFunc_Lapi_Weighted_Lapi_Weighted_api_Weighted_api_Weighted_b_W (g_annotation_compareItems : Weighted → Weighted → Bool × Int) (s1 : List Weighted) (s2 : List Weighted) : Wy0 (Int) := .bn (slices_CompareFunc_Lapi_Weighted_Lapi_Weighted_api_Weighted_api_Weighted_b_L2 g_annotation_compareItems (s1.length + s2.length + s1.length + (Int.ofNat s1.length).toNat + Int.toNat (0 : Int) + (1 : Nat)) s1 s2 s1 (Int.ofNat s1.length) (0 : Int)) fun r2 => .i (isL r2) (.k (getL r2)) (.i (decide (Int.ofNat (getR r2).fst.length < Int.ofNat (getR r2).snd.length)) (.k (-1 : Int)) (.k (0 : Int)))
noncomputable def slices_CompareFunc_Lapi_Weighted_Lapi_Weighted_api_Weighted_api_Weighted_b (g_annotation_compareItems : Weighted → Weighted → Bool × Int) (s1 : List Weighted) (s2 : List Weighted) : Bool × Int := (slices_CompareFunc_Lapi_Weighted_Lapi_Weighted_api_Weighted_api_Weighted_b_W g_annotation_compareItems s1 s2).fin default
theorem slices_CompareFunc_Lapi_Weighted_Lapi_Weighted_api_Weighted_api_Weighted_b_sound (g_annotation_compareItems : Weighted → Weighted → Bool × Int) (h_g_annotation_compareItems : Sound Tryz.prog base 85 (annotation_compareItems_S g_annotation_compareItems)) : Sound Tryz.prog base 127 (slices_CompareFunc_Lapi_Weighted_Lapi_Weighted_api_Weighted_api_Weighted_S (slices_CompareFunc_Lapi_Weighted_Lapi_Weighted_api_Weighted_api_Weighted_b g_annotation_compareItems)) :=
  sound_W (cx' := (slices_CompareFunc_Lapi_Weighted_Lapi_Weighted_api_Weighted_api_Weighted_b_cx g_annotation_compareItems)) draws base_ok mkSame (mkSpecs ⟨(h_g_annotation_compareItems), trivial⟩) Tryz.call127 Tryz.func127 (c := body Tryz.f127) (by kernel_rfl) (loopsOK_of (l := [lp (body Tryz.f127) 0]) (by kernel_rfl) ⟨slices_CompareFunc_Lapi_Weighted_Lapi_Weighted_api_Weighted_api_Weighted_b_to2 g_annotation_compareItems, trivial⟩) (sg := ⟨[.pure], []⟩) (A := slices_CompareFunc_Lapi_Weighted_Lapi_Weighted_api_Weighted_api_Weighted_A) (res := slices_CompareFunc_Lapi_Weighted_Lapi_Weighted_api_Weighted_api_Weighted_res) (W := fun x => slices_CompareFunc_Lapi_Weighted_Lapi_Weighted_api_Weighted_api_Weighted_b_W g_annotation_compareItems x.1 x.2.1) (z := default) (fun x => by kernel_rfl) (fun _ => by kernel_rfl)
end Go.Proofs.YtnolcogncjijpaaGreatDoor
namespace Go.Proofs.YtnolcogncjijpaaGreatDoor
open Go Go.Ab
/-! ### slices.CompareFunc[lineage/api.Annotation,lineage/api.Annotation,lineage/api.Term,lineage/api.Term] -/
noncomputable def slices_CompareFunc_api_Annotation_api_Annotation_api_Term_api_Term_b_W2 (g_annotation_Compare_c1 : Term → Term → Bool × Int) (s1 : List Term) (s2 : List Term) (t11 : List Term) (t12 : Int) (t13 : Int) : Wy (List Term × List Term × Unit × List Term × Int × Int × Unit) (Unit) (Int ⊕ (List Term × List Term)) := .i (decide (t13 < t12)) (.i (decide ((0 : Int) ≤ t13) && decide (t13 < Int.ofNat t11.length)) (.i (decide (t13 ≥ Int.ofNat s2.length)) (.k (.inl (1 : Int))) (.i (decide ((0 : Int) ≤ t13) && decide (t13 < Int.ofNat s2.length)) (.bn (g_annotation_Compare_c1 (t11.getD t13.toNat default) (s2.getD t13.toNat default)) fun r0 => .i (r0 != (0 : Int)) (.k (.inl (r0))) (.h (s1, s2, (), t11, t12, (IntKind.i64.wrap (t13 + (1 : Int))), ()) ())) .d)) .d) (.k (.inr (s1, s2)))
noncomputable def slices_CompareFunc_api_Annotation_api_Annotation_api_Term_api_Term_b_w2 (g_annotation_Compare_c1 : Term → Term → Bool × Int) (x : List Term × List Term × Unit × List Term × Int × Int × Unit) (y : Unit) : Wy (List Term × List Term × Unit × List Term × Int × Int × Unit) (Unit) (Int ⊕ (List Term × List Term)) := slices_CompareFunc_api_Annotation_api_Annotation_api_Term_api_Term_b_W2 g_annotation_Compare_c1 x.1 x.2.1 x.2.2.2.1 x.2.2.2.2.1 x.2.2.2.2.2.1
noncomputable def slices_CompareFunc_api_Annotation_api_Annotation_api_Term_api_Term_b_L2 (g_annotation_Compare_c1 : Term → Term → Bool × Int) (n : Nat) (s1 : List Term) (s2 : List Term) (t11 : List Term) (t12 : Int) (t13 : Int) : Bool × (Int ⊕ (List Term × List Term)) := iterW (slices_CompareFunc_api_Annotation_api_Annotation_api_Term_api_Term_b_w2 g_annotation_Compare_c1) (.inl default) n (s1, s2, (), t11, t12, t13, ()) ()
noncomputable def slices_CompareFunc_api_Annotation_api_Annotation_api_Term_api_Term_b_tr2 (r : Int ⊕ (List Term × List Term)) : LTree ty := .ite (isL r) (.done .ret [.lit (.int .i64 (getL r))] []) (.done (.exit 0) [.sl 42 ((getR r).1), .sl 42 ((getR r).2)] [])
noncomputable def slices_CompareFunc_api_Annotation_api_Annotation_api_Term_api_Term_b_V2 : LL ty (List Term × List Term × Unit × List Term × Int × Int × Unit) := llCons (lSl 42) (llCons (lSl 42) (llCons (lFn 87 (llNil)) (llCons (lSl 42) (llCons (lInt .i64) (llCons (lInt .i64) llNil)))))
noncomputable def slices_CompareFunc_api_Annotation_api_Annotation_api_Term_api_Term_b_B2 : BL ty (Unit) := bNil
noncomputable def slices_CompareFunc_api_Annotation_api_Annotation_api_Term_api_Term_b_cx (g_annotation_Compare_c1 : Term → Term → Bool × Int) : Cx ty := mkCx base 39 [(87, (annotation_Compare_c1_S g_annotation_Compare_c1))] [] [(2, [(0, .keep), (1, .keep), (2, .keep), (11, .keep), (12, .keep), (13, .keep)])] [(2, 1, [(0, .keep), (1, .keep)]), (2, 0, [(6, .keep)])] [(2, spW slices_CompareFunc_api_Annotation_api_Annotation_api_Term_api_Term_b_V2 slices_CompareFunc_api_Annotation_api_Annotation_api_Term_api_Term_b_B2 (slices_CompareFunc_api_Annotation_api_Annotation_api_Term_api_Term_b_w2 g_annotation_Compare_c1) (.inl default) slices_CompareFunc_api_Annotation_api_Annotation_api_Term_api_Term_b_tr2 fun x y => (x.1.length + x.2.1.length + x.2.2.2.1.length + Int.toNat x.2.2.2.2.1 + Int.toNat x.2.2.2.2.2.1 + 1))] []
theorem slices_CompareFunc_api_Annotation_api_Annotation_api_Term_api_Term_b_to2 (g_annotation_Compare_c1 : Term → Term → Bool × Int) : LoopOK (slices_CompareFunc_api_Annotation_api_Annotation_api_Term_api_Term_b_cx g_annotation_Compare_c1) (lp (body Tryz.f86) 0) := loopOK_W (id := 2) (V := slices_CompareFunc_api_Annotation_api_Annotation_api_Term_api_Term_b_V2) (B := slices_CompareFunc_api_Annotation_api_Annotation_api_Term_api_Term_b_B2) (W := slices_CompareFunc_api_Annotation_api_Annotation_api_Term_api_Term_b_w2 g_annotation_Compare_c1) (z := .inl default) (tr := slices_CompareFunc_api_Annotation_api_Annotation_api_Term_api_Term_b_tr2) (m := fun x y => (x.1.length + x.2.1.length + x.2.2.2.1.length + Int.toNat x.2.2.2.2.1 + Int.toNat x.2.2.2.2.2.1 + 1)) (by kernel_rfl) (by kernel_rfl) fun R H K x y => by kernel_rfl
noncomputable def slices_CompareFunc_api_Annotation_api_Annotation_api_Term_api_Term_b_W (g_annotation_Compare_c1 : Term → Term → Bool × Int) (s1 : List Term) (s2 : List Term) : Wy0 (Int) := .bn (slices_CompareFunc_api_Annotation_api_Annotation_api_Term_api_Term_b_L2 g_annotation_Compare_c1 (s1.length + s2.length + s1.length + (Int.ofNat s1.length).toNat + Int.toNat (0 : Int) + (1 : Nat)) s1 s2 s1 (Int.ofNat s1.length) (0 : Int)) fun r2 => .i (isL r2) (.k (getL r2)) (.i (decide (Int.ofNat (getR r2).fst.length < Int.ofNat (getR r2).snd.length)) (.k (-1 : Int)) (.k (0 : Int)))
noncomputable def slices_CompareFunc_api_Annotation_api_Annotation_api_Term_api_Term_b (g_annotation_Compare_c1 : Term → Term → Bool × Int) (s1 : List Term) (s2 : List Term) : Bool × Int := (slices_CompareFunc_api_Annotation_api_Annotation_api_Term_api_Term_b_W g_annotation_Compare_c1 s1 s2).fin default
theorem slices_CompareFunc_api_Annotation_api_Annotation_api_Term_api_Term_b_sound (g_annotation_Compare_c1 : Term → Term → Bool × Int) (h_g_annotation_Compare_c1 : Sound Tryz.prog base 87 (annotation_Compare_c1_S g_annotation_Compare_c1)) : Sound Tryz.prog base 86 (slices_CompareFunc_api_Annotation_api_Annotation_api_Term_api_Term_S (slices_CompareFunc_api_Annotation_api_Annotation_api_Term_api_Term_b g_annotation_Compare_c1)) :=
  sound_W (cx' := (slices_CompareFunc_api_Annotation_api_Annotation_api_Term_api_Term_b_cx g_annotation_Compare_c1)) draws base_ok mkSame (mkSpecs ⟨(h_g_annotation_Compare_c1), trivial⟩) Tryz.call86 Tryz.func86 (c := body Tryz.f86) (by kernel_rfl) (loopsOK_of (l := [lp (body Tryz.f86) 0]) (by kernel_rfl) ⟨slices_CompareFunc_api_Annotation_api_Annotation_api_Term_api_Term_b_to2 g_annotation_Compare_c1, trivial⟩) (sg := ⟨[.pure], []⟩) (A := slices_CompareFunc_api_Annotation_api_Annotation_api_Term_api_Term_A) (res := slices_CompareFunc_api_Annotation_api_Annotation_api_Term_api_Term_res) (W := fun x => slices_CompareFunc_api_Annotation_api_Annotation_api_Term_api_Term_b_W g_annotation_Compare_c1 x.1 x.2.1) (z := default) (fun x => by kernel_rfl) (fun _ => by kernel_rfl)
end Go.Proofs.YtnolcogncjijpaaGreatDoor
namespace Go.Proofs.YtnolcogncjijpaaGreatDoor
open Go Go.Ab
noncomputable def Compare_rec : Nat → (List Term → List Term → Bool × Int) × (Term → Term → Bool × Int) × (Term → Term → Bool × Int) × (Factor → Factor → Bool × Int) × (Atom → Atom → Bool × Int) × (Weighted → Weighted → Bool × Int) × (List Term → List Term → Bool × Int) × (List Factor → List Factor → Bool × Int) × (List (List Term) → List (List Term) → Bool × Int) × (List Weighted → List Weighted → Bool × Int)
  | 0 => (fun _ _ => (false, default), fun _ _ => (false, default), fun _ _ => (false, default), fun _ _ => (false, default), fun _ _ => (false, default), fun _ _ => (false, default), fun _ _ => (false, default), fun _ _ => (false, default), fun _ _ => (false, default), fun _ _ => (false, default))
  | n + 1 => (annotation_Compare_b ((Compare_rec n).2.2.2.2.2.2.1) ((Compare_rec n).2.1), annotation_Compare_c1_b ((Compare_rec n).2.2.1), annotation_compareLists_b ((Compare_rec n).2.2.2.2.2.2.2.1) ((Compare_rec n).2.2.2.1), annotation_compareFactors_b ((Compare_rec n).2.2.2.2.1), annotation_compareAtoms_b ((Compare_rec n).1) ((Compare_rec n).2.2.2.2.2.1) ((Compare_rec n).2.2.2.2.2.2.2.2.1) ((Compare_rec n).2.2.2.2.2.2.2.2.2), annotation_compareItems_b ((Compare_rec n).1), slices_CompareFunc_api_Annotation_api_Annotation_api_Term_api_Term_b ((Compare_rec n).2.1), slices_CompareFunc_Lapi_Factor_Lapi_Factor_api_Factor_api_Factor_b ((Compare_rec n).2.2.2.1), slices_CompareFunc_Lapi_Annotation_Lapi_Annotation_api_Annotation_api_Annotation_b ((Compare_rec n).1), slices_CompareFunc_Lapi_Weighted_Lapi_Weighted_api_Weighted_api_Weighted_b ((Compare_rec n).2.2.2.2.2.1))
noncomputable def annotation_Compare_n (n : Nat) : List Term → List Term → Bool × Int := (Compare_rec n).1
noncomputable def annotation_Compare_c1_n (n : Nat) : Term → Term → Bool × Int := (Compare_rec n).2.1
noncomputable def annotation_compareLists_n (n : Nat) : Term → Term → Bool × Int := (Compare_rec n).2.2.1
noncomputable def annotation_compareFactors_n (n : Nat) : Factor → Factor → Bool × Int := (Compare_rec n).2.2.2.1
noncomputable def annotation_compareAtoms_n (n : Nat) : Atom → Atom → Bool × Int := (Compare_rec n).2.2.2.2.1
noncomputable def annotation_compareItems_n (n : Nat) : Weighted → Weighted → Bool × Int := (Compare_rec n).2.2.2.2.2.1
noncomputable def slices_CompareFunc_api_Annotation_api_Annotation_api_Term_api_Term_n (n : Nat) : List Term → List Term → Bool × Int := (Compare_rec n).2.2.2.2.2.2.1
noncomputable def slices_CompareFunc_Lapi_Factor_Lapi_Factor_api_Factor_api_Factor_n (n : Nat) : List Factor → List Factor → Bool × Int := (Compare_rec n).2.2.2.2.2.2.2.1
noncomputable def slices_CompareFunc_Lapi_Annotation_Lapi_Annotation_api_Annotation_api_Annotation_n (n : Nat) : List (List Term) → List (List Term) → Bool × Int := (Compare_rec n).2.2.2.2.2.2.2.2.1
noncomputable def slices_CompareFunc_Lapi_Weighted_Lapi_Weighted_api_Weighted_api_Weighted_n (n : Nat) : List Weighted → List Weighted → Bool × Int := (Compare_rec n).2.2.2.2.2.2.2.2.2
theorem annotation_Compare_succ (n : Nat) : annotation_Compare_n (n + 1) = annotation_Compare_b (slices_CompareFunc_api_Annotation_api_Annotation_api_Term_api_Term_n n) (annotation_Compare_c1_n n) := rfl
theorem annotation_Compare_c1_succ (n : Nat) : annotation_Compare_c1_n (n + 1) = annotation_Compare_c1_b (annotation_compareLists_n n) := rfl
theorem annotation_compareLists_succ (n : Nat) : annotation_compareLists_n (n + 1) = annotation_compareLists_b (slices_CompareFunc_Lapi_Factor_Lapi_Factor_api_Factor_api_Factor_n n) (annotation_compareFactors_n n) := rfl
theorem annotation_compareFactors_succ (n : Nat) : annotation_compareFactors_n (n + 1) = annotation_compareFactors_b (annotation_compareAtoms_n n) := rfl
theorem annotation_compareAtoms_succ (n : Nat) : annotation_compareAtoms_n (n + 1) = annotation_compareAtoms_b (annotation_Compare_n n) (annotation_compareItems_n n) (slices_CompareFunc_Lapi_Annotation_Lapi_Annotation_api_Annotation_api_Annotation_n n) (slices_CompareFunc_Lapi_Weighted_Lapi_Weighted_api_Weighted_api_Weighted_n n) := rfl
theorem annotation_compareItems_succ (n : Nat) : annotation_compareItems_n (n + 1) = annotation_compareItems_b (annotation_Compare_n n) := rfl
theorem slices_CompareFunc_api_Annotation_api_Annotation_api_Term_api_Term_succ (n : Nat) : slices_CompareFunc_api_Annotation_api_Annotation_api_Term_api_Term_n (n + 1) = slices_CompareFunc_api_Annotation_api_Annotation_api_Term_api_Term_b (annotation_Compare_c1_n n) := rfl
theorem slices_CompareFunc_Lapi_Factor_Lapi_Factor_api_Factor_api_Factor_succ (n : Nat) : slices_CompareFunc_Lapi_Factor_Lapi_Factor_api_Factor_api_Factor_n (n + 1) = slices_CompareFunc_Lapi_Factor_Lapi_Factor_api_Factor_api_Factor_b (annotation_compareFactors_n n) := rfl
theorem slices_CompareFunc_Lapi_Annotation_Lapi_Annotation_api_Annotation_api_Annotation_succ (n : Nat) : slices_CompareFunc_Lapi_Annotation_Lapi_Annotation_api_Annotation_api_Annotation_n (n + 1) = slices_CompareFunc_Lapi_Annotation_Lapi_Annotation_api_Annotation_api_Annotation_b (annotation_Compare_n n) := rfl
theorem slices_CompareFunc_Lapi_Weighted_Lapi_Weighted_api_Weighted_api_Weighted_succ (n : Nat) : slices_CompareFunc_Lapi_Weighted_Lapi_Weighted_api_Weighted_api_Weighted_n (n + 1) = slices_CompareFunc_Lapi_Weighted_Lapi_Weighted_api_Weighted_api_Weighted_b (annotation_compareItems_n n) := rfl
theorem Compare_sound : ∀ n, Sound Tryz.prog base 38 (annotation_Compare_S (annotation_Compare_n n)) ∧ Sound Tryz.prog base 87 (annotation_Compare_c1_S (annotation_Compare_c1_n n)) ∧ Sound Tryz.prog base 71 (annotation_compareLists_S (annotation_compareLists_n n)) ∧ Sound Tryz.prog base 124 (annotation_compareFactors_S (annotation_compareFactors_n n)) ∧ Sound Tryz.prog base 73 (annotation_compareAtoms_S (annotation_compareAtoms_n n)) ∧ Sound Tryz.prog base 85 (annotation_compareItems_S (annotation_compareItems_n n)) ∧ Sound Tryz.prog base 86 (slices_CompareFunc_api_Annotation_api_Annotation_api_Term_api_Term_S (slices_CompareFunc_api_Annotation_api_Annotation_api_Term_api_Term_n n)) ∧ Sound Tryz.prog base 123 (slices_CompareFunc_Lapi_Factor_Lapi_Factor_api_Factor_api_Factor_S (slices_CompareFunc_Lapi_Factor_Lapi_Factor_api_Factor_api_Factor_n n)) ∧ Sound Tryz.prog base 126 (slices_CompareFunc_Lapi_Annotation_Lapi_Annotation_api_Annotation_api_Annotation_S (slices_CompareFunc_Lapi_Annotation_Lapi_Annotation_api_Annotation_api_Annotation_n n)) ∧ Sound Tryz.prog base 127 (slices_CompareFunc_Lapi_Weighted_Lapi_Weighted_api_Weighted_api_Weighted_S (slices_CompareFunc_Lapi_Weighted_Lapi_Weighted_api_Weighted_api_Weighted_n n))
  | 0 => ⟨sound_false Tryz.call38 (fun _ => rfl), sound_false Tryz.call87 (fun _ => rfl), sound_false Tryz.call71 (fun _ => rfl), sound_false Tryz.call124 (fun _ => rfl), sound_false Tryz.call73 (fun _ => rfl), sound_false Tryz.call85 (fun _ => rfl), sound_false Tryz.call86 (fun _ => rfl), sound_false Tryz.call123 (fun _ => rfl), sound_false Tryz.call126 (fun _ => rfl), sound_false Tryz.call127 (fun _ => rfl)⟩
  | n + 1 => by
    have ih := Compare_sound n
    exact ⟨annotation_Compare_b_sound _ _ (ih.2.2.2.2.2.2.1) (ih.2.1), annotation_Compare_c1_b_sound _ (ih.2.2.1), annotation_compareLists_b_sound _ _ (ih.2.2.2.2.2.2.2.1) (ih.2.2.2.1), annotation_compareFactors_b_sound _ (ih.2.2.2.2.1), annotation_compareAtoms_b_sound _ _ _ _ (ih.1) (ih.2.2.2.2.2.1) (ih.2.2.2.2.2.2.2.2.1) (ih.2.2.2.2.2.2.2.2.2), annotation_compareItems_b_sound _ (ih.1), slices_CompareFunc_api_Annotation_api_Annotation_api_Term_api_Term_b_sound _ (ih.2.1), slices_CompareFunc_Lapi_Factor_Lapi_Factor_api_Factor_api_Factor_b_sound _ (ih.2.2.2.1), slices_CompareFunc_Lapi_Annotation_Lapi_Annotation_api_Annotation_api_Annotation_b_sound _ (ih.1), slices_CompareFunc_Lapi_Weighted_Lapi_Weighted_api_Weighted_api_Weighted_b_sound _ (ih.2.2.2.2.2.1)⟩
noncomputable def annotation_Compare : List Term → List Term → Bool × Int := annotation_Compare_n 1000
noncomputable def annotation_Compare_spec : Ab.Spec ty := annotation_Compare_S annotation_Compare
theorem annotation_Compare_sound : Sound Tryz.prog base 38 annotation_Compare_spec := (Compare_sound 1000).1
noncomputable def annotation_Compare_c1 : Term → Term → Bool × Int := annotation_Compare_c1_n 1000
noncomputable def annotation_Compare_c1_spec : Ab.Spec ty := annotation_Compare_c1_S annotation_Compare_c1
theorem annotation_Compare_c1_sound : Sound Tryz.prog base 87 annotation_Compare_c1_spec := (Compare_sound 1000).2.1
noncomputable def annotation_compareLists : Term → Term → Bool × Int := annotation_compareLists_n 1000
noncomputable def annotation_compareLists_spec : Ab.Spec ty := annotation_compareLists_S annotation_compareLists
theorem annotation_compareLists_sound : Sound Tryz.prog base 71 annotation_compareLists_spec := (Compare_sound 1000).2.2.1
noncomputable def annotation_compareFactors : Factor → Factor → Bool × Int := annotation_compareFactors_n 1000
noncomputable def annotation_compareFactors_spec : Ab.Spec ty := annotation_compareFactors_S annotation_compareFactors
theorem annotation_compareFactors_sound : Sound Tryz.prog base 124 annotation_compareFactors_spec := (Compare_sound 1000).2.2.2.1
noncomputable def annotation_compareAtoms : Atom → Atom → Bool × Int := annotation_compareAtoms_n 1000
noncomputable def annotation_compareAtoms_spec : Ab.Spec ty := annotation_compareAtoms_S annotation_compareAtoms
theorem annotation_compareAtoms_sound : Sound Tryz.prog base 73 annotation_compareAtoms_spec := (Compare_sound 1000).2.2.2.2.1
noncomputable def annotation_compareItems : Weighted → Weighted → Bool × Int := annotation_compareItems_n 1000
noncomputable def annotation_compareItems_spec : Ab.Spec ty := annotation_compareItems_S annotation_compareItems
theorem annotation_compareItems_sound : Sound Tryz.prog base 85 annotation_compareItems_spec := (Compare_sound 1000).2.2.2.2.2.1
noncomputable def slices_CompareFunc_api_Annotation_api_Annotation_api_Term_api_Term : List Term → List Term → Bool × Int := slices_CompareFunc_api_Annotation_api_Annotation_api_Term_api_Term_n 1000
noncomputable def slices_CompareFunc_api_Annotation_api_Annotation_api_Term_api_Term_spec : Ab.Spec ty := slices_CompareFunc_api_Annotation_api_Annotation_api_Term_api_Term_S slices_CompareFunc_api_Annotation_api_Annotation_api_Term_api_Term
theorem slices_CompareFunc_api_Annotation_api_Annotation_api_Term_api_Term_sound : Sound Tryz.prog base 86 slices_CompareFunc_api_Annotation_api_Annotation_api_Term_api_Term_spec := (Compare_sound 1000).2.2.2.2.2.2.1
noncomputable def slices_CompareFunc_Lapi_Factor_Lapi_Factor_api_Factor_api_Factor : List Factor → List Factor → Bool × Int := slices_CompareFunc_Lapi_Factor_Lapi_Factor_api_Factor_api_Factor_n 1000
noncomputable def slices_CompareFunc_Lapi_Factor_Lapi_Factor_api_Factor_api_Factor_spec : Ab.Spec ty := slices_CompareFunc_Lapi_Factor_Lapi_Factor_api_Factor_api_Factor_S slices_CompareFunc_Lapi_Factor_Lapi_Factor_api_Factor_api_Factor
theorem slices_CompareFunc_Lapi_Factor_Lapi_Factor_api_Factor_api_Factor_sound : Sound Tryz.prog base 123 slices_CompareFunc_Lapi_Factor_Lapi_Factor_api_Factor_api_Factor_spec := (Compare_sound 1000).2.2.2.2.2.2.2.1
noncomputable def slices_CompareFunc_Lapi_Annotation_Lapi_Annotation_api_Annotation_api_Annotation : List (List Term) → List (List Term) → Bool × Int := slices_CompareFunc_Lapi_Annotation_Lapi_Annotation_api_Annotation_api_Annotation_n 1000
noncomputable def slices_CompareFunc_Lapi_Annotation_Lapi_Annotation_api_Annotation_api_Annotation_spec : Ab.Spec ty := slices_CompareFunc_Lapi_Annotation_Lapi_Annotation_api_Annotation_api_Annotation_S slices_CompareFunc_Lapi_Annotation_Lapi_Annotation_api_Annotation_api_Annotation
theorem slices_CompareFunc_Lapi_Annotation_Lapi_Annotation_api_Annotation_api_Annotation_sound : Sound Tryz.prog base 126 slices_CompareFunc_Lapi_Annotation_Lapi_Annotation_api_Annotation_api_Annotation_spec := (Compare_sound 1000).2.2.2.2.2.2.2.2.1
noncomputable def slices_CompareFunc_Lapi_Weighted_Lapi_Weighted_api_Weighted_api_Weighted : List Weighted → List Weighted → Bool × Int := slices_CompareFunc_Lapi_Weighted_Lapi_Weighted_api_Weighted_api_Weighted_n 1000
noncomputable def slices_CompareFunc_Lapi_Weighted_Lapi_Weighted_api_Weighted_api_Weighted_spec : Ab.Spec ty := slices_CompareFunc_Lapi_Weighted_Lapi_Weighted_api_Weighted_api_Weighted_S slices_CompareFunc_Lapi_Weighted_Lapi_Weighted_api_Weighted_api_Weighted
theorem slices_CompareFunc_Lapi_Weighted_Lapi_Weighted_api_Weighted_api_Weighted_sound : Sound Tryz.prog base 127 slices_CompareFunc_Lapi_Weighted_Lapi_Weighted_api_Weighted_api_Weighted_spec := (Compare_sound 1000).2.2.2.2.2.2.2.2.2
end Go.Proofs.YtnolcogncjijpaaGreatDoor
namespace Go.Proofs.YtnolcogncjijpaaGreatDoor
open Go Go.Ab
/-! ### lineage/lineageref05.Compare -/
noncomputable def ref05_Compare_res (r : Int) : ARes ty := ⟨[.pure (.lit (.int .i64 r))], []⟩
noncomputable def ref05_Compare_A : AL base (List Term × List Term × Unit) := aCons (aPure (vSl 42)) (aCons (aPure (vSl 42)) aNil)
noncomputable def ref05_Compare_S (F : List Term → List Term → Bool × Int) : Ab.Spec ty := mkSpec ref05_Compare_A fun x => ((F x.1 x.2.1).1, ref05_Compare_res (F x.1 x.2.1).2)
/-! ### lineage/lineageref05.CompareFactors -/
noncomputable def ref05_CompareFactors_res (r : Int) : ARes ty := ⟨[.pure (.lit (.int .i64 r))], []⟩
noncomputable def ref05_CompareFactors_A : AL base (List Factor × List Factor × Unit) := aCons (aPure (vSl 50)) (aCons (aPure (vSl 50)) aNil)
noncomputable def ref05_CompareFactors_S (F : List Factor → List Factor → Bool × Int) : Ab.Spec ty := mkSpec ref05_CompareFactors_A fun x => ((F x.1 x.2.1).1, ref05_CompareFactors_res (F x.1 x.2.1).2)
/-! ### lineage/lineageref05.CompareAtom -/
noncomputable def ref05_CompareAtom_res (r : Int) : ARes ty := ⟨[.pure (.lit (.int .i64 r))], []⟩
noncomputable def ref05_CompareAtom_A : AL base (Atom × Atom × Unit) := aCons (aPure (vAgg 48)) (aCons (aPure (vAgg 48)) aNil)
noncomputable def ref05_CompareAtom_S (F : Atom → Atom → Bool × Int) : Ab.Spec ty := mkSpec ref05_CompareAtom_A fun x => ((F x.1 x.2.1).1, ref05_CompareAtom_res (F x.1 x.2.1).2)
/-! ### lineage/lineageref05.CompareItems -/
noncomputable def ref05_CompareItems_res (r : Int) : ARes ty := ⟨[.pure (.lit (.int .i64 r))], []⟩
noncomputable def ref05_CompareItems_A : AL base (List Weighted × List Weighted × Unit) := aCons (aPure (vSl 52)) (aCons (aPure (vSl 52)) aNil)
noncomputable def ref05_CompareItems_S (F : List Weighted → List Weighted → Bool × Int) : Ab.Spec ty := mkSpec ref05_CompareItems_A fun x => ((F x.1 x.2.1).1, ref05_CompareItems_res (F x.1 x.2.1).2)
end Go.Proofs.YtnolcogncjijpaaGreatDoor
namespace Go.Proofs.YtnolcogncjijpaaGreatDoor
open Go Go.Ab
/-! ### lineage/lineageref05.number -/
noncomputable def ref05_number_cx : Cx ty := mkCx base 11 [] [] [] [] [] []
noncomputable def ref05_number_W (a : Int) (b : Int) : Wy0 (Int) := .i (decide (a < b)) (.k (-1 : Int)) (.i (decide (a > b)) (.k (1 : Int)) (.k (0 : Int)))
noncomputable def ref05_number (a : Int) (b : Int) : Bool × Int := (ref05_number_W a b).fin default
noncomputable def ref05_number_res (r : Int) : ARes ty := ⟨[.pure (.lit (.int .i64 r))], []⟩
noncomputable def ref05_number_A : AL base (Int × Int × Unit) := aCons (aPure (vInt .i64)) (aCons (aPure (vInt .i64)) aNil)
noncomputable def ref05_number_spec : Ab.Spec ty := mkSpec ref05_number_A fun x => ((ref05_number x.1 x.2.1).1, ref05_number_res (ref05_number x.1 x.2.1).2)
theorem ref05_number_sound : Sound Tryz.prog base 82 ref05_number_spec :=
  sound_W (cx' := ref05_number_cx) draws base_ok mkSame (mkSpecs trivial) Tryz.call82 Tryz.func82 (c := body Tryz.f82) (by kernel_rfl) (loopsOK_of (l := []) (by kernel_rfl) trivial) (sg := ⟨[.pure], []⟩) (A := ref05_number_A) (res := ref05_number_res) (W := fun x => ref05_number_W x.1 x.2.1) (z := default) (fun x => by kernel_rfl) (fun _ => by kernel_rfl)
end Go.Proofs.YtnolcogncjijpaaGreatDoor
namespace Go.Proofs.YtnolcogncjijpaaGreatDoor
open Go Go.Ab
/-! ### lineage/lineageref05.Compare -/
noncomputable def ref05_Compare_b_W2 (g_ref05_CompareFactors : List Factor → List Factor → Bool × Int) (a : List Term) (b : List Term) (i : Int) : Wy (List Term × List Term × Int × Unit) (Unit) (Int ⊕ (List Term × List Term)) := .i (decide (i < Int.ofNat a.length)) (.i (decide (i < Int.ofNat b.length)) (.i (decide ((0 : Int) ≤ i) && decide (i < Int.ofNat a.length)) (.i (decide ((0 : Int) ≤ i) && decide (i < Int.ofNat b.length)) (.bn (g_ref05_CompareFactors (a.getD i.toNat default).Factors (b.getD i.toNat default).Factors) fun r1 => .i (r1 != (0 : Int)) (.k (.inl (r1))) (.i (decide ((0 : Int) ≤ i) && decide (i < Int.ofNat a.length)) (.i (decide ((0 : Int) ≤ i) && decide (i < Int.ofNat b.length)) (.bn (ref05_number (a.getD i.toNat default).Coeff (b.getD i.toNat default).Coeff) fun r0 => .i (r0 != (0 : Int)) (.k (.inl (r0))) (.h (a, b, (IntKind.i64.wrap (i + (1 : Int))), ()) ())) .d) .d)) .d) .d) (.k (.inr (a, b)))) (.k (.inr (a, b)))
noncomputable def ref05_Compare_b_w2 (g_ref05_CompareFactors : List Factor → List Factor → Bool × Int) (x : List Term × List Term × Int × Unit) (y : Unit) : Wy (List Term × List Term × Int × Unit) (Unit) (Int ⊕ (List Term × List Term)) := ref05_Compare_b_W2 g_ref05_CompareFactors x.1 x.2.1 x.2.2.1
noncomputable def ref05_Compare_b_L2 (g_ref05_CompareFactors : List Factor → List Factor → Bool × Int) (n : Nat) (a : List Term) (b : List Term) (i : Int) : Bool × (Int ⊕ (List Term × List Term)) := iterW (ref05_Compare_b_w2 g_ref05_CompareFactors) (.inl default) n (a, b, i, ()) ()
noncomputable def ref05_Compare_b_tr2 (r : Int ⊕ (List Term × List Term)) : LTree ty := .ite (isL r) (.done .ret [.lit (.int .i64 (getL r))] []) (.done (.exit 0) [.sl 42 ((getR r).1), .sl 42 ((getR r).2)] [])
noncomputable def ref05_Compare_b_V2 : LL ty (List Term × List Term × Int × Unit) := llCons (lSl 42) (llCons (lSl 42) (llCons (lInt .i64) llNil))
noncomputable def ref05_Compare_b_B2 : BL ty (Unit) := bNil
noncomputable def ref05_Compare_b_cx (g_ref05_CompareFactors : List Factor → List Factor → Bool × Int) : Cx ty := mkCx base 53 [(82, ref05_number_spec), (89, (ref05_CompareFactors_S g_ref05_CompareFactors))] [] [(2, [(0, .keep), (1, .keep), (5, .keep)])] [(2, 1, [(0, .keep), (1, .keep)]), (2, 0, [(4, .keep)])] [(2, spW ref05_Compare_b_V2 ref05_Compare_b_B2 (ref05_Compare_b_w2 g_ref05_CompareFactors) (.inl default) ref05_Compare_b_tr2 fun x y => (x.1.length + x.2.1.length + Int.toNat x.2.2.1 + 1))] []
theorem ref05_Compare_b_to2 (g_ref05_CompareFactors : List Factor → List Factor → Bool × Int) : LoopOK (ref05_Compare_b_cx g_ref05_CompareFactors) (lp (body Tryz.f39) 0) := loopOK_W (id := 2) (V := ref05_Compare_b_V2) (B := ref05_Compare_b_B2) (W := ref05_Compare_b_w2 g_ref05_CompareFactors) (z := .inl default) (tr := ref05_Compare_b_tr2) (m := fun x y => (x.1.length + x.2.1.length + Int.toNat x.2.2.1 + 1)) (by kernel_rfl) (by kernel_rfl) fun R H K x y => by kernel_rfl
noncomputable def ref05_Compare_b_W (g_ref05_CompareFactors : List Factor → List Factor → Bool × Int) (a : List Term) (b : List Term) : Wy0 (Int) := .bn (ref05_Compare_b_L2 g_ref05_CompareFactors (a.length + b.length + Int.toNat (0 : Int) + (1 : Nat)) a b (0 : Int)) fun r5 => .i (isL r5) (.k (getL r5)) (.bn (ref05_number (Int.ofNat (getR r5).fst.length) (Int.ofNat (getR r5).snd.length)) fun r4 => .k r4)
noncomputable def ref05_Compare_b (g_ref05_CompareFactors : List Factor → List Factor → Bool × Int) (a : List Term) (b : List Term) : Bool × Int := (ref05_Compare_b_W g_ref05_CompareFactors a b).fin default
theorem ref05_Compare_b_sound (g_ref05_CompareFactors : List Factor → List Factor → Bool × Int) (h_g_ref05_CompareFactors : Sound Tryz.prog base 89 (ref05_CompareFactors_S g_ref05_CompareFactors)) : Sound Tryz.prog base 39 (ref05_Compare_S (ref05_Compare_b g_ref05_CompareFactors)) :=
  sound_W (cx' := (ref05_Compare_b_cx g_ref05_CompareFactors)) draws base_ok mkSame (mkSpecs ⟨(ref05_number_sound), (h_g_ref05_CompareFactors), trivial⟩) Tryz.call39 Tryz.func39 (c := body Tryz.f39) (by kernel_rfl) (loopsOK_of (l := [lp (body Tryz.f39) 0]) (by kernel_rfl) ⟨ref05_Compare_b_to2 g_ref05_CompareFactors, trivial⟩) (sg := ⟨[.pure], []⟩) (A := ref05_Compare_A) (res := ref05_Compare_res) (W := fun x => ref05_Compare_b_W g_ref05_CompareFactors x.1 x.2.1) (z := default) (fun x => by kernel_rfl) (fun _ => by kernel_rfl)
end Go.Proofs.YtnolcogncjijpaaGreatDoor
namespace Go.Proofs.YtnolcogncjijpaaGreatDoor
open Go Go.Ab
/-! ### lineage/lineageref01.sign -/
noncomputable def ref01_sign_cx : Cx ty := mkCx base 4 [] [] [] [] [] []
noncomputable def ref01_sign_W (less : Bool) : Wy0 (Int) := .i (less) (.k (-1 : Int)) (.k (1 : Int))
noncomputable def ref01_sign (less : Bool) : Bool × Int := (ref01_sign_W less).fin default
noncomputable def ref01_sign_res (r : Int) : ARes ty := ⟨[.pure (.lit (.int .i64 r))], []⟩
noncomputable def ref01_sign_A : AL base (Bool × Unit) := aCons (aPure vBool) aNil
noncomputable def ref01_sign_spec : Ab.Spec ty := mkSpec ref01_sign_A fun x => ((ref01_sign x.1).1, ref01_sign_res (ref01_sign x.1).2)
theorem ref01_sign_sound : Sound Tryz.prog base 138 ref01_sign_spec :=
  sound_W (cx' := ref01_sign_cx) draws base_ok mkSame (mkSpecs trivial) Tryz.call138 Tryz.func138 (c := body Tryz.f138) (by kernel_rfl) (loopsOK_of (l := []) (by kernel_rfl) trivial) (sg := ⟨[.pure], []⟩) (A := ref01_sign_A) (res := ref01_sign_res) (W := fun x => ref01_sign_W x.1) (z := default) (fun x => by kernel_rfl) (fun _ => by kernel_rfl)
end Go.Proofs.YtnolcogncjijpaaGreatDoor
namespace Go.Proofs.YtnolcogncjijpaaGreatDoor
open Go Go.Ab
/-! ### lineage/lineageref01.Compare -/
noncomputable def ref01_Compare_cx : Cx ty := mkCx base 38 [(138, ref01_sign_spec)] [] [] [] [] []
noncomputable def ref01_Compare_W (a : Value) (b : Value) : Wy0 (Int) := .i (a.Kind != b.Kind) (.bn (ref01_sign (decide (a.Kind < b.Kind))) fun r0 => .k r0) (.i (a.Int != b.Int) (.bn (ref01_sign (decide (a.Int < b.Int))) fun r1 => .k r1) (.i (!a.Text.toList == b.Text.toList) (.bn (ref01_sign (Op.bytesLess a.Text.toList b.Text.toList)) fun r2 => .k r2) (.k (0 : Int))))
noncomputable def ref01_Compare (a : Value) (b : Value) : Bool × Int := (ref01_Compare_W a b).fin default
noncomputable def ref01_Compare_res (r : Int) : ARes ty := ⟨[.pure (.lit (.int .i64 r))], []⟩
noncomputable def ref01_Compare_A : AL base (Value × Value × Unit) := aCons (aPure (vAgg 46)) (aCons (aPure (vAgg 46)) aNil)
noncomputable def ref01_Compare_spec : Ab.Spec ty := mkSpec ref01_Compare_A fun x => ((ref01_Compare x.1 x.2.1).1, ref01_Compare_res (ref01_Compare x.1 x.2.1).2)
theorem ref01_Compare_sound : Sound Tryz.prog base 83 ref01_Compare_spec :=
  sound_W (cx' := ref01_Compare_cx) draws base_ok mkSame (mkSpecs ⟨(ref01_sign_sound), trivial⟩) Tryz.call83 Tryz.func83 (c := body Tryz.f83) (by kernel_rfl) (loopsOK_of (l := []) (by kernel_rfl) trivial) (sg := ⟨[.pure], []⟩) (A := ref01_Compare_A) (res := ref01_Compare_res) (W := fun x => ref01_Compare_W x.1 x.2.1) (z := default) (fun x => by kernel_rfl) (fun _ => by kernel_rfl)
end Go.Proofs.YtnolcogncjijpaaGreatDoor
namespace Go.Proofs.YtnolcogncjijpaaGreatDoor
open Go Go.Ab
/-! ### lineage/lineageref05.CompareRow -/
noncomputable def ref05_CompareRow_cx : Cx ty := mkCx base 19 [(82, ref05_number_spec)] [] [] [] [] []
noncomputable def ref05_CompareRow_W (a : RowID) (b : RowID) : Wy0 (Int) := .bn (ref05_number a.Table b.Table) fun r1 => .i (r1 != (0 : Int)) (.k r1) (.bn (ref05_number a.Seq b.Seq) fun r0 => .k r0)
noncomputable def ref05_CompareRow (a : RowID) (b : RowID) : Bool × Int := (ref05_CompareRow_W a b).fin default
noncomputable def ref05_CompareRow_res (r : Int) : ARes ty := ⟨[.pure (.lit (.int .i64 r))], []⟩
noncomputable def ref05_CompareRow_A : AL base (RowID × RowID × Unit) := aCons (aPure (vAgg 25)) (aCons (aPure (vAgg 25)) aNil)
noncomputable def ref05_CompareRow_spec : Ab.Spec ty := mkSpec ref05_CompareRow_A fun x => ((ref05_CompareRow x.1 x.2.1).1, ref05_CompareRow_res (ref05_CompareRow x.1 x.2.1).2)
theorem ref05_CompareRow_sound : Sound Tryz.prog base 146 ref05_CompareRow_spec :=
  sound_W (cx' := ref05_CompareRow_cx) draws base_ok mkSame (mkSpecs ⟨(ref05_number_sound), trivial⟩) Tryz.call146 Tryz.func146 (c := body Tryz.f146) (by kernel_rfl) (loopsOK_of (l := []) (by kernel_rfl) trivial) (sg := ⟨[.pure], []⟩) (A := ref05_CompareRow_A) (res := ref05_CompareRow_res) (W := fun x => ref05_CompareRow_W x.1 x.2.1) (z := default) (fun x => by kernel_rfl) (fun _ => by kernel_rfl)
end Go.Proofs.YtnolcogncjijpaaGreatDoor
namespace Go.Proofs.YtnolcogncjijpaaGreatDoor
open Go Go.Ab
/-! ### lineage/lineageref05.CompareAtom -/
noncomputable def ref05_CompareAtom_b_W8 (g_ref05_CompareItems : List Weighted → List Weighted → Bool × Int) (g_ref05_Compare : List Term → List Term → Bool × Int) (i : Int) (a : Atom) (b : Atom) : Wy (Unit × Unit × Int × Unit) (Atom × Atom × Unit) (Int ⊕ (Atom × Atom)) := .i (decide (i < Int.ofNat a.Args.length)) (.i (decide (i < Int.ofNat b.Args.length)) (.i (decide ((0 : Int) ≤ i) && decide (i < Int.ofNat a.Args.length)) (.i (decide ((0 : Int) ≤ i) && decide (i < Int.ofNat b.Args.length)) (.bn (g_ref05_Compare (a.Args.getD i.toNat default) (b.Args.getD i.toNat default)) fun r0 => .i (r0 != (0 : Int)) (.k (.inl (r0))) (.h ((), (), (IntKind.i64.wrap (i + (1 : Int))), ()) (a, b, ()))) .d) .d) (.k (.inr (a, b)))) (.k (.inr (a, b)))
noncomputable def ref05_CompareAtom_b_w8 (g_ref05_CompareItems : List Weighted → List Weighted → Bool × Int) (g_ref05_Compare : List Term → List Term → Bool × Int) (x : Unit × Unit × Int × Unit) (y : Atom × Atom × Unit) : Wy (Unit × Unit × Int × Unit) (Atom × Atom × Unit) (Int ⊕ (Atom × Atom)) := ref05_CompareAtom_b_W8 g_ref05_CompareItems g_ref05_Compare x.2.2.1 y.1 y.2.1
noncomputable def ref05_CompareAtom_b_L8 (g_ref05_CompareItems : List Weighted → List Weighted → Bool × Int) (g_ref05_Compare : List Term → List Term → Bool × Int) (n : Nat) (i : Int) (a : Atom) (b : Atom) : Bool × (Int ⊕ (Atom × Atom)) := iterW (ref05_CompareAtom_b_w8 g_ref05_CompareItems g_ref05_Compare) (.inl default) n ((), (), i, ()) (a, b, ())
noncomputable def ref05_CompareAtom_b_tr8 (r : Int ⊕ (Atom × Atom)) : LTree ty := .ite (isL r) (.done .ret [.lit (.int .i64 (getL r))] []) (.done (.exit 0) [.ptr 384 0, .ptr 385 0] [.box (base.enc 48 ((getR r).1)) false, .box (base.enc 48 ((getR r).2)) false])
noncomputable def ref05_CompareAtom_b_V8 : LL ty (Unit × Unit × Int × Unit) := llCons (lPtrC 384 0) (llCons (lPtrC 385 0) (llCons (lInt .i64) llNil))
noncomputable def ref05_CompareAtom_b_B8 : BL ty (Atom × Atom × Unit) := bBox (llMap (fun x => (⟨x.1, ⟨x.2.1, x.2.2.1⟩, x.2.2.2.1, x.2.2.2.2.1, x.2.2.2.2.2.1, x.2.2.2.2.2.2.1, ⟨x.2.2.2.2.2.2.2.1, x.2.2.2.2.2.2.2.2.1, x.2.2.2.2.2.2.2.2.2.1⟩⟩ : Atom)) (fun x => (x.Kind, x.Row.Table, x.Row.Seq, x.Args, x.Func, x.Items, x.Op, x.Bound.Kind, x.Bound.Int, x.Bound.Text, ())) (fun _ => rfl) (llCons (lInt .i64) (llCons (lInt .i64) (llCons (lInt .i64) (llCons (lSl 23) (llCons (lInt .i64) (llCons (lSl 52) (llCons (lInt .i64) (llCons (lInt .i64) (llCons (lInt .i64) (llCons lStr llNil))))))))))) false (bBox (llMap (fun x => (⟨x.1, ⟨x.2.1, x.2.2.1⟩, x.2.2.2.1, x.2.2.2.2.1, x.2.2.2.2.2.1, x.2.2.2.2.2.2.1, ⟨x.2.2.2.2.2.2.2.1, x.2.2.2.2.2.2.2.2.1, x.2.2.2.2.2.2.2.2.2.1⟩⟩ : Atom)) (fun x => (x.Kind, x.Row.Table, x.Row.Seq, x.Args, x.Func, x.Items, x.Op, x.Bound.Kind, x.Bound.Int, x.Bound.Text, ())) (fun _ => rfl) (llCons (lInt .i64) (llCons (lInt .i64) (llCons (lInt .i64) (llCons (lSl 23) (llCons (lInt .i64) (llCons (lSl 52) (llCons (lInt .i64) (llCons (lInt .i64) (llCons (lInt .i64) (llCons lStr llNil))))))))))) false (bNil))
noncomputable def ref05_CompareAtom_b_cx (g_ref05_CompareItems : List Weighted → List Weighted → Bool × Int) (g_ref05_Compare : List Term → List Term → Bool × Int) : Cx ty := mkCx base 96 [(35, (ref05_CompareItems_S g_ref05_CompareItems)), (39, (ref05_Compare_S g_ref05_Compare)), (82, ref05_number_spec), (83, ref01_Compare_spec), (146, ref05_CompareRow_spec)] [] [(8, [(2, .keep), (3, .keep), (7, .keep)])] [(8, 1, [(2, .keep), (3, .keep)]), (8, 0, [(4, .keep)])] [(8, spW ref05_CompareAtom_b_V8 ref05_CompareAtom_b_B8 (ref05_CompareAtom_b_w8 g_ref05_CompareItems g_ref05_Compare) (.inl default) ref05_CompareAtom_b_tr8 fun x y => ((Int.toNat x.2.2.1 + 1) + y.1.Args.length + y.1.Items.length + y.2.1.Args.length + y.2.1.Items.length))] []
theorem ref05_CompareAtom_b_to8 (g_ref05_CompareItems : List Weighted → List Weighted → Bool × Int) (g_ref05_Compare : List Term → List Term → Bool × Int) : LoopOK (ref05_CompareAtom_b_cx g_ref05_CompareItems g_ref05_Compare) (lp (body Tryz.f104) 0) := loopOK_W (id := 8) (V := ref05_CompareAtom_b_V8) (B := ref05_CompareAtom_b_B8) (W := ref05_CompareAtom_b_w8 g_ref05_CompareItems g_ref05_Compare) (z := .inl default) (tr := ref05_CompareAtom_b_tr8) (m := fun x y => ((Int.toNat x.2.2.1 + 1) + y.1.Args.length + y.1.Items.length + y.2.1.Args.length + y.2.1.Items.length)) (by kernel_rfl) (by kernel_rfl) fun R H K x y => by kernel_rfl
noncomputable def ref05_CompareAtom_b_W (g_ref05_CompareItems : List Weighted → List Weighted → Bool × Int) (g_ref05_Compare : List Term → List Term → Bool × Int) (a : Atom) (b : Atom) : Wy0 (Int) := .bn (ref05_number a.Kind b.Kind) fun r9 => .i (r9 != (0 : Int)) (.k r9) (.bn (ref05_CompareRow a.Row b.Row) fun r8 => .i (r8 != (0 : Int)) (.k r8) (.bn (ref05_CompareAtom_b_L8 g_ref05_CompareItems g_ref05_Compare ((Int.toNat (0 : Int) + (1 : Nat)) + (Atom.mk a.Kind a.Row a.Args a.Func a.Items a.Op a.Bound).Args.length + (Atom.mk a.Kind a.Row a.Args a.Func a.Items a.Op a.Bound).Items.length + (Atom.mk b.Kind b.Row b.Args b.Func b.Items b.Op b.Bound).Args.length + (Atom.mk b.Kind b.Row b.Args b.Func b.Items b.Op b.Bound).Items.length) (0 : Int) (Atom.mk a.Kind a.Row a.Args a.Func a.Items a.Op a.Bound) (Atom.mk b.Kind b.Row b.Args b.Func b.Items b.Op b.Bound)) fun r7 => .i (isL r7) (.k (getL r7)) (.bn (ref05_number (Int.ofNat (getR r7).fst.Args.length) (Int.ofNat (getR r7).snd.Args.length)) fun r6 => .i (r6 != (0 : Int)) (.k r6) (.bn (ref05_number (getR r7).fst.Func (getR r7).snd.Func) fun r5 => .i (r5 != (0 : Int)) (.k r5) (.bn (g_ref05_CompareItems (getR r7).fst.Items (getR r7).snd.Items) fun r4 => .i (r4 != (0 : Int)) (.k r4) (.bn (ref05_number (getR r7).fst.Op (getR r7).snd.Op) fun r3 => .i (r3 != (0 : Int)) (.k r3) (.bn (ref01_Compare (getR r7).fst.Bound (getR r7).snd.Bound) fun r2 => .k r2)))))))
noncomputable def ref05_CompareAtom_b (g_ref05_CompareItems : List Weighted → List Weighted → Bool × Int) (g_ref05_Compare : List Term → List Term → Bool × Int) (a : Atom) (b : Atom) : Bool × Int := (ref05_CompareAtom_b_W g_ref05_CompareItems g_ref05_Compare a b).fin default
theorem ref05_CompareAtom_b_sound (g_ref05_CompareItems : List Weighted → List Weighted → Bool × Int) (g_ref05_Compare : List Term → List Term → Bool × Int) (h_g_ref05_CompareItems : Sound Tryz.prog base 35 (ref05_CompareItems_S g_ref05_CompareItems)) (h_g_ref05_Compare : Sound Tryz.prog base 39 (ref05_Compare_S g_ref05_Compare)) : Sound Tryz.prog base 104 (ref05_CompareAtom_S (ref05_CompareAtom_b g_ref05_CompareItems g_ref05_Compare)) :=
  sound_W (cx' := (ref05_CompareAtom_b_cx g_ref05_CompareItems g_ref05_Compare)) draws base_ok mkSame (mkSpecs ⟨(h_g_ref05_CompareItems), (h_g_ref05_Compare), (ref05_number_sound), (ref01_Compare_sound), (ref05_CompareRow_sound), trivial⟩) Tryz.call104 Tryz.func104 (c := body Tryz.f104) (by kernel_rfl) (loopsOK_of (l := [lp (body Tryz.f104) 0]) (by kernel_rfl) ⟨ref05_CompareAtom_b_to8 g_ref05_CompareItems g_ref05_Compare, trivial⟩) (sg := ⟨[.pure], []⟩) (A := ref05_CompareAtom_A) (res := ref05_CompareAtom_res) (W := fun x => ref05_CompareAtom_b_W g_ref05_CompareItems g_ref05_Compare x.1 x.2.1) (z := default) (fun x => by kernel_rfl) (fun _ => by kernel_rfl)
end Go.Proofs.YtnolcogncjijpaaGreatDoor
namespace Go.Proofs.YtnolcogncjijpaaGreatDoor
open Go Go.Ab
/-! ### lineage/lineageref05.CompareFactors -/
noncomputable def ref05_CompareFactors_b_W2 (g_ref05_CompareAtom : Atom → Atom → Bool × Int) (a : List Factor) (b : List Factor) (i : Int) : Wy (List Factor × List Factor × Int × Unit) (Unit) (Int ⊕ (List Factor × List Factor)) := .i (decide (i < Int.ofNat a.length)) (.i (decide (i < Int.ofNat b.length)) (.i (decide ((0 : Int) ≤ i) && decide (i < Int.ofNat a.length)) (.i (decide ((0 : Int) ≤ i) && decide (i < Int.ofNat b.length)) (.bn (g_ref05_CompareAtom (Atom.mk (a.getD i.toNat default).Atom.Kind (a.getD i.toNat default).Atom.Row (a.getD i.toNat default).Atom.Args (a.getD i.toNat default).Atom.Func (a.getD i.toNat default).Atom.Items (a.getD i.toNat default).Atom.Op (a.getD i.toNat default).Atom.Bound) (Atom.mk (b.getD i.toNat default).Atom.Kind (b.getD i.toNat default).Atom.Row (b.getD i.toNat default).Atom.Args (b.getD i.toNat default).Atom.Func (b.getD i.toNat default).Atom.Items (b.getD i.toNat default).Atom.Op (b.getD i.toNat default).Atom.Bound)) fun r1 => .i (r1 != (0 : Int)) (.k (.inl (r1))) (.i (decide ((0 : Int) ≤ i) && decide (i < Int.ofNat a.length)) (.i (decide ((0 : Int) ≤ i) && decide (i < Int.ofNat b.length)) (.bn (ref05_number (a.getD i.toNat default).Exp (b.getD i.toNat default).Exp) fun r0 => .i (r0 != (0 : Int)) (.k (.inl (r0))) (.h (a, b, (IntKind.i64.wrap (i + (1 : Int))), ()) ())) .d) .d)) .d) .d) (.k (.inr (a, b)))) (.k (.inr (a, b)))
noncomputable def ref05_CompareFactors_b_w2 (g_ref05_CompareAtom : Atom → Atom → Bool × Int) (x : List Factor × List Factor × Int × Unit) (y : Unit) : Wy (List Factor × List Factor × Int × Unit) (Unit) (Int ⊕ (List Factor × List Factor)) := ref05_CompareFactors_b_W2 g_ref05_CompareAtom x.1 x.2.1 x.2.2.1
noncomputable def ref05_CompareFactors_b_L2 (g_ref05_CompareAtom : Atom → Atom → Bool × Int) (n : Nat) (a : List Factor) (b : List Factor) (i : Int) : Bool × (Int ⊕ (List Factor × List Factor)) := iterW (ref05_CompareFactors_b_w2 g_ref05_CompareAtom) (.inl default) n (a, b, i, ()) ()
noncomputable def ref05_CompareFactors_b_tr2 (r : Int ⊕ (List Factor × List Factor)) : LTree ty := .ite (isL r) (.done .ret [.lit (.int .i64 (getL r))] []) (.done (.exit 0) [.sl 50 ((getR r).1), .sl 50 ((getR r).2)] [])
noncomputable def ref05_CompareFactors_b_V2 : LL ty (List Factor × List Factor × Int × Unit) := llCons (lSl 50) (llCons (lSl 50) (llCons (lInt .i64) llNil))
noncomputable def ref05_CompareFactors_b_B2 : BL ty (Unit) := bNil
noncomputable def ref05_CompareFactors_b_cx (g_ref05_CompareAtom : Atom → Atom → Bool × Int) : Cx ty := mkCx base 53 [(82, ref05_number_spec), (104, (ref05_CompareAtom_S g_ref05_CompareAtom))] [] [(2, [(0, .keep), (1, .keep), (5, .keep)])] [(2, 1, [(0, .keep), (1, .keep)]), (2, 0, [(4, .keep)])] [(2, spW ref05_CompareFactors_b_V2 ref05_CompareFactors_b_B2 (ref05_CompareFactors_b_w2 g_ref05_CompareAtom) (.inl default) ref05_CompareFactors_b_tr2 fun x y => (x.1.length + x.2.1.length + Int.toNat x.2.2.1 + 1))] []
theorem ref05_CompareFactors_b_to2 (g_ref05_CompareAtom : Atom → Atom → Bool × Int) : LoopOK (ref05_CompareFactors_b_cx g_ref05_CompareAtom) (lp (body Tryz.f89) 0) := loopOK_W (id := 2) (V := ref05_CompareFactors_b_V2) (B := ref05_CompareFactors_b_B2) (W := ref05_CompareFactors_b_w2 g_ref05_CompareAtom) (z := .inl default) (tr := ref05_CompareFactors_b_tr2) (m := fun x y => (x.1.length + x.2.1.length + Int.toNat x.2.2.1 + 1)) (by kernel_rfl) (by kernel_rfl) fun R H K x y => by kernel_rfl
noncomputable def ref05_CompareFactors_b_W (g_ref05_CompareAtom : Atom → Atom → Bool × Int) (a : List Factor) (b : List Factor) : Wy0 (Int) := .bn (ref05_CompareFactors_b_L2 g_ref05_CompareAtom (a.length + b.length + Int.toNat (0 : Int) + (1 : Nat)) a b (0 : Int)) fun r5 => .i (isL r5) (.k (getL r5)) (.bn (ref05_number (Int.ofNat (getR r5).fst.length) (Int.ofNat (getR r5).snd.length)) fun r4 => .k r4)
noncomputable def ref05_CompareFactors_b (g_ref05_CompareAtom : Atom → Atom → Bool × Int) (a : List Factor) (b : List Factor) : Bool × Int := (ref05_CompareFactors_b_W g_ref05_CompareAtom a b).fin default
theorem ref05_CompareFactors_b_sound (g_ref05_CompareAtom : Atom → Atom → Bool × Int) (h_g_ref05_CompareAtom : Sound Tryz.prog base 104 (ref05_CompareAtom_S g_ref05_CompareAtom)) : Sound Tryz.prog base 89 (ref05_CompareFactors_S (ref05_CompareFactors_b g_ref05_CompareAtom)) :=
  sound_W (cx' := (ref05_CompareFactors_b_cx g_ref05_CompareAtom)) draws base_ok mkSame (mkSpecs ⟨(ref05_number_sound), (h_g_ref05_CompareAtom), trivial⟩) Tryz.call89 Tryz.func89 (c := body Tryz.f89) (by kernel_rfl) (loopsOK_of (l := [lp (body Tryz.f89) 0]) (by kernel_rfl) ⟨ref05_CompareFactors_b_to2 g_ref05_CompareAtom, trivial⟩) (sg := ⟨[.pure], []⟩) (A := ref05_CompareFactors_A) (res := ref05_CompareFactors_res) (W := fun x => ref05_CompareFactors_b_W g_ref05_CompareAtom x.1 x.2.1) (z := default) (fun x => by kernel_rfl) (fun _ => by kernel_rfl)
end Go.Proofs.YtnolcogncjijpaaGreatDoor
namespace Go.Proofs.YtnolcogncjijpaaGreatDoor
open Go Go.Ab
/-! ### lineage/lineageref05.CompareItems -/
noncomputable def ref05_CompareItems_b_W2 (g_ref05_Compare : List Term → List Term → Bool × Int) (a : List Weighted) (b : List Weighted) (i : Int) : Wy (List Weighted × List Weighted × Int × Unit) (Unit) (Int ⊕ (List Weighted × List Weighted)) := .i (decide (i < Int.ofNat a.length)) (.i (decide (i < Int.ofNat b.length)) (.i (decide ((0 : Int) ≤ i) && decide (i < Int.ofNat a.length)) (.i (decide ((0 : Int) ≤ i) && decide (i < Int.ofNat b.length)) (.bn (ref01_Compare (a.getD i.toNat default).Value (b.getD i.toNat default).Value) fun r1 => .i (r1 != (0 : Int)) (.k (.inl (r1))) (.i (decide ((0 : Int) ≤ i) && decide (i < Int.ofNat a.length)) (.i (decide ((0 : Int) ≤ i) && decide (i < Int.ofNat b.length)) (.bn (g_ref05_Compare (a.getD i.toNat default).Ann (b.getD i.toNat default).Ann) fun r0 => .i (r0 != (0 : Int)) (.k (.inl (r0))) (.h (a, b, (IntKind.i64.wrap (i + (1 : Int))), ()) ())) .d) .d)) .d) .d) (.k (.inr (a, b)))) (.k (.inr (a, b)))
noncomputable def ref05_CompareItems_b_w2 (g_ref05_Compare : List Term → List Term → Bool × Int) (x : List Weighted × List Weighted × Int × Unit) (y : Unit) : Wy (List Weighted × List Weighted × Int × Unit) (Unit) (Int ⊕ (List Weighted × List Weighted)) := ref05_CompareItems_b_W2 g_ref05_Compare x.1 x.2.1 x.2.2.1
noncomputable def ref05_CompareItems_b_L2 (g_ref05_Compare : List Term → List Term → Bool × Int) (n : Nat) (a : List Weighted) (b : List Weighted) (i : Int) : Bool × (Int ⊕ (List Weighted × List Weighted)) := iterW (ref05_CompareItems_b_w2 g_ref05_Compare) (.inl default) n (a, b, i, ()) ()
noncomputable def ref05_CompareItems_b_tr2 (r : Int ⊕ (List Weighted × List Weighted)) : LTree ty := .ite (isL r) (.done .ret [.lit (.int .i64 (getL r))] []) (.done (.exit 0) [.sl 52 ((getR r).1), .sl 52 ((getR r).2)] [])
noncomputable def ref05_CompareItems_b_V2 : LL ty (List Weighted × List Weighted × Int × Unit) := llCons (lSl 52) (llCons (lSl 52) (llCons (lInt .i64) llNil))
noncomputable def ref05_CompareItems_b_B2 : BL ty (Unit) := bNil
noncomputable def ref05_CompareItems_b_cx (g_ref05_Compare : List Term → List Term → Bool × Int) : Cx ty := mkCx base 53 [(39, (ref05_Compare_S g_ref05_Compare)), (82, ref05_number_spec), (83, ref01_Compare_spec)] [] [(2, [(0, .keep), (1, .keep), (5, .keep)])] [(2, 1, [(0, .keep), (1, .keep)]), (2, 0, [(4, .keep)])] [(2, spW ref05_CompareItems_b_V2 ref05_CompareItems_b_B2 (ref05_CompareItems_b_w2 g_ref05_Compare) (.inl default) ref05_CompareItems_b_tr2 fun x y => (x.1.length + x.2.1.length + Int.toNat x.2.2.1 + 1))] []
theorem ref05_CompareItems_b_to2 (g_ref05_Compare : List Term → List Term → Bool × Int) : LoopOK (ref05_CompareItems_b_cx g_ref05_Compare) (lp (body Tryz.f35) 0) := loopOK_W (id := 2) (V := ref05_CompareItems_b_V2) (B := ref05_CompareItems_b_B2) (W := ref05_CompareItems_b_w2 g_ref05_Compare) (z := .inl default) (tr := ref05_CompareItems_b_tr2) (m := fun x y => (x.1.length + x.2.1.length + Int.toNat x.2.2.1 + 1)) (by kernel_rfl) (by kernel_rfl) fun R H K x y => by kernel_rfl
noncomputable def ref05_CompareItems_b_W (g_ref05_Compare : List Term → List Term → Bool × Int) (a : List Weighted) (b : List Weighted) : Wy0 (Int) := .bn (ref05_CompareItems_b_L2 g_ref05_Compare (a.length + b.length + Int.toNat (0 : Int) + (1 : Nat)) a b (0 : Int)) fun r5 => .i (isL r5) (.k (getL r5)) (.bn (ref05_number (Int.ofNat (getR r5).fst.length) (Int.ofNat (getR r5).snd.length)) fun r4 => .k r4)
noncomputable def ref05_CompareItems_b (g_ref05_Compare : List Term → List Term → Bool × Int) (a : List Weighted) (b : List Weighted) : Bool × Int := (ref05_CompareItems_b_W g_ref05_Compare a b).fin default
theorem ref05_CompareItems_b_sound (g_ref05_Compare : List Term → List Term → Bool × Int) (h_g_ref05_Compare : Sound Tryz.prog base 39 (ref05_Compare_S g_ref05_Compare)) : Sound Tryz.prog base 35 (ref05_CompareItems_S (ref05_CompareItems_b g_ref05_Compare)) :=
  sound_W (cx' := (ref05_CompareItems_b_cx g_ref05_Compare)) draws base_ok mkSame (mkSpecs ⟨(h_g_ref05_Compare), (ref05_number_sound), (ref01_Compare_sound), trivial⟩) Tryz.call35 Tryz.func35 (c := body Tryz.f35) (by kernel_rfl) (loopsOK_of (l := [lp (body Tryz.f35) 0]) (by kernel_rfl) ⟨ref05_CompareItems_b_to2 g_ref05_Compare, trivial⟩) (sg := ⟨[.pure], []⟩) (A := ref05_CompareItems_A) (res := ref05_CompareItems_res) (W := fun x => ref05_CompareItems_b_W g_ref05_Compare x.1 x.2.1) (z := default) (fun x => by kernel_rfl) (fun _ => by kernel_rfl)
end Go.Proofs.YtnolcogncjijpaaGreatDoor
namespace Go.Proofs.YtnolcogncjijpaaGreatDoor
open Go Go.Ab
noncomputable def RCompare_rec : Nat → (List Term → List Term → Bool × Int) × (List Factor → List Factor → Bool × Int) × (Atom → Atom → Bool × Int) × (List Weighted → List Weighted → Bool × Int)
  | 0 => (fun _ _ => (false, default), fun _ _ => (false, default), fun _ _ => (false, default), fun _ _ => (false, default))
  | n + 1 => (ref05_Compare_b ((RCompare_rec n).2.1), ref05_CompareFactors_b ((RCompare_rec n).2.2.1), ref05_CompareAtom_b ((RCompare_rec n).2.2.2) ((RCompare_rec n).1), ref05_CompareItems_b ((RCompare_rec n).1))
noncomputable def ref05_Compare_n (n : Nat) : List Term → List Term → Bool × Int := (RCompare_rec n).1
noncomputable def ref05_CompareFactors_n (n : Nat) : List Factor → List Factor → Bool × Int := (RCompare_rec n).2.1
noncomputable def ref05_CompareAtom_n (n : Nat) : Atom → Atom → Bool × Int := (RCompare_rec n).2.2.1
noncomputable def ref05_CompareItems_n (n : Nat) : List Weighted → List Weighted → Bool × Int := (RCompare_rec n).2.2.2
theorem ref05_Compare_succ (n : Nat) : ref05_Compare_n (n + 1) = ref05_Compare_b (ref05_CompareFactors_n n) := rfl
theorem ref05_CompareFactors_succ (n : Nat) : ref05_CompareFactors_n (n + 1) = ref05_CompareFactors_b (ref05_CompareAtom_n n) := rfl
theorem ref05_CompareAtom_succ (n : Nat) : ref05_CompareAtom_n (n + 1) = ref05_CompareAtom_b (ref05_CompareItems_n n) (ref05_Compare_n n) := rfl
theorem ref05_CompareItems_succ (n : Nat) : ref05_CompareItems_n (n + 1) = ref05_CompareItems_b (ref05_Compare_n n) := rfl
theorem RCompare_sound : ∀ n, Sound Tryz.prog base 39 (ref05_Compare_S (ref05_Compare_n n)) ∧ Sound Tryz.prog base 89 (ref05_CompareFactors_S (ref05_CompareFactors_n n)) ∧ Sound Tryz.prog base 104 (ref05_CompareAtom_S (ref05_CompareAtom_n n)) ∧ Sound Tryz.prog base 35 (ref05_CompareItems_S (ref05_CompareItems_n n))
  | 0 => ⟨sound_false Tryz.call39 (fun _ => rfl), sound_false Tryz.call89 (fun _ => rfl), sound_false Tryz.call104 (fun _ => rfl), sound_false Tryz.call35 (fun _ => rfl)⟩
  | n + 1 => by
    have ih := RCompare_sound n
    exact ⟨ref05_Compare_b_sound _ (ih.2.1), ref05_CompareFactors_b_sound _ (ih.2.2.1), ref05_CompareAtom_b_sound _ _ (ih.2.2.2) (ih.1), ref05_CompareItems_b_sound _ (ih.1)⟩
noncomputable def ref05_Compare : List Term → List Term → Bool × Int := ref05_Compare_n 1000
noncomputable def ref05_Compare_spec : Ab.Spec ty := ref05_Compare_S ref05_Compare
theorem ref05_Compare_sound : Sound Tryz.prog base 39 ref05_Compare_spec := (RCompare_sound 1000).1
noncomputable def ref05_CompareFactors : List Factor → List Factor → Bool × Int := ref05_CompareFactors_n 1000
noncomputable def ref05_CompareFactors_spec : Ab.Spec ty := ref05_CompareFactors_S ref05_CompareFactors
theorem ref05_CompareFactors_sound : Sound Tryz.prog base 89 ref05_CompareFactors_spec := (RCompare_sound 1000).2.1
noncomputable def ref05_CompareAtom : Atom → Atom → Bool × Int := ref05_CompareAtom_n 1000
noncomputable def ref05_CompareAtom_spec : Ab.Spec ty := ref05_CompareAtom_S ref05_CompareAtom
theorem ref05_CompareAtom_sound : Sound Tryz.prog base 104 ref05_CompareAtom_spec := (RCompare_sound 1000).2.2.1
noncomputable def ref05_CompareItems : List Weighted → List Weighted → Bool × Int := ref05_CompareItems_n 1000
noncomputable def ref05_CompareItems_spec : Ab.Spec ty := ref05_CompareItems_S ref05_CompareItems
theorem ref05_CompareItems_sound : Sound Tryz.prog base 35 ref05_CompareItems_spec := (RCompare_sound 1000).2.2.2
end Go.Proofs.YtnolcogncjijpaaGreatDoor
namespace Go.Proofs.YtnolcogncjijpaaGreatDoor
open Go Go.Ab
/-! ### lineage/annotation.Equal -/
noncomputable def annotation_Equal_cx : Cx ty := mkCx base 9 [(38, annotation_Compare_spec)] [] [] [] [] []
noncomputable def annotation_Equal_W (a : List Term) (b : List Term) : Wy0 (Bool) := .bn (annotation_Compare a b) fun r0 => .k (r0 == (0 : Int))
noncomputable def annotation_Equal (a : List Term) (b : List Term) : Bool × Bool := (annotation_Equal_W a b).fin default
noncomputable def annotation_Equal_res (r : Bool) : ARes ty := ⟨[.pure (.lit (.bool r))], []⟩
noncomputable def annotation_Equal_A : AL base (List Term × List Term × Unit) := aCons (aPure (vSl 42)) (aCons (aPure (vSl 42)) aNil)
noncomputable def annotation_Equal_spec : Ab.Spec ty := mkSpec annotation_Equal_A fun x => ((annotation_Equal x.1 x.2.1).1, annotation_Equal_res (annotation_Equal x.1 x.2.1).2)
theorem annotation_Equal_sound : Sound Tryz.prog base 32 annotation_Equal_spec :=
  sound_W (cx' := annotation_Equal_cx) draws base_ok mkSame (mkSpecs ⟨(annotation_Compare_sound), trivial⟩) Tryz.call32 Tryz.func32 (c := body Tryz.f32) (by kernel_rfl) (loopsOK_of (l := []) (by kernel_rfl) trivial) (sg := ⟨[.pure], []⟩) (A := annotation_Equal_A) (res := annotation_Equal_res) (W := fun x => annotation_Equal_W x.1 x.2.1) (z := default) (fun x => by kernel_rfl) (fun _ => by kernel_rfl)
end Go.Proofs.YtnolcogncjijpaaGreatDoor
namespace Go.Proofs.YtnolcogncjijpaaGreatDoor
open Go Go.Ab
/-! ### lineage/annotation.Valid -/
noncomputable def annotation_Valid_res (r : Bool) : ARes ty := ⟨[.pure (.lit (.bool r))], []⟩
noncomputable def annotation_Valid_A : AL base (List Term × Unit) := aCons (aPure (vSl 42)) aNil
noncomputable def annotation_Valid_S (F : List Term → Bool × Bool) : Ab.Spec ty := mkSpec annotation_Valid_A fun x => ((F x.1).1, annotation_Valid_res (F x.1).2)
/-! ### lineage/annotation.validAtom -/
noncomputable def annotation_validAtom_res (r : Bool) : ARes ty := ⟨[.pure (.lit (.bool r))], []⟩
noncomputable def annotation_validAtom_A : AL base (Atom × Unit) := aCons (aPure (vAgg 48)) aNil
noncomputable def annotation_validAtom_S (F : Atom → Bool × Bool) : Ab.Spec ty := mkSpec annotation_validAtom_A fun x => ((F x.1).1, annotation_validAtom_res (F x.1).2)
/-! ### lineage/annotation.validAtom literal 1 -/
noncomputable def annotation_validAtom_c1_res (r : Bool) : ARes ty := ⟨[.pure (.lit (.bool r))], []⟩
noncomputable def annotation_validAtom_c1_A : AL base (List Term × Unit) := aCons (aPure (vSl 42)) aNil
noncomputable def annotation_validAtom_c1_S (F : List Term → Bool × Bool) : Ab.Spec ty := mkSpec annotation_validAtom_c1_A fun x => ((F x.1).1, annotation_validAtom_c1_res (F x.1).2)
/-! ### lineage/annotation.validAtom literal 2 -/
noncomputable def annotation_validAtom_c2_res (r : Bool) : ARes ty := ⟨[.pure (.lit (.bool r))], []⟩
noncomputable def annotation_validAtom_c2_A : AL base (Weighted × Unit) := aCons (aPure (vAgg 52)) aNil
noncomputable def annotation_validAtom_c2_S (F : Weighted → Bool × Bool) : Ab.Spec ty := mkSpec annotation_validAtom_c2_A fun x => ((F x.1).1, annotation_validAtom_c2_res (F x.1).2)
/-! ### slices.IndexFunc[[]lineage/api.Annotation,lineage/api.Annotation] -/
noncomputable def slices_IndexFunc_Lapi_Annotation_api_Annotation_v1_res (r : Int) : ARes ty := ⟨[.pure (.lit (.int .i64 r))], []⟩
noncomputable def slices_IndexFunc_Lapi_Annotation_api_Annotation_v1_A : AL base (List (List Term) × Unit × Unit) := aCons (aPure (vSl 23)) (aCons (aPure (vFn 130 vNil)) aNil)
noncomputable def slices_IndexFunc_Lapi_Annotation_api_Annotation_v1_S (F : List (List Term) → Bool × Int) : Ab.Spec ty := mkSpec slices_IndexFunc_Lapi_Annotation_api_Annotation_v1_A fun x => ((F x.1).1, slices_IndexFunc_Lapi_Annotation_api_Annotation_v1_res (F x.1).2)
/-! ### slices.ContainsFunc[[]lineage/api.Annotation,lineage/api.Annotation] -/
noncomputable def slices_ContainsFunc_Lapi_Annotation_api_Annotation_v1_res (r : Bool) : ARes ty := ⟨[.pure (.lit (.bool r))], []⟩
noncomputable def slices_ContainsFunc_Lapi_Annotation_api_Annotation_v1_A : AL base (List (List Term) × Unit × Unit) := aCons (aPure (vSl 23)) (aCons (aPure (vFn 130 vNil)) aNil)
noncomputable def slices_ContainsFunc_Lapi_Annotation_api_Annotation_v1_S (F : List (List Term) → Bool × Bool) : Ab.Spec ty := mkSpec slices_ContainsFunc_Lapi_Annotation_api_Annotation_v1_A fun x => ((F x.1).1, slices_ContainsFunc_Lapi_Annotation_api_Annotation_v1_res (F x.1).2)
/-! ### slices.IndexFunc[[]lineage/api.Weighted,lineage/api.Weighted] -/
noncomputable def slices_IndexFunc_Lapi_Weighted_api_Weighted_v2_res (r : Int) : ARes ty := ⟨[.pure (.lit (.int .i64 r))], []⟩
noncomputable def slices_IndexFunc_Lapi_Weighted_api_Weighted_v2_A : AL base (List Weighted × Unit × Unit) := aCons (aPure (vSl 52)) (aCons (aPure (vFn 131 vNil)) aNil)
noncomputable def slices_IndexFunc_Lapi_Weighted_api_Weighted_v2_S (F : List Weighted → Bool × Int) : Ab.Spec ty := mkSpec slices_IndexFunc_Lapi_Weighted_api_Weighted_v2_A fun x => ((F x.1).1, slices_IndexFunc_Lapi_Weighted_api_Weighted_v2_res (F x.1).2)
/-! ### slices.ContainsFunc[[]lineage/api.Weighted,lineage/api.Weighted] -/
noncomputable def slices_ContainsFunc_Lapi_Weighted_api_Weighted_v2_res (r : Bool) : ARes ty := ⟨[.pure (.lit (.bool r))], []⟩
noncomputable def slices_ContainsFunc_Lapi_Weighted_api_Weighted_v2_A : AL base (List Weighted × Unit × Unit) := aCons (aPure (vSl 52)) (aCons (aPure (vFn 131 vNil)) aNil)
noncomputable def slices_ContainsFunc_Lapi_Weighted_api_Weighted_v2_S (F : List Weighted → Bool × Bool) : Ab.Spec ty := mkSpec slices_ContainsFunc_Lapi_Weighted_api_Weighted_v2_A fun x => ((F x.1).1, slices_ContainsFunc_Lapi_Weighted_api_Weighted_v2_res (F x.1).2)
end Go.Proofs.YtnolcogncjijpaaGreatDoor
namespace Go.Proofs.YtnolcogncjijpaaGreatDoor
open Go Go.Ab
/-! ### lineage/annotation.idempotent -/
noncomputable def annotation_idempotent_cx : Cx ty := mkCx base 11 [] [] [] [] [] []
noncomputable def annotation_idempotent_W (x_ : Atom) : Wy0 (Bool) := .i (x_.Kind == (3 : Int)) (.k true) (.k (x_.Kind == (4 : Int)))
noncomputable def annotation_idempotent (x_ : Atom) : Bool × Bool := (annotation_idempotent_W x_).fin default
noncomputable def annotation_idempotent_res (r : Bool) : ARes ty := ⟨[.pure (.lit (.bool r))], []⟩
noncomputable def annotation_idempotent_A : AL base (Atom × Unit) := aCons (aPure (vAgg 48)) aNil
noncomputable def annotation_idempotent_spec : Ab.Spec ty := mkSpec annotation_idempotent_A fun x => ((annotation_idempotent x.1).1, annotation_idempotent_res (annotation_idempotent x.1).2)
theorem annotation_idempotent_sound : Sound Tryz.prog base 72 annotation_idempotent_spec :=
  sound_W (cx' := annotation_idempotent_cx) draws base_ok mkSame (mkSpecs trivial) Tryz.call72 Tryz.func72 (c := body Tryz.f72) (by kernel_rfl) (loopsOK_of (l := []) (by kernel_rfl) trivial) (sg := ⟨[.pure], []⟩) (A := annotation_idempotent_A) (res := annotation_idempotent_res) (W := fun x => annotation_idempotent_W x.1) (z := default) (fun x => by kernel_rfl) (fun _ => by kernel_rfl)
end Go.Proofs.YtnolcogncjijpaaGreatDoor
namespace Go.Proofs.YtnolcogncjijpaaGreatDoor
open Go Go.Ab
/-! ### lineage/annotation.Size -/
noncomputable def annotation_Size_res (r : Int) : ARes ty := ⟨[.pure (.lit (.int .i64 r))], []⟩
noncomputable def annotation_Size_A : AL base (List Term × Unit) := aCons (aPure (vSl 42)) aNil
noncomputable def annotation_Size_S (F : List Term → Bool × Int) : Ab.Spec ty := mkSpec annotation_Size_A fun x => ((F x.1).1, annotation_Size_res (F x.1).2)
end Go.Proofs.YtnolcogncjijpaaGreatDoor
namespace Go.Proofs.YtnolcogncjijpaaGreatDoor
open Go Go.Ab
/-! ### lineage/annotation.Size -/
noncomputable def annotation_Size_b_W10 (g_annotation_Size : List Term → Bool × Int) (n_ : Int) (t12 : List Term) (t13 : Int) (t14 : Int) (t25 : List Factor) (t26 : Int) (t27 : Int) (t33 : List (List Term)) (t34 : Int) (t35 : Int) (f : Factor) : Wy (Int × Unit × List Term × Int × Int × List Factor × Int × Int × List (List Term) × Int × Int × Unit) (Factor × Unit) (Int × List Term × Int × Int × List Factor × Int × Int × Factor) := .i (decide (t35 < t34)) (.i (decide ((0 : Int) ≤ t35) && decide (t35 < Int.ofNat t33.length)) (.bn (g_annotation_Size (t33.getD t35.toNat default)) fun r0 => .h ((IntKind.i64.wrap (n_ + r0)), (), t12, t13, t14, t25, t26, t27, t33, t34, (IntKind.i64.wrap (t35 + (1 : Int))), ()) (f, ())) .d) (.k (n_, t12, t13, t14, t25, t26, t27, f))
noncomputable def annotation_Size_b_w10 (g_annotation_Size : List Term → Bool × Int) (x : Int × Unit × List Term × Int × Int × List Factor × Int × Int × List (List Term) × Int × Int × Unit) (y : Factor × Unit) : Wy (Int × Unit × List Term × Int × Int × List Factor × Int × Int × List (List Term) × Int × Int × Unit) (Factor × Unit) (Int × List Term × Int × Int × List Factor × Int × Int × Factor) := annotation_Size_b_W10 g_annotation_Size x.1 x.2.2.1 x.2.2.2.1 x.2.2.2.2.1 x.2.2.2.2.2.1 x.2.2.2.2.2.2.1 x.2.2.2.2.2.2.2.1 x.2.2.2.2.2.2.2.2.1 x.2.2.2.2.2.2.2.2.2.1 x.2.2.2.2.2.2.2.2.2.2.1 y.1
noncomputable def annotation_Size_b_L10 (g_annotation_Size : List Term → Bool × Int) (n : Nat) (n_ : Int) (t12 : List Term) (t13 : Int) (t14 : Int) (t25 : List Factor) (t26 : Int) (t27 : Int) (t33 : List (List Term)) (t34 : Int) (t35 : Int) (f : Factor) : Bool × (Int × List Term × Int × Int × List Factor × Int × Int × Factor) := iterW (annotation_Size_b_w10 g_annotation_Size) default n (n_, (), t12, t13, t14, t25, t26, t27, t33, t34, t35, ()) (f, ())
noncomputable def annotation_Size_b_tr10 (r : Int × List Term × Int × Int × List Factor × Int × Int × Factor) : LTree ty := .done (.exit 4) [.lit (.int .i64 r.1), .ptr 248 0, .sl 42 r.2.1, .lit (.int .i64 r.2.2.1), .lit (.int .i64 r.2.2.2.1), .sl 50 r.2.2.2.2.1, .lit (.int .i64 r.2.2.2.2.2.1), .lit (.int .i64 r.2.2.2.2.2.2.1)] [.box (base.enc 50 r.2.2.2.2.2.2.2) false]
noncomputable def annotation_Size_b_V10 : LL ty (Int × Unit × List Term × Int × Int × List Factor × Int × Int × List (List Term) × Int × Int × Unit) := llCons (lInt .i64) (llCons (lPtrC 248 0) (llCons (lSl 42) (llCons (lInt .i64) (llCons (lInt .i64) (llCons (lSl 50) (llCons (lInt .i64) (llCons (lInt .i64) (llCons (lSl 23) (llCons (lInt .i64) (llCons (lInt .i64) llNil))))))))))
noncomputable def annotation_Size_b_B10 : BL ty (Factor × Unit) := bBox (llMap (fun x => (⟨⟨x.1, ⟨x.2.1, x.2.2.1⟩, x.2.2.2.1, x.2.2.2.2.1, x.2.2.2.2.2.1, x.2.2.2.2.2.2.1, ⟨x.2.2.2.2.2.2.2.1, x.2.2.2.2.2.2.2.2.1, x.2.2.2.2.2.2.2.2.2.1⟩⟩, x.2.2.2.2.2.2.2.2.2.2.1⟩ : Factor)) (fun x => (x.Atom.Kind, x.Atom.Row.Table, x.Atom.Row.Seq, x.Atom.Args, x.Atom.Func, x.Atom.Items, x.Atom.Op, x.Atom.Bound.Kind, x.Atom.Bound.Int, x.Atom.Bound.Text, x.Exp, ())) (fun _ => rfl) (llCons (lInt .i64) (llCons (lInt .i64) (llCons (lInt .i64) (llCons (lSl 23) (llCons (lInt .i64) (llCons (lSl 52) (llCons (lInt .i64) (llCons (lInt .i64) (llCons (lInt .i64) (llCons lStr (llCons (lInt .i64) llNil)))))))))))) false (bNil)
noncomputable def annotation_Size_b_W15 (g_annotation_Size : List Term → Bool × Int) (n_ : Int) (t12 : List Term) (t13 : Int) (t14 : Int) (t25 : List Factor) (t26 : Int) (t27 : Int) (t46 : List Weighted) (t47 : Int) (t48 : Int) : Wy (Int × List Term × Int × Int × List Factor × Int × Int × List Weighted × Int × Int × Unit) (Unit) (Int × List Term × Int × Int × List Factor × Int × Int) := .i (decide (t48 < t47)) (.i (decide ((0 : Int) ≤ t48) && decide (t48 < Int.ofNat t46.length)) (.bn (g_annotation_Size (t46.getD t48.toNat default).Ann) fun r2 => .h ((IntKind.i64.wrap (n_ + IntKind.i64.wrap ((1 : Int) + r2))), t12, t13, t14, t25, t26, t27, t46, t47, (IntKind.i64.wrap (t48 + (1 : Int))), ()) ()) .d) (.k (n_, t12, t13, t14, t25, t26, t27))
noncomputable def annotation_Size_b_w15 (g_annotation_Size : List Term → Bool × Int) (x : Int × List Term × Int × Int × List Factor × Int × Int × List Weighted × Int × Int × Unit) (y : Unit) : Wy (Int × List Term × Int × Int × List Factor × Int × Int × List Weighted × Int × Int × Unit) (Unit) (Int × List Term × Int × Int × List Factor × Int × Int) := annotation_Size_b_W15 g_annotation_Size x.1 x.2.1 x.2.2.1 x.2.2.2.1 x.2.2.2.2.1 x.2.2.2.2.2.1 x.2.2.2.2.2.2.1 x.2.2.2.2.2.2.2.1 x.2.2.2.2.2.2.2.2.1 x.2.2.2.2.2.2.2.2.2.1
noncomputable def annotation_Size_b_L15 (g_annotation_Size : List Term → Bool × Int) (n : Nat) (n_ : Int) (t12 : List Term) (t13 : Int) (t14 : Int) (t25 : List Factor) (t26 : Int) (t27 : Int) (t46 : List Weighted) (t47 : Int) (t48 : Int) : Bool × (Int × List Term × Int × Int × List Factor × Int × Int) := iterW (annotation_Size_b_w15 g_annotation_Size) default n (n_, t12, t13, t14, t25, t26, t27, t46, t47, t48, ()) ()
noncomputable def annotation_Size_b_tr15 (r : Int × List Term × Int × Int × List Factor × Int × Int) : LTree ty := .done (.exit 6) [.lit (.int .i64 r.1), .sl 42 r.2.1, .lit (.int .i64 r.2.2.1), .lit (.int .i64 r.2.2.2.1), .sl 50 r.2.2.2.2.1, .lit (.int .i64 r.2.2.2.2.2.1), .lit (.int .i64 r.2.2.2.2.2.2)] []
noncomputable def annotation_Size_b_V15 : LL ty (Int × List Term × Int × Int × List Factor × Int × Int × List Weighted × Int × Int × Unit) := llCons (lInt .i64) (llCons (lSl 42) (llCons (lInt .i64) (llCons (lInt .i64) (llCons (lSl 50) (llCons (lInt .i64) (llCons (lInt .i64) (llCons (lSl 52) (llCons (lInt .i64) (llCons (lInt .i64) llNil)))))))))
noncomputable def annotation_Size_b_B15 : BL ty (Unit) := bNil
noncomputable def annotation_Size_b_W7 (g_annotation_Size : List Term → Bool × Int) (n_ : Int) (t12 : List Term) (t13 : Int) (t14 : Int) (t25 : List Factor) (t26 : Int) (t27 : Int) : Wy (Int × List Term × Int × Int × List Factor × Int × Int × Unit) (Unit) (Int × List Term × Int × Int) := .i (decide (t27 < t26)) (.i (decide ((0 : Int) ≤ t27) && decide (t27 < Int.ofNat t25.length)) (.bn (annotation_Size_b_L10 g_annotation_Size ((n_.toNat + t12.length + t13.toNat + t14.toNat + t25.length + t26.toNat + t27.toNat + (t25.getD t27.toNat default).Atom.Args.length + (Int.ofNat (t25.getD t27.toNat default).Atom.Args.length).toNat + Int.toNat (0 : Int) + (1 : Nat)) + (FactorOf.mk (Atom.mk (t25.getD t27.toNat default).Atom.Kind (t25.getD t27.toNat default).Atom.Row (t25.getD t27.toNat default).Atom.Args (t25.getD t27.toNat default).Atom.Func (t25.getD t27.toNat default).Atom.Items (t25.getD t27.toNat default).Atom.Op (t25.getD t27.toNat default).Atom.Bound) (t25.getD t27.toNat default).Exp).Atom.Args.length + (FactorOf.mk (Atom.mk (t25.getD t27.toNat default).Atom.Kind (t25.getD t27.toNat default).Atom.Row (t25.getD t27.toNat default).Atom.Args (t25.getD t27.toNat default).Atom.Func (t25.getD t27.toNat default).Atom.Items (t25.getD t27.toNat default).Atom.Op (t25.getD t27.toNat default).Atom.Bound) (t25.getD t27.toNat default).Exp).Atom.Items.length) n_ t12 t13 t14 t25 t26 t27 (t25.getD t27.toNat default).Atom.Args (Int.ofNat (t25.getD t27.toNat default).Atom.Args.length) (0 : Int) (FactorOf.mk (Atom.mk (t25.getD t27.toNat default).Atom.Kind (t25.getD t27.toNat default).Atom.Row (t25.getD t27.toNat default).Atom.Args (t25.getD t27.toNat default).Atom.Func (t25.getD t27.toNat default).Atom.Items (t25.getD t27.toNat default).Atom.Op (t25.getD t27.toNat default).Atom.Bound) (t25.getD t27.toNat default).Exp)) fun r5 => .bn (annotation_Size_b_L15 g_annotation_Size (r5.fst.toNat + r5.snd.fst.length + r5.snd.snd.fst.toNat + r5.snd.snd.snd.fst.toNat + r5.snd.snd.snd.snd.fst.length + r5.snd.snd.snd.snd.snd.fst.toNat + r5.snd.snd.snd.snd.snd.snd.fst.toNat + r5.snd.snd.snd.snd.snd.snd.snd.Atom.Items.length + (Int.ofNat r5.snd.snd.snd.snd.snd.snd.snd.Atom.Items.length).toNat + Int.toNat (0 : Int) + (1 : Nat)) r5.fst r5.snd.fst r5.snd.snd.fst r5.snd.snd.snd.fst r5.snd.snd.snd.snd.fst r5.snd.snd.snd.snd.snd.fst r5.snd.snd.snd.snd.snd.snd.fst r5.snd.snd.snd.snd.snd.snd.snd.Atom.Items (Int.ofNat r5.snd.snd.snd.snd.snd.snd.snd.Atom.Items.length) (0 : Int)) fun r4 => .h ((r4.fst), (r4.snd.fst), (r4.snd.snd.fst), (r4.snd.snd.snd.fst), (r4.snd.snd.snd.snd.fst), (r4.snd.snd.snd.snd.snd.fst), (IntKind.i64.wrap (r4.snd.snd.snd.snd.snd.snd + (1 : Int))), ()) ()) .d) (.k (n_, t12, t13, t14))
noncomputable def annotation_Size_b_w7 (g_annotation_Size : List Term → Bool × Int) (x : Int × List Term × Int × Int × List Factor × Int × Int × Unit) (y : Unit) : Wy (Int × List Term × Int × Int × List Factor × Int × Int × Unit) (Unit) (Int × List Term × Int × Int) := annotation_Size_b_W7 g_annotation_Size x.1 x.2.1 x.2.2.1 x.2.2.2.1 x.2.2.2.2.1 x.2.2.2.2.2.1 x.2.2.2.2.2.2.1
noncomputable def annotation_Size_b_L7 (g_annotation_Size : List Term → Bool × Int) (n : Nat) (n_ : Int) (t12 : List Term) (t13 : Int) (t14 : Int) (t25 : List Factor) (t26 : Int) (t27 : Int) : Bool × (Int × List Term × Int × Int) := iterW (annotation_Size_b_w7 g_annotation_Size) default n (n_, t12, t13, t14, t25, t26, t27, ()) ()
noncomputable def annotation_Size_b_tr7 (r : Int × List Term × Int × Int) : LTree ty := .done (.exit 2) [.lit (.int .i64 r.1), .sl 42 r.2.1, .lit (.int .i64 r.2.2.1), .lit (.int .i64 r.2.2.2)] []
noncomputable def annotation_Size_b_V7 : LL ty (Int × List Term × Int × Int × List Factor × Int × Int × Unit) := llCons (lInt .i64) (llCons (lSl 42) (llCons (lInt .i64) (llCons (lInt .i64) (llCons (lSl 50) (llCons (lInt .i64) (llCons (lInt .i64) llNil))))))
noncomputable def annotation_Size_b_B7 : BL ty (Unit) := bNil
noncomputable def annotation_Size_b_W3 (g_annotation_Size : List Term → Bool × Int) (n_ : Int) (t12 : List Term) (t13 : Int) (t14 : Int) : Wy (Int × List Term × Int × Int × Unit) (Unit) (Int) := .i (decide (t14 < t13)) (.i (decide ((0 : Int) ≤ t14) && decide (t14 < Int.ofNat t12.length)) (.bn (annotation_Size_b_L7 g_annotation_Size ((IntKind.i64.wrap (n_ + IntKind.i64.wrap ((1 : Int) + Int.ofNat (t12.getD t14.toNat default).Factors.length))).toNat + t12.length + t13.toNat + t14.toNat + (t12.getD t14.toNat default).Factors.length + (Int.ofNat (t12.getD t14.toNat default).Factors.length).toNat + Int.toNat (0 : Int) + (1 : Nat)) (IntKind.i64.wrap (n_ + IntKind.i64.wrap ((1 : Int) + Int.ofNat (t12.getD t14.toNat default).Factors.length))) t12 t13 t14 (t12.getD t14.toNat default).Factors (Int.ofNat (t12.getD t14.toNat default).Factors.length) (0 : Int)) fun r8 => .h ((r8.fst), (r8.snd.fst), (r8.snd.snd.fst), (IntKind.i64.wrap (r8.snd.snd.snd + (1 : Int))), ()) ()) .d) (.k n_)
noncomputable def annotation_Size_b_w3 (g_annotation_Size : List Term → Bool × Int) (x : Int × List Term × Int × Int × Unit) (y : Unit) : Wy (Int × List Term × Int × Int × Unit) (Unit) (Int) := annotation_Size_b_W3 g_annotation_Size x.1 x.2.1 x.2.2.1 x.2.2.2.1
noncomputable def annotation_Size_b_L3 (g_annotation_Size : List Term → Bool × Int) (n : Nat) (n_ : Int) (t12 : List Term) (t13 : Int) (t14 : Int) : Bool × Int := iterW (annotation_Size_b_w3 g_annotation_Size) default n (n_, t12, t13, t14, ()) ()
noncomputable def annotation_Size_b_tr3 (r : Int) : LTree ty := .done (.exit 0) [.lit (.int .i64 r)] []
noncomputable def annotation_Size_b_V3 : LL ty (Int × List Term × Int × Int × Unit) := llCons (lInt .i64) (llCons (lSl 42) (llCons (lInt .i64) (llCons (lInt .i64) llNil)))
noncomputable def annotation_Size_b_B3 : BL ty (Unit) := bNil
noncomputable def annotation_Size_b_cx (g_annotation_Size : List Term → Bool × Int) : Cx ty := mkCx base 62 [(47, (annotation_Size_S g_annotation_Size))] [] [(3, [(3, .keep), (12, .keep), (13, .keep), (14, .keep)]), (7, [(3, .keep), (12, .keep), (13, .keep), (14, .keep), (25, .keep), (26, .keep), (27, .keep)]), (10, [(3, .keep), (7, .keep), (12, .keep), (13, .keep), (14, .keep), (25, .keep), (26, .keep), (27, .keep), (33, .keep), (34, .keep), (35, .keep)]), (15, [(3, .keep), (12, .keep), (13, .keep), (14, .keep), (25, .keep), (26, .keep), (27, .keep), (46, .keep), (47, .keep), (48, .keep)])] [(3, 1, [(3, .keep)]), (7, 3, [(3, .keep), (12, .keep), (13, .keep), (14, .keep)]), (10, 5, [(3, .keep), (7, .keep), (12, .keep), (13, .keep), (14, .keep), (25, .keep), (26, .keep), (27, .keep)]), (15, 7, [(3, .keep), (12, .keep), (13, .keep), (14, .keep), (25, .keep), (26, .keep), (27, .keep)])] [(10, spW annotation_Size_b_V10 annotation_Size_b_B10 (annotation_Size_b_w10 g_annotation_Size) default annotation_Size_b_tr10 fun x y => ((Int.toNat x.1 + x.2.2.1.length + Int.toNat x.2.2.2.1 + Int.toNat x.2.2.2.2.1 + x.2.2.2.2.2.1.length + Int.toNat x.2.2.2.2.2.2.1 + Int.toNat x.2.2.2.2.2.2.2.1 + x.2.2.2.2.2.2.2.2.1.length + Int.toNat x.2.2.2.2.2.2.2.2.2.1 + Int.toNat x.2.2.2.2.2.2.2.2.2.2.1 + 1) + y.1.Atom.Args.length + y.1.Atom.Items.length)), (15, spW annotation_Size_b_V15 annotation_Size_b_B15 (annotation_Size_b_w15 g_annotation_Size) default annotation_Size_b_tr15 fun x y => (Int.toNat x.1 + x.2.1.length + Int.toNat x.2.2.1 + Int.toNat x.2.2.2.1 + x.2.2.2.2.1.length + Int.toNat x.2.2.2.2.2.1 + Int.toNat x.2.2.2.2.2.2.1 + x.2.2.2.2.2.2.2.1.length + Int.toNat x.2.2.2.2.2.2.2.2.1 + Int.toNat x.2.2.2.2.2.2.2.2.2.1 + 1)), (7, spW annotation_Size_b_V7 annotation_Size_b_B7 (annotation_Size_b_w7 g_annotation_Size) default annotation_Size_b_tr7 fun x y => (Int.toNat x.1 + x.2.1.length + Int.toNat x.2.2.1 + Int.toNat x.2.2.2.1 + x.2.2.2.2.1.length + Int.toNat x.2.2.2.2.2.1 + Int.toNat x.2.2.2.2.2.2.1 + 1)), (3, spW annotation_Size_b_V3 annotation_Size_b_B3 (annotation_Size_b_w3 g_annotation_Size) default annotation_Size_b_tr3 fun x y => (Int.toNat x.1 + x.2.1.length + Int.toNat x.2.2.1 + Int.toNat x.2.2.2.1 + 1))] []
theorem annotation_Size_b_to10 (g_annotation_Size : List Term → Bool × Int) : LoopOK (annotation_Size_b_cx g_annotation_Size) (lp (body Tryz.f47) 2) := loopOK_W (id := 10) (V := annotation_Size_b_V10) (B := annotation_Size_b_B10) (W := annotation_Size_b_w10 g_annotation_Size) (z := default) (tr := annotation_Size_b_tr10) (m := fun x y => ((Int.toNat x.1 + x.2.2.1.length + Int.toNat x.2.2.2.1 + Int.toNat x.2.2.2.2.1 + x.2.2.2.2.2.1.length + Int.toNat x.2.2.2.2.2.2.1 + Int.toNat x.2.2.2.2.2.2.2.1 + x.2.2.2.2.2.2.2.2.1.length + Int.toNat x.2.2.2.2.2.2.2.2.2.1 + Int.toNat x.2.2.2.2.2.2.2.2.2.2.1 + 1) + y.1.Atom.Args.length + y.1.Atom.Items.length)) (by kernel_rfl) (by kernel_rfl) fun R H K x y => by kernel_rfl
theorem annotation_Size_b_to15 (g_annotation_Size : List Term → Bool × Int) : LoopOK (annotation_Size_b_cx g_annotation_Size) (lp (body Tryz.f47) 3) := loopOK_W (id := 15) (V := annotation_Size_b_V15) (B := annotation_Size_b_B15) (W := annotation_Size_b_w15 g_annotation_Size) (z := default) (tr := annotation_Size_b_tr15) (m := fun x y => (Int.toNat x.1 + x.2.1.length + Int.toNat x.2.2.1 + Int.toNat x.2.2.2.1 + x.2.2.2.2.1.length + Int.toNat x.2.2.2.2.2.1 + Int.toNat x.2.2.2.2.2.2.1 + x.2.2.2.2.2.2.2.1.length + Int.toNat x.2.2.2.2.2.2.2.2.1 + Int.toNat x.2.2.2.2.2.2.2.2.2.1 + 1)) (by kernel_rfl) (by kernel_rfl) fun R H K x y => by kernel_rfl
theorem annotation_Size_b_to7 (g_annotation_Size : List Term → Bool × Int) : LoopOK (annotation_Size_b_cx g_annotation_Size) (lp (body Tryz.f47) 1) := loopOK_W (id := 7) (V := annotation_Size_b_V7) (B := annotation_Size_b_B7) (W := annotation_Size_b_w7 g_annotation_Size) (z := default) (tr := annotation_Size_b_tr7) (m := fun x y => (Int.toNat x.1 + x.2.1.length + Int.toNat x.2.2.1 + Int.toNat x.2.2.2.1 + x.2.2.2.2.1.length + Int.toNat x.2.2.2.2.2.1 + Int.toNat x.2.2.2.2.2.2.1 + 1)) (by kernel_rfl) (by kernel_rfl) fun R H K x y => by kernel_rfl
theorem annotation_Size_b_to3 (g_annotation_Size : List Term → Bool × Int) : LoopOK (annotation_Size_b_cx g_annotation_Size) (lp (body Tryz.f47) 0) := loopOK_W (id := 3) (V := annotation_Size_b_V3) (B := annotation_Size_b_B3) (W := annotation_Size_b_w3 g_annotation_Size) (z := default) (tr := annotation_Size_b_tr3) (m := fun x y => (Int.toNat x.1 + x.2.1.length + Int.toNat x.2.2.1 + Int.toNat x.2.2.2.1 + 1)) (by kernel_rfl) (by kernel_rfl) fun R H K x y => by kernel_rfl
noncomputable def annotation_Size_b_W (g_annotation_Size : List Term → Bool × Int) (a : List Term) : Wy0 (Int) := .bn (annotation_Size_b_L3 g_annotation_Size (Int.toNat (0 : Int) + a.length + (Int.ofNat a.length).toNat + Int.toNat (0 : Int) + (1 : Nat)) (0 : Int) a (Int.ofNat a.length) (0 : Int)) fun r10 => .k r10
noncomputable def annotation_Size_b (g_annotation_Size : List Term → Bool × Int) (a : List Term) : Bool × Int := (annotation_Size_b_W g_annotation_Size a).fin default
theorem annotation_Size_b_sound (g_annotation_Size : List Term → Bool × Int) (h_g_annotation_Size : Sound Tryz.prog base 47 (annotation_Size_S g_annotation_Size)) : Sound Tryz.prog base 47 (annotation_Size_S (annotation_Size_b g_annotation_Size)) :=
  sound_W (cx' := (annotation_Size_b_cx g_annotation_Size)) draws base_ok mkSame (mkSpecs ⟨(h_g_annotation_Size), trivial⟩) Tryz.call47 Tryz.func47 (c := body Tryz.f47) (by kernel_rfl) (loopsOK_of (l := [lp (body Tryz.f47) 0, lp (body Tryz.f47) 1, lp (body Tryz.f47) 2, lp (body Tryz.f47) 3]) (by kernel_rfl) ⟨annotation_Size_b_to3 g_annotation_Size, annotation_Size_b_to7 g_annotation_Size, annotation_Size_b_to10 g_annotation_Size, annotation_Size_b_to15 g_annotation_Size, trivial⟩) (sg := ⟨[.pure], []⟩) (A := annotation_Size_A) (res := annotation_Size_res) (W := fun x => annotation_Size_b_W g_annotation_Size x.1) (z := default) (fun x => by kernel_rfl) (fun _ => by kernel_rfl)
end Go.Proofs.YtnolcogncjijpaaGreatDoor
namespace Go.Proofs.YtnolcogncjijpaaGreatDoor
open Go Go.Ab
noncomputable def Size_rec : Nat → (List Term → Bool × Int)
  | 0 => fun _ => (false, default)
  | n + 1 => annotation_Size_b (Size_rec n)
noncomputable def annotation_Size_n (n : Nat) : List Term → Bool × Int := Size_rec n
theorem annotation_Size_succ (n : Nat) : annotation_Size_n (n + 1) = annotation_Size_b (annotation_Size_n n) := rfl
theorem Size_sound : ∀ n, Sound Tryz.prog base 47 (annotation_Size_S (annotation_Size_n n))
  | 0 => sound_false Tryz.call47 (fun _ => rfl)
  | n + 1 => by
    have ih := Size_sound n
    exact annotation_Size_b_sound _ (ih)
noncomputable def annotation_Size : List Term → Bool × Int := annotation_Size_n 1000
noncomputable def annotation_Size_spec : Ab.Spec ty := annotation_Size_S annotation_Size
theorem annotation_Size_sound : Sound Tryz.prog base 47 annotation_Size_spec := (Size_sound 1000)
end Go.Proofs.YtnolcogncjijpaaGreatDoor
namespace Go.Proofs.YtnolcogncjijpaaGreatDoor
open Go Go.Ab
/-! ### lineage/annotation.nesting -/
noncomputable def annotation_nesting_res (r : Int) : ARes ty := ⟨[.pure (.lit (.int .i64 r))], []⟩
noncomputable def annotation_nesting_A : AL base (List Term × Unit) := aCons (aPure (vSl 42)) aNil
noncomputable def annotation_nesting_S (F : List Term → Bool × Int) : Ab.Spec ty := mkSpec annotation_nesting_A fun x => ((F x.1).1, annotation_nesting_res (F x.1).2)
end Go.Proofs.YtnolcogncjijpaaGreatDoor
namespace Go.Proofs.YtnolcogncjijpaaGreatDoor
open Go Go.Ab
/-! ### lineage/annotation.nesting -/
noncomputable def annotation_nesting_b_W11 (g_annotation_nesting : List Term → Bool × Int) (n_ : Int) (inner : Int) (t13 : List Term) (t14 : Int) (t15 : Int) (t20 : List Factor) (t21 : Int) (t22 : Int) (t32 : List (List Term)) (t33 : Int) (t34 : Int) (f : Factor) : Wy (Int × Unit × Int × List Term × Int × Int × List Factor × Int × Int × List (List Term) × Int × Int × Unit) (Factor × Unit) (Int × Int × List Term × Int × Int × List Factor × Int × Int × Factor) := .i (decide (t34 < t33)) (.i (decide ((0 : Int) ≤ t34) && decide (t34 < Int.ofNat t32.length)) (.bn (g_annotation_nesting (t32.getD t34.toNat default)) fun r0 => .h (n_, (), (if r0 > inner then r0 else inner), t13, t14, t15, t20, t21, t22, t32, t33, (IntKind.i64.wrap (t34 + (1 : Int))), ()) (f, ())) .d) (.k (n_, inner, t13, t14, t15, t20, t21, t22, f))
noncomputable def annotation_nesting_b_w11 (g_annotation_nesting : List Term → Bool × Int) (x : Int × Unit × Int × List Term × Int × Int × List Factor × Int × Int × List (List Term) × Int × Int × Unit) (y : Factor × Unit) : Wy (Int × Unit × Int × List Term × Int × Int × List Factor × Int × Int × List (List Term) × Int × Int × Unit) (Factor × Unit) (Int × Int × List Term × Int × Int × List Factor × Int × Int × Factor) := annotation_nesting_b_W11 g_annotation_nesting x.1 x.2.2.1 x.2.2.2.1 x.2.2.2.2.1 x.2.2.2.2.2.1 x.2.2.2.2.2.2.1 x.2.2.2.2.2.2.2.1 x.2.2.2.2.2.2.2.2.1 x.2.2.2.2.2.2.2.2.2.1 x.2.2.2.2.2.2.2.2.2.2.1 x.2.2.2.2.2.2.2.2.2.2.2.1 y.1
noncomputable def annotation_nesting_b_L11 (g_annotation_nesting : List Term → Bool × Int) (n : Nat) (n_ : Int) (inner : Int) (t13 : List Term) (t14 : Int) (t15 : Int) (t20 : List Factor) (t21 : Int) (t22 : Int) (t32 : List (List Term)) (t33 : Int) (t34 : Int) (f : Factor) : Bool × (Int × Int × List Term × Int × Int × List Factor × Int × Int × Factor) := iterW (annotation_nesting_b_w11 g_annotation_nesting) default n (n_, (), inner, t13, t14, t15, t20, t21, t22, t32, t33, t34, ()) (f, ())
noncomputable def annotation_nesting_b_tr11 (r : Int × Int × List Term × Int × Int × List Factor × Int × Int × Factor) : LTree ty := .done (.exit 4) [.lit (.int .i64 r.1), .ptr 256 0, .lit (.int .i64 r.2.1), .sl 42 r.2.2.1, .lit (.int .i64 r.2.2.2.1), .lit (.int .i64 r.2.2.2.2.1), .sl 50 r.2.2.2.2.2.1, .lit (.int .i64 r.2.2.2.2.2.2.1), .lit (.int .i64 r.2.2.2.2.2.2.2.1)] [.box (base.enc 50 r.2.2.2.2.2.2.2.2) false]
noncomputable def annotation_nesting_b_V11 : LL ty (Int × Unit × Int × List Term × Int × Int × List Factor × Int × Int × List (List Term) × Int × Int × Unit) := llCons (lInt .i64) (llCons (lPtrC 256 0) (llCons (lInt .i64) (llCons (lSl 42) (llCons (lInt .i64) (llCons (lInt .i64) (llCons (lSl 50) (llCons (lInt .i64) (llCons (lInt .i64) (llCons (lSl 23) (llCons (lInt .i64) (llCons (lInt .i64) llNil)))))))))))
noncomputable def annotation_nesting_b_B11 : BL ty (Factor × Unit) := bBox (llMap (fun x => (⟨⟨x.1, ⟨x.2.1, x.2.2.1⟩, x.2.2.2.1, x.2.2.2.2.1, x.2.2.2.2.2.1, x.2.2.2.2.2.2.1, ⟨x.2.2.2.2.2.2.2.1, x.2.2.2.2.2.2.2.2.1, x.2.2.2.2.2.2.2.2.2.1⟩⟩, x.2.2.2.2.2.2.2.2.2.2.1⟩ : Factor)) (fun x => (x.Atom.Kind, x.Atom.Row.Table, x.Atom.Row.Seq, x.Atom.Args, x.Atom.Func, x.Atom.Items, x.Atom.Op, x.Atom.Bound.Kind, x.Atom.Bound.Int, x.Atom.Bound.Text, x.Exp, ())) (fun _ => rfl) (llCons (lInt .i64) (llCons (lInt .i64) (llCons (lInt .i64) (llCons (lSl 23) (llCons (lInt .i64) (llCons (lSl 52) (llCons (lInt .i64) (llCons (lInt .i64) (llCons (lInt .i64) (llCons lStr (llCons (lInt .i64) llNil)))))))))))) false (bNil)
noncomputable def annotation_nesting_b_W16 (g_annotation_nesting : List Term → Bool × Int) (n_ : Int) (inner : Int) (t13 : List Term) (t14 : Int) (t15 : Int) (t20 : List Factor) (t21 : Int) (t22 : Int) (t45 : List Weighted) (t46 : Int) (t47 : Int) : Wy (Int × Int × List Term × Int × Int × List Factor × Int × Int × List Weighted × Int × Int × Unit) (Unit) (Int × Int × List Term × Int × Int × List Factor × Int × Int) := .i (decide (t47 < t46)) (.i (decide ((0 : Int) ≤ t47) && decide (t47 < Int.ofNat t45.length)) (.bn (g_annotation_nesting (t45.getD t47.toNat default).Ann) fun r2 => .h (n_, (if r2 > inner then r2 else inner), t13, t14, t15, t20, t21, t22, t45, t46, (IntKind.i64.wrap (t47 + (1 : Int))), ()) ()) .d) (.k (n_, inner, t13, t14, t15, t20, t21, t22))
noncomputable def annotation_nesting_b_w16 (g_annotation_nesting : List Term → Bool × Int) (x : Int × Int × List Term × Int × Int × List Factor × Int × Int × List Weighted × Int × Int × Unit) (y : Unit) : Wy (Int × Int × List Term × Int × Int × List Factor × Int × Int × List Weighted × Int × Int × Unit) (Unit) (Int × Int × List Term × Int × Int × List Factor × Int × Int) := annotation_nesting_b_W16 g_annotation_nesting x.1 x.2.1 x.2.2.1 x.2.2.2.1 x.2.2.2.2.1 x.2.2.2.2.2.1 x.2.2.2.2.2.2.1 x.2.2.2.2.2.2.2.1 x.2.2.2.2.2.2.2.2.1 x.2.2.2.2.2.2.2.2.2.1 x.2.2.2.2.2.2.2.2.2.2.1
noncomputable def annotation_nesting_b_L16 (g_annotation_nesting : List Term → Bool × Int) (n : Nat) (n_ : Int) (inner : Int) (t13 : List Term) (t14 : Int) (t15 : Int) (t20 : List Factor) (t21 : Int) (t22 : Int) (t45 : List Weighted) (t46 : Int) (t47 : Int) : Bool × (Int × Int × List Term × Int × Int × List Factor × Int × Int) := iterW (annotation_nesting_b_w16 g_annotation_nesting) default n (n_, inner, t13, t14, t15, t20, t21, t22, t45, t46, t47, ()) ()
noncomputable def annotation_nesting_b_tr16 (r : Int × Int × List Term × Int × Int × List Factor × Int × Int) : LTree ty := .done (.exit 6) [.lit (.int .i64 r.1), .lit (.int .i64 r.2.1), .sl 42 r.2.2.1, .lit (.int .i64 r.2.2.2.1), .lit (.int .i64 r.2.2.2.2.1), .sl 50 r.2.2.2.2.2.1, .lit (.int .i64 r.2.2.2.2.2.2.1), .lit (.int .i64 r.2.2.2.2.2.2.2)] []
noncomputable def annotation_nesting_b_V16 : LL ty (Int × Int × List Term × Int × Int × List Factor × Int × Int × List Weighted × Int × Int × Unit) := llCons (lInt .i64) (llCons (lInt .i64) (llCons (lSl 42) (llCons (lInt .i64) (llCons (lInt .i64) (llCons (lSl 50) (llCons (lInt .i64) (llCons (lInt .i64) (llCons (lSl 52) (llCons (lInt .i64) (llCons (lInt .i64) llNil))))))))))
noncomputable def annotation_nesting_b_B16 : BL ty (Unit) := bNil
noncomputable def annotation_nesting_b_W6 (g_annotation_nesting : List Term → Bool × Int) (n_ : Int) (t13 : List Term) (t14 : Int) (t15 : Int) (t20 : List Factor) (t21 : Int) (t22 : Int) : Wy (Int × List Term × Int × Int × List Factor × Int × Int × Unit) (Unit) (Int × List Term × Int × Int) := .i (decide (t22 < t21)) (.i (decide ((0 : Int) ≤ t22) && decide (t22 < Int.ofNat t20.length)) (.i ((t20.getD t22.toNat default).Atom.Kind == (0 : Int)) (.h (n_, t13, t14, t15, t20, t21, (IntKind.i64.wrap (t22 + (1 : Int))), ()) ()) (.bn (annotation_nesting_b_L11 g_annotation_nesting ((n_.toNat + Int.toNat (0 : Int) + t13.length + t14.toNat + t15.toNat + t20.length + t21.toNat + t22.toNat + (t20.getD t22.toNat default).Atom.Args.length + (Int.ofNat (t20.getD t22.toNat default).Atom.Args.length).toNat + Int.toNat (0 : Int) + (1 : Nat)) + (FactorOf.mk (Atom.mk (t20.getD t22.toNat default).Atom.Kind (t20.getD t22.toNat default).Atom.Row (t20.getD t22.toNat default).Atom.Args (t20.getD t22.toNat default).Atom.Func (t20.getD t22.toNat default).Atom.Items (t20.getD t22.toNat default).Atom.Op (t20.getD t22.toNat default).Atom.Bound) (t20.getD t22.toNat default).Exp).Atom.Args.length + (FactorOf.mk (Atom.mk (t20.getD t22.toNat default).Atom.Kind (t20.getD t22.toNat default).Atom.Row (t20.getD t22.toNat default).Atom.Args (t20.getD t22.toNat default).Atom.Func (t20.getD t22.toNat default).Atom.Items (t20.getD t22.toNat default).Atom.Op (t20.getD t22.toNat default).Atom.Bound) (t20.getD t22.toNat default).Exp).Atom.Items.length) n_ (0 : Int) t13 t14 t15 t20 t21 t22 (t20.getD t22.toNat default).Atom.Args (Int.ofNat (t20.getD t22.toNat default).Atom.Args.length) (0 : Int) (FactorOf.mk (Atom.mk (t20.getD t22.toNat default).Atom.Kind (t20.getD t22.toNat default).Atom.Row (t20.getD t22.toNat default).Atom.Args (t20.getD t22.toNat default).Atom.Func (t20.getD t22.toNat default).Atom.Items (t20.getD t22.toNat default).Atom.Op (t20.getD t22.toNat default).Atom.Bound) (t20.getD t22.toNat default).Exp)) fun r5 => .bn (annotation_nesting_b_L16 g_annotation_nesting (r5.fst.toNat + r5.snd.fst.toNat + r5.snd.snd.fst.length + r5.snd.snd.snd.fst.toNat + r5.snd.snd.snd.snd.fst.toNat + r5.snd.snd.snd.snd.snd.fst.length + r5.snd.snd.snd.snd.snd.snd.fst.toNat + r5.snd.snd.snd.snd.snd.snd.snd.fst.toNat + r5.snd.snd.snd.snd.snd.snd.snd.snd.Atom.Items.length + (Int.ofNat r5.snd.snd.snd.snd.snd.snd.snd.snd.Atom.Items.length).toNat + Int.toNat (0 : Int) + (1 : Nat)) r5.fst r5.snd.fst r5.snd.snd.fst r5.snd.snd.snd.fst r5.snd.snd.snd.snd.fst r5.snd.snd.snd.snd.snd.fst r5.snd.snd.snd.snd.snd.snd.fst r5.snd.snd.snd.snd.snd.snd.snd.fst r5.snd.snd.snd.snd.snd.snd.snd.snd.Atom.Items (Int.ofNat r5.snd.snd.snd.snd.snd.snd.snd.snd.Atom.Items.length) (0 : Int)) fun r4 => .h ((if IntKind.i64.wrap ((1 : Int) + r4.snd.fst) > r4.fst then IntKind.i64.wrap ((1 : Int) + r4.snd.fst) else r4.fst), (r4.snd.snd.fst), (r4.snd.snd.snd.fst), (r4.snd.snd.snd.snd.fst), (r4.snd.snd.snd.snd.snd.fst), (r4.snd.snd.snd.snd.snd.snd.fst), (IntKind.i64.wrap (r4.snd.snd.snd.snd.snd.snd.snd + (1 : Int))), ()) ())) .d) (.k (n_, t13, t14, t15))
noncomputable def annotation_nesting_b_w6 (g_annotation_nesting : List Term → Bool × Int) (x : Int × List Term × Int × Int × List Factor × Int × Int × Unit) (y : Unit) : Wy (Int × List Term × Int × Int × List Factor × Int × Int × Unit) (Unit) (Int × List Term × Int × Int) := annotation_nesting_b_W6 g_annotation_nesting x.1 x.2.1 x.2.2.1 x.2.2.2.1 x.2.2.2.2.1 x.2.2.2.2.2.1 x.2.2.2.2.2.2.1
noncomputable def annotation_nesting_b_L6 (g_annotation_nesting : List Term → Bool × Int) (n : Nat) (n_ : Int) (t13 : List Term) (t14 : Int) (t15 : Int) (t20 : List Factor) (t21 : Int) (t22 : Int) : Bool × (Int × List Term × Int × Int) := iterW (annotation_nesting_b_w6 g_annotation_nesting) default n (n_, t13, t14, t15, t20, t21, t22, ()) ()
noncomputable def annotation_nesting_b_tr6 (r : Int × List Term × Int × Int) : LTree ty := .done (.exit 2) [.lit (.int .i64 r.1), .sl 42 r.2.1, .lit (.int .i64 r.2.2.1), .lit (.int .i64 r.2.2.2)] []
noncomputable def annotation_nesting_b_V6 : LL ty (Int × List Term × Int × Int × List Factor × Int × Int × Unit) := llCons (lInt .i64) (llCons (lSl 42) (llCons (lInt .i64) (llCons (lInt .i64) (llCons (lSl 50) (llCons (lInt .i64) (llCons (lInt .i64) llNil))))))
noncomputable def annotation_nesting_b_B6 : BL ty (Unit) := bNil
noncomputable def annotation_nesting_b_W3 (g_annotation_nesting : List Term → Bool × Int) (n_ : Int) (t13 : List Term) (t14 : Int) (t15 : Int) : Wy (Int × List Term × Int × Int × Unit) (Unit) (Int) := .i (decide (t15 < t14)) (.i (decide ((0 : Int) ≤ t15) && decide (t15 < Int.ofNat t13.length)) (.bn (annotation_nesting_b_L6 g_annotation_nesting (n_.toNat + t13.length + t14.toNat + t15.toNat + (t13.getD t15.toNat default).Factors.length + (Int.ofNat (t13.getD t15.toNat default).Factors.length).toNat + Int.toNat (0 : Int) + (1 : Nat)) n_ t13 t14 t15 (t13.getD t15.toNat default).Factors (Int.ofNat (t13.getD t15.toNat default).Factors.length) (0 : Int)) fun r8 => .h ((r8.fst), (r8.snd.fst), (r8.snd.snd.fst), (IntKind.i64.wrap (r8.snd.snd.snd + (1 : Int))), ()) ()) .d) (.k n_)
noncomputable def annotation_nesting_b_w3 (g_annotation_nesting : List Term → Bool × Int) (x : Int × List Term × Int × Int × Unit) (y : Unit) : Wy (Int × List Term × Int × Int × Unit) (Unit) (Int) := annotation_nesting_b_W3 g_annotation_nesting x.1 x.2.1 x.2.2.1 x.2.2.2.1
noncomputable def annotation_nesting_b_L3 (g_annotation_nesting : List Term → Bool × Int) (n : Nat) (n_ : Int) (t13 : List Term) (t14 : Int) (t15 : Int) : Bool × Int := iterW (annotation_nesting_b_w3 g_annotation_nesting) default n (n_, t13, t14, t15, ()) ()
noncomputable def annotation_nesting_b_tr3 (r : Int) : LTree ty := .done (.exit 0) [.lit (.int .i64 r)] []
noncomputable def annotation_nesting_b_V3 : LL ty (Int × List Term × Int × Int × Unit) := llCons (lInt .i64) (llCons (lSl 42) (llCons (lInt .i64) (llCons (lInt .i64) llNil)))
noncomputable def annotation_nesting_b_B3 : BL ty (Unit) := bNil
noncomputable def annotation_nesting_b_cx (g_annotation_nesting : List Term → Bool × Int) : Cx ty := mkCx base 64 [(120, (annotation_nesting_S g_annotation_nesting))] [] [(3, [(3, .keep), (13, .keep), (14, .keep), (15, .keep)]), (6, [(3, .keep), (13, .keep), (14, .keep), (15, .keep), (20, .keep), (21, .keep), (22, .keep)]), (11, [(3, .keep), (7, .keep), (8, .keep), (13, .keep), (14, .keep), (15, .keep), (20, .keep), (21, .keep), (22, .keep), (32, .keep), (33, .keep), (34, .keep)]), (16, [(3, .keep), (8, .keep), (13, .keep), (14, .keep), (15, .keep), (20, .keep), (21, .keep), (22, .keep), (45, .keep), (46, .keep), (47, .keep)])] [(3, 1, [(3, .keep)]), (6, 3, [(3, .keep), (13, .keep), (14, .keep), (15, .keep)]), (11, 5, [(3, .keep), (7, .keep), (8, .keep), (13, .keep), (14, .keep), (15, .keep), (20, .keep), (21, .keep), (22, .keep)]), (16, 7, [(3, .keep), (8, .keep), (13, .keep), (14, .keep), (15, .keep), (20, .keep), (21, .keep), (22, .keep)])] [(11, spW annotation_nesting_b_V11 annotation_nesting_b_B11 (annotation_nesting_b_w11 g_annotation_nesting) default annotation_nesting_b_tr11 fun x y => ((Int.toNat x.1 + Int.toNat x.2.2.1 + x.2.2.2.1.length + Int.toNat x.2.2.2.2.1 + Int.toNat x.2.2.2.2.2.1 + x.2.2.2.2.2.2.1.length + Int.toNat x.2.2.2.2.2.2.2.1 + Int.toNat x.2.2.2.2.2.2.2.2.1 + x.2.2.2.2.2.2.2.2.2.1.length + Int.toNat x.2.2.2.2.2.2.2.2.2.2.1 + Int.toNat x.2.2.2.2.2.2.2.2.2.2.2.1 + 1) + y.1.Atom.Args.length + y.1.Atom.Items.length)), (16, spW annotation_nesting_b_V16 annotation_nesting_b_B16 (annotation_nesting_b_w16 g_annotation_nesting) default annotation_nesting_b_tr16 fun x y => (Int.toNat x.1 + Int.toNat x.2.1 + x.2.2.1.length + Int.toNat x.2.2.2.1 + Int.toNat x.2.2.2.2.1 + x.2.2.2.2.2.1.length + Int.toNat x.2.2.2.2.2.2.1 + Int.toNat x.2.2.2.2.2.2.2.1 + x.2.2.2.2.2.2.2.2.1.length + Int.toNat x.2.2.2.2.2.2.2.2.2.1 + Int.toNat x.2.2.2.2.2.2.2.2.2.2.1 + 1)), (6, spW annotation_nesting_b_V6 annotation_nesting_b_B6 (annotation_nesting_b_w6 g_annotation_nesting) default annotation_nesting_b_tr6 fun x y => (Int.toNat x.1 + x.2.1.length + Int.toNat x.2.2.1 + Int.toNat x.2.2.2.1 + x.2.2.2.2.1.length + Int.toNat x.2.2.2.2.2.1 + Int.toNat x.2.2.2.2.2.2.1 + 1)), (3, spW annotation_nesting_b_V3 annotation_nesting_b_B3 (annotation_nesting_b_w3 g_annotation_nesting) default annotation_nesting_b_tr3 fun x y => (Int.toNat x.1 + x.2.1.length + Int.toNat x.2.2.1 + Int.toNat x.2.2.2.1 + 1))] []
theorem annotation_nesting_b_to11 (g_annotation_nesting : List Term → Bool × Int) : LoopOK (annotation_nesting_b_cx g_annotation_nesting) (lp (body Tryz.f120) 2) := loopOK_W (id := 11) (V := annotation_nesting_b_V11) (B := annotation_nesting_b_B11) (W := annotation_nesting_b_w11 g_annotation_nesting) (z := default) (tr := annotation_nesting_b_tr11) (m := fun x y => ((Int.toNat x.1 + Int.toNat x.2.2.1 + x.2.2.2.1.length + Int.toNat x.2.2.2.2.1 + Int.toNat x.2.2.2.2.2.1 + x.2.2.2.2.2.2.1.length + Int.toNat x.2.2.2.2.2.2.2.1 + Int.toNat x.2.2.2.2.2.2.2.2.1 + x.2.2.2.2.2.2.2.2.2.1.length + Int.toNat x.2.2.2.2.2.2.2.2.2.2.1 + Int.toNat x.2.2.2.2.2.2.2.2.2.2.2.1 + 1) + y.1.Atom.Args.length + y.1.Atom.Items.length)) (by kernel_rfl) (by kernel_rfl) fun R H K x y => by kernel_rfl
theorem annotation_nesting_b_to16 (g_annotation_nesting : List Term → Bool × Int) : LoopOK (annotation_nesting_b_cx g_annotation_nesting) (lp (body Tryz.f120) 3) := loopOK_W (id := 16) (V := annotation_nesting_b_V16) (B := annotation_nesting_b_B16) (W := annotation_nesting_b_w16 g_annotation_nesting) (z := default) (tr := annotation_nesting_b_tr16) (m := fun x y => (Int.toNat x.1 + Int.toNat x.2.1 + x.2.2.1.length + Int.toNat x.2.2.2.1 + Int.toNat x.2.2.2.2.1 + x.2.2.2.2.2.1.length + Int.toNat x.2.2.2.2.2.2.1 + Int.toNat x.2.2.2.2.2.2.2.1 + x.2.2.2.2.2.2.2.2.1.length + Int.toNat x.2.2.2.2.2.2.2.2.2.1 + Int.toNat x.2.2.2.2.2.2.2.2.2.2.1 + 1)) (by kernel_rfl) (by kernel_rfl) fun R H K x y => by kernel_rfl
theorem annotation_nesting_b_to6 (g_annotation_nesting : List Term → Bool × Int) : LoopOK (annotation_nesting_b_cx g_annotation_nesting) (lp (body Tryz.f120) 1) := loopOK_W (id := 6) (V := annotation_nesting_b_V6) (B := annotation_nesting_b_B6) (W := annotation_nesting_b_w6 g_annotation_nesting) (z := default) (tr := annotation_nesting_b_tr6) (m := fun x y => (Int.toNat x.1 + x.2.1.length + Int.toNat x.2.2.1 + Int.toNat x.2.2.2.1 + x.2.2.2.2.1.length + Int.toNat x.2.2.2.2.2.1 + Int.toNat x.2.2.2.2.2.2.1 + 1)) (by kernel_rfl) (by kernel_rfl) fun R H K x y => by kernel_rfl
theorem annotation_nesting_b_to3 (g_annotation_nesting : List Term → Bool × Int) : LoopOK (annotation_nesting_b_cx g_annotation_nesting) (lp (body Tryz.f120) 0) := loopOK_W (id := 3) (V := annotation_nesting_b_V3) (B := annotation_nesting_b_B3) (W := annotation_nesting_b_w3 g_annotation_nesting) (z := default) (tr := annotation_nesting_b_tr3) (m := fun x y => (Int.toNat x.1 + x.2.1.length + Int.toNat x.2.2.1 + Int.toNat x.2.2.2.1 + 1)) (by kernel_rfl) (by kernel_rfl) fun R H K x y => by kernel_rfl
noncomputable def annotation_nesting_b_W (g_annotation_nesting : List Term → Bool × Int) (a : List Term) : Wy0 (Int) := .bn (annotation_nesting_b_L3 g_annotation_nesting (Int.toNat (0 : Int) + a.length + (Int.ofNat a.length).toNat + Int.toNat (0 : Int) + (1 : Nat)) (0 : Int) a (Int.ofNat a.length) (0 : Int)) fun r10 => .k r10
noncomputable def annotation_nesting_b (g_annotation_nesting : List Term → Bool × Int) (a : List Term) : Bool × Int := (annotation_nesting_b_W g_annotation_nesting a).fin default
theorem annotation_nesting_b_sound (g_annotation_nesting : List Term → Bool × Int) (h_g_annotation_nesting : Sound Tryz.prog base 120 (annotation_nesting_S g_annotation_nesting)) : Sound Tryz.prog base 120 (annotation_nesting_S (annotation_nesting_b g_annotation_nesting)) :=
  sound_W (cx' := (annotation_nesting_b_cx g_annotation_nesting)) draws base_ok mkSame (mkSpecs ⟨(h_g_annotation_nesting), trivial⟩) Tryz.call120 Tryz.func120 (c := body Tryz.f120) (by kernel_rfl) (loopsOK_of (l := [lp (body Tryz.f120) 0, lp (body Tryz.f120) 1, lp (body Tryz.f120) 2, lp (body Tryz.f120) 3]) (by kernel_rfl) ⟨annotation_nesting_b_to3 g_annotation_nesting, annotation_nesting_b_to6 g_annotation_nesting, annotation_nesting_b_to11 g_annotation_nesting, annotation_nesting_b_to16 g_annotation_nesting, trivial⟩) (sg := ⟨[.pure], []⟩) (A := annotation_nesting_A) (res := annotation_nesting_res) (W := fun x => annotation_nesting_b_W g_annotation_nesting x.1) (z := default) (fun x => by kernel_rfl) (fun _ => by kernel_rfl)
end Go.Proofs.YtnolcogncjijpaaGreatDoor
namespace Go.Proofs.YtnolcogncjijpaaGreatDoor
open Go Go.Ab
noncomputable def nesting_rec : Nat → (List Term → Bool × Int)
  | 0 => fun _ => (false, default)
  | n + 1 => annotation_nesting_b (nesting_rec n)
noncomputable def annotation_nesting_n (n : Nat) : List Term → Bool × Int := nesting_rec n
theorem annotation_nesting_succ (n : Nat) : annotation_nesting_n (n + 1) = annotation_nesting_b (annotation_nesting_n n) := rfl
theorem nesting_sound : ∀ n, Sound Tryz.prog base 120 (annotation_nesting_S (annotation_nesting_n n))
  | 0 => sound_false Tryz.call120 (fun _ => rfl)
  | n + 1 => by
    have ih := nesting_sound n
    exact annotation_nesting_b_sound _ (ih)
noncomputable def annotation_nesting : List Term → Bool × Int := annotation_nesting_n 1000
noncomputable def annotation_nesting_spec : Ab.Spec ty := annotation_nesting_S annotation_nesting
theorem annotation_nesting_sound : Sound Tryz.prog base 120 annotation_nesting_spec := (nesting_sound 1000)
end Go.Proofs.YtnolcogncjijpaaGreatDoor
namespace Go.Proofs.YtnolcogncjijpaaGreatDoor
open Go Go.Ab
/-! ### lineage/annotation.within literal 1 literal 1 -/
noncomputable def annotation_within_c1_c1_cx : Cx ty := mkCx base 13 [] [] [] [] [] []
noncomputable def annotation_within_c1_c1_W (f : Factor) : Wy0 (Bool) := .i (decide (f.Exp > (64 : Int))) (.k true) (.k (decide (Int.ofNat f.Atom.Items.length > (1024 : Int))))
noncomputable def annotation_within_c1_c1 (f : Factor) : Bool × Bool := (annotation_within_c1_c1_W f).fin default
noncomputable def annotation_within_c1_c1_res (r : Bool) : ARes ty := ⟨[.pure (.lit (.bool r))], []⟩
noncomputable def annotation_within_c1_c1_A : AL base (Factor × Unit) := aCons (aPure (vAgg 50)) aNil
noncomputable def annotation_within_c1_c1_spec : Ab.Spec ty := mkSpec annotation_within_c1_c1_A fun x => ((annotation_within_c1_c1 x.1).1, annotation_within_c1_c1_res (annotation_within_c1_c1 x.1).2)
theorem annotation_within_c1_c1_sound : Sound Tryz.prog base 122 annotation_within_c1_c1_spec :=
  sound_W (cx' := annotation_within_c1_c1_cx) draws base_ok mkSame (mkSpecs trivial) Tryz.call122 Tryz.func122 (c := body Tryz.f122) (by kernel_rfl) (loopsOK_of (l := []) (by kernel_rfl) trivial) (sg := ⟨[.pure], []⟩) (A := annotation_within_c1_c1_A) (res := annotation_within_c1_c1_res) (W := fun x => annotation_within_c1_c1_W x.1) (z := default) (fun x => by kernel_rfl) (fun _ => by kernel_rfl)
end Go.Proofs.YtnolcogncjijpaaGreatDoor
namespace Go.Proofs.YtnolcogncjijpaaGreatDoor
open Go Go.Ab
/-! ### slices.IndexFunc[[]lineage/api.Factor,lineage/api.Factor] -/
noncomputable def slices_IndexFunc_Lapi_Factor_api_Factor_wi_W2 (s : List Factor) (t7 : Int) (t8 : Int) : Wy (List Factor × Unit × Int × Int × Unit) (Unit) (Int ⊕ Unit) := .i (decide (t8 < t7)) (.i (decide ((0 : Int) ≤ t8) && decide (t8 < Int.ofNat s.length)) (.bn (annotation_within_c1_c1 (FactorOf.mk (Atom.mk (s.getD t8.toNat default).Atom.Kind (s.getD t8.toNat default).Atom.Row (s.getD t8.toNat default).Atom.Args (s.getD t8.toNat default).Atom.Func (s.getD t8.toNat default).Atom.Items (s.getD t8.toNat default).Atom.Op (s.getD t8.toNat default).Atom.Bound) (s.getD t8.toNat default).Exp)) fun r0 => .i (r0) (.k (.inl t8)) (.h (s, (), t7, (IntKind.i64.wrap (t8 + (1 : Int))), ()) ())) .d) (.k (.inr ()))
noncomputable def slices_IndexFunc_Lapi_Factor_api_Factor_wi_w2 (x : List Factor × Unit × Int × Int × Unit) (y : Unit) : Wy (List Factor × Unit × Int × Int × Unit) (Unit) (Int ⊕ Unit) := slices_IndexFunc_Lapi_Factor_api_Factor_wi_W2 x.1 x.2.2.1 x.2.2.2.1
noncomputable def slices_IndexFunc_Lapi_Factor_api_Factor_wi_L2 (n : Nat) (s : List Factor) (t7 : Int) (t8 : Int) : Bool × (Int ⊕ Unit) := iterW (slices_IndexFunc_Lapi_Factor_api_Factor_wi_w2) (.inl default) n (s, (), t7, t8, ()) ()
noncomputable def slices_IndexFunc_Lapi_Factor_api_Factor_wi_tr2 (r : Int ⊕ Unit) : LTree ty := .ite (isL r) (.done .ret [.lit (.int .i64 (getL r))] []) (.done (.exit 0) [] [])
noncomputable def slices_IndexFunc_Lapi_Factor_api_Factor_wi_V2 : LL ty (List Factor × Unit × Int × Int × Unit) := llCons (lSl 50) (llCons (lFn 122 (llNil)) (llCons (lInt .i64) (llCons (lInt .i64) llNil)))
noncomputable def slices_IndexFunc_Lapi_Factor_api_Factor_wi_B2 : BL ty (Unit) := bNil
noncomputable def slices_IndexFunc_Lapi_Factor_api_Factor_wi_cx : Cx ty := mkCx base 19 [(122, annotation_within_c1_c1_spec)] [] [(2, [(0, .keep), (1, .keep), (7, .keep), (8, .keep)])] [(2, 1, []), (2, 0, [(4, .keep)])] [(2, spW slices_IndexFunc_Lapi_Factor_api_Factor_wi_V2 slices_IndexFunc_Lapi_Factor_api_Factor_wi_B2 (slices_IndexFunc_Lapi_Factor_api_Factor_wi_w2) (.inl default) slices_IndexFunc_Lapi_Factor_api_Factor_wi_tr2 fun x y => (x.1.length + Int.toNat x.2.2.1 + Int.toNat x.2.2.2.1 + 1))] []
theorem slices_IndexFunc_Lapi_Factor_api_Factor_wi_to2 : LoopOK slices_IndexFunc_Lapi_Factor_api_Factor_wi_cx (lp (body Tryz.f150) 0) := loopOK_W (id := 2) (V := slices_IndexFunc_Lapi_Factor_api_Factor_wi_V2) (B := slices_IndexFunc_Lapi_Factor_api_Factor_wi_B2) (W := slices_IndexFunc_Lapi_Factor_api_Factor_wi_w2) (z := .inl default) (tr := slices_IndexFunc_Lapi_Factor_api_Factor_wi_tr2) (m := fun x y => (x.1.length + Int.toNat x.2.2.1 + Int.toNat x.2.2.2.1 + 1)) (by kernel_rfl) (by kernel_rfl) fun R H K x y => by kernel_rfl
noncomputable def slices_IndexFunc_Lapi_Factor_api_Factor_wi_W (s : List Factor) : Wy0 (Int) := .bn (slices_IndexFunc_Lapi_Factor_api_Factor_wi_L2 (s.length + (Int.ofNat s.length).toNat + Int.toNat (0 : Int) + (1 : Nat)) s (Int.ofNat s.length) (0 : Int)) fun r2 => .i (isL r2) (.k (getL r2)) (.k (-1 : Int))
noncomputable def slices_IndexFunc_Lapi_Factor_api_Factor_wi (s : List Factor) : Bool × Int := (slices_IndexFunc_Lapi_Factor_api_Factor_wi_W s).fin default
noncomputable def slices_IndexFunc_Lapi_Factor_api_Factor_wi_res (r : Int) : ARes ty := ⟨[.pure (.lit (.int .i64 r))], []⟩
noncomputable def slices_IndexFunc_Lapi_Factor_api_Factor_wi_A : AL base (List Factor × Unit × Unit) := aCons (aPure (vSl 50)) (aCons (aPure (vFn 122 vNil)) aNil)
noncomputable def slices_IndexFunc_Lapi_Factor_api_Factor_wi_spec : Ab.Spec ty := mkSpec slices_IndexFunc_Lapi_Factor_api_Factor_wi_A fun x => ((slices_IndexFunc_Lapi_Factor_api_Factor_wi x.1).1, slices_IndexFunc_Lapi_Factor_api_Factor_wi_res (slices_IndexFunc_Lapi_Factor_api_Factor_wi x.1).2)
theorem slices_IndexFunc_Lapi_Factor_api_Factor_wi_sound : Sound Tryz.prog base 150 slices_IndexFunc_Lapi_Factor_api_Factor_wi_spec :=
  sound_W (cx' := slices_IndexFunc_Lapi_Factor_api_Factor_wi_cx) draws base_ok mkSame (mkSpecs ⟨(annotation_within_c1_c1_sound), trivial⟩) Tryz.call150 Tryz.func150 (c := body Tryz.f150) (by kernel_rfl) (loopsOK_of (l := [lp (body Tryz.f150) 0]) (by kernel_rfl) ⟨slices_IndexFunc_Lapi_Factor_api_Factor_wi_to2, trivial⟩) (sg := ⟨[.pure], []⟩) (A := slices_IndexFunc_Lapi_Factor_api_Factor_wi_A) (res := slices_IndexFunc_Lapi_Factor_api_Factor_wi_res) (W := fun x => slices_IndexFunc_Lapi_Factor_api_Factor_wi_W x.1) (z := default) (fun x => by kernel_rfl) (fun _ => by kernel_rfl)
end Go.Proofs.YtnolcogncjijpaaGreatDoor
namespace Go.Proofs.YtnolcogncjijpaaGreatDoor
open Go Go.Ab
/-! ### slices.ContainsFunc[[]lineage/api.Factor,lineage/api.Factor] -/
noncomputable def slices_ContainsFunc_Lapi_Factor_api_Factor_wi_cx : Cx ty := mkCx base 9 [(122, annotation_within_c1_c1_spec), (150, (orSpec slices_IndexFunc_Lapi_Factor_api_Factor_wi_spec slices_IndexFunc_Lapi_Factor_api_Factor_wi_spec))] [] [] [] [] []
noncomputable def slices_ContainsFunc_Lapi_Factor_api_Factor_wi_W (s : List Factor) : Wy0 (Bool) := .bn (slices_IndexFunc_Lapi_Factor_api_Factor_wi s) fun r0 => .k (decide (r0 ≥ (0 : Int)))
noncomputable def slices_ContainsFunc_Lapi_Factor_api_Factor_wi (s : List Factor) : Bool × Bool := (slices_ContainsFunc_Lapi_Factor_api_Factor_wi_W s).fin default
noncomputable def slices_ContainsFunc_Lapi_Factor_api_Factor_wi_res (r : Bool) : ARes ty := ⟨[.pure (.lit (.bool r))], []⟩
noncomputable def slices_ContainsFunc_Lapi_Factor_api_Factor_wi_A : AL base (List Factor × Unit × Unit) := aCons (aPure (vSl 50)) (aCons (aPure (vFn 122 vNil)) aNil)
noncomputable def slices_ContainsFunc_Lapi_Factor_api_Factor_wi_spec : Ab.Spec ty := mkSpec slices_ContainsFunc_Lapi_Factor_api_Factor_wi_A fun x => ((slices_ContainsFunc_Lapi_Factor_api_Factor_wi x.1).1, slices_ContainsFunc_Lapi_Factor_api_Factor_wi_res (slices_ContainsFunc_Lapi_Factor_api_Factor_wi x.1).2)
theorem slices_ContainsFunc_Lapi_Factor_api_Factor_wi_sound : Sound Tryz.prog base 107 slices_ContainsFunc_Lapi_Factor_api_Factor_wi_spec :=
  sound_W (cx' := slices_ContainsFunc_Lapi_Factor_api_Factor_wi_cx) draws base_ok mkSame (mkSpecs ⟨(annotation_within_c1_c1_sound), (Sound.or (slices_IndexFunc_Lapi_Factor_api_Factor_wi_sound) (slices_IndexFunc_Lapi_Factor_api_Factor_wi_sound)), trivial⟩) Tryz.call107 Tryz.func107 (c := body Tryz.f107) (by kernel_rfl) (loopsOK_of (l := []) (by kernel_rfl) trivial) (sg := ⟨[.pure], []⟩) (A := slices_ContainsFunc_Lapi_Factor_api_Factor_wi_A) (res := slices_ContainsFunc_Lapi_Factor_api_Factor_wi_res) (W := fun x => slices_ContainsFunc_Lapi_Factor_api_Factor_wi_W x.1) (z := default) (fun x => by kernel_rfl) (fun _ => by kernel_rfl)
end Go.Proofs.YtnolcogncjijpaaGreatDoor
namespace Go.Proofs.YtnolcogncjijpaaGreatDoor
open Go Go.Ab
/-! ### lineage/annotation.within literal 1 -/
noncomputable def annotation_within_c1_cx : Cx ty := mkCx base 12 [(107, slices_ContainsFunc_Lapi_Factor_api_Factor_wi_spec), (122, annotation_within_c1_c1_spec)] [] [] [] [] []
noncomputable def annotation_within_c1_W (t : Term) : Wy0 (Bool) := .i (decide (Int.ofNat t.Factors.length > (64 : Int))) (.k true) (.bn (slices_ContainsFunc_Lapi_Factor_api_Factor_wi t.Factors) fun r0 => .k r0)
noncomputable def annotation_within_c1 (t : Term) : Bool × Bool := (annotation_within_c1_W t).fin default
noncomputable def annotation_within_c1_res (r : Bool) : ARes ty := ⟨[.pure (.lit (.bool r))], []⟩
noncomputable def annotation_within_c1_A : AL base (Term × Unit) := aCons (aPure (vAgg 42)) aNil
noncomputable def annotation_within_c1_spec : Ab.Spec ty := mkSpec annotation_within_c1_A fun x => ((annotation_within_c1 x.1).1, annotation_within_c1_res (annotation_within_c1 x.1).2)
theorem annotation_within_c1_sound : Sound Tryz.prog base 121 annotation_within_c1_spec :=
  sound_W (cx' := annotation_within_c1_cx) draws base_ok mkSame (mkSpecs ⟨(slices_ContainsFunc_Lapi_Factor_api_Factor_wi_sound), (annotation_within_c1_c1_sound), trivial⟩) Tryz.call121 Tryz.func121 (c := body Tryz.f121) (by kernel_rfl) (loopsOK_of (l := []) (by kernel_rfl) trivial) (sg := ⟨[.pure], []⟩) (A := annotation_within_c1_A) (res := annotation_within_c1_res) (W := fun x => annotation_within_c1_W x.1) (z := default) (fun x => by kernel_rfl) (fun _ => by kernel_rfl)
end Go.Proofs.YtnolcogncjijpaaGreatDoor
namespace Go.Proofs.YtnolcogncjijpaaGreatDoor
open Go Go.Ab
/-! ### slices.IndexFunc[lineage/api.Annotation,lineage/api.Term] -/
noncomputable def slices_IndexFunc_api_Annotation_api_Term_wi_W2 (s : List Term) (t7 : Int) (t8 : Int) : Wy (List Term × Unit × Int × Int × Unit) (Unit) (Int ⊕ Unit) := .i (decide (t8 < t7)) (.i (decide ((0 : Int) ≤ t8) && decide (t8 < Int.ofNat s.length)) (.bn (annotation_within_c1 (s.getD t8.toNat default)) fun r0 => .i (r0) (.k (.inl t8)) (.h (s, (), t7, (IntKind.i64.wrap (t8 + (1 : Int))), ()) ())) .d) (.k (.inr ()))
noncomputable def slices_IndexFunc_api_Annotation_api_Term_wi_w2 (x : List Term × Unit × Int × Int × Unit) (y : Unit) : Wy (List Term × Unit × Int × Int × Unit) (Unit) (Int ⊕ Unit) := slices_IndexFunc_api_Annotation_api_Term_wi_W2 x.1 x.2.2.1 x.2.2.2.1
noncomputable def slices_IndexFunc_api_Annotation_api_Term_wi_L2 (n : Nat) (s : List Term) (t7 : Int) (t8 : Int) : Bool × (Int ⊕ Unit) := iterW (slices_IndexFunc_api_Annotation_api_Term_wi_w2) (.inl default) n (s, (), t7, t8, ()) ()
noncomputable def slices_IndexFunc_api_Annotation_api_Term_wi_tr2 (r : Int ⊕ Unit) : LTree ty := .ite (isL r) (.done .ret [.lit (.int .i64 (getL r))] []) (.done (.exit 0) [] [])
noncomputable def slices_IndexFunc_api_Annotation_api_Term_wi_V2 : LL ty (List Term × Unit × Int × Int × Unit) := llCons (lSl 42) (llCons (lFn 121 (llNil)) (llCons (lInt .i64) (llCons (lInt .i64) llNil)))
noncomputable def slices_IndexFunc_api_Annotation_api_Term_wi_B2 : BL ty (Unit) := bNil
noncomputable def slices_IndexFunc_api_Annotation_api_Term_wi_cx : Cx ty := mkCx base 19 [(121, annotation_within_c1_spec)] [] [(2, [(0, .keep), (1, .keep), (7, .keep), (8, .keep)])] [(2, 1, []), (2, 0, [(4, .keep)])] [(2, spW slices_IndexFunc_api_Annotation_api_Term_wi_V2 slices_IndexFunc_api_Annotation_api_Term_wi_B2 (slices_IndexFunc_api_Annotation_api_Term_wi_w2) (.inl default) slices_IndexFunc_api_Annotation_api_Term_wi_tr2 fun x y => (x.1.length + Int.toNat x.2.2.1 + Int.toNat x.2.2.2.1 + 1))] []
theorem slices_IndexFunc_api_Annotation_api_Term_wi_to2 : LoopOK slices_IndexFunc_api_Annotation_api_Term_wi_cx (lp (body Tryz.f149) 0) := loopOK_W (id := 2) (V := slices_IndexFunc_api_Annotation_api_Term_wi_V2) (B := slices_IndexFunc_api_Annotation_api_Term_wi_B2) (W := slices_IndexFunc_api_Annotation_api_Term_wi_w2) (z := .inl default) (tr := slices_IndexFunc_api_Annotation_api_Term_wi_tr2) (m := fun x y => (x.1.length + Int.toNat x.2.2.1 + Int.toNat x.2.2.2.1 + 1)) (by kernel_rfl) (by kernel_rfl) fun R H K x y => by kernel_rfl
noncomputable def slices_IndexFunc_api_Annotation_api_Term_wi_W (s : List Term) : Wy0 (Int) := .bn (slices_IndexFunc_api_Annotation_api_Term_wi_L2 (s.length + (Int.ofNat s.length).toNat + Int.toNat (0 : Int) + (1 : Nat)) s (Int.ofNat s.length) (0 : Int)) fun r2 => .i (isL r2) (.k (getL r2)) (.k (-1 : Int))
noncomputable def slices_IndexFunc_api_Annotation_api_Term_wi (s : List Term) : Bool × Int := (slices_IndexFunc_api_Annotation_api_Term_wi_W s).fin default
noncomputable def slices_IndexFunc_api_Annotation_api_Term_wi_res (r : Int) : ARes ty := ⟨[.pure (.lit (.int .i64 r))], []⟩
noncomputable def slices_IndexFunc_api_Annotation_api_Term_wi_A : AL base (List Term × Unit × Unit) := aCons (aPure (vSl 42)) (aCons (aPure (vFn 121 vNil)) aNil)
noncomputable def slices_IndexFunc_api_Annotation_api_Term_wi_spec : Ab.Spec ty := mkSpec slices_IndexFunc_api_Annotation_api_Term_wi_A fun x => ((slices_IndexFunc_api_Annotation_api_Term_wi x.1).1, slices_IndexFunc_api_Annotation_api_Term_wi_res (slices_IndexFunc_api_Annotation_api_Term_wi x.1).2)
theorem slices_IndexFunc_api_Annotation_api_Term_wi_sound : Sound Tryz.prog base 149 slices_IndexFunc_api_Annotation_api_Term_wi_spec :=
  sound_W (cx' := slices_IndexFunc_api_Annotation_api_Term_wi_cx) draws base_ok mkSame (mkSpecs ⟨(annotation_within_c1_sound), trivial⟩) Tryz.call149 Tryz.func149 (c := body Tryz.f149) (by kernel_rfl) (loopsOK_of (l := [lp (body Tryz.f149) 0]) (by kernel_rfl) ⟨slices_IndexFunc_api_Annotation_api_Term_wi_to2, trivial⟩) (sg := ⟨[.pure], []⟩) (A := slices_IndexFunc_api_Annotation_api_Term_wi_A) (res := slices_IndexFunc_api_Annotation_api_Term_wi_res) (W := fun x => slices_IndexFunc_api_Annotation_api_Term_wi_W x.1) (z := default) (fun x => by kernel_rfl) (fun _ => by kernel_rfl)
end Go.Proofs.YtnolcogncjijpaaGreatDoor
namespace Go.Proofs.YtnolcogncjijpaaGreatDoor
open Go Go.Ab
/-! ### slices.ContainsFunc[lineage/api.Annotation,lineage/api.Term] -/
noncomputable def slices_ContainsFunc_api_Annotation_api_Term_wi_cx : Cx ty := mkCx base 9 [(121, annotation_within_c1_spec), (149, (orSpec slices_IndexFunc_api_Annotation_api_Term_wi_spec slices_IndexFunc_api_Annotation_api_Term_wi_spec))] [] [] [] [] []
noncomputable def slices_ContainsFunc_api_Annotation_api_Term_wi_W (s : List Term) : Wy0 (Bool) := .bn (slices_IndexFunc_api_Annotation_api_Term_wi s) fun r0 => .k (decide (r0 ≥ (0 : Int)))
noncomputable def slices_ContainsFunc_api_Annotation_api_Term_wi (s : List Term) : Bool × Bool := (slices_ContainsFunc_api_Annotation_api_Term_wi_W s).fin default
noncomputable def slices_ContainsFunc_api_Annotation_api_Term_wi_res (r : Bool) : ARes ty := ⟨[.pure (.lit (.bool r))], []⟩
noncomputable def slices_ContainsFunc_api_Annotation_api_Term_wi_A : AL base (List Term × Unit × Unit) := aCons (aPure (vSl 42)) (aCons (aPure (vFn 121 vNil)) aNil)
noncomputable def slices_ContainsFunc_api_Annotation_api_Term_wi_spec : Ab.Spec ty := mkSpec slices_ContainsFunc_api_Annotation_api_Term_wi_A fun x => ((slices_ContainsFunc_api_Annotation_api_Term_wi x.1).1, slices_ContainsFunc_api_Annotation_api_Term_wi_res (slices_ContainsFunc_api_Annotation_api_Term_wi x.1).2)
theorem slices_ContainsFunc_api_Annotation_api_Term_wi_sound : Sound Tryz.prog base 105 slices_ContainsFunc_api_Annotation_api_Term_wi_spec :=
  sound_W (cx' := slices_ContainsFunc_api_Annotation_api_Term_wi_cx) draws base_ok mkSame (mkSpecs ⟨(annotation_within_c1_sound), (Sound.or (slices_IndexFunc_api_Annotation_api_Term_wi_sound) (slices_IndexFunc_api_Annotation_api_Term_wi_sound)), trivial⟩) Tryz.call105 Tryz.func105 (c := body Tryz.f105) (by kernel_rfl) (loopsOK_of (l := []) (by kernel_rfl) trivial) (sg := ⟨[.pure], []⟩) (A := slices_ContainsFunc_api_Annotation_api_Term_wi_A) (res := slices_ContainsFunc_api_Annotation_api_Term_wi_res) (W := fun x => slices_ContainsFunc_api_Annotation_api_Term_wi_W x.1) (z := default) (fun x => by kernel_rfl) (fun _ => by kernel_rfl)
end Go.Proofs.YtnolcogncjijpaaGreatDoor
namespace Go.Proofs.YtnolcogncjijpaaGreatDoor
open Go Go.Ab
/-! ### lineage/annotation.within -/
noncomputable def annotation_within_cx : Cx ty := mkCx base 19 [(47, annotation_Size_spec), (105, slices_ContainsFunc_api_Annotation_api_Term_wi_spec), (120, annotation_nesting_spec), (121, annotation_within_c1_spec)] [] [] [] [] []
noncomputable def annotation_within_W (a : List Term) : Wy0 (Bool) := .i (decide (Int.ofNat a.length > (512 : Int))) (.k false) (.bn (annotation_nesting a) fun r2 => .i (decide (r2 > (8 : Int))) (.k false) (.bn (annotation_Size a) fun r1 => .i (decide (r1 > (4096 : Int))) (.k false) (.bn (slices_ContainsFunc_api_Annotation_api_Term_wi a) fun r0 => .k (!r0))))
noncomputable def annotation_within (a : List Term) : Bool × Bool := (annotation_within_W a).fin default
noncomputable def annotation_within_res (r : Bool) : ARes ty := ⟨[.pure (.lit (.bool r))], []⟩
noncomputable def annotation_within_A : AL base (List Term × Unit) := aCons (aPure (vSl 42)) aNil
noncomputable def annotation_within_spec : Ab.Spec ty := mkSpec annotation_within_A fun x => ((annotation_within x.1).1, annotation_within_res (annotation_within x.1).2)
theorem annotation_within_sound : Sound Tryz.prog base 70 annotation_within_spec :=
  sound_W (cx' := annotation_within_cx) draws base_ok mkSame (mkSpecs ⟨(annotation_Size_sound), (slices_ContainsFunc_api_Annotation_api_Term_wi_sound), (annotation_nesting_sound), (annotation_within_c1_sound), trivial⟩) Tryz.call70 Tryz.func70 (c := body Tryz.f70) (by kernel_rfl) (loopsOK_of (l := []) (by kernel_rfl) trivial) (sg := ⟨[.pure], []⟩) (A := annotation_within_A) (res := annotation_within_res) (W := fun x => annotation_within_W x.1) (z := default) (fun x => by kernel_rfl) (fun _ => by kernel_rfl)
end Go.Proofs.YtnolcogncjijpaaGreatDoor
namespace Go.Proofs.YtnolcogncjijpaaGreatDoor
open Go Go.Ab
/-! ### lineage/annotation.Valid -/
noncomputable def annotation_Valid_b_W9 (g_annotation_validAtom : Atom → Bool × Bool) (a : List Term) (t10 : List Term) (t11 : Int) (t12 : Int) (t40 : List Factor) (t41 : Int) (t42 : Int) (t : Term) : Wy (List Term × Unit × List Term × Int × Int × List Factor × Int × Int × Unit) (Term × Unit) (Bool ⊕ (List Term × List Term × Int × Int)) := .i (decide (t42 < t41)) (.i (decide ((0 : Int) ≤ t42) && decide (t42 < Int.ofNat t40.length)) (.i (decide ((t40.getD t42.toNat default).Exp < (1 : Int))) (.k (.inl false)) (.bn (annotation_idempotent (Atom.mk (t40.getD t42.toNat default).Atom.Kind (t40.getD t42.toNat default).Atom.Row (t40.getD t42.toNat default).Atom.Args (t40.getD t42.toNat default).Atom.Func (t40.getD t42.toNat default).Atom.Items (t40.getD t42.toNat default).Atom.Op (t40.getD t42.toNat default).Atom.Bound)) fun r6 => .i (r6) (.i ((t40.getD t42.toNat default).Exp != (1 : Int)) (.k (.inl false)) (.i (decide (t42 > (0 : Int))) (.i (decide ((0 : Int) ≤ IntKind.i64.wrap (t42 - (1 : Int))) && decide (IntKind.i64.wrap (t42 - (1 : Int)) < Int.ofNat t.Factors.length)) (.bn (annotation_compareAtoms (Atom.mk (t.Factors.getD (IntKind.i64.wrap (t42 - (1 : Int))).toNat default).Atom.Kind (t.Factors.getD (IntKind.i64.wrap (t42 - (1 : Int))).toNat default).Atom.Row (t.Factors.getD (IntKind.i64.wrap (t42 - (1 : Int))).toNat default).Atom.Args (t.Factors.getD (IntKind.i64.wrap (t42 - (1 : Int))).toNat default).Atom.Func (t.Factors.getD (IntKind.i64.wrap (t42 - (1 : Int))).toNat default).Atom.Items (t.Factors.getD (IntKind.i64.wrap (t42 - (1 : Int))).toNat default).Atom.Op (t.Factors.getD (IntKind.i64.wrap (t42 - (1 : Int))).toNat default).Atom.Bound) (Atom.mk (t40.getD t42.toNat default).Atom.Kind (t40.getD t42.toNat default).Atom.Row (t40.getD t42.toNat default).Atom.Args (t40.getD t42.toNat default).Atom.Func (t40.getD t42.toNat default).Atom.Items (t40.getD t42.toNat default).Atom.Op (t40.getD t42.toNat default).Atom.Bound)) fun r1 => .i (decide (r1 ≥ (0 : Int))) (.k (.inl false)) (.bn (g_annotation_validAtom (Atom.mk (t40.getD t42.toNat default).Atom.Kind (t40.getD t42.toNat default).Atom.Row (t40.getD t42.toNat default).Atom.Args (t40.getD t42.toNat default).Atom.Func (t40.getD t42.toNat default).Atom.Items (t40.getD t42.toNat default).Atom.Op (t40.getD t42.toNat default).Atom.Bound)) fun r0 => .i (!r0) (.k (.inl false)) (.h (a, (), t10, t11, t12, t40, t41, (IntKind.i64.wrap (t42 + (1 : Int))), ()) (t, ())))) .d) (.bn (g_annotation_validAtom (Atom.mk (t40.getD t42.toNat default).Atom.Kind (t40.getD t42.toNat default).Atom.Row (t40.getD t42.toNat default).Atom.Args (t40.getD t42.toNat default).Atom.Func (t40.getD t42.toNat default).Atom.Items (t40.getD t42.toNat default).Atom.Op (t40.getD t42.toNat default).Atom.Bound)) fun r2 => .i (!r2) (.k (.inl false)) (.h (a, (), t10, t11, t12, t40, t41, (IntKind.i64.wrap (t42 + (1 : Int))), ()) (t, ()))))) (.i (decide (t42 > (0 : Int))) (.i (decide ((0 : Int) ≤ IntKind.i64.wrap (t42 - (1 : Int))) && decide (IntKind.i64.wrap (t42 - (1 : Int)) < Int.ofNat t.Factors.length)) (.bn (annotation_compareAtoms (Atom.mk (t.Factors.getD (IntKind.i64.wrap (t42 - (1 : Int))).toNat default).Atom.Kind (t.Factors.getD (IntKind.i64.wrap (t42 - (1 : Int))).toNat default).Atom.Row (t.Factors.getD (IntKind.i64.wrap (t42 - (1 : Int))).toNat default).Atom.Args (t.Factors.getD (IntKind.i64.wrap (t42 - (1 : Int))).toNat default).Atom.Func (t.Factors.getD (IntKind.i64.wrap (t42 - (1 : Int))).toNat default).Atom.Items (t.Factors.getD (IntKind.i64.wrap (t42 - (1 : Int))).toNat default).Atom.Op (t.Factors.getD (IntKind.i64.wrap (t42 - (1 : Int))).toNat default).Atom.Bound) (Atom.mk (t40.getD t42.toNat default).Atom.Kind (t40.getD t42.toNat default).Atom.Row (t40.getD t42.toNat default).Atom.Args (t40.getD t42.toNat default).Atom.Func (t40.getD t42.toNat default).Atom.Items (t40.getD t42.toNat default).Atom.Op (t40.getD t42.toNat default).Atom.Bound)) fun r4 => .i (decide (r4 ≥ (0 : Int))) (.k (.inl false)) (.bn (g_annotation_validAtom (Atom.mk (t40.getD t42.toNat default).Atom.Kind (t40.getD t42.toNat default).Atom.Row (t40.getD t42.toNat default).Atom.Args (t40.getD t42.toNat default).Atom.Func (t40.getD t42.toNat default).Atom.Items (t40.getD t42.toNat default).Atom.Op (t40.getD t42.toNat default).Atom.Bound)) fun r3 => .i (!r3) (.k (.inl false)) (.h (a, (), t10, t11, t12, t40, t41, (IntKind.i64.wrap (t42 + (1 : Int))), ()) (t, ())))) .d) (.bn (g_annotation_validAtom (Atom.mk (t40.getD t42.toNat default).Atom.Kind (t40.getD t42.toNat default).Atom.Row (t40.getD t42.toNat default).Atom.Args (t40.getD t42.toNat default).Atom.Func (t40.getD t42.toNat default).Atom.Items (t40.getD t42.toNat default).Atom.Op (t40.getD t42.toNat default).Atom.Bound)) fun r5 => .i (!r5) (.k (.inl false)) (.h (a, (), t10, t11, t12, t40, t41, (IntKind.i64.wrap (t42 + (1 : Int))), ()) (t, ())))))) .d) (.k (.inr (a, t10, t11, t12)))
noncomputable def annotation_Valid_b_w9 (g_annotation_validAtom : Atom → Bool × Bool) (x : List Term × Unit × List Term × Int × Int × List Factor × Int × Int × Unit) (y : Term × Unit) : Wy (List Term × Unit × List Term × Int × Int × List Factor × Int × Int × Unit) (Term × Unit) (Bool ⊕ (List Term × List Term × Int × Int)) := annotation_Valid_b_W9 g_annotation_validAtom x.1 x.2.2.1 x.2.2.2.1 x.2.2.2.2.1 x.2.2.2.2.2.1 x.2.2.2.2.2.2.1 x.2.2.2.2.2.2.2.1 y.1
noncomputable def annotation_Valid_b_L9 (g_annotation_validAtom : Atom → Bool × Bool) (n : Nat) (a : List Term) (t10 : List Term) (t11 : Int) (t12 : Int) (t40 : List Factor) (t41 : Int) (t42 : Int) (t : Term) : Bool × (Bool ⊕ (List Term × List Term × Int × Int)) := iterW (annotation_Valid_b_w9 g_annotation_validAtom) (.inl default) n (a, (), t10, t11, t12, t40, t41, t42, ()) (t, ())
noncomputable def annotation_Valid_b_tr9 (r : Bool ⊕ (List Term × List Term × Int × Int)) : LTree ty := .ite (isL r) (.done .ret [.lit (.bool (getL r))] []) (.done (.exit 2) [.sl 42 ((getR r).1), .sl 42 ((getR r).2.1), .lit (.int .i64 ((getR r).2.2.1)), .lit (.int .i64 ((getR r).2.2.2))] [])
noncomputable def annotation_Valid_b_V9 : LL ty (List Term × Unit × List Term × Int × Int × List Factor × Int × Int × Unit) := llCons (lSl 42) (llCons (lPtrC 340 0) (llCons (lSl 42) (llCons (lInt .i64) (llCons (lInt .i64) (llCons (lSl 50) (llCons (lInt .i64) (llCons (lInt .i64) llNil)))))))
noncomputable def annotation_Valid_b_B9 : BL ty (Term × Unit) := bBox (llMap (fun x => (⟨x.1, x.2.1⟩ : Term)) (fun x => (x.Coeff, x.Factors, ())) (fun _ => rfl) (llCons (lInt .i64) (llCons (lSl 50) llNil))) false (bNil)
noncomputable def annotation_Valid_b_W4 (g_annotation_validAtom : Atom → Bool × Bool) (a : List Term) (t10 : List Term) (t11 : Int) (t12 : Int) : Wy (List Term × List Term × Int × Int × Unit) (Unit) (Bool ⊕ Unit) := .i (decide (t12 < t11)) (.i (decide ((0 : Int) ≤ t12) && decide (t12 < Int.ofNat t10.length)) (.i (decide ((t10.getD t12.toNat default).Coeff < (1 : Int))) (.k (.inl false)) (.i (decide ((t10.getD t12.toNat default).Coeff > (1152921504606846976 : Int))) (.k (.inl false)) (.i (decide (t12 > (0 : Int))) (.i (decide ((0 : Int) ≤ IntKind.i64.wrap (t12 - (1 : Int))) && decide (IntKind.i64.wrap (t12 - (1 : Int)) < Int.ofNat a.length)) (.bn (annotation_compareLists (a.getD (IntKind.i64.wrap (t12 - (1 : Int))).toNat default) (t10.getD t12.toNat default)) fun r15 => .i (decide (r15 ≥ (0 : Int))) (.k (.inl false)) (.bn (annotation_Valid_b_L9 g_annotation_validAtom (a.length + t10.length + t11.toNat + t12.toNat + (t10.getD t12.toNat default).Factors.length + (Int.ofNat (t10.getD t12.toNat default).Factors.length).toNat + Int.toNat (0 : Int) + (t10.getD t12.toNat default).Factors.length + (1 : Nat)) a t10 t11 t12 (t10.getD t12.toNat default).Factors (Int.ofNat (t10.getD t12.toNat default).Factors.length) (0 : Int) (t10.getD t12.toNat default)) fun r14 => .i (isL r14) (.k (.inl (getL r14))) (.h (((getR r14).fst), ((getR r14).snd.fst), ((getR r14).snd.snd.fst), (IntKind.i64.wrap ((getR r14).snd.snd.snd + (1 : Int))), ()) ()))) .d) (.bn (annotation_Valid_b_L9 g_annotation_validAtom (a.length + t10.length + t11.toNat + t12.toNat + (t10.getD t12.toNat default).Factors.length + (Int.ofNat (t10.getD t12.toNat default).Factors.length).toNat + Int.toNat (0 : Int) + (t10.getD t12.toNat default).Factors.length + (1 : Nat)) a t10 t11 t12 (t10.getD t12.toNat default).Factors (Int.ofNat (t10.getD t12.toNat default).Factors.length) (0 : Int) (t10.getD t12.toNat default)) fun r16 => .i (isL r16) (.k (.inl (getL r16))) (.h (((getR r16).fst), ((getR r16).snd.fst), ((getR r16).snd.snd.fst), (IntKind.i64.wrap ((getR r16).snd.snd.snd + (1 : Int))), ()) ()))))) .d) (.k (.inr ()))
noncomputable def annotation_Valid_b_w4 (g_annotation_validAtom : Atom → Bool × Bool) (x : List Term × List Term × Int × Int × Unit) (y : Unit) : Wy (List Term × List Term × Int × Int × Unit) (Unit) (Bool ⊕ Unit) := annotation_Valid_b_W4 g_annotation_validAtom x.1 x.2.1 x.2.2.1 x.2.2.2.1
noncomputable def annotation_Valid_b_L4 (g_annotation_validAtom : Atom → Bool × Bool) (n : Nat) (a : List Term) (t10 : List Term) (t11 : Int) (t12 : Int) : Bool × (Bool ⊕ Unit) := iterW (annotation_Valid_b_w4 g_annotation_validAtom) (.inl default) n (a, t10, t11, t12, ()) ()
noncomputable def annotation_Valid_b_tr4 (r : Bool ⊕ Unit) : LTree ty := .ite (isL r) (.done .ret [.lit (.bool (getL r))] []) (.done (.exit 0) [] [])
noncomputable def annotation_Valid_b_V4 : LL ty (List Term × List Term × Int × Int × Unit) := llCons (lSl 42) (llCons (lSl 42) (llCons (lInt .i64) (llCons (lInt .i64) llNil)))
noncomputable def annotation_Valid_b_B4 : BL ty (Unit) := bNil
noncomputable def annotation_Valid_b_cx (g_annotation_validAtom : Atom → Bool × Bool) : Cx ty := mkCx base 85 [(70, annotation_within_spec), (71, annotation_compareLists_spec), (72, annotation_idempotent_spec), (73, annotation_compareAtoms_spec), (74, (annotation_validAtom_S g_annotation_validAtom))] [] [(4, [(0, .keep), (10, .keep), (11, .keep), (12, .keep)]), (9, [(0, .keep), (4, .keep), (10, .keep), (11, .keep), (12, .keep), (40, .keep), (41, .keep), (42, .keep)])] [(4, 1, []), (4, 0, [(2, .keep)]), (9, 3, [(0, .keep), (10, .keep), (11, .keep), (12, .keep)]), (9, 0, [(2, .keep)])] [(9, spW annotation_Valid_b_V9 annotation_Valid_b_B9 (annotation_Valid_b_w9 g_annotation_validAtom) (.inl default) annotation_Valid_b_tr9 fun x y => (x.1.length + x.2.2.1.length + Int.toNat x.2.2.2.1 + Int.toNat x.2.2.2.2.1 + x.2.2.2.2.2.1.length + Int.toNat x.2.2.2.2.2.2.1 + Int.toNat x.2.2.2.2.2.2.2.1 + y.1.Factors.length + 1)), (4, spW annotation_Valid_b_V4 annotation_Valid_b_B4 (annotation_Valid_b_w4 g_annotation_validAtom) (.inl default) annotation_Valid_b_tr4 fun x y => (x.1.length + x.2.1.length + Int.toNat x.2.2.1 + Int.toNat x.2.2.2.1 + 1))] []
theorem annotation_Valid_b_to9 (g_annotation_validAtom : Atom → Bool × Bool) : LoopOK (annotation_Valid_b_cx g_annotation_validAtom) (lp (body Tryz.f31) 1) := loopOK_W (id := 9) (V := annotation_Valid_b_V9) (B := annotation_Valid_b_B9) (W := annotation_Valid_b_w9 g_annotation_validAtom) (z := .inl default) (tr := annotation_Valid_b_tr9) (m := fun x y => (x.1.length + x.2.2.1.length + Int.toNat x.2.2.2.1 + Int.toNat x.2.2.2.2.1 + x.2.2.2.2.2.1.length + Int.toNat x.2.2.2.2.2.2.1 + Int.toNat x.2.2.2.2.2.2.2.1 + y.1.Factors.length + 1)) (by kernel_rfl) (by kernel_rfl) fun R H K x y => by kernel_rfl
theorem annotation_Valid_b_to4 (g_annotation_validAtom : Atom → Bool × Bool) : LoopOK (annotation_Valid_b_cx g_annotation_validAtom) (lp (body Tryz.f31) 0) := loopOK_W (id := 4) (V := annotation_Valid_b_V4) (B := annotation_Valid_b_B4) (W := annotation_Valid_b_w4 g_annotation_validAtom) (z := .inl default) (tr := annotation_Valid_b_tr4) (m := fun x y => (x.1.length + x.2.1.length + Int.toNat x.2.2.1 + Int.toNat x.2.2.2.1 + 1)) (by kernel_rfl) (by kernel_rfl) fun R H K x y => by kernel_rfl
noncomputable def annotation_Valid_b_W (g_annotation_validAtom : Atom → Bool × Bool) (a : List Term) : Wy0 (Bool) := .bn (annotation_within a) fun r21 => .i (!r21) (.k false) (.bn (annotation_Valid_b_L4 g_annotation_validAtom (a.length + a.length + (Int.ofNat a.length).toNat + Int.toNat (0 : Int) + (1 : Nat)) a a (Int.ofNat a.length) (0 : Int)) fun r20 => .i (isL r20) (.k (getL r20)) (.k true))
noncomputable def annotation_Valid_b (g_annotation_validAtom : Atom → Bool × Bool) (a : List Term) : Bool × Bool := (annotation_Valid_b_W g_annotation_validAtom a).fin default
theorem annotation_Valid_b_sound (g_annotation_validAtom : Atom → Bool × Bool) (h_g_annotation_validAtom : Sound Tryz.prog base 74 (annotation_validAtom_S g_annotation_validAtom)) : Sound Tryz.prog base 31 (annotation_Valid_S (annotation_Valid_b g_annotation_validAtom)) :=
  sound_W (cx' := (annotation_Valid_b_cx g_annotation_validAtom)) draws base_ok mkSame (mkSpecs ⟨(annotation_within_sound), (annotation_compareLists_sound), (annotation_idempotent_sound), (annotation_compareAtoms_sound), (h_g_annotation_validAtom), trivial⟩) Tryz.call31 Tryz.func31 (c := body Tryz.f31) (by kernel_rfl) (loopsOK_of (l := [lp (body Tryz.f31) 0, lp (body Tryz.f31) 1]) (by kernel_rfl) ⟨annotation_Valid_b_to4 g_annotation_validAtom, annotation_Valid_b_to9 g_annotation_validAtom, trivial⟩) (sg := ⟨[.pure], []⟩) (A := annotation_Valid_A) (res := annotation_Valid_res) (W := fun x => annotation_Valid_b_W g_annotation_validAtom x.1) (z := default) (fun x => by kernel_rfl) (fun _ => by kernel_rfl)
end Go.Proofs.YtnolcogncjijpaaGreatDoor
namespace Go.Proofs.YtnolcogncjijpaaGreatDoor
open Go Go.Ab
/-! ### lineage/value.Valid -/
noncomputable def value_Valid_cx : Cx ty := mkCx base 36 [] [] [] [] [] []
noncomputable def value_Valid_W (v : Value) : Wy0 (Bool) := .i (v.Kind == (0 : Int)) (.k (v.Text.toList == (ByteArray.mk #[]).toList)) (.i (v.Kind == (1 : Int)) (.i (v.Int == (0 : Int)) (.k (decide (Int.ofNat v.Text.size ≤ (255 : Int)))) (.k false)) (.i (v.Kind == (2 : Int)) (.i (v.Int == (0 : Int)) (.k (v.Text.toList == (ByteArray.mk #[]).toList)) (.i (v.Int == (1 : Int)) (.k (v.Text.toList == (ByteArray.mk #[]).toList)) (.k false))) (.k false)))
noncomputable def value_Valid (v : Value) : Bool × Bool := (value_Valid_W v).fin default
noncomputable def value_Valid_res (r : Bool) : ARes ty := ⟨[.pure (.lit (.bool r))], []⟩
noncomputable def value_Valid_A : AL base (Value × Unit) := aCons (aPure (vAgg 46)) aNil
noncomputable def value_Valid_spec : Ab.Spec ty := mkSpec value_Valid_A fun x => ((value_Valid x.1).1, value_Valid_res (value_Valid x.1).2)
theorem value_Valid_sound : Sound Tryz.prog base 133 value_Valid_spec :=
  sound_W (cx' := value_Valid_cx) draws base_ok mkSame (mkSpecs trivial) Tryz.call133 Tryz.func133 (c := body Tryz.f133) (by kernel_rfl) (loopsOK_of (l := []) (by kernel_rfl) trivial) (sg := ⟨[.pure], []⟩) (A := value_Valid_A) (res := value_Valid_res) (W := fun x => value_Valid_W x.1) (z := default) (fun x => by kernel_rfl) (fun _ => by kernel_rfl)
end Go.Proofs.YtnolcogncjijpaaGreatDoor
namespace Go.Proofs.YtnolcogncjijpaaGreatDoor
open Go Go.Ab
/-! ### lineage/annotation.fitting literal 1 -/
noncomputable def annotation_fitting_c1_cx : Cx ty := mkCx base 27 [(133, value_Valid_spec)] [] [] [] [] []
noncomputable def annotation_fitting_c1_W (w : Weighted) (p1 : Value) (p2 : Int) : Wy0 (Bool) := .bn (value_Valid w.Value) fun r0 => .i (!r0) (.k true) (.i (w.Value.Kind != p1.Kind) (.k true) (.i (p2 == (0 : Int)) (.k (w.Value.Int != (1 : Int))) (.k false)))
noncomputable def annotation_fitting_c1 (w : Weighted) (p1 : Value) (p2 : Int) : Bool × Bool := (annotation_fitting_c1_W w p1 p2).fin default
noncomputable def annotation_fitting_c1_res (r : Bool) : ARes ty := ⟨[.pure (.lit (.bool r))], []⟩
noncomputable def annotation_fitting_c1_A : AL base (Weighted × Value × (Int × Unit) × Unit) := aCons (aPure (vAgg 52)) (aCons (aPure (vBoxT 46)) (aCons (aPure (vBox (vCons (vInt .i64) vNil))) aNil))
noncomputable def annotation_fitting_c1_spec : Ab.Spec ty := mkSpec annotation_fitting_c1_A fun x => ((annotation_fitting_c1 x.1 x.2.1 x.2.2.1.1).1, annotation_fitting_c1_res (annotation_fitting_c1 x.1 x.2.1 x.2.2.1.1).2)
theorem annotation_fitting_c1_sound : Sound Tryz.prog base 134 annotation_fitting_c1_spec :=
  sound_W (cx' := annotation_fitting_c1_cx) draws base_ok mkSame (mkSpecs ⟨(value_Valid_sound), trivial⟩) Tryz.call134 Tryz.func134 (c := body Tryz.f134) (by kernel_rfl) (loopsOK_of (l := []) (by kernel_rfl) trivial) (sg := ⟨[.pure], []⟩) (A := annotation_fitting_c1_A) (res := annotation_fitting_c1_res) (W := fun x => annotation_fitting_c1_W x.1 x.2.1 x.2.2.1.1) (z := default) (fun x => by kernel_rfl) (fun _ => by kernel_rfl)
end Go.Proofs.YtnolcogncjijpaaGreatDoor
namespace Go.Proofs.YtnolcogncjijpaaGreatDoor
open Go Go.Ab
/-! ### slices.IndexFunc[[]lineage/api.Weighted,lineage/api.Weighted] -/
noncomputable def slices_IndexFunc_Lapi_Weighted_api_Weighted_fi_W2 (s : List Weighted) (f_0 : Value) (f_1 : Int) (t7 : Int) (t8 : Int) : Wy (List Weighted × (Value × (Int × Unit) × Unit) × Int × Int × Unit) (Unit) (Int ⊕ Unit) := .i (decide (t8 < t7)) (.i (decide ((0 : Int) ≤ t8) && decide (t8 < Int.ofNat s.length)) (.bn (annotation_fitting_c1 (s.getD t8.toNat default) f_0 f_1) fun r0 => .i (r0) (.k (.inl t8)) (.h (s, (f_0, (f_1, ()), ()), t7, (IntKind.i64.wrap (t8 + (1 : Int))), ()) ())) .d) (.k (.inr ()))
noncomputable def slices_IndexFunc_Lapi_Weighted_api_Weighted_fi_w2 (x : List Weighted × (Value × (Int × Unit) × Unit) × Int × Int × Unit) (y : Unit) : Wy (List Weighted × (Value × (Int × Unit) × Unit) × Int × Int × Unit) (Unit) (Int ⊕ Unit) := slices_IndexFunc_Lapi_Weighted_api_Weighted_fi_W2 x.1 x.2.1.1 x.2.1.2.1.1 x.2.2.1 x.2.2.2.1
noncomputable def slices_IndexFunc_Lapi_Weighted_api_Weighted_fi_L2 (n : Nat) (s : List Weighted) (f_0 : Value) (f_1 : Int) (t7 : Int) (t8 : Int) : Bool × (Int ⊕ Unit) := iterW (slices_IndexFunc_Lapi_Weighted_api_Weighted_fi_w2) (.inl default) n (s, (f_0, (f_1, ()), ()), t7, t8, ()) ()
noncomputable def slices_IndexFunc_Lapi_Weighted_api_Weighted_fi_tr2 (r : Int ⊕ Unit) : LTree ty := .ite (isL r) (.done .ret [.lit (.int .i64 (getL r))] []) (.done (.exit 0) [] [])
noncomputable def slices_IndexFunc_Lapi_Weighted_api_Weighted_fi_V2 : LL ty (List Weighted × (Value × (Int × Unit) × Unit) × Int × Int × Unit) := llCons (lSl 52) (llCons (lFn 134 (llCons (lBptrC (llMap (fun x => (⟨x.1, x.2.1, x.2.2.1⟩ : Value)) (fun x => (x.Kind, x.Int, x.Text, ())) (fun _ => rfl) (llCons (lInt .i64) (llCons (lInt .i64) (llCons lStr llNil)))) 0) (llCons (lBptrC (llCons (lInt .i64) llNil) 0) llNil))) (llCons (lInt .i64) (llCons (lInt .i64) llNil)))
noncomputable def slices_IndexFunc_Lapi_Weighted_api_Weighted_fi_B2 : BL ty (Unit) := bNil
noncomputable def slices_IndexFunc_Lapi_Weighted_api_Weighted_fi_cx : Cx ty := mkCx base 19 [(134, annotation_fitting_c1_spec)] [] [(2, [(0, .keep), (1, .keep), (7, .keep), (8, .keep)])] [(2, 1, []), (2, 0, [(4, .keep)])] [(2, spW slices_IndexFunc_Lapi_Weighted_api_Weighted_fi_V2 slices_IndexFunc_Lapi_Weighted_api_Weighted_fi_B2 (slices_IndexFunc_Lapi_Weighted_api_Weighted_fi_w2) (.inl default) slices_IndexFunc_Lapi_Weighted_api_Weighted_fi_tr2 fun x y => (x.1.length + Int.toNat x.2.1.2.1.1 + Int.toNat x.2.2.1 + Int.toNat x.2.2.2.1 + 1))] []
theorem slices_IndexFunc_Lapi_Weighted_api_Weighted_fi_to2 : LoopOK slices_IndexFunc_Lapi_Weighted_api_Weighted_fi_cx (lp (body Tryz.f135) 0) := loopOK_W (id := 2) (V := slices_IndexFunc_Lapi_Weighted_api_Weighted_fi_V2) (B := slices_IndexFunc_Lapi_Weighted_api_Weighted_fi_B2) (W := slices_IndexFunc_Lapi_Weighted_api_Weighted_fi_w2) (z := .inl default) (tr := slices_IndexFunc_Lapi_Weighted_api_Weighted_fi_tr2) (m := fun x y => (x.1.length + Int.toNat x.2.1.2.1.1 + Int.toNat x.2.2.1 + Int.toNat x.2.2.2.1 + 1)) (by kernel_rfl) (by kernel_rfl) fun R H K x y => by kernel_rfl
noncomputable def slices_IndexFunc_Lapi_Weighted_api_Weighted_fi_W (s : List Weighted) (f_0 : Value) (f_1 : Int) : Wy0 (Int) := .bn (slices_IndexFunc_Lapi_Weighted_api_Weighted_fi_L2 (s.length + f_1.toNat + (Int.ofNat s.length).toNat + Int.toNat (0 : Int) + (1 : Nat)) s f_0 f_1 (Int.ofNat s.length) (0 : Int)) fun r2 => .i (isL r2) (.k (getL r2)) (.k (-1 : Int))
noncomputable def slices_IndexFunc_Lapi_Weighted_api_Weighted_fi (s : List Weighted) (f_0 : Value) (f_1 : Int) : Bool × Int := (slices_IndexFunc_Lapi_Weighted_api_Weighted_fi_W s f_0 f_1).fin default
noncomputable def slices_IndexFunc_Lapi_Weighted_api_Weighted_fi_res (r : Int) : ARes ty := ⟨[.pure (.lit (.int .i64 r))], []⟩
noncomputable def slices_IndexFunc_Lapi_Weighted_api_Weighted_fi_A : AL base (List Weighted × (Value × (Int × Unit) × Unit) × Unit) := aCons (aPure (vSl 52)) (aCons (aPure (vFn 134 (vCons (vBoxT 46) (vCons (vBox (vCons (vInt .i64) vNil)) vNil)))) aNil)
noncomputable def slices_IndexFunc_Lapi_Weighted_api_Weighted_fi_spec : Ab.Spec ty := mkSpec slices_IndexFunc_Lapi_Weighted_api_Weighted_fi_A fun x => ((slices_IndexFunc_Lapi_Weighted_api_Weighted_fi x.1 x.2.1.1 x.2.1.2.1.1).1, slices_IndexFunc_Lapi_Weighted_api_Weighted_fi_res (slices_IndexFunc_Lapi_Weighted_api_Weighted_fi x.1 x.2.1.1 x.2.1.2.1.1).2)
theorem slices_IndexFunc_Lapi_Weighted_api_Weighted_fi_sound : Sound Tryz.prog base 135 slices_IndexFunc_Lapi_Weighted_api_Weighted_fi_spec :=
  sound_W (cx' := slices_IndexFunc_Lapi_Weighted_api_Weighted_fi_cx) draws base_ok mkSame (mkSpecs ⟨(annotation_fitting_c1_sound), trivial⟩) Tryz.call135 Tryz.func135 (c := body Tryz.f135) (by kernel_rfl) (loopsOK_of (l := [lp (body Tryz.f135) 0]) (by kernel_rfl) ⟨slices_IndexFunc_Lapi_Weighted_api_Weighted_fi_to2, trivial⟩) (sg := ⟨[.pure], []⟩) (A := slices_IndexFunc_Lapi_Weighted_api_Weighted_fi_A) (res := slices_IndexFunc_Lapi_Weighted_api_Weighted_fi_res) (W := fun x => slices_IndexFunc_Lapi_Weighted_api_Weighted_fi_W x.1 x.2.1.1 x.2.1.2.1.1) (z := default) (fun x => by kernel_rfl) (fun _ => by kernel_rfl)
end Go.Proofs.YtnolcogncjijpaaGreatDoor
namespace Go.Proofs.YtnolcogncjijpaaGreatDoor
open Go Go.Ab
/-! ### slices.ContainsFunc[[]lineage/api.Weighted,lineage/api.Weighted] -/
noncomputable def slices_ContainsFunc_Lapi_Weighted_api_Weighted_fi_cx : Cx ty := mkCx base 9 [(134, annotation_fitting_c1_spec), (135, slices_IndexFunc_Lapi_Weighted_api_Weighted_fi_spec)] [] [] [] [] []
noncomputable def slices_ContainsFunc_Lapi_Weighted_api_Weighted_fi_W (s : List Weighted) (f_0 : Value) (f_1 : Int) : Wy0 (Bool) := .bn (slices_IndexFunc_Lapi_Weighted_api_Weighted_fi s f_0 f_1) fun r0 => .k (decide (r0 ≥ (0 : Int)))
noncomputable def slices_ContainsFunc_Lapi_Weighted_api_Weighted_fi (s : List Weighted) (f_0 : Value) (f_1 : Int) : Bool × Bool := (slices_ContainsFunc_Lapi_Weighted_api_Weighted_fi_W s f_0 f_1).fin default
noncomputable def slices_ContainsFunc_Lapi_Weighted_api_Weighted_fi_res (r : Bool) : ARes ty := ⟨[.pure (.lit (.bool r))], []⟩
noncomputable def slices_ContainsFunc_Lapi_Weighted_api_Weighted_fi_A : AL base (List Weighted × (Value × (Int × Unit) × Unit) × Unit) := aCons (aPure (vSl 52)) (aCons (aPure (vFn 134 (vCons (vBoxT 46) (vCons (vBox (vCons (vInt .i64) vNil)) vNil)))) aNil)
noncomputable def slices_ContainsFunc_Lapi_Weighted_api_Weighted_fi_spec : Ab.Spec ty := mkSpec slices_ContainsFunc_Lapi_Weighted_api_Weighted_fi_A fun x => ((slices_ContainsFunc_Lapi_Weighted_api_Weighted_fi x.1 x.2.1.1 x.2.1.2.1.1).1, slices_ContainsFunc_Lapi_Weighted_api_Weighted_fi_res (slices_ContainsFunc_Lapi_Weighted_api_Weighted_fi x.1 x.2.1.1 x.2.1.2.1.1).2)
theorem slices_ContainsFunc_Lapi_Weighted_api_Weighted_fi_sound : Sound Tryz.prog base 76 slices_ContainsFunc_Lapi_Weighted_api_Weighted_fi_spec :=
  sound_W (cx' := slices_ContainsFunc_Lapi_Weighted_api_Weighted_fi_cx) draws base_ok mkSame (mkSpecs ⟨(annotation_fitting_c1_sound), (slices_IndexFunc_Lapi_Weighted_api_Weighted_fi_sound), trivial⟩) Tryz.call76 Tryz.func76 (c := body Tryz.f76) (by kernel_rfl) (loopsOK_of (l := []) (by kernel_rfl) trivial) (sg := ⟨[.pure], []⟩) (A := slices_ContainsFunc_Lapi_Weighted_api_Weighted_fi_A) (res := slices_ContainsFunc_Lapi_Weighted_api_Weighted_fi_res) (W := fun x => slices_ContainsFunc_Lapi_Weighted_api_Weighted_fi_W x.1 x.2.1.1 x.2.1.2.1.1) (z := default) (fun x => by kernel_rfl) (fun _ => by kernel_rfl)
end Go.Proofs.YtnolcogncjijpaaGreatDoor
namespace Go.Proofs.YtnolcogncjijpaaGreatDoor
open Go Go.Ab
/-! ### lineage/annotation.fitting -/
noncomputable def annotation_fitting_cx : Cx ty := mkCx base 43 [(76, slices_ContainsFunc_Lapi_Weighted_api_Weighted_fi_spec), (133, value_Valid_spec), (134, annotation_fitting_c1_spec)] [] [] [] [] []
noncomputable def annotation_fitting_W (fn : Int) (items : List Weighted) (op : Int) (bound : Value) : Wy0 (Bool) := .i (decide (fn < (0 : Int))) (.k false) (.i (decide (fn > (3 : Int))) (.k false) (.i (decide (op < (5 : Int))) (.k false) (.i (decide (op > (10 : Int))) (.k false) (.bn (value_Valid bound) fun r3 => .i (!r3) (.k false) (.i (fn == (0 : Int)) (.i (bound.Kind != (0 : Int)) (.k false) (.bn (slices_ContainsFunc_Lapi_Weighted_api_Weighted_fi items bound fn) fun r0 => .k (!r0))) (.i (fn == (1 : Int)) (.i (bound.Kind != (0 : Int)) (.k false) (.bn (slices_ContainsFunc_Lapi_Weighted_api_Weighted_fi items bound fn) fun r1 => .k (!r1))) (.bn (slices_ContainsFunc_Lapi_Weighted_api_Weighted_fi items bound fn) fun r2 => .k (!r2))))))))
noncomputable def annotation_fitting (fn : Int) (items : List Weighted) (op : Int) (bound : Value) : Bool × Bool := (annotation_fitting_W fn items op bound).fin default
noncomputable def annotation_fitting_res (r : Bool) : ARes ty := ⟨[.pure (.lit (.bool r))], []⟩
noncomputable def annotation_fitting_A : AL base (Int × List Weighted × Int × Value × Unit) := aCons (aPure (vInt .i64)) (aCons (aPure (vSl 52)) (aCons (aPure (vInt .i64)) (aCons (aPure (vAgg 46)) aNil)))
noncomputable def annotation_fitting_spec : Ab.Spec ty := mkSpec annotation_fitting_A fun x => ((annotation_fitting x.1 x.2.1 x.2.2.1 x.2.2.2.1).1, annotation_fitting_res (annotation_fitting x.1 x.2.1 x.2.2.1 x.2.2.2.1).2)
theorem annotation_fitting_sound : Sound Tryz.prog base 75 annotation_fitting_spec :=
  sound_W (cx' := annotation_fitting_cx) draws base_ok mkSame (mkSpecs ⟨(slices_ContainsFunc_Lapi_Weighted_api_Weighted_fi_sound), (value_Valid_sound), (annotation_fitting_c1_sound), trivial⟩) Tryz.call75 Tryz.func75 (c := body Tryz.f75) (by kernel_rfl) (loopsOK_of (l := []) (by kernel_rfl) trivial) (sg := ⟨[.pure], []⟩) (A := annotation_fitting_A) (res := annotation_fitting_res) (W := fun x => annotation_fitting_W x.1 x.2.1 x.2.2.1 x.2.2.2.1) (z := default) (fun x => by kernel_rfl) (fun _ => by kernel_rfl)
end Go.Proofs.YtnolcogncjijpaaGreatDoor
namespace Go.Proofs.YtnolcogncjijpaaGreatDoor
open Go Go.Ab
/-! ### lineage/annotation.hasConstant literal 1 -/
noncomputable def annotation_hasConstant_c1_cx : Cx ty := mkCx base 7 [] [] [] [] [] []
noncomputable def annotation_hasConstant_c1_W (t : Term) : Wy0 (Bool) := .k (Int.ofNat t.Factors.length == (0 : Int))
noncomputable def annotation_hasConstant_c1 (t : Term) : Bool × Bool := (annotation_hasConstant_c1_W t).fin default
noncomputable def annotation_hasConstant_c1_res (r : Bool) : ARes ty := ⟨[.pure (.lit (.bool r))], []⟩
noncomputable def annotation_hasConstant_c1_A : AL base (Term × Unit) := aCons (aPure (vAgg 42)) aNil
noncomputable def annotation_hasConstant_c1_spec : Ab.Spec ty := mkSpec annotation_hasConstant_c1_A fun x => ((annotation_hasConstant_c1 x.1).1, annotation_hasConstant_c1_res (annotation_hasConstant_c1 x.1).2)
theorem annotation_hasConstant_c1_sound : Sound Tryz.prog base 119 annotation_hasConstant_c1_spec :=
  sound_W (cx' := annotation_hasConstant_c1_cx) draws base_ok mkSame (mkSpecs trivial) Tryz.call119 Tryz.func119 (c := body Tryz.f119) (by kernel_rfl) (loopsOK_of (l := []) (by kernel_rfl) trivial) (sg := ⟨[.pure], []⟩) (A := annotation_hasConstant_c1_A) (res := annotation_hasConstant_c1_res) (W := fun x => annotation_hasConstant_c1_W x.1) (z := default) (fun x => by kernel_rfl) (fun _ => by kernel_rfl)
end Go.Proofs.YtnolcogncjijpaaGreatDoor
namespace Go.Proofs.YtnolcogncjijpaaGreatDoor
open Go Go.Ab
/-! ### slices.IndexFunc[lineage/api.Annotation,lineage/api.Term] -/
noncomputable def slices_IndexFunc_api_Annotation_api_Term_hc_W2 (s : List Term) (t7 : Int) (t8 : Int) : Wy (List Term × Unit × Int × Int × Unit) (Unit) (Int ⊕ Unit) := .i (decide (t8 < t7)) (.i (decide ((0 : Int) ≤ t8) && decide (t8 < Int.ofNat s.length)) (.i ((annotation_hasConstant_c1 (s.getD t8.toNat default)).snd) (.k (.inl t8)) (.h (s, (), t7, (IntKind.i64.wrap (t8 + (1 : Int))), ()) ())) .d) (.k (.inr ()))
noncomputable def slices_IndexFunc_api_Annotation_api_Term_hc_w2 (x : List Term × Unit × Int × Int × Unit) (y : Unit) : Wy (List Term × Unit × Int × Int × Unit) (Unit) (Int ⊕ Unit) := slices_IndexFunc_api_Annotation_api_Term_hc_W2 x.1 x.2.2.1 x.2.2.2.1
noncomputable def slices_IndexFunc_api_Annotation_api_Term_hc_L2 (n : Nat) (s : List Term) (t7 : Int) (t8 : Int) : Bool × (Int ⊕ Unit) := iterW (slices_IndexFunc_api_Annotation_api_Term_hc_w2) (.inl default) n (s, (), t7, t8, ()) ()
noncomputable def slices_IndexFunc_api_Annotation_api_Term_hc_tr2 (r : Int ⊕ Unit) : LTree ty := .ite (isL r) (.done .ret [.lit (.int .i64 (getL r))] []) (.done (.exit 0) [] [])
noncomputable def slices_IndexFunc_api_Annotation_api_Term_hc_V2 : LL ty (List Term × Unit × Int × Int × Unit) := llCons (lSl 42) (llCons (lFn 119 (llNil)) (llCons (lInt .i64) (llCons (lInt .i64) llNil)))
noncomputable def slices_IndexFunc_api_Annotation_api_Term_hc_B2 : BL ty (Unit) := bNil
noncomputable def slices_IndexFunc_api_Annotation_api_Term_hc_cx : Cx ty := mkCx base 19 [(119, annotation_hasConstant_c1_spec)] [] [(2, [(0, .keep), (1, .keep), (7, .keep), (8, .keep)])] [(2, 1, []), (2, 0, [(4, .keep)])] [(2, spW slices_IndexFunc_api_Annotation_api_Term_hc_V2 slices_IndexFunc_api_Annotation_api_Term_hc_B2 (slices_IndexFunc_api_Annotation_api_Term_hc_w2) (.inl default) slices_IndexFunc_api_Annotation_api_Term_hc_tr2 fun x y => (x.1.length + Int.toNat x.2.2.1 + Int.toNat x.2.2.2.1 + 1))] []
theorem slices_IndexFunc_api_Annotation_api_Term_hc_to2 : LoopOK slices_IndexFunc_api_Annotation_api_Term_hc_cx (lp (body Tryz.f149) 0) := loopOK_W (id := 2) (V := slices_IndexFunc_api_Annotation_api_Term_hc_V2) (B := slices_IndexFunc_api_Annotation_api_Term_hc_B2) (W := slices_IndexFunc_api_Annotation_api_Term_hc_w2) (z := .inl default) (tr := slices_IndexFunc_api_Annotation_api_Term_hc_tr2) (m := fun x y => (x.1.length + Int.toNat x.2.2.1 + Int.toNat x.2.2.2.1 + 1)) (by kernel_rfl) (by kernel_rfl) fun R H K x y => by kernel_rfl
noncomputable def slices_IndexFunc_api_Annotation_api_Term_hc_W (s : List Term) : Wy0 (Int) := .bn (slices_IndexFunc_api_Annotation_api_Term_hc_L2 (s.length + (Int.ofNat s.length).toNat + Int.toNat (0 : Int) + (1 : Nat)) s (Int.ofNat s.length) (0 : Int)) fun r0 => .i (isL r0) (.k (getL r0)) (.k (-1 : Int))
noncomputable def slices_IndexFunc_api_Annotation_api_Term_hc (s : List Term) : Bool × Int := (slices_IndexFunc_api_Annotation_api_Term_hc_W s).fin default
noncomputable def slices_IndexFunc_api_Annotation_api_Term_hc_res (r : Int) : ARes ty := ⟨[.pure (.lit (.int .i64 r))], []⟩
noncomputable def slices_IndexFunc_api_Annotation_api_Term_hc_A : AL base (List Term × Unit × Unit) := aCons (aPure (vSl 42)) (aCons (aPure (vFn 119 vNil)) aNil)
noncomputable def slices_IndexFunc_api_Annotation_api_Term_hc_spec : Ab.Spec ty := mkSpec slices_IndexFunc_api_Annotation_api_Term_hc_A fun x => ((slices_IndexFunc_api_Annotation_api_Term_hc x.1).1, slices_IndexFunc_api_Annotation_api_Term_hc_res (slices_IndexFunc_api_Annotation_api_Term_hc x.1).2)
theorem slices_IndexFunc_api_Annotation_api_Term_hc_sound : Sound Tryz.prog base 149 slices_IndexFunc_api_Annotation_api_Term_hc_spec :=
  sound_W (cx' := slices_IndexFunc_api_Annotation_api_Term_hc_cx) draws base_ok mkSame (mkSpecs ⟨(annotation_hasConstant_c1_sound), trivial⟩) Tryz.call149 Tryz.func149 (c := body Tryz.f149) (by kernel_rfl) (loopsOK_of (l := [lp (body Tryz.f149) 0]) (by kernel_rfl) ⟨slices_IndexFunc_api_Annotation_api_Term_hc_to2, trivial⟩) (sg := ⟨[.pure], []⟩) (A := slices_IndexFunc_api_Annotation_api_Term_hc_A) (res := slices_IndexFunc_api_Annotation_api_Term_hc_res) (W := fun x => slices_IndexFunc_api_Annotation_api_Term_hc_W x.1) (z := default) (fun x => by kernel_rfl) (fun _ => by kernel_rfl)
end Go.Proofs.YtnolcogncjijpaaGreatDoor
namespace Go.Proofs.YtnolcogncjijpaaGreatDoor
open Go Go.Ab
/-! ### slices.ContainsFunc[lineage/api.Annotation,lineage/api.Term] -/
noncomputable def slices_ContainsFunc_api_Annotation_api_Term_hc_cx : Cx ty := mkCx base 9 [(119, annotation_hasConstant_c1_spec), (149, (orSpec slices_IndexFunc_api_Annotation_api_Term_hc_spec slices_IndexFunc_api_Annotation_api_Term_hc_spec))] [] [] [] [] []
noncomputable def slices_ContainsFunc_api_Annotation_api_Term_hc_W (s : List Term) : Wy0 (Bool) := .bn (slices_IndexFunc_api_Annotation_api_Term_hc s) fun r0 => .k (decide (r0 ≥ (0 : Int)))
noncomputable def slices_ContainsFunc_api_Annotation_api_Term_hc (s : List Term) : Bool × Bool := (slices_ContainsFunc_api_Annotation_api_Term_hc_W s).fin default
noncomputable def slices_ContainsFunc_api_Annotation_api_Term_hc_res (r : Bool) : ARes ty := ⟨[.pure (.lit (.bool r))], []⟩
noncomputable def slices_ContainsFunc_api_Annotation_api_Term_hc_A : AL base (List Term × Unit × Unit) := aCons (aPure (vSl 42)) (aCons (aPure (vFn 119 vNil)) aNil)
noncomputable def slices_ContainsFunc_api_Annotation_api_Term_hc_spec : Ab.Spec ty := mkSpec slices_ContainsFunc_api_Annotation_api_Term_hc_A fun x => ((slices_ContainsFunc_api_Annotation_api_Term_hc x.1).1, slices_ContainsFunc_api_Annotation_api_Term_hc_res (slices_ContainsFunc_api_Annotation_api_Term_hc x.1).2)
theorem slices_ContainsFunc_api_Annotation_api_Term_hc_sound : Sound Tryz.prog base 105 slices_ContainsFunc_api_Annotation_api_Term_hc_spec :=
  sound_W (cx' := slices_ContainsFunc_api_Annotation_api_Term_hc_cx) draws base_ok mkSame (mkSpecs ⟨(annotation_hasConstant_c1_sound), (Sound.or (slices_IndexFunc_api_Annotation_api_Term_hc_sound) (slices_IndexFunc_api_Annotation_api_Term_hc_sound)), trivial⟩) Tryz.call105 Tryz.func105 (c := body Tryz.f105) (by kernel_rfl) (loopsOK_of (l := []) (by kernel_rfl) trivial) (sg := ⟨[.pure], []⟩) (A := slices_ContainsFunc_api_Annotation_api_Term_hc_A) (res := slices_ContainsFunc_api_Annotation_api_Term_hc_res) (W := fun x => slices_ContainsFunc_api_Annotation_api_Term_hc_W x.1) (z := default) (fun x => by kernel_rfl) (fun _ => by kernel_rfl)
end Go.Proofs.YtnolcogncjijpaaGreatDoor
namespace Go.Proofs.YtnolcogncjijpaaGreatDoor
open Go Go.Ab
/-! ### lineage/annotation.hasConstant -/
noncomputable def annotation_hasConstant_cx : Cx ty := mkCx base 5 [(105, slices_ContainsFunc_api_Annotation_api_Term_hc_spec), (119, annotation_hasConstant_c1_spec)] [] [] [] [] []
noncomputable def annotation_hasConstant_W (a : List Term) : Wy0 (Bool) := .bn (slices_ContainsFunc_api_Annotation_api_Term_hc a) fun r0 => .k r0
noncomputable def annotation_hasConstant (a : List Term) : Bool × Bool := (annotation_hasConstant_W a).fin default
noncomputable def annotation_hasConstant_res (r : Bool) : ARes ty := ⟨[.pure (.lit (.bool r))], []⟩
noncomputable def annotation_hasConstant_A : AL base (List Term × Unit) := aCons (aPure (vSl 42)) aNil
noncomputable def annotation_hasConstant_spec : Ab.Spec ty := mkSpec annotation_hasConstant_A fun x => ((annotation_hasConstant x.1).1, annotation_hasConstant_res (annotation_hasConstant x.1).2)
theorem annotation_hasConstant_sound : Sound Tryz.prog base 68 annotation_hasConstant_spec :=
  sound_W (cx' := annotation_hasConstant_cx) draws base_ok mkSame (mkSpecs ⟨(slices_ContainsFunc_api_Annotation_api_Term_hc_sound), (annotation_hasConstant_c1_sound), trivial⟩) Tryz.call68 Tryz.func68 (c := body Tryz.f68) (by kernel_rfl) (loopsOK_of (l := []) (by kernel_rfl) trivial) (sg := ⟨[.pure], []⟩) (A := annotation_hasConstant_A) (res := annotation_hasConstant_res) (W := fun x => annotation_hasConstant_W x.1) (z := default) (fun x => by kernel_rfl) (fun _ => by kernel_rfl)
end Go.Proofs.YtnolcogncjijpaaGreatDoor
