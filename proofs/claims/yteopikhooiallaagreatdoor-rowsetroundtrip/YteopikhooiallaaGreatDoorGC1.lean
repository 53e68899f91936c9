/- Texts of this claim, joined (the program, its functions in plain words, and what they compute). -/
import Derived.KernelRfl
import Derived.Shelf.Strconv.Itoa3
import Derived.Stop.LaidErr
import Derived.Shelf.Vars
import Derived.Ground.GgwProg
import Derived.Shelf.SlSortCmp.NoneTotal
import Derived.Shelf.Strings.OnBuilder
import Derived.Shelf.Small.Wraps
import Derived.Shelf.Strings.Cut
import Derived.Shelf.Strings.FuncGrows
import Derived.Shelf.Strconv.ErrVarAll
import Derived.Test.YteopikhooiallaaGreatDoorChecked
import Derived.Test.YteopikhooiallaaGreatDoorRows
import Derived.Test.YteopikhooiallaaGreatDoorProg
import Derived.Test.YteopikhooiallaaGreatDoorGA2
import Derived.Test.YteopikhooiallaaGreatDoorGB1
set_option autoImplicit false
set_option maxRecDepth 1000000
set_option maxHeartbeats 0
/- The types of the program, as plain data. -/
set_option autoImplicit false
set_option linter.unusedVariables false
set_option linter.unusedSimpArgs false
namespace Go.Proofs.YteopikhooiallaaGreatDoor
open Go Go.Ab
open Go.Proofs Go.Shelf
structure RowID where
  Table : Int
  Seq : Int
  deriving DecidableEq, Inhabited
def ty : Nat → Type
  | 3 => Int
  | 4 => Bool
  | 5 => Int
  | 9 => ByteArray
  | 21 => Int
  | 22 => List (List RowID)
  | 30 => RowID
  | 31 => List RowID
  | 32 => Int
  | 50 => List Int
  | 64 => List ByteArray
  | 74 => Unit
  | 77 => Bool
  | 80 => List Int
  | _ => Unit
instance : (T : Nat) → Inhabited (ty T) := fun T => by
  unfold ty
  split <;> infer_instance
def dt30 : DT ty RowID := dtMap (fun x => ⟨x.1, x.2⟩) (fun x => (x.Table, x.Seq)) (fun _ => rfl) (dtPair (dtInt .i64) (dtInt .i64))
def codecs : List ((T : Nat) × DT ty (ty T)) := [⟨3, (dtInt .i64 : DT ty Int)⟩, ⟨4, (dtBool : DT ty Bool)⟩, ⟨5, (dtInt .u8 : DT ty Int)⟩, ⟨9, (dtStr : DT ty ByteArray)⟩, ⟨21, (dtInt .i32 : DT ty Int)⟩, ⟨22, (dtSl 31 : DT ty (List (List RowID)))⟩, ⟨30, (dt30 : DT ty RowID)⟩, ⟨31, (dtSl 30 : DT ty (List RowID))⟩, ⟨32, (dtInt .i64 : DT ty Int)⟩, ⟨50, (dtSl 3 : DT ty (List Int))⟩, ⟨64, (dtSl 9 : DT ty (List ByteArray))⟩, ⟨74, (dtFn : DT ty Unit)⟩, ⟨77, (dtErr : DT ty Bool)⟩, ⟨80, (dtSl 5 : DT ty (List Int))⟩]
def infos : List (Nat × TInfo) := [(3, ⟨.int .i64, 1, 8, [.int .i64 (0)]⟩),
  (4, ⟨.bool, 1, 1, [.bool false]⟩),
  (5, ⟨.int .u8, 1, 1, [.int .u8 (0)]⟩),
  (9, ⟨.str, 1, 16, [.string ⟨#[]⟩]⟩),
  (21, ⟨.int .i32, 1, 4, [.int .i32 (0)]⟩),
  (22, ⟨.slice 31, 1, 24, [.slice none 0 0]⟩),
  (30, ⟨.struct [(0, 3), (1, 3)], 2, 16, [.int .i64 (0), .int .i64 (0)]⟩),
  (31, ⟨.slice 30, 1, 24, [.slice none 0 0]⟩),
  (32, ⟨.int .i64, 1, 8, [.int .i64 (0)]⟩),
  (50, ⟨.slice 3, 1, 24, [.slice none 0 0]⟩),
  (64, ⟨.slice 9, 1, 24, [.slice none 0 0]⟩),
  (74, ⟨.other, 1, 8, [.nilFunc]⟩),
  (77, ⟨.iface, 1, 16, [.nilIface]⟩),
  (80, ⟨.slice 5, 1, 24, [.slice none 0 0]⟩)]
def plains : List (Nat × List TD) := [(30, [.int .i64, .int .i64])]
/-- What is known of the package variables. -/
def inv (w : World) : Prop := Lib.TabIs Tryz.prog w "internal/strconv.uint64pow10" .u64 Lib.pow10Tab ∧ (∃ m, w.cell? ⟨0, 0, none⟩ = some (.int .i64 m)) ∧ (∃ t p, w.var? Tryz.prog "strconv.ErrSyntax" = some #[.iface t p]) ∧ (∃ t p, w.var? Tryz.prog "strconv.ErrRange" = some #[.iface t p])
theorem var_same {n : String} {g : Nat} {w w' : World} (hg : Tryz.prog.globalNamed n = some g) (h : w'.heap[g]? = w.heap[g]?) : w'.var? Tryz.prog n = w.var? Tryz.prog n := by
  unfold World.var?; rw [hg]; simp only [Option.bind_some, h]
theorem inv_stable (w w' : World) (hi : inv w) (hb : ∀ b, b < 6 → w'.heap[b]? = w.heap[b]?) : inv w' := by
  obtain ⟨h1, ⟨m, h2⟩, ⟨t1, p1, h3⟩, ⟨t2, p2, h4⟩⟩ := hi
  refine ⟨(var_same (g := 3) (by kernel_rfl) (hb 3 (by omega))).trans h1, ⟨m, ?_⟩, ⟨t1, p1, (var_same (g := 1) (by kernel_rfl) (hb 1 (by omega))).trans h3⟩, ⟨t2, p2, (var_same (g := 2) (by kernel_rfl) (hb 2 (by omega))).trans h4⟩⟩
  rw [← h2]; exact World.cell?_of_block (a := ⟨0, 0, none⟩) (hb 0 (by omega))

/-- What is told of the program, but for callees and loops. -/
def base : Cx ty := { ti := fun T => infos.lookup T, dflt := fun _ => default, enc := fun T => (tabT codecs T).enc, dec := fun T => (tabT codecs T).dec, spec := fun _ => none, io := fun _ => [], eqs := fun T us vs => match plains.lookup T with | some ts => eqLits ts us vs | none => none, nt := 0, head := fun _ => [], out := fun _ _ => [], loops := fun _ => none, ng := 6, inv := inv }
theorem info3 : Tryz.prog.info? 3 = some Tryz.t3 := by kernel_rfl
theorem info4 : Tryz.prog.info? 4 = some Tryz.t4 := by kernel_rfl
theorem info5 : Tryz.prog.info? 5 = some Tryz.t5 := by kernel_rfl
theorem info9 : Tryz.prog.info? 9 = some Tryz.t9 := by kernel_rfl
theorem info21 : Tryz.prog.info? 21 = some Tryz.t21 := by kernel_rfl
theorem info22 : Tryz.prog.info? 22 = some Tryz.t22 := by kernel_rfl
theorem info30 : Tryz.prog.info? 30 = some Tryz.t30 := by kernel_rfl
theorem info31 : Tryz.prog.info? 31 = some Tryz.t31 := by kernel_rfl
theorem info32 : Tryz.prog.info? 32 = some Tryz.t32 := by kernel_rfl
theorem info50 : Tryz.prog.info? 50 = some Tryz.t50 := by kernel_rfl
theorem info64 : Tryz.prog.info? 64 = some Tryz.t64 := by kernel_rfl
theorem info74 : Tryz.prog.info? 74 = some Tryz.t74 := by kernel_rfl
theorem info77 : Tryz.prog.info? 77 = some Tryz.t77 := by kernel_rfl
theorem info80 : Tryz.prog.info? 80 = some Tryz.t80 := by kernel_rfl
theorem base_ti : ∀ T i, infos.lookup T = some i → InfoOK Tryz.prog T i := by
  intro T i h
  have h := mem_of_lookup _ _ _ h
  simp only [infos, List.mem_cons, List.not_mem_nil, or_false, Prod.mk.injEq] at h
  rcases h with ⟨rfl, rfl⟩ | ⟨rfl, rfl⟩ | ⟨rfl, rfl⟩ | ⟨rfl, rfl⟩ | ⟨rfl, rfl⟩ | ⟨rfl, rfl⟩ | ⟨rfl, rfl⟩ | ⟨rfl, rfl⟩ | ⟨rfl, rfl⟩ | ⟨rfl, rfl⟩ | ⟨rfl, rfl⟩ | ⟨rfl, rfl⟩ | ⟨rfl, rfl⟩ | ⟨rfl, rfl⟩
  · exact ⟨Tryz.t3, _, _, info3, Tryz.underlying3, rfl, rfl, rfl, rfl, rfl, by simp [oneCell], rfl⟩
  · exact ⟨Tryz.t4, _, _, info4, Tryz.underlying4, rfl, rfl, rfl, rfl, rfl, by simp [oneCell], rfl⟩
  · exact ⟨Tryz.t5, _, _, info5, Tryz.underlying5, rfl, rfl, rfl, rfl, rfl, by simp [oneCell], rfl⟩
  · exact ⟨Tryz.t9, _, _, info9, Tryz.underlying9, rfl, rfl, rfl, rfl, rfl, by simp [oneCell], rfl⟩
  · exact ⟨Tryz.t21, _, _, info21, Tryz.underlying21, rfl, rfl, rfl, rfl, rfl, by simp [oneCell], rfl⟩
  · exact ⟨Tryz.t22, _, _, info22, Tryz.underlying22, rfl, rfl, rfl, rfl, rfl, by simp [oneCell], rfl⟩
  · exact ⟨Tryz.t30, _, _, info30, Tryz.underlying30, rfl, rfl, rfl, rfl, rfl, by simp [oneCell], ⟨_, rfl, rfl, fun f hf => by
      simp only [List.mem_cons, List.not_mem_nil, or_false] at hf
      rcases hf with rfl | rfl
      · exact Option.isSome_iff_exists.2 ⟨_, info3⟩
      · exact Option.isSome_iff_exists.2 ⟨_, info3⟩⟩⟩
  · exact ⟨Tryz.t31, _, _, info31, Tryz.underlying31, rfl, rfl, rfl, rfl, rfl, by simp [oneCell], rfl⟩
  · exact ⟨Tryz.t32, _, _, info32, Tryz.underlying32, rfl, rfl, rfl, rfl, rfl, by simp [oneCell], rfl⟩
  · exact ⟨Tryz.t50, _, _, info50, Tryz.underlying50, rfl, rfl, rfl, rfl, rfl, by simp [oneCell], rfl⟩
  · exact ⟨Tryz.t64, _, _, info64, Tryz.underlying64, rfl, rfl, rfl, rfl, rfl, by simp [oneCell], rfl⟩
  · exact ⟨Tryz.t74, _, _, info74, Tryz.underlying74, rfl, rfl, rfl, rfl, rfl, by simp [oneCell], trivial⟩
  · exact ⟨Tryz.t77, _, _, info77, Tryz.underlying77, rfl, rfl, rfl, rfl, rfl, by simp [oneCell], ⟨_, rfl⟩⟩
  · exact ⟨Tryz.t80, _, _, info80, Tryz.underlying80, rfl, rfl, rfl, rfl, rfl, by simp [oneCell], rfl⟩
theorem base_eqs : ∀ T us vs b, (match plains.lookup T with | some ts => eqLits ts us vs | none => none) = some b → ∀ w, (binOp .eql T (.agg us.toArray) (.agg vs.toArray)).run Tryz.prog w = .ok (.bool b) w ∧ (binOp .neq T (.agg us.toArray) (.agg vs.toArray)).run Tryz.prog w = .ok (.bool (!b)) w ∧
    ∀ op x y, (eqGuard op T x y (.agg us.toArray) (.agg vs.toArray)).run Tryz.prog w = .ok () w := by
  intro T us vs b h w
  split at h
  · rename_i ts hl
    have hl := mem_of_lookup _ _ _ hl
    simp only [plains, List.mem_cons, List.not_mem_nil, or_false, Prod.mk.injEq] at hl
    rcases hl with ⟨rfl, rfl⟩
    · refine eqs_struct _ _ Tryz.underlying30 (by kernel_rfl) (by kernel_rfl) rfl ?_ h w
      intro j f t hj ht
      rcases j with _ | j
      · simp at hj ht; subst hj ht; exact ⟨rfl, by decide, _, Tryz.underlying3, rfl⟩
      rcases j with _ | j
      · simp at hj ht; subst hj ht; exact ⟨rfl, by decide, _, Tryz.underlying3, rfl⟩
      simp at hj
  · cases h
theorem base_ok : CxOK Tryz.prog base := ⟨base_ti, fun T x => by rw [show szOf base T = _ from (tab_size codecs infos rfl T).symm]; exact DT.len _ x, fun T x c h => by have := DT.cell _ _ c h; revert this; cases c <;> exact id, fun T cs x h F w us hr => DT.ok _ base F w us cs x h hr, base_eqs, inv_stable⟩
def base0 : Cx ty := { base with dr := false }
theorem base0_ok : CxOK Tryz.prog base0 := CxOK.cg (cx := base) (cx' := base0) ⟨rfl, rfl, rfl, rfl, rfl, rfl⟩ base_ok
theorem draws : Tryz.prog.follows .mixedOrders = true := by kernel_rfl
end Go.Proofs.YteopikhooiallaaGreatDoor
/- What is read of an argument, as typed data. -/
set_option autoImplicit false
set_option linter.unusedVariables false
namespace Go.Proofs.YteopikhooiallaaGreatDoor
open Go Go.Ab
def wf3 (x : Int) : Prop := (Lit.int .i64 x).wf = true
def wf4 (x : Bool) : Prop := True
def wf9 (x : ByteArray) : Prop := ByteArray.size x ≤ maxLen
def wf30 (x : RowID) : Prop := wf3 x.Table ∧ wf3 x.Seq
def wf31 (x : List RowID) : Prop := (∀ y ∈ x, wf30 y) ∧ List.length x ≤ maxLen
def wf22 (x : List (List RowID)) : Prop := (∀ y ∈ x, wf31 y) ∧ List.length x ≤ maxLen
def wf50 (x : List Int) : Prop := (∀ y ∈ x, wf3 y) ∧ List.length x ≤ maxLen
def wf64 (x : List ByteArray) : Prop := (∀ y ∈ x, wf9 y) ∧ List.length x ≤ maxLen
def wf (T : Nat) : ty T → Prop := match T with
  | 3 => wf3
  | 4 => wf4
  | 9 => wf9
  | 22 => wf22
  | 30 => wf30
  | 31 => wf31
  | 50 => wf50
  | 64 => wf64
  | _ => fun _ => True
theorem reads3 : Reads Tryz.prog base wf 3 := reads_int Tryz.underlying3 (fun n => n) (fun _ => rfl) (fun _ h => h)
theorem reads4 : Reads Tryz.prog base wf 4 := reads_bool Tryz.underlying4 (fun n => n) (fun _ => rfl) (fun _ => trivial)
theorem reads9 : Reads Tryz.prog base wf 9 := reads_str Tryz.underlying9 (fun n => n) (fun _ => rfl) (fun _ h => h)
theorem reads30 : Reads Tryz.prog base wf 30 := by
  intro H en w sp held fuel cs y h
  obtain ⟨xs, n, _, _, hl, hlen, hf⟩ := DataW.trod_struct Tryz.underlying30 h
  obtain ⟨x0, h0, w0⟩ := field_reads (off := 0) reads3 (by kernel_rfl) hlen hf 0 _ rfl rfl rfl
  obtain ⟨x1, h1, w1⟩ := field_reads (off := 1) reads3 (by kernel_rfl) hlen hf 1 _ rfl rfl rfl
  have hl : cs.length = 2 := hl.trans (by kernel_rfl)
  have := all2_chunk h0 (all2_end h1 hl)
  exact ⟨(⟨x0, x1⟩ : RowID), this, ⟨w0, w1⟩⟩
theorem reads31 : Reads Tryz.prog base wf 31 := reads_slice base_ok Tryz.underlying31 (by kernel_rfl) (by decide) (fun l => l) (fun _ => rfl) reads30 (fun _ h h2 => ⟨h, h2⟩)
theorem reads22 : Reads Tryz.prog base wf 22 := reads_slice base_ok Tryz.underlying22 (by kernel_rfl) (by decide) (fun l => l) (fun _ => rfl) reads31 (fun _ h h2 => ⟨h, h2⟩)
theorem reads50 : Reads Tryz.prog base wf 50 := reads_slice base_ok Tryz.underlying50 (by kernel_rfl) (by decide) (fun l => l) (fun _ => rfl) reads3 (fun _ h h2 => ⟨h, h2⟩)
theorem reads64 : Reads Tryz.prog base wf 64 := reads_slice base_ok Tryz.underlying64 (by kernel_rfl) (by decide) (fun l => l) (fun _ => rfl) reads9 (fun _ h h2 => ⟨h, h2⟩)
end Go.Proofs.YteopikhooiallaaGreatDoor
/- A world in which the row's condition holds; what the program's rows share. -/
set_option autoImplicit false
set_option maxRecDepth 1000000
set_option linter.unusedVariables false
namespace Go.Proofs.YteopikhooiallaaGreatDoor
open Go Go.Ab Go.Lib
theorem own : ownKnob Tryz.prog.godebug = none := by kernel_rfl
theorem laidOut : laidOutB Tryz.prog = true := by kernel_rfl
def litOf {H : Type} : DataW H → Value
  | .lit (.int k n) => .int k n
  | .lit (.bool b) => .bool b
  | .lit (.string s) => .string ⟨s.toArray⟩
  | _ => undef
def cellsOf {H : Type} : DataW H → Array Value
  | .agg ds => (ds.map litOf).toArray
  | d => #[litOf d]
def layAt (h : Array Obj) (g : Nat) (cs : Array Value) : Array Obj := h.modify g fun
  | .cells _ t fr => .cells cs t fr
  | o => o
noncomputable def low : Nat := (World.holding Tryz.prog default ⟨#[], #[], []⟩).heap.size
noncomputable def laidWorld (os : Os) : World :=
  let w0 := World.holding Tryz.prog os ⟨#[.cells #[.string ⟨#[118, 97, 108, 117, 101, 32, 111, 117, 116, 32, 111, 102, 32, 114, 97, 110, 103, 101]⟩] 156, .cells #[.string ⟨#[105, 110, 118, 97, 108, 105, 100, 32, 115, 121, 110, 116, 97, 120]⟩] 156], #[], []⟩
  { w0 with heap := layAt (layAt (layAt (layAt (layAt (w0.heap) 4 (cellsOf (H := Unit) Rows.laid_math_bits_deBruijn32tab)) 5 (cellsOf (H := Unit) Rows.laid_math_bits_deBruijn64tab)) 3 (cellsOf (H := Unit) Rows.laid_internal_strconv_uint64pow10)) 2 #[.iface 154 (.pointer (some ⟨low + 0, 0, none⟩))]) 1 #[.iface 154 (.pointer (some ⟨low + 1, 0, none⟩))] }
def laidAll : List (String × DataW Unit) := [("math/bits.deBruijn32tab", Rows.laid_math_bits_deBruijn32tab), ("math/bits.deBruijn64tab", Rows.laid_math_bits_deBruijn64tab), ("internal/strconv.uint64pow10", Rows.laid_internal_strconv_uint64pow10), ("strconv.ErrRange", Rows.laid_strconv_ErrRange), ("strconv.ErrSyntax", Rows.laid_strconv_ErrSyntax)]
theorem laidWorld_met (os : Os) (args : Array Value) : laidMetH Tryz.prog laidAll ((laidWorld os).forCall (fun _ _ => 0) ⟨#[], args, []⟩).memory :=
  laidMetH_of_parts (laidMet_of_run3 8 (by kernel_rfl) (by kernel_rfl) (by kernel_rfl)) (by kernel_rfl)
theorem star : "*" ++ "errors.errorString" = "*errors.errorString" := by decide
theorem rowPT (u : TypeId) (h : Tryz.prog.typeName? 3 u = some "*errors.errorString") : u = 154 :=
  typeName_ptr_named (nm := "errors.errorString") (by rw [star]; kernel_rfl) (by kernel_rfl) (by decide) u (by rw [star]; exact h)
theorem laidPlain {w : World} (h : laidMetH Tryz.prog laidAll w) : laidMet Tryz.prog laidAll w := by
  unfold laidMetH at h
  rw [show (laidAll.filter fun x => x.2.handleName?.isSome) = [] by kernel_rfl] at h
  exact h
theorem invMet (w : World) (hsh : w.ShapedOpen Tryz.prog) (h : laidMetH Tryz.prog laidAll w) : base.inv w ∧ base.ng ≤ w.heap.size := by
  have h := laidPlain h
  have h1 : TabIs Tryz.prog w "internal/strconv.uint64pow10" .u64 pow10Tab :=
    tabIs_of_head (g := 3) (by kernel_rfl) (by kernel_rfl) Tryz.underlying149 Tryz.underlying98 (by kernel_rfl) (by kernel_rfl) h.tail.tail
  obtain ⟨a1, _, h2, _⟩ := laid_sentinel (g := 2) h.tail.tail.tail (by kernel_rfl) (by kernel_rfl) Tryz.underlying77 rowPT Tryz.underlying154 Tryz.underlying156 rfl rfl Tryz.underlying9 (by kernel_rfl) (by kernel_rfl)
  obtain ⟨a2, _, h3, _⟩ := laid_sentinel (g := 1) h.tail.tail.tail.tail (by kernel_rfl) (by kernel_rfl) Tryz.underlying77 rowPT Tryz.underlying154 Tryz.underlying156 rfl rfl Tryz.underlying9 (by kernel_rfl) (by kernel_rfl)
  have h4 := cell_of_shapedOpen_int (g := 0) (t := 3) (zero := #[.int .i64 0]) hsh (of_decide_eq_true (by kernel_rfl)) (by kernel_rfl) rfl (by kernel_rfl) (by kernel_rfl) Tryz.underlying3
  obtain ⟨ps, ⟨g', t', cs, fuel, p, q, hg', _, hvar, _⟩, _⟩ := h.tail
  refine ⟨⟨h1, h4, ⟨_, _, h3⟩, ⟨_, _, h2⟩⟩, ?_⟩
  unfold World.var? at hvar
  rw [show Tryz.prog.globalNamed "math/bits.deBruijn64tab" = some 5 by kernel_rfl] at hvar
  simp only [Option.bind_some] at hvar
  show 6 ≤ w.heap.size
  cases hh : w.heap[5]? with
  | none => rw [hh] at hvar; cases hvar
  | some o => exact (Array.getElem?_eq_some_iff.1 hh).1
end Go.Proofs.YteopikhooiallaaGreatDoor
/-
  DERIVED: THE SHELF's CONTRACTS AT THIS DUMP, IN PLAIN WORDS (tools/lay-plain.mjs out of 'TryzShelf.lean', which tools/lay-shelf.mjs wrote): THE SAME DECLARATIONS UNDER THE SAME NAMES: 'import', 'namespace', 'open', 'def', 'theorem' AND NOTHING ELSE: no command of the shelf's: FOR A HAND-IN. Each laying: the table of numbers ('.._ren') and one theorem, a field a fact of the dump's own or the kernel's comparison; each contract: ONE APPLICATION.
-/
namespace Go.Proofs
open Go.Shelf
def Tryz.sortRow_ren : Go.Shelf.Ren := ⟨fun | 6 => 51 | 15 => 54 | 14 => 72 | 28 => 81 | 29 => 82 | 20 => 94 | 21 => 95 | 22 => 96 | 23 => 97 | 24 => 98 | 25 => 99 | 26 => 100 | 27 => 101 | 46 => 125 | 47 => 103 | 48 => 104 | 49 => 126 | 50 => 127 | 57 => 138 | n => n, fun | 22 => 31 | 24 => 30 | 25 => 36 | 3 => 3 | 39 => 69 | 0 => 0 | 53 => 96 | 55 => 98 | 4 => 4 | 46 => 89 | 45 => 88 | 50 => 93 | 5 => 5 | 9 => 9 | 66 => 111 | 70 => 115 | 76 => 137 | 77 => 138 | n => n, fun | n => n⟩
theorem Tryz.sortRow : Go.Proofs.SlLaysF0.n6 Tryz.prog Tryz.sortRow_ren := {
  mixed := by kernel_rfl
  f6 := ⟨Tryz.f51.name, by decide, Tryz.func51.trans (congrArg some (by kernel_rfl))⟩
  f14 := ⟨Tryz.f72.name, by decide, Tryz.func72.trans (congrArg some (by kernel_rfl))⟩
  f15 := Tryz.func54.trans (congrArg some (by kernel_rfl))
  f20 := ⟨Tryz.f94.name, by decide, Tryz.func94.trans (congrArg some (by kernel_rfl))⟩
  f21 := ⟨Tryz.f95.name, by decide, Tryz.func95.trans (congrArg some (by kernel_rfl))⟩
  f22 := ⟨Tryz.f96.name, by decide, Tryz.func96.trans (congrArg some (by kernel_rfl))⟩
  f23 := ⟨Tryz.f97.name, by decide, Tryz.func97.trans (congrArg some (by kernel_rfl))⟩
  f24 := ⟨Tryz.f98.name, by decide, Tryz.func98.trans (congrArg some (by kernel_rfl))⟩
  f25 := ⟨Tryz.f99.name, by decide, Tryz.func99.trans (congrArg some (by kernel_rfl))⟩
  f26 := ⟨Tryz.f100.name, by decide, Tryz.func100.trans (congrArg some (by kernel_rfl))⟩
  f27 := ⟨Tryz.f101.name, by decide, Tryz.func101.trans (congrArg some (by kernel_rfl))⟩
  f28 := Tryz.func81.trans (congrArg some (by kernel_rfl))
  f29 := Tryz.func82.trans (congrArg some (by kernel_rfl))
  f46 := ⟨Tryz.f125.name, by decide, Tryz.func125.trans (congrArg some (by kernel_rfl))⟩
  f47 := Tryz.func103.trans (congrArg some (by kernel_rfl))
  f48 := Tryz.func104.trans (congrArg some (by kernel_rfl))
  f49 := ⟨Tryz.f126.name, by decide, Tryz.func126.trans (congrArg some (by kernel_rfl))⟩
  f50 := ⟨Tryz.f127.name, by decide, Tryz.func127.trans (congrArg some (by kernel_rfl))⟩
  f57 := ⟨Tryz.f138.name, by decide, Tryz.func138.trans (congrArg some (by kernel_rfl))⟩
  t0 := Tryz.underlying0
  a0 := Tryz.isAgg0
  z0 := Tryz.sizeOf0
  v0 := Tryz.zeroValue0
  t3 := Tryz.underlying3
  a3 := Tryz.isAgg3
  z3 := Tryz.sizeOf3
  v3 := Tryz.zeroValue3
  t4 := Tryz.underlying4
  a4 := Tryz.isAgg4
  z4 := Tryz.sizeOf4
  v4 := Tryz.zeroValue4
  t5 := Tryz.underlying5
  a5 := Tryz.isAgg5
  z5 := Tryz.sizeOf5
  v5 := Tryz.zeroValue5
  t9 := Tryz.underlying9
  a9 := Tryz.isAgg9
  z9 := Tryz.sizeOf9
  v9 := Tryz.zeroValue9
  t22 := Tryz.underlying31
  a22 := Tryz.isAgg31
  z22 := Tryz.sizeOf31
  v22 := Tryz.zeroValue31
  t25 := Tryz.underlying36
  a25 := Tryz.isAgg36
  z25 := Tryz.sizeOf36
  v25 := Tryz.zeroValue36
  t39 := Tryz.underlying69
  a39 := Tryz.isAgg69
  z39 := Tryz.sizeOf69
  v39 := Tryz.zeroValue69
  t45 := Tryz.underlying88
  a45 := Tryz.isAgg88
  z45 := Tryz.sizeOf88
  v45 := Tryz.zeroValue88
  t46 := Tryz.underlying89
  a46 := Tryz.isAgg89
  z46 := Tryz.sizeOf89
  v46 := Tryz.zeroValue89
  t50 := Tryz.underlying93
  a50 := Tryz.isAgg93
  z50 := Tryz.sizeOf93
  v50 := Tryz.zeroValue93
  t53 := Tryz.underlying96
  a53 := Tryz.isAgg96
  z53 := Tryz.sizeOf96
  v53 := Tryz.zeroValue96
  t55 := Tryz.underlying98
  a55 := Tryz.isAgg98
  z55 := Tryz.sizeOf98
  v55 := Tryz.zeroValue98
  t66 := Tryz.underlying111
  a66 := Tryz.isAgg111
  z66 := Tryz.sizeOf111
  v66 := Tryz.zeroValue111
  t70 := Tryz.underlying115
  a70 := Tryz.isAgg115
  z70 := Tryz.sizeOf115
  v70 := Tryz.zeroValue115
  t76 := Tryz.underlying137
  a76 := Tryz.isAgg137
  z76 := Tryz.sizeOf137
  v76 := Tryz.zeroValue137
  t77 := Tryz.underlying138
  a77 := Tryz.isAgg138
  z77 := Tryz.sizeOf138
  v77 := Tryz.zeroValue138 }
def Tryz.sortSet_ren : Go.Shelf.Ren := ⟨fun | 6 => 27 | 15 => 54 | 14 => 53 | 28 => 81 | 29 => 82 | 20 => 73 | 21 => 74 | 22 => 75 | 23 => 76 | 24 => 77 | 25 => 78 | 26 => 79 | 27 => 80 | 46 => 102 | 47 => 103 | 48 => 104 | 49 => 105 | 50 => 106 | 57 => 128 | n => n, fun | 22 => 22 | 24 => 31 | 25 => 44 | 3 => 3 | 39 => 69 | 0 => 0 | 53 => 96 | 55 => 98 | 4 => 4 | 46 => 89 | 45 => 88 | 50 => 93 | 5 => 5 | 9 => 9 | 66 => 111 | 70 => 115 | 76 => 137 | 77 => 138 | n => n, fun | n => n⟩
theorem Tryz.sortSet : Go.Proofs.SlLaysF.n6 Tryz.prog Tryz.sortSet_ren := {
  mixed := by kernel_rfl
  f6 := ⟨Tryz.f27.name, by decide, Tryz.func27.trans (congrArg some (by kernel_rfl))⟩
  f14 := ⟨Tryz.f53.name, by decide, Tryz.func53.trans (congrArg some (by kernel_rfl))⟩
  f15 := Tryz.func54.trans (congrArg some (by kernel_rfl))
  f20 := ⟨Tryz.f73.name, by decide, Tryz.func73.trans (congrArg some (by kernel_rfl))⟩
  f21 := ⟨Tryz.f74.name, by decide, Tryz.func74.trans (congrArg some (by kernel_rfl))⟩
  f22 := ⟨Tryz.f75.name, by decide, Tryz.func75.trans (congrArg some (by kernel_rfl))⟩
  f23 := ⟨Tryz.f76.name, by decide, Tryz.func76.trans (congrArg some (by kernel_rfl))⟩
  f24 := ⟨Tryz.f77.name, by decide, Tryz.func77.trans (congrArg some (by kernel_rfl))⟩
  f25 := ⟨Tryz.f78.name, by decide, Tryz.func78.trans (congrArg some (by kernel_rfl))⟩
  f26 := ⟨Tryz.f79.name, by decide, Tryz.func79.trans (congrArg some (by kernel_rfl))⟩
  f27 := ⟨Tryz.f80.name, by decide, Tryz.func80.trans (congrArg some (by kernel_rfl))⟩
  f28 := Tryz.func81.trans (congrArg some (by kernel_rfl))
  f29 := Tryz.func82.trans (congrArg some (by kernel_rfl))
  f46 := ⟨Tryz.f102.name, by decide, Tryz.func102.trans (congrArg some (by kernel_rfl))⟩
  f47 := Tryz.func103.trans (congrArg some (by kernel_rfl))
  f48 := Tryz.func104.trans (congrArg some (by kernel_rfl))
  f49 := ⟨Tryz.f105.name, by decide, Tryz.func105.trans (congrArg some (by kernel_rfl))⟩
  f50 := ⟨Tryz.f106.name, by decide, Tryz.func106.trans (congrArg some (by kernel_rfl))⟩
  f57 := ⟨Tryz.f128.name, by decide, Tryz.func128.trans (congrArg some (by kernel_rfl))⟩
  t0 := Tryz.underlying0
  a0 := Tryz.isAgg0
  z0 := Tryz.sizeOf0
  v0 := Tryz.zeroValue0
  t3 := Tryz.underlying3
  a3 := Tryz.isAgg3
  z3 := Tryz.sizeOf3
  v3 := Tryz.zeroValue3
  t4 := Tryz.underlying4
  a4 := Tryz.isAgg4
  z4 := Tryz.sizeOf4
  v4 := Tryz.zeroValue4
  t5 := Tryz.underlying5
  a5 := Tryz.isAgg5
  z5 := Tryz.sizeOf5
  v5 := Tryz.zeroValue5
  t9 := Tryz.underlying9
  a9 := Tryz.isAgg9
  z9 := Tryz.sizeOf9
  v9 := Tryz.zeroValue9
  t22 := Tryz.underlying22
  a22 := Tryz.isAgg22
  z22 := Tryz.sizeOf22
  v22 := Tryz.zeroValue22
  a24 := Tryz.isAgg31
  z24 := Tryz.sizeOf31
  t25 := Tryz.underlying44
  a25 := Tryz.isAgg44
  z25 := Tryz.sizeOf44
  v25 := Tryz.zeroValue44
  t39 := Tryz.underlying69
  a39 := Tryz.isAgg69
  z39 := Tryz.sizeOf69
  v39 := Tryz.zeroValue69
  t45 := Tryz.underlying88
  a45 := Tryz.isAgg88
  z45 := Tryz.sizeOf88
  v45 := Tryz.zeroValue88
  t46 := Tryz.underlying89
  a46 := Tryz.isAgg89
  z46 := Tryz.sizeOf89
  v46 := Tryz.zeroValue89
  t50 := Tryz.underlying93
  a50 := Tryz.isAgg93
  z50 := Tryz.sizeOf93
  v50 := Tryz.zeroValue93
  t53 := Tryz.underlying96
  a53 := Tryz.isAgg96
  z53 := Tryz.sizeOf96
  v53 := Tryz.zeroValue96
  t55 := Tryz.underlying98
  a55 := Tryz.isAgg98
  z55 := Tryz.sizeOf98
  v55 := Tryz.zeroValue98
  t66 := Tryz.underlying111
  a66 := Tryz.isAgg111
  z66 := Tryz.sizeOf111
  v66 := Tryz.zeroValue111
  t70 := Tryz.underlying115
  a70 := Tryz.isAgg115
  z70 := Tryz.sizeOf115
  v70 := Tryz.zeroValue115
  t76 := Tryz.underlying137
  a76 := Tryz.isAgg137
  z76 := Tryz.sizeOf137
  v76 := Tryz.zeroValue137
  t77 := Tryz.underlying138
  a77 := Tryz.isAgg138
  z77 := Tryz.sizeOf138
  v77 := Tryz.zeroValue138 }
def Tryz.lays103_ren : Go.Shelf.Ren := ⟨fun | 103 => 41 | 210 => 61 | 206 => 86 | n => n, fun | 9 => 9 | 4 => 4 | 24 => 53 | 3 => 3 | n => n, fun | n => n⟩
theorem Tryz.lays103 : Go.Proofs.Lays.n103 Tryz.prog Tryz.lays103_ren := {
  mixed := by kernel_rfl
  f103 := Tryz.func41.trans (congrArg some (by kernel_rfl))
  f206 := Tryz.func86.trans (congrArg some (by kernel_rfl))
  f210 := Tryz.func61.trans (congrArg some (by kernel_rfl))
  t3 := Tryz.underlying3
  a3 := Tryz.isAgg3
  z3 := Tryz.sizeOf3
  v3 := Tryz.zeroValue3
  t4 := Tryz.underlying4
  a4 := Tryz.isAgg4
  z4 := Tryz.sizeOf4
  v4 := Tryz.zeroValue4
  t9 := Tryz.underlying9
  a9 := Tryz.isAgg9
  z9 := Tryz.sizeOf9
  v9 := Tryz.zeroValue9
  t24 := Tryz.underlying53
  a24 := Tryz.isAgg53
  z24 := Tryz.sizeOf53
  v24 := Tryz.zeroValue53 }
def Tryz.lays145_ren : Go.Shelf.Ren := ⟨fun | 145 => 42 | 220 => 62 | 219 => 87 | 217 => 109 | 225 => 110 | 224 => 111 | 267 => 112 | 266 => 129 | 314 => 130 | n => n, fun | 9 => 9 | 4 => 4 | 59 => 55 | 3 => 3 | 5 => 5 | 46 => 69 | 146 => 140 | 51 => 96 | n => n, fun | 1 => 0 | n => n⟩
theorem Tryz.lays145 : Go.Proofs.Lays.n145 Tryz.prog Tryz.lays145_ren := {
  mixed := by kernel_rfl
  f145 := Tryz.func42.trans (congrArg some (by kernel_rfl))
  f217 := Tryz.func109.trans (congrArg some (by kernel_rfl))
  f219 := Tryz.func87.trans (congrArg some (by kernel_rfl))
  f220 := Tryz.func62.trans (congrArg some (by kernel_rfl))
  f224 := Tryz.func111.trans (congrArg some (by kernel_rfl))
  f225 := Tryz.func110.trans (congrArg some (by kernel_rfl))
  f266 := Tryz.func129.trans (congrArg some (by kernel_rfl))
  f267 := Tryz.func112.trans (congrArg some (by kernel_rfl))
  f314 := Tryz.func130.trans (congrArg some (by kernel_rfl))
  t3 := Tryz.underlying3
  a3 := Tryz.isAgg3
  z3 := Tryz.sizeOf3
  v3 := Tryz.zeroValue3
  t4 := Tryz.underlying4
  a4 := Tryz.isAgg4
  z4 := Tryz.sizeOf4
  v4 := Tryz.zeroValue4
  t5 := Tryz.underlying5
  a5 := Tryz.isAgg5
  z5 := Tryz.sizeOf5
  v5 := Tryz.zeroValue5
  t9 := Tryz.underlying9
  a9 := Tryz.isAgg9
  z9 := Tryz.sizeOf9
  v9 := Tryz.zeroValue9
  t46 := Tryz.underlying69
  a46 := Tryz.isAgg69
  z46 := Tryz.sizeOf69
  v46 := Tryz.zeroValue69
  t51 := Tryz.underlying96
  a51 := Tryz.isAgg96
  z51 := Tryz.sizeOf96
  v51 := Tryz.zeroValue96
  t59 := Tryz.underlying55
  a59 := Tryz.isAgg55
  z59 := Tryz.sizeOf55
  v59 := Tryz.zeroValue55
  t146 := Tryz.underlying140
  a146 := Tryz.isAgg140
  z146 := Tryz.sizeOf140
  v146 := Tryz.zeroValue140
  g1 := by kernel_rfl }
def Tryz.laysGw17_ren : Go.Shelf.Ren := ⟨fun | 17 => 64 | 15 => 88 | 20 => 113 | n => n, fun | 9 => 9 | 23 => 74 | 4 => 4 | 3 => 3 | 0 => 0 | 21 => 21 | n => n, fun | n => n⟩
theorem Tryz.laysGw17 : Go.Proofs.LaysGw.n17 Tryz.prog Tryz.laysGw17_ren := {
  mixed := by kernel_rfl
  f15 := Tryz.func88.trans (congrArg some (by kernel_rfl))
  f17 := Tryz.func64.trans (congrArg some (by kernel_rfl))
  f20 := Tryz.func113.trans (congrArg some (by kernel_rfl))
  t0 := Tryz.underlying0
  a0 := Tryz.isAgg0
  z0 := Tryz.sizeOf0
  v0 := Tryz.zeroValue0
  i0 := by kernel_rfl
  t3 := Tryz.underlying3
  a3 := Tryz.isAgg3
  z3 := Tryz.sizeOf3
  v3 := Tryz.zeroValue3
  i3 := by kernel_rfl
  t4 := Tryz.underlying4
  a4 := Tryz.isAgg4
  z4 := Tryz.sizeOf4
  v4 := Tryz.zeroValue4
  i4 := by kernel_rfl
  t9 := Tryz.underlying9
  a9 := Tryz.isAgg9
  z9 := Tryz.sizeOf9
  v9 := Tryz.zeroValue9
  i9 := by kernel_rfl
  t21 := Tryz.underlying21
  a21 := Tryz.isAgg21
  z21 := Tryz.sizeOf21
  v21 := Tryz.zeroValue21
  i21 := by kernel_rfl
  t23 := Tryz.underlying74
  a23 := Tryz.isAgg74
  z23 := Tryz.sizeOf74
  v23 := Tryz.zeroValue74
  i23 := by kernel_rfl }
def Tryz.laysC172_ren : Go.Shelf.Ren := ⟨fun | 172 => 66 | 244 => 89 | 245 => 90 | 247 => 114 | 279 => 115 | 280 => 116 | 281 => 117 | 282 => 118 | 287 => 131 | 316 => 132 | 171 => 47 | 205 => 133 | 321 => 139 | 322 => 140 | 243 => 68 | 246 => 91 | 283 => 119 | 284 => 120 | 285 => 121 | 286 => 122 | 129 => 82 | 317 => 134 | 318 => 135 | 319 => 136 | 320 => 137 | 337 => 141 | 338 => 142 | n => n, fun | 9 => 9 | 3 => 3 | 75 => 77 | 76 => 78 | 4 => 4 | 5 => 5 | 167 => 122 | 37 => 80 | 0 => 0 | 85 => 123 | 2 => 2 | 168 => 125 | 53 => 98 | 175 => 142 | 46 => 69 | 210 => 146 | 127 => 105 | 145 => 156 | 143 => 154 | 21 => 21 | 171 => 128 | 173 => 130 | 212 => 149 | 51 => 96 | 20 => 20 | 213 => 150 | 232 => 157 | 233 => 158 | 80 => 85 | n => n, fun | 15 => 1 | 16 => 2 | 17 => 3 | 18 => 4 | 19 => 5 | n => n⟩
theorem Tryz.laysC172 : Go.Proofs.LaysC.n172 Tryz.prog Tryz.laysC172_ren := {
  mixed := by kernel_rfl
  f129 := Tryz.func82.trans (congrArg some (by kernel_rfl))
  f171 := Tryz.func47.trans (congrArg some (by kernel_rfl))
  f172 := Tryz.func66.trans (congrArg some (by kernel_rfl))
  f205 := Tryz.func133.trans (congrArg some (by kernel_rfl))
  f243 := Tryz.func68.trans (congrArg some (by kernel_rfl))
  f244 := Tryz.func89.trans (congrArg some (by kernel_rfl))
  f245 := Tryz.func90.trans (congrArg some (by kernel_rfl))
  f246 := Tryz.func91.trans (congrArg some (by kernel_rfl))
  f247 := Tryz.func114.trans (congrArg some (by kernel_rfl))
  f279 := Tryz.func115.trans (congrArg some (by kernel_rfl))
  f280 := Tryz.func116.trans (congrArg some (by kernel_rfl))
  f281 := Tryz.func117.trans (congrArg some (by kernel_rfl))
  f282 := Tryz.func118.trans (congrArg some (by kernel_rfl))
  f283 := Tryz.func119.trans (congrArg some (by kernel_rfl))
  f284 := Tryz.func120.trans (congrArg some (by kernel_rfl))
  f285 := Tryz.func121.trans (congrArg some (by kernel_rfl))
  f286 := Tryz.func122.trans (congrArg some (by kernel_rfl))
  f287 := Tryz.func131.trans (congrArg some (by kernel_rfl))
  f316 := Tryz.func132.trans (congrArg some (by kernel_rfl))
  f317 := Tryz.func134.trans (congrArg some (by kernel_rfl))
  f318 := Tryz.func135.trans (congrArg some (by kernel_rfl))
  f319 := Tryz.func136.trans (congrArg some (by kernel_rfl))
  f320 := Tryz.func137.trans (congrArg some (by kernel_rfl))
  f321 := Tryz.func139.trans (congrArg some (by kernel_rfl))
  f322 := Tryz.func140.trans (congrArg some (by kernel_rfl))
  f337 := Tryz.func141.trans (congrArg some (by kernel_rfl))
  f338 := Tryz.func142.trans (congrArg some (by kernel_rfl))
  t0 := Tryz.underlying0
  a0 := Tryz.isAgg0
  z0 := Tryz.sizeOf0
  v0 := Tryz.zeroValue0
  t2 := Tryz.underlying2
  a2 := Tryz.isAgg2
  z2 := Tryz.sizeOf2
  v2 := Tryz.zeroValue2
  t3 := Tryz.underlying3
  a3 := Tryz.isAgg3
  z3 := Tryz.sizeOf3
  v3 := Tryz.zeroValue3
  t4 := Tryz.underlying4
  a4 := Tryz.isAgg4
  z4 := Tryz.sizeOf4
  v4 := Tryz.zeroValue4
  t5 := Tryz.underlying5
  a5 := Tryz.isAgg5
  z5 := Tryz.sizeOf5
  v5 := Tryz.zeroValue5
  t9 := Tryz.underlying9
  a9 := Tryz.isAgg9
  z9 := Tryz.sizeOf9
  v9 := Tryz.zeroValue9
  t20 := Tryz.underlying20
  a20 := Tryz.isAgg20
  z20 := Tryz.sizeOf20
  v20 := Tryz.zeroValue20
  t21 := Tryz.underlying21
  a21 := Tryz.isAgg21
  z21 := Tryz.sizeOf21
  v21 := Tryz.zeroValue21
  t37 := Tryz.underlying80
  a37 := Tryz.isAgg80
  z37 := Tryz.sizeOf80
  v37 := Tryz.zeroValue80
  t46 := Tryz.underlying69
  a46 := Tryz.isAgg69
  z46 := Tryz.sizeOf69
  v46 := Tryz.zeroValue69
  t51 := Tryz.underlying96
  a51 := Tryz.isAgg96
  z51 := Tryz.sizeOf96
  v51 := Tryz.zeroValue96
  t53 := Tryz.underlying98
  a53 := Tryz.isAgg98
  z53 := Tryz.sizeOf98
  v53 := Tryz.zeroValue98
  t75 := Tryz.underlying77
  a75 := Tryz.isAgg77
  z75 := Tryz.sizeOf77
  v75 := Tryz.zeroValue77
  t76 := Tryz.underlying78
  a76 := Tryz.isAgg78
  z76 := Tryz.sizeOf78
  v76 := Tryz.zeroValue78
  t85 := Tryz.underlying123
  a85 := Tryz.isAgg123
  z85 := Tryz.sizeOf123
  v85 := Tryz.zeroValue123
  t127 := Tryz.underlying105
  a127 := Tryz.isAgg105
  z127 := Tryz.sizeOf105
  v127 := Tryz.zeroValue105
  t143 := Tryz.underlying154
  a143 := Tryz.isAgg154
  z143 := Tryz.sizeOf154
  v143 := Tryz.zeroValue154
  t145 := Tryz.underlying156
  a145 := Tryz.isAgg156
  z145 := Tryz.sizeOf156
  v145 := Tryz.zeroValue156
  t167 := Tryz.underlying122
  a167 := Tryz.isAgg122
  z167 := Tryz.sizeOf122
  v167 := Tryz.zeroValue122
  t168 := Tryz.underlying125
  a168 := Tryz.isAgg125
  z168 := Tryz.sizeOf125
  v168 := Tryz.zeroValue125
  t171 := Tryz.underlying128
  a171 := Tryz.isAgg128
  z171 := Tryz.sizeOf128
  v171 := Tryz.zeroValue128
  t173 := Tryz.underlying130
  a173 := Tryz.isAgg130
  z173 := Tryz.sizeOf130
  v173 := Tryz.zeroValue130
  t175 := Tryz.underlying142
  a175 := Tryz.isAgg142
  z175 := Tryz.sizeOf142
  v175 := Tryz.zeroValue142
  t210 := Tryz.underlying146
  a210 := Tryz.isAgg146
  z210 := Tryz.sizeOf146
  v210 := Tryz.zeroValue146
  t212 := Tryz.underlying149
  a212 := Tryz.isAgg149
  z212 := Tryz.sizeOf149
  v212 := Tryz.zeroValue149
  t213 := Tryz.underlying150
  a213 := Tryz.isAgg150
  z213 := Tryz.sizeOf150
  t232 := Tryz.underlying157
  a232 := Tryz.isAgg157
  z232 := Tryz.sizeOf157
  v232 := Tryz.zeroValue157
  t233 := Tryz.underlying158
  a233 := Tryz.isAgg158
  z233 := Tryz.sizeOf158
  v233 := Tryz.zeroValue158
  g15 := by kernel_rfl
  g16 := by kernel_rfl
  g17 := by kernel_rfl
  g18 := by kernel_rfl
  g19 := by kernel_rfl
  t80 := Tryz.underlying85
  a80 := Tryz.isAgg85
  z80 := Tryz.sizeOf85
  v80 := Tryz.zeroValue85
  i0 := by kernel_rfl
  i2 := by kernel_rfl
  i3 := by kernel_rfl
  i4 := by kernel_rfl
  i5 := by kernel_rfl
  i9 := by kernel_rfl
  i20 := by kernel_rfl
  i21 := by kernel_rfl
  i37 := by kernel_rfl
  i46 := by kernel_rfl
  i51 := by kernel_rfl
  i53 := by kernel_rfl
  i75 := by kernel_rfl
  i76 := by kernel_rfl
  i80 := by kernel_rfl
  i85 := by kernel_rfl
  i127 := by kernel_rfl
  i143 := by kernel_rfl
  i145 := by kernel_rfl
  i167 := by kernel_rfl
  i168 := by kernel_rfl
  i171 := by kernel_rfl
  i173 := by kernel_rfl
  i175 := by kernel_rfl
  i210 := by kernel_rfl
  i212 := by kernel_rfl
  i232 := by kernel_rfl
  i233 := by kernel_rfl
  m15 := by kernel_rfl
  m16 := by kernel_rfl
  m17 := by kernel_rfl
  m18 := by kernel_rfl
  m19 := by kernel_rfl
  c0 := by kernel_rfl
  c2 := by kernel_rfl
  c3 := by kernel_rfl
  c4 := by kernel_rfl
  c5 := by kernel_rfl
  c9 := by kernel_rfl
  c20 := by kernel_rfl
  c21 := by kernel_rfl
  c37 := by kernel_rfl
  c46 := by kernel_rfl
  c51 := by kernel_rfl
  c53 := by kernel_rfl
  c75 := by kernel_rfl
  c76 := by kernel_rfl
  c80 := by kernel_rfl
  c85 := by kernel_rfl
  c127 := by kernel_rfl
  c143 := by kernel_rfl
  c145 := by kernel_rfl
  c167 := by kernel_rfl
  c168 := by kernel_rfl
  c171 := by kernel_rfl
  c173 := by kernel_rfl
  c175 := by kernel_rfl
  c210 := by kernel_rfl
  c212 := by kernel_rfl
  c213 := by kernel_rfl
  c232 := by kernel_rfl
  c233 := by kernel_rfl }
def Tryz.laysM171_ren : Go.Shelf.Ren := ⟨fun | 171 => 47 | 243 => 68 | 246 => 91 | 283 => 119 | 284 => 120 | 285 => 121 | 286 => 122 | 129 => 82 | 317 => 134 | 318 => 135 | 319 => 136 | 320 => 137 | 337 => 141 | 338 => 142 | n => n, fun | 3 => 3 | 9 => 9 | 2 => 2 | 4 => 4 | 171 => 128 | 0 => 0 | 53 => 98 | 37 => 80 | 5 => 5 | 173 => 130 | 212 => 149 | 51 => 96 | 20 => 20 | 213 => 150 | 46 => 69 | 232 => 157 | 233 => 158 | n => n, fun | 17 => 3 | 18 => 4 | 19 => 5 | n => n⟩
theorem Tryz.laysM171 : Go.Proofs.LaysM.n171 Tryz.prog Tryz.laysM171_ren := {
  mixed := by kernel_rfl
  f129 := Tryz.func82.trans (congrArg some (by kernel_rfl))
  f171 := Tryz.func47.trans (congrArg some (by kernel_rfl))
  f243 := Tryz.func68.trans (congrArg some (by kernel_rfl))
  f246 := Tryz.func91.trans (congrArg some (by kernel_rfl))
  f283 := Tryz.func119.trans (congrArg some (by kernel_rfl))
  f284 := Tryz.func120.trans (congrArg some (by kernel_rfl))
  f285 := Tryz.func121.trans (congrArg some (by kernel_rfl))
  f286 := Tryz.func122.trans (congrArg some (by kernel_rfl))
  f317 := Tryz.func134.trans (congrArg some (by kernel_rfl))
  f318 := Tryz.func135.trans (congrArg some (by kernel_rfl))
  f319 := Tryz.func136.trans (congrArg some (by kernel_rfl))
  f320 := Tryz.func137.trans (congrArg some (by kernel_rfl))
  f337 := Tryz.func141.trans (congrArg some (by kernel_rfl))
  f338 := Tryz.func142.trans (congrArg some (by kernel_rfl))
  t0 := Tryz.underlying0
  a0 := Tryz.isAgg0
  z0 := Tryz.sizeOf0
  v0 := Tryz.zeroValue0
  t2 := Tryz.underlying2
  a2 := Tryz.isAgg2
  z2 := Tryz.sizeOf2
  v2 := Tryz.zeroValue2
  t3 := Tryz.underlying3
  a3 := Tryz.isAgg3
  z3 := Tryz.sizeOf3
  v3 := Tryz.zeroValue3
  t4 := Tryz.underlying4
  a4 := Tryz.isAgg4
  z4 := Tryz.sizeOf4
  v4 := Tryz.zeroValue4
  t5 := Tryz.underlying5
  a5 := Tryz.isAgg5
  z5 := Tryz.sizeOf5
  v5 := Tryz.zeroValue5
  t9 := Tryz.underlying9
  a9 := Tryz.isAgg9
  z9 := Tryz.sizeOf9
  v9 := Tryz.zeroValue9
  t20 := Tryz.underlying20
  a20 := Tryz.isAgg20
  z20 := Tryz.sizeOf20
  v20 := Tryz.zeroValue20
  t37 := Tryz.underlying80
  a37 := Tryz.isAgg80
  z37 := Tryz.sizeOf80
  v37 := Tryz.zeroValue80
  t46 := Tryz.underlying69
  a46 := Tryz.isAgg69
  z46 := Tryz.sizeOf69
  v46 := Tryz.zeroValue69
  t51 := Tryz.underlying96
  a51 := Tryz.isAgg96
  z51 := Tryz.sizeOf96
  v51 := Tryz.zeroValue96
  t53 := Tryz.underlying98
  a53 := Tryz.isAgg98
  z53 := Tryz.sizeOf98
  v53 := Tryz.zeroValue98
  t171 := Tryz.underlying128
  a171 := Tryz.isAgg128
  z171 := Tryz.sizeOf128
  v171 := Tryz.zeroValue128
  t173 := Tryz.underlying130
  a173 := Tryz.isAgg130
  z173 := Tryz.sizeOf130
  v173 := Tryz.zeroValue130
  t212 := Tryz.underlying149
  a212 := Tryz.isAgg149
  z212 := Tryz.sizeOf149
  v212 := Tryz.zeroValue149
  t213 := Tryz.underlying150
  a213 := Tryz.isAgg150
  z213 := Tryz.sizeOf150
  t232 := Tryz.underlying157
  a232 := Tryz.isAgg157
  z232 := Tryz.sizeOf157
  v232 := Tryz.zeroValue157
  t233 := Tryz.underlying158
  a233 := Tryz.isAgg158
  z233 := Tryz.sizeOf158
  v233 := Tryz.zeroValue158
  g17 := by kernel_rfl
  g18 := by kernel_rfl
  g19 := by kernel_rfl
  i0 := by kernel_rfl
  i2 := by kernel_rfl
  i3 := by kernel_rfl
  i4 := by kernel_rfl
  i5 := by kernel_rfl
  i9 := by kernel_rfl
  i20 := by kernel_rfl
  i37 := by kernel_rfl
  i46 := by kernel_rfl
  i51 := by kernel_rfl
  i53 := by kernel_rfl
  i171 := by kernel_rfl
  i173 := by kernel_rfl
  i212 := by kernel_rfl
  i232 := by kernel_rfl
  i233 := by kernel_rfl
  m17 := by kernel_rfl
  m18 := by kernel_rfl
  m19 := by kernel_rfl }
def Tryz.lays156_ren : Go.Shelf.Ren := ⟨fun | 156 => 49 | 165 => 69 | 166 => 70 | 169 => 71 | 240 => 92 | 241 => 93 | 276 => 123 | 277 => 124 | n => n, fun | 31 => 64 | 9 => 9 | 3 => 3 | 4 => 4 | 0 => 0 | 20 => 20 | 72 => 83 | 76 => 78 | 70 => 81 | 37 => 80 | 75 => 77 | 127 => 105 | 164 => 132 | 5 => 5 | 80 => 85 | n => n, fun | n => n⟩
theorem Tryz.lays156 : Go.Proofs.Lays.n156 Tryz.prog Tryz.lays156_ren := {
  mixed := by kernel_rfl
  f156 := Tryz.func49.trans (congrArg some (by kernel_rfl))
  f165 := Tryz.func69.trans (congrArg some (by kernel_rfl))
  f166 := Tryz.func70.trans (congrArg some (by kernel_rfl))
  f169 := Tryz.func71.trans (congrArg some (by kernel_rfl))
  f240 := Tryz.func92.trans (congrArg some (by kernel_rfl))
  f241 := Tryz.func93.trans (congrArg some (by kernel_rfl))
  f276 := Tryz.func123.trans (congrArg some (by kernel_rfl))
  f277 := Tryz.func124.trans (congrArg some (by kernel_rfl))
  t0 := Tryz.underlying0
  a0 := Tryz.isAgg0
  z0 := Tryz.sizeOf0
  v0 := Tryz.zeroValue0
  t3 := Tryz.underlying3
  a3 := Tryz.isAgg3
  z3 := Tryz.sizeOf3
  v3 := Tryz.zeroValue3
  t4 := Tryz.underlying4
  a4 := Tryz.isAgg4
  z4 := Tryz.sizeOf4
  v4 := Tryz.zeroValue4
  t9 := Tryz.underlying9
  a9 := Tryz.isAgg9
  z9 := Tryz.sizeOf9
  v9 := Tryz.zeroValue9
  t20 := Tryz.underlying20
  a20 := Tryz.isAgg20
  z20 := Tryz.sizeOf20
  v20 := Tryz.zeroValue20
  t31 := Tryz.underlying64
  a31 := Tryz.isAgg64
  z31 := Tryz.sizeOf64
  v31 := Tryz.zeroValue64
  t37 := Tryz.underlying80
  a37 := Tryz.isAgg80
  z37 := Tryz.sizeOf80
  v37 := Tryz.zeroValue80
  t70 := Tryz.underlying81
  a70 := Tryz.isAgg81
  z70 := Tryz.sizeOf81
  v70 := Tryz.zeroValue81
  t72 := Tryz.underlying83
  a72 := Tryz.isAgg83
  z72 := Tryz.sizeOf83
  v72 := Tryz.zeroValue83
  t75 := Tryz.underlying77
  a75 := Tryz.isAgg77
  z75 := Tryz.sizeOf77
  v75 := Tryz.zeroValue77
  t76 := Tryz.underlying78
  a76 := Tryz.isAgg78
  z76 := Tryz.sizeOf78
  v76 := Tryz.zeroValue78
  t127 := Tryz.underlying105
  a127 := Tryz.isAgg105
  z127 := Tryz.sizeOf105
  v127 := Tryz.zeroValue105
  t164 := Tryz.underlying132
  a164 := Tryz.isAgg132
  z164 := Tryz.sizeOf132
  v164 := Tryz.zeroValue132 }
theorem Tryz.Builder_Extra_156 : Builder.Extra Tryz.prog Tryz.lays156_ren := {
  sizeBuilder := by kernel_rfl
  liesBuilder := by kernel_rfl
  t5 := Tryz.underlying5
  a5 := Tryz.isAgg5
  z5 := Tryz.sizeOf5
  v5 := Tryz.zeroValue5
  infoByte := by kernel_rfl
  cellsByte := by kernel_rfl
  sizeByte := by kernel_rfl
  neB5 := by decide }
end Go.Proofs
/- Functions of the program as plain functions, with their contracts. Printed by program. -/
set_option autoImplicit false
set_option linter.unusedVariables false
set_option linter.unusedSimpArgs false
namespace Go.Proofs.YteopikhooiallaaGreatDoor
open Go Go.Ab
/-! ### strconv.Itoa -/
noncomputable def strconv_Itoa (x : Int) : Bool × ByteArray := itoaF x
noncomputable def strconv_Itoa_spec : Ab.Spec ty := mkSpec (cx := base) (aCons (aPure (vInt .i64)) aNil) fun x => ((strconv_Itoa x.1).1, ⟨[.pure (.lit (.string (strconv_Itoa x.1).2))], []⟩)
theorem strconv_Itoa_sound : Sound Tryz.prog base 47 strconv_Itoa_spec := itoa_sound base_ok Go.Proofs.Tryz.laysM171 Tryz.call47 (fun _ h => h.1)
end Go.Proofs.YteopikhooiallaaGreatDoor
/- Functions of the program as plain functions, with their contracts. Printed by program. -/
set_option autoImplicit false
set_option linter.unusedVariables false
set_option linter.unusedSimpArgs false
namespace Go.Proofs.YteopikhooiallaaGreatDoor
open Go Go.Ab
/-! ### lineage/rowset.Valid -/
noncomputable def rowset_Valid_cx : Cx ty := { base with nt := 11, spec := fun g => List.lookup g [], io := fun g => (List.lookup g []).getD [], head := fun i => (List.lookup i []).getD [], out := outOf [], loops := fun i => List.lookup i [] }
noncomputable def rowset_Valid (id : RowID) : Bool × Bool := bif decide (id.Table ≥ (1 : Int)) then (true, decide (id.Seq ≥ (1 : Int))) else (true, false)
noncomputable def rowset_Valid_res (r : Bool) : ARes ty := ⟨[.pure (.lit (.bool r))], []⟩
theorem rowset_Valid_run (id : RowID) : runFn rowset_Valid_cx Tryz.f17 (body Tryz.f17) ⟨[.pure], []⟩ [.pure (.agg (base.enc 30 id))] = out (fun r => some (rowset_Valid_res r)) (rowset_Valid id) := by
  have h : runFn rowset_Valid_cx Tryz.f17 (body Tryz.f17) ⟨[.pure], []⟩ [.pure (.agg (base.enc 30 id))] = bif decide (id.Table ≥ (1 : Int)) then some ⟨[.pure (.lit (.bool (decide (id.Seq ≥ (1 : Int)))))], []⟩ else some ⟨[.pure (.lit (.bool false))], []⟩ := by kernel_rfl
  rw [rowset_Valid]
  exact h.trans (out_ite (rfl) (rfl))
noncomputable def rowset_Valid_A : AL base (RowID × Unit) := aCons (aPure (vAgg 30)) aNil
noncomputable def rowset_Valid_spec : Ab.Spec ty := mkSpec rowset_Valid_A fun x => ((rowset_Valid x.1).1, rowset_Valid_res (rowset_Valid x.1).2)
theorem rowset_Valid_sound : Sound Tryz.prog base 17 rowset_Valid_spec :=
  sound_of_run (cx' := rowset_Valid_cx) draws base_ok ⟨⟨rfl, rfl, rfl, rfl, rfl, rfl⟩, rfl⟩ (spec_of [] trivial) Tryz.call17 Tryz.func17 (c := body Tryz.f17) (by kernel_rfl) (loopsOK_of (l := []) (by kernel_rfl) trivial) (sg := ⟨[.pure], []⟩) (A := rowset_Valid_A) (res := rowset_Valid_res) (F := fun x => rowset_Valid x.1) (fun x => rowset_Valid_run x.1) (fun _ => by kernel_rfl)
end Go.Proofs.YteopikhooiallaaGreatDoor
/- Functions of the program as plain functions, with their contracts. Printed by program. -/
set_option autoImplicit false
set_option linter.unusedVariables false
set_option linter.unusedSimpArgs false
namespace Go.Proofs.YteopikhooiallaaGreatDoor
open Go Go.Ab
/-! ### lineage/rowset.Format -/
noncomputable def rowset_Format_cx : Cx ty := { base with nt := 15, spec := fun g => List.lookup g [(17, rowset_Valid_spec), (47, strconv_Itoa_spec)], io := fun g => (List.lookup g []).getD [], head := fun i => (List.lookup i []).getD [], out := outOf [], loops := fun i => List.lookup i [] }
noncomputable def rowset_Format (id : RowID) : Bool × ByteArray := bnd (rowset_Valid id) (fun r2 => bif !r2 then (true, ByteArray.mk #[]) else bnd (strconv_Itoa id.Table) (fun r1 => bif decide ((ByteArray.mk #[(116 : UInt8)]).size + r1.size ≤ (9223372036854775807 : Nat)) then bif decide ((ByteArray.mk #[(116 : UInt8)] ++ r1).size + (ByteArray.mk #[(46 : UInt8)]).size ≤ (9223372036854775807 : Nat)) then bnd (strconv_Itoa id.Seq) (fun r0 => bif decide ((ByteArray.mk #[(116 : UInt8)] ++ r1 ++ ByteArray.mk #[(46 : UInt8)]).size + r0.size ≤ (9223372036854775807 : Nat)) then (true, ByteArray.mk #[(116 : UInt8)] ++ r1 ++ ByteArray.mk #[(46 : UInt8)] ++ r0) else (false, default)) (false, default) else (false, default) else (false, default)) (false, default)) (false, default)
noncomputable def rowset_Format_res (r : ByteArray) : ARes ty := ⟨[.pure (.lit (.string r))], []⟩
theorem rowset_Format_run (id : RowID) : runFn rowset_Format_cx Tryz.f21 (body Tryz.f21) ⟨[.pure], []⟩ [.pure (.agg (base.enc 30 id))] = out (fun r => some (rowset_Format_res r)) (rowset_Format id) := by
  have h : runFn rowset_Format_cx Tryz.f21 (body Tryz.f21) ⟨[.pure], []⟩ [.pure (.agg (base.enc 30 id))] = obnd (rowset_Valid id) (fun r5 => bif !r5 then some ⟨[.pure (.lit (.string (ByteArray.mk #[])))], []⟩ else obnd (strconv_Itoa id.Table) (fun r4 => bif decide ((ByteArray.mk #[(116 : UInt8)]).size + r4.size ≤ (9223372036854775807 : Nat)) then bif decide ((ByteArray.mk #[(116 : UInt8)] ++ r4).size + (ByteArray.mk #[(46 : UInt8)]).size ≤ (9223372036854775807 : Nat)) then obnd (strconv_Itoa id.Seq) (fun r3 => bif decide ((ByteArray.mk #[(116 : UInt8)] ++ r4 ++ ByteArray.mk #[(46 : UInt8)]).size + r3.size ≤ (9223372036854775807 : Nat)) then some ⟨[.pure (.lit (.string (ByteArray.mk #[(116 : UInt8)] ++ r4 ++ ByteArray.mk #[(46 : UInt8)] ++ r3)))], []⟩ else none) else none else none)) := by kernel_rfl
  rw [rowset_Format]
  exact h.trans (out_ite (out_ite (rfl) (out_ite (out_ite (out_ite (out_ite (out_ite (rfl) (rfl)) (rfl)) (rfl)) (rfl)) (rfl))) (rfl))
noncomputable def rowset_Format_A : AL base (RowID × Unit) := aCons (aPure (vAgg 30)) aNil
noncomputable def rowset_Format_spec : Ab.Spec ty := mkSpec rowset_Format_A fun x => ((rowset_Format x.1).1, rowset_Format_res (rowset_Format x.1).2)
theorem rowset_Format_sound : Sound Tryz.prog base 21 rowset_Format_spec :=
  sound_of_run (cx' := rowset_Format_cx) draws base_ok ⟨⟨rfl, rfl, rfl, rfl, rfl, rfl⟩, rfl⟩ (spec_of [(17, rowset_Valid_spec), (47, strconv_Itoa_spec)] ⟨(rowset_Valid_sound), (strconv_Itoa_sound), trivial⟩) Tryz.call21 Tryz.func21 (c := body Tryz.f21) (by kernel_rfl) (loopsOK_of (l := []) (by kernel_rfl) trivial) (sg := ⟨[.pure], []⟩) (A := rowset_Format_A) (res := rowset_Format_res) (F := fun x => rowset_Format x.1) (fun x => rowset_Format_run x.1) (fun _ => by kernel_rfl)
end Go.Proofs.YteopikhooiallaaGreatDoor
/- Functions of the program as plain functions, with their contracts. Printed by program. -/
set_option autoImplicit false
set_option linter.unusedVariables false
set_option linter.unusedSimpArgs false
namespace Go.Proofs.YteopikhooiallaaGreatDoor
open Go Go.Ab
/-! ### strings.Join -/
noncomputable def strings_Join (l : List ByteArray) (sep : ByteArray) : Bool × ByteArray := joinF l sep
noncomputable def strings_Join_spec : Ab.Spec ty := mkSpec (cx := base0) (aCons (aPure (vSl 9)) (aCons (aPure vStr) aNil)) fun x => ((strings_Join x.1 x.2.1).1, ⟨[.pure (.lit (.string (strings_Join x.1 x.2.1).2))], []⟩)
theorem strings_Join_sound : Sound Tryz.prog base0 49 strings_Join_spec := join_sound (T := 9) base0_ok rfl Go.Proofs.Tryz.lays156 Go.Proofs.Tryz.Builder_Extra_156 Tryz.call49 (fun s : ByteArray => s) (fun _ => rfl) strings_Join (fun l sep => congrArg (fun l => joinF l sep) (List.map_id' (α := ByteArray) l).symm)
end Go.Proofs.YteopikhooiallaaGreatDoor
/- Functions of the program as plain functions, with their contracts. Printed by program. -/
set_option autoImplicit false
set_option linter.unusedVariables false
set_option linter.unusedSimpArgs false
namespace Go.Proofs.YteopikhooiallaaGreatDoor
open Go Go.Ab
/-! ### cmp.isNaN[int] -/
noncomputable def cmp_isNaN_int_cx : Cx ty := { base with nt := 6, spec := fun g => List.lookup g [], io := fun g => (List.lookup g []).getD [], head := fun i => (List.lookup i []).getD [], out := outOf [], loops := fun i => List.lookup i [] }
noncomputable def cmp_isNaN_int (x_ : Int) : Bool × Bool := (true, x_ != x_)
noncomputable def cmp_isNaN_int_res (r : Bool) : ARes ty := ⟨[.pure (.lit (.bool r))], []⟩
theorem cmp_isNaN_int_run (x_ : Int) : runFn cmp_isNaN_int_cx Tryz.f67 (body Tryz.f67) ⟨[.pure], []⟩ [.pure (.lit (.int .i64 x_))] = out (fun r => some (cmp_isNaN_int_res r)) (cmp_isNaN_int x_) := by
  have h : runFn cmp_isNaN_int_cx Tryz.f67 (body Tryz.f67) ⟨[.pure], []⟩ [.pure (.lit (.int .i64 x_))] = some ⟨[.pure (.lit (.bool (x_ != x_)))], []⟩ := by kernel_rfl
  rw [cmp_isNaN_int]
  exact h.trans (rfl)
noncomputable def cmp_isNaN_int_A : AL base (Int × Unit) := aCons (aPure (vInt .i64)) aNil
noncomputable def cmp_isNaN_int_spec : Ab.Spec ty := mkSpec cmp_isNaN_int_A fun x => ((cmp_isNaN_int x.1).1, cmp_isNaN_int_res (cmp_isNaN_int x.1).2)
theorem cmp_isNaN_int_sound : Sound Tryz.prog base 67 cmp_isNaN_int_spec :=
  sound_of_run (cx' := cmp_isNaN_int_cx) draws base_ok ⟨⟨rfl, rfl, rfl, rfl, rfl, rfl⟩, rfl⟩ (spec_of [] trivial) Tryz.call67 Tryz.func67 (c := body Tryz.f67) (by kernel_rfl) (loopsOK_of (l := []) (by kernel_rfl) trivial) (sg := ⟨[.pure], []⟩) (A := cmp_isNaN_int_A) (res := cmp_isNaN_int_res) (F := fun x => cmp_isNaN_int x.1) (fun x => cmp_isNaN_int_run x.1) (fun _ => by kernel_rfl)
end Go.Proofs.YteopikhooiallaaGreatDoor
/- Functions of the program as plain functions, with their contracts. Printed by program. -/
set_option autoImplicit false
set_option linter.unusedVariables false
set_option linter.unusedSimpArgs false
namespace Go.Proofs.YteopikhooiallaaGreatDoor
open Go Go.Ab
/-! ### cmp.Compare[int] -/
noncomputable def cmp_Compare_int_cx : Cx ty := { base with nt := 20, spec := fun g => List.lookup g [(67, cmp_isNaN_int_spec)], io := fun g => (List.lookup g []).getD [], head := fun i => (List.lookup i []).getD [], out := outOf [], loops := fun i => List.lookup i [] }
noncomputable def cmp_Compare_int (x_ : Int) (y_ : Int) : Bool × Int := bif (cmp_isNaN_int x_).snd then bif (cmp_isNaN_int y_).snd then (true, (0 : Int)) else (true, (-1 : Int)) else bif (cmp_isNaN_int y_).snd then (true, (1 : Int)) else bif decide (x_ < y_) then (true, (-1 : Int)) else bif decide (x_ > y_) then (true, (1 : Int)) else (true, (0 : Int))
noncomputable def cmp_Compare_int_res (r : Int) : ARes ty := ⟨[.pure (.lit (.int .i64 r))], []⟩
theorem cmp_Compare_int_run (x_ : Int) (y_ : Int) : runFn cmp_Compare_int_cx Tryz.f46 (body Tryz.f46) ⟨[.pure], []⟩ [.pure (.lit (.int .i64 x_)), .pure (.lit (.int .i64 y_))] = out (fun r => some (cmp_Compare_int_res r)) (cmp_Compare_int x_ y_) := by
  have h : runFn cmp_Compare_int_cx Tryz.f46 (body Tryz.f46) ⟨[.pure], []⟩ [.pure (.lit (.int .i64 x_)), .pure (.lit (.int .i64 y_))] = bif (cmp_isNaN_int x_).snd then bif (cmp_isNaN_int y_).snd then some ⟨[.pure (.lit (.int .i64 (0 : Int)))], []⟩ else some ⟨[.pure (.lit (.int .i64 (-1 : Int)))], []⟩ else bif (cmp_isNaN_int y_).snd then some ⟨[.pure (.lit (.int .i64 (1 : Int)))], []⟩ else bif decide (x_ < y_) then some ⟨[.pure (.lit (.int .i64 (-1 : Int)))], []⟩ else bif decide (x_ > y_) then some ⟨[.pure (.lit (.int .i64 (1 : Int)))], []⟩ else some ⟨[.pure (.lit (.int .i64 (0 : Int)))], []⟩ := by kernel_rfl
  rw [cmp_Compare_int]
  exact h.trans (out_ite (out_ite (rfl) (rfl)) (out_ite (rfl) (out_ite (rfl) (out_ite (rfl) (rfl)))))
noncomputable def cmp_Compare_int_A : AL base (Int × Int × Unit) := aCons (aPure (vInt .i64)) (aCons (aPure (vInt .i64)) aNil)
noncomputable def cmp_Compare_int_spec : Ab.Spec ty := mkSpec cmp_Compare_int_A fun x => ((cmp_Compare_int x.1 x.2.1).1, cmp_Compare_int_res (cmp_Compare_int x.1 x.2.1).2)
theorem cmp_Compare_int_sound : Sound Tryz.prog base 46 cmp_Compare_int_spec :=
  sound_of_run (cx' := cmp_Compare_int_cx) draws base_ok ⟨⟨rfl, rfl, rfl, rfl, rfl, rfl⟩, rfl⟩ (spec_of [(67, cmp_isNaN_int_spec)] ⟨(cmp_isNaN_int_sound), trivial⟩) Tryz.call46 Tryz.func46 (c := body Tryz.f46) (by kernel_rfl) (loopsOK_of (l := []) (by kernel_rfl) trivial) (sg := ⟨[.pure], []⟩) (A := cmp_Compare_int_A) (res := cmp_Compare_int_res) (F := fun x => cmp_Compare_int x.1 x.2.1) (fun x => cmp_Compare_int_run x.1 x.2.1) (fun _ => by kernel_rfl)
end Go.Proofs.YteopikhooiallaaGreatDoor
/- Functions of the program as plain functions, with their contracts. Printed by program. -/
set_option autoImplicit false
set_option linter.unusedVariables false
set_option linter.unusedSimpArgs false
namespace Go.Proofs.YteopikhooiallaaGreatDoor
open Go Go.Ab
/-! ### cmp.Or[int] -/
noncomputable def cmp_Or_int_L3 : Nat → Int → List Int → Int → Int → Bool × (Int ⊕ Int)
  | 0, _, _, _, _ => (false, .inl default)
  | n + 1, zero, t6, t7, t8 => bif decide (t8 < t7) then bif decide ((0 : Int) ≤ t8) && decide (t8 < Int.ofNat t6.length) then bif t6.getD t8.toNat default != zero then (true, .inl (t6.getD t8.toNat default)) else cmp_Or_int_L3 n zero t6 t7 (IntKind.i64.wrap (t8 + (1 : Int))) else (false, .inl default) else (true, .inr zero)
noncomputable def cmp_Or_int_tr3 (r : Int ⊕ Int) : LTree ty := .ite (isL r) (.done .ret [.lit (.int .i64 (getL r))] []) (.done (.exit 0) [.lit (.int .i64 (getR r))] [])
noncomputable def cmp_Or_int_V3 : LL ty (Int × List Int × Int × Int × Unit) := llCons (lInt .i64) (llCons (lSl 3) (llCons (lInt .i64) (llCons (lInt .i64) llNil)))
noncomputable def cmp_Or_int_B3 : BL ty (Unit) := bNil
noncomputable def cmp_Or_int_sp3 : LSpec ty := mkLoop cmp_Or_int_V3 cmp_Or_int_B3 fun x y => ((cmp_Or_int_L3 (Int.toNat x.1 + x.2.1.length + Int.toNat x.2.2.1 + Int.toNat x.2.2.2.1 + 1) x.1 x.2.1 x.2.2.1 x.2.2.2.1).1, cmp_Or_int_tr3 (cmp_Or_int_L3 (Int.toNat x.1 + x.2.1.length + Int.toNat x.2.2.1 + Int.toNat x.2.2.2.1 + 1) x.1 x.2.1 x.2.2.1 x.2.2.2.1).2)
noncomputable def cmp_Or_int_cx : Cx ty := { base with nt := 18, spec := fun g => List.lookup g [], io := fun g => (List.lookup g []).getD [], head := fun i => (List.lookup i [(3, [(3, .keep), (6, .keep), (7, .keep), (8, .keep)])]).getD [], out := outOf [(3, 1, [(3, .keep)]), (3, 0, [(2, .keep)])], loops := fun i => List.lookup i [(3, cmp_Or_int_sp3)] }
theorem cmp_Or_int_round3 {R : Type} (H : List (AV ty) → List (Blk ty) → Option R) (K : Ex → List (AV ty) → List (Blk ty) → Option R) (zero : Int) (t6 : List Int) (t7 : Int) (t8 : Int) : roundK cmp_Or_int_cx (lp (body Tryz.f45) 0) H K [.lit (.int .i64 zero), .sl 3 t6, .lit (.int .i64 t7), .lit (.int .i64 t8)] [] = bif decide (t8 < t7) then bif decide ((0 : Int) ≤ t8) && decide (t8 < Int.ofNat t6.length) then bif t6.getD t8.toNat default != zero then K .ret [.lit (.int .i64 (t6.getD t8.toNat default))] [] else H [.lit (.int .i64 zero), .sl 3 t6, .lit (.int .i64 t7), .lit (.int .i64 (IntKind.i64.wrap (t8 + (1 : Int))))] [] else none else K (.exit 0) [.lit (.int .i64 zero)] [] := by kernel_rfl
theorem cmp_Or_int_loop3 (R : Type) (K : Ex → List (AV ty) → List (Blk ty) → Option R) : ∀ (n : Nat) (zero : Int) (t6 : List Int) (t7 : Int) (t8 : Int), loopI cmp_Or_int_cx (lp (body Tryz.f45) 0) K n [.lit (.int .i64 zero), .sl 3 t6, .lit (.int .i64 t7), .lit (.int .i64 t8)] [] = out (fun r => treeK K (cmp_Or_int_tr3 r)) (cmp_Or_int_L3 n zero t6 t7 t8)
  | 0, _, _, _, _ => rfl
  | n + 1, zero, t6, t7, t8 => by
    have ih := cmp_Or_int_loop3 R K n
    rw [cmp_Or_int_L3]
    exact (cmp_Or_int_round3 (loopI cmp_Or_int_cx (lp (body Tryz.f45) 0) K n) K zero t6 t7 t8).trans (out_ite (out_ite (out_ite (rfl) (ih zero t6 t7 (IntKind.i64.wrap (t8 + (1 : Int))))) (rfl)) (rfl))
theorem cmp_Or_int_to3 : LoopOK cmp_Or_int_cx (lp (body Tryz.f45) 0) := loopOK_of (id := 3) (sp := cmp_Or_int_sp3) (by kernel_rfl) (by kernel_rfl) (loopTo_of (V := cmp_Or_int_V3) (B := cmp_Or_int_B3) (L := fun n x y => cmp_Or_int_L3 n x.1 x.2.1 x.2.2.1 x.2.2.2.1) (tr := cmp_Or_int_tr3) (m := fun x y => Int.toNat x.1 + x.2.1.length + Int.toNat x.2.2.1 + Int.toNat x.2.2.2.1 + 1) fun R K n x y => cmp_Or_int_loop3 R K n x.1 x.2.1 x.2.2.1 x.2.2.2.1)
noncomputable def cmp_Or_int (vals : List Int) : Bool × Int := bnd (cmp_Or_int_L3 (Int.toNat (0 : Int) + vals.length + (Int.ofNat vals.length).toNat + Int.toNat (0 : Int) + (1 : Nat)) (0 : Int) vals (Int.ofNat vals.length) (0 : Int)) (fun r0 => bif isL r0 then (true, getL r0) else (true, getR r0)) (false, default)
noncomputable def cmp_Or_int_res (r : Int) : ARes ty := ⟨[.pure (.lit (.int .i64 r))], []⟩
theorem cmp_Or_int_run (vals : List Int) : runFn cmp_Or_int_cx Tryz.f45 (body Tryz.f45) ⟨[.pure], []⟩ [.pure (.sl 3 vals)] = out (fun r => some (cmp_Or_int_res r)) (cmp_Or_int vals) := by
  have h : runFn cmp_Or_int_cx Tryz.f45 (body Tryz.f45) ⟨[.pure], []⟩ [.pure (.sl 3 vals)] = obnd (cmp_Or_int_L3 (Int.toNat (0 : Int) + vals.length + (Int.ofNat vals.length).toNat + Int.toNat (0 : Int) + (1 : Nat)) (0 : Int) vals (Int.ofNat vals.length) (0 : Int)) (fun r1 => bif isL r1 then some ⟨[.pure (.lit (.int .i64 (getL r1)))], []⟩ else some ⟨[.pure (.lit (.int .i64 (getR r1)))], []⟩) := by kernel_rfl
  rw [cmp_Or_int]
  exact h.trans (out_ite (out_ite (rfl) (rfl)) (rfl))
noncomputable def cmp_Or_int_A : AL base (List Int × Unit) := aCons (aPure (vSl 3)) aNil
noncomputable def cmp_Or_int_spec : Ab.Spec ty := mkSpec cmp_Or_int_A fun x => ((cmp_Or_int x.1).1, cmp_Or_int_res (cmp_Or_int x.1).2)
theorem cmp_Or_int_sound : Sound Tryz.prog base 45 cmp_Or_int_spec :=
  sound_of_run (cx' := cmp_Or_int_cx) draws base_ok ⟨⟨rfl, rfl, rfl, rfl, rfl, rfl⟩, rfl⟩ (spec_of [] trivial) Tryz.call45 Tryz.func45 (c := body Tryz.f45) (by kernel_rfl) (loopsOK_of (l := [lp (body Tryz.f45) 0]) (by kernel_rfl) ⟨cmp_Or_int_to3, trivial⟩) (sg := ⟨[.pure], []⟩) (A := cmp_Or_int_A) (res := cmp_Or_int_res) (F := fun x => cmp_Or_int x.1) (fun x => cmp_Or_int_run x.1) (fun _ => by kernel_rfl)
end Go.Proofs.YteopikhooiallaaGreatDoor
/- Functions of the program as plain functions, with their contracts. Printed by program. -/
set_option autoImplicit false
set_option linter.unusedVariables false
set_option linter.unusedSimpArgs false
namespace Go.Proofs.YteopikhooiallaaGreatDoor
open Go Go.Ab
/-! ### lineage/rowset.Compare -/
noncomputable def rowset_Compare_cx : Cx ty := { base with nt := 17, spec := fun g => List.lookup g [(45, cmp_Or_int_spec), (46, cmp_Compare_int_spec)], io := fun g => (List.lookup g []).getD [], head := fun i => (List.lookup i []).getD [], out := outOf [], loops := fun i => List.lookup i [] }
noncomputable def rowset_Compare (a : RowID) (b : RowID) : Bool × Int := bnd (cmp_Compare_int a.Table b.Table) (fun r2 => bnd (cmp_Compare_int a.Seq b.Seq) (fun r1 => bnd (cmp_Or_int [r2, r1]) (fun r0 => (true, r0)) (false, default)) (false, default)) (false, default)
noncomputable def rowset_Compare_res (r : Int) : ARes ty := ⟨[.pure (.lit (.int .i64 r))], []⟩
theorem rowset_Compare_run (a : RowID) (b : RowID) : runFn rowset_Compare_cx Tryz.f19 (body Tryz.f19) ⟨[.pure], []⟩ [.pure (.agg (base.enc 30 a)), .pure (.agg (base.enc 30 b))] = out (fun r => some (rowset_Compare_res r)) (rowset_Compare a b) := by
  have h : runFn rowset_Compare_cx Tryz.f19 (body Tryz.f19) ⟨[.pure], []⟩ [.pure (.agg (base.enc 30 a)), .pure (.agg (base.enc 30 b))] = obnd (cmp_Compare_int a.Table b.Table) (fun r5 => obnd (cmp_Compare_int a.Seq b.Seq) (fun r4 => obnd (cmp_Or_int [r5, r4]) (fun r3 => some ⟨[.pure (.lit (.int .i64 (r3)))], []⟩))) := by kernel_rfl
  rw [rowset_Compare]
  exact h.trans (out_ite (out_ite (out_ite (rfl) (rfl)) (rfl)) (rfl))
noncomputable def rowset_Compare_A : AL base (RowID × RowID × Unit) := aCons (aPure (vAgg 30)) (aCons (aPure (vAgg 30)) aNil)
noncomputable def rowset_Compare_spec : Ab.Spec ty := mkSpec rowset_Compare_A fun x => ((rowset_Compare x.1 x.2.1).1, rowset_Compare_res (rowset_Compare x.1 x.2.1).2)
theorem rowset_Compare_sound : Sound Tryz.prog base 19 rowset_Compare_spec :=
  sound_of_run (cx' := rowset_Compare_cx) draws base_ok ⟨⟨rfl, rfl, rfl, rfl, rfl, rfl⟩, rfl⟩ (spec_of [(45, cmp_Or_int_spec), (46, cmp_Compare_int_spec)] ⟨(cmp_Or_int_sound), (cmp_Compare_int_sound), trivial⟩) Tryz.call19 Tryz.func19 (c := body Tryz.f19) (by kernel_rfl) (loopsOK_of (l := []) (by kernel_rfl) trivial) (sg := ⟨[.pure], []⟩) (A := rowset_Compare_A) (res := rowset_Compare_res) (F := fun x => rowset_Compare x.1 x.2.1) (fun x => rowset_Compare_run x.1 x.2.1) (fun _ => by kernel_rfl)
end Go.Proofs.YteopikhooiallaaGreatDoor
/- Functions of the program as plain functions, with their contracts. Printed by program. -/
set_option autoImplicit false
set_option linter.unusedVariables false
set_option linter.unusedSimpArgs false
namespace Go.Proofs.YteopikhooiallaaGreatDoor
open Go Go.Ab
/-! ### slices.Clone[[]lineage/api.RowID,lineage/api.RowID] -/
noncomputable def slices_Clone_Lapi_RowID_api_RowID_cx : Cx ty := { base with nt := 8 }
noncomputable def slices_Clone_Lapi_RowID_api_RowID (s : List RowID) : Bool × List RowID := (decide (s.length * 16 ≤ reach), s)
noncomputable def slices_Clone_Lapi_RowID_api_RowID_spec : Ab.Spec ty := mkSpec (cx := base) (aCons (aPure (vSl 30)) aNil) fun x => ((slices_Clone_Lapi_RowID_api_RowID x.1).1, ⟨[.own 30 (slices_Clone_Lapi_RowID_api_RowID x.1).2], []⟩)
theorem slices_Clone_Lapi_RowID_api_RowID_nil : runFn slices_Clone_Lapi_RowID_api_RowID_cx Tryz.f50 (body Tryz.f50) ⟨[.own 30], []⟩ [.pure (.lit (.slice none 0 0))] = some ⟨[.own 30 []], []⟩ := by kernel_rfl
theorem slices_Clone_Lapi_RowID_api_RowID_empty (p : Addr) (c : Nat) : runFn slices_Clone_Lapi_RowID_api_RowID_cx Tryz.f50 (body Tryz.f50) ⟨[.own 30], []⟩ [.pure (.lit (.slice (some p) 0 c))] = some ⟨[.own 30 []], []⟩ := by kernel_rfl
theorem slices_Clone_Lapi_RowID_api_RowID_cons (l : List RowID) : runFn slices_Clone_Lapi_RowID_api_RowID_cx Tryz.f50 (body Tryz.f50) ⟨[.own 30], []⟩ [.pure (.sl 30 l)] = bif !l.isEmpty then bif decide ((([] : List (ty 30)).length + l.length) * 16 ≤ reach) then some ⟨[.own 30 l], []⟩ else none else none := by kernel_rfl
theorem slices_Clone_Lapi_RowID_api_RowID_sound : Sound Tryz.prog base 50 slices_Clone_Lapi_RowID_api_RowID_spec :=
  clone_sound (cx' := slices_Clone_Lapi_RowID_api_RowID_cx) (bytes := 16) draws base_ok ⟨⟨rfl, rfl, rfl, rfl, rfl, rfl⟩, rfl⟩ (fun g s h => by cases h) Tryz.call50 Tryz.func50 (c := body Tryz.f50) (by kernel_rfl) (loopsOK_of (l := []) (by kernel_rfl) trivial) slices_Clone_Lapi_RowID_api_RowID_nil slices_Clone_Lapi_RowID_api_RowID_empty slices_Clone_Lapi_RowID_api_RowID_cons (by kernel_rfl)
end Go.Proofs.YteopikhooiallaaGreatDoor
/- Functions of the program as plain functions, with their contracts. Printed by program. -/
set_option autoImplicit false
set_option linter.unusedVariables false
set_option linter.unusedSimpArgs false
namespace Go.Proofs.YteopikhooiallaaGreatDoor
open Go Go.Ab
/-! ### slices.Compact[[]lineage/api.RowID,lineage/api.RowID] -/
noncomputable def slices_Compact_Lapi_RowID_api_RowID_L9 : Nat → Int → Nat → Nat → Int → List RowID → Bool × (Int × List RowID)
  | 0, _, _, _, _, _ => (false, default)
  | n + 1, k, s2_0, s2_1, k2, s => bif decide (k2 < Int.ofNat s2_1) then bif decide ((0 : Int) ≤ k2) && decide (k2 < Int.ofNat s2_1) then bif decide ((0 : Int) ≤ IntKind.i64.wrap (k2 - (1 : Int))) && decide (IntKind.i64.wrap (k2 - (1 : Int)) < Int.ofNat s2_1) then bif !((s.getD (s2_0 + k2.toNat) default).Table == (s.getD (s2_0 + (IntKind.i64.wrap (k2 - (1 : Int))).toNat) default).Table && ((s.getD (s2_0 + k2.toNat) default).Seq == (s.getD (s2_0 + (IntKind.i64.wrap (k2 - (1 : Int))).toNat) default).Seq && true)) then bif decide ((0 : Int) ≤ k2) && decide (k2 < Int.ofNat s2_1) then bif decide ((0 : Int) ≤ k) && decide (k < Int.ofNat s.length) then bif decide (k.toNat < s.length) then slices_Compact_Lapi_RowID_api_RowID_L9 n (IntKind.i64.wrap (k + (1 : Int))) s2_0 s2_1 (IntKind.i64.wrap (k2 + (1 : Int))) (s.set k.toNat (s.getD (s2_0 + k2.toNat) default)) else (false, default) else (false, default) else (false, default) else slices_Compact_Lapi_RowID_api_RowID_L9 n k s2_0 s2_1 (IntKind.i64.wrap (k2 + (1 : Int))) s else (false, default) else (false, default) else (true, (k, s))
noncomputable def slices_Compact_Lapi_RowID_api_RowID_tr9 (r : Int × List RowID) : LTree ty := .done (.exit 2) [.own 244, .lit (.int .i64 r.1)] [.arr 30 r.2 false]
noncomputable def slices_Compact_Lapi_RowID_api_RowID_V9 : LL ty (Unit × Int × (Nat × Nat) × Int × Unit) := llCons (lOwn 244) (llCons (lInt .i64) (llCons (lSub 244) (llCons (lInt .i64) llNil)))
noncomputable def slices_Compact_Lapi_RowID_api_RowID_B9 : BL ty (List RowID × Unit) := bArr 30 false (bNil)
noncomputable def slices_Compact_Lapi_RowID_api_RowID_sp9 : LSpec ty := mkLoop slices_Compact_Lapi_RowID_api_RowID_V9 slices_Compact_Lapi_RowID_api_RowID_B9 fun x y => ((slices_Compact_Lapi_RowID_api_RowID_L9 (Int.toNat x.2.1 + x.2.2.1.1 + x.2.2.1.2 + Int.toNat x.2.2.2.1 + y.1.length + 1) x.2.1 x.2.2.1.1 x.2.2.1.2 x.2.2.2.1 y.1).1, slices_Compact_Lapi_RowID_api_RowID_tr9 (slices_Compact_Lapi_RowID_api_RowID_L9 (Int.toNat x.2.1 + x.2.2.1.1 + x.2.2.1.2 + Int.toNat x.2.2.2.1 + y.1.length + 1) x.2.1 x.2.2.1.1 x.2.2.1.2 x.2.2.2.1 y.1).2)
noncomputable def slices_Compact_Lapi_RowID_api_RowID_L4 : Nat → Int → List RowID → Bool × ((Nat × List RowID) ⊕ List RowID)
  | 0, _, _ => (false, .inl default)
  | n + 1, k, s => bif decide (k < Int.ofNat s.length) then bif decide ((0 : Int) ≤ k) && decide (k < Int.ofNat s.length) then bif decide ((0 : Int) ≤ IntKind.i64.wrap (k - (1 : Int))) && decide (IntKind.i64.wrap (k - (1 : Int)) < Int.ofNat s.length) then bif (s.getD k.toNat default).Table == (s.getD (IntKind.i64.wrap (k - (1 : Int))).toNat default).Table && ((s.getD k.toNat default).Seq == (s.getD (IntKind.i64.wrap (k - (1 : Int))).toNat default).Seq && true) then bif decide ((0 : Int) ≤ k) && decide (k ≤ Int.ofNat s.length) && decide (Int.ofNat s.length ≤ Int.ofNat s.length) then bnd (slices_Compact_Lapi_RowID_api_RowID_L9 (k.toNat + k.toNat + ((Int.ofNat s.length).toNat - k.toNat) + Int.toNat (1 : Int) + s.length + (1 : Nat)) k k.toNat ((Int.ofNat s.length).toNat - k.toNat) (1 : Int) s) (fun r0 => bif decide ((0 : Int) ≤ r0.fst) && decide (r0.fst ≤ Int.ofNat r0.snd.length) && decide (Int.ofNat r0.snd.length ≤ Int.ofNat r0.snd.length) then bif decide (r0.fst.toNat + ((Int.ofNat r0.snd.length).toNat - r0.fst.toNat) ≤ r0.snd.length) then bif decide ((0 : Int) ≤ (0 : Int)) && decide ((0 : Int) ≤ r0.fst) && decide (r0.fst ≤ Int.ofNat (List.take r0.fst.toNat r0.snd ++ List.replicate ((Int.ofNat r0.snd.length).toNat - r0.fst.toNat) (RowID.mk (0 : Int) (0 : Int)) ++ List.drop (r0.fst.toNat + ((Int.ofNat r0.snd.length).toNat - r0.fst.toNat)) r0.snd).length) then (true, .inl (r0.fst.toNat - Int.toNat (0 : Int), List.take r0.fst.toNat r0.snd ++ List.replicate ((Int.ofNat r0.snd.length).toNat - r0.fst.toNat) (RowID.mk (0 : Int) (0 : Int)) ++ List.drop (r0.fst.toNat + ((Int.ofNat r0.snd.length).toNat - r0.fst.toNat)) r0.snd)) else (false, .inl default) else (false, .inl default) else (false, .inl default)) (false, .inl default) else (false, .inl default) else slices_Compact_Lapi_RowID_api_RowID_L4 n (IntKind.i64.wrap (k + (1 : Int))) s else (false, .inl default) else (false, .inl default) else (true, .inr s)
noncomputable def slices_Compact_Lapi_RowID_api_RowID_tr4 (r : (Nat × List RowID) ⊕ List RowID) : LTree ty := .ite (isL r) (.done .ret [.sub 244 0 ((getL r).1)] [.arr 30 ((getL r).2) false]) (.done (.exit 0) [.own 244] [.arr 30 (getR r) false])
noncomputable def slices_Compact_Lapi_RowID_api_RowID_V4 : LL ty (Unit × Int × Unit) := llCons (lOwn 244) (llCons (lInt .i64) llNil)
noncomputable def slices_Compact_Lapi_RowID_api_RowID_B4 : BL ty (List RowID × Unit) := bArr 30 false (bNil)
noncomputable def slices_Compact_Lapi_RowID_api_RowID_sp4 : LSpec ty := mkLoop slices_Compact_Lapi_RowID_api_RowID_V4 slices_Compact_Lapi_RowID_api_RowID_B4 fun x y => ((slices_Compact_Lapi_RowID_api_RowID_L4 (Int.toNat x.2.1 + y.1.length + 1) x.2.1 y.1).1, slices_Compact_Lapi_RowID_api_RowID_tr4 (slices_Compact_Lapi_RowID_api_RowID_L4 (Int.toNat x.2.1 + y.1.length + 1) x.2.1 y.1).2)
noncomputable def slices_Compact_Lapi_RowID_api_RowID_cx : Cx ty := { base with nt := 61, spec := fun g => List.lookup g [], io := fun g => (List.lookup g []).getD [], head := fun i => (List.lookup i [(4, [(0, .keep), (3, .keep)]), (9, [(0, .keep), (3, .keep), (4, .keep), (5, .keep)])]).getD [], out := outOf [(4, 1, [(0, .keep)]), (4, 0, [(2, .keep)]), (9, 3, [(0, .keep), (3, .keep)])], loops := fun i => List.lookup i [(9, slices_Compact_Lapi_RowID_api_RowID_sp9), (4, slices_Compact_Lapi_RowID_api_RowID_sp4)] }
theorem slices_Compact_Lapi_RowID_api_RowID_round9 {R : Type} (H : List (AV ty) → List (Blk ty) → Option R) (K : Ex → List (AV ty) → List (Blk ty) → Option R) (k : Int) (s2_0 : Nat) (s2_1 : Nat) (k2 : Int) (s : List RowID) : roundK slices_Compact_Lapi_RowID_api_RowID_cx (lp (body Tryz.f52) 1) H K [.own 244, .lit (.int .i64 k), .sub 244 s2_0 s2_1, .lit (.int .i64 k2)] [.arr 30 s false] = bif decide (k2 < Int.ofNat s2_1) then bif decide ((0 : Int) ≤ k2) && decide (k2 < Int.ofNat s2_1) then bif decide ((0 : Int) ≤ IntKind.i64.wrap (k2 - (1 : Int))) && decide (IntKind.i64.wrap (k2 - (1 : Int)) < Int.ofNat s2_1) then bif !((s.getD (s2_0 + k2.toNat) default).Table == (s.getD (s2_0 + (IntKind.i64.wrap (k2 - (1 : Int))).toNat) default).Table && ((s.getD (s2_0 + k2.toNat) default).Seq == (s.getD (s2_0 + (IntKind.i64.wrap (k2 - (1 : Int))).toNat) default).Seq && true)) then bif decide ((0 : Int) ≤ k2) && decide (k2 < Int.ofNat s2_1) then bif decide ((0 : Int) ≤ k) && decide (k < Int.ofNat s.length) then bif decide (k.toNat < s.length) then H [.own 244, .lit (.int .i64 (IntKind.i64.wrap (k + (1 : Int)))), .sub 244 s2_0 s2_1, .lit (.int .i64 (IntKind.i64.wrap (k2 + (1 : Int))))] [.arr 30 (s.set k.toNat (s.getD (s2_0 + k2.toNat) default)) false] else none else none else none else H [.own 244, .lit (.int .i64 k), .sub 244 s2_0 s2_1, .lit (.int .i64 (IntKind.i64.wrap (k2 + (1 : Int))))] [.arr 30 s false] else none else none else K (.exit 2) [.own 244, .lit (.int .i64 k)] [.arr 30 s false] := by kernel_rfl
theorem slices_Compact_Lapi_RowID_api_RowID_loop9 (R : Type) (K : Ex → List (AV ty) → List (Blk ty) → Option R) : ∀ (n : Nat) (k : Int) (s2_0 : Nat) (s2_1 : Nat) (k2 : Int) (s : List RowID), loopI slices_Compact_Lapi_RowID_api_RowID_cx (lp (body Tryz.f52) 1) K n [.own 244, .lit (.int .i64 k), .sub 244 s2_0 s2_1, .lit (.int .i64 k2)] [.arr 30 s false] = out (fun r => treeK K (slices_Compact_Lapi_RowID_api_RowID_tr9 r)) (slices_Compact_Lapi_RowID_api_RowID_L9 n k s2_0 s2_1 k2 s)
  | 0, _, _, _, _, _ => rfl
  | n + 1, k, s2_0, s2_1, k2, s => by
    have ih := slices_Compact_Lapi_RowID_api_RowID_loop9 R K n
    rw [slices_Compact_Lapi_RowID_api_RowID_L9]
    exact (slices_Compact_Lapi_RowID_api_RowID_round9 (loopI slices_Compact_Lapi_RowID_api_RowID_cx (lp (body Tryz.f52) 1) K n) K k s2_0 s2_1 k2 s).trans (out_ite (out_ite (out_ite (out_ite (out_ite (out_ite (out_ite (ih (IntKind.i64.wrap (k + (1 : Int))) s2_0 s2_1 (IntKind.i64.wrap (k2 + (1 : Int))) (s.set k.toNat (s.getD (s2_0 + k2.toNat) default))) (rfl)) (rfl)) (rfl)) (ih k s2_0 s2_1 (IntKind.i64.wrap (k2 + (1 : Int))) s)) (rfl)) (rfl)) (rfl))
theorem slices_Compact_Lapi_RowID_api_RowID_to9 : LoopOK slices_Compact_Lapi_RowID_api_RowID_cx (lp (body Tryz.f52) 1) := loopOK_of (id := 9) (sp := slices_Compact_Lapi_RowID_api_RowID_sp9) (by kernel_rfl) (by kernel_rfl) (loopTo_of (V := slices_Compact_Lapi_RowID_api_RowID_V9) (B := slices_Compact_Lapi_RowID_api_RowID_B9) (L := fun n x y => slices_Compact_Lapi_RowID_api_RowID_L9 n x.2.1 x.2.2.1.1 x.2.2.1.2 x.2.2.2.1 y.1) (tr := slices_Compact_Lapi_RowID_api_RowID_tr9) (m := fun x y => Int.toNat x.2.1 + x.2.2.1.1 + x.2.2.1.2 + Int.toNat x.2.2.2.1 + y.1.length + 1) fun R K n x y => slices_Compact_Lapi_RowID_api_RowID_loop9 R K n x.2.1 x.2.2.1.1 x.2.2.1.2 x.2.2.2.1 y.1)
theorem slices_Compact_Lapi_RowID_api_RowID_round4 {R : Type} (H : List (AV ty) → List (Blk ty) → Option R) (K : Ex → List (AV ty) → List (Blk ty) → Option R) (k : Int) (s : List RowID) : roundK slices_Compact_Lapi_RowID_api_RowID_cx (lp (body Tryz.f52) 0) H K [.own 244, .lit (.int .i64 k)] [.arr 30 s false] = bif decide (k < Int.ofNat s.length) then bif decide ((0 : Int) ≤ k) && decide (k < Int.ofNat s.length) then bif decide ((0 : Int) ≤ IntKind.i64.wrap (k - (1 : Int))) && decide (IntKind.i64.wrap (k - (1 : Int)) < Int.ofNat s.length) then bif (s.getD k.toNat default).Table == (s.getD (IntKind.i64.wrap (k - (1 : Int))).toNat default).Table && ((s.getD k.toNat default).Seq == (s.getD (IntKind.i64.wrap (k - (1 : Int))).toNat default).Seq && true) then bif decide ((0 : Int) ≤ k) && decide (k ≤ Int.ofNat s.length) && decide (Int.ofNat s.length ≤ Int.ofNat s.length) then obnd (slices_Compact_Lapi_RowID_api_RowID_L9 (k.toNat + k.toNat + ((Int.ofNat s.length).toNat - k.toNat) + Int.toNat (1 : Int) + s.length + (1 : Nat)) k k.toNat ((Int.ofNat s.length).toNat - k.toNat) (1 : Int) s) (fun r1 => bif decide ((0 : Int) ≤ r1.fst) && decide (r1.fst ≤ Int.ofNat r1.snd.length) && decide (Int.ofNat r1.snd.length ≤ Int.ofNat r1.snd.length) then bif decide (r1.fst.toNat + ((Int.ofNat r1.snd.length).toNat - r1.fst.toNat) ≤ r1.snd.length) then bif decide ((0 : Int) ≤ (0 : Int)) && decide ((0 : Int) ≤ r1.fst) && decide (r1.fst ≤ Int.ofNat (List.take r1.fst.toNat r1.snd ++ List.replicate ((Int.ofNat r1.snd.length).toNat - r1.fst.toNat) (RowID.mk (0 : Int) (0 : Int)) ++ List.drop (r1.fst.toNat + ((Int.ofNat r1.snd.length).toNat - r1.fst.toNat)) r1.snd).length) then K .ret [.sub 244 0 (r1.fst.toNat - Int.toNat (0 : Int))] [.arr 30 (List.take r1.fst.toNat r1.snd ++ List.replicate ((Int.ofNat r1.snd.length).toNat - r1.fst.toNat) (RowID.mk (0 : Int) (0 : Int)) ++ List.drop (r1.fst.toNat + ((Int.ofNat r1.snd.length).toNat - r1.fst.toNat)) r1.snd) false] else none else none else none) else none else H [.own 244, .lit (.int .i64 (IntKind.i64.wrap (k + (1 : Int))))] [.arr 30 s false] else none else none else K (.exit 0) [.own 244] [.arr 30 s false] := by kernel_rfl
theorem slices_Compact_Lapi_RowID_api_RowID_loop4 (R : Type) (K : Ex → List (AV ty) → List (Blk ty) → Option R) : ∀ (n : Nat) (k : Int) (s : List RowID), loopI slices_Compact_Lapi_RowID_api_RowID_cx (lp (body Tryz.f52) 0) K n [.own 244, .lit (.int .i64 k)] [.arr 30 s false] = out (fun r => treeK K (slices_Compact_Lapi_RowID_api_RowID_tr4 r)) (slices_Compact_Lapi_RowID_api_RowID_L4 n k s)
  | 0, _, _ => rfl
  | n + 1, k, s => by
    have ih := slices_Compact_Lapi_RowID_api_RowID_loop4 R K n
    rw [slices_Compact_Lapi_RowID_api_RowID_L4]
    exact (slices_Compact_Lapi_RowID_api_RowID_round4 (loopI slices_Compact_Lapi_RowID_api_RowID_cx (lp (body Tryz.f52) 0) K n) K k s).trans (out_ite (out_ite (out_ite (out_ite (out_ite (out_ite (out_ite (out_ite (out_ite (rfl) (rfl)) (rfl)) (rfl)) (rfl)) (rfl)) (ih (IntKind.i64.wrap (k + (1 : Int))) s)) (rfl)) (rfl)) (rfl))
theorem slices_Compact_Lapi_RowID_api_RowID_to4 : LoopOK slices_Compact_Lapi_RowID_api_RowID_cx (lp (body Tryz.f52) 0) := loopOK_of (id := 4) (sp := slices_Compact_Lapi_RowID_api_RowID_sp4) (by kernel_rfl) (by kernel_rfl) (loopTo_of (V := slices_Compact_Lapi_RowID_api_RowID_V4) (B := slices_Compact_Lapi_RowID_api_RowID_B4) (L := fun n x y => slices_Compact_Lapi_RowID_api_RowID_L4 n x.2.1 y.1) (tr := slices_Compact_Lapi_RowID_api_RowID_tr4) (m := fun x y => Int.toNat x.2.1 + y.1.length + 1) fun R K n x y => slices_Compact_Lapi_RowID_api_RowID_loop4 R K n x.2.1 y.1)
noncomputable def slices_Compact_Lapi_RowID_api_RowID (s : List RowID) : Bool × List RowID := bif decide (Int.ofNat s.length < (2 : Int)) then (true, s) else bnd (slices_Compact_Lapi_RowID_api_RowID_L4 (Int.toNat (1 : Int) + s.length + (1 : Nat)) (1 : Int) s) (fun r2 => bif isL r2 then (true, List.take (getL r2).fst (getL r2).snd) else (true, getR r2)) (false, default)
noncomputable def slices_Compact_Lapi_RowID_api_RowID_res (r : List RowID) : ARes ty := ⟨[.own 30 r], [none]⟩
theorem slices_Compact_Lapi_RowID_api_RowID_run (s : List RowID) : runFn slices_Compact_Lapi_RowID_api_RowID_cx Tryz.f52 (body Tryz.f52) ⟨[.own 30], [false]⟩ [.own 30 s] = out (fun r => some (slices_Compact_Lapi_RowID_api_RowID_res r)) (slices_Compact_Lapi_RowID_api_RowID s) := by
  have h : runFn slices_Compact_Lapi_RowID_api_RowID_cx Tryz.f52 (body Tryz.f52) ⟨[.own 30], [false]⟩ [.own 30 s] = bif decide (Int.ofNat s.length < (2 : Int)) then some ⟨[.own 30 s], [none]⟩ else obnd (slices_Compact_Lapi_RowID_api_RowID_L4 (Int.toNat (1 : Int) + s.length + (1 : Nat)) (1 : Int) s) (fun r3 => bif isL r3 then some ⟨[.own 30 (List.take (getL r3).fst (getL r3).snd)], [none]⟩ else some ⟨[.own 30 (getR r3)], [none]⟩) := by kernel_rfl
  rw [slices_Compact_Lapi_RowID_api_RowID]
  exact h.trans (out_ite (rfl) (out_ite (out_ite (rfl) (rfl)) (rfl)))
noncomputable def slices_Compact_Lapi_RowID_api_RowID_A : AL base (List RowID × Unit) := aCons (aOwn 30) aNil
noncomputable def slices_Compact_Lapi_RowID_api_RowID_spec : Ab.Spec ty := mkSpec slices_Compact_Lapi_RowID_api_RowID_A fun x => ((slices_Compact_Lapi_RowID_api_RowID x.1).1, slices_Compact_Lapi_RowID_api_RowID_res (slices_Compact_Lapi_RowID_api_RowID x.1).2)
theorem slices_Compact_Lapi_RowID_api_RowID_sound : Sound Tryz.prog base 52 slices_Compact_Lapi_RowID_api_RowID_spec :=
  sound_of_run (cx' := slices_Compact_Lapi_RowID_api_RowID_cx) draws base_ok ⟨⟨rfl, rfl, rfl, rfl, rfl, rfl⟩, rfl⟩ (spec_of [] trivial) Tryz.call52 Tryz.func52 (c := body Tryz.f52) (by kernel_rfl) (loopsOK_of (l := [lp (body Tryz.f52) 0, lp (body Tryz.f52) 1]) (by kernel_rfl) ⟨slices_Compact_Lapi_RowID_api_RowID_to4, slices_Compact_Lapi_RowID_api_RowID_to9, trivial⟩) (sg := ⟨[.own 30], [false]⟩) (A := slices_Compact_Lapi_RowID_api_RowID_A) (res := slices_Compact_Lapi_RowID_api_RowID_res) (F := fun x => slices_Compact_Lapi_RowID_api_RowID x.1) (fun x => slices_Compact_Lapi_RowID_api_RowID_run x.1) (fun _ => by kernel_rfl)
end Go.Proofs.YteopikhooiallaaGreatDoor
/- Functions of the program as plain functions, with their contracts. Printed by program. -/
set_option autoImplicit false
set_option linter.unusedVariables false
set_option linter.unusedSimpArgs false
namespace Go.Proofs.YteopikhooiallaaGreatDoor
open Go Go.Ab
/-! ### slices.SortFunc[[]lineage/api.RowID,lineage/api.RowID] -/
noncomputable def slices_SortFunc_Lapi_RowID_api_RowID (x : List RowID) : Bool × List RowID := sortFunc (fun a b => rowset_Compare a b) x
noncomputable def slices_SortFunc_Lapi_RowID_api_RowID_spec : Ab.Spec ty := mkSpec (cx := base) (aCons (aOwn 30) (aCons (aPure (vFn 19 (vNil))) aNil)) fun x => ((slices_SortFunc_Lapi_RowID_api_RowID x.1).1, ⟨[], [some ⟨30, (slices_SortFunc_Lapi_RowID_api_RowID x.1).2⟩]⟩)
theorem slices_SortFunc_Lapi_RowID_api_RowID_cmp (c : Unit) (x y : RowID) (h : (rowset_Compare x y).1 = true) : rowset_Compare_spec ((AV.agg (base.enc 30 x) :: AV.agg (base.enc 30 y) :: (vNil : VL base (Unit)).enc c).map Arg.pure) = some (true, ⟨[.pure (.lit (.int .i64 (rowset_Compare x y).2))], []⟩) := by
  rw [← h]; kernel_rfl
theorem slices_SortFunc_Lapi_RowID_api_RowID_sound : Sound Tryz.prog base 51 slices_SortFunc_Lapi_RowID_api_RowID_spec := by
  letI : DecidableEq (ty 30) := inferInstanceAs (DecidableEq RowID)
  exact sortK_sound (T := 30) base_ok rfl Go.Proofs.Tryz.sortRow Tryz.isAgg30 (by unfold szOf; exact Tryz.sizeOf30) Tryz.call51 rowset_Compare_sound (vNil) (fun c => fun a b => rowset_Compare a b) slices_SortFunc_Lapi_RowID_api_RowID_cmp
end Go.Proofs.YteopikhooiallaaGreatDoor
/- Functions of the program as plain functions, with their contracts. Printed by program. -/
set_option autoImplicit false
set_option linter.unusedVariables false
set_option linter.unusedSimpArgs false
namespace Go.Proofs.YteopikhooiallaaGreatDoor
open Go Go.Ab
/-! ### lineage/rowset.Normalize -/
noncomputable def rowset_Normalize_cx : Cx ty := { base with nt := 10, spec := fun g => List.lookup g [(19, rowset_Compare_spec), (50, slices_Clone_Lapi_RowID_api_RowID_spec), (51, slices_SortFunc_Lapi_RowID_api_RowID_spec), (52, slices_Compact_Lapi_RowID_api_RowID_spec)], io := fun g => (List.lookup g [(51, [true, false]), (52, [true])]).getD [], head := fun i => (List.lookup i []).getD [], out := outOf [], loops := fun i => List.lookup i [] }
noncomputable def rowset_Normalize (l : List RowID) : Bool × List RowID := bnd (slices_Clone_Lapi_RowID_api_RowID l) (fun r2 => bnd (slices_SortFunc_Lapi_RowID_api_RowID r2) (fun r1 => bnd (slices_Compact_Lapi_RowID_api_RowID r1) (fun r0 => (true, r0)) (false, default)) (false, default)) (false, default)
noncomputable def rowset_Normalize_res (r : List RowID) : ARes ty := ⟨[.own 30 r], []⟩
theorem rowset_Normalize_run (l : List RowID) : runFn rowset_Normalize_cx Tryz.f26 (body Tryz.f26) ⟨[.own 30], []⟩ [.pure (.sl 30 l)] = out (fun r => some (rowset_Normalize_res r)) (rowset_Normalize l) := by
  have h : runFn rowset_Normalize_cx Tryz.f26 (body Tryz.f26) ⟨[.own 30], []⟩ [.pure (.sl 30 l)] = obnd (slices_Clone_Lapi_RowID_api_RowID l) (fun r5 => obnd (slices_SortFunc_Lapi_RowID_api_RowID r5) (fun r4 => obnd (slices_Compact_Lapi_RowID_api_RowID r4) (fun r3 => some ⟨[.own 30 (r3)], []⟩))) := by kernel_rfl
  rw [rowset_Normalize]
  exact h.trans (out_ite (out_ite (out_ite (rfl) (rfl)) (rfl)) (rfl))
noncomputable def rowset_Normalize_A : AL base (List RowID × Unit) := aCons (aPure (vSl 30)) aNil
noncomputable def rowset_Normalize_spec : Ab.Spec ty := mkSpec rowset_Normalize_A fun x => ((rowset_Normalize x.1).1, rowset_Normalize_res (rowset_Normalize x.1).2)
theorem rowset_Normalize_sound : Sound Tryz.prog base 26 rowset_Normalize_spec :=
  sound_of_run (cx' := rowset_Normalize_cx) draws base_ok ⟨⟨rfl, rfl, rfl, rfl, rfl, rfl⟩, rfl⟩ (spec_of [(19, rowset_Compare_spec), (50, slices_Clone_Lapi_RowID_api_RowID_spec), (51, slices_SortFunc_Lapi_RowID_api_RowID_spec), (52, slices_Compact_Lapi_RowID_api_RowID_spec)] ⟨(rowset_Compare_sound), (slices_Clone_Lapi_RowID_api_RowID_sound), (slices_SortFunc_Lapi_RowID_api_RowID_sound), (slices_Compact_Lapi_RowID_api_RowID_sound), trivial⟩) Tryz.call26 Tryz.func26 (c := body Tryz.f26) (by kernel_rfl) (loopsOK_of (l := []) (by kernel_rfl) trivial) (sg := ⟨[.own 30], []⟩) (A := rowset_Normalize_A) (res := rowset_Normalize_res) (F := fun x => rowset_Normalize x.1) (fun x => rowset_Normalize_run x.1) (fun _ => by kernel_rfl)
end Go.Proofs.YteopikhooiallaaGreatDoor
/- Functions of the program as plain functions, with their contracts. Printed by program. -/
set_option autoImplicit false
set_option linter.unusedVariables false
set_option linter.unusedSimpArgs false
namespace Go.Proofs.YteopikhooiallaaGreatDoor
open Go Go.Ab
/-! ### lineage/rowset.FormatSet -/
noncomputable def rowset_FormatSet_L3 : Nat → Int → Int → List ByteArray → List RowID → Bool × (ByteArray ⊕ List ByteArray)
  | 0, _, _, _, _ => (false, .inl default)
  | n + 1, t8, t9, texts, t7 => bif decide (t9 < t8) then bif decide ((0 : Int) ≤ t9) && decide (t9 < Int.ofNat t7.length) then bnd (rowset_Valid (t7.getD t9.toNat default)) (fun r1 => bif !r1 then (true, .inl (ByteArray.mk #[])) else bnd (rowset_Format (t7.getD t9.toNat default)) (fun r0 => bif decide ((texts.length + [r0].length) * (16 : Nat) ≤ reach) then rowset_FormatSet_L3 n t8 (IntKind.i64.wrap (t9 + (1 : Int))) (texts ++ [r0]) t7 else (false, .inl default)) (false, .inl default)) (false, .inl default) else (false, .inl default) else (true, .inr texts)
noncomputable def rowset_FormatSet_tr3 (r : ByteArray ⊕ List ByteArray) : LTree ty := .ite (isL r) (.done .ret [.lit (.string (getL r))] []) (.done (.exit 0) [.own 104] [.arr 9 (getR r) false])
noncomputable def rowset_FormatSet_V3 : LL ty (Unit × Unit × Int × Int × Unit) := llCons (lOwn 104) (llCons (lOwn 105) (llCons (lInt .i64) (llCons (lInt .i64) llNil)))
noncomputable def rowset_FormatSet_B3 : BL ty (List ByteArray × List RowID × Unit) := bArr 9 false (bArr 30 false (bNil))
noncomputable def rowset_FormatSet_sp3 : LSpec ty := mkLoop rowset_FormatSet_V3 rowset_FormatSet_B3 fun x y => ((rowset_FormatSet_L3 (Int.toNat x.2.2.1 + Int.toNat x.2.2.2.1 + y.1.length + y.2.1.length + 1) x.2.2.1 x.2.2.2.1 y.1 y.2.1).1, rowset_FormatSet_tr3 (rowset_FormatSet_L3 (Int.toNat x.2.2.1 + Int.toNat x.2.2.2.1 + y.1.length + y.2.1.length + 1) x.2.2.1 x.2.2.2.1 y.1 y.2.1).2)
noncomputable def rowset_FormatSet_cx : Cx ty := { base0 with nt := 26, spec := fun g => List.lookup g [(17, rowset_Valid_spec), (21, rowset_Format_spec), (26, rowset_Normalize_spec), (49, strings_Join_spec)], io := fun g => (List.lookup g []).getD [], head := fun i => (List.lookup i [(3, [(3, .own 9), (7, .keep), (8, .keep), (9, .keep)])]).getD [], out := outOf [(3, 1, [(3, .keep)]), (3, 0, [(2, .keep)])], loops := fun i => List.lookup i [(3, rowset_FormatSet_sp3)] }
theorem rowset_FormatSet_round3 {R : Type} (H : List (AV ty) → List (Blk ty) → Option R) (K : Ex → List (AV ty) → List (Blk ty) → Option R) (t8 : Int) (t9 : Int) (texts : List ByteArray) (t7 : List RowID) : roundK rowset_FormatSet_cx (lp (body Tryz.f23) 0) H K [.own 104, .own 105, .lit (.int .i64 t8), .lit (.int .i64 t9)] [.arr 9 texts false, .arr 30 t7 false] = bif decide (t9 < t8) then bif decide ((0 : Int) ≤ t9) && decide (t9 < Int.ofNat t7.length) then obnd (rowset_Valid (t7.getD t9.toNat default)) (fun r3 => bif !r3 then K .ret [.lit (.string (ByteArray.mk #[]))] [] else obnd (rowset_Format (t7.getD t9.toNat default)) (fun r2 => bif decide ((texts.length + [r2].length) * (16 : Nat) ≤ reach) then H [.own 104, .own 105, .lit (.int .i64 t8), .lit (.int .i64 (IntKind.i64.wrap (t9 + (1 : Int))))] [.arr 9 (texts ++ [r2]) false, .arr 30 t7 false] else none)) else none else K (.exit 0) [.own 104] [.arr 9 texts false] := by kernel_rfl
theorem rowset_FormatSet_loop3 (R : Type) (K : Ex → List (AV ty) → List (Blk ty) → Option R) : ∀ (n : Nat) (t8 : Int) (t9 : Int) (texts : List ByteArray) (t7 : List RowID), loopI rowset_FormatSet_cx (lp (body Tryz.f23) 0) K n [.own 104, .own 105, .lit (.int .i64 t8), .lit (.int .i64 t9)] [.arr 9 texts false, .arr 30 t7 false] = out (fun r => treeK K (rowset_FormatSet_tr3 r)) (rowset_FormatSet_L3 n t8 t9 texts t7)
  | 0, _, _, _, _ => rfl
  | n + 1, t8, t9, texts, t7 => by
    have ih := rowset_FormatSet_loop3 R K n
    rw [rowset_FormatSet_L3]
    exact (rowset_FormatSet_round3 (loopI rowset_FormatSet_cx (lp (body Tryz.f23) 0) K n) K t8 t9 texts t7).trans (out_ite (out_ite (out_ite (out_ite (rfl) (out_ite (out_ite (ih t8 (IntKind.i64.wrap (t9 + (1 : Int))) (texts ++ [(rowset_Format (t7.getD t9.toNat default)).snd]) t7) (rfl)) (rfl))) (rfl)) (rfl)) (rfl))
theorem rowset_FormatSet_to3 : LoopOK rowset_FormatSet_cx (lp (body Tryz.f23) 0) := loopOK_of (id := 3) (sp := rowset_FormatSet_sp3) (by kernel_rfl) (by kernel_rfl) (loopTo_of (V := rowset_FormatSet_V3) (B := rowset_FormatSet_B3) (L := fun n x y => rowset_FormatSet_L3 n x.2.2.1 x.2.2.2.1 y.1 y.2.1) (tr := rowset_FormatSet_tr3) (m := fun x y => Int.toNat x.2.2.1 + Int.toNat x.2.2.2.1 + y.1.length + y.2.1.length + 1) fun R K n x y => rowset_FormatSet_loop3 R K n x.2.2.1 x.2.2.2.1 y.1 y.2.1)
noncomputable def rowset_FormatSet (l : List RowID) : Bool × ByteArray := bnd (rowset_Normalize l) (fun r6 => bnd (rowset_FormatSet_L3 ((Int.ofNat r6.length).toNat + Int.toNat (0 : Int) + (0 : Nat) + r6.length + (1 : Nat)) (Int.ofNat r6.length) (0 : Int) [] r6) (fun r5 => bif isL r5 then (true, getL r5) else bnd (strings_Join (getR r5) (ByteArray.mk #[(44 : UInt8), (32 : UInt8)])) (fun r4 => bif decide ((ByteArray.mk #[(123 : UInt8)]).size + r4.size ≤ (9223372036854775807 : Nat)) then bif decide ((ByteArray.mk #[(123 : UInt8)] ++ r4).size + (ByteArray.mk #[(125 : UInt8)]).size ≤ (9223372036854775807 : Nat)) then (true, ByteArray.mk #[(123 : UInt8)] ++ r4 ++ ByteArray.mk #[(125 : UInt8)]) else (false, default) else (false, default)) (false, default)) (false, default)) (false, default)
noncomputable def rowset_FormatSet_res (r : ByteArray) : ARes ty := ⟨[.pure (.lit (.string r))], []⟩
theorem rowset_FormatSet_run (l : List RowID) : runFn rowset_FormatSet_cx Tryz.f23 (body Tryz.f23) ⟨[.pure], []⟩ [.pure (.sl 30 l)] = out (fun r => some (rowset_FormatSet_res r)) (rowset_FormatSet l) := by
  have h : runFn rowset_FormatSet_cx Tryz.f23 (body Tryz.f23) ⟨[.pure], []⟩ [.pure (.sl 30 l)] = obnd (rowset_Normalize l) (fun r9 => obnd (rowset_FormatSet_L3 ((Int.ofNat r9.length).toNat + Int.toNat (0 : Int) + (0 : Nat) + r9.length + (1 : Nat)) (Int.ofNat r9.length) (0 : Int) [] r9) (fun r8 => bif isL r8 then some ⟨[.pure (.lit (.string (getL r8)))], []⟩ else obnd (strings_Join (getR r8) (ByteArray.mk #[(44 : UInt8), (32 : UInt8)])) (fun r7 => bif decide ((ByteArray.mk #[(123 : UInt8)]).size + r7.size ≤ (9223372036854775807 : Nat)) then bif decide ((ByteArray.mk #[(123 : UInt8)] ++ r7).size + (ByteArray.mk #[(125 : UInt8)]).size ≤ (9223372036854775807 : Nat)) then some ⟨[.pure (.lit (.string (ByteArray.mk #[(123 : UInt8)] ++ r7 ++ ByteArray.mk #[(125 : UInt8)])))], []⟩ else none else none))) := by kernel_rfl
  rw [rowset_FormatSet]
  exact h.trans (out_ite (out_ite (out_ite (rfl) (out_ite (out_ite (out_ite (rfl) (rfl)) (rfl)) (rfl))) (rfl)) (rfl))
noncomputable def rowset_FormatSet_A : AL base0 (List RowID × Unit) := aCons (aPure (vSl 30)) aNil
noncomputable def rowset_FormatSet_spec : Ab.Spec ty := mkSpec rowset_FormatSet_A fun x => ((rowset_FormatSet x.1).1, rowset_FormatSet_res (rowset_FormatSet x.1).2)
theorem rowset_FormatSet_sound : Sound Tryz.prog base0 23 rowset_FormatSet_spec :=
  sound_of_run (cx' := rowset_FormatSet_cx) draws base0_ok ⟨⟨rfl, rfl, rfl, rfl, rfl, rfl⟩, rfl⟩ (spec_of [(17, rowset_Valid_spec), (21, rowset_Format_spec), (26, rowset_Normalize_spec), (49, strings_Join_spec)] ⟨(rowset_Valid_sound.nodr), (rowset_Format_sound.nodr), (rowset_Normalize_sound.nodr), (strings_Join_sound), trivial⟩) Tryz.call23 Tryz.func23 (c := body Tryz.f23) (by kernel_rfl) (loopsOK_of (l := [lp (body Tryz.f23) 0]) (by kernel_rfl) ⟨rowset_FormatSet_to3, trivial⟩) (sg := ⟨[.pure], []⟩) (A := rowset_FormatSet_A) (res := rowset_FormatSet_res) (F := fun x => rowset_FormatSet x.1) (fun x => rowset_FormatSet_run x.1) (fun _ => by kernel_rfl)
end Go.Proofs.YteopikhooiallaaGreatDoor
/- Functions of the program as plain functions, with their contracts. Printed by program. -/
set_option autoImplicit false
set_option linter.unusedVariables false
set_option linter.unusedSimpArgs false
namespace Go.Proofs.YteopikhooiallaaGreatDoor
open Go Go.Ab
/-! ### slices.Equal[[]lineage/api.RowID,lineage/api.RowID] -/
noncomputable def slices_Equal_Lapi_RowID_api_RowID_L4 : Nat → List RowID → List RowID → Int → Int → Bool × (Bool ⊕ Unit)
  | 0, _, _, _, _ => (false, .inl default)
  | n + 1, s1, s2, t12, t13 => bif decide (t13 < t12) then bif decide ((0 : Int) ≤ t13) && decide (t13 < Int.ofNat s1.length) then bif decide ((0 : Int) ≤ t13) && decide (t13 < Int.ofNat s2.length) then bif !((s1.getD t13.toNat default).Table == (s2.getD t13.toNat default).Table && ((s1.getD t13.toNat default).Seq == (s2.getD t13.toNat default).Seq && true)) then (true, .inl false) else slices_Equal_Lapi_RowID_api_RowID_L4 n s1 s2 t12 (IntKind.i64.wrap (t13 + (1 : Int))) else (false, .inl default) else (false, .inl default) else (true, .inr ())
noncomputable def slices_Equal_Lapi_RowID_api_RowID_tr4 (r : Bool ⊕ Unit) : LTree ty := .ite (isL r) (.done .ret [.lit (.bool (getL r))] []) (.done (.exit 0) [] [])
noncomputable def slices_Equal_Lapi_RowID_api_RowID_V4 : LL ty (List RowID × List RowID × Int × Int × Unit) := llCons (lSl 30) (llCons (lSl 30) (llCons (lInt .i64) (llCons (lInt .i64) llNil)))
noncomputable def slices_Equal_Lapi_RowID_api_RowID_B4 : BL ty (Unit) := bNil
noncomputable def slices_Equal_Lapi_RowID_api_RowID_sp4 : LSpec ty := mkLoop slices_Equal_Lapi_RowID_api_RowID_V4 slices_Equal_Lapi_RowID_api_RowID_B4 fun x y => ((slices_Equal_Lapi_RowID_api_RowID_L4 (x.1.length + x.2.1.length + Int.toNat x.2.2.1 + Int.toNat x.2.2.2.1 + 1) x.1 x.2.1 x.2.2.1 x.2.2.2.1).1, slices_Equal_Lapi_RowID_api_RowID_tr4 (slices_Equal_Lapi_RowID_api_RowID_L4 (x.1.length + x.2.1.length + Int.toNat x.2.2.1 + Int.toNat x.2.2.2.1 + 1) x.1 x.2.1 x.2.2.1 x.2.2.2.1).2)
noncomputable def slices_Equal_Lapi_RowID_api_RowID_cx : Cx ty := { base with nt := 26, spec := fun g => List.lookup g [], io := fun g => (List.lookup g []).getD [], head := fun i => (List.lookup i [(4, [(0, .keep), (1, .keep), (12, .keep), (13, .keep)])]).getD [], out := outOf [(4, 1, []), (4, 0, [(4, .keep)])], loops := fun i => List.lookup i [(4, slices_Equal_Lapi_RowID_api_RowID_sp4)] }
theorem slices_Equal_Lapi_RowID_api_RowID_round4 {R : Type} (H : List (AV ty) → List (Blk ty) → Option R) (K : Ex → List (AV ty) → List (Blk ty) → Option R) (s1 : List RowID) (s2 : List RowID) (t12 : Int) (t13 : Int) : roundK slices_Equal_Lapi_RowID_api_RowID_cx (lp (body Tryz.f31) 0) H K [.sl 30 s1, .sl 30 s2, .lit (.int .i64 t12), .lit (.int .i64 t13)] [] = bif decide (t13 < t12) then bif decide ((0 : Int) ≤ t13) && decide (t13 < Int.ofNat s1.length) then bif decide ((0 : Int) ≤ t13) && decide (t13 < Int.ofNat s2.length) then bif !((s1.getD t13.toNat default).Table == (s2.getD t13.toNat default).Table && ((s1.getD t13.toNat default).Seq == (s2.getD t13.toNat default).Seq && true)) then K .ret [.lit (.bool false)] [] else H [.sl 30 s1, .sl 30 s2, .lit (.int .i64 t12), .lit (.int .i64 (IntKind.i64.wrap (t13 + (1 : Int))))] [] else none else none else K (.exit 0) [] [] := by kernel_rfl
theorem slices_Equal_Lapi_RowID_api_RowID_loop4 (R : Type) (K : Ex → List (AV ty) → List (Blk ty) → Option R) : ∀ (n : Nat) (s1 : List RowID) (s2 : List RowID) (t12 : Int) (t13 : Int), loopI slices_Equal_Lapi_RowID_api_RowID_cx (lp (body Tryz.f31) 0) K n [.sl 30 s1, .sl 30 s2, .lit (.int .i64 t12), .lit (.int .i64 t13)] [] = out (fun r => treeK K (slices_Equal_Lapi_RowID_api_RowID_tr4 r)) (slices_Equal_Lapi_RowID_api_RowID_L4 n s1 s2 t12 t13)
  | 0, _, _, _, _ => rfl
  | n + 1, s1, s2, t12, t13 => by
    have ih := slices_Equal_Lapi_RowID_api_RowID_loop4 R K n
    rw [slices_Equal_Lapi_RowID_api_RowID_L4]
    exact (slices_Equal_Lapi_RowID_api_RowID_round4 (loopI slices_Equal_Lapi_RowID_api_RowID_cx (lp (body Tryz.f31) 0) K n) K s1 s2 t12 t13).trans (out_ite (out_ite (out_ite (out_ite (rfl) (ih s1 s2 t12 (IntKind.i64.wrap (t13 + (1 : Int))))) (rfl)) (rfl)) (rfl))
theorem slices_Equal_Lapi_RowID_api_RowID_to4 : LoopOK slices_Equal_Lapi_RowID_api_RowID_cx (lp (body Tryz.f31) 0) := loopOK_of (id := 4) (sp := slices_Equal_Lapi_RowID_api_RowID_sp4) (by kernel_rfl) (by kernel_rfl) (loopTo_of (V := slices_Equal_Lapi_RowID_api_RowID_V4) (B := slices_Equal_Lapi_RowID_api_RowID_B4) (L := fun n x y => slices_Equal_Lapi_RowID_api_RowID_L4 n x.1 x.2.1 x.2.2.1 x.2.2.2.1) (tr := slices_Equal_Lapi_RowID_api_RowID_tr4) (m := fun x y => x.1.length + x.2.1.length + Int.toNat x.2.2.1 + Int.toNat x.2.2.2.1 + 1) fun R K n x y => slices_Equal_Lapi_RowID_api_RowID_loop4 R K n x.1 x.2.1 x.2.2.1 x.2.2.2.1)
noncomputable def slices_Equal_Lapi_RowID_api_RowID (s1 : List RowID) (s2 : List RowID) : Bool × Bool := bif Int.ofNat s1.length != Int.ofNat s2.length then (true, false) else bnd (slices_Equal_Lapi_RowID_api_RowID_L4 (s1.length + s2.length + (Int.ofNat s1.length).toNat + Int.toNat (0 : Int) + (1 : Nat)) s1 s2 (Int.ofNat s1.length) (0 : Int)) (fun r0 => bif isL r0 then (true, getL r0) else (true, true)) (false, default)
noncomputable def slices_Equal_Lapi_RowID_api_RowID_res (r : Bool) : ARes ty := ⟨[.pure (.lit (.bool r))], []⟩
theorem slices_Equal_Lapi_RowID_api_RowID_run (s1 : List RowID) (s2 : List RowID) : runFn slices_Equal_Lapi_RowID_api_RowID_cx Tryz.f31 (body Tryz.f31) ⟨[.pure], []⟩ [.pure (.sl 30 s1), .pure (.sl 30 s2)] = out (fun r => some (slices_Equal_Lapi_RowID_api_RowID_res r)) (slices_Equal_Lapi_RowID_api_RowID s1 s2) := by
  have h : runFn slices_Equal_Lapi_RowID_api_RowID_cx Tryz.f31 (body Tryz.f31) ⟨[.pure], []⟩ [.pure (.sl 30 s1), .pure (.sl 30 s2)] = bif Int.ofNat s1.length != Int.ofNat s2.length then some ⟨[.pure (.lit (.bool false))], []⟩ else obnd (slices_Equal_Lapi_RowID_api_RowID_L4 (s1.length + s2.length + (Int.ofNat s1.length).toNat + Int.toNat (0 : Int) + (1 : Nat)) s1 s2 (Int.ofNat s1.length) (0 : Int)) (fun r1 => bif isL r1 then some ⟨[.pure (.lit (.bool (getL r1)))], []⟩ else some ⟨[.pure (.lit (.bool true))], []⟩) := by kernel_rfl
  rw [slices_Equal_Lapi_RowID_api_RowID]
  exact h.trans (out_ite (rfl) (out_ite (out_ite (rfl) (rfl)) (rfl)))
noncomputable def slices_Equal_Lapi_RowID_api_RowID_A : AL base (List RowID × List RowID × Unit) := aCons (aPure (vSl 30)) (aCons (aPure (vSl 30)) aNil)
noncomputable def slices_Equal_Lapi_RowID_api_RowID_spec : Ab.Spec ty := mkSpec slices_Equal_Lapi_RowID_api_RowID_A fun x => ((slices_Equal_Lapi_RowID_api_RowID x.1 x.2.1).1, slices_Equal_Lapi_RowID_api_RowID_res (slices_Equal_Lapi_RowID_api_RowID x.1 x.2.1).2)
theorem slices_Equal_Lapi_RowID_api_RowID_sound : Sound Tryz.prog base 31 slices_Equal_Lapi_RowID_api_RowID_spec :=
  sound_of_run (cx' := slices_Equal_Lapi_RowID_api_RowID_cx) draws base_ok ⟨⟨rfl, rfl, rfl, rfl, rfl, rfl⟩, rfl⟩ (spec_of [] trivial) Tryz.call31 Tryz.func31 (c := body Tryz.f31) (by kernel_rfl) (loopsOK_of (l := [lp (body Tryz.f31) 0]) (by kernel_rfl) ⟨slices_Equal_Lapi_RowID_api_RowID_to4, trivial⟩) (sg := ⟨[.pure], []⟩) (A := slices_Equal_Lapi_RowID_api_RowID_A) (res := slices_Equal_Lapi_RowID_api_RowID_res) (F := fun x => slices_Equal_Lapi_RowID_api_RowID x.1 x.2.1) (fun x => slices_Equal_Lapi_RowID_api_RowID_run x.1 x.2.1) (fun _ => by kernel_rfl)
end Go.Proofs.YteopikhooiallaaGreatDoor
/- Functions of the program as plain functions, with their contracts. Printed by program. -/
set_option autoImplicit false
set_option linter.unusedVariables false
set_option linter.unusedSimpArgs false
namespace Go.Proofs.YteopikhooiallaaGreatDoor
open Go Go.Ab
/-! ### lineage/rowset.Family literal 1 -/
noncomputable def rowset_Family_c1_cx : Cx ty := { base with nt := 8, spec := fun g => List.lookup g [(31, slices_Equal_Lapi_RowID_api_RowID_spec)], io := fun g => (List.lookup g []).getD [], head := fun i => (List.lookup i []).getD [], out := outOf [], loops := fun i => List.lookup i [] }
noncomputable def rowset_Family_c1 (a : List RowID) (b : List RowID) : Bool × Bool := bnd (slices_Equal_Lapi_RowID_api_RowID a b) (fun r0 => (true, r0)) (false, default)
noncomputable def rowset_Family_c1_res (r : Bool) : ARes ty := ⟨[.pure (.lit (.bool r))], []⟩
theorem rowset_Family_c1_run (a : List RowID) (b : List RowID) : runFn rowset_Family_c1_cx Tryz.f30 (body Tryz.f30) ⟨[.pure], []⟩ [.pure (.sl 30 a), .pure (.sl 30 b)] = out (fun r => some (rowset_Family_c1_res r)) (rowset_Family_c1 a b) := by
  have h : runFn rowset_Family_c1_cx Tryz.f30 (body Tryz.f30) ⟨[.pure], []⟩ [.pure (.sl 30 a), .pure (.sl 30 b)] = obnd (slices_Equal_Lapi_RowID_api_RowID a b) (fun r1 => some ⟨[.pure (.lit (.bool (r1)))], []⟩) := by kernel_rfl
  rw [rowset_Family_c1]
  exact h.trans (out_ite (rfl) (rfl))
noncomputable def rowset_Family_c1_A : AL base (List RowID × List RowID × Unit) := aCons (aPure (vSl 30)) (aCons (aPure (vSl 30)) aNil)
noncomputable def rowset_Family_c1_spec : Ab.Spec ty := mkSpec rowset_Family_c1_A fun x => ((rowset_Family_c1 x.1 x.2.1).1, rowset_Family_c1_res (rowset_Family_c1 x.1 x.2.1).2)
theorem rowset_Family_c1_sound : Sound Tryz.prog base 30 rowset_Family_c1_spec :=
  sound_of_run (cx' := rowset_Family_c1_cx) draws base_ok ⟨⟨rfl, rfl, rfl, rfl, rfl, rfl⟩, rfl⟩ (spec_of [(31, slices_Equal_Lapi_RowID_api_RowID_spec)] ⟨(slices_Equal_Lapi_RowID_api_RowID_sound), trivial⟩) Tryz.call30 Tryz.func30 (c := body Tryz.f30) (by kernel_rfl) (loopsOK_of (l := []) (by kernel_rfl) trivial) (sg := ⟨[.pure], []⟩) (A := rowset_Family_c1_A) (res := rowset_Family_c1_res) (F := fun x => rowset_Family_c1 x.1 x.2.1) (fun x => rowset_Family_c1_run x.1 x.2.1) (fun _ => by kernel_rfl)
end Go.Proofs.YteopikhooiallaaGreatDoor
/- Functions of the program as plain functions, with their contracts. Printed by program. -/
set_option autoImplicit false
set_option linter.unusedVariables false
set_option linter.unusedSimpArgs false
namespace Go.Proofs.YteopikhooiallaaGreatDoor
open Go Go.Ab
/-! ### slices.CompareFunc[[]lineage/api.RowID,[]lineage/api.RowID,lineage/api.RowID,lineage/api.RowID] -/
noncomputable def slices_CompareFunc_Lapi_RowID_Lapi_RowID_api_RowID_api_RowID_L2 : Nat → List RowID → List RowID → List RowID → Int → Int → Bool × (Int ⊕ (List RowID × List RowID))
  | 0, _, _, _, _, _ => (false, .inl default)
  | n + 1, s1, s2, t11, t12, t13 => bif decide (t13 < t12) then bif decide ((0 : Int) ≤ t13) && decide (t13 < Int.ofNat t11.length) then bif decide (t13 ≥ Int.ofNat s2.length) then (true, .inl (1 : Int)) else bif decide ((0 : Int) ≤ t13) && decide (t13 < Int.ofNat s2.length) then bnd (rowset_Compare (t11.getD t13.toNat default) (s2.getD t13.toNat default)) (fun r0 => bif r0 != (0 : Int) then (true, .inl (r0)) else slices_CompareFunc_Lapi_RowID_Lapi_RowID_api_RowID_api_RowID_L2 n s1 s2 t11 t12 (IntKind.i64.wrap (t13 + (1 : Int)))) (false, .inl default) else (false, .inl default) else (false, .inl default) else (true, .inr (s1, s2))
noncomputable def slices_CompareFunc_Lapi_RowID_Lapi_RowID_api_RowID_api_RowID_tr2 (r : Int ⊕ (List RowID × List RowID)) : LTree ty := .ite (isL r) (.done .ret [.lit (.int .i64 (getL r))] []) (.done (.exit 0) [.sl 30 ((getR r).1), .sl 30 ((getR r).2)] [])
noncomputable def slices_CompareFunc_Lapi_RowID_Lapi_RowID_api_RowID_api_RowID_V2 : LL ty (List RowID × List RowID × Unit × List RowID × Int × Int × Unit) := llCons (lSl 30) (llCons (lSl 30) (llCons (lFn 19 (llNil)) (llCons (lSl 30) (llCons (lInt .i64) (llCons (lInt .i64) llNil)))))
noncomputable def slices_CompareFunc_Lapi_RowID_Lapi_RowID_api_RowID_api_RowID_B2 : BL ty (Unit) := bNil
noncomputable def slices_CompareFunc_Lapi_RowID_Lapi_RowID_api_RowID_api_RowID_sp2 : LSpec ty := mkLoop slices_CompareFunc_Lapi_RowID_Lapi_RowID_api_RowID_api_RowID_V2 slices_CompareFunc_Lapi_RowID_Lapi_RowID_api_RowID_api_RowID_B2 fun x y => ((slices_CompareFunc_Lapi_RowID_Lapi_RowID_api_RowID_api_RowID_L2 (x.1.length + x.2.1.length + x.2.2.2.1.length + Int.toNat x.2.2.2.2.1 + Int.toNat x.2.2.2.2.2.1 + 1) x.1 x.2.1 x.2.2.2.1 x.2.2.2.2.1 x.2.2.2.2.2.1).1, slices_CompareFunc_Lapi_RowID_Lapi_RowID_api_RowID_api_RowID_tr2 (slices_CompareFunc_Lapi_RowID_Lapi_RowID_api_RowID_api_RowID_L2 (x.1.length + x.2.1.length + x.2.2.2.1.length + Int.toNat x.2.2.2.2.1 + Int.toNat x.2.2.2.2.2.1 + 1) x.1 x.2.1 x.2.2.2.1 x.2.2.2.2.1 x.2.2.2.2.2.1).2)
noncomputable def slices_CompareFunc_Lapi_RowID_Lapi_RowID_api_RowID_api_RowID_cx : Cx ty := { base with nt := 39, spec := fun g => List.lookup g [(19, rowset_Compare_spec)], io := fun g => (List.lookup g []).getD [], head := fun i => (List.lookup i [(2, [(0, .keep), (1, .keep), (2, .keep), (11, .keep), (12, .keep), (13, .keep)])]).getD [], out := outOf [(2, 1, [(0, .keep), (1, .keep)]), (2, 0, [(6, .keep)])], loops := fun i => List.lookup i [(2, slices_CompareFunc_Lapi_RowID_Lapi_RowID_api_RowID_api_RowID_sp2)] }
theorem slices_CompareFunc_Lapi_RowID_Lapi_RowID_api_RowID_api_RowID_round2 {R : Type} (H : List (AV ty) → List (Blk ty) → Option R) (K : Ex → List (AV ty) → List (Blk ty) → Option R) (s1 : List RowID) (s2 : List RowID) (t11 : List RowID) (t12 : Int) (t13 : Int) : roundK slices_CompareFunc_Lapi_RowID_Lapi_RowID_api_RowID_api_RowID_cx (lp (body Tryz.f55) 0) H K [.sl 30 s1, .sl 30 s2, .fn 19 ([]), .sl 30 t11, .lit (.int .i64 t12), .lit (.int .i64 t13)] [] = bif decide (t13 < t12) then bif decide ((0 : Int) ≤ t13) && decide (t13 < Int.ofNat t11.length) then bif decide (t13 ≥ Int.ofNat s2.length) then K .ret [.lit (.int .i64 (1 : Int))] [] else bif decide ((0 : Int) ≤ t13) && decide (t13 < Int.ofNat s2.length) then obnd (rowset_Compare (t11.getD t13.toNat default) (s2.getD t13.toNat default)) (fun r1 => bif r1 != (0 : Int) then K .ret [.lit (.int .i64 (r1))] [] else H [.sl 30 s1, .sl 30 s2, .fn 19 ([]), .sl 30 t11, .lit (.int .i64 t12), .lit (.int .i64 (IntKind.i64.wrap (t13 + (1 : Int))))] []) else none else none else K (.exit 0) [.sl 30 s1, .sl 30 s2] [] := by kernel_rfl
theorem slices_CompareFunc_Lapi_RowID_Lapi_RowID_api_RowID_api_RowID_loop2 (R : Type) (K : Ex → List (AV ty) → List (Blk ty) → Option R) : ∀ (n : Nat) (s1 : List RowID) (s2 : List RowID) (t11 : List RowID) (t12 : Int) (t13 : Int), loopI slices_CompareFunc_Lapi_RowID_Lapi_RowID_api_RowID_api_RowID_cx (lp (body Tryz.f55) 0) K n [.sl 30 s1, .sl 30 s2, .fn 19 ([]), .sl 30 t11, .lit (.int .i64 t12), .lit (.int .i64 t13)] [] = out (fun r => treeK K (slices_CompareFunc_Lapi_RowID_Lapi_RowID_api_RowID_api_RowID_tr2 r)) (slices_CompareFunc_Lapi_RowID_Lapi_RowID_api_RowID_api_RowID_L2 n s1 s2 t11 t12 t13)
  | 0, _, _, _, _, _ => rfl
  | n + 1, s1, s2, t11, t12, t13 => by
    have ih := slices_CompareFunc_Lapi_RowID_Lapi_RowID_api_RowID_api_RowID_loop2 R K n
    rw [slices_CompareFunc_Lapi_RowID_Lapi_RowID_api_RowID_api_RowID_L2]
    exact (slices_CompareFunc_Lapi_RowID_Lapi_RowID_api_RowID_api_RowID_round2 (loopI slices_CompareFunc_Lapi_RowID_Lapi_RowID_api_RowID_api_RowID_cx (lp (body Tryz.f55) 0) K n) K s1 s2 t11 t12 t13).trans (out_ite (out_ite (out_ite (rfl) (out_ite (out_ite (out_ite (rfl) (ih s1 s2 t11 t12 (IntKind.i64.wrap (t13 + (1 : Int))))) (rfl)) (rfl))) (rfl)) (rfl))
theorem slices_CompareFunc_Lapi_RowID_Lapi_RowID_api_RowID_api_RowID_to2 : LoopOK slices_CompareFunc_Lapi_RowID_Lapi_RowID_api_RowID_api_RowID_cx (lp (body Tryz.f55) 0) := loopOK_of (id := 2) (sp := slices_CompareFunc_Lapi_RowID_Lapi_RowID_api_RowID_api_RowID_sp2) (by kernel_rfl) (by kernel_rfl) (loopTo_of (V := slices_CompareFunc_Lapi_RowID_Lapi_RowID_api_RowID_api_RowID_V2) (B := slices_CompareFunc_Lapi_RowID_Lapi_RowID_api_RowID_api_RowID_B2) (L := fun n x y => slices_CompareFunc_Lapi_RowID_Lapi_RowID_api_RowID_api_RowID_L2 n x.1 x.2.1 x.2.2.2.1 x.2.2.2.2.1 x.2.2.2.2.2.1) (tr := slices_CompareFunc_Lapi_RowID_Lapi_RowID_api_RowID_api_RowID_tr2) (m := fun x y => x.1.length + x.2.1.length + x.2.2.2.1.length + Int.toNat x.2.2.2.2.1 + Int.toNat x.2.2.2.2.2.1 + 1) fun R K n x y => slices_CompareFunc_Lapi_RowID_Lapi_RowID_api_RowID_api_RowID_loop2 R K n x.1 x.2.1 x.2.2.2.1 x.2.2.2.2.1 x.2.2.2.2.2.1)
noncomputable def slices_CompareFunc_Lapi_RowID_Lapi_RowID_api_RowID_api_RowID (s1 : List RowID) (s2 : List RowID) : Bool × Int := bnd (slices_CompareFunc_Lapi_RowID_Lapi_RowID_api_RowID_api_RowID_L2 (s1.length + s2.length + s1.length + (Int.ofNat s1.length).toNat + Int.toNat (0 : Int) + (1 : Nat)) s1 s2 s1 (Int.ofNat s1.length) (0 : Int)) (fun r2 => bif isL r2 then (true, getL r2) else bif decide (Int.ofNat (getR r2).fst.length < Int.ofNat (getR r2).snd.length) then (true, (-1 : Int)) else (true, (0 : Int))) (false, default)
noncomputable def slices_CompareFunc_Lapi_RowID_Lapi_RowID_api_RowID_api_RowID_res (r : Int) : ARes ty := ⟨[.pure (.lit (.int .i64 r))], []⟩
theorem slices_CompareFunc_Lapi_RowID_Lapi_RowID_api_RowID_api_RowID_run (s1 : List RowID) (s2 : List RowID) : runFn slices_CompareFunc_Lapi_RowID_Lapi_RowID_api_RowID_api_RowID_cx Tryz.f55 (body Tryz.f55) ⟨[.pure], []⟩ [.pure (.sl 30 s1), .pure (.sl 30 s2), .pure (.fn 19 [])] = out (fun r => some (slices_CompareFunc_Lapi_RowID_Lapi_RowID_api_RowID_api_RowID_res r)) (slices_CompareFunc_Lapi_RowID_Lapi_RowID_api_RowID_api_RowID s1 s2) := by
  have h : runFn slices_CompareFunc_Lapi_RowID_Lapi_RowID_api_RowID_api_RowID_cx Tryz.f55 (body Tryz.f55) ⟨[.pure], []⟩ [.pure (.sl 30 s1), .pure (.sl 30 s2), .pure (.fn 19 [])] = obnd (slices_CompareFunc_Lapi_RowID_Lapi_RowID_api_RowID_api_RowID_L2 (s1.length + s2.length + s1.length + (Int.ofNat s1.length).toNat + Int.toNat (0 : Int) + (1 : Nat)) s1 s2 s1 (Int.ofNat s1.length) (0 : Int)) (fun r3 => bif isL r3 then some ⟨[.pure (.lit (.int .i64 (getL r3)))], []⟩ else bif decide (Int.ofNat (getR r3).fst.length < Int.ofNat (getR r3).snd.length) then some ⟨[.pure (.lit (.int .i64 (-1 : Int)))], []⟩ else some ⟨[.pure (.lit (.int .i64 (0 : Int)))], []⟩) := by kernel_rfl
  rw [slices_CompareFunc_Lapi_RowID_Lapi_RowID_api_RowID_api_RowID]
  exact h.trans (out_ite (out_ite (rfl) (out_ite (rfl) (rfl))) (rfl))
noncomputable def slices_CompareFunc_Lapi_RowID_Lapi_RowID_api_RowID_api_RowID_A : AL base (List RowID × List RowID × Unit × Unit) := aCons (aPure (vSl 30)) (aCons (aPure (vSl 30)) (aCons (aPure (vFn 19 vNil)) aNil))
noncomputable def slices_CompareFunc_Lapi_RowID_Lapi_RowID_api_RowID_api_RowID_spec : Ab.Spec ty := mkSpec slices_CompareFunc_Lapi_RowID_Lapi_RowID_api_RowID_api_RowID_A fun x => ((slices_CompareFunc_Lapi_RowID_Lapi_RowID_api_RowID_api_RowID x.1 x.2.1).1, slices_CompareFunc_Lapi_RowID_Lapi_RowID_api_RowID_api_RowID_res (slices_CompareFunc_Lapi_RowID_Lapi_RowID_api_RowID_api_RowID x.1 x.2.1).2)
theorem slices_CompareFunc_Lapi_RowID_Lapi_RowID_api_RowID_api_RowID_sound : Sound Tryz.prog base 55 slices_CompareFunc_Lapi_RowID_Lapi_RowID_api_RowID_api_RowID_spec :=
  sound_of_run (cx' := slices_CompareFunc_Lapi_RowID_Lapi_RowID_api_RowID_api_RowID_cx) draws base_ok ⟨⟨rfl, rfl, rfl, rfl, rfl, rfl⟩, rfl⟩ (spec_of [(19, rowset_Compare_spec)] ⟨(rowset_Compare_sound), trivial⟩) Tryz.call55 Tryz.func55 (c := body Tryz.f55) (by kernel_rfl) (loopsOK_of (l := [lp (body Tryz.f55) 0]) (by kernel_rfl) ⟨slices_CompareFunc_Lapi_RowID_Lapi_RowID_api_RowID_api_RowID_to2, trivial⟩) (sg := ⟨[.pure], []⟩) (A := slices_CompareFunc_Lapi_RowID_Lapi_RowID_api_RowID_api_RowID_A) (res := slices_CompareFunc_Lapi_RowID_Lapi_RowID_api_RowID_api_RowID_res) (F := fun x => slices_CompareFunc_Lapi_RowID_Lapi_RowID_api_RowID_api_RowID x.1 x.2.1) (fun x => slices_CompareFunc_Lapi_RowID_Lapi_RowID_api_RowID_api_RowID_run x.1 x.2.1) (fun _ => by kernel_rfl)
end Go.Proofs.YteopikhooiallaaGreatDoor
/- Functions of the program as plain functions, with their contracts. Printed by program. -/
set_option autoImplicit false
set_option linter.unusedVariables false
set_option linter.unusedSimpArgs false
namespace Go.Proofs.YteopikhooiallaaGreatDoor
open Go Go.Ab
/-! ### lineage/rowset.compareSets -/
noncomputable def rowset_compareSets_cx : Cx ty := { base with nt := 8, spec := fun g => List.lookup g [(19, rowset_Compare_spec), (55, slices_CompareFunc_Lapi_RowID_Lapi_RowID_api_RowID_api_RowID_spec)], io := fun g => (List.lookup g []).getD [], head := fun i => (List.lookup i []).getD [], out := outOf [], loops := fun i => List.lookup i [] }
noncomputable def rowset_compareSets (a : List RowID) (b : List RowID) : Bool × Int := bnd (slices_CompareFunc_Lapi_RowID_Lapi_RowID_api_RowID_api_RowID a b) (fun r0 => (true, r0)) (false, default)
noncomputable def rowset_compareSets_res (r : Int) : ARes ty := ⟨[.pure (.lit (.int .i64 r))], []⟩
theorem rowset_compareSets_run (a : List RowID) (b : List RowID) : runFn rowset_compareSets_cx Tryz.f28 (body Tryz.f28) ⟨[.pure], []⟩ [.pure (.sl 30 a), .pure (.sl 30 b)] = out (fun r => some (rowset_compareSets_res r)) (rowset_compareSets a b) := by
  have h : runFn rowset_compareSets_cx Tryz.f28 (body Tryz.f28) ⟨[.pure], []⟩ [.pure (.sl 30 a), .pure (.sl 30 b)] = obnd (slices_CompareFunc_Lapi_RowID_Lapi_RowID_api_RowID_api_RowID a b) (fun r1 => some ⟨[.pure (.lit (.int .i64 (r1)))], []⟩) := by kernel_rfl
  rw [rowset_compareSets]
  exact h.trans (out_ite (rfl) (rfl))
noncomputable def rowset_compareSets_A : AL base (List RowID × List RowID × Unit) := aCons (aPure (vSl 30)) (aCons (aPure (vSl 30)) aNil)
noncomputable def rowset_compareSets_spec : Ab.Spec ty := mkSpec rowset_compareSets_A fun x => ((rowset_compareSets x.1 x.2.1).1, rowset_compareSets_res (rowset_compareSets x.1 x.2.1).2)
theorem rowset_compareSets_sound : Sound Tryz.prog base 28 rowset_compareSets_spec :=
  sound_of_run (cx' := rowset_compareSets_cx) draws base_ok ⟨⟨rfl, rfl, rfl, rfl, rfl, rfl⟩, rfl⟩ (spec_of [(19, rowset_Compare_spec), (55, slices_CompareFunc_Lapi_RowID_Lapi_RowID_api_RowID_api_RowID_spec)] ⟨(rowset_Compare_sound), (slices_CompareFunc_Lapi_RowID_Lapi_RowID_api_RowID_api_RowID_sound), trivial⟩) Tryz.call28 Tryz.func28 (c := body Tryz.f28) (by kernel_rfl) (loopsOK_of (l := []) (by kernel_rfl) trivial) (sg := ⟨[.pure], []⟩) (A := rowset_compareSets_A) (res := rowset_compareSets_res) (F := fun x => rowset_compareSets x.1 x.2.1) (fun x => rowset_compareSets_run x.1 x.2.1) (fun _ => by kernel_rfl)
end Go.Proofs.YteopikhooiallaaGreatDoor
/- Functions of the program as plain functions, with their contracts. Printed by program. -/
set_option autoImplicit false
set_option linter.unusedVariables false
set_option linter.unusedSimpArgs false
namespace Go.Proofs.YteopikhooiallaaGreatDoor
open Go Go.Ab
/-! ### slices.CompactFunc[[][]lineage/api.RowID,[]lineage/api.RowID] -/
noncomputable def slices_CompactFunc_LLapi_RowID_Lapi_RowID_L9 : Nat → Int → Nat → Nat → Int → List (List RowID) → Bool × (Int × List (List RowID))
  | 0, _, _, _, _, _ => (false, default)
  | n + 1, k, s2_0, s2_1, k2, s => bif decide (k2 < Int.ofNat s2_1) then bif decide ((0 : Int) ≤ k2) && decide (k2 < Int.ofNat s2_1) then bif decide ((0 : Int) ≤ IntKind.i64.wrap (k2 - (1 : Int))) && decide (IntKind.i64.wrap (k2 - (1 : Int)) < Int.ofNat s2_1) then bnd (rowset_Family_c1 (s.getD (s2_0 + k2.toNat) default) (s.getD (s2_0 + (IntKind.i64.wrap (k2 - (1 : Int))).toNat) default)) (fun r0 => bif !r0 then bif decide ((0 : Int) ≤ k2) && decide (k2 < Int.ofNat s2_1) then bif decide ((0 : Int) ≤ k) && decide (k < Int.ofNat s.length) then bif decide (k.toNat < s.length) then slices_CompactFunc_LLapi_RowID_Lapi_RowID_L9 n (IntKind.i64.wrap (k + (1 : Int))) s2_0 s2_1 (IntKind.i64.wrap (k2 + (1 : Int))) (s.set k.toNat (s.getD (s2_0 + k2.toNat) default)) else (false, default) else (false, default) else (false, default) else slices_CompactFunc_LLapi_RowID_Lapi_RowID_L9 n k s2_0 s2_1 (IntKind.i64.wrap (k2 + (1 : Int))) s) (false, default) else (false, default) else (false, default) else (true, (k, s))
noncomputable def slices_CompactFunc_LLapi_RowID_Lapi_RowID_tr9 (r : Int × List (List RowID)) : LTree ty := .done (.exit 2) [.own 264, .lit (.int .i64 r.1)] [.arr 31 r.2 false]
noncomputable def slices_CompactFunc_LLapi_RowID_Lapi_RowID_V9 : LL ty (Unit × Unit × Int × (Nat × Nat) × Int × Unit) := llCons (lOwn 264) (llCons (lFn 30 (llNil)) (llCons (lInt .i64) (llCons (lSub 264) (llCons (lInt .i64) llNil))))
noncomputable def slices_CompactFunc_LLapi_RowID_Lapi_RowID_B9 : BL ty (List (List RowID) × Unit) := bArr 31 false (bNil)
noncomputable def slices_CompactFunc_LLapi_RowID_Lapi_RowID_sp9 : LSpec ty := mkLoop slices_CompactFunc_LLapi_RowID_Lapi_RowID_V9 slices_CompactFunc_LLapi_RowID_Lapi_RowID_B9 fun x y => ((slices_CompactFunc_LLapi_RowID_Lapi_RowID_L9 (Int.toNat x.2.2.1 + x.2.2.2.1.1 + x.2.2.2.1.2 + Int.toNat x.2.2.2.2.1 + y.1.length + 1) x.2.2.1 x.2.2.2.1.1 x.2.2.2.1.2 x.2.2.2.2.1 y.1).1, slices_CompactFunc_LLapi_RowID_Lapi_RowID_tr9 (slices_CompactFunc_LLapi_RowID_Lapi_RowID_L9 (Int.toNat x.2.2.1 + x.2.2.2.1.1 + x.2.2.2.1.2 + Int.toNat x.2.2.2.2.1 + y.1.length + 1) x.2.2.1 x.2.2.2.1.1 x.2.2.2.1.2 x.2.2.2.2.1 y.1).2)
noncomputable def slices_CompactFunc_LLapi_RowID_Lapi_RowID_L4 : Nat → Int → List (List RowID) → Bool × ((Nat × List (List RowID)) ⊕ List (List RowID))
  | 0, _, _ => (false, .inl default)
  | n + 1, k, s => bif decide (k < Int.ofNat s.length) then bif decide ((0 : Int) ≤ k) && decide (k < Int.ofNat s.length) then bif decide ((0 : Int) ≤ IntKind.i64.wrap (k - (1 : Int))) && decide (IntKind.i64.wrap (k - (1 : Int)) < Int.ofNat s.length) then bnd (rowset_Family_c1 (s.getD k.toNat default) (s.getD (IntKind.i64.wrap (k - (1 : Int))).toNat default)) (fun r3 => bif r3 then bif decide ((0 : Int) ≤ k) && decide (k ≤ Int.ofNat s.length) && decide (Int.ofNat s.length ≤ Int.ofNat s.length) then bnd (slices_CompactFunc_LLapi_RowID_Lapi_RowID_L9 (k.toNat + k.toNat + ((Int.ofNat s.length).toNat - k.toNat) + Int.toNat (1 : Int) + s.length + (1 : Nat)) k k.toNat ((Int.ofNat s.length).toNat - k.toNat) (1 : Int) s) (fun r2 => bif decide ((0 : Int) ≤ r2.fst) && decide (r2.fst ≤ Int.ofNat r2.snd.length) && decide (Int.ofNat r2.snd.length ≤ Int.ofNat r2.snd.length) then bif decide (r2.fst.toNat + ((Int.ofNat r2.snd.length).toNat - r2.fst.toNat) ≤ r2.snd.length) then bif decide ((0 : Int) ≤ (0 : Int)) && decide ((0 : Int) ≤ r2.fst) && decide (r2.fst ≤ Int.ofNat (List.take r2.fst.toNat r2.snd ++ List.replicate ((Int.ofNat r2.snd.length).toNat - r2.fst.toNat) [] ++ List.drop (r2.fst.toNat + ((Int.ofNat r2.snd.length).toNat - r2.fst.toNat)) r2.snd).length) then (true, .inl (r2.fst.toNat - Int.toNat (0 : Int), List.take r2.fst.toNat r2.snd ++ List.replicate ((Int.ofNat r2.snd.length).toNat - r2.fst.toNat) [] ++ List.drop (r2.fst.toNat + ((Int.ofNat r2.snd.length).toNat - r2.fst.toNat)) r2.snd)) else (false, .inl default) else (false, .inl default) else (false, .inl default)) (false, .inl default) else (false, .inl default) else slices_CompactFunc_LLapi_RowID_Lapi_RowID_L4 n (IntKind.i64.wrap (k + (1 : Int))) s) (false, .inl default) else (false, .inl default) else (false, .inl default) else (true, .inr s)
noncomputable def slices_CompactFunc_LLapi_RowID_Lapi_RowID_tr4 (r : (Nat × List (List RowID)) ⊕ List (List RowID)) : LTree ty := .ite (isL r) (.done .ret [.sub 264 0 ((getL r).1)] [.arr 31 ((getL r).2) false]) (.done (.exit 0) [.own 264] [.arr 31 (getR r) false])
noncomputable def slices_CompactFunc_LLapi_RowID_Lapi_RowID_V4 : LL ty (Unit × Unit × Int × Unit) := llCons (lOwn 264) (llCons (lFn 30 (llNil)) (llCons (lInt .i64) llNil))
noncomputable def slices_CompactFunc_LLapi_RowID_Lapi_RowID_B4 : BL ty (List (List RowID) × Unit) := bArr 31 false (bNil)
noncomputable def slices_CompactFunc_LLapi_RowID_Lapi_RowID_sp4 : LSpec ty := mkLoop slices_CompactFunc_LLapi_RowID_Lapi_RowID_V4 slices_CompactFunc_LLapi_RowID_Lapi_RowID_B4 fun x y => ((slices_CompactFunc_LLapi_RowID_Lapi_RowID_L4 (Int.toNat x.2.2.1 + y.1.length + 1) x.2.2.1 y.1).1, slices_CompactFunc_LLapi_RowID_Lapi_RowID_tr4 (slices_CompactFunc_LLapi_RowID_Lapi_RowID_L4 (Int.toNat x.2.2.1 + y.1.length + 1) x.2.2.1 y.1).2)
noncomputable def slices_CompactFunc_LLapi_RowID_Lapi_RowID_cx : Cx ty := { base with nt := 66, spec := fun g => List.lookup g [(30, rowset_Family_c1_spec)], io := fun g => (List.lookup g []).getD [], head := fun i => (List.lookup i [(4, [(0, .keep), (1, .keep), (5, .keep)]), (9, [(0, .keep), (1, .keep), (5, .keep), (6, .keep), (7, .keep)])]).getD [], out := outOf [(4, 1, [(0, .keep)]), (4, 0, [(4, .keep)]), (9, 3, [(0, .keep), (5, .keep)])], loops := fun i => List.lookup i [(9, slices_CompactFunc_LLapi_RowID_Lapi_RowID_sp9), (4, slices_CompactFunc_LLapi_RowID_Lapi_RowID_sp4)] }
theorem slices_CompactFunc_LLapi_RowID_Lapi_RowID_round9 {R : Type} (H : List (AV ty) → List (Blk ty) → Option R) (K : Ex → List (AV ty) → List (Blk ty) → Option R) (k : Int) (s2_0 : Nat) (s2_1 : Nat) (k2 : Int) (s : List (List RowID)) : roundK slices_CompactFunc_LLapi_RowID_Lapi_RowID_cx (lp (body Tryz.f29) 1) H K [.own 264, .fn 30 ([]), .lit (.int .i64 k), .sub 264 s2_0 s2_1, .lit (.int .i64 k2)] [.arr 31 s false] = bif decide (k2 < Int.ofNat s2_1) then bif decide ((0 : Int) ≤ k2) && decide (k2 < Int.ofNat s2_1) then bif decide ((0 : Int) ≤ IntKind.i64.wrap (k2 - (1 : Int))) && decide (IntKind.i64.wrap (k2 - (1 : Int)) < Int.ofNat s2_1) then obnd (rowset_Family_c1 (s.getD (s2_0 + k2.toNat) default) (s.getD (s2_0 + (IntKind.i64.wrap (k2 - (1 : Int))).toNat) default)) (fun r1 => bif !r1 then bif decide ((0 : Int) ≤ k2) && decide (k2 < Int.ofNat s2_1) then bif decide ((0 : Int) ≤ k) && decide (k < Int.ofNat s.length) then bif decide (k.toNat < s.length) then H [.own 264, .fn 30 ([]), .lit (.int .i64 (IntKind.i64.wrap (k + (1 : Int)))), .sub 264 s2_0 s2_1, .lit (.int .i64 (IntKind.i64.wrap (k2 + (1 : Int))))] [.arr 31 (s.set k.toNat (s.getD (s2_0 + k2.toNat) default)) false] else none else none else none else H [.own 264, .fn 30 ([]), .lit (.int .i64 k), .sub 264 s2_0 s2_1, .lit (.int .i64 (IntKind.i64.wrap (k2 + (1 : Int))))] [.arr 31 s false]) else none else none else K (.exit 2) [.own 264, .lit (.int .i64 k)] [.arr 31 s false] := by kernel_rfl
theorem slices_CompactFunc_LLapi_RowID_Lapi_RowID_loop9 (R : Type) (K : Ex → List (AV ty) → List (Blk ty) → Option R) : ∀ (n : Nat) (k : Int) (s2_0 : Nat) (s2_1 : Nat) (k2 : Int) (s : List (List RowID)), loopI slices_CompactFunc_LLapi_RowID_Lapi_RowID_cx (lp (body Tryz.f29) 1) K n [.own 264, .fn 30 ([]), .lit (.int .i64 k), .sub 264 s2_0 s2_1, .lit (.int .i64 k2)] [.arr 31 s false] = out (fun r => treeK K (slices_CompactFunc_LLapi_RowID_Lapi_RowID_tr9 r)) (slices_CompactFunc_LLapi_RowID_Lapi_RowID_L9 n k s2_0 s2_1 k2 s)
  | 0, _, _, _, _, _ => rfl
  | n + 1, k, s2_0, s2_1, k2, s => by
    have ih := slices_CompactFunc_LLapi_RowID_Lapi_RowID_loop9 R K n
    rw [slices_CompactFunc_LLapi_RowID_Lapi_RowID_L9]
    exact (slices_CompactFunc_LLapi_RowID_Lapi_RowID_round9 (loopI slices_CompactFunc_LLapi_RowID_Lapi_RowID_cx (lp (body Tryz.f29) 1) K n) K k s2_0 s2_1 k2 s).trans (out_ite (out_ite (out_ite (out_ite (out_ite (out_ite (out_ite (out_ite (ih (IntKind.i64.wrap (k + (1 : Int))) s2_0 s2_1 (IntKind.i64.wrap (k2 + (1 : Int))) (s.set k.toNat (s.getD (s2_0 + k2.toNat) default))) (rfl)) (rfl)) (rfl)) (ih k s2_0 s2_1 (IntKind.i64.wrap (k2 + (1 : Int))) s)) (rfl)) (rfl)) (rfl)) (rfl))
theorem slices_CompactFunc_LLapi_RowID_Lapi_RowID_to9 : LoopOK slices_CompactFunc_LLapi_RowID_Lapi_RowID_cx (lp (body Tryz.f29) 1) := loopOK_of (id := 9) (sp := slices_CompactFunc_LLapi_RowID_Lapi_RowID_sp9) (by kernel_rfl) (by kernel_rfl) (loopTo_of (V := slices_CompactFunc_LLapi_RowID_Lapi_RowID_V9) (B := slices_CompactFunc_LLapi_RowID_Lapi_RowID_B9) (L := fun n x y => slices_CompactFunc_LLapi_RowID_Lapi_RowID_L9 n x.2.2.1 x.2.2.2.1.1 x.2.2.2.1.2 x.2.2.2.2.1 y.1) (tr := slices_CompactFunc_LLapi_RowID_Lapi_RowID_tr9) (m := fun x y => Int.toNat x.2.2.1 + x.2.2.2.1.1 + x.2.2.2.1.2 + Int.toNat x.2.2.2.2.1 + y.1.length + 1) fun R K n x y => slices_CompactFunc_LLapi_RowID_Lapi_RowID_loop9 R K n x.2.2.1 x.2.2.2.1.1 x.2.2.2.1.2 x.2.2.2.2.1 y.1)
theorem slices_CompactFunc_LLapi_RowID_Lapi_RowID_round4 {R : Type} (H : List (AV ty) → List (Blk ty) → Option R) (K : Ex → List (AV ty) → List (Blk ty) → Option R) (k : Int) (s : List (List RowID)) : roundK slices_CompactFunc_LLapi_RowID_Lapi_RowID_cx (lp (body Tryz.f29) 0) H K [.own 264, .fn 30 ([]), .lit (.int .i64 k)] [.arr 31 s false] = bif decide (k < Int.ofNat s.length) then bif decide ((0 : Int) ≤ k) && decide (k < Int.ofNat s.length) then bif decide ((0 : Int) ≤ IntKind.i64.wrap (k - (1 : Int))) && decide (IntKind.i64.wrap (k - (1 : Int)) < Int.ofNat s.length) then obnd (rowset_Family_c1 (s.getD k.toNat default) (s.getD (IntKind.i64.wrap (k - (1 : Int))).toNat default)) (fun r5 => bif r5 then bif decide ((0 : Int) ≤ k) && decide (k ≤ Int.ofNat s.length) && decide (Int.ofNat s.length ≤ Int.ofNat s.length) then obnd (slices_CompactFunc_LLapi_RowID_Lapi_RowID_L9 (k.toNat + k.toNat + ((Int.ofNat s.length).toNat - k.toNat) + Int.toNat (1 : Int) + s.length + (1 : Nat)) k k.toNat ((Int.ofNat s.length).toNat - k.toNat) (1 : Int) s) (fun r4 => bif decide ((0 : Int) ≤ r4.fst) && decide (r4.fst ≤ Int.ofNat r4.snd.length) && decide (Int.ofNat r4.snd.length ≤ Int.ofNat r4.snd.length) then bif decide (r4.fst.toNat + ((Int.ofNat r4.snd.length).toNat - r4.fst.toNat) ≤ r4.snd.length) then bif decide ((0 : Int) ≤ (0 : Int)) && decide ((0 : Int) ≤ r4.fst) && decide (r4.fst ≤ Int.ofNat (List.take r4.fst.toNat r4.snd ++ List.replicate ((Int.ofNat r4.snd.length).toNat - r4.fst.toNat) [] ++ List.drop (r4.fst.toNat + ((Int.ofNat r4.snd.length).toNat - r4.fst.toNat)) r4.snd).length) then K .ret [.sub 264 0 (r4.fst.toNat - Int.toNat (0 : Int))] [.arr 31 (List.take r4.fst.toNat r4.snd ++ List.replicate ((Int.ofNat r4.snd.length).toNat - r4.fst.toNat) [] ++ List.drop (r4.fst.toNat + ((Int.ofNat r4.snd.length).toNat - r4.fst.toNat)) r4.snd) false] else none else none else none) else none else H [.own 264, .fn 30 ([]), .lit (.int .i64 (IntKind.i64.wrap (k + (1 : Int))))] [.arr 31 s false]) else none else none else K (.exit 0) [.own 264] [.arr 31 s false] := by kernel_rfl
theorem slices_CompactFunc_LLapi_RowID_Lapi_RowID_loop4 (R : Type) (K : Ex → List (AV ty) → List (Blk ty) → Option R) : ∀ (n : Nat) (k : Int) (s : List (List RowID)), loopI slices_CompactFunc_LLapi_RowID_Lapi_RowID_cx (lp (body Tryz.f29) 0) K n [.own 264, .fn 30 ([]), .lit (.int .i64 k)] [.arr 31 s false] = out (fun r => treeK K (slices_CompactFunc_LLapi_RowID_Lapi_RowID_tr4 r)) (slices_CompactFunc_LLapi_RowID_Lapi_RowID_L4 n k s)
  | 0, _, _ => rfl
  | n + 1, k, s => by
    have ih := slices_CompactFunc_LLapi_RowID_Lapi_RowID_loop4 R K n
    rw [slices_CompactFunc_LLapi_RowID_Lapi_RowID_L4]
    exact (slices_CompactFunc_LLapi_RowID_Lapi_RowID_round4 (loopI slices_CompactFunc_LLapi_RowID_Lapi_RowID_cx (lp (body Tryz.f29) 0) K n) K k s).trans (out_ite (out_ite (out_ite (out_ite (out_ite (out_ite (out_ite (out_ite (out_ite (out_ite (rfl) (rfl)) (rfl)) (rfl)) (rfl)) (rfl)) (ih (IntKind.i64.wrap (k + (1 : Int))) s)) (rfl)) (rfl)) (rfl)) (rfl))
theorem slices_CompactFunc_LLapi_RowID_Lapi_RowID_to4 : LoopOK slices_CompactFunc_LLapi_RowID_Lapi_RowID_cx (lp (body Tryz.f29) 0) := loopOK_of (id := 4) (sp := slices_CompactFunc_LLapi_RowID_Lapi_RowID_sp4) (by kernel_rfl) (by kernel_rfl) (loopTo_of (V := slices_CompactFunc_LLapi_RowID_Lapi_RowID_V4) (B := slices_CompactFunc_LLapi_RowID_Lapi_RowID_B4) (L := fun n x y => slices_CompactFunc_LLapi_RowID_Lapi_RowID_L4 n x.2.2.1 y.1) (tr := slices_CompactFunc_LLapi_RowID_Lapi_RowID_tr4) (m := fun x y => Int.toNat x.2.2.1 + y.1.length + 1) fun R K n x y => slices_CompactFunc_LLapi_RowID_Lapi_RowID_loop4 R K n x.2.2.1 y.1)
noncomputable def slices_CompactFunc_LLapi_RowID_Lapi_RowID (s : List (List RowID)) : Bool × List (List RowID) := bif decide (Int.ofNat s.length < (2 : Int)) then (true, s) else bnd (slices_CompactFunc_LLapi_RowID_Lapi_RowID_L4 (Int.toNat (1 : Int) + s.length + (1 : Nat)) (1 : Int) s) (fun r6 => bif isL r6 then (true, List.take (getL r6).fst (getL r6).snd) else (true, getR r6)) (false, default)
noncomputable def slices_CompactFunc_LLapi_RowID_Lapi_RowID_res (r : List (List RowID)) : ARes ty := ⟨[.own 31 r], [none]⟩
theorem slices_CompactFunc_LLapi_RowID_Lapi_RowID_run (s : List (List RowID)) : runFn slices_CompactFunc_LLapi_RowID_Lapi_RowID_cx Tryz.f29 (body Tryz.f29) ⟨[.own 31], [false]⟩ [.own 31 s, .pure (.fn 30 [])] = out (fun r => some (slices_CompactFunc_LLapi_RowID_Lapi_RowID_res r)) (slices_CompactFunc_LLapi_RowID_Lapi_RowID s) := by
  have h : runFn slices_CompactFunc_LLapi_RowID_Lapi_RowID_cx Tryz.f29 (body Tryz.f29) ⟨[.own 31], [false]⟩ [.own 31 s, .pure (.fn 30 [])] = bif decide (Int.ofNat s.length < (2 : Int)) then some ⟨[.own 31 s], [none]⟩ else obnd (slices_CompactFunc_LLapi_RowID_Lapi_RowID_L4 (Int.toNat (1 : Int) + s.length + (1 : Nat)) (1 : Int) s) (fun r7 => bif isL r7 then some ⟨[.own 31 (List.take (getL r7).fst (getL r7).snd)], [none]⟩ else some ⟨[.own 31 (getR r7)], [none]⟩) := by kernel_rfl
  rw [slices_CompactFunc_LLapi_RowID_Lapi_RowID]
  exact h.trans (out_ite (rfl) (out_ite (out_ite (rfl) (rfl)) (rfl)))
noncomputable def slices_CompactFunc_LLapi_RowID_Lapi_RowID_A : AL base (List (List RowID) × Unit × Unit) := aCons (aOwn 31) (aCons (aPure (vFn 30 vNil)) aNil)
noncomputable def slices_CompactFunc_LLapi_RowID_Lapi_RowID_spec : Ab.Spec ty := mkSpec slices_CompactFunc_LLapi_RowID_Lapi_RowID_A fun x => ((slices_CompactFunc_LLapi_RowID_Lapi_RowID x.1).1, slices_CompactFunc_LLapi_RowID_Lapi_RowID_res (slices_CompactFunc_LLapi_RowID_Lapi_RowID x.1).2)
theorem slices_CompactFunc_LLapi_RowID_Lapi_RowID_sound : Sound Tryz.prog base 29 slices_CompactFunc_LLapi_RowID_Lapi_RowID_spec :=
  sound_of_run (cx' := slices_CompactFunc_LLapi_RowID_Lapi_RowID_cx) draws base_ok ⟨⟨rfl, rfl, rfl, rfl, rfl, rfl⟩, rfl⟩ (spec_of [(30, rowset_Family_c1_spec)] ⟨(rowset_Family_c1_sound), trivial⟩) Tryz.call29 Tryz.func29 (c := body Tryz.f29) (by kernel_rfl) (loopsOK_of (l := [lp (body Tryz.f29) 0, lp (body Tryz.f29) 1]) (by kernel_rfl) ⟨slices_CompactFunc_LLapi_RowID_Lapi_RowID_to4, slices_CompactFunc_LLapi_RowID_Lapi_RowID_to9, trivial⟩) (sg := ⟨[.own 31], [false]⟩) (A := slices_CompactFunc_LLapi_RowID_Lapi_RowID_A) (res := slices_CompactFunc_LLapi_RowID_Lapi_RowID_res) (F := fun x => slices_CompactFunc_LLapi_RowID_Lapi_RowID x.1) (fun x => slices_CompactFunc_LLapi_RowID_Lapi_RowID_run x.1) (fun _ => by kernel_rfl)
end Go.Proofs.YteopikhooiallaaGreatDoor
/- Functions of the program as plain functions, with their contracts. Printed by program. -/
set_option autoImplicit false
set_option linter.unusedVariables false
set_option linter.unusedSimpArgs false
namespace Go.Proofs.YteopikhooiallaaGreatDoor
open Go Go.Ab
/-! ### slices.SortFunc[[][]lineage/api.RowID,[]lineage/api.RowID] -/
noncomputable def slices_SortFunc_LLapi_RowID_Lapi_RowID (x : List (List RowID)) : Bool × List (List RowID) := sortFunc (fun a b => rowset_compareSets a b) x
noncomputable def slices_SortFunc_LLapi_RowID_Lapi_RowID_spec : Ab.Spec ty := mkSpec (cx := base) (aCons (aOwn 31) (aCons (aPure (vFn 28 (vNil))) aNil)) fun x => ((slices_SortFunc_LLapi_RowID_Lapi_RowID x.1).1, ⟨[], [some ⟨31, (slices_SortFunc_LLapi_RowID_Lapi_RowID x.1).2⟩]⟩)
theorem slices_SortFunc_LLapi_RowID_Lapi_RowID_cmp (c : Unit) (x y : (List RowID)) (h : (rowset_compareSets x y).1 = true) : rowset_compareSets_spec (((.sl 30 x : AV ty) :: (.sl 30 y : AV ty) :: (vNil : VL base (Unit)).enc c).map Arg.pure) = some (true, ⟨[.pure (.lit (.int .i64 (rowset_compareSets x y).2))], []⟩) := by
  rw [← h]; kernel_rfl
theorem slices_SortFunc_LLapi_RowID_Lapi_RowID_sound : Sound Tryz.prog base 27 slices_SortFunc_LLapi_RowID_Lapi_RowID_spec := by
  letI : DecidableEq (ty 31) := inferInstanceAs (DecidableEq (List RowID))
  exact sort1_sound (T := 31) base_ok rfl Go.Proofs.Tryz.sortSet (fun x : (List RowID) => (.sl 30 x : AV ty)) (fun _ => rfl) Tryz.call27 rowset_compareSets_sound (vNil) (fun c => fun a b => rowset_compareSets a b) slices_SortFunc_LLapi_RowID_Lapi_RowID_cmp
end Go.Proofs.YteopikhooiallaaGreatDoor
/- Functions of the program as plain functions, with their contracts. Printed by program. -/
set_option autoImplicit false
set_option linter.unusedVariables false
set_option linter.unusedSimpArgs false
namespace Go.Proofs.YteopikhooiallaaGreatDoor
open Go Go.Ab
/-! ### lineage/rowset.Family -/
noncomputable def rowset_Family_L3 : Nat → List (List RowID) → Int → Int → List (List RowID) → Bool × List (List RowID)
  | 0, _, _, _, _ => (false, default)
  | n + 1, t6, t7, t8, out_ => bif decide (t8 < t7) then bif decide ((0 : Int) ≤ t8) && decide (t8 < Int.ofNat t6.length) then bnd (rowset_Normalize (t6.getD t8.toNat default)) (fun r0 => bif decide ((out_.length + [r0].length) * (24 : Nat) ≤ reach) then rowset_Family_L3 n t6 t7 (IntKind.i64.wrap (t8 + (1 : Int))) (out_ ++ [r0]) else (false, default)) (false, default) else (false, default) else (true, out_)
noncomputable def rowset_Family_tr3 (r : List (List RowID)) : LTree ty := .done (.exit 0) [.own 88] [.arr 31 r false]
noncomputable def rowset_Family_V3 : LL ty (Unit × List (List RowID) × Int × Int × Unit) := llCons (lOwn 88) (llCons (lSl 31) (llCons (lInt .i64) (llCons (lInt .i64) llNil)))
noncomputable def rowset_Family_B3 : BL ty (List (List RowID) × Unit) := bArr 31 false (bNil)
noncomputable def rowset_Family_sp3 : LSpec ty := mkLoop rowset_Family_V3 rowset_Family_B3 fun x y => ((rowset_Family_L3 (x.2.1.length + Int.toNat x.2.2.1 + Int.toNat x.2.2.2.1 + y.1.length + 1) x.2.1 x.2.2.1 x.2.2.2.1 y.1).1, rowset_Family_tr3 (rowset_Family_L3 (x.2.1.length + Int.toNat x.2.2.1 + Int.toNat x.2.2.2.1 + y.1.length + 1) x.2.1 x.2.2.1 x.2.2.2.1 y.1).2)
noncomputable def rowset_Family_cx : Cx ty := { base with nt := 22, spec := fun g => List.lookup g [(26, rowset_Normalize_spec), (27, slices_SortFunc_LLapi_RowID_Lapi_RowID_spec), (28, rowset_compareSets_spec), (29, slices_CompactFunc_LLapi_RowID_Lapi_RowID_spec), (30, rowset_Family_c1_spec)], io := fun g => (List.lookup g [(27, [true, false]), (29, [true, false])]).getD [], head := fun i => (List.lookup i [(3, [(3, .own 31), (6, .keep), (7, .keep), (8, .keep)])]).getD [], out := outOf [(3, 1, [(3, .keep)])], loops := fun i => List.lookup i [(3, rowset_Family_sp3)] }
theorem rowset_Family_round3 {R : Type} (H : List (AV ty) → List (Blk ty) → Option R) (K : Ex → List (AV ty) → List (Blk ty) → Option R) (t6 : List (List RowID)) (t7 : Int) (t8 : Int) (out_ : List (List RowID)) : roundK rowset_Family_cx (lp (body Tryz.f9) 0) H K [.own 88, .sl 31 t6, .lit (.int .i64 t7), .lit (.int .i64 t8)] [.arr 31 out_ false] = bif decide (t8 < t7) then bif decide ((0 : Int) ≤ t8) && decide (t8 < Int.ofNat t6.length) then obnd (rowset_Normalize (t6.getD t8.toNat default)) (fun r1 => bif decide ((out_.length + [r1].length) * (24 : Nat) ≤ reach) then H [.own 88, .sl 31 t6, .lit (.int .i64 t7), .lit (.int .i64 (IntKind.i64.wrap (t8 + (1 : Int))))] [.arr 31 (out_ ++ [r1]) false] else none) else none else K (.exit 0) [.own 88] [.arr 31 out_ false] := by kernel_rfl
theorem rowset_Family_loop3 (R : Type) (K : Ex → List (AV ty) → List (Blk ty) → Option R) : ∀ (n : Nat) (t6 : List (List RowID)) (t7 : Int) (t8 : Int) (out_ : List (List RowID)), loopI rowset_Family_cx (lp (body Tryz.f9) 0) K n [.own 88, .sl 31 t6, .lit (.int .i64 t7), .lit (.int .i64 t8)] [.arr 31 out_ false] = out (fun r => treeK K (rowset_Family_tr3 r)) (rowset_Family_L3 n t6 t7 t8 out_)
  | 0, _, _, _, _ => rfl
  | n + 1, t6, t7, t8, out_ => by
    have ih := rowset_Family_loop3 R K n
    rw [rowset_Family_L3]
    exact (rowset_Family_round3 (loopI rowset_Family_cx (lp (body Tryz.f9) 0) K n) K t6 t7 t8 out_).trans (out_ite (out_ite (out_ite (out_ite (ih t6 t7 (IntKind.i64.wrap (t8 + (1 : Int))) (out_ ++ [(rowset_Normalize (t6.getD t8.toNat default)).snd])) (rfl)) (rfl)) (rfl)) (rfl))
theorem rowset_Family_to3 : LoopOK rowset_Family_cx (lp (body Tryz.f9) 0) := loopOK_of (id := 3) (sp := rowset_Family_sp3) (by kernel_rfl) (by kernel_rfl) (loopTo_of (V := rowset_Family_V3) (B := rowset_Family_B3) (L := fun n x y => rowset_Family_L3 n x.2.1 x.2.2.1 x.2.2.2.1 y.1) (tr := rowset_Family_tr3) (m := fun x y => x.2.1.length + Int.toNat x.2.2.1 + Int.toNat x.2.2.2.1 + y.1.length + 1) fun R K n x y => rowset_Family_loop3 R K n x.2.1 x.2.2.1 x.2.2.2.1 y.1)
noncomputable def rowset_Family (l : List (List RowID)) : Bool × List (List RowID) := bnd (rowset_Family_L3 (l.length + (Int.ofNat l.length).toNat + Int.toNat (0 : Int) + (0 : Nat) + (1 : Nat)) l (Int.ofNat l.length) (0 : Int) []) (fun r4 => bnd (slices_SortFunc_LLapi_RowID_Lapi_RowID r4) (fun r3 => bnd (slices_CompactFunc_LLapi_RowID_Lapi_RowID r3) (fun r2 => (true, r2)) (false, default)) (false, default)) (false, default)
noncomputable def rowset_Family_res (r : List (List RowID)) : ARes ty := ⟨[.own 31 r], []⟩
theorem rowset_Family_run (l : List (List RowID)) : runFn rowset_Family_cx Tryz.f9 (body Tryz.f9) ⟨[.own 31], []⟩ [.pure (.sl 31 l)] = out (fun r => some (rowset_Family_res r)) (rowset_Family l) := by
  have h : runFn rowset_Family_cx Tryz.f9 (body Tryz.f9) ⟨[.own 31], []⟩ [.pure (.sl 31 l)] = obnd (rowset_Family_L3 (l.length + (Int.ofNat l.length).toNat + Int.toNat (0 : Int) + (0 : Nat) + (1 : Nat)) l (Int.ofNat l.length) (0 : Int) []) (fun r7 => obnd (slices_SortFunc_LLapi_RowID_Lapi_RowID r7) (fun r6 => obnd (slices_CompactFunc_LLapi_RowID_Lapi_RowID r6) (fun r5 => some ⟨[.own 31 (r5)], []⟩))) := by kernel_rfl
  rw [rowset_Family]
  exact h.trans (out_ite (out_ite (out_ite (rfl) (rfl)) (rfl)) (rfl))
noncomputable def rowset_Family_A : AL base (List (List RowID) × Unit) := aCons (aPure (vSl 31)) aNil
noncomputable def rowset_Family_spec : Ab.Spec ty := mkSpec rowset_Family_A fun x => ((rowset_Family x.1).1, rowset_Family_res (rowset_Family x.1).2)
theorem rowset_Family_sound : Sound Tryz.prog base 9 rowset_Family_spec :=
  sound_of_run (cx' := rowset_Family_cx) draws base_ok ⟨⟨rfl, rfl, rfl, rfl, rfl, rfl⟩, rfl⟩ (spec_of [(26, rowset_Normalize_spec), (27, slices_SortFunc_LLapi_RowID_Lapi_RowID_spec), (28, rowset_compareSets_spec), (29, slices_CompactFunc_LLapi_RowID_Lapi_RowID_spec), (30, rowset_Family_c1_spec)] ⟨(rowset_Normalize_sound), (slices_SortFunc_LLapi_RowID_Lapi_RowID_sound), (rowset_compareSets_sound), (slices_CompactFunc_LLapi_RowID_Lapi_RowID_sound), (rowset_Family_c1_sound), trivial⟩) Tryz.call9 Tryz.func9 (c := body Tryz.f9) (by kernel_rfl) (loopsOK_of (l := [lp (body Tryz.f9) 0]) (by kernel_rfl) ⟨rowset_Family_to3, trivial⟩) (sg := ⟨[.own 31], []⟩) (A := rowset_Family_A) (res := rowset_Family_res) (F := fun x => rowset_Family x.1) (fun x => rowset_Family_run x.1) (fun _ => by kernel_rfl)
end Go.Proofs.YteopikhooiallaaGreatDoor
/- Functions of the program as plain functions, with their contracts. Printed by program. -/
set_option autoImplicit false
set_option linter.unusedVariables false
set_option linter.unusedSimpArgs false
namespace Go.Proofs.YteopikhooiallaaGreatDoor
open Go Go.Ab
/-! ### slices.Index[[]lineage/api.RowID,lineage/api.RowID] -/
noncomputable def slices_Index_Lapi_RowID_api_RowID_L2 : Nat → List RowID → Int → Int → RowID → Bool × (Int ⊕ Unit)
  | 0, _, _, _, _ => (false, .inl default)
  | n + 1, s, t7, t8, v => bif decide (t8 < t7) then bif decide ((0 : Int) ≤ t8) && decide (t8 < Int.ofNat s.length) then bif v.Table == (s.getD t8.toNat default).Table && (v.Seq == (s.getD t8.toNat default).Seq && true) then (true, .inl t8) else slices_Index_Lapi_RowID_api_RowID_L2 n s t7 (IntKind.i64.wrap (t8 + (1 : Int))) v else (false, .inl default) else (true, .inr ())
noncomputable def slices_Index_Lapi_RowID_api_RowID_tr2 (r : Int ⊕ Unit) : LTree ty := .ite (isL r) (.done .ret [.lit (.int .i64 (getL r))] []) (.done (.exit 0) [] [])
noncomputable def slices_Index_Lapi_RowID_api_RowID_V2 : LL ty (List RowID × Unit × Int × Int × Unit) := llCons (lSl 30) (llCons (lPtrC 76 0) (llCons (lInt .i64) (llCons (lInt .i64) llNil)))
noncomputable def slices_Index_Lapi_RowID_api_RowID_B2 : BL ty (RowID × Unit) := bBox (llMap (fun x => (⟨x.1, x.2.1⟩ : RowID)) (fun x => (x.Table, x.Seq, ())) (fun _ => rfl) (llCons (lInt .i64) (llCons (lInt .i64) llNil))) false (bNil)
noncomputable def slices_Index_Lapi_RowID_api_RowID_sp2 : LSpec ty := mkLoop slices_Index_Lapi_RowID_api_RowID_V2 slices_Index_Lapi_RowID_api_RowID_B2 fun x y => ((slices_Index_Lapi_RowID_api_RowID_L2 (x.1.length + Int.toNat x.2.2.1 + Int.toNat x.2.2.2.1 + 1) x.1 x.2.2.1 x.2.2.2.1 y.1).1, slices_Index_Lapi_RowID_api_RowID_tr2 (slices_Index_Lapi_RowID_api_RowID_L2 (x.1.length + Int.toNat x.2.2.1 + Int.toNat x.2.2.2.1 + 1) x.1 x.2.2.1 x.2.2.2.1 y.1).2)
noncomputable def slices_Index_Lapi_RowID_api_RowID_cx : Cx ty := { base with nt := 19, spec := fun g => List.lookup g [], io := fun g => (List.lookup g []).getD [], head := fun i => (List.lookup i [(2, [(0, .keep), (3, .keep), (7, .keep), (8, .keep)])]).getD [], out := outOf [(2, 1, []), (2, 0, [(4, .keep)])], loops := fun i => List.lookup i [(2, slices_Index_Lapi_RowID_api_RowID_sp2)] }
theorem slices_Index_Lapi_RowID_api_RowID_round2 {R : Type} (H : List (AV ty) → List (Blk ty) → Option R) (K : Ex → List (AV ty) → List (Blk ty) → Option R) (s : List RowID) (t7 : Int) (t8 : Int) (v : RowID) : roundK slices_Index_Lapi_RowID_api_RowID_cx (lp (body Tryz.f108) 0) H K [.sl 30 s, .ptr 76 0, .lit (.int .i64 t7), .lit (.int .i64 t8)] [.box (base.enc 30 v) false] = bif decide (t8 < t7) then bif decide ((0 : Int) ≤ t8) && decide (t8 < Int.ofNat s.length) then bif v.Table == (s.getD t8.toNat default).Table && (v.Seq == (s.getD t8.toNat default).Seq && true) then K .ret [.lit (.int .i64 t8)] [] else H [.sl 30 s, .ptr 76 0, .lit (.int .i64 t7), .lit (.int .i64 (IntKind.i64.wrap (t8 + (1 : Int))))] [.box (base.enc 30 v) false] else none else K (.exit 0) [] [] := by kernel_rfl
theorem slices_Index_Lapi_RowID_api_RowID_loop2 (R : Type) (K : Ex → List (AV ty) → List (Blk ty) → Option R) : ∀ (n : Nat) (s : List RowID) (t7 : Int) (t8 : Int) (v : RowID), loopI slices_Index_Lapi_RowID_api_RowID_cx (lp (body Tryz.f108) 0) K n [.sl 30 s, .ptr 76 0, .lit (.int .i64 t7), .lit (.int .i64 t8)] [.box (base.enc 30 v) false] = out (fun r => treeK K (slices_Index_Lapi_RowID_api_RowID_tr2 r)) (slices_Index_Lapi_RowID_api_RowID_L2 n s t7 t8 v)
  | 0, _, _, _, _ => rfl
  | n + 1, s, t7, t8, v => by
    have ih := slices_Index_Lapi_RowID_api_RowID_loop2 R K n
    rw [slices_Index_Lapi_RowID_api_RowID_L2]
    exact (slices_Index_Lapi_RowID_api_RowID_round2 (loopI slices_Index_Lapi_RowID_api_RowID_cx (lp (body Tryz.f108) 0) K n) K s t7 t8 v).trans (out_ite (out_ite (out_ite (rfl) (ih s t7 (IntKind.i64.wrap (t8 + (1 : Int))) v)) (rfl)) (rfl))
theorem slices_Index_Lapi_RowID_api_RowID_to2 : LoopOK slices_Index_Lapi_RowID_api_RowID_cx (lp (body Tryz.f108) 0) := loopOK_of (id := 2) (sp := slices_Index_Lapi_RowID_api_RowID_sp2) (by kernel_rfl) (by kernel_rfl) (loopTo_of (V := slices_Index_Lapi_RowID_api_RowID_V2) (B := slices_Index_Lapi_RowID_api_RowID_B2) (L := fun n x y => slices_Index_Lapi_RowID_api_RowID_L2 n x.1 x.2.2.1 x.2.2.2.1 y.1) (tr := slices_Index_Lapi_RowID_api_RowID_tr2) (m := fun x y => x.1.length + Int.toNat x.2.2.1 + Int.toNat x.2.2.2.1 + 1) fun R K n x y => slices_Index_Lapi_RowID_api_RowID_loop2 R K n x.1 x.2.2.1 x.2.2.2.1 y.1)
noncomputable def slices_Index_Lapi_RowID_api_RowID (s : List RowID) (v : RowID) : Bool × Int := bnd (slices_Index_Lapi_RowID_api_RowID_L2 (s.length + (Int.ofNat s.length).toNat + Int.toNat (0 : Int) + (1 : Nat)) s (Int.ofNat s.length) (0 : Int) v) (fun r0 => bif isL r0 then (true, getL r0) else (true, (-1 : Int))) (false, default)
noncomputable def slices_Index_Lapi_RowID_api_RowID_res (r : Int) : ARes ty := ⟨[.pure (.lit (.int .i64 r))], []⟩
theorem slices_Index_Lapi_RowID_api_RowID_run (s : List RowID) (v : RowID) : runFn slices_Index_Lapi_RowID_api_RowID_cx Tryz.f108 (body Tryz.f108) ⟨[.pure], []⟩ [.pure (.sl 30 s), .pure (.agg (base.enc 30 v))] = out (fun r => some (slices_Index_Lapi_RowID_api_RowID_res r)) (slices_Index_Lapi_RowID_api_RowID s v) := by
  have h : runFn slices_Index_Lapi_RowID_api_RowID_cx Tryz.f108 (body Tryz.f108) ⟨[.pure], []⟩ [.pure (.sl 30 s), .pure (.agg (base.enc 30 v))] = obnd (slices_Index_Lapi_RowID_api_RowID_L2 (s.length + (Int.ofNat s.length).toNat + Int.toNat (0 : Int) + (1 : Nat)) s (Int.ofNat s.length) (0 : Int) v) (fun r1 => bif isL r1 then some ⟨[.pure (.lit (.int .i64 (getL r1)))], []⟩ else some ⟨[.pure (.lit (.int .i64 (-1 : Int)))], []⟩) := by kernel_rfl
  rw [slices_Index_Lapi_RowID_api_RowID]
  exact h.trans (out_ite (out_ite (rfl) (rfl)) (rfl))
noncomputable def slices_Index_Lapi_RowID_api_RowID_A : AL base (List RowID × RowID × Unit) := aCons (aPure (vSl 30)) (aCons (aPure (vAgg 30)) aNil)
noncomputable def slices_Index_Lapi_RowID_api_RowID_spec : Ab.Spec ty := mkSpec slices_Index_Lapi_RowID_api_RowID_A fun x => ((slices_Index_Lapi_RowID_api_RowID x.1 x.2.1).1, slices_Index_Lapi_RowID_api_RowID_res (slices_Index_Lapi_RowID_api_RowID x.1 x.2.1).2)
theorem slices_Index_Lapi_RowID_api_RowID_sound : Sound Tryz.prog base 108 slices_Index_Lapi_RowID_api_RowID_spec :=
  sound_of_run (cx' := slices_Index_Lapi_RowID_api_RowID_cx) draws base_ok ⟨⟨rfl, rfl, rfl, rfl, rfl, rfl⟩, rfl⟩ (spec_of [] trivial) Tryz.call108 Tryz.func108 (c := body Tryz.f108) (by kernel_rfl) (loopsOK_of (l := [lp (body Tryz.f108) 0]) (by kernel_rfl) ⟨slices_Index_Lapi_RowID_api_RowID_to2, trivial⟩) (sg := ⟨[.pure], []⟩) (A := slices_Index_Lapi_RowID_api_RowID_A) (res := slices_Index_Lapi_RowID_api_RowID_res) (F := fun x => slices_Index_Lapi_RowID_api_RowID x.1 x.2.1) (fun x => slices_Index_Lapi_RowID_api_RowID_run x.1 x.2.1) (fun _ => by kernel_rfl)
end Go.Proofs.YteopikhooiallaaGreatDoor
/- Functions of the program as plain functions, with their contracts. Printed by program. -/
set_option autoImplicit false
set_option linter.unusedVariables false
set_option linter.unusedSimpArgs false
namespace Go.Proofs.YteopikhooiallaaGreatDoor
open Go Go.Ab
/-! ### slices.Contains[[]lineage/api.RowID,lineage/api.RowID] -/
noncomputable def slices_Contains_Lapi_RowID_api_RowID_cx : Cx ty := { base with nt := 9, spec := fun g => List.lookup g [(108, slices_Index_Lapi_RowID_api_RowID_spec)], io := fun g => (List.lookup g []).getD [], head := fun i => (List.lookup i []).getD [], out := outOf [], loops := fun i => List.lookup i [] }
noncomputable def slices_Contains_Lapi_RowID_api_RowID (s : List RowID) (v : RowID) : Bool × Bool := bnd (slices_Index_Lapi_RowID_api_RowID s v) (fun r0 => (true, decide (r0 ≥ (0 : Int)))) (false, default)
noncomputable def slices_Contains_Lapi_RowID_api_RowID_res (r : Bool) : ARes ty := ⟨[.pure (.lit (.bool r))], []⟩
theorem slices_Contains_Lapi_RowID_api_RowID_run (s : List RowID) (v : RowID) : runFn slices_Contains_Lapi_RowID_api_RowID_cx Tryz.f85 (body Tryz.f85) ⟨[.pure], []⟩ [.pure (.sl 30 s), .pure (.agg (base.enc 30 v))] = out (fun r => some (slices_Contains_Lapi_RowID_api_RowID_res r)) (slices_Contains_Lapi_RowID_api_RowID s v) := by
  have h : runFn slices_Contains_Lapi_RowID_api_RowID_cx Tryz.f85 (body Tryz.f85) ⟨[.pure], []⟩ [.pure (.sl 30 s), .pure (.agg (base.enc 30 v))] = obnd (slices_Index_Lapi_RowID_api_RowID s v) (fun r1 => some ⟨[.pure (.lit (.bool (decide (r1 ≥ (0 : Int)))))], []⟩) := by kernel_rfl
  rw [slices_Contains_Lapi_RowID_api_RowID]
  exact h.trans (out_ite (rfl) (rfl))
noncomputable def slices_Contains_Lapi_RowID_api_RowID_A : AL base (List RowID × RowID × Unit) := aCons (aPure (vSl 30)) (aCons (aPure (vAgg 30)) aNil)
noncomputable def slices_Contains_Lapi_RowID_api_RowID_spec : Ab.Spec ty := mkSpec slices_Contains_Lapi_RowID_api_RowID_A fun x => ((slices_Contains_Lapi_RowID_api_RowID x.1 x.2.1).1, slices_Contains_Lapi_RowID_api_RowID_res (slices_Contains_Lapi_RowID_api_RowID x.1 x.2.1).2)
theorem slices_Contains_Lapi_RowID_api_RowID_sound : Sound Tryz.prog base 85 slices_Contains_Lapi_RowID_api_RowID_spec :=
  sound_of_run (cx' := slices_Contains_Lapi_RowID_api_RowID_cx) draws base_ok ⟨⟨rfl, rfl, rfl, rfl, rfl, rfl⟩, rfl⟩ (spec_of [(108, slices_Index_Lapi_RowID_api_RowID_spec)] ⟨(slices_Index_Lapi_RowID_api_RowID_sound), trivial⟩) Tryz.call85 Tryz.func85 (c := body Tryz.f85) (by kernel_rfl) (loopsOK_of (l := []) (by kernel_rfl) trivial) (sg := ⟨[.pure], []⟩) (A := slices_Contains_Lapi_RowID_api_RowID_A) (res := slices_Contains_Lapi_RowID_api_RowID_res) (F := fun x => slices_Contains_Lapi_RowID_api_RowID x.1 x.2.1) (fun x => slices_Contains_Lapi_RowID_api_RowID_run x.1 x.2.1) (fun _ => by kernel_rfl)
end Go.Proofs.YteopikhooiallaaGreatDoor
/- Functions of the program as plain functions, with their contracts. Printed by program. -/
set_option autoImplicit false
set_option linter.unusedVariables false
set_option linter.unusedSimpArgs false
namespace Go.Proofs.YteopikhooiallaaGreatDoor
open Go Go.Ab
/-! ### lineage/rowset.Minus literal 1 -/
noncomputable def rowset_Minus_c1_cx : Cx ty := { base with nt := 7, spec := fun g => List.lookup g [(85, slices_Contains_Lapi_RowID_api_RowID_spec)], io := fun g => (List.lookup g []).getD [], head := fun i => (List.lookup i []).getD [], out := outOf [], loops := fun i => List.lookup i [] }
noncomputable def rowset_Minus_c1 (id : RowID) (p1 : List RowID) : Bool × Bool := bnd (slices_Contains_Lapi_RowID_api_RowID p1 id) (fun r0 => (true, r0)) (false, default)
noncomputable def rowset_Minus_c1_res (r : Bool) : ARes ty := ⟨[.pure (.lit (.bool r))], []⟩
theorem rowset_Minus_c1_run (id : RowID) (p1 : List RowID) : runFn rowset_Minus_c1_cx Tryz.f84 (body Tryz.f84) ⟨[.pure], []⟩ [.pure (.agg (base.enc 30 id)), .pure (.bptr [.sl 30 p1] 0)] = out (fun r => some (rowset_Minus_c1_res r)) (rowset_Minus_c1 id p1) := by
  have h : runFn rowset_Minus_c1_cx Tryz.f84 (body Tryz.f84) ⟨[.pure], []⟩ [.pure (.agg (base.enc 30 id)), .pure (.bptr [.sl 30 p1] 0)] = obnd (slices_Contains_Lapi_RowID_api_RowID p1 id) (fun r1 => some ⟨[.pure (.lit (.bool (r1)))], []⟩) := by kernel_rfl
  rw [rowset_Minus_c1]
  exact h.trans (out_ite (rfl) (rfl))
noncomputable def rowset_Minus_c1_A : AL base (RowID × (List RowID × Unit) × Unit) := aCons (aPure (vAgg 30)) (aCons (aPure (vBox (vCons (vSl 30) vNil))) aNil)
noncomputable def rowset_Minus_c1_spec : Ab.Spec ty := mkSpec rowset_Minus_c1_A fun x => ((rowset_Minus_c1 x.1 x.2.1.1).1, rowset_Minus_c1_res (rowset_Minus_c1 x.1 x.2.1.1).2)
theorem rowset_Minus_c1_sound : Sound Tryz.prog base 84 rowset_Minus_c1_spec :=
  sound_of_run (cx' := rowset_Minus_c1_cx) draws base_ok ⟨⟨rfl, rfl, rfl, rfl, rfl, rfl⟩, rfl⟩ (spec_of [(85, slices_Contains_Lapi_RowID_api_RowID_spec)] ⟨(slices_Contains_Lapi_RowID_api_RowID_sound), trivial⟩) Tryz.call84 Tryz.func84 (c := body Tryz.f84) (by kernel_rfl) (loopsOK_of (l := []) (by kernel_rfl) trivial) (sg := ⟨[.pure], []⟩) (A := rowset_Minus_c1_A) (res := rowset_Minus_c1_res) (F := fun x => rowset_Minus_c1 x.1 x.2.1.1) (fun x => rowset_Minus_c1_run x.1 x.2.1.1) (fun _ => by kernel_rfl)
end Go.Proofs.YteopikhooiallaaGreatDoor
/- Functions of the program as plain functions, with their contracts. Printed by program. -/
set_option autoImplicit false
set_option linter.unusedVariables false
set_option linter.unusedSimpArgs false
namespace Go.Proofs.YteopikhooiallaaGreatDoor
open Go Go.Ab
/-! ### slices.IndexFunc[[]lineage/api.RowID,lineage/api.RowID] -/
noncomputable def slices_IndexFunc_Lapi_RowID_api_RowID_L2 : Nat → List RowID → List RowID → Int → Int → Bool × (Int ⊕ Unit)
  | 0, _, _, _, _ => (false, .inl default)
  | n + 1, s, f, t7, t8 => bif decide (t8 < t7) then bif decide ((0 : Int) ≤ t8) && decide (t8 < Int.ofNat s.length) then bnd (rowset_Minus_c1 (s.getD t8.toNat default) f) (fun r0 => bif r0 then (true, .inl t8) else slices_IndexFunc_Lapi_RowID_api_RowID_L2 n s f t7 (IntKind.i64.wrap (t8 + (1 : Int)))) (false, .inl default) else (false, .inl default) else (true, .inr ())
noncomputable def slices_IndexFunc_Lapi_RowID_api_RowID_tr2 (r : Int ⊕ Unit) : LTree ty := .ite (isL r) (.done .ret [.lit (.int .i64 (getL r))] []) (.done (.exit 0) [] [])
noncomputable def slices_IndexFunc_Lapi_RowID_api_RowID_V2 : LL ty (List RowID × ((List RowID × Unit) × Unit) × Int × Int × Unit) := llCons (lSl 30) (llCons (lFn 84 (llCons (lBptrC (llCons (lSl 30) llNil) 0) llNil)) (llCons (lInt .i64) (llCons (lInt .i64) llNil)))
noncomputable def slices_IndexFunc_Lapi_RowID_api_RowID_B2 : BL ty (Unit) := bNil
noncomputable def slices_IndexFunc_Lapi_RowID_api_RowID_sp2 : LSpec ty := mkLoop slices_IndexFunc_Lapi_RowID_api_RowID_V2 slices_IndexFunc_Lapi_RowID_api_RowID_B2 fun x y => ((slices_IndexFunc_Lapi_RowID_api_RowID_L2 (x.1.length + x.2.1.1.1.length + Int.toNat x.2.2.1 + Int.toNat x.2.2.2.1 + 1) x.1 x.2.1.1.1 x.2.2.1 x.2.2.2.1).1, slices_IndexFunc_Lapi_RowID_api_RowID_tr2 (slices_IndexFunc_Lapi_RowID_api_RowID_L2 (x.1.length + x.2.1.1.1.length + Int.toNat x.2.2.1 + Int.toNat x.2.2.2.1 + 1) x.1 x.2.1.1.1 x.2.2.1 x.2.2.2.1).2)
noncomputable def slices_IndexFunc_Lapi_RowID_api_RowID_cx : Cx ty := { base with nt := 19, spec := fun g => List.lookup g [(84, rowset_Minus_c1_spec)], io := fun g => (List.lookup g []).getD [], head := fun i => (List.lookup i [(2, [(0, .keep), (1, .keep), (7, .keep), (8, .keep)])]).getD [], out := outOf [(2, 1, []), (2, 0, [(4, .keep)])], loops := fun i => List.lookup i [(2, slices_IndexFunc_Lapi_RowID_api_RowID_sp2)] }
theorem slices_IndexFunc_Lapi_RowID_api_RowID_round2 {R : Type} (H : List (AV ty) → List (Blk ty) → Option R) (K : Ex → List (AV ty) → List (Blk ty) → Option R) (s : List RowID) (f : List RowID) (t7 : Int) (t8 : Int) : roundK slices_IndexFunc_Lapi_RowID_api_RowID_cx (lp (body Tryz.f107) 0) H K [.sl 30 s, .fn 84 ([.bptr ([.sl 30 f]) 0]), .lit (.int .i64 t7), .lit (.int .i64 t8)] [] = bif decide (t8 < t7) then bif decide ((0 : Int) ≤ t8) && decide (t8 < Int.ofNat s.length) then obnd (rowset_Minus_c1 (s.getD t8.toNat default) f) (fun r1 => bif r1 then K .ret [.lit (.int .i64 t8)] [] else H [.sl 30 s, .fn 84 ([.bptr ([.sl 30 f]) 0]), .lit (.int .i64 t7), .lit (.int .i64 (IntKind.i64.wrap (t8 + (1 : Int))))] []) else none else K (.exit 0) [] [] := by kernel_rfl
theorem slices_IndexFunc_Lapi_RowID_api_RowID_loop2 (R : Type) (K : Ex → List (AV ty) → List (Blk ty) → Option R) : ∀ (n : Nat) (s : List RowID) (f : List RowID) (t7 : Int) (t8 : Int), loopI slices_IndexFunc_Lapi_RowID_api_RowID_cx (lp (body Tryz.f107) 0) K n [.sl 30 s, .fn 84 ([.bptr ([.sl 30 f]) 0]), .lit (.int .i64 t7), .lit (.int .i64 t8)] [] = out (fun r => treeK K (slices_IndexFunc_Lapi_RowID_api_RowID_tr2 r)) (slices_IndexFunc_Lapi_RowID_api_RowID_L2 n s f t7 t8)
  | 0, _, _, _, _ => rfl
  | n + 1, s, f, t7, t8 => by
    have ih := slices_IndexFunc_Lapi_RowID_api_RowID_loop2 R K n
    rw [slices_IndexFunc_Lapi_RowID_api_RowID_L2]
    exact (slices_IndexFunc_Lapi_RowID_api_RowID_round2 (loopI slices_IndexFunc_Lapi_RowID_api_RowID_cx (lp (body Tryz.f107) 0) K n) K s f t7 t8).trans (out_ite (out_ite (out_ite (out_ite (rfl) (ih s f t7 (IntKind.i64.wrap (t8 + (1 : Int))))) (rfl)) (rfl)) (rfl))
theorem slices_IndexFunc_Lapi_RowID_api_RowID_to2 : LoopOK slices_IndexFunc_Lapi_RowID_api_RowID_cx (lp (body Tryz.f107) 0) := loopOK_of (id := 2) (sp := slices_IndexFunc_Lapi_RowID_api_RowID_sp2) (by kernel_rfl) (by kernel_rfl) (loopTo_of (V := slices_IndexFunc_Lapi_RowID_api_RowID_V2) (B := slices_IndexFunc_Lapi_RowID_api_RowID_B2) (L := fun n x y => slices_IndexFunc_Lapi_RowID_api_RowID_L2 n x.1 x.2.1.1.1 x.2.2.1 x.2.2.2.1) (tr := slices_IndexFunc_Lapi_RowID_api_RowID_tr2) (m := fun x y => x.1.length + x.2.1.1.1.length + Int.toNat x.2.2.1 + Int.toNat x.2.2.2.1 + 1) fun R K n x y => slices_IndexFunc_Lapi_RowID_api_RowID_loop2 R K n x.1 x.2.1.1.1 x.2.2.1 x.2.2.2.1)
noncomputable def slices_IndexFunc_Lapi_RowID_api_RowID (s : List RowID) (f : List RowID) : Bool × Int := bnd (slices_IndexFunc_Lapi_RowID_api_RowID_L2 (s.length + f.length + (Int.ofNat s.length).toNat + Int.toNat (0 : Int) + (1 : Nat)) s f (Int.ofNat s.length) (0 : Int)) (fun r2 => bif isL r2 then (true, getL r2) else (true, (-1 : Int))) (false, default)
noncomputable def slices_IndexFunc_Lapi_RowID_api_RowID_res (r : Int) : ARes ty := ⟨[.pure (.lit (.int .i64 r))], []⟩
theorem slices_IndexFunc_Lapi_RowID_api_RowID_run (s : List RowID) (f : List RowID) : runFn slices_IndexFunc_Lapi_RowID_api_RowID_cx Tryz.f107 (body Tryz.f107) ⟨[.pure], []⟩ [.pure (.sl 30 s), .pure (.fn 84 [.bptr [.sl 30 f] 0])] = out (fun r => some (slices_IndexFunc_Lapi_RowID_api_RowID_res r)) (slices_IndexFunc_Lapi_RowID_api_RowID s f) := by
  have h : runFn slices_IndexFunc_Lapi_RowID_api_RowID_cx Tryz.f107 (body Tryz.f107) ⟨[.pure], []⟩ [.pure (.sl 30 s), .pure (.fn 84 [.bptr [.sl 30 f] 0])] = obnd (slices_IndexFunc_Lapi_RowID_api_RowID_L2 (s.length + f.length + (Int.ofNat s.length).toNat + Int.toNat (0 : Int) + (1 : Nat)) s f (Int.ofNat s.length) (0 : Int)) (fun r3 => bif isL r3 then some ⟨[.pure (.lit (.int .i64 (getL r3)))], []⟩ else some ⟨[.pure (.lit (.int .i64 (-1 : Int)))], []⟩) := by kernel_rfl
  rw [slices_IndexFunc_Lapi_RowID_api_RowID]
  exact h.trans (out_ite (out_ite (rfl) (rfl)) (rfl))
noncomputable def slices_IndexFunc_Lapi_RowID_api_RowID_A : AL base (List RowID × ((List RowID × Unit) × Unit) × Unit) := aCons (aPure (vSl 30)) (aCons (aPure (vFn 84 (vCons (vBox (vCons (vSl 30) vNil)) vNil))) aNil)
noncomputable def slices_IndexFunc_Lapi_RowID_api_RowID_spec : Ab.Spec ty := mkSpec slices_IndexFunc_Lapi_RowID_api_RowID_A fun x => ((slices_IndexFunc_Lapi_RowID_api_RowID x.1 x.2.1.1.1).1, slices_IndexFunc_Lapi_RowID_api_RowID_res (slices_IndexFunc_Lapi_RowID_api_RowID x.1 x.2.1.1.1).2)
theorem slices_IndexFunc_Lapi_RowID_api_RowID_sound : Sound Tryz.prog base 107 slices_IndexFunc_Lapi_RowID_api_RowID_spec :=
  sound_of_run (cx' := slices_IndexFunc_Lapi_RowID_api_RowID_cx) draws base_ok ⟨⟨rfl, rfl, rfl, rfl, rfl, rfl⟩, rfl⟩ (spec_of [(84, rowset_Minus_c1_spec)] ⟨(rowset_Minus_c1_sound), trivial⟩) Tryz.call107 Tryz.func107 (c := body Tryz.f107) (by kernel_rfl) (loopsOK_of (l := [lp (body Tryz.f107) 0]) (by kernel_rfl) ⟨slices_IndexFunc_Lapi_RowID_api_RowID_to2, trivial⟩) (sg := ⟨[.pure], []⟩) (A := slices_IndexFunc_Lapi_RowID_api_RowID_A) (res := slices_IndexFunc_Lapi_RowID_api_RowID_res) (F := fun x => slices_IndexFunc_Lapi_RowID_api_RowID x.1 x.2.1.1.1) (fun x => slices_IndexFunc_Lapi_RowID_api_RowID_run x.1 x.2.1.1.1) (fun _ => by kernel_rfl)
end Go.Proofs.YteopikhooiallaaGreatDoor
/- Functions of the program as plain functions, with their contracts. Printed by program. -/
set_option autoImplicit false
set_option linter.unusedVariables false
set_option linter.unusedSimpArgs false
namespace Go.Proofs.YteopikhooiallaaGreatDoor
open Go Go.Ab
/-! ### slices.DeleteFunc[[]lineage/api.RowID,lineage/api.RowID] -/
noncomputable def slices_DeleteFunc_Lapi_RowID_api_RowID_L5 : Nat → List RowID → Int → Int → List RowID → Bool × (Int × List RowID)
  | 0, _, _, _, _ => (false, default)
  | n + 1, del, i, j, s => bif decide (j < Int.ofNat s.length) then bif decide ((0 : Int) ≤ j) && decide (j < Int.ofNat s.length) then bnd (rowset_Minus_c1 (s.getD j.toNat default) del) (fun r0 => bif !r0 then bif decide ((0 : Int) ≤ i) && decide (i < Int.ofNat s.length) then bif decide (i.toNat < s.length) then slices_DeleteFunc_Lapi_RowID_api_RowID_L5 n del (IntKind.i64.wrap (i + (1 : Int))) (IntKind.i64.wrap (j + (1 : Int))) (s.set i.toNat (s.getD j.toNat default)) else (false, default) else (false, default) else slices_DeleteFunc_Lapi_RowID_api_RowID_L5 n del i (IntKind.i64.wrap (j + (1 : Int))) s) (false, default) else (false, default) else (true, (i, s))
noncomputable def slices_DeleteFunc_Lapi_RowID_api_RowID_tr5 (r : Int × List RowID) : LTree ty := .done (.exit 0) [.own 168, .lit (.int .i64 r.1)] [.arr 30 r.2 false]
noncomputable def slices_DeleteFunc_Lapi_RowID_api_RowID_V5 : LL ty (Unit × ((List RowID × Unit) × Unit) × Int × Int × Unit) := llCons (lOwn 168) (llCons (lFn 84 (llCons (lBptrC (llCons (lSl 30) llNil) 0) llNil)) (llCons (lInt .i64) (llCons (lInt .i64) llNil)))
noncomputable def slices_DeleteFunc_Lapi_RowID_api_RowID_B5 : BL ty (List RowID × Unit) := bArr 30 false (bNil)
noncomputable def slices_DeleteFunc_Lapi_RowID_api_RowID_sp5 : LSpec ty := mkLoop slices_DeleteFunc_Lapi_RowID_api_RowID_V5 slices_DeleteFunc_Lapi_RowID_api_RowID_B5 fun x y => ((slices_DeleteFunc_Lapi_RowID_api_RowID_L5 (x.2.1.1.1.length + Int.toNat x.2.2.1 + Int.toNat x.2.2.2.1 + y.1.length + 1) x.2.1.1.1 x.2.2.1 x.2.2.2.1 y.1).1, slices_DeleteFunc_Lapi_RowID_api_RowID_tr5 (slices_DeleteFunc_Lapi_RowID_api_RowID_L5 (x.2.1.1.1.length + Int.toNat x.2.2.1 + Int.toNat x.2.2.2.1 + y.1.length + 1) x.2.1.1.1 x.2.2.1 x.2.2.2.1 y.1).2)
noncomputable def slices_DeleteFunc_Lapi_RowID_api_RowID_cx : Cx ty := { base with nt := 42, spec := fun g => List.lookup g [(84, rowset_Minus_c1_spec), (107, slices_IndexFunc_Lapi_RowID_api_RowID_spec)], io := fun g => (List.lookup g []).getD [], head := fun i => (List.lookup i [(5, [(0, .keep), (1, .keep), (5, .keep), (6, .keep)])]).getD [], out := outOf [(5, 1, [(0, .keep), (5, .keep)])], loops := fun i => List.lookup i [(5, slices_DeleteFunc_Lapi_RowID_api_RowID_sp5)] }
theorem slices_DeleteFunc_Lapi_RowID_api_RowID_round5 {R : Type} (H : List (AV ty) → List (Blk ty) → Option R) (K : Ex → List (AV ty) → List (Blk ty) → Option R) (del : List RowID) (i : Int) (j : Int) (s : List RowID) : roundK slices_DeleteFunc_Lapi_RowID_api_RowID_cx (lp (body Tryz.f83) 0) H K [.own 168, .fn 84 ([.bptr ([.sl 30 del]) 0]), .lit (.int .i64 i), .lit (.int .i64 j)] [.arr 30 s false] = bif decide (j < Int.ofNat s.length) then bif decide ((0 : Int) ≤ j) && decide (j < Int.ofNat s.length) then obnd (rowset_Minus_c1 (s.getD j.toNat default) del) (fun r1 => bif !r1 then bif decide ((0 : Int) ≤ i) && decide (i < Int.ofNat s.length) then bif decide (i.toNat < s.length) then H [.own 168, .fn 84 ([.bptr ([.sl 30 del]) 0]), .lit (.int .i64 (IntKind.i64.wrap (i + (1 : Int)))), .lit (.int .i64 (IntKind.i64.wrap (j + (1 : Int))))] [.arr 30 (s.set i.toNat (s.getD j.toNat default)) false] else none else none else H [.own 168, .fn 84 ([.bptr ([.sl 30 del]) 0]), .lit (.int .i64 i), .lit (.int .i64 (IntKind.i64.wrap (j + (1 : Int))))] [.arr 30 s false]) else none else K (.exit 0) [.own 168, .lit (.int .i64 i)] [.arr 30 s false] := by kernel_rfl
theorem slices_DeleteFunc_Lapi_RowID_api_RowID_loop5 (R : Type) (K : Ex → List (AV ty) → List (Blk ty) → Option R) : ∀ (n : Nat) (del : List RowID) (i : Int) (j : Int) (s : List RowID), loopI slices_DeleteFunc_Lapi_RowID_api_RowID_cx (lp (body Tryz.f83) 0) K n [.own 168, .fn 84 ([.bptr ([.sl 30 del]) 0]), .lit (.int .i64 i), .lit (.int .i64 j)] [.arr 30 s false] = out (fun r => treeK K (slices_DeleteFunc_Lapi_RowID_api_RowID_tr5 r)) (slices_DeleteFunc_Lapi_RowID_api_RowID_L5 n del i j s)
  | 0, _, _, _, _ => rfl
  | n + 1, del, i, j, s => by
    have ih := slices_DeleteFunc_Lapi_RowID_api_RowID_loop5 R K n
    rw [slices_DeleteFunc_Lapi_RowID_api_RowID_L5]
    exact (slices_DeleteFunc_Lapi_RowID_api_RowID_round5 (loopI slices_DeleteFunc_Lapi_RowID_api_RowID_cx (lp (body Tryz.f83) 0) K n) K del i j s).trans (out_ite (out_ite (out_ite (out_ite (out_ite (out_ite (ih del (IntKind.i64.wrap (i + (1 : Int))) (IntKind.i64.wrap (j + (1 : Int))) (s.set i.toNat (s.getD j.toNat default))) (rfl)) (rfl)) (ih del i (IntKind.i64.wrap (j + (1 : Int))) s)) (rfl)) (rfl)) (rfl))
theorem slices_DeleteFunc_Lapi_RowID_api_RowID_to5 : LoopOK slices_DeleteFunc_Lapi_RowID_api_RowID_cx (lp (body Tryz.f83) 0) := loopOK_of (id := 5) (sp := slices_DeleteFunc_Lapi_RowID_api_RowID_sp5) (by kernel_rfl) (by kernel_rfl) (loopTo_of (V := slices_DeleteFunc_Lapi_RowID_api_RowID_V5) (B := slices_DeleteFunc_Lapi_RowID_api_RowID_B5) (L := fun n x y => slices_DeleteFunc_Lapi_RowID_api_RowID_L5 n x.2.1.1.1 x.2.2.1 x.2.2.2.1 y.1) (tr := slices_DeleteFunc_Lapi_RowID_api_RowID_tr5) (m := fun x y => x.2.1.1.1.length + Int.toNat x.2.2.1 + Int.toNat x.2.2.2.1 + y.1.length + 1) fun R K n x y => slices_DeleteFunc_Lapi_RowID_api_RowID_loop5 R K n x.2.1.1.1 x.2.2.1 x.2.2.2.1 y.1)
noncomputable def slices_DeleteFunc_Lapi_RowID_api_RowID (s : List RowID) (del : List RowID) : Bool × List RowID := bnd (slices_IndexFunc_Lapi_RowID_api_RowID s del) (fun r3 => bif r3 == (-1 : Int) then (true, s) else bnd (slices_DeleteFunc_Lapi_RowID_api_RowID_L5 (del.length + r3.toNat + (IntKind.i64.wrap (r3 + (1 : Int))).toNat + s.length + (1 : Nat)) del r3 (IntKind.i64.wrap (r3 + (1 : Int))) s) (fun r2 => bif decide ((0 : Int) ≤ r2.fst) && decide (r2.fst ≤ Int.ofNat r2.snd.length) && decide (Int.ofNat r2.snd.length ≤ Int.ofNat r2.snd.length) then bif decide (r2.fst.toNat + ((Int.ofNat r2.snd.length).toNat - r2.fst.toNat) ≤ r2.snd.length) then bif decide ((0 : Int) ≤ (0 : Int)) && decide ((0 : Int) ≤ r2.fst) && decide (r2.fst ≤ Int.ofNat (List.take r2.fst.toNat r2.snd ++ List.replicate ((Int.ofNat r2.snd.length).toNat - r2.fst.toNat) (RowID.mk (0 : Int) (0 : Int)) ++ List.drop (r2.fst.toNat + ((Int.ofNat r2.snd.length).toNat - r2.fst.toNat)) r2.snd).length) then (true, List.take (r2.fst.toNat - Int.toNat (0 : Int)) (List.take r2.fst.toNat r2.snd ++ List.replicate ((Int.ofNat r2.snd.length).toNat - r2.fst.toNat) (RowID.mk (0 : Int) (0 : Int)) ++ List.drop (r2.fst.toNat + ((Int.ofNat r2.snd.length).toNat - r2.fst.toNat)) r2.snd)) else (false, default) else (false, default) else (false, default)) (false, default)) (false, default)
noncomputable def slices_DeleteFunc_Lapi_RowID_api_RowID_res (r : List RowID) : ARes ty := ⟨[.own 30 r], [none]⟩
theorem slices_DeleteFunc_Lapi_RowID_api_RowID_run (s : List RowID) (del : List RowID) : runFn slices_DeleteFunc_Lapi_RowID_api_RowID_cx Tryz.f83 (body Tryz.f83) ⟨[.own 30], [false]⟩ [.own 30 s, .pure (.fn 84 [.bptr [.sl 30 del] 0])] = out (fun r => some (slices_DeleteFunc_Lapi_RowID_api_RowID_res r)) (slices_DeleteFunc_Lapi_RowID_api_RowID s del) := by
  have h : runFn slices_DeleteFunc_Lapi_RowID_api_RowID_cx Tryz.f83 (body Tryz.f83) ⟨[.own 30], [false]⟩ [.own 30 s, .pure (.fn 84 [.bptr [.sl 30 del] 0])] = obnd (slices_IndexFunc_Lapi_RowID_api_RowID s del) (fun r5 => bif r5 == (-1 : Int) then some ⟨[.own 30 s], [none]⟩ else obnd (slices_DeleteFunc_Lapi_RowID_api_RowID_L5 (del.length + r5.toNat + (IntKind.i64.wrap (r5 + (1 : Int))).toNat + s.length + (1 : Nat)) del r5 (IntKind.i64.wrap (r5 + (1 : Int))) s) (fun r4 => bif decide ((0 : Int) ≤ r4.fst) && decide (r4.fst ≤ Int.ofNat r4.snd.length) && decide (Int.ofNat r4.snd.length ≤ Int.ofNat r4.snd.length) then bif decide (r4.fst.toNat + ((Int.ofNat r4.snd.length).toNat - r4.fst.toNat) ≤ r4.snd.length) then bif decide ((0 : Int) ≤ (0 : Int)) && decide ((0 : Int) ≤ r4.fst) && decide (r4.fst ≤ Int.ofNat (List.take r4.fst.toNat r4.snd ++ List.replicate ((Int.ofNat r4.snd.length).toNat - r4.fst.toNat) (RowID.mk (0 : Int) (0 : Int)) ++ List.drop (r4.fst.toNat + ((Int.ofNat r4.snd.length).toNat - r4.fst.toNat)) r4.snd).length) then some ⟨[.own 30 (List.take (r4.fst.toNat - Int.toNat (0 : Int)) (List.take r4.fst.toNat r4.snd ++ List.replicate ((Int.ofNat r4.snd.length).toNat - r4.fst.toNat) (RowID.mk (0 : Int) (0 : Int)) ++ List.drop (r4.fst.toNat + ((Int.ofNat r4.snd.length).toNat - r4.fst.toNat)) r4.snd))], [none]⟩ else none else none else none)) := by kernel_rfl
  rw [slices_DeleteFunc_Lapi_RowID_api_RowID]
  exact h.trans (out_ite (out_ite (rfl) (out_ite (out_ite (out_ite (out_ite (rfl) (rfl)) (rfl)) (rfl)) (rfl))) (rfl))
noncomputable def slices_DeleteFunc_Lapi_RowID_api_RowID_A : AL base (List RowID × ((List RowID × Unit) × Unit) × Unit) := aCons (aOwn 30) (aCons (aPure (vFn 84 (vCons (vBox (vCons (vSl 30) vNil)) vNil))) aNil)
noncomputable def slices_DeleteFunc_Lapi_RowID_api_RowID_spec : Ab.Spec ty := mkSpec slices_DeleteFunc_Lapi_RowID_api_RowID_A fun x => ((slices_DeleteFunc_Lapi_RowID_api_RowID x.1 x.2.1.1.1).1, slices_DeleteFunc_Lapi_RowID_api_RowID_res (slices_DeleteFunc_Lapi_RowID_api_RowID x.1 x.2.1.1.1).2)
theorem slices_DeleteFunc_Lapi_RowID_api_RowID_sound : Sound Tryz.prog base 83 slices_DeleteFunc_Lapi_RowID_api_RowID_spec :=
  sound_of_run (cx' := slices_DeleteFunc_Lapi_RowID_api_RowID_cx) draws base_ok ⟨⟨rfl, rfl, rfl, rfl, rfl, rfl⟩, rfl⟩ (spec_of [(84, rowset_Minus_c1_spec), (107, slices_IndexFunc_Lapi_RowID_api_RowID_spec)] ⟨(rowset_Minus_c1_sound), (slices_IndexFunc_Lapi_RowID_api_RowID_sound), trivial⟩) Tryz.call83 Tryz.func83 (c := body Tryz.f83) (by kernel_rfl) (loopsOK_of (l := [lp (body Tryz.f83) 0]) (by kernel_rfl) ⟨slices_DeleteFunc_Lapi_RowID_api_RowID_to5, trivial⟩) (sg := ⟨[.own 30], [false]⟩) (A := slices_DeleteFunc_Lapi_RowID_api_RowID_A) (res := slices_DeleteFunc_Lapi_RowID_api_RowID_res) (F := fun x => slices_DeleteFunc_Lapi_RowID_api_RowID x.1 x.2.1.1.1) (fun x => slices_DeleteFunc_Lapi_RowID_api_RowID_run x.1 x.2.1.1.1) (fun _ => by kernel_rfl)
end Go.Proofs.YteopikhooiallaaGreatDoor
/- Functions of the program as plain functions, with their contracts. Printed by program. -/
set_option autoImplicit false
set_option linter.unusedVariables false
set_option linter.unusedSimpArgs false
namespace Go.Proofs.YteopikhooiallaaGreatDoor
open Go Go.Ab
/-! ### lineage/rowset.Minus -/
noncomputable def rowset_Minus_cx : Cx ty := { base with nt := 11, spec := fun g => List.lookup g [(26, rowset_Normalize_spec), (83, slices_DeleteFunc_Lapi_RowID_api_RowID_spec), (84, rowset_Minus_c1_spec)], io := fun g => (List.lookup g [(83, [true, false])]).getD [], head := fun i => (List.lookup i []).getD [], out := outOf [], loops := fun i => List.lookup i [] }
noncomputable def rowset_Minus (a : List RowID) (b : List RowID) : Bool × List RowID := bnd (rowset_Normalize a) (fun r1 => bnd (slices_DeleteFunc_Lapi_RowID_api_RowID r1 b) (fun r0 => (true, r0)) (false, default)) (false, default)
noncomputable def rowset_Minus_res (r : List RowID) : ARes ty := ⟨[.own 30 r], []⟩
theorem rowset_Minus_run (a : List RowID) (b : List RowID) : runFn rowset_Minus_cx Tryz.f58 (body Tryz.f58) ⟨[.own 30], []⟩ [.pure (.sl 30 a), .pure (.sl 30 b)] = out (fun r => some (rowset_Minus_res r)) (rowset_Minus a b) := by
  have h : runFn rowset_Minus_cx Tryz.f58 (body Tryz.f58) ⟨[.own 30], []⟩ [.pure (.sl 30 a), .pure (.sl 30 b)] = obnd (rowset_Normalize a) (fun r3 => obnd (slices_DeleteFunc_Lapi_RowID_api_RowID r3 b) (fun r2 => some ⟨[.own 30 (r2)], []⟩)) := by kernel_rfl
  rw [rowset_Minus]
  exact h.trans (out_ite (out_ite (rfl) (rfl)) (rfl))
noncomputable def rowset_Minus_A : AL base (List RowID × List RowID × Unit) := aCons (aPure (vSl 30)) (aCons (aPure (vSl 30)) aNil)
noncomputable def rowset_Minus_spec : Ab.Spec ty := mkSpec rowset_Minus_A fun x => ((rowset_Minus x.1 x.2.1).1, rowset_Minus_res (rowset_Minus x.1 x.2.1).2)
theorem rowset_Minus_sound : Sound Tryz.prog base 58 rowset_Minus_spec :=
  sound_of_run (cx' := rowset_Minus_cx) draws base_ok ⟨⟨rfl, rfl, rfl, rfl, rfl, rfl⟩, rfl⟩ (spec_of [(26, rowset_Normalize_spec), (83, slices_DeleteFunc_Lapi_RowID_api_RowID_spec), (84, rowset_Minus_c1_spec)] ⟨(rowset_Normalize_sound), (slices_DeleteFunc_Lapi_RowID_api_RowID_sound), (rowset_Minus_c1_sound), trivial⟩) Tryz.call58 Tryz.func58 (c := body Tryz.f58) (by kernel_rfl) (loopsOK_of (l := []) (by kernel_rfl) trivial) (sg := ⟨[.own 30], []⟩) (A := rowset_Minus_A) (res := rowset_Minus_res) (F := fun x => rowset_Minus x.1 x.2.1) (fun x => rowset_Minus_run x.1 x.2.1) (fun _ => by kernel_rfl)
end Go.Proofs.YteopikhooiallaaGreatDoor
/- Functions of the program as plain functions, with their contracts. Printed by program. -/
set_option autoImplicit false
set_option linter.unusedVariables false
set_option linter.unusedSimpArgs false
namespace Go.Proofs.YteopikhooiallaaGreatDoor
open Go Go.Ab
/-! ### lineage/rowset.Subset -/
noncomputable def rowset_Subset_cx : Cx ty := { base with nt := 10, spec := fun g => List.lookup g [(58, rowset_Minus_spec)], io := fun g => (List.lookup g []).getD [], head := fun i => (List.lookup i []).getD [], out := outOf [], loops := fun i => List.lookup i [] }
noncomputable def rowset_Subset (a : List RowID) (b : List RowID) : Bool × Bool := bnd (rowset_Minus a b) (fun r0 => (true, Int.ofNat r0.length == (0 : Int))) (false, default)
noncomputable def rowset_Subset_res (r : Bool) : ARes ty := ⟨[.pure (.lit (.bool r))], []⟩
theorem rowset_Subset_run (a : List RowID) (b : List RowID) : runFn rowset_Subset_cx Tryz.f35 (body Tryz.f35) ⟨[.pure], []⟩ [.pure (.sl 30 a), .pure (.sl 30 b)] = out (fun r => some (rowset_Subset_res r)) (rowset_Subset a b) := by
  have h : runFn rowset_Subset_cx Tryz.f35 (body Tryz.f35) ⟨[.pure], []⟩ [.pure (.sl 30 a), .pure (.sl 30 b)] = obnd (rowset_Minus a b) (fun r1 => some ⟨[.pure (.lit (.bool (Int.ofNat r1.length == (0 : Int))))], []⟩) := by kernel_rfl
  rw [rowset_Subset]
  exact h.trans (out_ite (rfl) (rfl))
noncomputable def rowset_Subset_A : AL base (List RowID × List RowID × Unit) := aCons (aPure (vSl 30)) (aCons (aPure (vSl 30)) aNil)
noncomputable def rowset_Subset_spec : Ab.Spec ty := mkSpec rowset_Subset_A fun x => ((rowset_Subset x.1 x.2.1).1, rowset_Subset_res (rowset_Subset x.1 x.2.1).2)
theorem rowset_Subset_sound : Sound Tryz.prog base 35 rowset_Subset_spec :=
  sound_of_run (cx' := rowset_Subset_cx) draws base_ok ⟨⟨rfl, rfl, rfl, rfl, rfl, rfl⟩, rfl⟩ (spec_of [(58, rowset_Minus_spec)] ⟨(rowset_Minus_sound), trivial⟩) Tryz.call35 Tryz.func35 (c := body Tryz.f35) (by kernel_rfl) (loopsOK_of (l := []) (by kernel_rfl) trivial) (sg := ⟨[.pure], []⟩) (A := rowset_Subset_A) (res := rowset_Subset_res) (F := fun x => rowset_Subset x.1 x.2.1) (fun x => rowset_Subset_run x.1 x.2.1) (fun _ => by kernel_rfl)
end Go.Proofs.YteopikhooiallaaGreatDoor
/- Functions of the program as plain functions, with their contracts. Printed by program. -/
set_option autoImplicit false
set_option linter.unusedVariables false
set_option linter.unusedSimpArgs false
namespace Go.Proofs.YteopikhooiallaaGreatDoor
open Go Go.Ab
/-! ### lineage/rowset.Minimal literal 1 -/
noncomputable def rowset_Minimal_c1_cx : Cx ty := { base with nt := 17, spec := fun g => List.lookup g [(35, rowset_Subset_spec)], io := fun g => (List.lookup g []).getD [], head := fun i => (List.lookup i []).getD [], out := outOf [], loops := fun i => List.lookup i [] }
noncomputable def rowset_Minimal_c1 (k : Int) (p1 : Int) (p2 : List (List RowID)) (p3 : List RowID) : Bool × Bool := bif k != p1 then bif decide ((0 : Int) ≤ k) && decide (k < Int.ofNat p2.length) then bnd (rowset_Subset (p2.getD k.toNat default) p3) (fun r0 => (true, r0)) (false, default) else (false, default) else (true, false)
noncomputable def rowset_Minimal_c1_res (r : Bool) : ARes ty := ⟨[.pure (.lit (.bool r))], []⟩
theorem rowset_Minimal_c1_run (k : Int) (p1 : Int) (p2 : List (List RowID)) (p3 : List RowID) : runFn rowset_Minimal_c1_cx Tryz.f34 (body Tryz.f34) ⟨[.pure], []⟩ [.pure (.lit (.int .i64 k)), .pure (.bptr [.lit (.int .i64 p1)] 0), .pure (.bptr [.sl 31 p2] 0), .pure (.bptr [.sl 30 p3] 0)] = out (fun r => some (rowset_Minimal_c1_res r)) (rowset_Minimal_c1 k p1 p2 p3) := by
  have h : runFn rowset_Minimal_c1_cx Tryz.f34 (body Tryz.f34) ⟨[.pure], []⟩ [.pure (.lit (.int .i64 k)), .pure (.bptr [.lit (.int .i64 p1)] 0), .pure (.bptr [.sl 31 p2] 0), .pure (.bptr [.sl 30 p3] 0)] = bif k != p1 then bif decide ((0 : Int) ≤ k) && decide (k < Int.ofNat p2.length) then obnd (rowset_Subset (p2.getD k.toNat default) p3) (fun r1 => some ⟨[.pure (.lit (.bool (r1)))], []⟩) else none else some ⟨[.pure (.lit (.bool false))], []⟩ := by kernel_rfl
  rw [rowset_Minimal_c1]
  exact h.trans (out_ite (out_ite (out_ite (rfl) (rfl)) (rfl)) (rfl))
noncomputable def rowset_Minimal_c1_A : AL base (Int × (Int × Unit) × (List (List RowID) × Unit) × (List RowID × Unit) × Unit) := aCons (aPure (vInt .i64)) (aCons (aPure (vBox (vCons (vInt .i64) vNil))) (aCons (aPure (vBox (vCons (vSl 31) vNil))) (aCons (aPure (vBox (vCons (vSl 30) vNil))) aNil)))
noncomputable def rowset_Minimal_c1_spec : Ab.Spec ty := mkSpec rowset_Minimal_c1_A fun x => ((rowset_Minimal_c1 x.1 x.2.1.1 x.2.2.1.1 x.2.2.2.1.1).1, rowset_Minimal_c1_res (rowset_Minimal_c1 x.1 x.2.1.1 x.2.2.1.1 x.2.2.2.1.1).2)
theorem rowset_Minimal_c1_sound : Sound Tryz.prog base 34 rowset_Minimal_c1_spec :=
  sound_of_run (cx' := rowset_Minimal_c1_cx) draws base_ok ⟨⟨rfl, rfl, rfl, rfl, rfl, rfl⟩, rfl⟩ (spec_of [(35, rowset_Subset_spec)] ⟨(rowset_Subset_sound), trivial⟩) Tryz.call34 Tryz.func34 (c := body Tryz.f34) (by kernel_rfl) (loopsOK_of (l := []) (by kernel_rfl) trivial) (sg := ⟨[.pure], []⟩) (A := rowset_Minimal_c1_A) (res := rowset_Minimal_c1_res) (F := fun x => rowset_Minimal_c1 x.1 x.2.1.1 x.2.2.1.1 x.2.2.2.1.1) (fun x => rowset_Minimal_c1_run x.1 x.2.1.1 x.2.2.1.1 x.2.2.2.1.1) (fun _ => by kernel_rfl)
end Go.Proofs.YteopikhooiallaaGreatDoor
/- Functions of the program as plain functions, with their contracts. Printed by program. -/
set_option autoImplicit false
set_option linter.unusedVariables false
set_option linter.unusedSimpArgs false
namespace Go.Proofs.YteopikhooiallaaGreatDoor
open Go Go.Ab
/-! ### lineage/rowset.indices -/
noncomputable def rowset_indices_L3 : Nat → Int → Int → List Int → Bool × List Int
  | 0, _, _, _ => (false, default)
  | n + 1, t8, t9, out_ => bif decide (t9 < t8) then bif decide ((0 : Int) ≤ t9) && decide (t9 < Int.ofNat out_.length) then bif decide (t9.toNat < out_.length) then rowset_indices_L3 n t8 (IntKind.i64.wrap (t9 + (1 : Int))) (out_.set t9.toNat t9) else (false, default) else (false, default) else (true, out_)
noncomputable def rowset_indices_tr3 (r : List Int) : LTree ty := .done (.exit 0) [.own 72] [.arr 3 r false]
noncomputable def rowset_indices_V3 : LL ty (Unit × Int × Int × Unit) := llCons (lOwn 72) (llCons (lInt .i64) (llCons (lInt .i64) llNil))
noncomputable def rowset_indices_B3 : BL ty (List Int × Unit) := bArr 3 false (bNil)
noncomputable def rowset_indices_sp3 : LSpec ty := mkLoop rowset_indices_V3 rowset_indices_B3 fun x y => ((rowset_indices_L3 (Int.toNat x.2.1 + Int.toNat x.2.2.1 + y.1.length + 1) x.2.1 x.2.2.1 y.1).1, rowset_indices_tr3 (rowset_indices_L3 (Int.toNat x.2.1 + Int.toNat x.2.2.1 + y.1.length + 1) x.2.1 x.2.2.1 y.1).2)
noncomputable def rowset_indices_cx : Cx ty := { base with nt := 18, spec := fun g => List.lookup g [], io := fun g => (List.lookup g []).getD [], head := fun i => (List.lookup i [(3, [(3, .keep), (8, .keep), (9, .keep)])]).getD [], out := outOf [(3, 1, [(3, .keep)])], loops := fun i => List.lookup i [(3, rowset_indices_sp3)] }
theorem rowset_indices_round3 {R : Type} (H : List (AV ty) → List (Blk ty) → Option R) (K : Ex → List (AV ty) → List (Blk ty) → Option R) (t8 : Int) (t9 : Int) (out_ : List Int) : roundK rowset_indices_cx (lp (body Tryz.f37) 0) H K [.own 72, .lit (.int .i64 t8), .lit (.int .i64 t9)] [.arr 3 out_ false] = bif decide (t9 < t8) then bif decide ((0 : Int) ≤ t9) && decide (t9 < Int.ofNat out_.length) then bif decide (t9.toNat < out_.length) then H [.own 72, .lit (.int .i64 t8), .lit (.int .i64 (IntKind.i64.wrap (t9 + (1 : Int))))] [.arr 3 (out_.set t9.toNat t9) false] else none else none else K (.exit 0) [.own 72] [.arr 3 out_ false] := by kernel_rfl
theorem rowset_indices_loop3 (R : Type) (K : Ex → List (AV ty) → List (Blk ty) → Option R) : ∀ (n : Nat) (t8 : Int) (t9 : Int) (out_ : List Int), loopI rowset_indices_cx (lp (body Tryz.f37) 0) K n [.own 72, .lit (.int .i64 t8), .lit (.int .i64 t9)] [.arr 3 out_ false] = out (fun r => treeK K (rowset_indices_tr3 r)) (rowset_indices_L3 n t8 t9 out_)
  | 0, _, _, _ => rfl
  | n + 1, t8, t9, out_ => by
    have ih := rowset_indices_loop3 R K n
    rw [rowset_indices_L3]
    exact (rowset_indices_round3 (loopI rowset_indices_cx (lp (body Tryz.f37) 0) K n) K t8 t9 out_).trans (out_ite (out_ite (out_ite (ih t8 (IntKind.i64.wrap (t9 + (1 : Int))) (out_.set t9.toNat t9)) (rfl)) (rfl)) (rfl))
theorem rowset_indices_to3 : LoopOK rowset_indices_cx (lp (body Tryz.f37) 0) := loopOK_of (id := 3) (sp := rowset_indices_sp3) (by kernel_rfl) (by kernel_rfl) (loopTo_of (V := rowset_indices_V3) (B := rowset_indices_B3) (L := fun n x y => rowset_indices_L3 n x.2.1 x.2.2.1 y.1) (tr := rowset_indices_tr3) (m := fun x y => Int.toNat x.2.1 + Int.toNat x.2.2.1 + y.1.length + 1) fun R K n x y => rowset_indices_loop3 R K n x.2.1 x.2.2.1 y.1)
noncomputable def rowset_indices (n_ : Int) : Bool × List Int := bif decide ((0 : Int) ≤ n_) && decide (n_ ≤ n_) && decide (n_ * Int.ofNat (8 : Nat) ≤ Int.ofNat reach) && decide (n_ ≤ Int.ofNat reach) then bnd (rowset_indices_L3 ((Int.ofNat (List.replicate n_.toNat (0 : Int)).length).toNat + Int.toNat (0 : Int) + (List.replicate n_.toNat (0 : Int)).length + (1 : Nat)) (Int.ofNat (List.replicate n_.toNat (0 : Int)).length) (0 : Int) (List.replicate n_.toNat (0 : Int))) (fun r0 => (true, r0)) (false, default) else (false, default)
noncomputable def rowset_indices_res (r : List Int) : ARes ty := ⟨[.own 3 r], []⟩
theorem rowset_indices_run (n_ : Int) : runFn rowset_indices_cx Tryz.f37 (body Tryz.f37) ⟨[.own 3], []⟩ [.pure (.lit (.int .i64 n_))] = out (fun r => some (rowset_indices_res r)) (rowset_indices n_) := by
  have h : runFn rowset_indices_cx Tryz.f37 (body Tryz.f37) ⟨[.own 3], []⟩ [.pure (.lit (.int .i64 n_))] = bif decide ((0 : Int) ≤ n_) && decide (n_ ≤ n_) && decide (n_ * Int.ofNat (8 : Nat) ≤ Int.ofNat reach) && decide (n_ ≤ Int.ofNat reach) then obnd (rowset_indices_L3 ((Int.ofNat (List.replicate n_.toNat (0 : Int)).length).toNat + Int.toNat (0 : Int) + (List.replicate n_.toNat (0 : Int)).length + (1 : Nat)) (Int.ofNat (List.replicate n_.toNat (0 : Int)).length) (0 : Int) (List.replicate n_.toNat (0 : Int))) (fun r1 => some ⟨[.own 3 (r1)], []⟩) else none := by kernel_rfl
  rw [rowset_indices]
  exact h.trans (out_ite (out_ite (rfl) (rfl)) (rfl))
noncomputable def rowset_indices_A : AL base (Int × Unit) := aCons (aPure (vInt .i64)) aNil
noncomputable def rowset_indices_spec : Ab.Spec ty := mkSpec rowset_indices_A fun x => ((rowset_indices x.1).1, rowset_indices_res (rowset_indices x.1).2)
theorem rowset_indices_sound : Sound Tryz.prog base 37 rowset_indices_spec :=
  sound_of_run (cx' := rowset_indices_cx) draws base_ok ⟨⟨rfl, rfl, rfl, rfl, rfl, rfl⟩, rfl⟩ (spec_of [] trivial) Tryz.call37 Tryz.func37 (c := body Tryz.f37) (by kernel_rfl) (loopsOK_of (l := [lp (body Tryz.f37) 0]) (by kernel_rfl) ⟨rowset_indices_to3, trivial⟩) (sg := ⟨[.own 3], []⟩) (A := rowset_indices_A) (res := rowset_indices_res) (F := fun x => rowset_indices x.1) (fun x => rowset_indices_run x.1) (fun _ => by kernel_rfl)
end Go.Proofs.YteopikhooiallaaGreatDoor
/- Functions of the program as plain functions, with their contracts. Printed by program. -/
set_option autoImplicit false
set_option linter.unusedVariables false
set_option linter.unusedSimpArgs false
namespace Go.Proofs.YteopikhooiallaaGreatDoor
open Go Go.Ab
/-! ### slices.IndexFunc[[]int,int] -/
noncomputable def slices_IndexFunc_Lint_int_L2 : Nat → List Int → Int → List (List RowID) → List RowID → Int → Int → Bool × (Int ⊕ Unit)
  | 0, _, _, _, _, _, _ => (false, .inl default)
  | n + 1, s, f_0, f_1, f_2, t7, t8 => bif decide (t8 < t7) then bif decide ((0 : Int) ≤ t8) && decide (t8 < Int.ofNat s.length) then bnd (rowset_Minimal_c1 (s.getD t8.toNat default) f_0 f_1 f_2) (fun r0 => bif r0 then (true, .inl t8) else slices_IndexFunc_Lint_int_L2 n s f_0 f_1 f_2 t7 (IntKind.i64.wrap (t8 + (1 : Int)))) (false, .inl default) else (false, .inl default) else (true, .inr ())
noncomputable def slices_IndexFunc_Lint_int_tr2 (r : Int ⊕ Unit) : LTree ty := .ite (isL r) (.done .ret [.lit (.int .i64 (getL r))] []) (.done (.exit 0) [] [])
noncomputable def slices_IndexFunc_Lint_int_V2 : LL ty (List Int × ((Int × Unit) × (List (List RowID) × Unit) × (List RowID × Unit) × Unit) × Int × Int × Unit) := llCons (lSl 3) (llCons (lFn 34 (llCons (lBptrC (llCons (lInt .i64) llNil) 0) (llCons (lBptrC (llCons (lSl 31) llNil) 0) (llCons (lBptrC (llCons (lSl 30) llNil) 0) llNil)))) (llCons (lInt .i64) (llCons (lInt .i64) llNil)))
noncomputable def slices_IndexFunc_Lint_int_B2 : BL ty (Unit) := bNil
noncomputable def slices_IndexFunc_Lint_int_sp2 : LSpec ty := mkLoop slices_IndexFunc_Lint_int_V2 slices_IndexFunc_Lint_int_B2 fun x y => ((slices_IndexFunc_Lint_int_L2 (x.1.length + Int.toNat x.2.1.1.1 + x.2.1.2.1.1.length + x.2.1.2.2.1.1.length + Int.toNat x.2.2.1 + Int.toNat x.2.2.2.1 + 1) x.1 x.2.1.1.1 x.2.1.2.1.1 x.2.1.2.2.1.1 x.2.2.1 x.2.2.2.1).1, slices_IndexFunc_Lint_int_tr2 (slices_IndexFunc_Lint_int_L2 (x.1.length + Int.toNat x.2.1.1.1 + x.2.1.2.1.1.length + x.2.1.2.2.1.1.length + Int.toNat x.2.2.1 + Int.toNat x.2.2.2.1 + 1) x.1 x.2.1.1.1 x.2.1.2.1.1 x.2.1.2.2.1.1 x.2.2.1 x.2.2.2.1).2)
noncomputable def slices_IndexFunc_Lint_int_cx : Cx ty := { base with nt := 19, spec := fun g => List.lookup g [(34, rowset_Minimal_c1_spec)], io := fun g => (List.lookup g []).getD [], head := fun i => (List.lookup i [(2, [(0, .keep), (1, .keep), (7, .keep), (8, .keep)])]).getD [], out := outOf [(2, 1, []), (2, 0, [(4, .keep)])], loops := fun i => List.lookup i [(2, slices_IndexFunc_Lint_int_sp2)] }
theorem slices_IndexFunc_Lint_int_round2 {R : Type} (H : List (AV ty) → List (Blk ty) → Option R) (K : Ex → List (AV ty) → List (Blk ty) → Option R) (s : List Int) (f_0 : Int) (f_1 : List (List RowID)) (f_2 : List RowID) (t7 : Int) (t8 : Int) : roundK slices_IndexFunc_Lint_int_cx (lp (body Tryz.f59) 0) H K [.sl 3 s, .fn 34 ([.bptr ([.lit (.int .i64 f_0)]) 0, .bptr ([.sl 31 f_1]) 0, .bptr ([.sl 30 f_2]) 0]), .lit (.int .i64 t7), .lit (.int .i64 t8)] [] = bif decide (t8 < t7) then bif decide ((0 : Int) ≤ t8) && decide (t8 < Int.ofNat s.length) then obnd (rowset_Minimal_c1 (s.getD t8.toNat default) f_0 f_1 f_2) (fun r1 => bif r1 then K .ret [.lit (.int .i64 t8)] [] else H [.sl 3 s, .fn 34 ([.bptr ([.lit (.int .i64 f_0)]) 0, .bptr ([.sl 31 f_1]) 0, .bptr ([.sl 30 f_2]) 0]), .lit (.int .i64 t7), .lit (.int .i64 (IntKind.i64.wrap (t8 + (1 : Int))))] []) else none else K (.exit 0) [] [] := by kernel_rfl
theorem slices_IndexFunc_Lint_int_loop2 (R : Type) (K : Ex → List (AV ty) → List (Blk ty) → Option R) : ∀ (n : Nat) (s : List Int) (f_0 : Int) (f_1 : List (List RowID)) (f_2 : List RowID) (t7 : Int) (t8 : Int), loopI slices_IndexFunc_Lint_int_cx (lp (body Tryz.f59) 0) K n [.sl 3 s, .fn 34 ([.bptr ([.lit (.int .i64 f_0)]) 0, .bptr ([.sl 31 f_1]) 0, .bptr ([.sl 30 f_2]) 0]), .lit (.int .i64 t7), .lit (.int .i64 t8)] [] = out (fun r => treeK K (slices_IndexFunc_Lint_int_tr2 r)) (slices_IndexFunc_Lint_int_L2 n s f_0 f_1 f_2 t7 t8)
  | 0, _, _, _, _, _, _ => rfl
  | n + 1, s, f_0, f_1, f_2, t7, t8 => by
    have ih := slices_IndexFunc_Lint_int_loop2 R K n
    rw [slices_IndexFunc_Lint_int_L2]
    exact (slices_IndexFunc_Lint_int_round2 (loopI slices_IndexFunc_Lint_int_cx (lp (body Tryz.f59) 0) K n) K s f_0 f_1 f_2 t7 t8).trans (out_ite (out_ite (out_ite (out_ite (rfl) (ih s f_0 f_1 f_2 t7 (IntKind.i64.wrap (t8 + (1 : Int))))) (rfl)) (rfl)) (rfl))
theorem slices_IndexFunc_Lint_int_to2 : LoopOK slices_IndexFunc_Lint_int_cx (lp (body Tryz.f59) 0) := loopOK_of (id := 2) (sp := slices_IndexFunc_Lint_int_sp2) (by kernel_rfl) (by kernel_rfl) (loopTo_of (V := slices_IndexFunc_Lint_int_V2) (B := slices_IndexFunc_Lint_int_B2) (L := fun n x y => slices_IndexFunc_Lint_int_L2 n x.1 x.2.1.1.1 x.2.1.2.1.1 x.2.1.2.2.1.1 x.2.2.1 x.2.2.2.1) (tr := slices_IndexFunc_Lint_int_tr2) (m := fun x y => x.1.length + Int.toNat x.2.1.1.1 + x.2.1.2.1.1.length + x.2.1.2.2.1.1.length + Int.toNat x.2.2.1 + Int.toNat x.2.2.2.1 + 1) fun R K n x y => slices_IndexFunc_Lint_int_loop2 R K n x.1 x.2.1.1.1 x.2.1.2.1.1 x.2.1.2.2.1.1 x.2.2.1 x.2.2.2.1)
noncomputable def slices_IndexFunc_Lint_int (s : List Int) (f_0 : Int) (f_1 : List (List RowID)) (f_2 : List RowID) : Bool × Int := bnd (slices_IndexFunc_Lint_int_L2 (s.length + f_0.toNat + f_1.length + f_2.length + (Int.ofNat s.length).toNat + Int.toNat (0 : Int) + (1 : Nat)) s f_0 f_1 f_2 (Int.ofNat s.length) (0 : Int)) (fun r2 => bif isL r2 then (true, getL r2) else (true, (-1 : Int))) (false, default)
noncomputable def slices_IndexFunc_Lint_int_res (r : Int) : ARes ty := ⟨[.pure (.lit (.int .i64 r))], []⟩
theorem slices_IndexFunc_Lint_int_run (s : List Int) (f_0 : Int) (f_1 : List (List RowID)) (f_2 : List RowID) : runFn slices_IndexFunc_Lint_int_cx Tryz.f59 (body Tryz.f59) ⟨[.pure], []⟩ [.pure (.sl 3 s), .pure (.fn 34 [.bptr [.lit (.int .i64 f_0)] 0, .bptr [.sl 31 f_1] 0, .bptr [.sl 30 f_2] 0])] = out (fun r => some (slices_IndexFunc_Lint_int_res r)) (slices_IndexFunc_Lint_int s f_0 f_1 f_2) := by
  have h : runFn slices_IndexFunc_Lint_int_cx Tryz.f59 (body Tryz.f59) ⟨[.pure], []⟩ [.pure (.sl 3 s), .pure (.fn 34 [.bptr [.lit (.int .i64 f_0)] 0, .bptr [.sl 31 f_1] 0, .bptr [.sl 30 f_2] 0])] = obnd (slices_IndexFunc_Lint_int_L2 (s.length + f_0.toNat + f_1.length + f_2.length + (Int.ofNat s.length).toNat + Int.toNat (0 : Int) + (1 : Nat)) s f_0 f_1 f_2 (Int.ofNat s.length) (0 : Int)) (fun r3 => bif isL r3 then some ⟨[.pure (.lit (.int .i64 (getL r3)))], []⟩ else some ⟨[.pure (.lit (.int .i64 (-1 : Int)))], []⟩) := by kernel_rfl
  rw [slices_IndexFunc_Lint_int]
  exact h.trans (out_ite (out_ite (rfl) (rfl)) (rfl))
noncomputable def slices_IndexFunc_Lint_int_A : AL base (List Int × ((Int × Unit) × (List (List RowID) × Unit) × (List RowID × Unit) × Unit) × Unit) := aCons (aPure (vSl 3)) (aCons (aPure (vFn 34 (vCons (vBox (vCons (vInt .i64) vNil)) (vCons (vBox (vCons (vSl 31) vNil)) (vCons (vBox (vCons (vSl 30) vNil)) vNil))))) aNil)
noncomputable def slices_IndexFunc_Lint_int_spec : Ab.Spec ty := mkSpec slices_IndexFunc_Lint_int_A fun x => ((slices_IndexFunc_Lint_int x.1 x.2.1.1.1 x.2.1.2.1.1 x.2.1.2.2.1.1).1, slices_IndexFunc_Lint_int_res (slices_IndexFunc_Lint_int x.1 x.2.1.1.1 x.2.1.2.1.1 x.2.1.2.2.1.1).2)
theorem slices_IndexFunc_Lint_int_sound : Sound Tryz.prog base 59 slices_IndexFunc_Lint_int_spec :=
  sound_of_run (cx' := slices_IndexFunc_Lint_int_cx) draws base_ok ⟨⟨rfl, rfl, rfl, rfl, rfl, rfl⟩, rfl⟩ (spec_of [(34, rowset_Minimal_c1_spec)] ⟨(rowset_Minimal_c1_sound), trivial⟩) Tryz.call59 Tryz.func59 (c := body Tryz.f59) (by kernel_rfl) (loopsOK_of (l := [lp (body Tryz.f59) 0]) (by kernel_rfl) ⟨slices_IndexFunc_Lint_int_to2, trivial⟩) (sg := ⟨[.pure], []⟩) (A := slices_IndexFunc_Lint_int_A) (res := slices_IndexFunc_Lint_int_res) (F := fun x => slices_IndexFunc_Lint_int x.1 x.2.1.1.1 x.2.1.2.1.1 x.2.1.2.2.1.1) (fun x => slices_IndexFunc_Lint_int_run x.1 x.2.1.1.1 x.2.1.2.1.1 x.2.1.2.2.1.1) (fun _ => by kernel_rfl)
end Go.Proofs.YteopikhooiallaaGreatDoor
/- Functions of the program as plain functions, with their contracts. Printed by program. -/
set_option autoImplicit false
set_option linter.unusedVariables false
set_option linter.unusedSimpArgs false
namespace Go.Proofs.YteopikhooiallaaGreatDoor
open Go Go.Ab
/-! ### slices.ContainsFunc[[]int,int] -/
noncomputable def slices_ContainsFunc_Lint_int_cx : Cx ty := { base with nt := 9, spec := fun g => List.lookup g [(34, rowset_Minimal_c1_spec), (59, slices_IndexFunc_Lint_int_spec)], io := fun g => (List.lookup g []).getD [], head := fun i => (List.lookup i []).getD [], out := outOf [], loops := fun i => List.lookup i [] }
noncomputable def slices_ContainsFunc_Lint_int (s : List Int) (f_0 : Int) (f_1 : List (List RowID)) (f_2 : List RowID) : Bool × Bool := bnd (slices_IndexFunc_Lint_int s f_0 f_1 f_2) (fun r0 => (true, decide (r0 ≥ (0 : Int)))) (false, default)
noncomputable def slices_ContainsFunc_Lint_int_res (r : Bool) : ARes ty := ⟨[.pure (.lit (.bool r))], []⟩
theorem slices_ContainsFunc_Lint_int_run (s : List Int) (f_0 : Int) (f_1 : List (List RowID)) (f_2 : List RowID) : runFn slices_ContainsFunc_Lint_int_cx Tryz.f36 (body Tryz.f36) ⟨[.pure], []⟩ [.pure (.sl 3 s), .pure (.fn 34 [.bptr [.lit (.int .i64 f_0)] 0, .bptr [.sl 31 f_1] 0, .bptr [.sl 30 f_2] 0])] = out (fun r => some (slices_ContainsFunc_Lint_int_res r)) (slices_ContainsFunc_Lint_int s f_0 f_1 f_2) := by
  have h : runFn slices_ContainsFunc_Lint_int_cx Tryz.f36 (body Tryz.f36) ⟨[.pure], []⟩ [.pure (.sl 3 s), .pure (.fn 34 [.bptr [.lit (.int .i64 f_0)] 0, .bptr [.sl 31 f_1] 0, .bptr [.sl 30 f_2] 0])] = obnd (slices_IndexFunc_Lint_int s f_0 f_1 f_2) (fun r1 => some ⟨[.pure (.lit (.bool (decide (r1 ≥ (0 : Int)))))], []⟩) := by kernel_rfl
  rw [slices_ContainsFunc_Lint_int]
  exact h.trans (out_ite (rfl) (rfl))
noncomputable def slices_ContainsFunc_Lint_int_A : AL base (List Int × ((Int × Unit) × (List (List RowID) × Unit) × (List RowID × Unit) × Unit) × Unit) := aCons (aPure (vSl 3)) (aCons (aPure (vFn 34 (vCons (vBox (vCons (vInt .i64) vNil)) (vCons (vBox (vCons (vSl 31) vNil)) (vCons (vBox (vCons (vSl 30) vNil)) vNil))))) aNil)
noncomputable def slices_ContainsFunc_Lint_int_spec : Ab.Spec ty := mkSpec slices_ContainsFunc_Lint_int_A fun x => ((slices_ContainsFunc_Lint_int x.1 x.2.1.1.1 x.2.1.2.1.1 x.2.1.2.2.1.1).1, slices_ContainsFunc_Lint_int_res (slices_ContainsFunc_Lint_int x.1 x.2.1.1.1 x.2.1.2.1.1 x.2.1.2.2.1.1).2)
theorem slices_ContainsFunc_Lint_int_sound : Sound Tryz.prog base 36 slices_ContainsFunc_Lint_int_spec :=
  sound_of_run (cx' := slices_ContainsFunc_Lint_int_cx) draws base_ok ⟨⟨rfl, rfl, rfl, rfl, rfl, rfl⟩, rfl⟩ (spec_of [(34, rowset_Minimal_c1_spec), (59, slices_IndexFunc_Lint_int_spec)] ⟨(rowset_Minimal_c1_sound), (slices_IndexFunc_Lint_int_sound), trivial⟩) Tryz.call36 Tryz.func36 (c := body Tryz.f36) (by kernel_rfl) (loopsOK_of (l := []) (by kernel_rfl) trivial) (sg := ⟨[.pure], []⟩) (A := slices_ContainsFunc_Lint_int_A) (res := slices_ContainsFunc_Lint_int_res) (F := fun x => slices_ContainsFunc_Lint_int x.1 x.2.1.1.1 x.2.1.2.1.1 x.2.1.2.2.1.1) (fun x => slices_ContainsFunc_Lint_int_run x.1 x.2.1.1.1 x.2.1.2.1.1 x.2.1.2.2.1.1) (fun _ => by kernel_rfl)
end Go.Proofs.YteopikhooiallaaGreatDoor
/- Functions of the program as plain functions, with their contracts. Printed by program. -/
set_option autoImplicit false
set_option linter.unusedVariables false
set_option linter.unusedSimpArgs false
namespace Go.Proofs.YteopikhooiallaaGreatDoor
open Go Go.Ab
/-! ### lineage/rowset.Minimal -/
noncomputable def rowset_Minimal_L4 : Nat → Int → Int → List (List RowID) → List (List RowID) → Bool × List (List RowID)
  | 0, _, _, _, _ => (false, default)
  | n + 1, t11, t12, out_, t10 => bif decide (t12 < t11) then bif decide ((0 : Int) ≤ t12) && decide (t12 < Int.ofNat t10.length) then bnd (rowset_indices (Int.ofNat t10.length)) (fun r1 => bnd (slices_ContainsFunc_Lint_int r1 t12 t10 (t10.getD t12.toNat default)) (fun r0 => bif !r0 then bif decide ((out_.length + [t10.getD t12.toNat default].length) * (24 : Nat) ≤ reach) then rowset_Minimal_L4 n t11 (IntKind.i64.wrap (t12 + (1 : Int))) (out_ ++ [t10.getD t12.toNat default]) t10 else (false, default) else rowset_Minimal_L4 n t11 (IntKind.i64.wrap (t12 + (1 : Int))) out_ t10) (false, default)) (false, default) else (false, default) else (true, out_)
noncomputable def rowset_Minimal_tr4 (r : List (List RowID)) : LTree ty := .done (.exit 0) [.own 120] [.arr 31 r false]
noncomputable def rowset_Minimal_V4 : LL ty (Unit × Unit × Unit × Int × Int × Unit) := llCons (lPtrC 120 0) (llCons (lOwn 121) (llCons (lOwn 122) (llCons (lInt .i64) (llCons (lInt .i64) llNil))))
noncomputable def rowset_Minimal_B4 : BL ty ((Unit × Unit) × List (List RowID) × List (List RowID) × Unit) := bBox (llCons (lOwn 122) llNil) false (bArr 31 false (bArr 31 false (bNil)))
noncomputable def rowset_Minimal_sp4 : LSpec ty := mkLoop rowset_Minimal_V4 rowset_Minimal_B4 fun x y => ((rowset_Minimal_L4 (Int.toNat x.2.2.2.1 + Int.toNat x.2.2.2.2.1 + y.2.1.length + y.2.2.1.length + 1) x.2.2.2.1 x.2.2.2.2.1 y.2.1 y.2.2.1).1, rowset_Minimal_tr4 (rowset_Minimal_L4 (Int.toNat x.2.2.2.1 + Int.toNat x.2.2.2.2.1 + y.2.1.length + y.2.2.1.length + 1) x.2.2.2.1 x.2.2.2.2.1 y.2.1 y.2.2.1).2)
noncomputable def rowset_Minimal_cx : Cx ty := { base with nt := 30, spec := fun g => List.lookup g [(9, rowset_Family_spec), (34, rowset_Minimal_c1_spec), (36, slices_ContainsFunc_Lint_int_spec), (37, rowset_indices_spec)], io := fun g => (List.lookup g []).getD [], head := fun i => (List.lookup i [(4, [(3, .keep), (4, .own 31), (10, .keep), (11, .keep), (12, .keep)])]).getD [], out := outOf [(4, 1, [(4, .keep)])], loops := fun i => List.lookup i [(4, rowset_Minimal_sp4)] }
theorem rowset_Minimal_round4 {R : Type} (H : List (AV ty) → List (Blk ty) → Option R) (K : Ex → List (AV ty) → List (Blk ty) → Option R) (t11 : Int) (t12 : Int) (out_ : List (List RowID)) (t10 : List (List RowID)) : roundK rowset_Minimal_cx (lp (body Tryz.f11) 0) H K [.ptr 120 0, .own 121, .own 122, .lit (.int .i64 t11), .lit (.int .i64 t12)] [.box ([.own 122]) false, .arr 31 out_ false, .arr 31 t10 false] = bif decide (t12 < t11) then bif decide ((0 : Int) ≤ t12) && decide (t12 < Int.ofNat t10.length) then obnd (rowset_indices (Int.ofNat t10.length)) (fun r3 => obnd (slices_ContainsFunc_Lint_int r3 t12 t10 (t10.getD t12.toNat default)) (fun r2 => bif !r2 then bif decide ((out_.length + [t10.getD t12.toNat default].length) * (24 : Nat) ≤ reach) then H [.ptr 120 0, .own 121, .own 122, .lit (.int .i64 t11), .lit (.int .i64 (IntKind.i64.wrap (t12 + (1 : Int))))] [.box ([.own 122]) false, .arr 31 (out_ ++ [t10.getD t12.toNat default]) false, .arr 31 t10 false] else none else H [.ptr 120 0, .own 121, .own 122, .lit (.int .i64 t11), .lit (.int .i64 (IntKind.i64.wrap (t12 + (1 : Int))))] [.box ([.own 122]) false, .arr 31 out_ false, .arr 31 t10 false])) else none else K (.exit 0) [.own 120] [.arr 31 out_ false] := by kernel_rfl
theorem rowset_Minimal_loop4 (R : Type) (K : Ex → List (AV ty) → List (Blk ty) → Option R) : ∀ (n : Nat) (t11 : Int) (t12 : Int) (out_ : List (List RowID)) (t10 : List (List RowID)), loopI rowset_Minimal_cx (lp (body Tryz.f11) 0) K n [.ptr 120 0, .own 121, .own 122, .lit (.int .i64 t11), .lit (.int .i64 t12)] [.box ([.own 122]) false, .arr 31 out_ false, .arr 31 t10 false] = out (fun r => treeK K (rowset_Minimal_tr4 r)) (rowset_Minimal_L4 n t11 t12 out_ t10)
  | 0, _, _, _, _ => rfl
  | n + 1, t11, t12, out_, t10 => by
    have ih := rowset_Minimal_loop4 R K n
    rw [rowset_Minimal_L4]
    exact (rowset_Minimal_round4 (loopI rowset_Minimal_cx (lp (body Tryz.f11) 0) K n) K t11 t12 out_ t10).trans (out_ite (out_ite (out_ite (out_ite (out_ite (out_ite (ih t11 (IntKind.i64.wrap (t12 + (1 : Int))) (out_ ++ [t10.getD t12.toNat default]) t10) (rfl)) (ih t11 (IntKind.i64.wrap (t12 + (1 : Int))) out_ t10)) (rfl)) (rfl)) (rfl)) (rfl))
theorem rowset_Minimal_to4 : LoopOK rowset_Minimal_cx (lp (body Tryz.f11) 0) := loopOK_of (id := 4) (sp := rowset_Minimal_sp4) (by kernel_rfl) (by kernel_rfl) (loopTo_of (V := rowset_Minimal_V4) (B := rowset_Minimal_B4) (L := fun n x y => rowset_Minimal_L4 n x.2.2.2.1 x.2.2.2.2.1 y.2.1 y.2.2.1) (tr := rowset_Minimal_tr4) (m := fun x y => Int.toNat x.2.2.2.1 + Int.toNat x.2.2.2.2.1 + y.2.1.length + y.2.2.1.length + 1) fun R K n x y => rowset_Minimal_loop4 R K n x.2.2.2.1 x.2.2.2.2.1 y.2.1 y.2.2.1)
noncomputable def rowset_Minimal (l : List (List RowID)) : Bool × List (List RowID) := bnd (rowset_Family l) (fun r5 => bnd (rowset_Minimal_L4 ((Int.ofNat r5.length).toNat + Int.toNat (0 : Int) + (0 : Nat) + r5.length + (1 : Nat)) (Int.ofNat r5.length) (0 : Int) [] r5) (fun r4 => (true, r4)) (false, default)) (false, default)
noncomputable def rowset_Minimal_res (r : List (List RowID)) : ARes ty := ⟨[.own 31 r], []⟩
theorem rowset_Minimal_run (l : List (List RowID)) : runFn rowset_Minimal_cx Tryz.f11 (body Tryz.f11) ⟨[.own 31], []⟩ [.pure (.sl 31 l)] = out (fun r => some (rowset_Minimal_res r)) (rowset_Minimal l) := by
  have h : runFn rowset_Minimal_cx Tryz.f11 (body Tryz.f11) ⟨[.own 31], []⟩ [.pure (.sl 31 l)] = obnd (rowset_Family l) (fun r7 => obnd (rowset_Minimal_L4 ((Int.ofNat r7.length).toNat + Int.toNat (0 : Int) + (0 : Nat) + r7.length + (1 : Nat)) (Int.ofNat r7.length) (0 : Int) [] r7) (fun r6 => some ⟨[.own 31 (r6)], []⟩)) := by kernel_rfl
  rw [rowset_Minimal]
  exact h.trans (out_ite (out_ite (rfl) (rfl)) (rfl))
noncomputable def rowset_Minimal_A : AL base (List (List RowID) × Unit) := aCons (aPure (vSl 31)) aNil
noncomputable def rowset_Minimal_spec : Ab.Spec ty := mkSpec rowset_Minimal_A fun x => ((rowset_Minimal x.1).1, rowset_Minimal_res (rowset_Minimal x.1).2)
theorem rowset_Minimal_sound : Sound Tryz.prog base 11 rowset_Minimal_spec :=
  sound_of_run (cx' := rowset_Minimal_cx) draws base_ok ⟨⟨rfl, rfl, rfl, rfl, rfl, rfl⟩, rfl⟩ (spec_of [(9, rowset_Family_spec), (34, rowset_Minimal_c1_spec), (36, slices_ContainsFunc_Lint_int_spec), (37, rowset_indices_spec)] ⟨(rowset_Family_sound), (rowset_Minimal_c1_sound), (slices_ContainsFunc_Lint_int_sound), (rowset_indices_sound), trivial⟩) Tryz.call11 Tryz.func11 (c := body Tryz.f11) (by kernel_rfl) (loopsOK_of (l := [lp (body Tryz.f11) 0]) (by kernel_rfl) ⟨rowset_Minimal_to4, trivial⟩) (sg := ⟨[.own 31], []⟩) (A := rowset_Minimal_A) (res := rowset_Minimal_res) (F := fun x => rowset_Minimal x.1) (fun x => rowset_Minimal_run x.1) (fun _ => by kernel_rfl)
end Go.Proofs.YteopikhooiallaaGreatDoor
/- Functions of the program as plain functions, with their contracts. Printed by program. -/
set_option autoImplicit false
set_option linter.unusedVariables false
set_option linter.unusedSimpArgs false
namespace Go.Proofs.YteopikhooiallaaGreatDoor
open Go Go.Ab
/-! ### lineage/lineagelaw02.awake -/
noncomputable def law02_awake_cx : Cx ty := { base0 with nt := 40, spec := fun g => List.lookup g [(11, rowset_Minimal_spec), (21, rowset_Format_spec), (23, rowset_FormatSet_spec)], io := fun g => (List.lookup g []).getD [], head := fun i => (List.lookup i []).getD [], out := outOf [], loops := fun i => List.lookup i [] }
noncomputable def law02_awake  : Bool × Bool := (true, true)
noncomputable def law02_awake_res (r : Bool) : ARes ty := ⟨[.pure (.lit (.bool r))], []⟩
theorem law02_awake_run  : runFn law02_awake_cx Tryz.f6 (body Tryz.f6) ⟨[.pure], []⟩ [] = out (fun r => some (law02_awake_res r)) (law02_awake ) := by
  have h : runFn law02_awake_cx Tryz.f6 (body Tryz.f6) ⟨[.pure], []⟩ [] = some ⟨[.pure (.lit (.bool true))], []⟩ := by kernel_rfl
  rw [law02_awake]
  exact h.trans (rfl)
noncomputable def law02_awake_A : AL base0 (Unit) := aNil
noncomputable def law02_awake_spec : Ab.Spec ty := mkSpec law02_awake_A fun x => ((law02_awake ).1, law02_awake_res (law02_awake ).2)
theorem law02_awake_sound : Sound Tryz.prog base0 6 law02_awake_spec :=
  sound_of_run (cx' := law02_awake_cx) draws base0_ok ⟨⟨rfl, rfl, rfl, rfl, rfl, rfl⟩, rfl⟩ (spec_of [(11, rowset_Minimal_spec), (21, rowset_Format_spec), (23, rowset_FormatSet_spec)] ⟨(rowset_Minimal_sound.nodr), (rowset_Format_sound.nodr), (rowset_FormatSet_sound), trivial⟩) Tryz.call6 Tryz.func6 (c := body Tryz.f6) (by kernel_rfl) (loopsOK_of (l := []) (by kernel_rfl) trivial) (sg := ⟨[.pure], []⟩) (A := law02_awake_A) (res := law02_awake_res) (F := fun x => law02_awake ) (fun x => law02_awake_run ) (fun _ => by kernel_rfl)
end Go.Proofs.YteopikhooiallaaGreatDoor
/- Functions of the program as plain functions, with their contracts. Printed by program. -/
set_option autoImplicit false
set_option linter.unusedVariables false
set_option linter.unusedSimpArgs false
namespace Go.Proofs.YteopikhooiallaaGreatDoor
open Go Go.Ab
/-! ### lineage/lineageref02.Compare -/
noncomputable def ref02_Compare_cx : Cx ty := { base with nt := 27, spec := fun g => List.lookup g [], io := fun g => (List.lookup g []).getD [], head := fun i => (List.lookup i []).getD [], out := outOf [], loops := fun i => List.lookup i [] }
noncomputable def ref02_Compare (a : RowID) (b : RowID) : Bool × Int := bif a.Table == b.Table && (a.Seq == b.Seq && true) then (true, (0 : Int)) else bif decide (a.Table < b.Table) then (true, (-1 : Int)) else bif a.Table == b.Table then bif decide (a.Seq < b.Seq) then (true, (-1 : Int)) else (true, (1 : Int)) else (true, (1 : Int))
noncomputable def ref02_Compare_res (r : Int) : ARes ty := ⟨[.pure (.lit (.int .i64 r))], []⟩
theorem ref02_Compare_run (a : RowID) (b : RowID) : runFn ref02_Compare_cx Tryz.f20 (body Tryz.f20) ⟨[.pure], []⟩ [.pure (.agg (base.enc 30 a)), .pure (.agg (base.enc 30 b))] = out (fun r => some (ref02_Compare_res r)) (ref02_Compare a b) := by
  have h : runFn ref02_Compare_cx Tryz.f20 (body Tryz.f20) ⟨[.pure], []⟩ [.pure (.agg (base.enc 30 a)), .pure (.agg (base.enc 30 b))] = bif a.Table == b.Table && (a.Seq == b.Seq && true) then some ⟨[.pure (.lit (.int .i64 (0 : Int)))], []⟩ else bif decide (a.Table < b.Table) then some ⟨[.pure (.lit (.int .i64 (-1 : Int)))], []⟩ else bif a.Table == b.Table then bif decide (a.Seq < b.Seq) then some ⟨[.pure (.lit (.int .i64 (-1 : Int)))], []⟩ else some ⟨[.pure (.lit (.int .i64 (1 : Int)))], []⟩ else some ⟨[.pure (.lit (.int .i64 (1 : Int)))], []⟩ := by kernel_rfl
  rw [ref02_Compare]
  exact h.trans (out_ite (rfl) (out_ite (rfl) (out_ite (out_ite (rfl) (rfl)) (rfl))))
noncomputable def ref02_Compare_A : AL base (RowID × RowID × Unit) := aCons (aPure (vAgg 30)) (aCons (aPure (vAgg 30)) aNil)
noncomputable def ref02_Compare_spec : Ab.Spec ty := mkSpec ref02_Compare_A fun x => ((ref02_Compare x.1 x.2.1).1, ref02_Compare_res (ref02_Compare x.1 x.2.1).2)
theorem ref02_Compare_sound : Sound Tryz.prog base 20 ref02_Compare_spec :=
  sound_of_run (cx' := ref02_Compare_cx) draws base_ok ⟨⟨rfl, rfl, rfl, rfl, rfl, rfl⟩, rfl⟩ (spec_of [] trivial) Tryz.call20 Tryz.func20 (c := body Tryz.f20) (by kernel_rfl) (loopsOK_of (l := []) (by kernel_rfl) trivial) (sg := ⟨[.pure], []⟩) (A := ref02_Compare_A) (res := ref02_Compare_res) (F := fun x => ref02_Compare x.1 x.2.1) (fun x => ref02_Compare_run x.1 x.2.1) (fun _ => by kernel_rfl)
end Go.Proofs.YteopikhooiallaaGreatDoor
/- Functions of the program as plain functions, with their contracts. Printed by program. -/
set_option autoImplicit false
set_option linter.unusedVariables false
set_option linter.unusedSimpArgs false
namespace Go.Proofs.YteopikhooiallaaGreatDoor
open Go Go.Ab
/-! ### lineage/lineageref02.Digits -/
noncomputable def ref02_Digits_res (r : ByteArray) : ARes ty := ⟨[.pure (.lit (.string r))], []⟩
noncomputable def ref02_Digits_A : AL base (Int × Unit) := aCons (aPure (vInt .i64)) aNil
noncomputable def ref02_Digits_S (F : Int → Bool × ByteArray) : Ab.Spec ty := mkSpec ref02_Digits_A fun x => ((F x.1).1, ref02_Digits_res (F x.1).2)
end Go.Proofs.YteopikhooiallaaGreatDoor
/- Functions of the program as plain functions, with their contracts. Printed by program. -/
set_option autoImplicit false
set_option linter.unusedVariables false
set_option linter.unusedSimpArgs false
namespace Go.Proofs.YteopikhooiallaaGreatDoor
open Go Go.Ab
/-! ### lineage/lineageref02.Digits -/
noncomputable def ref02_Digits_b_cx (g_ref02_Digits : Int → Bool × ByteArray) : Cx ty := { base with nt := 17, spec := fun g => List.lookup g [(48, (ref02_Digits_S g_ref02_Digits))], io := fun g => (List.lookup g []).getD [], head := fun i => (List.lookup i []).getD [], out := outOf [], loops := fun i => List.lookup i [] }
noncomputable def ref02_Digits_b (g_ref02_Digits : Int → Bool × ByteArray) (n_ : Int) : Bool × ByteArray := bif decide (n_ > (9 : Int)) then bnd (g_ref02_Digits (IntKind.i64.wrap (n_.tdiv (10 : Int)))) (fun r1 => bnd (g_ref02_Digits (n_.tmod (10 : Int))) (fun r0 => bif decide (r1.size + r0.size ≤ (9223372036854775807 : Nat)) then (true, r1 ++ r0) else (false, default)) (false, default)) (false, default) else (true, List.foldl (fun r n => r.push (UInt8.ofNat n.toNat)) ByteArray.empty [IntKind.u8.wrap (IntKind.i64.wrap ((48 : Int) + n_))])
theorem ref02_Digits_b_run (g_ref02_Digits : Int → Bool × ByteArray) (n_ : Int) : runFn (ref02_Digits_b_cx g_ref02_Digits) Tryz.f48 (body Tryz.f48) ⟨[.pure], []⟩ [.pure (.lit (.int .i64 n_))] = out (fun r => some (ref02_Digits_res r)) (ref02_Digits_b g_ref02_Digits n_) := by
  have h : runFn (ref02_Digits_b_cx g_ref02_Digits) Tryz.f48 (body Tryz.f48) ⟨[.pure], []⟩ [.pure (.lit (.int .i64 n_))] = bif decide (n_ > (9 : Int)) then obnd (g_ref02_Digits (IntKind.i64.wrap (n_.tdiv (10 : Int)))) (fun r3 => obnd (g_ref02_Digits (n_.tmod (10 : Int))) (fun r2 => bif decide (r3.size + r2.size ≤ (9223372036854775807 : Nat)) then some ⟨[.pure (.lit (.string (r3 ++ r2)))], []⟩ else none)) else some ⟨[.pure (.lit (.string (List.foldl (fun r n => r.push (UInt8.ofNat n.toNat)) ByteArray.empty [IntKind.u8.wrap (IntKind.i64.wrap ((48 : Int) + n_))])))], []⟩ := by kernel_rfl
  rw [ref02_Digits_b]
  exact h.trans (out_ite (out_ite (out_ite (out_ite (rfl) (rfl)) (rfl)) (rfl)) (rfl))
theorem ref02_Digits_b_sound (g_ref02_Digits : Int → Bool × ByteArray) (h_g_ref02_Digits : Sound Tryz.prog base 48 (ref02_Digits_S g_ref02_Digits)) : Sound Tryz.prog base 48 (ref02_Digits_S (ref02_Digits_b g_ref02_Digits)) :=
  sound_of_run (cx' := (ref02_Digits_b_cx g_ref02_Digits)) draws base_ok ⟨⟨rfl, rfl, rfl, rfl, rfl, rfl⟩, rfl⟩ (spec_of [(48, (ref02_Digits_S g_ref02_Digits))] ⟨(h_g_ref02_Digits), trivial⟩) Tryz.call48 Tryz.func48 (c := body Tryz.f48) (by kernel_rfl) (loopsOK_of (l := []) (by kernel_rfl) trivial) (sg := ⟨[.pure], []⟩) (A := ref02_Digits_A) (res := ref02_Digits_res) (F := fun x => ref02_Digits_b g_ref02_Digits x.1) (fun x => ref02_Digits_b_run g_ref02_Digits x.1) (fun _ => by kernel_rfl)
end Go.Proofs.YteopikhooiallaaGreatDoor
/- Functions of the program as plain functions, with their contracts. Printed by program. -/
set_option autoImplicit false
set_option linter.unusedVariables false
set_option linter.unusedSimpArgs false
namespace Go.Proofs.YteopikhooiallaaGreatDoor
open Go Go.Ab
noncomputable def Digits_rec : Nat → (Int → Bool × ByteArray)
  | 0 => fun _ => (false, default)
  | n + 1 => ref02_Digits_b (Digits_rec n)
noncomputable def ref02_Digits_n (n : Nat) : Int → Bool × ByteArray := Digits_rec n
theorem ref02_Digits_succ (n : Nat) : ref02_Digits_n (n + 1) = ref02_Digits_b (ref02_Digits_n n) := rfl
theorem Digits_sound : ∀ n, Sound Tryz.prog base 48 (ref02_Digits_S (ref02_Digits_n n))
  | 0 => sound_false Tryz.call48 (fun _ => rfl)
  | n + 1 => by
    have ih := Digits_sound n
    exact ref02_Digits_b_sound _ (ih)
noncomputable def ref02_Digits : Int → Bool × ByteArray := ref02_Digits_n 40
noncomputable def ref02_Digits_spec : Ab.Spec ty := ref02_Digits_S ref02_Digits
theorem ref02_Digits_sound : Sound Tryz.prog base 48 ref02_Digits_spec := (Digits_sound 40)
end Go.Proofs.YteopikhooiallaaGreatDoor
/- Functions of the program as plain functions, with their contracts. Printed by program. -/
set_option autoImplicit false
set_option linter.unusedVariables false
set_option linter.unusedSimpArgs false
namespace Go.Proofs.YteopikhooiallaaGreatDoor
open Go Go.Ab
/-! ### lineage/lineageref02.Valid -/
noncomputable def ref02_Valid_cx : Cx ty := { base with nt := 11, spec := fun g => List.lookup g [], io := fun g => (List.lookup g []).getD [], head := fun i => (List.lookup i []).getD [], out := outOf [], loops := fun i => List.lookup i [] }
noncomputable def ref02_Valid (id : RowID) : Bool × Bool := bif decide (id.Table ≥ (1 : Int)) then (true, decide (id.Seq ≥ (1 : Int))) else (true, false)
noncomputable def ref02_Valid_res (r : Bool) : ARes ty := ⟨[.pure (.lit (.bool r))], []⟩
theorem ref02_Valid_run (id : RowID) : runFn ref02_Valid_cx Tryz.f18 (body Tryz.f18) ⟨[.pure], []⟩ [.pure (.agg (base.enc 30 id))] = out (fun r => some (ref02_Valid_res r)) (ref02_Valid id) := by
  have h : runFn ref02_Valid_cx Tryz.f18 (body Tryz.f18) ⟨[.pure], []⟩ [.pure (.agg (base.enc 30 id))] = bif decide (id.Table ≥ (1 : Int)) then some ⟨[.pure (.lit (.bool (decide (id.Seq ≥ (1 : Int)))))], []⟩ else some ⟨[.pure (.lit (.bool false))], []⟩ := by kernel_rfl
  rw [ref02_Valid]
  exact h.trans (out_ite (rfl) (rfl))
noncomputable def ref02_Valid_A : AL base (RowID × Unit) := aCons (aPure (vAgg 30)) aNil
noncomputable def ref02_Valid_spec : Ab.Spec ty := mkSpec ref02_Valid_A fun x => ((ref02_Valid x.1).1, ref02_Valid_res (ref02_Valid x.1).2)
theorem ref02_Valid_sound : Sound Tryz.prog base 18 ref02_Valid_spec :=
  sound_of_run (cx' := ref02_Valid_cx) draws base_ok ⟨⟨rfl, rfl, rfl, rfl, rfl, rfl⟩, rfl⟩ (spec_of [] trivial) Tryz.call18 Tryz.func18 (c := body Tryz.f18) (by kernel_rfl) (loopsOK_of (l := []) (by kernel_rfl) trivial) (sg := ⟨[.pure], []⟩) (A := ref02_Valid_A) (res := ref02_Valid_res) (F := fun x => ref02_Valid x.1) (fun x => ref02_Valid_run x.1) (fun _ => by kernel_rfl)
end Go.Proofs.YteopikhooiallaaGreatDoor
/- Functions of the program as plain functions, with their contracts. Printed by program. -/
set_option autoImplicit false
set_option linter.unusedVariables false
set_option linter.unusedSimpArgs false
namespace Go.Proofs.YteopikhooiallaaGreatDoor
open Go Go.Ab
/-! ### lineage/lineageref02.Format -/
noncomputable def ref02_Format_cx : Cx ty := { base with nt := 15, spec := fun g => List.lookup g [(18, ref02_Valid_spec), (48, ref02_Digits_spec)], io := fun g => (List.lookup g []).getD [], head := fun i => (List.lookup i []).getD [], out := outOf [], loops := fun i => List.lookup i [] }
noncomputable def ref02_Format (id : RowID) : Bool × ByteArray := bnd (ref02_Valid id) (fun r2 => bif !r2 then (true, ByteArray.mk #[]) else bnd (ref02_Digits id.Table) (fun r1 => bif decide ((ByteArray.mk #[(116 : UInt8)]).size + r1.size ≤ (9223372036854775807 : Nat)) then bif decide ((ByteArray.mk #[(116 : UInt8)] ++ r1).size + (ByteArray.mk #[(46 : UInt8)]).size ≤ (9223372036854775807 : Nat)) then bnd (ref02_Digits id.Seq) (fun r0 => bif decide ((ByteArray.mk #[(116 : UInt8)] ++ r1 ++ ByteArray.mk #[(46 : UInt8)]).size + r0.size ≤ (9223372036854775807 : Nat)) then (true, ByteArray.mk #[(116 : UInt8)] ++ r1 ++ ByteArray.mk #[(46 : UInt8)] ++ r0) else (false, default)) (false, default) else (false, default) else (false, default)) (false, default)) (false, default)
noncomputable def ref02_Format_res (r : ByteArray) : ARes ty := ⟨[.pure (.lit (.string r))], []⟩
theorem ref02_Format_run (id : RowID) : runFn ref02_Format_cx Tryz.f22 (body Tryz.f22) ⟨[.pure], []⟩ [.pure (.agg (base.enc 30 id))] = out (fun r => some (ref02_Format_res r)) (ref02_Format id) := by
  have h : runFn ref02_Format_cx Tryz.f22 (body Tryz.f22) ⟨[.pure], []⟩ [.pure (.agg (base.enc 30 id))] = obnd (ref02_Valid id) (fun r5 => bif !r5 then some ⟨[.pure (.lit (.string (ByteArray.mk #[])))], []⟩ else obnd (ref02_Digits id.Table) (fun r4 => bif decide ((ByteArray.mk #[(116 : UInt8)]).size + r4.size ≤ (9223372036854775807 : Nat)) then bif decide ((ByteArray.mk #[(116 : UInt8)] ++ r4).size + (ByteArray.mk #[(46 : UInt8)]).size ≤ (9223372036854775807 : Nat)) then obnd (ref02_Digits id.Seq) (fun r3 => bif decide ((ByteArray.mk #[(116 : UInt8)] ++ r4 ++ ByteArray.mk #[(46 : UInt8)]).size + r3.size ≤ (9223372036854775807 : Nat)) then some ⟨[.pure (.lit (.string (ByteArray.mk #[(116 : UInt8)] ++ r4 ++ ByteArray.mk #[(46 : UInt8)] ++ r3)))], []⟩ else none) else none else none)) := by kernel_rfl
  rw [ref02_Format]
  exact h.trans (out_ite (out_ite (rfl) (out_ite (out_ite (out_ite (out_ite (out_ite (rfl) (rfl)) (rfl)) (rfl)) (rfl)) (rfl))) (rfl))
noncomputable def ref02_Format_A : AL base (RowID × Unit) := aCons (aPure (vAgg 30)) aNil
noncomputable def ref02_Format_spec : Ab.Spec ty := mkSpec ref02_Format_A fun x => ((ref02_Format x.1).1, ref02_Format_res (ref02_Format x.1).2)
theorem ref02_Format_sound : Sound Tryz.prog base 22 ref02_Format_spec :=
  sound_of_run (cx' := ref02_Format_cx) draws base_ok ⟨⟨rfl, rfl, rfl, rfl, rfl, rfl⟩, rfl⟩ (spec_of [(18, ref02_Valid_spec), (48, ref02_Digits_spec)] ⟨(ref02_Valid_sound), (ref02_Digits_sound), trivial⟩) Tryz.call22 Tryz.func22 (c := body Tryz.f22) (by kernel_rfl) (loopsOK_of (l := []) (by kernel_rfl) trivial) (sg := ⟨[.pure], []⟩) (A := ref02_Format_A) (res := ref02_Format_res) (F := fun x => ref02_Format x.1) (fun x => ref02_Format_run x.1) (fun _ => by kernel_rfl)
end Go.Proofs.YteopikhooiallaaGreatDoor
/- Functions of the program as plain functions, with their contracts. Printed by program. -/
set_option autoImplicit false
set_option linter.unusedVariables false
set_option linter.unusedSimpArgs false
namespace Go.Proofs.YteopikhooiallaaGreatDoor
open Go Go.Ab
/-! ### lineage/lineageref02.In -/
noncomputable def ref02_In_L2 : Nat → List RowID → Int → RowID → Bool × (Bool ⊕ Unit)
  | 0, _, _, _ => (false, .inl default)
  | n + 1, l, i, id => bif decide (i < Int.ofNat l.length) then bif decide ((0 : Int) ≤ i) && decide (i < Int.ofNat l.length) then bif (l.getD i.toNat default).Table == id.Table && ((l.getD i.toNat default).Seq == id.Seq && true) then (true, .inl true) else ref02_In_L2 n l (IntKind.i64.wrap (i + (1 : Int))) id else (false, .inl default) else (true, .inr ())
noncomputable def ref02_In_tr2 (r : Bool ⊕ Unit) : LTree ty := .ite (isL r) (.done .ret [.lit (.bool (getL r))] []) (.done (.exit 0) [] [])
noncomputable def ref02_In_V2 : LL ty (List RowID × Unit × Int × Unit) := llCons (lSl 30) (llCons (lPtrC 72 0) (llCons (lInt .i64) llNil))
noncomputable def ref02_In_B2 : BL ty (RowID × Unit) := bBox (llMap (fun x => (⟨x.1, x.2.1⟩ : RowID)) (fun x => (x.Table, x.Seq, ())) (fun _ => rfl) (llCons (lInt .i64) (llCons (lInt .i64) llNil))) false (bNil)
noncomputable def ref02_In_sp2 : LSpec ty := mkLoop ref02_In_V2 ref02_In_B2 fun x y => ((ref02_In_L2 (x.1.length + Int.toNat x.2.2.1 + 1) x.1 x.2.2.1 y.1).1, ref02_In_tr2 (ref02_In_L2 (x.1.length + Int.toNat x.2.2.1 + 1) x.1 x.2.2.1 y.1).2)
noncomputable def ref02_In_cx : Cx ty := { base with nt := 18, spec := fun g => List.lookup g [], io := fun g => (List.lookup g []).getD [], head := fun i => (List.lookup i [(2, [(0, .keep), (3, .keep), (5, .keep)])]).getD [], out := outOf [(2, 1, []), (2, 0, [(4, .keep)])], loops := fun i => List.lookup i [(2, ref02_In_sp2)] }
theorem ref02_In_round2 {R : Type} (H : List (AV ty) → List (Blk ty) → Option R) (K : Ex → List (AV ty) → List (Blk ty) → Option R) (l : List RowID) (i : Int) (id : RowID) : roundK ref02_In_cx (lp (body Tryz.f60) 0) H K [.sl 30 l, .ptr 72 0, .lit (.int .i64 i)] [.box (base.enc 30 id) false] = bif decide (i < Int.ofNat l.length) then bif decide ((0 : Int) ≤ i) && decide (i < Int.ofNat l.length) then bif (l.getD i.toNat default).Table == id.Table && ((l.getD i.toNat default).Seq == id.Seq && true) then K .ret [.lit (.bool true)] [] else H [.sl 30 l, .ptr 72 0, .lit (.int .i64 (IntKind.i64.wrap (i + (1 : Int))))] [.box (base.enc 30 id) false] else none else K (.exit 0) [] [] := by kernel_rfl
theorem ref02_In_loop2 (R : Type) (K : Ex → List (AV ty) → List (Blk ty) → Option R) : ∀ (n : Nat) (l : List RowID) (i : Int) (id : RowID), loopI ref02_In_cx (lp (body Tryz.f60) 0) K n [.sl 30 l, .ptr 72 0, .lit (.int .i64 i)] [.box (base.enc 30 id) false] = out (fun r => treeK K (ref02_In_tr2 r)) (ref02_In_L2 n l i id)
  | 0, _, _, _ => rfl
  | n + 1, l, i, id => by
    have ih := ref02_In_loop2 R K n
    rw [ref02_In_L2]
    exact (ref02_In_round2 (loopI ref02_In_cx (lp (body Tryz.f60) 0) K n) K l i id).trans (out_ite (out_ite (out_ite (rfl) (ih l (IntKind.i64.wrap (i + (1 : Int))) id)) (rfl)) (rfl))
theorem ref02_In_to2 : LoopOK ref02_In_cx (lp (body Tryz.f60) 0) := loopOK_of (id := 2) (sp := ref02_In_sp2) (by kernel_rfl) (by kernel_rfl) (loopTo_of (V := ref02_In_V2) (B := ref02_In_B2) (L := fun n x y => ref02_In_L2 n x.1 x.2.2.1 y.1) (tr := ref02_In_tr2) (m := fun x y => x.1.length + Int.toNat x.2.2.1 + 1) fun R K n x y => ref02_In_loop2 R K n x.1 x.2.2.1 y.1)
noncomputable def ref02_In (l : List RowID) (id : RowID) : Bool × Bool := bnd (ref02_In_L2 (l.length + Int.toNat (0 : Int) + (1 : Nat)) l (0 : Int) id) (fun r0 => bif isL r0 then (true, getL r0) else (true, false)) (false, default)
noncomputable def ref02_In_res (r : Bool) : ARes ty := ⟨[.pure (.lit (.bool r))], []⟩
theorem ref02_In_run (l : List RowID) (id : RowID) : runFn ref02_In_cx Tryz.f60 (body Tryz.f60) ⟨[.pure], []⟩ [.pure (.sl 30 l), .pure (.agg (base.enc 30 id))] = out (fun r => some (ref02_In_res r)) (ref02_In l id) := by
  have h : runFn ref02_In_cx Tryz.f60 (body Tryz.f60) ⟨[.pure], []⟩ [.pure (.sl 30 l), .pure (.agg (base.enc 30 id))] = obnd (ref02_In_L2 (l.length + Int.toNat (0 : Int) + (1 : Nat)) l (0 : Int) id) (fun r1 => bif isL r1 then some ⟨[.pure (.lit (.bool (getL r1)))], []⟩ else some ⟨[.pure (.lit (.bool false))], []⟩) := by kernel_rfl
  rw [ref02_In]
  exact h.trans (out_ite (out_ite (rfl) (rfl)) (rfl))
noncomputable def ref02_In_A : AL base (List RowID × RowID × Unit) := aCons (aPure (vSl 30)) (aCons (aPure (vAgg 30)) aNil)
noncomputable def ref02_In_spec : Ab.Spec ty := mkSpec ref02_In_A fun x => ((ref02_In x.1 x.2.1).1, ref02_In_res (ref02_In x.1 x.2.1).2)
theorem ref02_In_sound : Sound Tryz.prog base 60 ref02_In_spec :=
  sound_of_run (cx' := ref02_In_cx) draws base_ok ⟨⟨rfl, rfl, rfl, rfl, rfl, rfl⟩, rfl⟩ (spec_of [] trivial) Tryz.call60 Tryz.func60 (c := body Tryz.f60) (by kernel_rfl) (loopsOK_of (l := [lp (body Tryz.f60) 0]) (by kernel_rfl) ⟨ref02_In_to2, trivial⟩) (sg := ⟨[.pure], []⟩) (A := ref02_In_A) (res := ref02_In_res) (F := fun x => ref02_In x.1 x.2.1) (fun x => ref02_In_run x.1 x.2.1) (fun _ => by kernel_rfl)
end Go.Proofs.YteopikhooiallaaGreatDoor
/- Functions of the program as plain functions, with their contracts. Printed by program. -/
set_option autoImplicit false
set_option linter.unusedVariables false
set_option linter.unusedSimpArgs false
namespace Go.Proofs.YteopikhooiallaaGreatDoor
open Go Go.Ab
/-! ### lineage/lineageref02.insert -/
noncomputable def ref02_insert_L6 : Nat → List RowID → Bool → Int → RowID → List RowID → Bool × (Bool × RowID × List RowID)
  | 0, _, _, _, _, _ => (false, default)
  | n + 1, l, done, i, id, out_ => bif decide (i < Int.ofNat l.length) then bif !done then bif decide ((0 : Int) ≤ i) && decide (i < Int.ofNat l.length) then bnd (ref02_Compare id (l.getD i.toNat default)) (fun r0 => bif decide (r0 < (0 : Int)) then bif decide ((out_.length + [id].length) * (16 : Nat) ≤ reach) then bif decide ((0 : Int) ≤ i) && decide (i < Int.ofNat l.length) then bif decide (((out_ ++ [id]).length + [l.getD i.toNat default].length) * (16 : Nat) ≤ reach) then ref02_insert_L6 n l true (IntKind.i64.wrap (i + (1 : Int))) id (out_ ++ [id] ++ [l.getD i.toNat default]) else (false, default) else (false, default) else (false, default) else bif decide ((0 : Int) ≤ i) && decide (i < Int.ofNat l.length) then bif decide ((out_.length + [l.getD i.toNat default].length) * (16 : Nat) ≤ reach) then ref02_insert_L6 n l done (IntKind.i64.wrap (i + (1 : Int))) id (out_ ++ [l.getD i.toNat default]) else (false, default) else (false, default)) (false, default) else (false, default) else bif decide ((0 : Int) ≤ i) && decide (i < Int.ofNat l.length) then bif decide ((out_.length + [l.getD i.toNat default].length) * (16 : Nat) ≤ reach) then ref02_insert_L6 n l done (IntKind.i64.wrap (i + (1 : Int))) id (out_ ++ [l.getD i.toNat default]) else (false, default) else (false, default) else (true, (done, id, out_))
noncomputable def ref02_insert_tr6 (r : Bool × RowID × List RowID) : LTree ty := .done (.exit 0) [.ptr 192 0, .own 193, .lit (.bool r.1)] [.box (base.enc 30 r.2.1) false, .arr 30 r.2.2 false]
noncomputable def ref02_insert_V6 : LL ty (List RowID × Unit × Unit × Bool × Int × Unit) := llCons (lSl 30) (llCons (lPtrC 192 0) (llCons (lOwn 193) (llCons lBool (llCons (lInt .i64) llNil))))
noncomputable def ref02_insert_B6 : BL ty (RowID × List RowID × Unit) := bBox (llMap (fun x => (⟨x.1, x.2.1⟩ : RowID)) (fun x => (x.Table, x.Seq, ())) (fun _ => rfl) (llCons (lInt .i64) (llCons (lInt .i64) llNil))) false (bArr 30 false (bNil))
noncomputable def ref02_insert_sp6 : LSpec ty := mkLoop ref02_insert_V6 ref02_insert_B6 fun x y => ((ref02_insert_L6 (x.1.length + Int.toNat x.2.2.2.2.1 + y.2.1.length + 1) x.1 x.2.2.2.1 x.2.2.2.2.1 y.1 y.2.1).1, ref02_insert_tr6 (ref02_insert_L6 (x.1.length + Int.toNat x.2.2.2.2.1 + y.2.1.length + 1) x.1 x.2.2.2.1 x.2.2.2.2.1 y.1 y.2.1).2)
noncomputable def ref02_insert_cx : Cx ty := { base with nt := 48, spec := fun g => List.lookup g [(20, ref02_Compare_spec), (60, ref02_In_spec)], io := fun g => (List.lookup g []).getD [], head := fun i => (List.lookup i [(6, [(0, .keep), (3, .keep), (5, .keep), (6, .keep), (7, .keep)])]).getD [], out := outOf [(6, 1, [(3, .keep), (5, .keep), (6, .keep)])], loops := fun i => List.lookup i [(6, ref02_insert_sp6)] }
theorem ref02_insert_round6 {R : Type} (H : List (AV ty) → List (Blk ty) → Option R) (K : Ex → List (AV ty) → List (Blk ty) → Option R) (l : List RowID) (done : Bool) (i : Int) (id : RowID) (out_ : List RowID) : roundK ref02_insert_cx (lp (body Tryz.f57) 0) H K [.sl 30 l, .ptr 192 0, .own 193, .lit (.bool done), .lit (.int .i64 i)] [.box (base.enc 30 id) false, .arr 30 out_ false] = bif decide (i < Int.ofNat l.length) then bif !done then bif decide ((0 : Int) ≤ i) && decide (i < Int.ofNat l.length) then obnd (ref02_Compare id (l.getD i.toNat default)) (fun r1 => bif decide (r1 < (0 : Int)) then bif decide ((out_.length + [id].length) * (16 : Nat) ≤ reach) then bif decide ((0 : Int) ≤ i) && decide (i < Int.ofNat l.length) then bif decide (((out_ ++ [id]).length + [l.getD i.toNat default].length) * (16 : Nat) ≤ reach) then H [.sl 30 l, .ptr 192 0, .own 193, .lit (.bool true), .lit (.int .i64 (IntKind.i64.wrap (i + (1 : Int))))] [.box (base.enc 30 id) false, .arr 30 (out_ ++ [id] ++ [l.getD i.toNat default]) false] else none else none else none else bif decide ((0 : Int) ≤ i) && decide (i < Int.ofNat l.length) then bif decide ((out_.length + [l.getD i.toNat default].length) * (16 : Nat) ≤ reach) then H [.sl 30 l, .ptr 192 0, .own 193, .lit (.bool done), .lit (.int .i64 (IntKind.i64.wrap (i + (1 : Int))))] [.box (base.enc 30 id) false, .arr 30 (out_ ++ [l.getD i.toNat default]) false] else none else none) else none else bif decide ((0 : Int) ≤ i) && decide (i < Int.ofNat l.length) then bif decide ((out_.length + [l.getD i.toNat default].length) * (16 : Nat) ≤ reach) then H [.sl 30 l, .ptr 192 0, .own 193, .lit (.bool done), .lit (.int .i64 (IntKind.i64.wrap (i + (1 : Int))))] [.box (base.enc 30 id) false, .arr 30 (out_ ++ [l.getD i.toNat default]) false] else none else none else K (.exit 0) [.ptr 192 0, .own 193, .lit (.bool done)] [.box (base.enc 30 id) false, .arr 30 out_ false] := by kernel_rfl
theorem ref02_insert_loop6 (R : Type) (K : Ex → List (AV ty) → List (Blk ty) → Option R) : ∀ (n : Nat) (l : List RowID) (done : Bool) (i : Int) (id : RowID) (out_ : List RowID), loopI ref02_insert_cx (lp (body Tryz.f57) 0) K n [.sl 30 l, .ptr 192 0, .own 193, .lit (.bool done), .lit (.int .i64 i)] [.box (base.enc 30 id) false, .arr 30 out_ false] = out (fun r => treeK K (ref02_insert_tr6 r)) (ref02_insert_L6 n l done i id out_)
  | 0, _, _, _, _, _ => rfl
  | n + 1, l, done, i, id, out_ => by
    have ih := ref02_insert_loop6 R K n
    rw [ref02_insert_L6]
    exact (ref02_insert_round6 (loopI ref02_insert_cx (lp (body Tryz.f57) 0) K n) K l done i id out_).trans (out_ite (out_ite (out_ite (out_ite (out_ite (out_ite (out_ite (out_ite (ih l true (IntKind.i64.wrap (i + (1 : Int))) id (out_ ++ [id] ++ [l.getD i.toNat default])) (rfl)) (rfl)) (rfl)) (out_ite (out_ite (ih l done (IntKind.i64.wrap (i + (1 : Int))) id (out_ ++ [l.getD i.toNat default])) (rfl)) (rfl))) (rfl)) (rfl)) (out_ite (out_ite (ih l done (IntKind.i64.wrap (i + (1 : Int))) id (out_ ++ [l.getD i.toNat default])) (rfl)) (rfl))) (rfl))
theorem ref02_insert_to6 : LoopOK ref02_insert_cx (lp (body Tryz.f57) 0) := loopOK_of (id := 6) (sp := ref02_insert_sp6) (by kernel_rfl) (by kernel_rfl) (loopTo_of (V := ref02_insert_V6) (B := ref02_insert_B6) (L := fun n x y => ref02_insert_L6 n x.1 x.2.2.2.1 x.2.2.2.2.1 y.1 y.2.1) (tr := ref02_insert_tr6) (m := fun x y => x.1.length + Int.toNat x.2.2.2.2.1 + y.2.1.length + 1) fun R K n x y => ref02_insert_loop6 R K n x.1 x.2.2.2.1 x.2.2.2.2.1 y.1 y.2.1)
noncomputable def ref02_insert (l : List RowID) (id : RowID) : Bool × List RowID := bnd (ref02_In l id) (fun r3 => bif r3 then (true, l) else bnd (ref02_insert_L6 (l.length + Int.toNat (0 : Int) + (0 : Nat) + (1 : Nat)) l false (0 : Int) id []) (fun r2 => bif !r2.fst then bif decide ((r2.snd.snd.length + [r2.snd.fst].length) * (16 : Nat) ≤ reach) then (true, r2.snd.snd ++ [r2.snd.fst]) else (false, default) else (true, r2.snd.snd)) (false, default)) (false, default)
noncomputable def ref02_insert_res (r : List RowID) : ARes ty := ⟨[.pure (.sl 30 r)], []⟩
theorem ref02_insert_run (l : List RowID) (id : RowID) : runFn ref02_insert_cx Tryz.f57 (body Tryz.f57) ⟨[.pure], []⟩ [.pure (.sl 30 l), .pure (.agg (base.enc 30 id))] = out (fun r => some (ref02_insert_res r)) (ref02_insert l id) := by
  have h : runFn ref02_insert_cx Tryz.f57 (body Tryz.f57) ⟨[.pure], []⟩ [.pure (.sl 30 l), .pure (.agg (base.enc 30 id))] = obnd (ref02_In l id) (fun r5 => bif r5 then some ⟨[.pure (.sl 30 l)], []⟩ else obnd (ref02_insert_L6 (l.length + Int.toNat (0 : Int) + (0 : Nat) + (1 : Nat)) l false (0 : Int) id []) (fun r4 => bif !r4.fst then bif decide ((r4.snd.snd.length + [r4.snd.fst].length) * (16 : Nat) ≤ reach) then some ⟨[.pure (.sl 30 (r4.snd.snd ++ [r4.snd.fst]))], []⟩ else none else some ⟨[.pure (.sl 30 (r4.snd.snd))], []⟩)) := by kernel_rfl
  rw [ref02_insert]
  exact h.trans (out_ite (out_ite (rfl) (out_ite (out_ite (out_ite (rfl) (rfl)) (rfl)) (rfl))) (rfl))
noncomputable def ref02_insert_A : AL base (List RowID × RowID × Unit) := aCons (aPure (vSl 30)) (aCons (aPure (vAgg 30)) aNil)
noncomputable def ref02_insert_spec : Ab.Spec ty := mkSpec ref02_insert_A fun x => ((ref02_insert x.1 x.2.1).1, ref02_insert_res (ref02_insert x.1 x.2.1).2)
theorem ref02_insert_sound : Sound Tryz.prog base 57 ref02_insert_spec :=
  sound_of_run (cx' := ref02_insert_cx) draws base_ok ⟨⟨rfl, rfl, rfl, rfl, rfl, rfl⟩, rfl⟩ (spec_of [(20, ref02_Compare_spec), (60, ref02_In_spec)] ⟨(ref02_Compare_sound), (ref02_In_sound), trivial⟩) Tryz.call57 Tryz.func57 (c := body Tryz.f57) (by kernel_rfl) (loopsOK_of (l := [lp (body Tryz.f57) 0]) (by kernel_rfl) ⟨ref02_insert_to6, trivial⟩) (sg := ⟨[.pure], []⟩) (A := ref02_insert_A) (res := ref02_insert_res) (F := fun x => ref02_insert x.1 x.2.1) (fun x => ref02_insert_run x.1 x.2.1) (fun _ => by kernel_rfl)
end Go.Proofs.YteopikhooiallaaGreatDoor
/- Functions of the program as plain functions, with their contracts. Printed by program. -/
set_option autoImplicit false
set_option linter.unusedVariables false
set_option linter.unusedSimpArgs false
namespace Go.Proofs.YteopikhooiallaaGreatDoor
open Go Go.Ab
/-! ### lineage/lineageref02.Normalize -/
noncomputable def ref02_Normalize_L3 : Nat → List RowID → List RowID → Int → Bool × List RowID
  | 0, _, _, _ => (false, default)
  | n + 1, l, out_, i => bif decide (i < Int.ofNat l.length) then bif decide ((0 : Int) ≤ i) && decide (i < Int.ofNat l.length) then bnd (ref02_insert out_ (l.getD i.toNat default)) (fun r0 => ref02_Normalize_L3 n l (r0) (IntKind.i64.wrap (i + (1 : Int)))) (false, default) else (false, default) else (true, out_)
noncomputable def ref02_Normalize_tr3 (r : List RowID) : LTree ty := .done (.exit 0) [.sl 30 r] []
noncomputable def ref02_Normalize_V3 : LL ty (List RowID × List RowID × Int × Unit) := llCons (lSl 30) (llCons (lSl 30) (llCons (lInt .i64) llNil))
noncomputable def ref02_Normalize_B3 : BL ty (Unit) := bNil
noncomputable def ref02_Normalize_sp3 : LSpec ty := mkLoop ref02_Normalize_V3 ref02_Normalize_B3 fun x y => ((ref02_Normalize_L3 (x.1.length + x.2.1.length + Int.toNat x.2.2.1 + 1) x.1 x.2.1 x.2.2.1).1, ref02_Normalize_tr3 (ref02_Normalize_L3 (x.1.length + x.2.1.length + Int.toNat x.2.2.1 + 1) x.1 x.2.1 x.2.2.1).2)
noncomputable def ref02_Normalize_cx : Cx ty := { base with nt := 19, spec := fun g => List.lookup g [(57, ref02_insert_spec)], io := fun g => (List.lookup g []).getD [], head := fun i => (List.lookup i [(3, [(0, .keep), (3, .sl 30), (4, .keep)])]).getD [], out := outOf [(3, 1, [(3, .keep)])], loops := fun i => List.lookup i [(3, ref02_Normalize_sp3)] }
theorem ref02_Normalize_round3 {R : Type} (H : List (AV ty) → List (Blk ty) → Option R) (K : Ex → List (AV ty) → List (Blk ty) → Option R) (l : List RowID) (out_ : List RowID) (i : Int) : roundK ref02_Normalize_cx (lp (body Tryz.f33) 0) H K [.sl 30 l, .sl 30 out_, .lit (.int .i64 i)] [] = bif decide (i < Int.ofNat l.length) then bif decide ((0 : Int) ≤ i) && decide (i < Int.ofNat l.length) then obnd (ref02_insert out_ (l.getD i.toNat default)) (fun r1 => H [.sl 30 l, .sl 30 (r1), .lit (.int .i64 (IntKind.i64.wrap (i + (1 : Int))))] []) else none else K (.exit 0) [.sl 30 out_] [] := by kernel_rfl
theorem ref02_Normalize_loop3 (R : Type) (K : Ex → List (AV ty) → List (Blk ty) → Option R) : ∀ (n : Nat) (l : List RowID) (out_ : List RowID) (i : Int), loopI ref02_Normalize_cx (lp (body Tryz.f33) 0) K n [.sl 30 l, .sl 30 out_, .lit (.int .i64 i)] [] = out (fun r => treeK K (ref02_Normalize_tr3 r)) (ref02_Normalize_L3 n l out_ i)
  | 0, _, _, _ => rfl
  | n + 1, l, out_, i => by
    have ih := ref02_Normalize_loop3 R K n
    rw [ref02_Normalize_L3]
    exact (ref02_Normalize_round3 (loopI ref02_Normalize_cx (lp (body Tryz.f33) 0) K n) K l out_ i).trans (out_ite (out_ite (out_ite (ih l ((ref02_insert out_ (l.getD i.toNat default)).snd) (IntKind.i64.wrap (i + (1 : Int)))) (rfl)) (rfl)) (rfl))
theorem ref02_Normalize_to3 : LoopOK ref02_Normalize_cx (lp (body Tryz.f33) 0) := loopOK_of (id := 3) (sp := ref02_Normalize_sp3) (by kernel_rfl) (by kernel_rfl) (loopTo_of (V := ref02_Normalize_V3) (B := ref02_Normalize_B3) (L := fun n x y => ref02_Normalize_L3 n x.1 x.2.1 x.2.2.1) (tr := ref02_Normalize_tr3) (m := fun x y => x.1.length + x.2.1.length + Int.toNat x.2.2.1 + 1) fun R K n x y => ref02_Normalize_loop3 R K n x.1 x.2.1 x.2.2.1)
noncomputable def ref02_Normalize (l : List RowID) : Bool × List RowID := bnd (ref02_Normalize_L3 (l.length + (0 : Nat) + Int.toNat (0 : Int) + (1 : Nat)) l [] (0 : Int)) (fun r2 => (true, r2)) (false, default)
noncomputable def ref02_Normalize_res (r : List RowID) : ARes ty := ⟨[.pure (.sl 30 r)], []⟩
theorem ref02_Normalize_run (l : List RowID) : runFn ref02_Normalize_cx Tryz.f33 (body Tryz.f33) ⟨[.pure], []⟩ [.pure (.sl 30 l)] = out (fun r => some (ref02_Normalize_res r)) (ref02_Normalize l) := by
  have h : runFn ref02_Normalize_cx Tryz.f33 (body Tryz.f33) ⟨[.pure], []⟩ [.pure (.sl 30 l)] = obnd (ref02_Normalize_L3 (l.length + (0 : Nat) + Int.toNat (0 : Int) + (1 : Nat)) l [] (0 : Int)) (fun r3 => some ⟨[.pure (.sl 30 (r3))], []⟩) := by kernel_rfl
  rw [ref02_Normalize]
  exact h.trans (out_ite (rfl) (rfl))
noncomputable def ref02_Normalize_A : AL base (List RowID × Unit) := aCons (aPure (vSl 30)) aNil
noncomputable def ref02_Normalize_spec : Ab.Spec ty := mkSpec ref02_Normalize_A fun x => ((ref02_Normalize x.1).1, ref02_Normalize_res (ref02_Normalize x.1).2)
theorem ref02_Normalize_sound : Sound Tryz.prog base 33 ref02_Normalize_spec :=
  sound_of_run (cx' := ref02_Normalize_cx) draws base_ok ⟨⟨rfl, rfl, rfl, rfl, rfl, rfl⟩, rfl⟩ (spec_of [(57, ref02_insert_spec)] ⟨(ref02_insert_sound), trivial⟩) Tryz.call33 Tryz.func33 (c := body Tryz.f33) (by kernel_rfl) (loopsOK_of (l := [lp (body Tryz.f33) 0]) (by kernel_rfl) ⟨ref02_Normalize_to3, trivial⟩) (sg := ⟨[.pure], []⟩) (A := ref02_Normalize_A) (res := ref02_Normalize_res) (F := fun x => ref02_Normalize x.1) (fun x => ref02_Normalize_run x.1) (fun _ => by kernel_rfl)
end Go.Proofs.YteopikhooiallaaGreatDoor
/- Functions of the program as plain functions, with their contracts. Printed by program. -/
set_option autoImplicit false
set_option linter.unusedVariables false
set_option linter.unusedSimpArgs false
namespace Go.Proofs.YteopikhooiallaaGreatDoor
open Go Go.Ab
/-! ### lineage/lineageref02.FormatSet -/
noncomputable def ref02_FormatSet_L4 : Nat → ByteArray → List RowID → Int → Bool × (ByteArray ⊕ ByteArray)
  | 0, _, _, _ => (false, .inl default)
  | n + 1, s, all, i => bif decide (i < Int.ofNat all.length) then bif decide ((0 : Int) ≤ i) && decide (i < Int.ofNat all.length) then bnd (ref02_Valid (all.getD i.toNat default)) (fun r2 => bif !r2 then (true, .inl (ByteArray.mk #[])) else bif decide (i > (0 : Int)) then bif decide (s.size + (ByteArray.mk #[(44 : UInt8), (32 : UInt8)]).size ≤ (9223372036854775807 : Nat)) then bif decide ((0 : Int) ≤ i) && decide (i < Int.ofNat all.length) then bnd (ref02_Format (all.getD i.toNat default)) (fun r0 => bif decide ((s ++ ByteArray.mk #[(44 : UInt8), (32 : UInt8)]).size + r0.size ≤ (9223372036854775807 : Nat)) then ref02_FormatSet_L4 n (s ++ ByteArray.mk #[(44 : UInt8), (32 : UInt8)] ++ r0) all (IntKind.i64.wrap (i + (1 : Int))) else (false, .inl default)) (false, .inl default) else (false, .inl default) else (false, .inl default) else bif decide ((0 : Int) ≤ i) && decide (i < Int.ofNat all.length) then bnd (ref02_Format (all.getD i.toNat default)) (fun r1 => bif decide (s.size + r1.size ≤ (9223372036854775807 : Nat)) then ref02_FormatSet_L4 n (s ++ r1) all (IntKind.i64.wrap (i + (1 : Int))) else (false, .inl default)) (false, .inl default) else (false, .inl default)) (false, .inl default) else (false, .inl default) else (true, .inr s)
noncomputable def ref02_FormatSet_tr4 (r : ByteArray ⊕ ByteArray) : LTree ty := .ite (isL r) (.done .ret [.lit (.string (getL r))] []) (.done (.exit 0) [.lit (.string (getR r))] [])
noncomputable def ref02_FormatSet_V4 : LL ty (ByteArray × List RowID × Int × Unit) := llCons lStr (llCons (lSl 30) (llCons (lInt .i64) llNil))
noncomputable def ref02_FormatSet_B4 : BL ty (Unit) := bNil
noncomputable def ref02_FormatSet_sp4 : LSpec ty := mkLoop ref02_FormatSet_V4 ref02_FormatSet_B4 fun x y => ((ref02_FormatSet_L4 (x.1.size + x.2.1.length + Int.toNat x.2.2.1 + 1) x.1 x.2.1 x.2.2.1).1, ref02_FormatSet_tr4 (ref02_FormatSet_L4 (x.1.size + x.2.1.length + Int.toNat x.2.2.1 + 1) x.1 x.2.1 x.2.2.1).2)
noncomputable def ref02_FormatSet_cx : Cx ty := { base with nt := 33, spec := fun g => List.lookup g [(18, ref02_Valid_spec), (22, ref02_Format_spec), (33, ref02_Normalize_spec)], io := fun g => (List.lookup g []).getD [], head := fun i => (List.lookup i [(4, [(3, .keep), (4, .keep), (5, .keep)])]).getD [], out := outOf [(4, 1, [(3, .keep)]), (4, 0, [(2, .keep)])], loops := fun i => List.lookup i [(4, ref02_FormatSet_sp4)] }
theorem ref02_FormatSet_round4 {R : Type} (H : List (AV ty) → List (Blk ty) → Option R) (K : Ex → List (AV ty) → List (Blk ty) → Option R) (s : ByteArray) (all : List RowID) (i : Int) : roundK ref02_FormatSet_cx (lp (body Tryz.f24) 0) H K [.lit (.string s), .sl 30 all, .lit (.int .i64 i)] [] = bif decide (i < Int.ofNat all.length) then bif decide ((0 : Int) ≤ i) && decide (i < Int.ofNat all.length) then obnd (ref02_Valid (all.getD i.toNat default)) (fun r5 => bif !r5 then K .ret [.lit (.string (ByteArray.mk #[]))] [] else bif decide (i > (0 : Int)) then bif decide (s.size + (ByteArray.mk #[(44 : UInt8), (32 : UInt8)]).size ≤ (9223372036854775807 : Nat)) then bif decide ((0 : Int) ≤ i) && decide (i < Int.ofNat all.length) then obnd (ref02_Format (all.getD i.toNat default)) (fun r3 => bif decide ((s ++ ByteArray.mk #[(44 : UInt8), (32 : UInt8)]).size + r3.size ≤ (9223372036854775807 : Nat)) then H [.lit (.string (s ++ ByteArray.mk #[(44 : UInt8), (32 : UInt8)] ++ r3)), .sl 30 all, .lit (.int .i64 (IntKind.i64.wrap (i + (1 : Int))))] [] else none) else none else none else bif decide ((0 : Int) ≤ i) && decide (i < Int.ofNat all.length) then obnd (ref02_Format (all.getD i.toNat default)) (fun r4 => bif decide (s.size + r4.size ≤ (9223372036854775807 : Nat)) then H [.lit (.string (s ++ r4)), .sl 30 all, .lit (.int .i64 (IntKind.i64.wrap (i + (1 : Int))))] [] else none) else none) else none else K (.exit 0) [.lit (.string s)] [] := by kernel_rfl
theorem ref02_FormatSet_loop4 (R : Type) (K : Ex → List (AV ty) → List (Blk ty) → Option R) : ∀ (n : Nat) (s : ByteArray) (all : List RowID) (i : Int), loopI ref02_FormatSet_cx (lp (body Tryz.f24) 0) K n [.lit (.string s), .sl 30 all, .lit (.int .i64 i)] [] = out (fun r => treeK K (ref02_FormatSet_tr4 r)) (ref02_FormatSet_L4 n s all i)
  | 0, _, _, _ => rfl
  | n + 1, s, all, i => by
    have ih := ref02_FormatSet_loop4 R K n
    rw [ref02_FormatSet_L4]
    exact (ref02_FormatSet_round4 (loopI ref02_FormatSet_cx (lp (body Tryz.f24) 0) K n) K s all i).trans (out_ite (out_ite (out_ite (out_ite (rfl) (out_ite (out_ite (out_ite (out_ite (out_ite (ih (s ++ ByteArray.mk #[(44 : UInt8), (32 : UInt8)] ++ (ref02_Format (all.getD i.toNat default)).snd) all (IntKind.i64.wrap (i + (1 : Int)))) (rfl)) (rfl)) (rfl)) (rfl)) (out_ite (out_ite (out_ite (ih (s ++ (ref02_Format (all.getD i.toNat default)).snd) all (IntKind.i64.wrap (i + (1 : Int)))) (rfl)) (rfl)) (rfl)))) (rfl)) (rfl)) (rfl))
theorem ref02_FormatSet_to4 : LoopOK ref02_FormatSet_cx (lp (body Tryz.f24) 0) := loopOK_of (id := 4) (sp := ref02_FormatSet_sp4) (by kernel_rfl) (by kernel_rfl) (loopTo_of (V := ref02_FormatSet_V4) (B := ref02_FormatSet_B4) (L := fun n x y => ref02_FormatSet_L4 n x.1 x.2.1 x.2.2.1) (tr := ref02_FormatSet_tr4) (m := fun x y => x.1.size + x.2.1.length + Int.toNat x.2.2.1 + 1) fun R K n x y => ref02_FormatSet_loop4 R K n x.1 x.2.1 x.2.2.1)
noncomputable def ref02_FormatSet (l : List RowID) : Bool × ByteArray := bnd (ref02_Normalize l) (fun r7 => bnd (ref02_FormatSet_L4 ((ByteArray.mk #[(123 : UInt8)]).size + r7.length + Int.toNat (0 : Int) + (1 : Nat)) (ByteArray.mk #[(123 : UInt8)]) r7 (0 : Int)) (fun r6 => bif isL r6 then (true, getL r6) else bif decide ((getR r6).size + (ByteArray.mk #[(125 : UInt8)]).size ≤ (9223372036854775807 : Nat)) then (true, getR r6 ++ ByteArray.mk #[(125 : UInt8)]) else (false, default)) (false, default)) (false, default)
noncomputable def ref02_FormatSet_res (r : ByteArray) : ARes ty := ⟨[.pure (.lit (.string r))], []⟩
theorem ref02_FormatSet_run (l : List RowID) : runFn ref02_FormatSet_cx Tryz.f24 (body Tryz.f24) ⟨[.pure], []⟩ [.pure (.sl 30 l)] = out (fun r => some (ref02_FormatSet_res r)) (ref02_FormatSet l) := by
  have h : runFn ref02_FormatSet_cx Tryz.f24 (body Tryz.f24) ⟨[.pure], []⟩ [.pure (.sl 30 l)] = obnd (ref02_Normalize l) (fun r9 => obnd (ref02_FormatSet_L4 ((ByteArray.mk #[(123 : UInt8)]).size + r9.length + Int.toNat (0 : Int) + (1 : Nat)) (ByteArray.mk #[(123 : UInt8)]) r9 (0 : Int)) (fun r8 => bif isL r8 then some ⟨[.pure (.lit (.string (getL r8)))], []⟩ else bif decide ((getR r8).size + (ByteArray.mk #[(125 : UInt8)]).size ≤ (9223372036854775807 : Nat)) then some ⟨[.pure (.lit (.string (getR r8 ++ ByteArray.mk #[(125 : UInt8)])))], []⟩ else none)) := by kernel_rfl
  rw [ref02_FormatSet]
  exact h.trans (out_ite (out_ite (out_ite (rfl) (out_ite (rfl) (rfl))) (rfl)) (rfl))
noncomputable def ref02_FormatSet_A : AL base (List RowID × Unit) := aCons (aPure (vSl 30)) aNil
noncomputable def ref02_FormatSet_spec : Ab.Spec ty := mkSpec ref02_FormatSet_A fun x => ((ref02_FormatSet x.1).1, ref02_FormatSet_res (ref02_FormatSet x.1).2)
theorem ref02_FormatSet_sound : Sound Tryz.prog base 24 ref02_FormatSet_spec :=
  sound_of_run (cx' := ref02_FormatSet_cx) draws base_ok ⟨⟨rfl, rfl, rfl, rfl, rfl, rfl⟩, rfl⟩ (spec_of [(18, ref02_Valid_spec), (22, ref02_Format_spec), (33, ref02_Normalize_spec)] ⟨(ref02_Valid_sound), (ref02_Format_sound), (ref02_Normalize_sound), trivial⟩) Tryz.call24 Tryz.func24 (c := body Tryz.f24) (by kernel_rfl) (loopsOK_of (l := [lp (body Tryz.f24) 0]) (by kernel_rfl) ⟨ref02_FormatSet_to4, trivial⟩) (sg := ⟨[.pure], []⟩) (A := ref02_FormatSet_A) (res := ref02_FormatSet_res) (F := fun x => ref02_FormatSet x.1) (fun x => ref02_FormatSet_run x.1) (fun _ => by kernel_rfl)
end Go.Proofs.YteopikhooiallaaGreatDoor
/- Functions of the program as plain functions, with their contracts. Printed by program. -/
set_option autoImplicit false
set_option linter.unusedVariables false
set_option linter.unusedSimpArgs false
namespace Go.Proofs.YteopikhooiallaaGreatDoor
open Go Go.Ab
/-! ### lineage/lineageref02.number -/
noncomputable def ref02_number_L5 : Nat → ByteArray → Int → Bool → Int → Bool × ((Int × Bool × Bool) ⊕ (Int × Bool))
  | 0, _, _, _, _ => (false, .inl default)
  | n + 1, s, n_, fits, i => bif decide (i < Int.ofNat s.size) then bif decide ((0 : Int) ≤ i) && decide (i < Int.ofNat s.size) then bif decide (byteAt s i < (48 : Int)) then (true, .inl ((0 : Int), false, false)) else bif decide ((0 : Int) ≤ i) && decide (i < Int.ofNat s.size) then bif decide (byteAt s i > (57 : Int)) then (true, .inl ((0 : Int), false, false)) else bif decide ((0 : Int) ≤ i) && decide (i < Int.ofNat s.size) then bif decide (n_ > IntKind.i64.wrap ((IntKind.i64.wrap ((9223372036854775807 : Int) - IntKind.i64.wrap (IntKind.u8.wrap (byteAt s i - (48 : Int))))).tdiv (10 : Int))) then ref02_number_L5 n s (IntKind.i64.wrap (IntKind.i64.wrap ((10 : Int) * (0 : Int)) + IntKind.i64.wrap (IntKind.u8.wrap (byteAt s i - (48 : Int))))) false (IntKind.i64.wrap (i + (1 : Int))) else ref02_number_L5 n s (IntKind.i64.wrap (IntKind.i64.wrap ((10 : Int) * n_) + IntKind.i64.wrap (IntKind.u8.wrap (byteAt s i - (48 : Int))))) fits (IntKind.i64.wrap (i + (1 : Int))) else (false, .inl default) else (false, .inl default) else (false, .inl default) else (true, .inr (n_, fits))
noncomputable def ref02_number_tr5 (r : (Int × Bool × Bool) ⊕ (Int × Bool)) : LTree ty := .ite (isL r) (.done .ret [.lit (.int .i64 ((getL r).1)), .lit (.bool ((getL r).2.1)), .lit (.bool ((getL r).2.2))] []) (.done (.exit 0) [.lit (.int .i64 ((getR r).1)), .lit (.bool ((getR r).2))] [])
noncomputable def ref02_number_V5 : LL ty (ByteArray × Int × Bool × Int × Unit) := llCons lStr (llCons (lInt .i64) (llCons lBool (llCons (lInt .i64) llNil)))
noncomputable def ref02_number_B5 : BL ty (Unit) := bNil
noncomputable def ref02_number_sp5 : LSpec ty := mkLoop ref02_number_V5 ref02_number_B5 fun x y => ((ref02_number_L5 (x.1.size + Int.toNat x.2.1 + Int.toNat x.2.2.2.1 + 1) x.1 x.2.1 x.2.2.1 x.2.2.2.1).1, ref02_number_tr5 (ref02_number_L5 (x.1.size + Int.toNat x.2.1 + Int.toNat x.2.2.2.1 + 1) x.1 x.2.1 x.2.2.1 x.2.2.2.1).2)
noncomputable def ref02_number_cx : Cx ty := { base with nt := 47, spec := fun g => List.lookup g [], io := fun g => (List.lookup g []).getD [], head := fun i => (List.lookup i [(5, [(0, .keep), (2, .keep), (4, .keep), (5, .keep)])]).getD [], out := outOf [(5, 1, [(2, .keep), (4, .keep)]), (5, 0, [(2, .keep), (3, .keep), (4, .keep)])], loops := fun i => List.lookup i [(5, ref02_number_sp5)] }
theorem ref02_number_round5 {R : Type} (H : List (AV ty) → List (Blk ty) → Option R) (K : Ex → List (AV ty) → List (Blk ty) → Option R) (s : ByteArray) (n_ : Int) (fits : Bool) (i : Int) : roundK ref02_number_cx (lp (body Tryz.f44) 0) H K [.lit (.string s), .lit (.int .i64 n_), .lit (.bool fits), .lit (.int .i64 i)] [] = bif decide (i < Int.ofNat s.size) then bif decide ((0 : Int) ≤ i) && decide (i < Int.ofNat s.size) then bif decide (byteAt s i < (48 : Int)) then K .ret [.lit (.int .i64 (0 : Int)), .lit (.bool false), .lit (.bool false)] [] else bif decide ((0 : Int) ≤ i) && decide (i < Int.ofNat s.size) then bif decide (byteAt s i > (57 : Int)) then K .ret [.lit (.int .i64 (0 : Int)), .lit (.bool false), .lit (.bool false)] [] else bif decide ((0 : Int) ≤ i) && decide (i < Int.ofNat s.size) then bif decide (n_ > IntKind.i64.wrap ((IntKind.i64.wrap ((9223372036854775807 : Int) - IntKind.i64.wrap (IntKind.u8.wrap (byteAt s i - (48 : Int))))).tdiv (10 : Int))) then H [.lit (.string s), .lit (.int .i64 (IntKind.i64.wrap (IntKind.i64.wrap ((10 : Int) * (0 : Int)) + IntKind.i64.wrap (IntKind.u8.wrap (byteAt s i - (48 : Int)))))), .lit (.bool false), .lit (.int .i64 (IntKind.i64.wrap (i + (1 : Int))))] [] else H [.lit (.string s), .lit (.int .i64 (IntKind.i64.wrap (IntKind.i64.wrap ((10 : Int) * n_) + IntKind.i64.wrap (IntKind.u8.wrap (byteAt s i - (48 : Int)))))), .lit (.bool fits), .lit (.int .i64 (IntKind.i64.wrap (i + (1 : Int))))] [] else none else none else none else K (.exit 0) [.lit (.int .i64 n_), .lit (.bool fits)] [] := by kernel_rfl
theorem ref02_number_loop5 (R : Type) (K : Ex → List (AV ty) → List (Blk ty) → Option R) : ∀ (n : Nat) (s : ByteArray) (n_ : Int) (fits : Bool) (i : Int), loopI ref02_number_cx (lp (body Tryz.f44) 0) K n [.lit (.string s), .lit (.int .i64 n_), .lit (.bool fits), .lit (.int .i64 i)] [] = out (fun r => treeK K (ref02_number_tr5 r)) (ref02_number_L5 n s n_ fits i)
  | 0, _, _, _, _ => rfl
  | n + 1, s, n_, fits, i => by
    have ih := ref02_number_loop5 R K n
    rw [ref02_number_L5]
    exact (ref02_number_round5 (loopI ref02_number_cx (lp (body Tryz.f44) 0) K n) K s n_ fits i).trans (out_ite (out_ite (out_ite (rfl) (out_ite (out_ite (rfl) (out_ite (out_ite (ih s (IntKind.i64.wrap (IntKind.i64.wrap ((10 : Int) * (0 : Int)) + IntKind.i64.wrap (IntKind.u8.wrap (byteAt s i - (48 : Int))))) false (IntKind.i64.wrap (i + (1 : Int)))) (ih s (IntKind.i64.wrap (IntKind.i64.wrap ((10 : Int) * n_) + IntKind.i64.wrap (IntKind.u8.wrap (byteAt s i - (48 : Int))))) fits (IntKind.i64.wrap (i + (1 : Int))))) (rfl))) (rfl))) (rfl)) (rfl))
theorem ref02_number_to5 : LoopOK ref02_number_cx (lp (body Tryz.f44) 0) := loopOK_of (id := 5) (sp := ref02_number_sp5) (by kernel_rfl) (by kernel_rfl) (loopTo_of (V := ref02_number_V5) (B := ref02_number_B5) (L := fun n x y => ref02_number_L5 n x.1 x.2.1 x.2.2.1 x.2.2.2.1) (tr := ref02_number_tr5) (m := fun x y => x.1.size + Int.toNat x.2.1 + Int.toNat x.2.2.2.1 + 1) fun R K n x y => ref02_number_loop5 R K n x.1 x.2.1 x.2.2.1 x.2.2.2.1)
noncomputable def ref02_number (s : ByteArray) : Bool × (Int × Bool × Bool) := bif Int.ofNat s.size == (0 : Int) then (true, ((0 : Int), false, false)) else bif decide ((0 : Int) ≤ (0 : Int)) && decide ((0 : Int) < Int.ofNat s.size) then bif byteAt s (0 : Int) == (48 : Int) then (true, ((0 : Int), false, false)) else bnd (ref02_number_L5 (s.size + Int.toNat (0 : Int) + Int.toNat (0 : Int) + (1 : Nat)) s (0 : Int) true (0 : Int)) (fun r0 => bif isL r0 then (true, ((getL r0).fst, (getL r0).snd.fst, (getL r0).snd.snd)) else (true, ((getR r0).fst, true, (getR r0).snd))) (false, default) else (false, default)
noncomputable def ref02_number_res (r : Int × Bool × Bool) : ARes ty := ⟨[.pure (.lit (.int .i64 r.1)), .pure (.lit (.bool r.2.1)), .pure (.lit (.bool r.2.2))], []⟩
theorem ref02_number_run (s : ByteArray) : runFn ref02_number_cx Tryz.f44 (body Tryz.f44) ⟨[.pure, .pure, .pure], []⟩ [.pure (.lit (.string s))] = out (fun r => some (ref02_number_res r)) (ref02_number s) := by
  have h : runFn ref02_number_cx Tryz.f44 (body Tryz.f44) ⟨[.pure, .pure, .pure], []⟩ [.pure (.lit (.string s))] = bif Int.ofNat s.size == (0 : Int) then some ⟨[.pure (.lit (.int .i64 (0 : Int))), .pure (.lit (.bool false)), .pure (.lit (.bool false))], []⟩ else bif decide ((0 : Int) ≤ (0 : Int)) && decide ((0 : Int) < Int.ofNat s.size) then bif byteAt s (0 : Int) == (48 : Int) then some ⟨[.pure (.lit (.int .i64 (0 : Int))), .pure (.lit (.bool false)), .pure (.lit (.bool false))], []⟩ else obnd (ref02_number_L5 (s.size + Int.toNat (0 : Int) + Int.toNat (0 : Int) + (1 : Nat)) s (0 : Int) true (0 : Int)) (fun r1 => bif isL r1 then some ⟨[.pure (.lit (.int .i64 ((getL r1).fst))), .pure (.lit (.bool ((getL r1).snd.fst))), .pure (.lit (.bool ((getL r1).snd.snd)))], []⟩ else some ⟨[.pure (.lit (.int .i64 ((getR r1).fst))), .pure (.lit (.bool true)), .pure (.lit (.bool ((getR r1).snd)))], []⟩) else none := by kernel_rfl
  rw [ref02_number]
  exact h.trans (out_ite (rfl) (out_ite (out_ite (rfl) (out_ite (out_ite (rfl) (rfl)) (rfl))) (rfl)))
noncomputable def ref02_number_A : AL base (ByteArray × Unit) := aCons (aPure vStr) aNil
noncomputable def ref02_number_spec : Ab.Spec ty := mkSpec ref02_number_A fun x => ((ref02_number x.1).1, ref02_number_res (ref02_number x.1).2)
theorem ref02_number_sound : Sound Tryz.prog base 44 ref02_number_spec :=
  sound_of_run (cx' := ref02_number_cx) draws base_ok ⟨⟨rfl, rfl, rfl, rfl, rfl, rfl⟩, rfl⟩ (spec_of [] trivial) Tryz.call44 Tryz.func44 (c := body Tryz.f44) (by kernel_rfl) (loopsOK_of (l := [lp (body Tryz.f44) 0]) (by kernel_rfl) ⟨ref02_number_to5, trivial⟩) (sg := ⟨[.pure, .pure, .pure], []⟩) (A := ref02_number_A) (res := ref02_number_res) (F := fun x => ref02_number x.1) (fun x => ref02_number_run x.1) (fun _ => by kernel_rfl)
end Go.Proofs.YteopikhooiallaaGreatDoor
/- Functions of the program as plain functions, with their contracts. Printed by program. -/
set_option autoImplicit false
set_option linter.unusedVariables false
set_option linter.unusedSimpArgs false
namespace Go.Proofs.YteopikhooiallaaGreatDoor
open Go Go.Ab
/-! ### lineage/lineageref02.Parse -/
noncomputable def ref02_Parse_L2 : Nat → ByteArray → Int → Int → Int → Bool × (ByteArray × Int × Int × Int)
  | 0, _, _, _, _ => (false, default)
  | n + 1, s, dot, t2_0, t2_1 => bif decide (dot < Int.ofNat s.size) then bif decide ((0 : Int) ≤ dot) && decide (dot < Int.ofNat s.size) then bif byteAt s dot != (46 : Int) then ref02_Parse_L2 n s (IntKind.i64.wrap (dot + (1 : Int))) t2_0 t2_1 else (true, (s, dot, t2_0, t2_1)) else (false, default) else (true, (s, dot, t2_0, t2_1))
noncomputable def ref02_Parse_tr2 (r : ByteArray × Int × Int × Int) : LTree ty := .done (.exit 0) [.lit (.string r.1), .ptr 284 0, .lit (.int .i64 r.2.1)] [.box ([.lit (.int .i64 r.2.2.1), .lit (.int .i64 r.2.2.2)]) false]
noncomputable def ref02_Parse_V2 : LL ty (ByteArray × Unit × Int × Unit) := llCons lStr (llCons (lPtrC 284 0) (llCons (lInt .i64) llNil))
noncomputable def ref02_Parse_B2 : BL ty ((Int × Int × Unit) × Unit) := bBox (llCons (lInt .i64) (llCons (lInt .i64) llNil)) false (bNil)
noncomputable def ref02_Parse_sp2 : LSpec ty := mkLoop ref02_Parse_V2 ref02_Parse_B2 fun x y => ((ref02_Parse_L2 (x.1.size + Int.toNat x.2.2.1 + Int.toNat y.1.1 + Int.toNat y.1.2.1 + 1) x.1 x.2.2.1 y.1.1 y.1.2.1).1, ref02_Parse_tr2 (ref02_Parse_L2 (x.1.size + Int.toNat x.2.2.1 + Int.toNat y.1.1 + Int.toNat y.1.2.1 + 1) x.1 x.2.2.1 y.1.1 y.1.2.1).2)
noncomputable def ref02_Parse_cx : Cx ty := { base with nt := 71, spec := fun g => List.lookup g [(44, ref02_number_spec)], io := fun g => (List.lookup g []).getD [], head := fun i => (List.lookup i [(2, [(0, .keep), (2, .keep), (4, .keep)])]).getD [], out := outOf [(2, 1, [(0, .keep), (2, .keep), (4, .keep)])], loops := fun i => List.lookup i [(2, ref02_Parse_sp2)] }
theorem ref02_Parse_round2 {R : Type} (H : List (AV ty) → List (Blk ty) → Option R) (K : Ex → List (AV ty) → List (Blk ty) → Option R) (s : ByteArray) (dot : Int) (t2_0 : Int) (t2_1 : Int) : roundK ref02_Parse_cx (lp (body Tryz.f16) 0) H K [.lit (.string s), .ptr 284 0, .lit (.int .i64 dot)] [.box ([.lit (.int .i64 t2_0), .lit (.int .i64 t2_1)]) false] = bif decide (dot < Int.ofNat s.size) then bif decide ((0 : Int) ≤ dot) && decide (dot < Int.ofNat s.size) then bif byteAt s dot != (46 : Int) then H [.lit (.string s), .ptr 284 0, .lit (.int .i64 (IntKind.i64.wrap (dot + (1 : Int))))] [.box ([.lit (.int .i64 t2_0), .lit (.int .i64 t2_1)]) false] else K (.exit 0) [.lit (.string s), .ptr 284 0, .lit (.int .i64 dot)] [.box ([.lit (.int .i64 t2_0), .lit (.int .i64 t2_1)]) false] else none else K (.exit 0) [.lit (.string s), .ptr 284 0, .lit (.int .i64 dot)] [.box ([.lit (.int .i64 t2_0), .lit (.int .i64 t2_1)]) false] := by kernel_rfl
theorem ref02_Parse_loop2 (R : Type) (K : Ex → List (AV ty) → List (Blk ty) → Option R) : ∀ (n : Nat) (s : ByteArray) (dot : Int) (t2_0 : Int) (t2_1 : Int), loopI ref02_Parse_cx (lp (body Tryz.f16) 0) K n [.lit (.string s), .ptr 284 0, .lit (.int .i64 dot)] [.box ([.lit (.int .i64 t2_0), .lit (.int .i64 t2_1)]) false] = out (fun r => treeK K (ref02_Parse_tr2 r)) (ref02_Parse_L2 n s dot t2_0 t2_1)
  | 0, _, _, _, _ => rfl
  | n + 1, s, dot, t2_0, t2_1 => by
    have ih := ref02_Parse_loop2 R K n
    rw [ref02_Parse_L2]
    exact (ref02_Parse_round2 (loopI ref02_Parse_cx (lp (body Tryz.f16) 0) K n) K s dot t2_0 t2_1).trans (out_ite (out_ite (out_ite (ih s (IntKind.i64.wrap (dot + (1 : Int))) t2_0 t2_1) (rfl)) (rfl)) (rfl))
theorem ref02_Parse_to2 : LoopOK ref02_Parse_cx (lp (body Tryz.f16) 0) := loopOK_of (id := 2) (sp := ref02_Parse_sp2) (by kernel_rfl) (by kernel_rfl) (loopTo_of (V := ref02_Parse_V2) (B := ref02_Parse_B2) (L := fun n x y => ref02_Parse_L2 n x.1 x.2.2.1 y.1.1 y.1.2.1) (tr := ref02_Parse_tr2) (m := fun x y => x.1.size + Int.toNat x.2.2.1 + Int.toNat y.1.1 + Int.toNat y.1.2.1 + 1) fun R K n x y => ref02_Parse_loop2 R K n x.1 x.2.2.1 y.1.1 y.1.2.1)
noncomputable def ref02_Parse (s : ByteArray) : Bool × (RowID × Int) := bnd (ref02_Parse_L2 (s.size + Int.toNat (0 : Int) + Int.toNat (0 : Int) + Int.toNat (0 : Int) + (1 : Nat)) s (0 : Int) (0 : Int) (0 : Int)) (fun r2 => bif decide (r2.snd.fst < (1 : Int)) then (true, ((⟨(0 : Int), (0 : Int)⟩ : RowID), (3 : Int))) else bif decide (r2.snd.fst ≥ Int.ofNat r2.fst.size) then (true, ((⟨(0 : Int), (0 : Int)⟩ : RowID), (3 : Int))) else bif decide ((0 : Int) ≤ (0 : Int)) && decide ((0 : Int) < Int.ofNat r2.fst.size) then bif byteAt r2.fst (0 : Int) != (116 : Int) then (true, ((⟨(0 : Int), (0 : Int)⟩ : RowID), (3 : Int))) else bif decide ((0 : Int) ≤ (1 : Int)) && decide ((1 : Int) ≤ r2.snd.fst) && decide (r2.snd.fst ≤ Int.ofNat r2.fst.size) then bnd (ref02_number (r2.fst.extract (Int.toNat (1 : Int)) r2.snd.fst.toNat)) (fun r1 => bif decide ((0 : Int) ≤ IntKind.i64.wrap (r2.snd.fst + (1 : Int))) && decide (IntKind.i64.wrap (r2.snd.fst + (1 : Int)) ≤ Int.ofNat r2.fst.size) && decide (Int.ofNat r2.fst.size ≤ Int.ofNat r2.fst.size) then bnd (ref02_number (r2.fst.extract (IntKind.i64.wrap (r2.snd.fst + (1 : Int))).toNat (Int.ofNat r2.fst.size).toNat)) (fun r0 => bif !r1.snd.fst then (true, ((⟨(0 : Int), (0 : Int)⟩ : RowID), (3 : Int))) else bif !r0.snd.fst then (true, ((⟨(0 : Int), (0 : Int)⟩ : RowID), (3 : Int))) else bif !r1.snd.snd then (true, ((⟨(0 : Int), (0 : Int)⟩ : RowID), (2 : Int))) else bif !r0.snd.snd then (true, ((⟨(0 : Int), (0 : Int)⟩ : RowID), (2 : Int))) else (true, ((⟨r1.fst, r0.fst⟩ : RowID), (0 : Int)))) (false, default) else (false, default)) (false, default) else (false, default) else (false, default)) (false, default)
noncomputable def ref02_Parse_res (r : RowID × Int) : ARes ty := ⟨[.pure (.agg (base.enc 30 r.1)), .pure (.lit (.int .i64 r.2))], []⟩
theorem ref02_Parse_run (s : ByteArray) : runFn ref02_Parse_cx Tryz.f16 (body Tryz.f16) ⟨[.pure, .pure], []⟩ [.pure (.lit (.string s))] = out (fun r => some (ref02_Parse_res r)) (ref02_Parse s) := by
  have h : runFn ref02_Parse_cx Tryz.f16 (body Tryz.f16) ⟨[.pure, .pure], []⟩ [.pure (.lit (.string s))] = obnd (ref02_Parse_L2 (s.size + Int.toNat (0 : Int) + Int.toNat (0 : Int) + Int.toNat (0 : Int) + (1 : Nat)) s (0 : Int) (0 : Int) (0 : Int)) (fun r5 => bif decide (r5.snd.fst < (1 : Int)) then some ⟨[.pure (.agg (base.enc 30 (⟨(0 : Int), (0 : Int)⟩ : RowID))), .pure (.lit (.int .i64 (3 : Int)))], []⟩ else bif decide (r5.snd.fst ≥ Int.ofNat r5.fst.size) then some ⟨[.pure (.agg (base.enc 30 (⟨(0 : Int), (0 : Int)⟩ : RowID))), .pure (.lit (.int .i64 (3 : Int)))], []⟩ else bif decide ((0 : Int) ≤ (0 : Int)) && decide ((0 : Int) < Int.ofNat r5.fst.size) then bif byteAt r5.fst (0 : Int) != (116 : Int) then some ⟨[.pure (.agg (base.enc 30 (⟨(0 : Int), (0 : Int)⟩ : RowID))), .pure (.lit (.int .i64 (3 : Int)))], []⟩ else bif decide ((0 : Int) ≤ (1 : Int)) && decide ((1 : Int) ≤ r5.snd.fst) && decide (r5.snd.fst ≤ Int.ofNat r5.fst.size) then obnd (ref02_number (r5.fst.extract (Int.toNat (1 : Int)) r5.snd.fst.toNat)) (fun r4 => bif decide ((0 : Int) ≤ IntKind.i64.wrap (r5.snd.fst + (1 : Int))) && decide (IntKind.i64.wrap (r5.snd.fst + (1 : Int)) ≤ Int.ofNat r5.fst.size) && decide (Int.ofNat r5.fst.size ≤ Int.ofNat r5.fst.size) then obnd (ref02_number (r5.fst.extract (IntKind.i64.wrap (r5.snd.fst + (1 : Int))).toNat (Int.ofNat r5.fst.size).toNat)) (fun r3 => bif !r4.snd.fst then some ⟨[.pure (.agg (base.enc 30 (⟨(0 : Int), (0 : Int)⟩ : RowID))), .pure (.lit (.int .i64 (3 : Int)))], []⟩ else bif !r3.snd.fst then some ⟨[.pure (.agg (base.enc 30 (⟨(0 : Int), (0 : Int)⟩ : RowID))), .pure (.lit (.int .i64 (3 : Int)))], []⟩ else bif !r4.snd.snd then some ⟨[.pure (.agg (base.enc 30 (⟨(0 : Int), (0 : Int)⟩ : RowID))), .pure (.lit (.int .i64 (2 : Int)))], []⟩ else bif !r3.snd.snd then some ⟨[.pure (.agg (base.enc 30 (⟨(0 : Int), (0 : Int)⟩ : RowID))), .pure (.lit (.int .i64 (2 : Int)))], []⟩ else some ⟨[.pure (.agg (base.enc 30 (⟨r4.fst, r3.fst⟩ : RowID))), .pure (.lit (.int .i64 (0 : Int)))], []⟩) else none) else none else none) := by kernel_rfl
  rw [ref02_Parse]
  exact h.trans (out_ite (out_ite (rfl) (out_ite (rfl) (out_ite (out_ite (rfl) (out_ite (out_ite (out_ite (out_ite (out_ite (rfl) (out_ite (rfl) (out_ite (rfl) (out_ite (rfl) (rfl))))) (rfl)) (rfl)) (rfl)) (rfl))) (rfl)))) (rfl))
noncomputable def ref02_Parse_A : AL base (ByteArray × Unit) := aCons (aPure vStr) aNil
noncomputable def ref02_Parse_spec : Ab.Spec ty := mkSpec ref02_Parse_A fun x => ((ref02_Parse x.1).1, ref02_Parse_res (ref02_Parse x.1).2)
theorem ref02_Parse_sound : Sound Tryz.prog base 16 ref02_Parse_spec :=
  sound_of_run (cx' := ref02_Parse_cx) draws base_ok ⟨⟨rfl, rfl, rfl, rfl, rfl, rfl⟩, rfl⟩ (spec_of [(44, ref02_number_spec)] ⟨(ref02_number_sound), trivial⟩) Tryz.call16 Tryz.func16 (c := body Tryz.f16) (by kernel_rfl) (loopsOK_of (l := [lp (body Tryz.f16) 0]) (by kernel_rfl) ⟨ref02_Parse_to2, trivial⟩) (sg := ⟨[.pure, .pure], []⟩) (A := ref02_Parse_A) (res := ref02_Parse_res) (F := fun x => ref02_Parse x.1) (fun x => ref02_Parse_run x.1) (fun _ => by kernel_rfl)
end Go.Proofs.YteopikhooiallaaGreatDoor
/- Functions of the program as plain functions, with their contracts. Printed by program. -/
set_option autoImplicit false
set_option linter.unusedVariables false
set_option linter.unusedSimpArgs false
namespace Go.Proofs.YteopikhooiallaaGreatDoor
open Go Go.Ab
/-! ### strings.Cut -/
noncomputable def strings_Cut (s p : ByteArray) : Bool × (ByteArray × ByteArray × Bool) := cutF s p
noncomputable def strings_Cut_spec : Ab.Spec ty := mkSpec (cx := base0) (aCons (aPure vStr) (aCons (aPure vStr) aNil)) fun x => ((strings_Cut x.1 x.2.1).1, ⟨[.pure (.lit (.string (strings_Cut x.1 x.2.1).2.1)), .pure (.lit (.string (strings_Cut x.1 x.2.1).2.2.1)), .pure (.lit (.bool (strings_Cut x.1 x.2.1).2.2.2))], []⟩)
theorem strings_Cut_sound : Sound Tryz.prog base0 42 strings_Cut_spec := cut_sound base0_ok rfl Go.Proofs.Tryz.lays145 Tryz.call42 (fun _ h => h.2.1)
end Go.Proofs.YteopikhooiallaaGreatDoor
/- Functions of the program as plain functions, with their contracts. Printed by program. -/
set_option autoImplicit false
set_option linter.unusedVariables false
set_option linter.unusedSimpArgs false
namespace Go.Proofs.YteopikhooiallaaGreatDoor
open Go Go.Ab
/-! ### strings.CutPrefix -/
noncomputable def strings_CutPrefix (s p : ByteArray) : Bool × (ByteArray × Bool) := cutPrefixF s p
noncomputable def strings_CutPrefix_spec : Ab.Spec ty := mkSpec (cx := base) (aCons (aPure vStr) (aCons (aPure vStr) aNil)) fun x => ((strings_CutPrefix x.1 x.2.1).1, ⟨[.pure (.lit (.string (strings_CutPrefix x.1 x.2.1).2.1)), .pure (.lit (.bool (strings_CutPrefix x.1 x.2.1).2.2))], []⟩)
theorem strings_CutPrefix_sound : Sound Tryz.prog base 41 strings_CutPrefix_spec := cutPrefix_sound base_ok Go.Proofs.Tryz.lays103 Tryz.call41
end Go.Proofs.YteopikhooiallaaGreatDoor
/- Functions of the program as plain functions, with their contracts. Printed by program. -/
set_option autoImplicit false
set_option linter.unusedVariables false
set_option linter.unusedSimpArgs false
namespace Go.Proofs.YteopikhooiallaaGreatDoor
open Go Go.Ab
/-! ### strconv.Atoi -/
noncomputable def strconv_Atoi (s : ByteArray) : Bool × (Int × Bool) := atoiF s
noncomputable def strconv_Atoi_spec : Ab.Spec ty := mkSpec (cx := base0) (aCons (aPure vStr) aNil) fun x => ((strconv_Atoi x.1).1, ⟨[.pure (.lit (.int .i64 (strconv_Atoi x.1).2.1)), .pure (.err (strconv_Atoi x.1).2.2)], []⟩)
theorem strconv_Atoi_sound : Sound Tryz.prog base0 66 strconv_Atoi_spec := atoi_sound base0_ok rfl Go.Proofs.Tryz.laysC172 Tryz.call66 (fun _ h => h.2.2.1) (fun _ h => h.2.2.2)
end Go.Proofs.YteopikhooiallaaGreatDoor
/- Functions of the program as plain functions, with their contracts. Printed by program. -/
set_option autoImplicit false
set_option linter.unusedVariables false
set_option linter.unusedSimpArgs false
namespace Go.Proofs.YteopikhooiallaaGreatDoor
open Go Go.Ab
/-! ### lineage/rowset.number literal 1 -/
noncomputable def rowset_number_c1_cx : Cx ty := { base with nt := 9, spec := fun g => List.lookup g [], io := fun g => (List.lookup g []).getD [], head := fun i => (List.lookup i []).getD [], out := outOf [], loops := fun i => List.lookup i [] }
noncomputable def rowset_number_c1 (c : Int) : Bool × Bool := bif decide (c ≥ (48 : Int)) then (true, decide (c ≤ (57 : Int))) else (true, false)
noncomputable def rowset_number_c1_res (r : Bool) : ARes ty := ⟨[.pure (.lit (.bool r))], []⟩
theorem rowset_number_c1_run (c : Int) : runFn rowset_number_c1_cx Tryz.f63 (body Tryz.f63) ⟨[.pure], []⟩ [.pure (.lit (.int .i32 c))] = out (fun r => some (rowset_number_c1_res r)) (rowset_number_c1 c) := by
  have h : runFn rowset_number_c1_cx Tryz.f63 (body Tryz.f63) ⟨[.pure], []⟩ [.pure (.lit (.int .i32 c))] = bif decide (c ≥ (48 : Int)) then some ⟨[.pure (.lit (.bool (decide (c ≤ (57 : Int)))))], []⟩ else some ⟨[.pure (.lit (.bool false))], []⟩ := by kernel_rfl
  rw [rowset_number_c1]
  exact h.trans (out_ite (rfl) (rfl))
noncomputable def rowset_number_c1_A : AL base (Int × Unit) := aCons (aPure (vInt .i32)) aNil
noncomputable def rowset_number_c1_spec : Ab.Spec ty := mkSpec rowset_number_c1_A fun x => ((rowset_number_c1 x.1).1, rowset_number_c1_res (rowset_number_c1 x.1).2)
theorem rowset_number_c1_sound : Sound Tryz.prog base 63 rowset_number_c1_spec :=
  sound_of_run (cx' := rowset_number_c1_cx) draws base_ok ⟨⟨rfl, rfl, rfl, rfl, rfl, rfl⟩, rfl⟩ (spec_of [] trivial) Tryz.call63 Tryz.func63 (c := body Tryz.f63) (by kernel_rfl) (loopsOK_of (l := []) (by kernel_rfl) trivial) (sg := ⟨[.pure], []⟩) (A := rowset_number_c1_A) (res := rowset_number_c1_res) (F := fun x => rowset_number_c1 x.1) (fun x => rowset_number_c1_run x.1) (fun _ => by kernel_rfl)
end Go.Proofs.YteopikhooiallaaGreatDoor
/- Functions of the program as plain functions, with their contracts. Printed by program. -/
set_option autoImplicit false
set_option linter.unusedVariables false
set_option linter.unusedSimpArgs false
namespace Go.Proofs.YteopikhooiallaaGreatDoor
open Go Go.Ab
/-! ### lineage/rowset.number literal 2 -/
noncomputable def rowset_number_c2_cx : Cx ty := { base with nt := 8, spec := fun g => List.lookup g [(63, rowset_number_c1_spec)], io := fun g => (List.lookup g []).getD [], head := fun i => (List.lookup i []).getD [], out := outOf [], loops := fun i => List.lookup i [] }
noncomputable def rowset_number_c2 (c : Int) : Bool × Bool := bnd (rowset_number_c1 c) (fun r0 => (true, !r0)) (false, default)
noncomputable def rowset_number_c2_res (r : Bool) : ARes ty := ⟨[.pure (.lit (.bool r))], []⟩
theorem rowset_number_c2_run (c : Int) : runFn rowset_number_c2_cx Tryz.f65 (body Tryz.f65) ⟨[.pure], []⟩ [.pure (.lit (.int .i32 c)), .pure (.bptr [.fn 63 []] 0)] = out (fun r => some (rowset_number_c2_res r)) (rowset_number_c2 c) := by
  have h : runFn rowset_number_c2_cx Tryz.f65 (body Tryz.f65) ⟨[.pure], []⟩ [.pure (.lit (.int .i32 c)), .pure (.bptr [.fn 63 []] 0)] = obnd (rowset_number_c1 c) (fun r1 => some ⟨[.pure (.lit (.bool (!r1)))], []⟩) := by kernel_rfl
  rw [rowset_number_c2]
  exact h.trans (out_ite (rfl) (rfl))
noncomputable def rowset_number_c2_A : AL base (Int × (Unit × Unit) × Unit) := aCons (aPure (vInt .i32)) (aCons (aPure (vBox (vCons (vFn 63 vNil) vNil))) aNil)
noncomputable def rowset_number_c2_spec : Ab.Spec ty := mkSpec rowset_number_c2_A fun x => ((rowset_number_c2 x.1).1, rowset_number_c2_res (rowset_number_c2 x.1).2)
theorem rowset_number_c2_sound : Sound Tryz.prog base 65 rowset_number_c2_spec :=
  sound_of_run (cx' := rowset_number_c2_cx) draws base_ok ⟨⟨rfl, rfl, rfl, rfl, rfl, rfl⟩, rfl⟩ (spec_of [(63, rowset_number_c1_spec)] ⟨(rowset_number_c1_sound), trivial⟩) Tryz.call65 Tryz.func65 (c := body Tryz.f65) (by kernel_rfl) (loopsOK_of (l := []) (by kernel_rfl) trivial) (sg := ⟨[.pure], []⟩) (A := rowset_number_c2_A) (res := rowset_number_c2_res) (F := fun x => rowset_number_c2 x.1) (fun x => rowset_number_c2_run x.1) (fun _ => by kernel_rfl)
end Go.Proofs.YteopikhooiallaaGreatDoor
/- Functions of the program as plain functions, with their contracts. Printed by program. -/
set_option autoImplicit false
set_option linter.unusedVariables false
set_option linter.unusedSimpArgs false
namespace Go.Proofs.YteopikhooiallaaGreatDoor
open Go Go.Ab
/-! ### strings.ContainsFunc -/
noncomputable def strings_ContainsFunc (s : ByteArray) : Bool × Bool := containsFuncF (fun r => (rowset_number_c2 (r : Int)).2) s
noncomputable def strings_ContainsFunc_spec : Ab.Spec ty := mkSpec (cx := base0) (aCons (aPure vStr) (aCons (aPure (vFn 65 (vCons (vBox (vCons (vFn 63 vNil) vNil)) vNil))) aNil)) fun x => ((strings_ContainsFunc x.1).1, ⟨[.pure (.lit (.bool (strings_ContainsFunc x.1).2))], []⟩)
theorem strings_ContainsFunc_ends (x : Int) : (rowset_number_c2 x).1 = true := by
  unfold rowset_number_c2 rowset_number_c1; cases decide (x ≥ (48 : Int)) <;> rfl
theorem strings_ContainsFunc_cmp (c : (Unit × Unit) × Unit) (x : Nat) (_ : x ≤ 1114111) : rowset_number_c2_spec ((AV.lit (.int .i32 (x : Int)) :: (vCons (vBox (vCons (vFn 63 vNil) vNil)) vNil : VL base ((Unit × Unit) × Unit)).enc c).map Arg.pure) = some (true, ⟨[.pure (.lit (.bool (rowset_number_c2 (x : Int)).2))], []⟩) := by
  rw [← strings_ContainsFunc_ends (x : Int)]; kernel_rfl
theorem strings_ContainsFunc_sound : Sound Tryz.prog base0 64 strings_ContainsFunc_spec := containsFunc_sound base0_ok rfl Go.Proofs.Tryz.laysGw17 Tryz.call64 (rowset_number_c2_sound.nodr) (vCons (vBox (vCons (vFn 63 vNil) vNil)) vNil : VL base0 ((Unit × Unit) × Unit)) (fun _ r => (rowset_number_c2 (r : Int)).2) strings_ContainsFunc_cmp
end Go.Proofs.YteopikhooiallaaGreatDoor
/- Functions of the program as plain functions, with their contracts. Printed by program. -/
set_option autoImplicit false
set_option linter.unusedVariables false
set_option linter.unusedSimpArgs false
namespace Go.Proofs.YteopikhooiallaaGreatDoor
open Go Go.Ab
/-! ### lineage/rowset.number -/
noncomputable def rowset_number_cx : Cx ty := { base0 with nt := 27, spec := fun g => List.lookup g [(63, rowset_number_c1_spec), (64, strings_ContainsFunc_spec), (65, rowset_number_c2_spec), (66, strconv_Atoi_spec)], io := fun g => (List.lookup g []).getD [], head := fun i => (List.lookup i []).getD [], out := outOf [], loops := fun i => List.lookup i [] }
noncomputable def rowset_number (s : ByteArray) : Bool × (Int × Int) := bif s.toList == (ByteArray.mk #[]).toList then (true, ((0 : Int), (3 : Int))) else bif decide ((0 : Int) ≤ (0 : Int)) && decide ((0 : Int) < Int.ofNat s.size) then bif byteAt s (0 : Int) == (48 : Int) then (true, ((0 : Int), (3 : Int))) else bif (strings_ContainsFunc s).snd then (true, ((0 : Int), (3 : Int))) else bnd (strconv_Atoi s) (fun r0 => bif r0.snd then (true, ((0 : Int), (2 : Int))) else (true, (r0.fst, (0 : Int)))) (false, default) else (false, default)
noncomputable def rowset_number_res (r : Int × Int) : ARes ty := ⟨[.pure (.lit (.int .i64 r.1)), .pure (.lit (.int .i64 r.2))], []⟩
theorem rowset_number_run (s : ByteArray) : runFn rowset_number_cx Tryz.f43 (body Tryz.f43) ⟨[.pure, .pure], []⟩ [.pure (.lit (.string s))] = out (fun r => some (rowset_number_res r)) (rowset_number s) := by
  have h : runFn rowset_number_cx Tryz.f43 (body Tryz.f43) ⟨[.pure, .pure], []⟩ [.pure (.lit (.string s))] = bif s.toList == (ByteArray.mk #[]).toList then some ⟨[.pure (.lit (.int .i64 (0 : Int))), .pure (.lit (.int .i64 (3 : Int)))], []⟩ else bif decide ((0 : Int) ≤ (0 : Int)) && decide ((0 : Int) < Int.ofNat s.size) then bif byteAt s (0 : Int) == (48 : Int) then some ⟨[.pure (.lit (.int .i64 (0 : Int))), .pure (.lit (.int .i64 (3 : Int)))], []⟩ else bif (strings_ContainsFunc s).snd then some ⟨[.pure (.lit (.int .i64 (0 : Int))), .pure (.lit (.int .i64 (3 : Int)))], []⟩ else obnd (strconv_Atoi s) (fun r1 => bif r1.snd then some ⟨[.pure (.lit (.int .i64 (0 : Int))), .pure (.lit (.int .i64 (2 : Int)))], []⟩ else some ⟨[.pure (.lit (.int .i64 (r1.fst))), .pure (.lit (.int .i64 (0 : Int)))], []⟩) else none := by kernel_rfl
  rw [rowset_number]
  exact h.trans (out_ite (rfl) (out_ite (out_ite (rfl) (out_ite (rfl) (out_ite (out_ite (rfl) (rfl)) (rfl)))) (rfl)))
noncomputable def rowset_number_A : AL base0 (ByteArray × Unit) := aCons (aPure vStr) aNil
noncomputable def rowset_number_spec : Ab.Spec ty := mkSpec rowset_number_A fun x => ((rowset_number x.1).1, rowset_number_res (rowset_number x.1).2)
theorem rowset_number_sound : Sound Tryz.prog base0 43 rowset_number_spec :=
  sound_of_run (cx' := rowset_number_cx) draws base0_ok ⟨⟨rfl, rfl, rfl, rfl, rfl, rfl⟩, rfl⟩ (spec_of [(63, rowset_number_c1_spec), (64, strings_ContainsFunc_spec), (65, rowset_number_c2_spec), (66, strconv_Atoi_spec)] ⟨(rowset_number_c1_sound.nodr), (strings_ContainsFunc_sound), (rowset_number_c2_sound.nodr), (strconv_Atoi_sound), trivial⟩) Tryz.call43 Tryz.func43 (c := body Tryz.f43) (by kernel_rfl) (loopsOK_of (l := []) (by kernel_rfl) trivial) (sg := ⟨[.pure, .pure], []⟩) (A := rowset_number_A) (res := rowset_number_res) (F := fun x => rowset_number x.1) (fun x => rowset_number_run x.1) (fun _ => by kernel_rfl)
end Go.Proofs.YteopikhooiallaaGreatDoor
/- Functions of the program as plain functions, with their contracts. Printed by program. -/
set_option autoImplicit false
set_option linter.unusedVariables false
set_option linter.unusedSimpArgs false
namespace Go.Proofs.YteopikhooiallaaGreatDoor
open Go Go.Ab
/-! ### lineage/rowset.Parse -/
noncomputable def rowset_Parse_cx : Cx ty := { base0 with nt := 58, spec := fun g => List.lookup g [(41, strings_CutPrefix_spec), (42, strings_Cut_spec), (43, rowset_number_spec)], io := fun g => (List.lookup g []).getD [], head := fun i => (List.lookup i []).getD [], out := outOf [], loops := fun i => List.lookup i [] }
noncomputable def rowset_Parse (s : ByteArray) : Bool × (RowID × Int) := bnd (strings_Cut (strings_CutPrefix s (ByteArray.mk #[(116 : UInt8)])).snd.fst (ByteArray.mk #[(46 : UInt8)])) (fun r2 => bif !(strings_CutPrefix s (ByteArray.mk #[(116 : UInt8)])).snd.snd then (true, ((⟨(0 : Int), (0 : Int)⟩ : RowID), (3 : Int))) else bif !r2.snd.snd then (true, ((⟨(0 : Int), (0 : Int)⟩ : RowID), (3 : Int))) else bnd (rowset_number r2.fst) (fun r1 => bnd (rowset_number r2.snd.fst) (fun r0 => bif r1.snd == (3 : Int) then (true, ((⟨(0 : Int), (0 : Int)⟩ : RowID), (3 : Int))) else bif r0.snd == (3 : Int) then (true, ((⟨(0 : Int), (0 : Int)⟩ : RowID), (3 : Int))) else bif r1.snd != (0 : Int) then (true, ((⟨(0 : Int), (0 : Int)⟩ : RowID), (2 : Int))) else bif r0.snd != (0 : Int) then (true, ((⟨(0 : Int), (0 : Int)⟩ : RowID), (2 : Int))) else (true, ((⟨r1.fst, r0.fst⟩ : RowID), (0 : Int)))) (false, default)) (false, default)) (false, default)
noncomputable def rowset_Parse_res (r : RowID × Int) : ARes ty := ⟨[.pure (.agg (base.enc 30 r.1)), .pure (.lit (.int .i64 r.2))], []⟩
theorem rowset_Parse_run (s : ByteArray) : runFn rowset_Parse_cx Tryz.f15 (body Tryz.f15) ⟨[.pure, .pure], []⟩ [.pure (.lit (.string s))] = out (fun r => some (rowset_Parse_res r)) (rowset_Parse s) := by
  have h : runFn rowset_Parse_cx Tryz.f15 (body Tryz.f15) ⟨[.pure, .pure], []⟩ [.pure (.lit (.string s))] = obnd (strings_Cut (strings_CutPrefix s (ByteArray.mk #[(116 : UInt8)])).snd.fst (ByteArray.mk #[(46 : UInt8)])) (fun r5 => bif !(strings_CutPrefix s (ByteArray.mk #[(116 : UInt8)])).snd.snd then some ⟨[.pure (.agg (base.enc 30 (⟨(0 : Int), (0 : Int)⟩ : RowID))), .pure (.lit (.int .i64 (3 : Int)))], []⟩ else bif !r5.snd.snd then some ⟨[.pure (.agg (base.enc 30 (⟨(0 : Int), (0 : Int)⟩ : RowID))), .pure (.lit (.int .i64 (3 : Int)))], []⟩ else obnd (rowset_number r5.fst) (fun r4 => obnd (rowset_number r5.snd.fst) (fun r3 => bif r4.snd == (3 : Int) then some ⟨[.pure (.agg (base.enc 30 (⟨(0 : Int), (0 : Int)⟩ : RowID))), .pure (.lit (.int .i64 (3 : Int)))], []⟩ else bif r3.snd == (3 : Int) then some ⟨[.pure (.agg (base.enc 30 (⟨(0 : Int), (0 : Int)⟩ : RowID))), .pure (.lit (.int .i64 (3 : Int)))], []⟩ else bif r4.snd != (0 : Int) then some ⟨[.pure (.agg (base.enc 30 (⟨(0 : Int), (0 : Int)⟩ : RowID))), .pure (.lit (.int .i64 (2 : Int)))], []⟩ else bif r3.snd != (0 : Int) then some ⟨[.pure (.agg (base.enc 30 (⟨(0 : Int), (0 : Int)⟩ : RowID))), .pure (.lit (.int .i64 (2 : Int)))], []⟩ else some ⟨[.pure (.agg (base.enc 30 (⟨r4.fst, r3.fst⟩ : RowID))), .pure (.lit (.int .i64 (0 : Int)))], []⟩))) := by kernel_rfl
  rw [rowset_Parse]
  exact h.trans (out_ite (out_ite (rfl) (out_ite (rfl) (out_ite (out_ite (out_ite (rfl) (out_ite (rfl) (out_ite (rfl) (out_ite (rfl) (rfl))))) (rfl)) (rfl)))) (rfl))
noncomputable def rowset_Parse_A : AL base0 (ByteArray × Unit) := aCons (aPure vStr) aNil
noncomputable def rowset_Parse_spec : Ab.Spec ty := mkSpec rowset_Parse_A fun x => ((rowset_Parse x.1).1, rowset_Parse_res (rowset_Parse x.1).2)
theorem rowset_Parse_sound : Sound Tryz.prog base0 15 rowset_Parse_spec :=
  sound_of_run (cx' := rowset_Parse_cx) draws base0_ok ⟨⟨rfl, rfl, rfl, rfl, rfl, rfl⟩, rfl⟩ (spec_of [(41, strings_CutPrefix_spec), (42, strings_Cut_spec), (43, rowset_number_spec)] ⟨(strings_CutPrefix_sound.nodr), (strings_Cut_sound), (rowset_number_sound), trivial⟩) Tryz.call15 Tryz.func15 (c := body Tryz.f15) (by kernel_rfl) (loopsOK_of (l := []) (by kernel_rfl) trivial) (sg := ⟨[.pure, .pure], []⟩) (A := rowset_Parse_A) (res := rowset_Parse_res) (F := fun x => rowset_Parse x.1) (fun x => rowset_Parse_run x.1) (fun _ => by kernel_rfl)
end Go.Proofs.YteopikhooiallaaGreatDoor
