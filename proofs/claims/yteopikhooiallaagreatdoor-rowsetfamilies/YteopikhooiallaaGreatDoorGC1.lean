/- Texts of this claim, joined (the program, its functions in plain words, and what they compute). -/
import Derived.KernelRfl
import Derived.Shelf.SlSortCmp.NoneTotal
import Derived.Shelf.Strings.OnBuilder
import Derived.Shelf.Strconv.Itoa3
import Derived.Test.YteopikhooiallaaGreatDoorChecked
import Derived.Test.YteopikhooiallaaGreatDoorRows
import Derived.Test.YteopikhooiallaaGreatDoorProg
import Derived.Test.YteopikhooiallaaGreatDoorGA2
import Derived.Test.YteopikhooiallaaGreatDoorGB1
set_option autoImplicit false
set_option maxRecDepth 1000000
set_option maxHeartbeats 0
/- The types of the program, as plain data. -/
set_option autoImplicit false
set_option linter.unusedVariables false
set_option linter.unusedSimpArgs false
namespace Go.Proofs.YteopikhooiallaaGreatDoor
open Go Go.Ab
structure RowID where
  Table : Int
  Seq : Int
  deriving DecidableEq, Inhabited
def ty : Nat → Type
  | 3 => Int
  | 4 => Bool
  | 9 => ByteArray
  | 22 => List (List RowID)
  | 30 => RowID
  | 31 => List RowID
  | 50 => List Int
  | 64 => List ByteArray
  | _ => Unit
instance : (T : Nat) → Inhabited (ty T) := fun T => by
  unfold ty
  split <;> infer_instance
def dt30 : DT ty RowID := dtMap (fun x => ⟨x.1, x.2⟩) (fun x => (x.Table, x.Seq)) (fun _ => rfl) (dtPair (dtInt .i64) (dtInt .i64))
def codecs : List ((T : Nat) × DT ty (ty T)) := [⟨3, (dtInt .i64 : DT ty Int)⟩, ⟨4, (dtBool : DT ty Bool)⟩, ⟨9, (dtStr : DT ty ByteArray)⟩, ⟨22, (dtSl 31 : DT ty (List (List RowID)))⟩, ⟨30, (dt30 : DT ty RowID)⟩, ⟨31, (dtSl 30 : DT ty (List RowID))⟩, ⟨50, (dtSl 3 : DT ty (List Int))⟩, ⟨64, (dtSl 9 : DT ty (List ByteArray))⟩]
def infos : List (Nat × TInfo) := [(3, ⟨.int .i64, 1, 8, [.int .i64 (0)]⟩),
  (4, ⟨.bool, 1, 1, [.bool false]⟩),
  (9, ⟨.str, 1, 16, [.string ⟨#[]⟩]⟩),
  (22, ⟨.slice 31, 1, 24, [.slice none 0 0]⟩),
  (30, ⟨.struct [(0, 3), (1, 3)], 2, 16, [.int .i64 (0), .int .i64 (0)]⟩),
  (31, ⟨.slice 30, 1, 24, [.slice none 0 0]⟩),
  (50, ⟨.slice 3, 1, 24, [.slice none 0 0]⟩),
  (64, ⟨.slice 9, 1, 24, [.slice none 0 0]⟩)]
def plains : List (Nat × List TD) := [(30, [.int .i64, .int .i64])]
/-- What is told of the program, but for callees and loops. -/
def base : Cx ty := { ti := fun T => infos.lookup T, dflt := fun _ => default, enc := fun T => (tabT codecs T).enc, dec := fun T => (tabT codecs T).dec, spec := fun _ => none, io := fun _ => [], eqs := fun T us vs => match plains.lookup T with | some ts => eqLits ts us vs | none => none, nt := 0, head := fun _ => [], out := fun _ _ => [], loops := fun _ => none }
theorem info3 : Tryz.prog.info? 3 = some Tryz.t3 := by kernel_rfl
theorem info4 : Tryz.prog.info? 4 = some Tryz.t4 := by kernel_rfl
theorem info9 : Tryz.prog.info? 9 = some Tryz.t9 := by kernel_rfl
theorem info22 : Tryz.prog.info? 22 = some Tryz.t22 := by kernel_rfl
theorem info30 : Tryz.prog.info? 30 = some Tryz.t30 := by kernel_rfl
theorem info31 : Tryz.prog.info? 31 = some Tryz.t31 := by kernel_rfl
theorem info50 : Tryz.prog.info? 50 = some Tryz.t50 := by kernel_rfl
theorem info64 : Tryz.prog.info? 64 = some Tryz.t64 := by kernel_rfl
theorem base_ti : ∀ T i, infos.lookup T = some i → InfoOK Tryz.prog T i := by
  intro T i h
  have h := mem_of_lookup _ _ _ h
  simp only [infos, List.mem_cons, List.not_mem_nil, or_false, Prod.mk.injEq] at h
  rcases h with ⟨rfl, rfl⟩ | ⟨rfl, rfl⟩ | ⟨rfl, rfl⟩ | ⟨rfl, rfl⟩ | ⟨rfl, rfl⟩ | ⟨rfl, rfl⟩ | ⟨rfl, rfl⟩ | ⟨rfl, rfl⟩
  · exact ⟨Tryz.t3, _, _, info3, Tryz.underlying3, rfl, rfl, rfl, rfl, rfl, by simp [oneCell], rfl⟩
  · exact ⟨Tryz.t4, _, _, info4, Tryz.underlying4, rfl, rfl, rfl, rfl, rfl, by simp [oneCell], rfl⟩
  · exact ⟨Tryz.t9, _, _, info9, Tryz.underlying9, rfl, rfl, rfl, rfl, rfl, by simp [oneCell], rfl⟩
  · exact ⟨Tryz.t22, _, _, info22, Tryz.underlying22, rfl, rfl, rfl, rfl, rfl, by simp [oneCell], rfl⟩
  · exact ⟨Tryz.t30, _, _, info30, Tryz.underlying30, rfl, rfl, rfl, rfl, rfl, by simp [oneCell], ⟨_, rfl, rfl, fun f hf => by
      simp only [List.mem_cons, List.not_mem_nil, or_false] at hf
      rcases hf with rfl | rfl
      · exact Option.isSome_iff_exists.2 ⟨_, info3⟩
      · exact Option.isSome_iff_exists.2 ⟨_, info3⟩⟩⟩
  · exact ⟨Tryz.t31, _, _, info31, Tryz.underlying31, rfl, rfl, rfl, rfl, rfl, by simp [oneCell], rfl⟩
  · exact ⟨Tryz.t50, _, _, info50, Tryz.underlying50, rfl, rfl, rfl, rfl, rfl, by simp [oneCell], rfl⟩
  · exact ⟨Tryz.t64, _, _, info64, Tryz.underlying64, rfl, rfl, rfl, rfl, rfl, by simp [oneCell], rfl⟩
theorem base_eqs : ∀ T us vs b, (match plains.lookup T with | some ts => eqLits ts us vs | none => none) = some b → ∀ w, (binOp .eql T (.agg us.toArray) (.agg vs.toArray)).run Tryz.prog w = .ok (.bool b) w ∧ (binOp .neq T (.agg us.toArray) (.agg vs.toArray)).run Tryz.prog w = .ok (.bool (!b)) w ∧
    ∀ op x y, (eqGuard op T x y (.agg us.toArray) (.agg vs.toArray)).run Tryz.prog w = .ok () w := by
  intro T us vs b h w
  split at h
  · rename_i ts hl
    have hl := mem_of_lookup _ _ _ hl
    simp only [plains, List.mem_cons, List.not_mem_nil, or_false, Prod.mk.injEq] at hl
    rcases hl with ⟨rfl, rfl⟩
    · refine eqs_struct _ _ Tryz.underlying30 (by kernel_rfl) (by kernel_rfl) rfl ?_ h w
      intro j f t hj ht
      rcases j with _ | j
      · simp at hj ht; subst hj ht; exact ⟨rfl, by decide, _, Tryz.underlying3, rfl⟩
      rcases j with _ | j
      · simp at hj ht; subst hj ht; exact ⟨rfl, by decide, _, Tryz.underlying3, rfl⟩
      simp at hj
  · cases h
theorem base_ok : CxOK Tryz.prog base := ⟨base_ti, fun T x => by rw [show szOf base T = _ from (tab_size codecs infos rfl T).symm]; exact DT.len _ x, fun T x c h => by have := DT.cell _ _ c h; revert this; cases c <;> exact id, fun T cs x h F w us hr => DT.ok _ base F w us cs x h hr, base_eqs, fun _ _ _ _ => trivial⟩
def base0 : Cx ty := { base with dr := false }
theorem base0_ok : CxOK Tryz.prog base0 := CxOK.cg (cx := base) (cx' := base0) ⟨rfl, rfl, rfl, rfl, rfl, rfl⟩ base_ok
theorem draws : Tryz.prog.follows .mixedOrders = true := by kernel_rfl
end Go.Proofs.YteopikhooiallaaGreatDoor
/- What is read of an argument, as typed data. -/
set_option autoImplicit false
set_option linter.unusedVariables false
namespace Go.Proofs.YteopikhooiallaaGreatDoor
open Go Go.Ab
def wf3 (x : Int) : Prop := (Lit.int .i64 x).wf = true
def wf4 (x : Bool) : Prop := True
def wf9 (x : ByteArray) : Prop := ByteArray.size x ≤ maxLen
def wf30 (x : RowID) : Prop := wf3 x.Table ∧ wf3 x.Seq
def wf31 (x : List RowID) : Prop := (∀ y ∈ x, wf30 y) ∧ List.length x ≤ maxLen
def wf22 (x : List (List RowID)) : Prop := (∀ y ∈ x, wf31 y) ∧ List.length x ≤ maxLen
def wf50 (x : List Int) : Prop := (∀ y ∈ x, wf3 y) ∧ List.length x ≤ maxLen
def wf64 (x : List ByteArray) : Prop := (∀ y ∈ x, wf9 y) ∧ List.length x ≤ maxLen
def wf (T : Nat) : ty T → Prop := match T with
  | 3 => wf3
  | 4 => wf4
  | 9 => wf9
  | 22 => wf22
  | 30 => wf30
  | 31 => wf31
  | 50 => wf50
  | 64 => wf64
  | _ => fun _ => True
theorem reads3 : Reads Tryz.prog base wf 3 := reads_int Tryz.underlying3 (fun n => n) (fun _ => rfl) (fun _ h => h)
theorem reads4 : Reads Tryz.prog base wf 4 := reads_bool Tryz.underlying4 (fun n => n) (fun _ => rfl) (fun _ => trivial)
theorem reads9 : Reads Tryz.prog base wf 9 := reads_str Tryz.underlying9 (fun n => n) (fun _ => rfl) (fun _ h => h)
theorem reads30 : Reads Tryz.prog base wf 30 := by
  intro H en w sp held fuel cs y h
  obtain ⟨xs, n, _, _, hl, hlen, hf⟩ := DataW.trod_struct Tryz.underlying30 h
  obtain ⟨x0, h0, w0⟩ := field_reads (off := 0) reads3 (by kernel_rfl) hlen hf 0 _ rfl rfl rfl
  obtain ⟨x1, h1, w1⟩ := field_reads (off := 1) reads3 (by kernel_rfl) hlen hf 1 _ rfl rfl rfl
  have hl : cs.length = 2 := hl.trans (by kernel_rfl)
  have := all2_chunk h0 (all2_end h1 hl)
  exact ⟨(⟨x0, x1⟩ : RowID), this, ⟨w0, w1⟩⟩
theorem reads31 : Reads Tryz.prog base wf 31 := reads_slice base_ok Tryz.underlying31 (by kernel_rfl) (by decide) (fun l => l) (fun _ => rfl) reads30 (fun _ h h2 => ⟨h, h2⟩)
theorem reads22 : Reads Tryz.prog base wf 22 := reads_slice base_ok Tryz.underlying22 (by kernel_rfl) (by decide) (fun l => l) (fun _ => rfl) reads31 (fun _ h h2 => ⟨h, h2⟩)
theorem reads50 : Reads Tryz.prog base wf 50 := reads_slice base_ok Tryz.underlying50 (by kernel_rfl) (by decide) (fun l => l) (fun _ => rfl) reads3 (fun _ h h2 => ⟨h, h2⟩)
theorem reads64 : Reads Tryz.prog base wf 64 := reads_slice base_ok Tryz.underlying64 (by kernel_rfl) (by decide) (fun l => l) (fun _ => rfl) reads9 (fun _ h h2 => ⟨h, h2⟩)
end Go.Proofs.YteopikhooiallaaGreatDoor
/- A world in which the row's condition holds; what the program's rows share. -/
set_option autoImplicit false
set_option maxRecDepth 1000000
set_option linter.unusedVariables false
namespace Go.Proofs.YteopikhooiallaaGreatDoor
open Go Go.Ab
theorem own : ownKnob Tryz.prog.godebug = none := by kernel_rfl
theorem laidOut : laidOutB Tryz.prog = true := by kernel_rfl
def litOf {H : Type} : DataW H → Value
  | .lit (.int k n) => .int k n
  | .lit (.bool b) => .bool b
  | .lit (.string s) => .string ⟨s.toArray⟩
  | _ => undef
def cellsOf {H : Type} : DataW H → Array Value
  | .agg ds => (ds.map litOf).toArray
  | d => #[litOf d]
def layAt (h : Array Obj) (g : Nat) (cs : Array Value) : Array Obj := h.modify g fun
  | .cells _ t fr => .cells cs t fr
  | o => o
noncomputable def laidWorld (os : Os) : World :=
  let w0 := World.holding Tryz.prog os ⟨#[], #[], []⟩
  { w0 with heap := layAt (layAt (layAt (w0.heap) 4 (cellsOf (H := Unit) Rows.laid_math_bits_deBruijn32tab)) 5 (cellsOf (H := Unit) Rows.laid_math_bits_deBruijn64tab)) 3 (cellsOf (H := Unit) Rows.laid_internal_strconv_uint64pow10) }
def laidAll : List (String × DataW Unit) := [("math/bits.deBruijn32tab", Rows.laid_math_bits_deBruijn32tab), ("math/bits.deBruijn64tab", Rows.laid_math_bits_deBruijn64tab), ("internal/strconv.uint64pow10", Rows.laid_internal_strconv_uint64pow10)]
theorem laidWorld_met (os : Os) (args : Array Value) : laidMetH Tryz.prog laidAll ((laidWorld os).forCall (fun _ _ => 0) ⟨#[], args, []⟩).memory :=
  laidMetH_of_parts (laidMet_of_run3 8 (by kernel_rfl) (by kernel_rfl) (by kernel_rfl)) (by kernel_rfl)
theorem invMet : ∀ w, laidMetH Tryz.prog laidAll w → base.inv w ∧ base.ng ≤ w.heap.size := fun _ _ => ⟨trivial, Nat.zero_le _⟩
end Go.Proofs.YteopikhooiallaaGreatDoor
/-
  DERIVED: THE SHELF's CONTRACTS AT THIS DUMP, IN PLAIN WORDS (tools/lay-plain.mjs out of 'TryzShelf.lean', which tools/lay-shelf.mjs wrote): THE SAME DECLARATIONS UNDER THE SAME NAMES: 'import', 'namespace', 'open', 'def', 'theorem' AND NOTHING ELSE: no command of the shelf's: FOR A HAND-IN. Each laying: the table of numbers ('.._ren') and one theorem, a field a fact of the dump's own or the kernel's comparison; each contract: ONE APPLICATION.
-/
namespace Go.Proofs
open Go.Shelf
def Tryz.sortRow_ren : Go.Shelf.Ren := ⟨fun | 6 => 51 | 15 => 54 | 14 => 72 | 28 => 81 | 29 => 82 | 20 => 94 | 21 => 95 | 22 => 96 | 23 => 97 | 24 => 98 | 25 => 99 | 26 => 100 | 27 => 101 | 46 => 125 | 47 => 103 | 48 => 104 | 49 => 126 | 50 => 127 | 57 => 138 | n => n, fun | 22 => 31 | 24 => 30 | 25 => 36 | 3 => 3 | 39 => 69 | 0 => 0 | 53 => 96 | 55 => 98 | 4 => 4 | 46 => 89 | 45 => 88 | 50 => 93 | 5 => 5 | 9 => 9 | 66 => 111 | 70 => 115 | 76 => 137 | 77 => 138 | n => n, fun | n => n⟩
theorem Tryz.sortRow : Go.Proofs.SlLaysF0.n6 Tryz.prog Tryz.sortRow_ren := {
  mixed := by kernel_rfl
  f6 := ⟨Tryz.f51.name, by decide, Tryz.func51.trans (congrArg some (by kernel_rfl))⟩
  f14 := ⟨Tryz.f72.name, by decide, Tryz.func72.trans (congrArg some (by kernel_rfl))⟩
  f15 := Tryz.func54.trans (congrArg some (by kernel_rfl))
  f20 := ⟨Tryz.f94.name, by decide, Tryz.func94.trans (congrArg some (by kernel_rfl))⟩
  f21 := ⟨Tryz.f95.name, by decide, Tryz.func95.trans (congrArg some (by kernel_rfl))⟩
  f22 := ⟨Tryz.f96.name, by decide, Tryz.func96.trans (congrArg some (by kernel_rfl))⟩
  f23 := ⟨Tryz.f97.name, by decide, Tryz.func97.trans (congrArg some (by kernel_rfl))⟩
  f24 := ⟨Tryz.f98.name, by decide, Tryz.func98.trans (congrArg some (by kernel_rfl))⟩
  f25 := ⟨Tryz.f99.name, by decide, Tryz.func99.trans (congrArg some (by kernel_rfl))⟩
  f26 := ⟨Tryz.f100.name, by decide, Tryz.func100.trans (congrArg some (by kernel_rfl))⟩
  f27 := ⟨Tryz.f101.name, by decide, Tryz.func101.trans (congrArg some (by kernel_rfl))⟩
  f28 := Tryz.func81.trans (congrArg some (by kernel_rfl))
  f29 := Tryz.func82.trans (congrArg some (by kernel_rfl))
  f46 := ⟨Tryz.f125.name, by decide, Tryz.func125.trans (congrArg some (by kernel_rfl))⟩
  f47 := Tryz.func103.trans (congrArg some (by kernel_rfl))
  f48 := Tryz.func104.trans (congrArg some (by kernel_rfl))
  f49 := ⟨Tryz.f126.name, by decide, Tryz.func126.trans (congrArg some (by kernel_rfl))⟩
  f50 := ⟨Tryz.f127.name, by decide, Tryz.func127.trans (congrArg some (by kernel_rfl))⟩
  f57 := ⟨Tryz.f138.name, by decide, Tryz.func138.trans (congrArg some (by kernel_rfl))⟩
  t0 := Tryz.underlying0
  a0 := Tryz.isAgg0
  z0 := Tryz.sizeOf0
  v0 := Tryz.zeroValue0
  t3 := Tryz.underlying3
  a3 := Tryz.isAgg3
  z3 := Tryz.sizeOf3
  v3 := Tryz.zeroValue3
  t4 := Tryz.underlying4
  a4 := Tryz.isAgg4
  z4 := Tryz.sizeOf4
  v4 := Tryz.zeroValue4
  t5 := Tryz.underlying5
  a5 := Tryz.isAgg5
  z5 := Tryz.sizeOf5
  v5 := Tryz.zeroValue5
  t9 := Tryz.underlying9
  a9 := Tryz.isAgg9
  z9 := Tryz.sizeOf9
  v9 := Tryz.zeroValue9
  t22 := Tryz.underlying31
  a22 := Tryz.isAgg31
  z22 := Tryz.sizeOf31
  v22 := Tryz.zeroValue31
  t25 := Tryz.underlying36
  a25 := Tryz.isAgg36
  z25 := Tryz.sizeOf36
  v25 := Tryz.zeroValue36
  t39 := Tryz.underlying69
  a39 := Tryz.isAgg69
  z39 := Tryz.sizeOf69
  v39 := Tryz.zeroValue69
  t45 := Tryz.underlying88
  a45 := Tryz.isAgg88
  z45 := Tryz.sizeOf88
  v45 := Tryz.zeroValue88
  t46 := Tryz.underlying89
  a46 := Tryz.isAgg89
  z46 := Tryz.sizeOf89
  v46 := Tryz.zeroValue89
  t50 := Tryz.underlying93
  a50 := Tryz.isAgg93
  z50 := Tryz.sizeOf93
  v50 := Tryz.zeroValue93
  t53 := Tryz.underlying96
  a53 := Tryz.isAgg96
  z53 := Tryz.sizeOf96
  v53 := Tryz.zeroValue96
  t55 := Tryz.underlying98
  a55 := Tryz.isAgg98
  z55 := Tryz.sizeOf98
  v55 := Tryz.zeroValue98
  t66 := Tryz.underlying111
  a66 := Tryz.isAgg111
  z66 := Tryz.sizeOf111
  v66 := Tryz.zeroValue111
  t70 := Tryz.underlying115
  a70 := Tryz.isAgg115
  z70 := Tryz.sizeOf115
  v70 := Tryz.zeroValue115
  t76 := Tryz.underlying137
  a76 := Tryz.isAgg137
  z76 := Tryz.sizeOf137
  v76 := Tryz.zeroValue137
  t77 := Tryz.underlying138
  a77 := Tryz.isAgg138
  z77 := Tryz.sizeOf138
  v77 := Tryz.zeroValue138 }
def Tryz.sortSet_ren : Go.Shelf.Ren := ⟨fun | 6 => 27 | 15 => 54 | 14 => 53 | 28 => 81 | 29 => 82 | 20 => 73 | 21 => 74 | 22 => 75 | 23 => 76 | 24 => 77 | 25 => 78 | 26 => 79 | 27 => 80 | 46 => 102 | 47 => 103 | 48 => 104 | 49 => 105 | 50 => 106 | 57 => 128 | n => n, fun | 22 => 22 | 24 => 31 | 25 => 44 | 3 => 3 | 39 => 69 | 0 => 0 | 53 => 96 | 55 => 98 | 4 => 4 | 46 => 89 | 45 => 88 | 50 => 93 | 5 => 5 | 9 => 9 | 66 => 111 | 70 => 115 | 76 => 137 | 77 => 138 | n => n, fun | n => n⟩
theorem Tryz.sortSet : Go.Proofs.SlLaysF.n6 Tryz.prog Tryz.sortSet_ren := {
  mixed := by kernel_rfl
  f6 := ⟨Tryz.f27.name, by decide, Tryz.func27.trans (congrArg some (by kernel_rfl))⟩
  f14 := ⟨Tryz.f53.name, by decide, Tryz.func53.trans (congrArg some (by kernel_rfl))⟩
  f15 := Tryz.func54.trans (congrArg some (by kernel_rfl))
  f20 := ⟨Tryz.f73.name, by decide, Tryz.func73.trans (congrArg some (by kernel_rfl))⟩
  f21 := ⟨Tryz.f74.name, by decide, Tryz.func74.trans (congrArg some (by kernel_rfl))⟩
  f22 := ⟨Tryz.f75.name, by decide, Tryz.func75.trans (congrArg some (by kernel_rfl))⟩
  f23 := ⟨Tryz.f76.name, by decide, Tryz.func76.trans (congrArg some (by kernel_rfl))⟩
  f24 := ⟨Tryz.f77.name, by decide, Tryz.func77.trans (congrArg some (by kernel_rfl))⟩
  f25 := ⟨Tryz.f78.name, by decide, Tryz.func78.trans (congrArg some (by kernel_rfl))⟩
  f26 := ⟨Tryz.f79.name, by decide, Tryz.func79.trans (congrArg some (by kernel_rfl))⟩
  f27 := ⟨Tryz.f80.name, by decide, Tryz.func80.trans (congrArg some (by kernel_rfl))⟩
  f28 := Tryz.func81.trans (congrArg some (by kernel_rfl))
  f29 := Tryz.func82.trans (congrArg some (by kernel_rfl))
  f46 := ⟨Tryz.f102.name, by decide, Tryz.func102.trans (congrArg some (by kernel_rfl))⟩
  f47 := Tryz.func103.trans (congrArg some (by kernel_rfl))
  f48 := Tryz.func104.trans (congrArg some (by kernel_rfl))
  f49 := ⟨Tryz.f105.name, by decide, Tryz.func105.trans (congrArg some (by kernel_rfl))⟩
  f50 := ⟨Tryz.f106.name, by decide, Tryz.func106.trans (congrArg some (by kernel_rfl))⟩
  f57 := ⟨Tryz.f128.name, by decide, Tryz.func128.trans (congrArg some (by kernel_rfl))⟩
  t0 := Tryz.underlying0
  a0 := Tryz.isAgg0
  z0 := Tryz.sizeOf0
  v0 := Tryz.zeroValue0
  t3 := Tryz.underlying3
  a3 := Tryz.isAgg3
  z3 := Tryz.sizeOf3
  v3 := Tryz.zeroValue3
  t4 := Tryz.underlying4
  a4 := Tryz.isAgg4
  z4 := Tryz.sizeOf4
  v4 := Tryz.zeroValue4
  t5 := Tryz.underlying5
  a5 := Tryz.isAgg5
  z5 := Tryz.sizeOf5
  v5 := Tryz.zeroValue5
  t9 := Tryz.underlying9
  a9 := Tryz.isAgg9
  z9 := Tryz.sizeOf9
  v9 := Tryz.zeroValue9
  t22 := Tryz.underlying22
  a22 := Tryz.isAgg22
  z22 := Tryz.sizeOf22
  v22 := Tryz.zeroValue22
  a24 := Tryz.isAgg31
  z24 := Tryz.sizeOf31
  t25 := Tryz.underlying44
  a25 := Tryz.isAgg44
  z25 := Tryz.sizeOf44
  v25 := Tryz.zeroValue44
  t39 := Tryz.underlying69
  a39 := Tryz.isAgg69
  z39 := Tryz.sizeOf69
  v39 := Tryz.zeroValue69
  t45 := Tryz.underlying88
  a45 := Tryz.isAgg88
  z45 := Tryz.sizeOf88
  v45 := Tryz.zeroValue88
  t46 := Tryz.underlying89
  a46 := Tryz.isAgg89
  z46 := Tryz.sizeOf89
  v46 := Tryz.zeroValue89
  t50 := Tryz.underlying93
  a50 := Tryz.isAgg93
  z50 := Tryz.sizeOf93
  v50 := Tryz.zeroValue93
  t53 := Tryz.underlying96
  a53 := Tryz.isAgg96
  z53 := Tryz.sizeOf96
  v53 := Tryz.zeroValue96
  t55 := Tryz.underlying98
  a55 := Tryz.isAgg98
  z55 := Tryz.sizeOf98
  v55 := Tryz.zeroValue98
  t66 := Tryz.underlying111
  a66 := Tryz.isAgg111
  z66 := Tryz.sizeOf111
  v66 := Tryz.zeroValue111
  t70 := Tryz.underlying115
  a70 := Tryz.isAgg115
  z70 := Tryz.sizeOf115
  v70 := Tryz.zeroValue115
  t76 := Tryz.underlying137
  a76 := Tryz.isAgg137
  z76 := Tryz.sizeOf137
  v76 := Tryz.zeroValue137
  t77 := Tryz.underlying138
  a77 := Tryz.isAgg138
  z77 := Tryz.sizeOf138
  v77 := Tryz.zeroValue138 }
def Tryz.lays171_ren : Go.Shelf.Ren := ⟨fun | 171 => 47 | 243 => 68 | 246 => 91 | 283 => 119 | 284 => 120 | 285 => 121 | 286 => 122 | 129 => 82 | 317 => 134 | 318 => 135 | 319 => 136 | 320 => 137 | 337 => 141 | 338 => 142 | n => n, fun | 3 => 3 | 9 => 9 | 2 => 2 | 4 => 4 | 171 => 128 | 0 => 0 | 53 => 98 | 37 => 80 | 5 => 5 | 173 => 130 | 212 => 149 | 51 => 96 | 20 => 20 | 213 => 150 | 46 => 69 | 232 => 157 | 233 => 158 | n => n, fun | 17 => 3 | 18 => 4 | 19 => 5 | n => n⟩
theorem Tryz.lays171 : Go.Proofs.Lays.n171 Tryz.prog Tryz.lays171_ren := {
  mixed := by kernel_rfl
  f129 := Tryz.func82.trans (congrArg some (by kernel_rfl))
  f171 := Tryz.func47.trans (congrArg some (by kernel_rfl))
  f243 := Tryz.func68.trans (congrArg some (by kernel_rfl))
  f246 := Tryz.func91.trans (congrArg some (by kernel_rfl))
  f283 := Tryz.func119.trans (congrArg some (by kernel_rfl))
  f284 := Tryz.func120.trans (congrArg some (by kernel_rfl))
  f285 := Tryz.func121.trans (congrArg some (by kernel_rfl))
  f286 := Tryz.func122.trans (congrArg some (by kernel_rfl))
  f317 := Tryz.func134.trans (congrArg some (by kernel_rfl))
  f318 := Tryz.func135.trans (congrArg some (by kernel_rfl))
  f319 := Tryz.func136.trans (congrArg some (by kernel_rfl))
  f320 := Tryz.func137.trans (congrArg some (by kernel_rfl))
  f337 := Tryz.func141.trans (congrArg some (by kernel_rfl))
  f338 := Tryz.func142.trans (congrArg some (by kernel_rfl))
  t0 := Tryz.underlying0
  a0 := Tryz.isAgg0
  z0 := Tryz.sizeOf0
  v0 := Tryz.zeroValue0
  t2 := Tryz.underlying2
  a2 := Tryz.isAgg2
  z2 := Tryz.sizeOf2
  v2 := Tryz.zeroValue2
  t3 := Tryz.underlying3
  a3 := Tryz.isAgg3
  z3 := Tryz.sizeOf3
  v3 := Tryz.zeroValue3
  t4 := Tryz.underlying4
  a4 := Tryz.isAgg4
  z4 := Tryz.sizeOf4
  v4 := Tryz.zeroValue4
  t5 := Tryz.underlying5
  a5 := Tryz.isAgg5
  z5 := Tryz.sizeOf5
  v5 := Tryz.zeroValue5
  t9 := Tryz.underlying9
  a9 := Tryz.isAgg9
  z9 := Tryz.sizeOf9
  v9 := Tryz.zeroValue9
  t20 := Tryz.underlying20
  a20 := Tryz.isAgg20
  z20 := Tryz.sizeOf20
  v20 := Tryz.zeroValue20
  t37 := Tryz.underlying80
  a37 := Tryz.isAgg80
  z37 := Tryz.sizeOf80
  v37 := Tryz.zeroValue80
  t46 := Tryz.underlying69
  a46 := Tryz.isAgg69
  z46 := Tryz.sizeOf69
  v46 := Tryz.zeroValue69
  t51 := Tryz.underlying96
  a51 := Tryz.isAgg96
  z51 := Tryz.sizeOf96
  v51 := Tryz.zeroValue96
  t53 := Tryz.underlying98
  a53 := Tryz.isAgg98
  z53 := Tryz.sizeOf98
  v53 := Tryz.zeroValue98
  t171 := Tryz.underlying128
  a171 := Tryz.isAgg128
  z171 := Tryz.sizeOf128
  v171 := Tryz.zeroValue128
  t173 := Tryz.underlying130
  a173 := Tryz.isAgg130
  z173 := Tryz.sizeOf130
  v173 := Tryz.zeroValue130
  t212 := Tryz.underlying149
  a212 := Tryz.isAgg149
  z212 := Tryz.sizeOf149
  v212 := Tryz.zeroValue149
  t213 := Tryz.underlying150
  a213 := Tryz.isAgg150
  z213 := Tryz.sizeOf150
  t232 := Tryz.underlying157
  a232 := Tryz.isAgg157
  z232 := Tryz.sizeOf157
  v232 := Tryz.zeroValue157
  t233 := Tryz.underlying158
  a233 := Tryz.isAgg158
  z233 := Tryz.sizeOf158
  v233 := Tryz.zeroValue158
  g17 := by kernel_rfl
  g18 := by kernel_rfl
  g19 := by kernel_rfl }
def Tryz.lays156_ren : Go.Shelf.Ren := ⟨fun | 156 => 49 | 165 => 69 | 166 => 70 | 169 => 71 | 240 => 92 | 241 => 93 | 276 => 123 | 277 => 124 | n => n, fun | 31 => 64 | 9 => 9 | 3 => 3 | 4 => 4 | 0 => 0 | 20 => 20 | 72 => 83 | 76 => 78 | 70 => 81 | 37 => 80 | 75 => 77 | 127 => 105 | 164 => 132 | 5 => 5 | 80 => 85 | n => n, fun | n => n⟩
theorem Tryz.lays156 : Go.Proofs.Lays.n156 Tryz.prog Tryz.lays156_ren := {
  mixed := by kernel_rfl
  f156 := Tryz.func49.trans (congrArg some (by kernel_rfl))
  f165 := Tryz.func69.trans (congrArg some (by kernel_rfl))
  f166 := Tryz.func70.trans (congrArg some (by kernel_rfl))
  f169 := Tryz.func71.trans (congrArg some (by kernel_rfl))
  f240 := Tryz.func92.trans (congrArg some (by kernel_rfl))
  f241 := Tryz.func93.trans (congrArg some (by kernel_rfl))
  f276 := Tryz.func123.trans (congrArg some (by kernel_rfl))
  f277 := Tryz.func124.trans (congrArg some (by kernel_rfl))
  t0 := Tryz.underlying0
  a0 := Tryz.isAgg0
  z0 := Tryz.sizeOf0
  v0 := Tryz.zeroValue0
  t3 := Tryz.underlying3
  a3 := Tryz.isAgg3
  z3 := Tryz.sizeOf3
  v3 := Tryz.zeroValue3
  t4 := Tryz.underlying4
  a4 := Tryz.isAgg4
  z4 := Tryz.sizeOf4
  v4 := Tryz.zeroValue4
  t9 := Tryz.underlying9
  a9 := Tryz.isAgg9
  z9 := Tryz.sizeOf9
  v9 := Tryz.zeroValue9
  t20 := Tryz.underlying20
  a20 := Tryz.isAgg20
  z20 := Tryz.sizeOf20
  v20 := Tryz.zeroValue20
  t31 := Tryz.underlying64
  a31 := Tryz.isAgg64
  z31 := Tryz.sizeOf64
  v31 := Tryz.zeroValue64
  t37 := Tryz.underlying80
  a37 := Tryz.isAgg80
  z37 := Tryz.sizeOf80
  v37 := Tryz.zeroValue80
  t70 := Tryz.underlying81
  a70 := Tryz.isAgg81
  z70 := Tryz.sizeOf81
  v70 := Tryz.zeroValue81
  t72 := Tryz.underlying83
  a72 := Tryz.isAgg83
  z72 := Tryz.sizeOf83
  v72 := Tryz.zeroValue83
  t75 := Tryz.underlying77
  a75 := Tryz.isAgg77
  z75 := Tryz.sizeOf77
  v75 := Tryz.zeroValue77
  t76 := Tryz.underlying78
  a76 := Tryz.isAgg78
  z76 := Tryz.sizeOf78
  v76 := Tryz.zeroValue78
  t127 := Tryz.underlying105
  a127 := Tryz.isAgg105
  z127 := Tryz.sizeOf105
  v127 := Tryz.zeroValue105
  t164 := Tryz.underlying132
  a164 := Tryz.isAgg132
  z164 := Tryz.sizeOf132
  v164 := Tryz.zeroValue132 }
theorem Tryz.Builder_Extra_156 : Builder.Extra Tryz.prog Tryz.lays156_ren := {
  sizeBuilder := by kernel_rfl
  liesBuilder := by kernel_rfl
  t5 := Tryz.underlying5
  a5 := Tryz.isAgg5
  z5 := Tryz.sizeOf5
  v5 := Tryz.zeroValue5
  infoByte := by kernel_rfl
  cellsByte := by kernel_rfl
  sizeByte := by kernel_rfl
  neB5 := by decide }
end Go.Proofs
/- Functions of the program as plain functions, with their contracts. Printed by program. -/
set_option autoImplicit false
set_option linter.unusedVariables false
set_option linter.unusedSimpArgs false
namespace Go.Proofs.YteopikhooiallaaGreatDoor
open Go Go.Ab
/-! ### strconv.Itoa -/
noncomputable def strconv_Itoa (x : Int) : Bool × ByteArray := itoa2 x
noncomputable def strconv_Itoa_spec : Ab.Spec ty := mkSpec (cx := base) (aCons (aPure (vInt .i64)) aNil) fun x => ((strconv_Itoa x.1).1, ⟨[.pure (.lit (.string (strconv_Itoa x.1).2))], []⟩)
theorem strconv_Itoa_sound : Sound Tryz.prog base 47 strconv_Itoa_spec := itoa2_sound base_ok Go.Proofs.Tryz.lays171 Tryz.call47
end Go.Proofs.YteopikhooiallaaGreatDoor
/- Functions of the program as plain functions, with their contracts. Printed by program. -/
set_option autoImplicit false
set_option linter.unusedVariables false
set_option linter.unusedSimpArgs false
namespace Go.Proofs.YteopikhooiallaaGreatDoor
open Go Go.Ab
/-! ### lineage/rowset.Valid -/
noncomputable def rowset_Valid_cx : Cx ty := { base with nt := 11, spec := fun g => List.lookup g [], io := fun g => (List.lookup g []).getD [], head := fun i => (List.lookup i []).getD [], out := outOf [], loops := fun i => List.lookup i [] }
noncomputable def rowset_Valid (id : RowID) : Bool × Bool := bif decide (id.Table ≥ (1 : Int)) then (true, decide (id.Seq ≥ (1 : Int))) else (true, false)
noncomputable def rowset_Valid_res (r : Bool) : ARes ty := ⟨[.pure (.lit (.bool r))], []⟩
theorem rowset_Valid_run (id : RowID) : runFn rowset_Valid_cx Tryz.f17 (body Tryz.f17) ⟨[.pure], []⟩ [.pure (.agg (base.enc 30 id))] = out (fun r => some (rowset_Valid_res r)) (rowset_Valid id) := by
  have h : runFn rowset_Valid_cx Tryz.f17 (body Tryz.f17) ⟨[.pure], []⟩ [.pure (.agg (base.enc 30 id))] = bif decide (id.Table ≥ (1 : Int)) then some ⟨[.pure (.lit (.bool (decide (id.Seq ≥ (1 : Int)))))], []⟩ else some ⟨[.pure (.lit (.bool false))], []⟩ := by kernel_rfl
  rw [rowset_Valid]
  exact h.trans (out_ite (rfl) (rfl))
noncomputable def rowset_Valid_A : AL base (RowID × Unit) := aCons (aPure (vAgg 30)) aNil
noncomputable def rowset_Valid_spec : Ab.Spec ty := mkSpec rowset_Valid_A fun x => ((rowset_Valid x.1).1, rowset_Valid_res (rowset_Valid x.1).2)
theorem rowset_Valid_sound : Sound Tryz.prog base 17 rowset_Valid_spec :=
  sound_of_run (cx' := rowset_Valid_cx) draws base_ok ⟨⟨rfl, rfl, rfl, rfl, rfl, rfl⟩, rfl⟩ (spec_of [] trivial) Tryz.call17 Tryz.func17 (c := body Tryz.f17) (by kernel_rfl) (loopsOK_of (l := []) (by kernel_rfl) trivial) (sg := ⟨[.pure], []⟩) (A := rowset_Valid_A) (res := rowset_Valid_res) (F := fun x => rowset_Valid x.1) (fun x => rowset_Valid_run x.1) (fun _ => by kernel_rfl) (by kernel_rfl)
end Go.Proofs.YteopikhooiallaaGreatDoor
/- Functions of the program as plain functions, with their contracts. Printed by program. -/
set_option autoImplicit false
set_option linter.unusedVariables false
set_option linter.unusedSimpArgs false
namespace Go.Proofs.YteopikhooiallaaGreatDoor
open Go Go.Ab
/-! ### lineage/rowset.Format -/
noncomputable def rowset_Format_cx : Cx ty := { base with nt := 15, spec := fun g => List.lookup g [(17, rowset_Valid_spec), (47, strconv_Itoa_spec)], io := fun g => (List.lookup g []).getD [], head := fun i => (List.lookup i []).getD [], out := outOf [], loops := fun i => List.lookup i [] }
noncomputable def rowset_Format (id : RowID) : Bool × ByteArray := bnd (rowset_Valid id) (fun r2 => bif !r2 then (true, ByteArray.mk #[]) else bnd (strconv_Itoa id.Table) (fun r1 => bif decide ((ByteArray.mk #[(116 : UInt8)]).size + r1.size ≤ (9223372036854775807 : Nat)) then bif decide ((ByteArray.mk #[(116 : UInt8)] ++ r1).size + (ByteArray.mk #[(46 : UInt8)]).size ≤ (9223372036854775807 : Nat)) then bnd (strconv_Itoa id.Seq) (fun r0 => bif decide ((ByteArray.mk #[(116 : UInt8)] ++ r1 ++ ByteArray.mk #[(46 : UInt8)]).size + r0.size ≤ (9223372036854775807 : Nat)) then (true, ByteArray.mk #[(116 : UInt8)] ++ r1 ++ ByteArray.mk #[(46 : UInt8)] ++ r0) else (false, default)) (false, default) else (false, default) else (false, default)) (false, default)) (false, default)
noncomputable def rowset_Format_res (r : ByteArray) : ARes ty := ⟨[.pure (.lit (.string r))], []⟩
theorem rowset_Format_run (id : RowID) : runFn rowset_Format_cx Tryz.f21 (body Tryz.f21) ⟨[.pure], []⟩ [.pure (.agg (base.enc 30 id))] = out (fun r => some (rowset_Format_res r)) (rowset_Format id) := by
  have h : runFn rowset_Format_cx Tryz.f21 (body Tryz.f21) ⟨[.pure], []⟩ [.pure (.agg (base.enc 30 id))] = obnd (rowset_Valid id) (fun r5 => bif !r5 then some ⟨[.pure (.lit (.string (ByteArray.mk #[])))], []⟩ else obnd (strconv_Itoa id.Table) (fun r4 => bif decide ((ByteArray.mk #[(116 : UInt8)]).size + r4.size ≤ (9223372036854775807 : Nat)) then bif decide ((ByteArray.mk #[(116 : UInt8)] ++ r4).size + (ByteArray.mk #[(46 : UInt8)]).size ≤ (9223372036854775807 : Nat)) then obnd (strconv_Itoa id.Seq) (fun r3 => bif decide ((ByteArray.mk #[(116 : UInt8)] ++ r4 ++ ByteArray.mk #[(46 : UInt8)]).size + r3.size ≤ (9223372036854775807 : Nat)) then some ⟨[.pure (.lit (.string (ByteArray.mk #[(116 : UInt8)] ++ r4 ++ ByteArray.mk #[(46 : UInt8)] ++ r3)))], []⟩ else none) else none else none)) := by kernel_rfl
  rw [rowset_Format]
  exact h.trans (out_ite (out_ite (rfl) (out_ite (out_ite (out_ite (out_ite (out_ite (rfl) (rfl)) (rfl)) (rfl)) (rfl)) (rfl))) (rfl))
noncomputable def rowset_Format_A : AL base (RowID × Unit) := aCons (aPure (vAgg 30)) aNil
noncomputable def rowset_Format_spec : Ab.Spec ty := mkSpec rowset_Format_A fun x => ((rowset_Format x.1).1, rowset_Format_res (rowset_Format x.1).2)
theorem rowset_Format_sound : Sound Tryz.prog base 21 rowset_Format_spec :=
  sound_of_run (cx' := rowset_Format_cx) draws base_ok ⟨⟨rfl, rfl, rfl, rfl, rfl, rfl⟩, rfl⟩ (spec_of [(17, rowset_Valid_spec), (47, strconv_Itoa_spec)] ⟨(rowset_Valid_sound), (strconv_Itoa_sound), trivial⟩) Tryz.call21 Tryz.func21 (c := body Tryz.f21) (by kernel_rfl) (loopsOK_of (l := []) (by kernel_rfl) trivial) (sg := ⟨[.pure], []⟩) (A := rowset_Format_A) (res := rowset_Format_res) (F := fun x => rowset_Format x.1) (fun x => rowset_Format_run x.1) (fun _ => by kernel_rfl) (by kernel_rfl)
end Go.Proofs.YteopikhooiallaaGreatDoor
/- Functions of the program as plain functions, with their contracts. Printed by program. -/
set_option autoImplicit false
set_option linter.unusedVariables false
set_option linter.unusedSimpArgs false
namespace Go.Proofs.YteopikhooiallaaGreatDoor
open Go Go.Ab
/-! ### strings.Join -/
noncomputable def strings_Join (l : List ByteArray) (sep : ByteArray) : Bool × ByteArray := joinF l sep
noncomputable def strings_Join_spec : Ab.Spec ty := mkSpec (cx := base0) (aCons (aPure (vSl 9)) (aCons (aPure vStr) aNil)) fun x => ((strings_Join x.1 x.2.1).1, ⟨[.pure (.lit (.string (strings_Join x.1 x.2.1).2))], []⟩)
theorem strings_Join_sound : Sound Tryz.prog base0 49 strings_Join_spec := join_sound (T := 9) base0_ok rfl Go.Proofs.Tryz.lays156 Go.Proofs.Tryz.Builder_Extra_156 Tryz.call49 (fun s : ByteArray => s) (fun _ => rfl) strings_Join (fun l sep => congrArg (fun l => joinF l sep) (List.map_id' (α := ByteArray) l).symm)
end Go.Proofs.YteopikhooiallaaGreatDoor
/- Functions of the program as plain functions, with their contracts. Printed by program. -/
set_option autoImplicit false
set_option linter.unusedVariables false
set_option linter.unusedSimpArgs false
namespace Go.Proofs.YteopikhooiallaaGreatDoor
open Go Go.Ab
/-! ### cmp.isNaN[int] -/
noncomputable def cmp_isNaN_int_cx : Cx ty := { base with nt := 6, spec := fun g => List.lookup g [], io := fun g => (List.lookup g []).getD [], head := fun i => (List.lookup i []).getD [], out := outOf [], loops := fun i => List.lookup i [] }
noncomputable def cmp_isNaN_int (x_ : Int) : Bool × Bool := (true, x_ != x_)
noncomputable def cmp_isNaN_int_res (r : Bool) : ARes ty := ⟨[.pure (.lit (.bool r))], []⟩
theorem cmp_isNaN_int_run (x_ : Int) : runFn cmp_isNaN_int_cx Tryz.f67 (body Tryz.f67) ⟨[.pure], []⟩ [.pure (.lit (.int .i64 x_))] = out (fun r => some (cmp_isNaN_int_res r)) (cmp_isNaN_int x_) := by
  have h : runFn cmp_isNaN_int_cx Tryz.f67 (body Tryz.f67) ⟨[.pure], []⟩ [.pure (.lit (.int .i64 x_))] = some ⟨[.pure (.lit (.bool (x_ != x_)))], []⟩ := by kernel_rfl
  rw [cmp_isNaN_int]
  exact h.trans (rfl)
noncomputable def cmp_isNaN_int_A : AL base (Int × Unit) := aCons (aPure (vInt .i64)) aNil
noncomputable def cmp_isNaN_int_spec : Ab.Spec ty := mkSpec cmp_isNaN_int_A fun x => ((cmp_isNaN_int x.1).1, cmp_isNaN_int_res (cmp_isNaN_int x.1).2)
theorem cmp_isNaN_int_sound : Sound Tryz.prog base 67 cmp_isNaN_int_spec :=
  sound_of_run (cx' := cmp_isNaN_int_cx) draws base_ok ⟨⟨rfl, rfl, rfl, rfl, rfl, rfl⟩, rfl⟩ (spec_of [] trivial) Tryz.call67 Tryz.func67 (c := body Tryz.f67) (by kernel_rfl) (loopsOK_of (l := []) (by kernel_rfl) trivial) (sg := ⟨[.pure], []⟩) (A := cmp_isNaN_int_A) (res := cmp_isNaN_int_res) (F := fun x => cmp_isNaN_int x.1) (fun x => cmp_isNaN_int_run x.1) (fun _ => by kernel_rfl) (by kernel_rfl)
end Go.Proofs.YteopikhooiallaaGreatDoor
/- Functions of the program as plain functions, with their contracts. Printed by program. -/
set_option autoImplicit false
set_option linter.unusedVariables false
set_option linter.unusedSimpArgs false
namespace Go.Proofs.YteopikhooiallaaGreatDoor
open Go Go.Ab
/-! ### cmp.Compare[int] -/
noncomputable def cmp_Compare_int_cx : Cx ty := { base with nt := 20, spec := fun g => List.lookup g [(67, cmp_isNaN_int_spec)], io := fun g => (List.lookup g []).getD [], head := fun i => (List.lookup i []).getD [], out := outOf [], loops := fun i => List.lookup i [] }
noncomputable def cmp_Compare_int (x_ : Int) (y_ : Int) : Bool × Int := bif (cmp_isNaN_int x_).snd then bif (cmp_isNaN_int y_).snd then (true, (0 : Int)) else (true, (-1 : Int)) else bif (cmp_isNaN_int y_).snd then (true, (1 : Int)) else bif decide (x_ < y_) then (true, (-1 : Int)) else bif decide (x_ > y_) then (true, (1 : Int)) else (true, (0 : Int))
noncomputable def cmp_Compare_int_res (r : Int) : ARes ty := ⟨[.pure (.lit (.int .i64 r))], []⟩
theorem cmp_Compare_int_run (x_ : Int) (y_ : Int) : runFn cmp_Compare_int_cx Tryz.f46 (body Tryz.f46) ⟨[.pure], []⟩ [.pure (.lit (.int .i64 x_)), .pure (.lit (.int .i64 y_))] = out (fun r => some (cmp_Compare_int_res r)) (cmp_Compare_int x_ y_) := by
  have h : runFn cmp_Compare_int_cx Tryz.f46 (body Tryz.f46) ⟨[.pure], []⟩ [.pure (.lit (.int .i64 x_)), .pure (.lit (.int .i64 y_))] = bif (cmp_isNaN_int x_).snd then bif (cmp_isNaN_int y_).snd then some ⟨[.pure (.lit (.int .i64 (0 : Int)))], []⟩ else some ⟨[.pure (.lit (.int .i64 (-1 : Int)))], []⟩ else bif (cmp_isNaN_int y_).snd then some ⟨[.pure (.lit (.int .i64 (1 : Int)))], []⟩ else bif decide (x_ < y_) then some ⟨[.pure (.lit (.int .i64 (-1 : Int)))], []⟩ else bif decide (x_ > y_) then some ⟨[.pure (.lit (.int .i64 (1 : Int)))], []⟩ else some ⟨[.pure (.lit (.int .i64 (0 : Int)))], []⟩ := by kernel_rfl
  rw [cmp_Compare_int]
  exact h.trans (out_ite (out_ite (rfl) (rfl)) (out_ite (rfl) (out_ite (rfl) (out_ite (rfl) (rfl)))))
noncomputable def cmp_Compare_int_A : AL base (Int × Int × Unit) := aCons (aPure (vInt .i64)) (aCons (aPure (vInt .i64)) aNil)
noncomputable def cmp_Compare_int_spec : Ab.Spec ty := mkSpec cmp_Compare_int_A fun x => ((cmp_Compare_int x.1 x.2.1).1, cmp_Compare_int_res (cmp_Compare_int x.1 x.2.1).2)
theorem cmp_Compare_int_sound : Sound Tryz.prog base 46 cmp_Compare_int_spec :=
  sound_of_run (cx' := cmp_Compare_int_cx) draws base_ok ⟨⟨rfl, rfl, rfl, rfl, rfl, rfl⟩, rfl⟩ (spec_of [(67, cmp_isNaN_int_spec)] ⟨(cmp_isNaN_int_sound), trivial⟩) Tryz.call46 Tryz.func46 (c := body Tryz.f46) (by kernel_rfl) (loopsOK_of (l := []) (by kernel_rfl) trivial) (sg := ⟨[.pure], []⟩) (A := cmp_Compare_int_A) (res := cmp_Compare_int_res) (F := fun x => cmp_Compare_int x.1 x.2.1) (fun x => cmp_Compare_int_run x.1 x.2.1) (fun _ => by kernel_rfl) (by kernel_rfl)
end Go.Proofs.YteopikhooiallaaGreatDoor
/- Functions of the program as plain functions, with their contracts. Printed by program. -/
set_option autoImplicit false
set_option linter.unusedVariables false
set_option linter.unusedSimpArgs false
namespace Go.Proofs.YteopikhooiallaaGreatDoor
open Go Go.Ab
/-! ### cmp.Or[int] -/
noncomputable def cmp_Or_int_L3 : Nat → Int → List Int → Int → Int → Bool × (Int ⊕ Int)
  | 0, _, _, _, _ => (false, .inl default)
  | n + 1, zero, t6, t7, t8 => bif decide (t8 < t7) then bif decide ((0 : Int) ≤ t8) && decide (t8 < Int.ofNat t6.length) then bif t6.getD t8.toNat default != zero then (true, .inl (t6.getD t8.toNat default)) else cmp_Or_int_L3 n zero t6 t7 (IntKind.i64.wrap (t8 + (1 : Int))) else (false, .inl default) else (true, .inr zero)
noncomputable def cmp_Or_int_tr3 (r : Int ⊕ Int) : LTree ty := .ite (isL r) (.done .ret [.lit (.int .i64 (getL r))] []) (.done (.exit 0) [.lit (.int .i64 (getR r))] [])
noncomputable def cmp_Or_int_V3 : LL ty (Int × List Int × Int × Int × Unit) := llCons (lInt .i64) (llCons (lSl 3) (llCons (lInt .i64) (llCons (lInt .i64) llNil)))
noncomputable def cmp_Or_int_B3 : BL ty (Unit) := bNil
noncomputable def cmp_Or_int_sp3 : LSpec ty := mkLoop cmp_Or_int_V3 cmp_Or_int_B3 fun x y => ((cmp_Or_int_L3 (Int.toNat x.1 + x.2.1.length + Int.toNat x.2.2.1 + Int.toNat x.2.2.2.1 + 1) x.1 x.2.1 x.2.2.1 x.2.2.2.1).1, cmp_Or_int_tr3 (cmp_Or_int_L3 (Int.toNat x.1 + x.2.1.length + Int.toNat x.2.2.1 + Int.toNat x.2.2.2.1 + 1) x.1 x.2.1 x.2.2.1 x.2.2.2.1).2)
noncomputable def cmp_Or_int_cx : Cx ty := { base with nt := 18, spec := fun g => List.lookup g [], io := fun g => (List.lookup g []).getD [], head := fun i => (List.lookup i [(3, [(3, .keep), (6, .keep), (7, .keep), (8, .keep)])]).getD [], out := outOf [(3, 1, [(3, .keep)]), (3, 0, [(2, .keep)])], loops := fun i => List.lookup i [(3, cmp_Or_int_sp3)] }
theorem cmp_Or_int_round3 {R : Type} (H : List (AV ty) → List (Blk ty) → Option R) (K : Ex → List (AV ty) → List (Blk ty) → Option R) (zero : Int) (t6 : List Int) (t7 : Int) (t8 : Int) : roundK cmp_Or_int_cx (lp (body Tryz.f45) 0) H K [.lit (.int .i64 zero), .sl 3 t6, .lit (.int .i64 t7), .lit (.int .i64 t8)] [] = bif decide (t8 < t7) then bif decide ((0 : Int) ≤ t8) && decide (t8 < Int.ofNat t6.length) then bif t6.getD t8.toNat default != zero then K .ret [.lit (.int .i64 (t6.getD t8.toNat default))] [] else H [.lit (.int .i64 zero), .sl 3 t6, .lit (.int .i64 t7), .lit (.int .i64 (IntKind.i64.wrap (t8 + (1 : Int))))] [] else none else K (.exit 0) [.lit (.int .i64 zero)] [] := by kernel_rfl
theorem cmp_Or_int_loop3 (R : Type) (K : Ex → List (AV ty) → List (Blk ty) → Option R) : ∀ (n : Nat) (zero : Int) (t6 : List Int) (t7 : Int) (t8 : Int), loopI cmp_Or_int_cx (lp (body Tryz.f45) 0) K n [.lit (.int .i64 zero), .sl 3 t6, .lit (.int .i64 t7), .lit (.int .i64 t8)] [] = out (fun r => treeK K (cmp_Or_int_tr3 r)) (cmp_Or_int_L3 n zero t6 t7 t8)
  | 0, _, _, _, _ => rfl
  | n + 1, zero, t6, t7, t8 => by
    have ih := cmp_Or_int_loop3 R K n
    rw [cmp_Or_int_L3]
    exact (cmp_Or_int_round3 (loopI cmp_Or_int_cx (lp (body Tryz.f45) 0) K n) K zero t6 t7 t8).trans (out_ite (out_ite (out_ite (rfl) (ih zero t6 t7 (IntKind.i64.wrap (t8 + (1 : Int))))) (rfl)) (rfl))
theorem cmp_Or_int_to3 : LoopOK cmp_Or_int_cx (lp (body Tryz.f45) 0) := loopOK_of (id := 3) (sp := cmp_Or_int_sp3) (by kernel_rfl) (by kernel_rfl) (loopTo_of (V := cmp_Or_int_V3) (B := cmp_Or_int_B3) (L := fun n x y => cmp_Or_int_L3 n x.1 x.2.1 x.2.2.1 x.2.2.2.1) (tr := cmp_Or_int_tr3) (m := fun x y => Int.toNat x.1 + x.2.1.length + Int.toNat x.2.2.1 + Int.toNat x.2.2.2.1 + 1) fun R K n x y => cmp_Or_int_loop3 R K n x.1 x.2.1 x.2.2.1 x.2.2.2.1)
noncomputable def cmp_Or_int (vals : List Int) : Bool × Int := bnd (cmp_Or_int_L3 (Int.toNat (0 : Int) + vals.length + (Int.ofNat vals.length).toNat + Int.toNat (0 : Int) + (1 : Nat)) (0 : Int) vals (Int.ofNat vals.length) (0 : Int)) (fun r0 => bif isL r0 then (true, getL r0) else (true, getR r0)) (false, default)
noncomputable def cmp_Or_int_res (r : Int) : ARes ty := ⟨[.pure (.lit (.int .i64 r))], []⟩
theorem cmp_Or_int_run (vals : List Int) : runFn cmp_Or_int_cx Tryz.f45 (body Tryz.f45) ⟨[.pure], []⟩ [.pure (.sl 3 vals)] = out (fun r => some (cmp_Or_int_res r)) (cmp_Or_int vals) := by
  have h : runFn cmp_Or_int_cx Tryz.f45 (body Tryz.f45) ⟨[.pure], []⟩ [.pure (.sl 3 vals)] = obnd (cmp_Or_int_L3 (Int.toNat (0 : Int) + vals.length + (Int.ofNat vals.length).toNat + Int.toNat (0 : Int) + (1 : Nat)) (0 : Int) vals (Int.ofNat vals.length) (0 : Int)) (fun r1 => bif isL r1 then some ⟨[.pure (.lit (.int .i64 (getL r1)))], []⟩ else some ⟨[.pure (.lit (.int .i64 (getR r1)))], []⟩) := by kernel_rfl
  rw [cmp_Or_int]
  exact h.trans (out_ite (out_ite (rfl) (rfl)) (rfl))
noncomputable def cmp_Or_int_A : AL base (List Int × Unit) := aCons (aPure (vSl 3)) aNil
noncomputable def cmp_Or_int_spec : Ab.Spec ty := mkSpec cmp_Or_int_A fun x => ((cmp_Or_int x.1).1, cmp_Or_int_res (cmp_Or_int x.1).2)
theorem cmp_Or_int_sound : Sound Tryz.prog base 45 cmp_Or_int_spec :=
  sound_of_run (cx' := cmp_Or_int_cx) draws base_ok ⟨⟨rfl, rfl, rfl, rfl, rfl, rfl⟩, rfl⟩ (spec_of [] trivial) Tryz.call45 Tryz.func45 (c := body Tryz.f45) (by kernel_rfl) (loopsOK_of (l := [lp (body Tryz.f45) 0]) (by kernel_rfl) ⟨cmp_Or_int_to3, trivial⟩) (sg := ⟨[.pure], []⟩) (A := cmp_Or_int_A) (res := cmp_Or_int_res) (F := fun x => cmp_Or_int x.1) (fun x => cmp_Or_int_run x.1) (fun _ => by kernel_rfl) (by kernel_rfl)
end Go.Proofs.YteopikhooiallaaGreatDoor
/- Functions of the program as plain functions, with their contracts. Printed by program. -/
set_option autoImplicit false
set_option linter.unusedVariables false
set_option linter.unusedSimpArgs false
namespace Go.Proofs.YteopikhooiallaaGreatDoor
open Go Go.Ab
/-! ### lineage/rowset.Compare -/
noncomputable def rowset_Compare_cx : Cx ty := { base with nt := 17, spec := fun g => List.lookup g [(45, cmp_Or_int_spec), (46, cmp_Compare_int_spec)], io := fun g => (List.lookup g []).getD [], head := fun i => (List.lookup i []).getD [], out := outOf [], loops := fun i => List.lookup i [] }
noncomputable def rowset_Compare (a : RowID) (b : RowID) : Bool × Int := bnd (cmp_Compare_int a.Table b.Table) (fun r2 => bnd (cmp_Compare_int a.Seq b.Seq) (fun r1 => bnd (cmp_Or_int [r2, r1]) (fun r0 => (true, r0)) (false, default)) (false, default)) (false, default)
noncomputable def rowset_Compare_res (r : Int) : ARes ty := ⟨[.pure (.lit (.int .i64 r))], []⟩
theorem rowset_Compare_run (a : RowID) (b : RowID) : runFn rowset_Compare_cx Tryz.f19 (body Tryz.f19) ⟨[.pure], []⟩ [.pure (.agg (base.enc 30 a)), .pure (.agg (base.enc 30 b))] = out (fun r => some (rowset_Compare_res r)) (rowset_Compare a b) := by
  have h : runFn rowset_Compare_cx Tryz.f19 (body Tryz.f19) ⟨[.pure], []⟩ [.pure (.agg (base.enc 30 a)), .pure (.agg (base.enc 30 b))] = obnd (cmp_Compare_int a.Table b.Table) (fun r5 => obnd (cmp_Compare_int a.Seq b.Seq) (fun r4 => obnd (cmp_Or_int [r5, r4]) (fun r3 => some ⟨[.pure (.lit (.int .i64 (r3)))], []⟩))) := by kernel_rfl
  rw [rowset_Compare]
  exact h.trans (out_ite (out_ite (out_ite (rfl) (rfl)) (rfl)) (rfl))
noncomputable def rowset_Compare_A : AL base (RowID × RowID × Unit) := aCons (aPure (vAgg 30)) (aCons (aPure (vAgg 30)) aNil)
noncomputable def rowset_Compare_spec : Ab.Spec ty := mkSpec rowset_Compare_A fun x => ((rowset_Compare x.1 x.2.1).1, rowset_Compare_res (rowset_Compare x.1 x.2.1).2)
theorem rowset_Compare_sound : Sound Tryz.prog base 19 rowset_Compare_spec :=
  sound_of_run (cx' := rowset_Compare_cx) draws base_ok ⟨⟨rfl, rfl, rfl, rfl, rfl, rfl⟩, rfl⟩ (spec_of [(45, cmp_Or_int_spec), (46, cmp_Compare_int_spec)] ⟨(cmp_Or_int_sound), (cmp_Compare_int_sound), trivial⟩) Tryz.call19 Tryz.func19 (c := body Tryz.f19) (by kernel_rfl) (loopsOK_of (l := []) (by kernel_rfl) trivial) (sg := ⟨[.pure], []⟩) (A := rowset_Compare_A) (res := rowset_Compare_res) (F := fun x => rowset_Compare x.1 x.2.1) (fun x => rowset_Compare_run x.1 x.2.1) (fun _ => by kernel_rfl) (by kernel_rfl)
end Go.Proofs.YteopikhooiallaaGreatDoor
/- Functions of the program as plain functions, with their contracts. Printed by program. -/
set_option autoImplicit false
set_option linter.unusedVariables false
set_option linter.unusedSimpArgs false
namespace Go.Proofs.YteopikhooiallaaGreatDoor
open Go Go.Ab
/-! ### slices.Clone[[]lineage/api.RowID,lineage/api.RowID] -/
noncomputable def slices_Clone_Lapi_RowID_api_RowID_cx : Cx ty := { base with nt := 8 }
noncomputable def slices_Clone_Lapi_RowID_api_RowID (s : List RowID) : Bool × List RowID := (decide (s.length * 16 ≤ reach), s)
noncomputable def slices_Clone_Lapi_RowID_api_RowID_spec : Ab.Spec ty := mkSpec (cx := base) (aCons (aPure (vSl 30)) aNil) fun x => ((slices_Clone_Lapi_RowID_api_RowID x.1).1, ⟨[.own 30 (slices_Clone_Lapi_RowID_api_RowID x.1).2], []⟩)
theorem slices_Clone_Lapi_RowID_api_RowID_nil : runFn slices_Clone_Lapi_RowID_api_RowID_cx Tryz.f50 (body Tryz.f50) ⟨[.own 30], []⟩ [.pure (.lit (.slice none 0 0))] = some ⟨[.own 30 []], []⟩ := by kernel_rfl
theorem slices_Clone_Lapi_RowID_api_RowID_empty (p : Addr) (c : Nat) : runFn slices_Clone_Lapi_RowID_api_RowID_cx Tryz.f50 (body Tryz.f50) ⟨[.own 30], []⟩ [.pure (.lit (.slice (some p) 0 c))] = some ⟨[.own 30 []], []⟩ := by kernel_rfl
theorem slices_Clone_Lapi_RowID_api_RowID_cons (l : List RowID) : runFn slices_Clone_Lapi_RowID_api_RowID_cx Tryz.f50 (body Tryz.f50) ⟨[.own 30], []⟩ [.pure (.sl 30 l)] = bif !l.isEmpty then bif decide ((([] : List (ty 30)).length + l.length) * 16 ≤ reach) then some ⟨[.own 30 l], []⟩ else none else none := by kernel_rfl
theorem slices_Clone_Lapi_RowID_api_RowID_sound : Sound Tryz.prog base 50 slices_Clone_Lapi_RowID_api_RowID_spec :=
  clone_sound (cx' := slices_Clone_Lapi_RowID_api_RowID_cx) (bytes := 16) draws base_ok ⟨⟨rfl, rfl, rfl, rfl, rfl, rfl⟩, rfl⟩ (fun g s h => by cases h) Tryz.call50 Tryz.func50 (c := body Tryz.f50) (by kernel_rfl) (loopsOK_of (l := []) (by kernel_rfl) trivial) slices_Clone_Lapi_RowID_api_RowID_nil slices_Clone_Lapi_RowID_api_RowID_empty slices_Clone_Lapi_RowID_api_RowID_cons (by kernel_rfl) (by kernel_rfl)
end Go.Proofs.YteopikhooiallaaGreatDoor
/- Functions of the program as plain functions, with their contracts. Printed by program. -/
set_option autoImplicit false
set_option linter.unusedVariables false
set_option linter.unusedSimpArgs false
namespace Go.Proofs.YteopikhooiallaaGreatDoor
open Go Go.Ab
/-! ### slices.Compact[[]lineage/api.RowID,lineage/api.RowID] -/
noncomputable def slices_Compact_Lapi_RowID_api_RowID_L9 : Nat → Int → Nat → Nat → Int → List RowID → Bool × (Int × List RowID)
  | 0, _, _, _, _, _ => (false, default)
  | n + 1, k, s2_0, s2_1, k2, s => bif decide (k2 < Int.ofNat s2_1) then bif decide ((0 : Int) ≤ k2) && decide (k2 < Int.ofNat s2_1) then bif decide ((0 : Int) ≤ IntKind.i64.wrap (k2 - (1 : Int))) && decide (IntKind.i64.wrap (k2 - (1 : Int)) < Int.ofNat s2_1) then bif !((s.getD (s2_0 + k2.toNat) default).Table == (s.getD (s2_0 + (IntKind.i64.wrap (k2 - (1 : Int))).toNat) default).Table && ((s.getD (s2_0 + k2.toNat) default).Seq == (s.getD (s2_0 + (IntKind.i64.wrap (k2 - (1 : Int))).toNat) default).Seq && true)) then bif decide ((0 : Int) ≤ k2) && decide (k2 < Int.ofNat s2_1) then bif decide ((0 : Int) ≤ k) && decide (k < Int.ofNat s.length) then bif decide (k.toNat < s.length) then slices_Compact_Lapi_RowID_api_RowID_L9 n (IntKind.i64.wrap (k + (1 : Int))) s2_0 s2_1 (IntKind.i64.wrap (k2 + (1 : Int))) (s.set k.toNat (s.getD (s2_0 + k2.toNat) default)) else (false, default) else (false, default) else (false, default) else slices_Compact_Lapi_RowID_api_RowID_L9 n k s2_0 s2_1 (IntKind.i64.wrap (k2 + (1 : Int))) s else (false, default) else (false, default) else (true, (k, s))
noncomputable def slices_Compact_Lapi_RowID_api_RowID_tr9 (r : Int × List RowID) : LTree ty := .done (.exit 2) [.own 244, .lit (.int .i64 r.1)] [.arr 30 r.2 false]
noncomputable def slices_Compact_Lapi_RowID_api_RowID_V9 : LL ty (Unit × Int × (Nat × Nat) × Int × Unit) := llCons (lOwn 244) (llCons (lInt .i64) (llCons (lSub 244) (llCons (lInt .i64) llNil)))
noncomputable def slices_Compact_Lapi_RowID_api_RowID_B9 : BL ty (List RowID × Unit) := bArr 30 false (bNil)
noncomputable def slices_Compact_Lapi_RowID_api_RowID_sp9 : LSpec ty := mkLoop slices_Compact_Lapi_RowID_api_RowID_V9 slices_Compact_Lapi_RowID_api_RowID_B9 fun x y => ((slices_Compact_Lapi_RowID_api_RowID_L9 (Int.toNat x.2.1 + x.2.2.1.1 + x.2.2.1.2 + Int.toNat x.2.2.2.1 + y.1.length + 1) x.2.1 x.2.2.1.1 x.2.2.1.2 x.2.2.2.1 y.1).1, slices_Compact_Lapi_RowID_api_RowID_tr9 (slices_Compact_Lapi_RowID_api_RowID_L9 (Int.toNat x.2.1 + x.2.2.1.1 + x.2.2.1.2 + Int.toNat x.2.2.2.1 + y.1.length + 1) x.2.1 x.2.2.1.1 x.2.2.1.2 x.2.2.2.1 y.1).2)
noncomputable def slices_Compact_Lapi_RowID_api_RowID_L4 : Nat → Int → List RowID → Bool × ((Nat × List RowID) ⊕ List RowID)
  | 0, _, _ => (false, .inl default)
  | n + 1, k, s => bif decide (k < Int.ofNat s.length) then bif decide ((0 : Int) ≤ k) && decide (k < Int.ofNat s.length) then bif decide ((0 : Int) ≤ IntKind.i64.wrap (k - (1 : Int))) && decide (IntKind.i64.wrap (k - (1 : Int)) < Int.ofNat s.length) then bif (s.getD k.toNat default).Table == (s.getD (IntKind.i64.wrap (k - (1 : Int))).toNat default).Table && ((s.getD k.toNat default).Seq == (s.getD (IntKind.i64.wrap (k - (1 : Int))).toNat default).Seq && true) then bif decide ((0 : Int) ≤ k) && decide (k ≤ Int.ofNat s.length) && decide (Int.ofNat s.length ≤ Int.ofNat s.length) then bnd (slices_Compact_Lapi_RowID_api_RowID_L9 (k.toNat + k.toNat + ((Int.ofNat s.length).toNat - k.toNat) + Int.toNat (1 : Int) + s.length + (1 : Nat)) k k.toNat ((Int.ofNat s.length).toNat - k.toNat) (1 : Int) s) (fun r0 => bif decide ((0 : Int) ≤ r0.fst) && decide (r0.fst ≤ Int.ofNat r0.snd.length) && decide (Int.ofNat r0.snd.length ≤ Int.ofNat r0.snd.length) then bif decide (r0.fst.toNat + ((Int.ofNat r0.snd.length).toNat - r0.fst.toNat) ≤ r0.snd.length) then bif decide ((0 : Int) ≤ (0 : Int)) && decide ((0 : Int) ≤ r0.fst) && decide (r0.fst ≤ Int.ofNat (List.take r0.fst.toNat r0.snd ++ List.replicate ((Int.ofNat r0.snd.length).toNat - r0.fst.toNat) (RowID.mk (0 : Int) (0 : Int)) ++ List.drop (r0.fst.toNat + ((Int.ofNat r0.snd.length).toNat - r0.fst.toNat)) r0.snd).length) then (true, .inl (r0.fst.toNat - Int.toNat (0 : Int), List.take r0.fst.toNat r0.snd ++ List.replicate ((Int.ofNat r0.snd.length).toNat - r0.fst.toNat) (RowID.mk (0 : Int) (0 : Int)) ++ List.drop (r0.fst.toNat + ((Int.ofNat r0.snd.length).toNat - r0.fst.toNat)) r0.snd)) else (false, .inl default) else (false, .inl default) else (false, .inl default)) (false, .inl default) else (false, .inl default) else slices_Compact_Lapi_RowID_api_RowID_L4 n (IntKind.i64.wrap (k + (1 : Int))) s else (false, .inl default) else (false, .inl default) else (true, .inr s)
noncomputable def slices_Compact_Lapi_RowID_api_RowID_tr4 (r : (Nat × List RowID) ⊕ List RowID) : LTree ty := .ite (isL r) (.done .ret [.sub 244 0 ((getL r).1)] [.arr 30 ((getL r).2) false]) (.done (.exit 0) [.own 244] [.arr 30 (getR r) false])
noncomputable def slices_Compact_Lapi_RowID_api_RowID_V4 : LL ty (Unit × Int × Unit) := llCons (lOwn 244) (llCons (lInt .i64) llNil)
noncomputable def slices_Compact_Lapi_RowID_api_RowID_B4 : BL ty (List RowID × Unit) := bArr 30 false (bNil)
noncomputable def slices_Compact_Lapi_RowID_api_RowID_sp4 : LSpec ty := mkLoop slices_Compact_Lapi_RowID_api_RowID_V4 slices_Compact_Lapi_RowID_api_RowID_B4 fun x y => ((slices_Compact_Lapi_RowID_api_RowID_L4 (Int.toNat x.2.1 + y.1.length + 1) x.2.1 y.1).1, slices_Compact_Lapi_RowID_api_RowID_tr4 (slices_Compact_Lapi_RowID_api_RowID_L4 (Int.toNat x.2.1 + y.1.length + 1) x.2.1 y.1).2)
noncomputable def slices_Compact_Lapi_RowID_api_RowID_cx : Cx ty := { base with nt := 61, spec := fun g => List.lookup g [], io := fun g => (List.lookup g []).getD [], head := fun i => (List.lookup i [(4, [(0, .keep), (3, .keep)]), (9, [(0, .keep), (3, .keep), (4, .keep), (5, .keep)])]).getD [], out := outOf [(4, 1, [(0, .keep)]), (4, 0, [(2, .keep)]), (9, 3, [(0, .keep), (3, .keep)])], loops := fun i => List.lookup i [(9, slices_Compact_Lapi_RowID_api_RowID_sp9), (4, slices_Compact_Lapi_RowID_api_RowID_sp4)] }
theorem slices_Compact_Lapi_RowID_api_RowID_round9 {R : Type} (H : List (AV ty) → List (Blk ty) → Option R) (K : Ex → List (AV ty) → List (Blk ty) → Option R) (k : Int) (s2_0 : Nat) (s2_1 : Nat) (k2 : Int) (s : List RowID) : roundK slices_Compact_Lapi_RowID_api_RowID_cx (lp (body Tryz.f52) 1) H K [.own 244, .lit (.int .i64 k), .sub 244 s2_0 s2_1, .lit (.int .i64 k2)] [.arr 30 s false] = bif decide (k2 < Int.ofNat s2_1) then bif decide ((0 : Int) ≤ k2) && decide (k2 < Int.ofNat s2_1) then bif decide ((0 : Int) ≤ IntKind.i64.wrap (k2 - (1 : Int))) && decide (IntKind.i64.wrap (k2 - (1 : Int)) < Int.ofNat s2_1) then bif !((s.getD (s2_0 + k2.toNat) default).Table == (s.getD (s2_0 + (IntKind.i64.wrap (k2 - (1 : Int))).toNat) default).Table && ((s.getD (s2_0 + k2.toNat) default).Seq == (s.getD (s2_0 + (IntKind.i64.wrap (k2 - (1 : Int))).toNat) default).Seq && true)) then bif decide ((0 : Int) ≤ k2) && decide (k2 < Int.ofNat s2_1) then bif decide ((0 : Int) ≤ k) && decide (k < Int.ofNat s.length) then bif decide (k.toNat < s.length) then H [.own 244, .lit (.int .i64 (IntKind.i64.wrap (k + (1 : Int)))), .sub 244 s2_0 s2_1, .lit (.int .i64 (IntKind.i64.wrap (k2 + (1 : Int))))] [.arr 30 (s.set k.toNat (s.getD (s2_0 + k2.toNat) default)) false] else none else none else none else H [.own 244, .lit (.int .i64 k), .sub 244 s2_0 s2_1, .lit (.int .i64 (IntKind.i64.wrap (k2 + (1 : Int))))] [.arr 30 s false] else none else none else K (.exit 2) [.own 244, .lit (.int .i64 k)] [.arr 30 s false] := by kernel_rfl
theorem slices_Compact_Lapi_RowID_api_RowID_loop9 (R : Type) (K : Ex → List (AV ty) → List (Blk ty) → Option R) : ∀ (n : Nat) (k : Int) (s2_0 : Nat) (s2_1 : Nat) (k2 : Int) (s : List RowID), loopI slices_Compact_Lapi_RowID_api_RowID_cx (lp (body Tryz.f52) 1) K n [.own 244, .lit (.int .i64 k), .sub 244 s2_0 s2_1, .lit (.int .i64 k2)] [.arr 30 s false] = out (fun r => treeK K (slices_Compact_Lapi_RowID_api_RowID_tr9 r)) (slices_Compact_Lapi_RowID_api_RowID_L9 n k s2_0 s2_1 k2 s)
  | 0, _, _, _, _, _ => rfl
  | n + 1, k, s2_0, s2_1, k2, s => by
    have ih := slices_Compact_Lapi_RowID_api_RowID_loop9 R K n
    rw [slices_Compact_Lapi_RowID_api_RowID_L9]
    exact (slices_Compact_Lapi_RowID_api_RowID_round9 (loopI slices_Compact_Lapi_RowID_api_RowID_cx (lp (body Tryz.f52) 1) K n) K k s2_0 s2_1 k2 s).trans (out_ite (out_ite (out_ite (out_ite (out_ite (out_ite (out_ite (ih (IntKind.i64.wrap (k + (1 : Int))) s2_0 s2_1 (IntKind.i64.wrap (k2 + (1 : Int))) (s.set k.toNat (s.getD (s2_0 + k2.toNat) default))) (rfl)) (rfl)) (rfl)) (ih k s2_0 s2_1 (IntKind.i64.wrap (k2 + (1 : Int))) s)) (rfl)) (rfl)) (rfl))
theorem slices_Compact_Lapi_RowID_api_RowID_to9 : LoopOK slices_Compact_Lapi_RowID_api_RowID_cx (lp (body Tryz.f52) 1) := loopOK_of (id := 9) (sp := slices_Compact_Lapi_RowID_api_RowID_sp9) (by kernel_rfl) (by kernel_rfl) (loopTo_of (V := slices_Compact_Lapi_RowID_api_RowID_V9) (B := slices_Compact_Lapi_RowID_api_RowID_B9) (L := fun n x y => slices_Compact_Lapi_RowID_api_RowID_L9 n x.2.1 x.2.2.1.1 x.2.2.1.2 x.2.2.2.1 y.1) (tr := slices_Compact_Lapi_RowID_api_RowID_tr9) (m := fun x y => Int.toNat x.2.1 + x.2.2.1.1 + x.2.2.1.2 + Int.toNat x.2.2.2.1 + y.1.length + 1) fun R K n x y => slices_Compact_Lapi_RowID_api_RowID_loop9 R K n x.2.1 x.2.2.1.1 x.2.2.1.2 x.2.2.2.1 y.1)
theorem slices_Compact_Lapi_RowID_api_RowID_round4 {R : Type} (H : List (AV ty) → List (Blk ty) → Option R) (K : Ex → List (AV ty) → List (Blk ty) → Option R) (k : Int) (s : List RowID) : roundK slices_Compact_Lapi_RowID_api_RowID_cx (lp (body Tryz.f52) 0) H K [.own 244, .lit (.int .i64 k)] [.arr 30 s false] = bif decide (k < Int.ofNat s.length) then bif decide ((0 : Int) ≤ k) && decide (k < Int.ofNat s.length) then bif decide ((0 : Int) ≤ IntKind.i64.wrap (k - (1 : Int))) && decide (IntKind.i64.wrap (k - (1 : Int)) < Int.ofNat s.length) then bif (s.getD k.toNat default).Table == (s.getD (IntKind.i64.wrap (k - (1 : Int))).toNat default).Table && ((s.getD k.toNat default).Seq == (s.getD (IntKind.i64.wrap (k - (1 : Int))).toNat default).Seq && true) then bif decide ((0 : Int) ≤ k) && decide (k ≤ Int.ofNat s.length) && decide (Int.ofNat s.length ≤ Int.ofNat s.length) then obnd (slices_Compact_Lapi_RowID_api_RowID_L9 (k.toNat + k.toNat + ((Int.ofNat s.length).toNat - k.toNat) + Int.toNat (1 : Int) + s.length + (1 : Nat)) k k.toNat ((Int.ofNat s.length).toNat - k.toNat) (1 : Int) s) (fun r1 => bif decide ((0 : Int) ≤ r1.fst) && decide (r1.fst ≤ Int.ofNat r1.snd.length) && decide (Int.ofNat r1.snd.length ≤ Int.ofNat r1.snd.length) then bif decide (r1.fst.toNat + ((Int.ofNat r1.snd.length).toNat - r1.fst.toNat) ≤ r1.snd.length) then bif decide ((0 : Int) ≤ (0 : Int)) && decide ((0 : Int) ≤ r1.fst) && decide (r1.fst ≤ Int.ofNat (List.take r1.fst.toNat r1.snd ++ List.replicate ((Int.ofNat r1.snd.length).toNat - r1.fst.toNat) (RowID.mk (0 : Int) (0 : Int)) ++ List.drop (r1.fst.toNat + ((Int.ofNat r1.snd.length).toNat - r1.fst.toNat)) r1.snd).length) then K .ret [.sub 244 0 (r1.fst.toNat - Int.toNat (0 : Int))] [.arr 30 (List.take r1.fst.toNat r1.snd ++ List.replicate ((Int.ofNat r1.snd.length).toNat - r1.fst.toNat) (RowID.mk (0 : Int) (0 : Int)) ++ List.drop (r1.fst.toNat + ((Int.ofNat r1.snd.length).toNat - r1.fst.toNat)) r1.snd) false] else none else none else none) else none else H [.own 244, .lit (.int .i64 (IntKind.i64.wrap (k + (1 : Int))))] [.arr 30 s false] else none else none else K (.exit 0) [.own 244] [.arr 30 s false] := by kernel_rfl
theorem slices_Compact_Lapi_RowID_api_RowID_loop4 (R : Type) (K : Ex → List (AV ty) → List (Blk ty) → Option R) : ∀ (n : Nat) (k : Int) (s : List RowID), loopI slices_Compact_Lapi_RowID_api_RowID_cx (lp (body Tryz.f52) 0) K n [.own 244, .lit (.int .i64 k)] [.arr 30 s false] = out (fun r => treeK K (slices_Compact_Lapi_RowID_api_RowID_tr4 r)) (slices_Compact_Lapi_RowID_api_RowID_L4 n k s)
  | 0, _, _ => rfl
  | n + 1, k, s => by
    have ih := slices_Compact_Lapi_RowID_api_RowID_loop4 R K n
    rw [slices_Compact_Lapi_RowID_api_RowID_L4]
    exact (slices_Compact_Lapi_RowID_api_RowID_round4 (loopI slices_Compact_Lapi_RowID_api_RowID_cx (lp (body Tryz.f52) 0) K n) K k s).trans (out_ite (out_ite (out_ite (out_ite (out_ite (out_ite (out_ite (out_ite (out_ite (rfl) (rfl)) (rfl)) (rfl)) (rfl)) (rfl)) (ih (IntKind.i64.wrap (k + (1 : Int))) s)) (rfl)) (rfl)) (rfl))
theorem slices_Compact_Lapi_RowID_api_RowID_to4 : LoopOK slices_Compact_Lapi_RowID_api_RowID_cx (lp (body Tryz.f52) 0) := loopOK_of (id := 4) (sp := slices_Compact_Lapi_RowID_api_RowID_sp4) (by kernel_rfl) (by kernel_rfl) (loopTo_of (V := slices_Compact_Lapi_RowID_api_RowID_V4) (B := slices_Compact_Lapi_RowID_api_RowID_B4) (L := fun n x y => slices_Compact_Lapi_RowID_api_RowID_L4 n x.2.1 y.1) (tr := slices_Compact_Lapi_RowID_api_RowID_tr4) (m := fun x y => Int.toNat x.2.1 + y.1.length + 1) fun R K n x y => slices_Compact_Lapi_RowID_api_RowID_loop4 R K n x.2.1 y.1)
noncomputable def slices_Compact_Lapi_RowID_api_RowID (s : List RowID) : Bool × List RowID := bif decide (Int.ofNat s.length < (2 : Int)) then (true, s) else bnd (slices_Compact_Lapi_RowID_api_RowID_L4 (Int.toNat (1 : Int) + s.length + (1 : Nat)) (1 : Int) s) (fun r2 => bif isL r2 then (true, List.take (getL r2).fst (getL r2).snd) else (true, getR r2)) (false, default)
noncomputable def slices_Compact_Lapi_RowID_api_RowID_res (r : List RowID) : ARes ty := ⟨[.own 30 r], [none]⟩
theorem slices_Compact_Lapi_RowID_api_RowID_run (s : List RowID) : runFn slices_Compact_Lapi_RowID_api_RowID_cx Tryz.f52 (body Tryz.f52) ⟨[.own 30], [false]⟩ [.own 30 s] = out (fun r => some (slices_Compact_Lapi_RowID_api_RowID_res r)) (slices_Compact_Lapi_RowID_api_RowID s) := by
  have h : runFn slices_Compact_Lapi_RowID_api_RowID_cx Tryz.f52 (body Tryz.f52) ⟨[.own 30], [false]⟩ [.own 30 s] = bif decide (Int.ofNat s.length < (2 : Int)) then some ⟨[.own 30 s], [none]⟩ else obnd (slices_Compact_Lapi_RowID_api_RowID_L4 (Int.toNat (1 : Int) + s.length + (1 : Nat)) (1 : Int) s) (fun r3 => bif isL r3 then some ⟨[.own 30 (List.take (getL r3).fst (getL r3).snd)], [none]⟩ else some ⟨[.own 30 (getR r3)], [none]⟩) := by kernel_rfl
  rw [slices_Compact_Lapi_RowID_api_RowID]
  exact h.trans (out_ite (rfl) (out_ite (out_ite (rfl) (rfl)) (rfl)))
noncomputable def slices_Compact_Lapi_RowID_api_RowID_A : AL base (List RowID × Unit) := aCons (aOwn 30) aNil
noncomputable def slices_Compact_Lapi_RowID_api_RowID_spec : Ab.Spec ty := mkSpec slices_Compact_Lapi_RowID_api_RowID_A fun x => ((slices_Compact_Lapi_RowID_api_RowID x.1).1, slices_Compact_Lapi_RowID_api_RowID_res (slices_Compact_Lapi_RowID_api_RowID x.1).2)
theorem slices_Compact_Lapi_RowID_api_RowID_sound : Sound Tryz.prog base 52 slices_Compact_Lapi_RowID_api_RowID_spec :=
  sound_of_run (cx' := slices_Compact_Lapi_RowID_api_RowID_cx) draws base_ok ⟨⟨rfl, rfl, rfl, rfl, rfl, rfl⟩, rfl⟩ (spec_of [] trivial) Tryz.call52 Tryz.func52 (c := body Tryz.f52) (by kernel_rfl) (loopsOK_of (l := [lp (body Tryz.f52) 0, lp (body Tryz.f52) 1]) (by kernel_rfl) ⟨slices_Compact_Lapi_RowID_api_RowID_to4, slices_Compact_Lapi_RowID_api_RowID_to9, trivial⟩) (sg := ⟨[.own 30], [false]⟩) (A := slices_Compact_Lapi_RowID_api_RowID_A) (res := slices_Compact_Lapi_RowID_api_RowID_res) (F := fun x => slices_Compact_Lapi_RowID_api_RowID x.1) (fun x => slices_Compact_Lapi_RowID_api_RowID_run x.1) (fun _ => by kernel_rfl) (by kernel_rfl)
end Go.Proofs.YteopikhooiallaaGreatDoor
/- Functions of the program as plain functions, with their contracts. Printed by program. -/
set_option autoImplicit false
set_option linter.unusedVariables false
set_option linter.unusedSimpArgs false
namespace Go.Proofs.YteopikhooiallaaGreatDoor
open Go Go.Ab
/-! ### slices.SortFunc[[]lineage/api.RowID,lineage/api.RowID] -/
noncomputable def slices_SortFunc_Lapi_RowID_api_RowID (x : List RowID) : Bool × List RowID := sortFunc (fun a b => rowset_Compare a b) x
noncomputable def slices_SortFunc_Lapi_RowID_api_RowID_spec : Ab.Spec ty := mkSpec (cx := base) (aCons (aOwn 30) (aCons (aPure (vFn 19 (vNil))) aNil)) fun x => ((slices_SortFunc_Lapi_RowID_api_RowID x.1).1, ⟨[], [some ⟨30, (slices_SortFunc_Lapi_RowID_api_RowID x.1).2⟩]⟩)
theorem slices_SortFunc_Lapi_RowID_api_RowID_cmp (c : Unit) (x y : RowID) (h : (rowset_Compare x y).1 = true) : rowset_Compare_spec ((AV.agg (base.enc 30 x) :: AV.agg (base.enc 30 y) :: (vNil : VL base (Unit)).enc c).map Arg.pure) = some (true, ⟨[.pure (.lit (.int .i64 (rowset_Compare x y).2))], []⟩) := by
  rw [← h]; kernel_rfl
theorem slices_SortFunc_Lapi_RowID_api_RowID_sound : Sound Tryz.prog base 51 slices_SortFunc_Lapi_RowID_api_RowID_spec := by
  letI : DecidableEq (ty 30) := inferInstanceAs (DecidableEq RowID)
  exact sortK_sound (T := 30) base_ok rfl Go.Proofs.Tryz.sortRow Tryz.isAgg30 (by unfold szOf; exact Tryz.sizeOf30) Tryz.call51 rowset_Compare_sound (vNil) (fun c => fun a b => rowset_Compare a b) slices_SortFunc_Lapi_RowID_api_RowID_cmp
end Go.Proofs.YteopikhooiallaaGreatDoor
/- Functions of the program as plain functions, with their contracts. Printed by program. -/
set_option autoImplicit false
set_option linter.unusedVariables false
set_option linter.unusedSimpArgs false
namespace Go.Proofs.YteopikhooiallaaGreatDoor
open Go Go.Ab
/-! ### lineage/rowset.Normalize -/
noncomputable def rowset_Normalize_cx : Cx ty := { base with nt := 10, spec := fun g => List.lookup g [(19, rowset_Compare_spec), (50, slices_Clone_Lapi_RowID_api_RowID_spec), (51, slices_SortFunc_Lapi_RowID_api_RowID_spec), (52, slices_Compact_Lapi_RowID_api_RowID_spec)], io := fun g => (List.lookup g [(51, [true, false]), (52, [true])]).getD [], head := fun i => (List.lookup i []).getD [], out := outOf [], loops := fun i => List.lookup i [] }
noncomputable def rowset_Normalize (l : List RowID) : Bool × List RowID := bnd (slices_Clone_Lapi_RowID_api_RowID l) (fun r2 => bnd (slices_SortFunc_Lapi_RowID_api_RowID r2) (fun r1 => bnd (slices_Compact_Lapi_RowID_api_RowID r1) (fun r0 => (true, r0)) (false, default)) (false, default)) (false, default)
noncomputable def rowset_Normalize_res (r : List RowID) : ARes ty := ⟨[.own 30 r], []⟩
theorem rowset_Normalize_run (l : List RowID) : runFn rowset_Normalize_cx Tryz.f26 (body Tryz.f26) ⟨[.own 30], []⟩ [.pure (.sl 30 l)] = out (fun r => some (rowset_Normalize_res r)) (rowset_Normalize l) := by
  have h : runFn rowset_Normalize_cx Tryz.f26 (body Tryz.f26) ⟨[.own 30], []⟩ [.pure (.sl 30 l)] = obnd (slices_Clone_Lapi_RowID_api_RowID l) (fun r5 => obnd (slices_SortFunc_Lapi_RowID_api_RowID r5) (fun r4 => obnd (slices_Compact_Lapi_RowID_api_RowID r4) (fun r3 => some ⟨[.own 30 (r3)], []⟩))) := by kernel_rfl
  rw [rowset_Normalize]
  exact h.trans (out_ite (out_ite (out_ite (rfl) (rfl)) (rfl)) (rfl))
noncomputable def rowset_Normalize_A : AL base (List RowID × Unit) := aCons (aPure (vSl 30)) aNil
noncomputable def rowset_Normalize_spec : Ab.Spec ty := mkSpec rowset_Normalize_A fun x => ((rowset_Normalize x.1).1, rowset_Normalize_res (rowset_Normalize x.1).2)
theorem rowset_Normalize_sound : Sound Tryz.prog base 26 rowset_Normalize_spec :=
  sound_of_run (cx' := rowset_Normalize_cx) draws base_ok ⟨⟨rfl, rfl, rfl, rfl, rfl, rfl⟩, rfl⟩ (spec_of [(19, rowset_Compare_spec), (50, slices_Clone_Lapi_RowID_api_RowID_spec), (51, slices_SortFunc_Lapi_RowID_api_RowID_spec), (52, slices_Compact_Lapi_RowID_api_RowID_spec)] ⟨(rowset_Compare_sound), (slices_Clone_Lapi_RowID_api_RowID_sound), (slices_SortFunc_Lapi_RowID_api_RowID_sound), (slices_Compact_Lapi_RowID_api_RowID_sound), trivial⟩) Tryz.call26 Tryz.func26 (c := body Tryz.f26) (by kernel_rfl) (loopsOK_of (l := []) (by kernel_rfl) trivial) (sg := ⟨[.own 30], []⟩) (A := rowset_Normalize_A) (res := rowset_Normalize_res) (F := fun x => rowset_Normalize x.1) (fun x => rowset_Normalize_run x.1) (fun _ => by kernel_rfl) (by kernel_rfl)
end Go.Proofs.YteopikhooiallaaGreatDoor
/- Functions of the program as plain functions, with their contracts. Printed by program. -/
set_option autoImplicit false
set_option linter.unusedVariables false
set_option linter.unusedSimpArgs false
namespace Go.Proofs.YteopikhooiallaaGreatDoor
open Go Go.Ab
/-! ### lineage/rowset.FormatSet -/
noncomputable def rowset_FormatSet_L3 : Nat → Int → Int → List ByteArray → List RowID → Bool × (ByteArray ⊕ List ByteArray)
  | 0, _, _, _, _ => (false, .inl default)
  | n + 1, t8, t9, texts, t7 => bif decide (t9 < t8) then bif decide ((0 : Int) ≤ t9) && decide (t9 < Int.ofNat t7.length) then bnd (rowset_Valid (t7.getD t9.toNat default)) (fun r1 => bif !r1 then (true, .inl (ByteArray.mk #[])) else bnd (rowset_Format (t7.getD t9.toNat default)) (fun r0 => bif decide ((texts.length + [r0].length) * (16 : Nat) ≤ reach) then rowset_FormatSet_L3 n t8 (IntKind.i64.wrap (t9 + (1 : Int))) (texts ++ [r0]) t7 else (false, .inl default)) (false, .inl default)) (false, .inl default) else (false, .inl default) else (true, .inr texts)
noncomputable def rowset_FormatSet_tr3 (r : ByteArray ⊕ List ByteArray) : LTree ty := .ite (isL r) (.done .ret [.lit (.string (getL r))] []) (.done (.exit 0) [.own 104] [.arr 9 (getR r) false])
noncomputable def rowset_FormatSet_V3 : LL ty (Unit × Unit × Int × Int × Unit) := llCons (lOwn 104) (llCons (lOwn 105) (llCons (lInt .i64) (llCons (lInt .i64) llNil)))
noncomputable def rowset_FormatSet_B3 : BL ty (List ByteArray × List RowID × Unit) := bArr 9 false (bArr 30 false (bNil))
noncomputable def rowset_FormatSet_sp3 : LSpec ty := mkLoop rowset_FormatSet_V3 rowset_FormatSet_B3 fun x y => ((rowset_FormatSet_L3 (Int.toNat x.2.2.1 + Int.toNat x.2.2.2.1 + y.1.length + y.2.1.length + 1) x.2.2.1 x.2.2.2.1 y.1 y.2.1).1, rowset_FormatSet_tr3 (rowset_FormatSet_L3 (Int.toNat x.2.2.1 + Int.toNat x.2.2.2.1 + y.1.length + y.2.1.length + 1) x.2.2.1 x.2.2.2.1 y.1 y.2.1).2)
noncomputable def rowset_FormatSet_cx : Cx ty := { base0 with nt := 26, spec := fun g => List.lookup g [(17, rowset_Valid_spec), (21, rowset_Format_spec), (26, rowset_Normalize_spec), (49, strings_Join_spec)], io := fun g => (List.lookup g []).getD [], head := fun i => (List.lookup i [(3, [(3, .own 9), (7, .keep), (8, .keep), (9, .keep)])]).getD [], out := outOf [(3, 1, [(3, .keep)]), (3, 0, [(2, .keep)])], loops := fun i => List.lookup i [(3, rowset_FormatSet_sp3)] }
theorem rowset_FormatSet_round3 {R : Type} (H : List (AV ty) → List (Blk ty) → Option R) (K : Ex → List (AV ty) → List (Blk ty) → Option R) (t8 : Int) (t9 : Int) (texts : List ByteArray) (t7 : List RowID) : roundK rowset_FormatSet_cx (lp (body Tryz.f23) 0) H K [.own 104, .own 105, .lit (.int .i64 t8), .lit (.int .i64 t9)] [.arr 9 texts false, .arr 30 t7 false] = bif decide (t9 < t8) then bif decide ((0 : Int) ≤ t9) && decide (t9 < Int.ofNat t7.length) then obnd (rowset_Valid (t7.getD t9.toNat default)) (fun r3 => bif !r3 then K .ret [.lit (.string (ByteArray.mk #[]))] [] else obnd (rowset_Format (t7.getD t9.toNat default)) (fun r2 => bif decide ((texts.length + [r2].length) * (16 : Nat) ≤ reach) then H [.own 104, .own 105, .lit (.int .i64 t8), .lit (.int .i64 (IntKind.i64.wrap (t9 + (1 : Int))))] [.arr 9 (texts ++ [r2]) false, .arr 30 t7 false] else none)) else none else K (.exit 0) [.own 104] [.arr 9 texts false] := by kernel_rfl
theorem rowset_FormatSet_loop3 (R : Type) (K : Ex → List (AV ty) → List (Blk ty) → Option R) : ∀ (n : Nat) (t8 : Int) (t9 : Int) (texts : List ByteArray) (t7 : List RowID), loopI rowset_FormatSet_cx (lp (body Tryz.f23) 0) K n [.own 104, .own 105, .lit (.int .i64 t8), .lit (.int .i64 t9)] [.arr 9 texts false, .arr 30 t7 false] = out (fun r => treeK K (rowset_FormatSet_tr3 r)) (rowset_FormatSet_L3 n t8 t9 texts t7)
  | 0, _, _, _, _ => rfl
  | n + 1, t8, t9, texts, t7 => by
    have ih := rowset_FormatSet_loop3 R K n
    rw [rowset_FormatSet_L3]
    exact (rowset_FormatSet_round3 (loopI rowset_FormatSet_cx (lp (body Tryz.f23) 0) K n) K t8 t9 texts t7).trans (out_ite (out_ite (out_ite (out_ite (rfl) (out_ite (out_ite (ih t8 (IntKind.i64.wrap (t9 + (1 : Int))) (texts ++ [(rowset_Format (t7.getD t9.toNat default)).snd]) t7) (rfl)) (rfl))) (rfl)) (rfl)) (rfl))
theorem rowset_FormatSet_to3 : LoopOK rowset_FormatSet_cx (lp (body Tryz.f23) 0) := loopOK_of (id := 3) (sp := rowset_FormatSet_sp3) (by kernel_rfl) (by kernel_rfl) (loopTo_of (V := rowset_FormatSet_V3) (B := rowset_FormatSet_B3) (L := fun n x y => rowset_FormatSet_L3 n x.2.2.1 x.2.2.2.1 y.1 y.2.1) (tr := rowset_FormatSet_tr3) (m := fun x y => Int.toNat x.2.2.1 + Int.toNat x.2.2.2.1 + y.1.length + y.2.1.length + 1) fun R K n x y => rowset_FormatSet_loop3 R K n x.2.2.1 x.2.2.2.1 y.1 y.2.1)
noncomputable def rowset_FormatSet (l : List RowID) : Bool × ByteArray := bnd (rowset_Normalize l) (fun r6 => bnd (rowset_FormatSet_L3 ((Int.ofNat r6.length).toNat + Int.toNat (0 : Int) + (0 : Nat) + r6.length + (1 : Nat)) (Int.ofNat r6.length) (0 : Int) [] r6) (fun r5 => bif isL r5 then (true, getL r5) else bnd (strings_Join (getR r5) (ByteArray.mk #[(44 : UInt8), (32 : UInt8)])) (fun r4 => bif decide ((ByteArray.mk #[(123 : UInt8)]).size + r4.size ≤ (9223372036854775807 : Nat)) then bif decide ((ByteArray.mk #[(123 : UInt8)] ++ r4).size + (ByteArray.mk #[(125 : UInt8)]).size ≤ (9223372036854775807 : Nat)) then (true, ByteArray.mk #[(123 : UInt8)] ++ r4 ++ ByteArray.mk #[(125 : UInt8)]) else (false, default) else (false, default)) (false, default)) (false, default)) (false, default)
noncomputable def rowset_FormatSet_res (r : ByteArray) : ARes ty := ⟨[.pure (.lit (.string r))], []⟩
theorem rowset_FormatSet_run (l : List RowID) : runFn rowset_FormatSet_cx Tryz.f23 (body Tryz.f23) ⟨[.pure], []⟩ [.pure (.sl 30 l)] = out (fun r => some (rowset_FormatSet_res r)) (rowset_FormatSet l) := by
  have h : runFn rowset_FormatSet_cx Tryz.f23 (body Tryz.f23) ⟨[.pure], []⟩ [.pure (.sl 30 l)] = obnd (rowset_Normalize l) (fun r9 => obnd (rowset_FormatSet_L3 ((Int.ofNat r9.length).toNat + Int.toNat (0 : Int) + (0 : Nat) + r9.length + (1 : Nat)) (Int.ofNat r9.length) (0 : Int) [] r9) (fun r8 => bif isL r8 then some ⟨[.pure (.lit (.string (getL r8)))], []⟩ else obnd (strings_Join (getR r8) (ByteArray.mk #[(44 : UInt8), (32 : UInt8)])) (fun r7 => bif decide ((ByteArray.mk #[(123 : UInt8)]).size + r7.size ≤ (9223372036854775807 : Nat)) then bif decide ((ByteArray.mk #[(123 : UInt8)] ++ r7).size + (ByteArray.mk #[(125 : UInt8)]).size ≤ (9223372036854775807 : Nat)) then some ⟨[.pure (.lit (.string (ByteArray.mk #[(123 : UInt8)] ++ r7 ++ ByteArray.mk #[(125 : UInt8)])))], []⟩ else none else none))) := by kernel_rfl
  rw [rowset_FormatSet]
  exact h.trans (out_ite (out_ite (out_ite (rfl) (out_ite (out_ite (out_ite (rfl) (rfl)) (rfl)) (rfl))) (rfl)) (rfl))
noncomputable def rowset_FormatSet_A : AL base0 (List RowID × Unit) := aCons (aPure (vSl 30)) aNil
noncomputable def rowset_FormatSet_spec : Ab.Spec ty := mkSpec rowset_FormatSet_A fun x => ((rowset_FormatSet x.1).1, rowset_FormatSet_res (rowset_FormatSet x.1).2)
theorem rowset_FormatSet_sound : Sound Tryz.prog base0 23 rowset_FormatSet_spec :=
  sound_of_run (cx' := rowset_FormatSet_cx) draws base0_ok ⟨⟨rfl, rfl, rfl, rfl, rfl, rfl⟩, rfl⟩ (spec_of [(17, rowset_Valid_spec), (21, rowset_Format_spec), (26, rowset_Normalize_spec), (49, strings_Join_spec)] ⟨(rowset_Valid_sound.nodr), (rowset_Format_sound.nodr), (rowset_Normalize_sound.nodr), (strings_Join_sound), trivial⟩) Tryz.call23 Tryz.func23 (c := body Tryz.f23) (by kernel_rfl) (loopsOK_of (l := [lp (body Tryz.f23) 0]) (by kernel_rfl) ⟨rowset_FormatSet_to3, trivial⟩) (sg := ⟨[.pure], []⟩) (A := rowset_FormatSet_A) (res := rowset_FormatSet_res) (F := fun x => rowset_FormatSet x.1) (fun x => rowset_FormatSet_run x.1) (fun _ => by kernel_rfl) (by kernel_rfl)
end Go.Proofs.YteopikhooiallaaGreatDoor
/- Functions of the program as plain functions, with their contracts. Printed by program. -/
set_option autoImplicit false
set_option linter.unusedVariables false
set_option linter.unusedSimpArgs false
namespace Go.Proofs.YteopikhooiallaaGreatDoor
open Go Go.Ab
/-! ### slices.Equal[[]lineage/api.RowID,lineage/api.RowID] -/
noncomputable def slices_Equal_Lapi_RowID_api_RowID_L4 : Nat → List RowID → List RowID → Int → Int → Bool × (Bool ⊕ Unit)
  | 0, _, _, _, _ => (false, .inl default)
  | n + 1, s1, s2, t12, t13 => bif decide (t13 < t12) then bif decide ((0 : Int) ≤ t13) && decide (t13 < Int.ofNat s1.length) then bif decide ((0 : Int) ≤ t13) && decide (t13 < Int.ofNat s2.length) then bif !((s1.getD t13.toNat default).Table == (s2.getD t13.toNat default).Table && ((s1.getD t13.toNat default).Seq == (s2.getD t13.toNat default).Seq && true)) then (true, .inl false) else slices_Equal_Lapi_RowID_api_RowID_L4 n s1 s2 t12 (IntKind.i64.wrap (t13 + (1 : Int))) else (false, .inl default) else (false, .inl default) else (true, .inr ())
noncomputable def slices_Equal_Lapi_RowID_api_RowID_tr4 (r : Bool ⊕ Unit) : LTree ty := .ite (isL r) (.done .ret [.lit (.bool (getL r))] []) (.done (.exit 0) [] [])
noncomputable def slices_Equal_Lapi_RowID_api_RowID_V4 : LL ty (List RowID × List RowID × Int × Int × Unit) := llCons (lSl 30) (llCons (lSl 30) (llCons (lInt .i64) (llCons (lInt .i64) llNil)))
noncomputable def slices_Equal_Lapi_RowID_api_RowID_B4 : BL ty (Unit) := bNil
noncomputable def slices_Equal_Lapi_RowID_api_RowID_sp4 : LSpec ty := mkLoop slices_Equal_Lapi_RowID_api_RowID_V4 slices_Equal_Lapi_RowID_api_RowID_B4 fun x y => ((slices_Equal_Lapi_RowID_api_RowID_L4 (x.1.length + x.2.1.length + Int.toNat x.2.2.1 + Int.toNat x.2.2.2.1 + 1) x.1 x.2.1 x.2.2.1 x.2.2.2.1).1, slices_Equal_Lapi_RowID_api_RowID_tr4 (slices_Equal_Lapi_RowID_api_RowID_L4 (x.1.length + x.2.1.length + Int.toNat x.2.2.1 + Int.toNat x.2.2.2.1 + 1) x.1 x.2.1 x.2.2.1 x.2.2.2.1).2)
noncomputable def slices_Equal_Lapi_RowID_api_RowID_cx : Cx ty := { base with nt := 26, spec := fun g => List.lookup g [], io := fun g => (List.lookup g []).getD [], head := fun i => (List.lookup i [(4, [(0, .keep), (1, .keep), (12, .keep), (13, .keep)])]).getD [], out := outOf [(4, 1, []), (4, 0, [(4, .keep)])], loops := fun i => List.lookup i [(4, slices_Equal_Lapi_RowID_api_RowID_sp4)] }
theorem slices_Equal_Lapi_RowID_api_RowID_round4 {R : Type} (H : List (AV ty) → List (Blk ty) → Option R) (K : Ex → List (AV ty) → List (Blk ty) → Option R) (s1 : List RowID) (s2 : List RowID) (t12 : Int) (t13 : Int) : roundK slices_Equal_Lapi_RowID_api_RowID_cx (lp (body Tryz.f31) 0) H K [.sl 30 s1, .sl 30 s2, .lit (.int .i64 t12), .lit (.int .i64 t13)] [] = bif decide (t13 < t12) then bif decide ((0 : Int) ≤ t13) && decide (t13 < Int.ofNat s1.length) then bif decide ((0 : Int) ≤ t13) && decide (t13 < Int.ofNat s2.length) then bif !((s1.getD t13.toNat default).Table == (s2.getD t13.toNat default).Table && ((s1.getD t13.toNat default).Seq == (s2.getD t13.toNat default).Seq && true)) then K .ret [.lit (.bool false)] [] else H [.sl 30 s1, .sl 30 s2, .lit (.int .i64 t12), .lit (.int .i64 (IntKind.i64.wrap (t13 + (1 : Int))))] [] else none else none else K (.exit 0) [] [] := by kernel_rfl
theorem slices_Equal_Lapi_RowID_api_RowID_loop4 (R : Type) (K : Ex → List (AV ty) → List (Blk ty) → Option R) : ∀ (n : Nat) (s1 : List RowID) (s2 : List RowID) (t12 : Int) (t13 : Int), loopI slices_Equal_Lapi_RowID_api_RowID_cx (lp (body Tryz.f31) 0) K n [.sl 30 s1, .sl 30 s2, .lit (.int .i64 t12), .lit (.int .i64 t13)] [] = out (fun r => treeK K (slices_Equal_Lapi_RowID_api_RowID_tr4 r)) (slices_Equal_Lapi_RowID_api_RowID_L4 n s1 s2 t12 t13)
  | 0, _, _, _, _ => rfl
  | n + 1, s1, s2, t12, t13 => by
    have ih := slices_Equal_Lapi_RowID_api_RowID_loop4 R K n
    rw [slices_Equal_Lapi_RowID_api_RowID_L4]
    exact (slices_Equal_Lapi_RowID_api_RowID_round4 (loopI slices_Equal_Lapi_RowID_api_RowID_cx (lp (body Tryz.f31) 0) K n) K s1 s2 t12 t13).trans (out_ite (out_ite (out_ite (out_ite (rfl) (ih s1 s2 t12 (IntKind.i64.wrap (t13 + (1 : Int))))) (rfl)) (rfl)) (rfl))
theorem slices_Equal_Lapi_RowID_api_RowID_to4 : LoopOK slices_Equal_Lapi_RowID_api_RowID_cx (lp (body Tryz.f31) 0) := loopOK_of (id := 4) (sp := slices_Equal_Lapi_RowID_api_RowID_sp4) (by kernel_rfl) (by kernel_rfl) (loopTo_of (V := slices_Equal_Lapi_RowID_api_RowID_V4) (B := slices_Equal_Lapi_RowID_api_RowID_B4) (L := fun n x y => slices_Equal_Lapi_RowID_api_RowID_L4 n x.1 x.2.1 x.2.2.1 x.2.2.2.1) (tr := slices_Equal_Lapi_RowID_api_RowID_tr4) (m := fun x y => x.1.length + x.2.1.length + Int.toNat x.2.2.1 + Int.toNat x.2.2.2.1 + 1) fun R K n x y => slices_Equal_Lapi_RowID_api_RowID_loop4 R K n x.1 x.2.1 x.2.2.1 x.2.2.2.1)
noncomputable def slices_Equal_Lapi_RowID_api_RowID (s1 : List RowID) (s2 : List RowID) : Bool × Bool := bif Int.ofNat s1.length != Int.ofNat s2.length then (true, false) else bnd (slices_Equal_Lapi_RowID_api_RowID_L4 (s1.length + s2.length + (Int.ofNat s1.length).toNat + Int.toNat (0 : Int) + (1 : Nat)) s1 s2 (Int.ofNat s1.length) (0 : Int)) (fun r0 => bif isL r0 then (true, getL r0) else (true, true)) (false, default)
noncomputable def slices_Equal_Lapi_RowID_api_RowID_res (r : Bool) : ARes ty := ⟨[.pure (.lit (.bool r))], []⟩
theorem slices_Equal_Lapi_RowID_api_RowID_run (s1 : List RowID) (s2 : List RowID) : runFn slices_Equal_Lapi_RowID_api_RowID_cx Tryz.f31 (body Tryz.f31) ⟨[.pure], []⟩ [.pure (.sl 30 s1), .pure (.sl 30 s2)] = out (fun r => some (slices_Equal_Lapi_RowID_api_RowID_res r)) (slices_Equal_Lapi_RowID_api_RowID s1 s2) := by
  have h : runFn slices_Equal_Lapi_RowID_api_RowID_cx Tryz.f31 (body Tryz.f31) ⟨[.pure], []⟩ [.pure (.sl 30 s1), .pure (.sl 30 s2)] = bif Int.ofNat s1.length != Int.ofNat s2.length then some ⟨[.pure (.lit (.bool false))], []⟩ else obnd (slices_Equal_Lapi_RowID_api_RowID_L4 (s1.length + s2.length + (Int.ofNat s1.length).toNat + Int.toNat (0 : Int) + (1 : Nat)) s1 s2 (Int.ofNat s1.length) (0 : Int)) (fun r1 => bif isL r1 then some ⟨[.pure (.lit (.bool (getL r1)))], []⟩ else some ⟨[.pure (.lit (.bool true))], []⟩) := by kernel_rfl
  rw [slices_Equal_Lapi_RowID_api_RowID]
  exact h.trans (out_ite (rfl) (out_ite (out_ite (rfl) (rfl)) (rfl)))
noncomputable def slices_Equal_Lapi_RowID_api_RowID_A : AL base (List RowID × List RowID × Unit) := aCons (aPure (vSl 30)) (aCons (aPure (vSl 30)) aNil)
noncomputable def slices_Equal_Lapi_RowID_api_RowID_spec : Ab.Spec ty := mkSpec slices_Equal_Lapi_RowID_api_RowID_A fun x => ((slices_Equal_Lapi_RowID_api_RowID x.1 x.2.1).1, slices_Equal_Lapi_RowID_api_RowID_res (slices_Equal_Lapi_RowID_api_RowID x.1 x.2.1).2)
theorem slices_Equal_Lapi_RowID_api_RowID_sound : Sound Tryz.prog base 31 slices_Equal_Lapi_RowID_api_RowID_spec :=
  sound_of_run (cx' := slices_Equal_Lapi_RowID_api_RowID_cx) draws base_ok ⟨⟨rfl, rfl, rfl, rfl, rfl, rfl⟩, rfl⟩ (spec_of [] trivial) Tryz.call31 Tryz.func31 (c := body Tryz.f31) (by kernel_rfl) (loopsOK_of (l := [lp (body Tryz.f31) 0]) (by kernel_rfl) ⟨slices_Equal_Lapi_RowID_api_RowID_to4, trivial⟩) (sg := ⟨[.pure], []⟩) (A := slices_Equal_Lapi_RowID_api_RowID_A) (res := slices_Equal_Lapi_RowID_api_RowID_res) (F := fun x => slices_Equal_Lapi_RowID_api_RowID x.1 x.2.1) (fun x => slices_Equal_Lapi_RowID_api_RowID_run x.1 x.2.1) (fun _ => by kernel_rfl) (by kernel_rfl)
end Go.Proofs.YteopikhooiallaaGreatDoor
/- Functions of the program as plain functions, with their contracts. Printed by program. -/
set_option autoImplicit false
set_option linter.unusedVariables false
set_option linter.unusedSimpArgs false
namespace Go.Proofs.YteopikhooiallaaGreatDoor
open Go Go.Ab
/-! ### lineage/rowset.Family literal 1 -/
noncomputable def rowset_Family_c1_cx : Cx ty := { base with nt := 8, spec := fun g => List.lookup g [(31, slices_Equal_Lapi_RowID_api_RowID_spec)], io := fun g => (List.lookup g []).getD [], head := fun i => (List.lookup i []).getD [], out := outOf [], loops := fun i => List.lookup i [] }
noncomputable def rowset_Family_c1 (a : List RowID) (b : List RowID) : Bool × Bool := bnd (slices_Equal_Lapi_RowID_api_RowID a b) (fun r0 => (true, r0)) (false, default)
noncomputable def rowset_Family_c1_res (r : Bool) : ARes ty := ⟨[.pure (.lit (.bool r))], []⟩
theorem rowset_Family_c1_run (a : List RowID) (b : List RowID) : runFn rowset_Family_c1_cx Tryz.f30 (body Tryz.f30) ⟨[.pure], []⟩ [.pure (.sl 30 a), .pure (.sl 30 b)] = out (fun r => some (rowset_Family_c1_res r)) (rowset_Family_c1 a b) := by
  have h : runFn rowset_Family_c1_cx Tryz.f30 (body Tryz.f30) ⟨[.pure], []⟩ [.pure (.sl 30 a), .pure (.sl 30 b)] = obnd (slices_Equal_Lapi_RowID_api_RowID a b) (fun r1 => some ⟨[.pure (.lit (.bool (r1)))], []⟩) := by kernel_rfl
  rw [rowset_Family_c1]
  exact h.trans (out_ite (rfl) (rfl))
noncomputable def rowset_Family_c1_A : AL base (List RowID × List RowID × Unit) := aCons (aPure (vSl 30)) (aCons (aPure (vSl 30)) aNil)
noncomputable def rowset_Family_c1_spec : Ab.Spec ty := mkSpec rowset_Family_c1_A fun x => ((rowset_Family_c1 x.1 x.2.1).1, rowset_Family_c1_res (rowset_Family_c1 x.1 x.2.1).2)
theorem rowset_Family_c1_sound : Sound Tryz.prog base 30 rowset_Family_c1_spec :=
  sound_of_run (cx' := rowset_Family_c1_cx) draws base_ok ⟨⟨rfl, rfl, rfl, rfl, rfl, rfl⟩, rfl⟩ (spec_of [(31, slices_Equal_Lapi_RowID_api_RowID_spec)] ⟨(slices_Equal_Lapi_RowID_api_RowID_sound), trivial⟩) Tryz.call30 Tryz.func30 (c := body Tryz.f30) (by kernel_rfl) (loopsOK_of (l := []) (by kernel_rfl) trivial) (sg := ⟨[.pure], []⟩) (A := rowset_Family_c1_A) (res := rowset_Family_c1_res) (F := fun x => rowset_Family_c1 x.1 x.2.1) (fun x => rowset_Family_c1_run x.1 x.2.1) (fun _ => by kernel_rfl) (by kernel_rfl)
end Go.Proofs.YteopikhooiallaaGreatDoor
/- Functions of the program as plain functions, with their contracts. Printed by program. -/
set_option autoImplicit false
set_option linter.unusedVariables false
set_option linter.unusedSimpArgs false
namespace Go.Proofs.YteopikhooiallaaGreatDoor
open Go Go.Ab
/-! ### slices.CompareFunc[[]lineage/api.RowID,[]lineage/api.RowID,lineage/api.RowID,lineage/api.RowID] -/
noncomputable def slices_CompareFunc_Lapi_RowID_Lapi_RowID_api_RowID_api_RowID_L2 : Nat → List RowID → List RowID → List RowID → Int → Int → Bool × (Int ⊕ (List RowID × List RowID))
  | 0, _, _, _, _, _ => (false, .inl default)
  | n + 1, s1, s2, t11, t12, t13 => bif decide (t13 < t12) then bif decide ((0 : Int) ≤ t13) && decide (t13 < Int.ofNat t11.length) then bif decide (t13 ≥ Int.ofNat s2.length) then (true, .inl (1 : Int)) else bif decide ((0 : Int) ≤ t13) && decide (t13 < Int.ofNat s2.length) then bnd (rowset_Compare (t11.getD t13.toNat default) (s2.getD t13.toNat default)) (fun r0 => bif r0 != (0 : Int) then (true, .inl (r0)) else slices_CompareFunc_Lapi_RowID_Lapi_RowID_api_RowID_api_RowID_L2 n s1 s2 t11 t12 (IntKind.i64.wrap (t13 + (1 : Int)))) (false, .inl default) else (false, .inl default) else (false, .inl default) else (true, .inr (s1, s2))
noncomputable def slices_CompareFunc_Lapi_RowID_Lapi_RowID_api_RowID_api_RowID_tr2 (r : Int ⊕ (List RowID × List RowID)) : LTree ty := .ite (isL r) (.done .ret [.lit (.int .i64 (getL r))] []) (.done (.exit 0) [.sl 30 ((getR r).1), .sl 30 ((getR r).2)] [])
noncomputable def slices_CompareFunc_Lapi_RowID_Lapi_RowID_api_RowID_api_RowID_V2 : LL ty (List RowID × List RowID × Unit × List RowID × Int × Int × Unit) := llCons (lSl 30) (llCons (lSl 30) (llCons (lFn 19 (llNil)) (llCons (lSl 30) (llCons (lInt .i64) (llCons (lInt .i64) llNil)))))
noncomputable def slices_CompareFunc_Lapi_RowID_Lapi_RowID_api_RowID_api_RowID_B2 : BL ty (Unit) := bNil
noncomputable def slices_CompareFunc_Lapi_RowID_Lapi_RowID_api_RowID_api_RowID_sp2 : LSpec ty := mkLoop slices_CompareFunc_Lapi_RowID_Lapi_RowID_api_RowID_api_RowID_V2 slices_CompareFunc_Lapi_RowID_Lapi_RowID_api_RowID_api_RowID_B2 fun x y => ((slices_CompareFunc_Lapi_RowID_Lapi_RowID_api_RowID_api_RowID_L2 (x.1.length + x.2.1.length + x.2.2.2.1.length + Int.toNat x.2.2.2.2.1 + Int.toNat x.2.2.2.2.2.1 + 1) x.1 x.2.1 x.2.2.2.1 x.2.2.2.2.1 x.2.2.2.2.2.1).1, slices_CompareFunc_Lapi_RowID_Lapi_RowID_api_RowID_api_RowID_tr2 (slices_CompareFunc_Lapi_RowID_Lapi_RowID_api_RowID_api_RowID_L2 (x.1.length + x.2.1.length + x.2.2.2.1.length + Int.toNat x.2.2.2.2.1 + Int.toNat x.2.2.2.2.2.1 + 1) x.1 x.2.1 x.2.2.2.1 x.2.2.2.2.1 x.2.2.2.2.2.1).2)
noncomputable def slices_CompareFunc_Lapi_RowID_Lapi_RowID_api_RowID_api_RowID_cx : Cx ty := { base with nt := 39, spec := fun g => List.lookup g [(19, rowset_Compare_spec)], io := fun g => (List.lookup g []).getD [], head := fun i => (List.lookup i [(2, [(0, .keep), (1, .keep), (2, .keep), (11, .keep), (12, .keep), (13, .keep)])]).getD [], out := outOf [(2, 1, [(0, .keep), (1, .keep)]), (2, 0, [(6, .keep)])], loops := fun i => List.lookup i [(2, slices_CompareFunc_Lapi_RowID_Lapi_RowID_api_RowID_api_RowID_sp2)] }
theorem slices_CompareFunc_Lapi_RowID_Lapi_RowID_api_RowID_api_RowID_round2 {R : Type} (H : List (AV ty) → List (Blk ty) → Option R) (K : Ex → List (AV ty) → List (Blk ty) → Option R) (s1 : List RowID) (s2 : List RowID) (t11 : List RowID) (t12 : Int) (t13 : Int) : roundK slices_CompareFunc_Lapi_RowID_Lapi_RowID_api_RowID_api_RowID_cx (lp (body Tryz.f55) 0) H K [.sl 30 s1, .sl 30 s2, .fn 19 ([]), .sl 30 t11, .lit (.int .i64 t12), .lit (.int .i64 t13)] [] = bif decide (t13 < t12) then bif decide ((0 : Int) ≤ t13) && decide (t13 < Int.ofNat t11.length) then bif decide (t13 ≥ Int.ofNat s2.length) then K .ret [.lit (.int .i64 (1 : Int))] [] else bif decide ((0 : Int) ≤ t13) && decide (t13 < Int.ofNat s2.length) then obnd (rowset_Compare (t11.getD t13.toNat default) (s2.getD t13.toNat default)) (fun r1 => bif r1 != (0 : Int) then K .ret [.lit (.int .i64 (r1))] [] else H [.sl 30 s1, .sl 30 s2, .fn 19 ([]), .sl 30 t11, .lit (.int .i64 t12), .lit (.int .i64 (IntKind.i64.wrap (t13 + (1 : Int))))] []) else none else none else K (.exit 0) [.sl 30 s1, .sl 30 s2] [] := by kernel_rfl
theorem slices_CompareFunc_Lapi_RowID_Lapi_RowID_api_RowID_api_RowID_loop2 (R : Type) (K : Ex → List (AV ty) → List (Blk ty) → Option R) : ∀ (n : Nat) (s1 : List RowID) (s2 : List RowID) (t11 : List RowID) (t12 : Int) (t13 : Int), loopI slices_CompareFunc_Lapi_RowID_Lapi_RowID_api_RowID_api_RowID_cx (lp (body Tryz.f55) 0) K n [.sl 30 s1, .sl 30 s2, .fn 19 ([]), .sl 30 t11, .lit (.int .i64 t12), .lit (.int .i64 t13)] [] = out (fun r => treeK K (slices_CompareFunc_Lapi_RowID_Lapi_RowID_api_RowID_api_RowID_tr2 r)) (slices_CompareFunc_Lapi_RowID_Lapi_RowID_api_RowID_api_RowID_L2 n s1 s2 t11 t12 t13)
  | 0, _, _, _, _, _ => rfl
  | n + 1, s1, s2, t11, t12, t13 => by
    have ih := slices_CompareFunc_Lapi_RowID_Lapi_RowID_api_RowID_api_RowID_loop2 R K n
    rw [slices_CompareFunc_Lapi_RowID_Lapi_RowID_api_RowID_api_RowID_L2]
    exact (slices_CompareFunc_Lapi_RowID_Lapi_RowID_api_RowID_api_RowID_round2 (loopI slices_CompareFunc_Lapi_RowID_Lapi_RowID_api_RowID_api_RowID_cx (lp (body Tryz.f55) 0) K n) K s1 s2 t11 t12 t13).trans (out_ite (out_ite (out_ite (rfl) (out_ite (out_ite (out_ite (rfl) (ih s1 s2 t11 t12 (IntKind.i64.wrap (t13 + (1 : Int))))) (rfl)) (rfl))) (rfl)) (rfl))
theorem slices_CompareFunc_Lapi_RowID_Lapi_RowID_api_RowID_api_RowID_to2 : LoopOK slices_CompareFunc_Lapi_RowID_Lapi_RowID_api_RowID_api_RowID_cx (lp (body Tryz.f55) 0) := loopOK_of (id := 2) (sp := slices_CompareFunc_Lapi_RowID_Lapi_RowID_api_RowID_api_RowID_sp2) (by kernel_rfl) (by kernel_rfl) (loopTo_of (V := slices_CompareFunc_Lapi_RowID_Lapi_RowID_api_RowID_api_RowID_V2) (B := slices_CompareFunc_Lapi_RowID_Lapi_RowID_api_RowID_api_RowID_B2) (L := fun n x y => slices_CompareFunc_Lapi_RowID_Lapi_RowID_api_RowID_api_RowID_L2 n x.1 x.2.1 x.2.2.2.1 x.2.2.2.2.1 x.2.2.2.2.2.1) (tr := slices_CompareFunc_Lapi_RowID_Lapi_RowID_api_RowID_api_RowID_tr2) (m := fun x y => x.1.length + x.2.1.length + x.2.2.2.1.length + Int.toNat x.2.2.2.2.1 + Int.toNat x.2.2.2.2.2.1 + 1) fun R K n x y => slices_CompareFunc_Lapi_RowID_Lapi_RowID_api_RowID_api_RowID_loop2 R K n x.1 x.2.1 x.2.2.2.1 x.2.2.2.2.1 x.2.2.2.2.2.1)
noncomputable def slices_CompareFunc_Lapi_RowID_Lapi_RowID_api_RowID_api_RowID (s1 : List RowID) (s2 : List RowID) : Bool × Int := bnd (slices_CompareFunc_Lapi_RowID_Lapi_RowID_api_RowID_api_RowID_L2 (s1.length + s2.length + s1.length + (Int.ofNat s1.length).toNat + Int.toNat (0 : Int) + (1 : Nat)) s1 s2 s1 (Int.ofNat s1.length) (0 : Int)) (fun r2 => bif isL r2 then (true, getL r2) else bif decide (Int.ofNat (getR r2).fst.length < Int.ofNat (getR r2).snd.length) then (true, (-1 : Int)) else (true, (0 : Int))) (false, default)
noncomputable def slices_CompareFunc_Lapi_RowID_Lapi_RowID_api_RowID_api_RowID_res (r : Int) : ARes ty := ⟨[.pure (.lit (.int .i64 r))], []⟩
theorem slices_CompareFunc_Lapi_RowID_Lapi_RowID_api_RowID_api_RowID_run (s1 : List RowID) (s2 : List RowID) : runFn slices_CompareFunc_Lapi_RowID_Lapi_RowID_api_RowID_api_RowID_cx Tryz.f55 (body Tryz.f55) ⟨[.pure], []⟩ [.pure (.sl 30 s1), .pure (.sl 30 s2), .pure (.fn 19 [])] = out (fun r => some (slices_CompareFunc_Lapi_RowID_Lapi_RowID_api_RowID_api_RowID_res r)) (slices_CompareFunc_Lapi_RowID_Lapi_RowID_api_RowID_api_RowID s1 s2) := by
  have h : runFn slices_CompareFunc_Lapi_RowID_Lapi_RowID_api_RowID_api_RowID_cx Tryz.f55 (body Tryz.f55) ⟨[.pure], []⟩ [.pure (.sl 30 s1), .pure (.sl 30 s2), .pure (.fn 19 [])] = obnd (slices_CompareFunc_Lapi_RowID_Lapi_RowID_api_RowID_api_RowID_L2 (s1.length + s2.length + s1.length + (Int.ofNat s1.length).toNat + Int.toNat (0 : Int) + (1 : Nat)) s1 s2 s1 (Int.ofNat s1.length) (0 : Int)) (fun r3 => bif isL r3 then some ⟨[.pure (.lit (.int .i64 (getL r3)))], []⟩ else bif decide (Int.ofNat (getR r3).fst.length < Int.ofNat (getR r3).snd.length) then some ⟨[.pure (.lit (.int .i64 (-1 : Int)))], []⟩ else some ⟨[.pure (.lit (.int .i64 (0 : Int)))], []⟩) := by kernel_rfl
  rw [slices_CompareFunc_Lapi_RowID_Lapi_RowID_api_RowID_api_RowID]
  exact h.trans (out_ite (out_ite (rfl) (out_ite (rfl) (rfl))) (rfl))
noncomputable def slices_CompareFunc_Lapi_RowID_Lapi_RowID_api_RowID_api_RowID_A : AL base (List RowID × List RowID × Unit × Unit) := aCons (aPure (vSl 30)) (aCons (aPure (vSl 30)) (aCons (aPure (vFn 19 vNil)) aNil))
noncomputable def slices_CompareFunc_Lapi_RowID_Lapi_RowID_api_RowID_api_RowID_spec : Ab.Spec ty := mkSpec slices_CompareFunc_Lapi_RowID_Lapi_RowID_api_RowID_api_RowID_A fun x => ((slices_CompareFunc_Lapi_RowID_Lapi_RowID_api_RowID_api_RowID x.1 x.2.1).1, slices_CompareFunc_Lapi_RowID_Lapi_RowID_api_RowID_api_RowID_res (slices_CompareFunc_Lapi_RowID_Lapi_RowID_api_RowID_api_RowID x.1 x.2.1).2)
theorem slices_CompareFunc_Lapi_RowID_Lapi_RowID_api_RowID_api_RowID_sound : Sound Tryz.prog base 55 slices_CompareFunc_Lapi_RowID_Lapi_RowID_api_RowID_api_RowID_spec :=
  sound_of_run (cx' := slices_CompareFunc_Lapi_RowID_Lapi_RowID_api_RowID_api_RowID_cx) draws base_ok ⟨⟨rfl, rfl, rfl, rfl, rfl, rfl⟩, rfl⟩ (spec_of [(19, rowset_Compare_spec)] ⟨(rowset_Compare_sound), trivial⟩) Tryz.call55 Tryz.func55 (c := body Tryz.f55) (by kernel_rfl) (loopsOK_of (l := [lp (body Tryz.f55) 0]) (by kernel_rfl) ⟨slices_CompareFunc_Lapi_RowID_Lapi_RowID_api_RowID_api_RowID_to2, trivial⟩) (sg := ⟨[.pure], []⟩) (A := slices_CompareFunc_Lapi_RowID_Lapi_RowID_api_RowID_api_RowID_A) (res := slices_CompareFunc_Lapi_RowID_Lapi_RowID_api_RowID_api_RowID_res) (F := fun x => slices_CompareFunc_Lapi_RowID_Lapi_RowID_api_RowID_api_RowID x.1 x.2.1) (fun x => slices_CompareFunc_Lapi_RowID_Lapi_RowID_api_RowID_api_RowID_run x.1 x.2.1) (fun _ => by kernel_rfl) (by kernel_rfl)
end Go.Proofs.YteopikhooiallaaGreatDoor
/- Functions of the program as plain functions, with their contracts. Printed by program. -/
set_option autoImplicit false
set_option linter.unusedVariables false
set_option linter.unusedSimpArgs false
namespace Go.Proofs.YteopikhooiallaaGreatDoor
open Go Go.Ab
/-! ### lineage/rowset.compareSets -/
noncomputable def rowset_compareSets_cx : Cx ty := { base with nt := 8, spec := fun g => List.lookup g [(19, rowset_Compare_spec), (55, slices_CompareFunc_Lapi_RowID_Lapi_RowID_api_RowID_api_RowID_spec)], io := fun g => (List.lookup g []).getD [], head := fun i => (List.lookup i []).getD [], out := outOf [], loops := fun i => List.lookup i [] }
noncomputable def rowset_compareSets (a : List RowID) (b : List RowID) : Bool × Int := bnd (slices_CompareFunc_Lapi_RowID_Lapi_RowID_api_RowID_api_RowID a b) (fun r0 => (true, r0)) (false, default)
noncomputable def rowset_compareSets_res (r : Int) : ARes ty := ⟨[.pure (.lit (.int .i64 r))], []⟩
theorem rowset_compareSets_run (a : List RowID) (b : List RowID) : runFn rowset_compareSets_cx Tryz.f28 (body Tryz.f28) ⟨[.pure], []⟩ [.pure (.sl 30 a), .pure (.sl 30 b)] = out (fun r => some (rowset_compareSets_res r)) (rowset_compareSets a b) := by
  have h : runFn rowset_compareSets_cx Tryz.f28 (body Tryz.f28) ⟨[.pure], []⟩ [.pure (.sl 30 a), .pure (.sl 30 b)] = obnd (slices_CompareFunc_Lapi_RowID_Lapi_RowID_api_RowID_api_RowID a b) (fun r1 => some ⟨[.pure (.lit (.int .i64 (r1)))], []⟩) := by kernel_rfl
  rw [rowset_compareSets]
  exact h.trans (out_ite (rfl) (rfl))
noncomputable def rowset_compareSets_A : AL base (List RowID × List RowID × Unit) := aCons (aPure (vSl 30)) (aCons (aPure (vSl 30)) aNil)
noncomputable def rowset_compareSets_spec : Ab.Spec ty := mkSpec rowset_compareSets_A fun x => ((rowset_compareSets x.1 x.2.1).1, rowset_compareSets_res (rowset_compareSets x.1 x.2.1).2)
theorem rowset_compareSets_sound : Sound Tryz.prog base 28 rowset_compareSets_spec :=
  sound_of_run (cx' := rowset_compareSets_cx) draws base_ok ⟨⟨rfl, rfl, rfl, rfl, rfl, rfl⟩, rfl⟩ (spec_of [(19, rowset_Compare_spec), (55, slices_CompareFunc_Lapi_RowID_Lapi_RowID_api_RowID_api_RowID_spec)] ⟨(rowset_Compare_sound), (slices_CompareFunc_Lapi_RowID_Lapi_RowID_api_RowID_api_RowID_sound), trivial⟩) Tryz.call28 Tryz.func28 (c := body Tryz.f28) (by kernel_rfl) (loopsOK_of (l := []) (by kernel_rfl) trivial) (sg := ⟨[.pure], []⟩) (A := rowset_compareSets_A) (res := rowset_compareSets_res) (F := fun x => rowset_compareSets x.1 x.2.1) (fun x => rowset_compareSets_run x.1 x.2.1) (fun _ => by kernel_rfl) (by kernel_rfl)
end Go.Proofs.YteopikhooiallaaGreatDoor
/- Functions of the program as plain functions, with their contracts. Printed by program. -/
set_option autoImplicit false
set_option linter.unusedVariables false
set_option linter.unusedSimpArgs false
namespace Go.Proofs.YteopikhooiallaaGreatDoor
open Go Go.Ab
/-! ### slices.CompactFunc[[][]lineage/api.RowID,[]lineage/api.RowID] -/
noncomputable def slices_CompactFunc_LLapi_RowID_Lapi_RowID_L9 : Nat → Int → Nat → Nat → Int → List (List RowID) → Bool × (Int × List (List RowID))
  | 0, _, _, _, _, _ => (false, default)
  | n + 1, k, s2_0, s2_1, k2, s => bif decide (k2 < Int.ofNat s2_1) then bif decide ((0 : Int) ≤ k2) && decide (k2 < Int.ofNat s2_1) then bif decide ((0 : Int) ≤ IntKind.i64.wrap (k2 - (1 : Int))) && decide (IntKind.i64.wrap (k2 - (1 : Int)) < Int.ofNat s2_1) then bnd (rowset_Family_c1 (s.getD (s2_0 + k2.toNat) default) (s.getD (s2_0 + (IntKind.i64.wrap (k2 - (1 : Int))).toNat) default)) (fun r0 => bif !r0 then bif decide ((0 : Int) ≤ k2) && decide (k2 < Int.ofNat s2_1) then bif decide ((0 : Int) ≤ k) && decide (k < Int.ofNat s.length) then bif decide (k.toNat < s.length) then slices_CompactFunc_LLapi_RowID_Lapi_RowID_L9 n (IntKind.i64.wrap (k + (1 : Int))) s2_0 s2_1 (IntKind.i64.wrap (k2 + (1 : Int))) (s.set k.toNat (s.getD (s2_0 + k2.toNat) default)) else (false, default) else (false, default) else (false, default) else slices_CompactFunc_LLapi_RowID_Lapi_RowID_L9 n k s2_0 s2_1 (IntKind.i64.wrap (k2 + (1 : Int))) s) (false, default) else (false, default) else (false, default) else (true, (k, s))
noncomputable def slices_CompactFunc_LLapi_RowID_Lapi_RowID_tr9 (r : Int × List (List RowID)) : LTree ty := .done (.exit 2) [.own 264, .lit (.int .i64 r.1)] [.arr 31 r.2 false]
noncomputable def slices_CompactFunc_LLapi_RowID_Lapi_RowID_V9 : LL ty (Unit × Unit × Int × (Nat × Nat) × Int × Unit) := llCons (lOwn 264) (llCons (lFn 30 (llNil)) (llCons (lInt .i64) (llCons (lSub 264) (llCons (lInt .i64) llNil))))
noncomputable def slices_CompactFunc_LLapi_RowID_Lapi_RowID_B9 : BL ty (List (List RowID) × Unit) := bArr 31 false (bNil)
noncomputable def slices_CompactFunc_LLapi_RowID_Lapi_RowID_sp9 : LSpec ty := mkLoop slices_CompactFunc_LLapi_RowID_Lapi_RowID_V9 slices_CompactFunc_LLapi_RowID_Lapi_RowID_B9 fun x y => ((slices_CompactFunc_LLapi_RowID_Lapi_RowID_L9 (Int.toNat x.2.2.1 + x.2.2.2.1.1 + x.2.2.2.1.2 + Int.toNat x.2.2.2.2.1 + y.1.length + 1) x.2.2.1 x.2.2.2.1.1 x.2.2.2.1.2 x.2.2.2.2.1 y.1).1, slices_CompactFunc_LLapi_RowID_Lapi_RowID_tr9 (slices_CompactFunc_LLapi_RowID_Lapi_RowID_L9 (Int.toNat x.2.2.1 + x.2.2.2.1.1 + x.2.2.2.1.2 + Int.toNat x.2.2.2.2.1 + y.1.length + 1) x.2.2.1 x.2.2.2.1.1 x.2.2.2.1.2 x.2.2.2.2.1 y.1).2)
noncomputable def slices_CompactFunc_LLapi_RowID_Lapi_RowID_L4 : Nat → Int → List (List RowID) → Bool × ((Nat × List (List RowID)) ⊕ List (List RowID))
  | 0, _, _ => (false, .inl default)
  | n + 1, k, s => bif decide (k < Int.ofNat s.length) then bif decide ((0 : Int) ≤ k) && decide (k < Int.ofNat s.length) then bif decide ((0 : Int) ≤ IntKind.i64.wrap (k - (1 : Int))) && decide (IntKind.i64.wrap (k - (1 : Int)) < Int.ofNat s.length) then bnd (rowset_Family_c1 (s.getD k.toNat default) (s.getD (IntKind.i64.wrap (k - (1 : Int))).toNat default)) (fun r3 => bif r3 then bif decide ((0 : Int) ≤ k) && decide (k ≤ Int.ofNat s.length) && decide (Int.ofNat s.length ≤ Int.ofNat s.length) then bnd (slices_CompactFunc_LLapi_RowID_Lapi_RowID_L9 (k.toNat + k.toNat + ((Int.ofNat s.length).toNat - k.toNat) + Int.toNat (1 : Int) + s.length + (1 : Nat)) k k.toNat ((Int.ofNat s.length).toNat - k.toNat) (1 : Int) s) (fun r2 => bif decide ((0 : Int) ≤ r2.fst) && decide (r2.fst ≤ Int.ofNat r2.snd.length) && decide (Int.ofNat r2.snd.length ≤ Int.ofNat r2.snd.length) then bif decide (r2.fst.toNat + ((Int.ofNat r2.snd.length).toNat - r2.fst.toNat) ≤ r2.snd.length) then bif decide ((0 : Int) ≤ (0 : Int)) && decide ((0 : Int) ≤ r2.fst) && decide (r2.fst ≤ Int.ofNat (List.take r2.fst.toNat r2.snd ++ List.replicate ((Int.ofNat r2.snd.length).toNat - r2.fst.toNat) [] ++ List.drop (r2.fst.toNat + ((Int.ofNat r2.snd.length).toNat - r2.fst.toNat)) r2.snd).length) then (true, .inl (r2.fst.toNat - Int.toNat (0 : Int), List.take r2.fst.toNat r2.snd ++ List.replicate ((Int.ofNat r2.snd.length).toNat - r2.fst.toNat) [] ++ List.drop (r2.fst.toNat + ((Int.ofNat r2.snd.length).toNat - r2.fst.toNat)) r2.snd)) else (false, .inl default) else (false, .inl default) else (false, .inl default)) (false, .inl default) else (false, .inl default) else slices_CompactFunc_LLapi_RowID_Lapi_RowID_L4 n (IntKind.i64.wrap (k + (1 : Int))) s) (false, .inl default) else (false, .inl default) else (false, .inl default) else (true, .inr s)
noncomputable def slices_CompactFunc_LLapi_RowID_Lapi_RowID_tr4 (r : (Nat × List (List RowID)) ⊕ List (List RowID)) : LTree ty := .ite (isL r) (.done .ret [.sub 264 0 ((getL r).1)] [.arr 31 ((getL r).2) false]) (.done (.exit 0) [.own 264] [.arr 31 (getR r) false])
noncomputable def slices_CompactFunc_LLapi_RowID_Lapi_RowID_V4 : LL ty (Unit × Unit × Int × Unit) := llCons (lOwn 264) (llCons (lFn 30 (llNil)) (llCons (lInt .i64) llNil))
noncomputable def slices_CompactFunc_LLapi_RowID_Lapi_RowID_B4 : BL ty (List (List RowID) × Unit) := bArr 31 false (bNil)
noncomputable def slices_CompactFunc_LLapi_RowID_Lapi_RowID_sp4 : LSpec ty := mkLoop slices_CompactFunc_LLapi_RowID_Lapi_RowID_V4 slices_CompactFunc_LLapi_RowID_Lapi_RowID_B4 fun x y => ((slices_CompactFunc_LLapi_RowID_Lapi_RowID_L4 (Int.toNat x.2.2.1 + y.1.length + 1) x.2.2.1 y.1).1, slices_CompactFunc_LLapi_RowID_Lapi_RowID_tr4 (slices_CompactFunc_LLapi_RowID_Lapi_RowID_L4 (Int.toNat x.2.2.1 + y.1.length + 1) x.2.2.1 y.1).2)
noncomputable def slices_CompactFunc_LLapi_RowID_Lapi_RowID_cx : Cx ty := { base with nt := 66, spec := fun g => List.lookup g [(30, rowset_Family_c1_spec)], io := fun g => (List.lookup g []).getD [], head := fun i => (List.lookup i [(4, [(0, .keep), (1, .keep), (5, .keep)]), (9, [(0, .keep), (1, .keep), (5, .keep), (6, .keep), (7, .keep)])]).getD [], out := outOf [(4, 1, [(0, .keep)]), (4, 0, [(4, .keep)]), (9, 3, [(0, .keep), (5, .keep)])], loops := fun i => List.lookup i [(9, slices_CompactFunc_LLapi_RowID_Lapi_RowID_sp9), (4, slices_CompactFunc_LLapi_RowID_Lapi_RowID_sp4)] }
theorem slices_CompactFunc_LLapi_RowID_Lapi_RowID_round9 {R : Type} (H : List (AV ty) → List (Blk ty) → Option R) (K : Ex → List (AV ty) → List (Blk ty) → Option R) (k : Int) (s2_0 : Nat) (s2_1 : Nat) (k2 : Int) (s : List (List RowID)) : roundK slices_CompactFunc_LLapi_RowID_Lapi_RowID_cx (lp (body Tryz.f29) 1) H K [.own 264, .fn 30 ([]), .lit (.int .i64 k), .sub 264 s2_0 s2_1, .lit (.int .i64 k2)] [.arr 31 s false] = bif decide (k2 < Int.ofNat s2_1) then bif decide ((0 : Int) ≤ k2) && decide (k2 < Int.ofNat s2_1) then bif decide ((0 : Int) ≤ IntKind.i64.wrap (k2 - (1 : Int))) && decide (IntKind.i64.wrap (k2 - (1 : Int)) < Int.ofNat s2_1) then obnd (rowset_Family_c1 (s.getD (s2_0 + k2.toNat) default) (s.getD (s2_0 + (IntKind.i64.wrap (k2 - (1 : Int))).toNat) default)) (fun r1 => bif !r1 then bif decide ((0 : Int) ≤ k2) && decide (k2 < Int.ofNat s2_1) then bif decide ((0 : Int) ≤ k) && decide (k < Int.ofNat s.length) then bif decide (k.toNat < s.length) then H [.own 264, .fn 30 ([]), .lit (.int .i64 (IntKind.i64.wrap (k + (1 : Int)))), .sub 264 s2_0 s2_1, .lit (.int .i64 (IntKind.i64.wrap (k2 + (1 : Int))))] [.arr 31 (s.set k.toNat (s.getD (s2_0 + k2.toNat) default)) false] else none else none else none else H [.own 264, .fn 30 ([]), .lit (.int .i64 k), .sub 264 s2_0 s2_1, .lit (.int .i64 (IntKind.i64.wrap (k2 + (1 : Int))))] [.arr 31 s false]) else none else none else K (.exit 2) [.own 264, .lit (.int .i64 k)] [.arr 31 s false] := by kernel_rfl
theorem slices_CompactFunc_LLapi_RowID_Lapi_RowID_loop9 (R : Type) (K : Ex → List (AV ty) → List (Blk ty) → Option R) : ∀ (n : Nat) (k : Int) (s2_0 : Nat) (s2_1 : Nat) (k2 : Int) (s : List (List RowID)), loopI slices_CompactFunc_LLapi_RowID_Lapi_RowID_cx (lp (body Tryz.f29) 1) K n [.own 264, .fn 30 ([]), .lit (.int .i64 k), .sub 264 s2_0 s2_1, .lit (.int .i64 k2)] [.arr 31 s false] = out (fun r => treeK K (slices_CompactFunc_LLapi_RowID_Lapi_RowID_tr9 r)) (slices_CompactFunc_LLapi_RowID_Lapi_RowID_L9 n k s2_0 s2_1 k2 s)
  | 0, _, _, _, _, _ => rfl
  | n + 1, k, s2_0, s2_1, k2, s => by
    have ih := slices_CompactFunc_LLapi_RowID_Lapi_RowID_loop9 R K n
    rw [slices_CompactFunc_LLapi_RowID_Lapi_RowID_L9]
    exact (slices_CompactFunc_LLapi_RowID_Lapi_RowID_round9 (loopI slices_CompactFunc_LLapi_RowID_Lapi_RowID_cx (lp (body Tryz.f29) 1) K n) K k s2_0 s2_1 k2 s).trans (out_ite (out_ite (out_ite (out_ite (out_ite (out_ite (out_ite (out_ite (ih (IntKind.i64.wrap (k + (1 : Int))) s2_0 s2_1 (IntKind.i64.wrap (k2 + (1 : Int))) (s.set k.toNat (s.getD (s2_0 + k2.toNat) default))) (rfl)) (rfl)) (rfl)) (ih k s2_0 s2_1 (IntKind.i64.wrap (k2 + (1 : Int))) s)) (rfl)) (rfl)) (rfl)) (rfl))
theorem slices_CompactFunc_LLapi_RowID_Lapi_RowID_to9 : LoopOK slices_CompactFunc_LLapi_RowID_Lapi_RowID_cx (lp (body Tryz.f29) 1) := loopOK_of (id := 9) (sp := slices_CompactFunc_LLapi_RowID_Lapi_RowID_sp9) (by kernel_rfl) (by kernel_rfl) (loopTo_of (V := slices_CompactFunc_LLapi_RowID_Lapi_RowID_V9) (B := slices_CompactFunc_LLapi_RowID_Lapi_RowID_B9) (L := fun n x y => slices_CompactFunc_LLapi_RowID_Lapi_RowID_L9 n x.2.2.1 x.2.2.2.1.1 x.2.2.2.1.2 x.2.2.2.2.1 y.1) (tr := slices_CompactFunc_LLapi_RowID_Lapi_RowID_tr9) (m := fun x y => Int.toNat x.2.2.1 + x.2.2.2.1.1 + x.2.2.2.1.2 + Int.toNat x.2.2.2.2.1 + y.1.length + 1) fun R K n x y => slices_CompactFunc_LLapi_RowID_Lapi_RowID_loop9 R K n x.2.2.1 x.2.2.2.1.1 x.2.2.2.1.2 x.2.2.2.2.1 y.1)
theorem slices_CompactFunc_LLapi_RowID_Lapi_RowID_round4 {R : Type} (H : List (AV ty) → List (Blk ty) → Option R) (K : Ex → List (AV ty) → List (Blk ty) → Option R) (k : Int) (s : List (List RowID)) : roundK slices_CompactFunc_LLapi_RowID_Lapi_RowID_cx (lp (body Tryz.f29) 0) H K [.own 264, .fn 30 ([]), .lit (.int .i64 k)] [.arr 31 s false] = bif decide (k < Int.ofNat s.length) then bif decide ((0 : Int) ≤ k) && decide (k < Int.ofNat s.length) then bif decide ((0 : Int) ≤ IntKind.i64.wrap (k - (1 : Int))) && decide (IntKind.i64.wrap (k - (1 : Int)) < Int.ofNat s.length) then obnd (rowset_Family_c1 (s.getD k.toNat default) (s.getD (IntKind.i64.wrap (k - (1 : Int))).toNat default)) (fun r5 => bif r5 then bif decide ((0 : Int) ≤ k) && decide (k ≤ Int.ofNat s.length) && decide (Int.ofNat s.length ≤ Int.ofNat s.length) then obnd (slices_CompactFunc_LLapi_RowID_Lapi_RowID_L9 (k.toNat + k.toNat + ((Int.ofNat s.length).toNat - k.toNat) + Int.toNat (1 : Int) + s.length + (1 : Nat)) k k.toNat ((Int.ofNat s.length).toNat - k.toNat) (1 : Int) s) (fun r4 => bif decide ((0 : Int) ≤ r4.fst) && decide (r4.fst ≤ Int.ofNat r4.snd.length) && decide (Int.ofNat r4.snd.length ≤ Int.ofNat r4.snd.length) then bif decide (r4.fst.toNat + ((Int.ofNat r4.snd.length).toNat - r4.fst.toNat) ≤ r4.snd.length) then bif decide ((0 : Int) ≤ (0 : Int)) && decide ((0 : Int) ≤ r4.fst) && decide (r4.fst ≤ Int.ofNat (List.take r4.fst.toNat r4.snd ++ List.replicate ((Int.ofNat r4.snd.length).toNat - r4.fst.toNat) [] ++ List.drop (r4.fst.toNat + ((Int.ofNat r4.snd.length).toNat - r4.fst.toNat)) r4.snd).length) then K .ret [.sub 264 0 (r4.fst.toNat - Int.toNat (0 : Int))] [.arr 31 (List.take r4.fst.toNat r4.snd ++ List.replicate ((Int.ofNat r4.snd.length).toNat - r4.fst.toNat) [] ++ List.drop (r4.fst.toNat + ((Int.ofNat r4.snd.length).toNat - r4.fst.toNat)) r4.snd) false] else none else none else none) else none else H [.own 264, .fn 30 ([]), .lit (.int .i64 (IntKind.i64.wrap (k + (1 : Int))))] [.arr 31 s false]) else none else none else K (.exit 0) [.own 264] [.arr 31 s false] := by kernel_rfl
theorem slices_CompactFunc_LLapi_RowID_Lapi_RowID_loop4 (R : Type) (K : Ex → List (AV ty) → List (Blk ty) → Option R) : ∀ (n : Nat) (k : Int) (s : List (List RowID)), loopI slices_CompactFunc_LLapi_RowID_Lapi_RowID_cx (lp (body Tryz.f29) 0) K n [.own 264, .fn 30 ([]), .lit (.int .i64 k)] [.arr 31 s false] = out (fun r => treeK K (slices_CompactFunc_LLapi_RowID_Lapi_RowID_tr4 r)) (slices_CompactFunc_LLapi_RowID_Lapi_RowID_L4 n k s)
  | 0, _, _ => rfl
  | n + 1, k, s => by
    have ih := slices_CompactFunc_LLapi_RowID_Lapi_RowID_loop4 R K n
    rw [slices_CompactFunc_LLapi_RowID_Lapi_RowID_L4]
    exact (slices_CompactFunc_LLapi_RowID_Lapi_RowID_round4 (loopI slices_CompactFunc_LLapi_RowID_Lapi_RowID_cx (lp (body Tryz.f29) 0) K n) K k s).trans (out_ite (out_ite (out_ite (out_ite (out_ite (out_ite (out_ite (out_ite (out_ite (out_ite (rfl) (rfl)) (rfl)) (rfl)) (rfl)) (rfl)) (ih (IntKind.i64.wrap (k + (1 : Int))) s)) (rfl)) (rfl)) (rfl)) (rfl))
theorem slices_CompactFunc_LLapi_RowID_Lapi_RowID_to4 : LoopOK slices_CompactFunc_LLapi_RowID_Lapi_RowID_cx (lp (body Tryz.f29) 0) := loopOK_of (id := 4) (sp := slices_CompactFunc_LLapi_RowID_Lapi_RowID_sp4) (by kernel_rfl) (by kernel_rfl) (loopTo_of (V := slices_CompactFunc_LLapi_RowID_Lapi_RowID_V4) (B := slices_CompactFunc_LLapi_RowID_Lapi_RowID_B4) (L := fun n x y => slices_CompactFunc_LLapi_RowID_Lapi_RowID_L4 n x.2.2.1 y.1) (tr := slices_CompactFunc_LLapi_RowID_Lapi_RowID_tr4) (m := fun x y => Int.toNat x.2.2.1 + y.1.length + 1) fun R K n x y => slices_CompactFunc_LLapi_RowID_Lapi_RowID_loop4 R K n x.2.2.1 y.1)
noncomputable def slices_CompactFunc_LLapi_RowID_Lapi_RowID (s : List (List RowID)) : Bool × List (List RowID) := bif decide (Int.ofNat s.length < (2 : Int)) then (true, s) else bnd (slices_CompactFunc_LLapi_RowID_Lapi_RowID_L4 (Int.toNat (1 : Int) + s.length + (1 : Nat)) (1 : Int) s) (fun r6 => bif isL r6 then (true, List.take (getL r6).fst (getL r6).snd) else (true, getR r6)) (false, default)
noncomputable def slices_CompactFunc_LLapi_RowID_Lapi_RowID_res (r : List (List RowID)) : ARes ty := ⟨[.own 31 r], [none]⟩
theorem slices_CompactFunc_LLapi_RowID_Lapi_RowID_run (s : List (List RowID)) : runFn slices_CompactFunc_LLapi_RowID_Lapi_RowID_cx Tryz.f29 (body Tryz.f29) ⟨[.own 31], [false]⟩ [.own 31 s, .pure (.fn 30 [])] = out (fun r => some (slices_CompactFunc_LLapi_RowID_Lapi_RowID_res r)) (slices_CompactFunc_LLapi_RowID_Lapi_RowID s) := by
  have h : runFn slices_CompactFunc_LLapi_RowID_Lapi_RowID_cx Tryz.f29 (body Tryz.f29) ⟨[.own 31], [false]⟩ [.own 31 s, .pure (.fn 30 [])] = bif decide (Int.ofNat s.length < (2 : Int)) then some ⟨[.own 31 s], [none]⟩ else obnd (slices_CompactFunc_LLapi_RowID_Lapi_RowID_L4 (Int.toNat (1 : Int) + s.length + (1 : Nat)) (1 : Int) s) (fun r7 => bif isL r7 then some ⟨[.own 31 (List.take (getL r7).fst (getL r7).snd)], [none]⟩ else some ⟨[.own 31 (getR r7)], [none]⟩) := by kernel_rfl
  rw [slices_CompactFunc_LLapi_RowID_Lapi_RowID]
  exact h.trans (out_ite (rfl) (out_ite (out_ite (rfl) (rfl)) (rfl)))
noncomputable def slices_CompactFunc_LLapi_RowID_Lapi_RowID_A : AL base (List (List RowID) × Unit × Unit) := aCons (aOwn 31) (aCons (aPure (vFn 30 vNil)) aNil)
noncomputable def slices_CompactFunc_LLapi_RowID_Lapi_RowID_spec : Ab.Spec ty := mkSpec slices_CompactFunc_LLapi_RowID_Lapi_RowID_A fun x => ((slices_CompactFunc_LLapi_RowID_Lapi_RowID x.1).1, slices_CompactFunc_LLapi_RowID_Lapi_RowID_res (slices_CompactFunc_LLapi_RowID_Lapi_RowID x.1).2)
theorem slices_CompactFunc_LLapi_RowID_Lapi_RowID_sound : Sound Tryz.prog base 29 slices_CompactFunc_LLapi_RowID_Lapi_RowID_spec :=
  sound_of_run (cx' := slices_CompactFunc_LLapi_RowID_Lapi_RowID_cx) draws base_ok ⟨⟨rfl, rfl, rfl, rfl, rfl, rfl⟩, rfl⟩ (spec_of [(30, rowset_Family_c1_spec)] ⟨(rowset_Family_c1_sound), trivial⟩) Tryz.call29 Tryz.func29 (c := body Tryz.f29) (by kernel_rfl) (loopsOK_of (l := [lp (body Tryz.f29) 0, lp (body Tryz.f29) 1]) (by kernel_rfl) ⟨slices_CompactFunc_LLapi_RowID_Lapi_RowID_to4, slices_CompactFunc_LLapi_RowID_Lapi_RowID_to9, trivial⟩) (sg := ⟨[.own 31], [false]⟩) (A := slices_CompactFunc_LLapi_RowID_Lapi_RowID_A) (res := slices_CompactFunc_LLapi_RowID_Lapi_RowID_res) (F := fun x => slices_CompactFunc_LLapi_RowID_Lapi_RowID x.1) (fun x => slices_CompactFunc_LLapi_RowID_Lapi_RowID_run x.1) (fun _ => by kernel_rfl) (by kernel_rfl)
end Go.Proofs.YteopikhooiallaaGreatDoor
/- Functions of the program as plain functions, with their contracts. Printed by program. -/
set_option autoImplicit false
set_option linter.unusedVariables false
set_option linter.unusedSimpArgs false
namespace Go.Proofs.YteopikhooiallaaGreatDoor
open Go Go.Ab
/-! ### slices.SortFunc[[][]lineage/api.RowID,[]lineage/api.RowID] -/
noncomputable def slices_SortFunc_LLapi_RowID_Lapi_RowID (x : List (List RowID)) : Bool × List (List RowID) := sortFunc (fun a b => rowset_compareSets a b) x
noncomputable def slices_SortFunc_LLapi_RowID_Lapi_RowID_spec : Ab.Spec ty := mkSpec (cx := base) (aCons (aOwn 31) (aCons (aPure (vFn 28 (vNil))) aNil)) fun x => ((slices_SortFunc_LLapi_RowID_Lapi_RowID x.1).1, ⟨[], [some ⟨31, (slices_SortFunc_LLapi_RowID_Lapi_RowID x.1).2⟩]⟩)
theorem slices_SortFunc_LLapi_RowID_Lapi_RowID_cmp (c : Unit) (x y : (List RowID)) (h : (rowset_compareSets x y).1 = true) : rowset_compareSets_spec (((.sl 30 x : AV ty) :: (.sl 30 y : AV ty) :: (vNil : VL base (Unit)).enc c).map Arg.pure) = some (true, ⟨[.pure (.lit (.int .i64 (rowset_compareSets x y).2))], []⟩) := by
  rw [← h]; kernel_rfl
theorem slices_SortFunc_LLapi_RowID_Lapi_RowID_sound : Sound Tryz.prog base 27 slices_SortFunc_LLapi_RowID_Lapi_RowID_spec := by
  letI : DecidableEq (ty 31) := inferInstanceAs (DecidableEq (List RowID))
  exact sort1_sound (T := 31) base_ok rfl Go.Proofs.Tryz.sortSet (fun x : (List RowID) => (.sl 30 x : AV ty)) (fun _ => rfl) Tryz.call27 rowset_compareSets_sound (vNil) (fun c => fun a b => rowset_compareSets a b) slices_SortFunc_LLapi_RowID_Lapi_RowID_cmp
end Go.Proofs.YteopikhooiallaaGreatDoor
/- Functions of the program as plain functions, with their contracts. Printed by program. -/
set_option autoImplicit false
set_option linter.unusedVariables false
set_option linter.unusedSimpArgs false
namespace Go.Proofs.YteopikhooiallaaGreatDoor
open Go Go.Ab
/-! ### lineage/rowset.Family -/
noncomputable def rowset_Family_L3 : Nat → List (List RowID) → Int → Int → List (List RowID) → Bool × List (List RowID)
  | 0, _, _, _, _ => (false, default)
  | n + 1, t6, t7, t8, out_ => bif decide (t8 < t7) then bif decide ((0 : Int) ≤ t8) && decide (t8 < Int.ofNat t6.length) then bnd (rowset_Normalize (t6.getD t8.toNat default)) (fun r0 => bif decide ((out_.length + [r0].length) * (24 : Nat) ≤ reach) then rowset_Family_L3 n t6 t7 (IntKind.i64.wrap (t8 + (1 : Int))) (out_ ++ [r0]) else (false, default)) (false, default) else (false, default) else (true, out_)
noncomputable def rowset_Family_tr3 (r : List (List RowID)) : LTree ty := .done (.exit 0) [.own 88] [.arr 31 r false]
noncomputable def rowset_Family_V3 : LL ty (Unit × List (List RowID) × Int × Int × Unit) := llCons (lOwn 88) (llCons (lSl 31) (llCons (lInt .i64) (llCons (lInt .i64) llNil)))
noncomputable def rowset_Family_B3 : BL ty (List (List RowID) × Unit) := bArr 31 false (bNil)
noncomputable def rowset_Family_sp3 : LSpec ty := mkLoop rowset_Family_V3 rowset_Family_B3 fun x y => ((rowset_Family_L3 (x.2.1.length + Int.toNat x.2.2.1 + Int.toNat x.2.2.2.1 + y.1.length + 1) x.2.1 x.2.2.1 x.2.2.2.1 y.1).1, rowset_Family_tr3 (rowset_Family_L3 (x.2.1.length + Int.toNat x.2.2.1 + Int.toNat x.2.2.2.1 + y.1.length + 1) x.2.1 x.2.2.1 x.2.2.2.1 y.1).2)
noncomputable def rowset_Family_cx : Cx ty := { base with nt := 22, spec := fun g => List.lookup g [(26, rowset_Normalize_spec), (27, slices_SortFunc_LLapi_RowID_Lapi_RowID_spec), (28, rowset_compareSets_spec), (29, slices_CompactFunc_LLapi_RowID_Lapi_RowID_spec), (30, rowset_Family_c1_spec)], io := fun g => (List.lookup g [(27, [true, false]), (29, [true, false])]).getD [], head := fun i => (List.lookup i [(3, [(3, .own 31), (6, .keep), (7, .keep), (8, .keep)])]).getD [], out := outOf [(3, 1, [(3, .keep)])], loops := fun i => List.lookup i [(3, rowset_Family_sp3)] }
theorem rowset_Family_round3 {R : Type} (H : List (AV ty) → List (Blk ty) → Option R) (K : Ex → List (AV ty) → List (Blk ty) → Option R) (t6 : List (List RowID)) (t7 : Int) (t8 : Int) (out_ : List (List RowID)) : roundK rowset_Family_cx (lp (body Tryz.f9) 0) H K [.own 88, .sl 31 t6, .lit (.int .i64 t7), .lit (.int .i64 t8)] [.arr 31 out_ false] = bif decide (t8 < t7) then bif decide ((0 : Int) ≤ t8) && decide (t8 < Int.ofNat t6.length) then obnd (rowset_Normalize (t6.getD t8.toNat default)) (fun r1 => bif decide ((out_.length + [r1].length) * (24 : Nat) ≤ reach) then H [.own 88, .sl 31 t6, .lit (.int .i64 t7), .lit (.int .i64 (IntKind.i64.wrap (t8 + (1 : Int))))] [.arr 31 (out_ ++ [r1]) false] else none) else none else K (.exit 0) [.own 88] [.arr 31 out_ false] := by kernel_rfl
theorem rowset_Family_loop3 (R : Type) (K : Ex → List (AV ty) → List (Blk ty) → Option R) : ∀ (n : Nat) (t6 : List (List RowID)) (t7 : Int) (t8 : Int) (out_ : List (List RowID)), loopI rowset_Family_cx (lp (body Tryz.f9) 0) K n [.own 88, .sl 31 t6, .lit (.int .i64 t7), .lit (.int .i64 t8)] [.arr 31 out_ false] = out (fun r => treeK K (rowset_Family_tr3 r)) (rowset_Family_L3 n t6 t7 t8 out_)
  | 0, _, _, _, _ => rfl
  | n + 1, t6, t7, t8, out_ => by
    have ih := rowset_Family_loop3 R K n
    rw [rowset_Family_L3]
    exact (rowset_Family_round3 (loopI rowset_Family_cx (lp (body Tryz.f9) 0) K n) K t6 t7 t8 out_).trans (out_ite (out_ite (out_ite (out_ite (ih t6 t7 (IntKind.i64.wrap (t8 + (1 : Int))) (out_ ++ [(rowset_Normalize (t6.getD t8.toNat default)).snd])) (rfl)) (rfl)) (rfl)) (rfl))
theorem rowset_Family_to3 : LoopOK rowset_Family_cx (lp (body Tryz.f9) 0) := loopOK_of (id := 3) (sp := rowset_Family_sp3) (by kernel_rfl) (by kernel_rfl) (loopTo_of (V := rowset_Family_V3) (B := rowset_Family_B3) (L := fun n x y => rowset_Family_L3 n x.2.1 x.2.2.1 x.2.2.2.1 y.1) (tr := rowset_Family_tr3) (m := fun x y => x.2.1.length + Int.toNat x.2.2.1 + Int.toNat x.2.2.2.1 + y.1.length + 1) fun R K n x y => rowset_Family_loop3 R K n x.2.1 x.2.2.1 x.2.2.2.1 y.1)
noncomputable def rowset_Family (l : List (List RowID)) : Bool × List (List RowID) := bnd (rowset_Family_L3 (l.length + (Int.ofNat l.length).toNat + Int.toNat (0 : Int) + (0 : Nat) + (1 : Nat)) l (Int.ofNat l.length) (0 : Int) []) (fun r4 => bnd (slices_SortFunc_LLapi_RowID_Lapi_RowID r4) (fun r3 => bnd (slices_CompactFunc_LLapi_RowID_Lapi_RowID r3) (fun r2 => (true, r2)) (false, default)) (false, default)) (false, default)
noncomputable def rowset_Family_res (r : List (List RowID)) : ARes ty := ⟨[.own 31 r], []⟩
theorem rowset_Family_run (l : List (List RowID)) : runFn rowset_Family_cx Tryz.f9 (body Tryz.f9) ⟨[.own 31], []⟩ [.pure (.sl 31 l)] = out (fun r => some (rowset_Family_res r)) (rowset_Family l) := by
  have h : runFn rowset_Family_cx Tryz.f9 (body Tryz.f9) ⟨[.own 31], []⟩ [.pure (.sl 31 l)] = obnd (rowset_Family_L3 (l.length + (Int.ofNat l.length).toNat + Int.toNat (0 : Int) + (0 : Nat) + (1 : Nat)) l (Int.ofNat l.length) (0 : Int) []) (fun r7 => obnd (slices_SortFunc_LLapi_RowID_Lapi_RowID r7) (fun r6 => obnd (slices_CompactFunc_LLapi_RowID_Lapi_RowID r6) (fun r5 => some ⟨[.own 31 (r5)], []⟩))) := by kernel_rfl
  rw [rowset_Family]
  exact h.trans (out_ite (out_ite (out_ite (rfl) (rfl)) (rfl)) (rfl))
noncomputable def rowset_Family_A : AL base (List (List RowID) × Unit) := aCons (aPure (vSl 31)) aNil
noncomputable def rowset_Family_spec : Ab.Spec ty := mkSpec rowset_Family_A fun x => ((rowset_Family x.1).1, rowset_Family_res (rowset_Family x.1).2)
theorem rowset_Family_sound : Sound Tryz.prog base 9 rowset_Family_spec :=
  sound_of_run (cx' := rowset_Family_cx) draws base_ok ⟨⟨rfl, rfl, rfl, rfl, rfl, rfl⟩, rfl⟩ (spec_of [(26, rowset_Normalize_spec), (27, slices_SortFunc_LLapi_RowID_Lapi_RowID_spec), (28, rowset_compareSets_spec), (29, slices_CompactFunc_LLapi_RowID_Lapi_RowID_spec), (30, rowset_Family_c1_spec)] ⟨(rowset_Normalize_sound), (slices_SortFunc_LLapi_RowID_Lapi_RowID_sound), (rowset_compareSets_sound), (slices_CompactFunc_LLapi_RowID_Lapi_RowID_sound), (rowset_Family_c1_sound), trivial⟩) Tryz.call9 Tryz.func9 (c := body Tryz.f9) (by kernel_rfl) (loopsOK_of (l := [lp (body Tryz.f9) 0]) (by kernel_rfl) ⟨rowset_Family_to3, trivial⟩) (sg := ⟨[.own 31], []⟩) (A := rowset_Family_A) (res := rowset_Family_res) (F := fun x => rowset_Family x.1) (fun x => rowset_Family_run x.1) (fun _ => by kernel_rfl) (by kernel_rfl)
end Go.Proofs.YteopikhooiallaaGreatDoor
/- Functions of the program as plain functions, with their contracts. Printed by program. -/
set_option autoImplicit false
set_option linter.unusedVariables false
set_option linter.unusedSimpArgs false
namespace Go.Proofs.YteopikhooiallaaGreatDoor
open Go Go.Ab
/-! ### slices.Index[[]lineage/api.RowID,lineage/api.RowID] -/
noncomputable def slices_Index_Lapi_RowID_api_RowID_L2 : Nat → List RowID → Int → Int → RowID → Bool × (Int ⊕ Unit)
  | 0, _, _, _, _ => (false, .inl default)
  | n + 1, s, t7, t8, v => bif decide (t8 < t7) then bif decide ((0 : Int) ≤ t8) && decide (t8 < Int.ofNat s.length) then bif v.Table == (s.getD t8.toNat default).Table && (v.Seq == (s.getD t8.toNat default).Seq && true) then (true, .inl t8) else slices_Index_Lapi_RowID_api_RowID_L2 n s t7 (IntKind.i64.wrap (t8 + (1 : Int))) v else (false, .inl default) else (true, .inr ())
noncomputable def slices_Index_Lapi_RowID_api_RowID_tr2 (r : Int ⊕ Unit) : LTree ty := .ite (isL r) (.done .ret [.lit (.int .i64 (getL r))] []) (.done (.exit 0) [] [])
noncomputable def slices_Index_Lapi_RowID_api_RowID_V2 : LL ty (List RowID × Unit × Int × Int × Unit) := llCons (lSl 30) (llCons (lPtrC 76 0) (llCons (lInt .i64) (llCons (lInt .i64) llNil)))
noncomputable def slices_Index_Lapi_RowID_api_RowID_B2 : BL ty (RowID × Unit) := bBox (llMap (fun x => (⟨x.1, x.2.1⟩ : RowID)) (fun x => (x.Table, x.Seq, ())) (fun _ => rfl) (llCons (lInt .i64) (llCons (lInt .i64) llNil))) false (bNil)
noncomputable def slices_Index_Lapi_RowID_api_RowID_sp2 : LSpec ty := mkLoop slices_Index_Lapi_RowID_api_RowID_V2 slices_Index_Lapi_RowID_api_RowID_B2 fun x y => ((slices_Index_Lapi_RowID_api_RowID_L2 (x.1.length + Int.toNat x.2.2.1 + Int.toNat x.2.2.2.1 + 1) x.1 x.2.2.1 x.2.2.2.1 y.1).1, slices_Index_Lapi_RowID_api_RowID_tr2 (slices_Index_Lapi_RowID_api_RowID_L2 (x.1.length + Int.toNat x.2.2.1 + Int.toNat x.2.2.2.1 + 1) x.1 x.2.2.1 x.2.2.2.1 y.1).2)
noncomputable def slices_Index_Lapi_RowID_api_RowID_cx : Cx ty := { base with nt := 19, spec := fun g => List.lookup g [], io := fun g => (List.lookup g []).getD [], head := fun i => (List.lookup i [(2, [(0, .keep), (3, .keep), (7, .keep), (8, .keep)])]).getD [], out := outOf [(2, 1, []), (2, 0, [(4, .keep)])], loops := fun i => List.lookup i [(2, slices_Index_Lapi_RowID_api_RowID_sp2)] }
theorem slices_Index_Lapi_RowID_api_RowID_round2 {R : Type} (H : List (AV ty) → List (Blk ty) → Option R) (K : Ex → List (AV ty) → List (Blk ty) → Option R) (s : List RowID) (t7 : Int) (t8 : Int) (v : RowID) : roundK slices_Index_Lapi_RowID_api_RowID_cx (lp (body Tryz.f108) 0) H K [.sl 30 s, .ptr 76 0, .lit (.int .i64 t7), .lit (.int .i64 t8)] [.box (base.enc 30 v) false] = bif decide (t8 < t7) then bif decide ((0 : Int) ≤ t8) && decide (t8 < Int.ofNat s.length) then bif v.Table == (s.getD t8.toNat default).Table && (v.Seq == (s.getD t8.toNat default).Seq && true) then K .ret [.lit (.int .i64 t8)] [] else H [.sl 30 s, .ptr 76 0, .lit (.int .i64 t7), .lit (.int .i64 (IntKind.i64.wrap (t8 + (1 : Int))))] [.box (base.enc 30 v) false] else none else K (.exit 0) [] [] := by kernel_rfl
theorem slices_Index_Lapi_RowID_api_RowID_loop2 (R : Type) (K : Ex → List (AV ty) → List (Blk ty) → Option R) : ∀ (n : Nat) (s : List RowID) (t7 : Int) (t8 : Int) (v : RowID), loopI slices_Index_Lapi_RowID_api_RowID_cx (lp (body Tryz.f108) 0) K n [.sl 30 s, .ptr 76 0, .lit (.int .i64 t7), .lit (.int .i64 t8)] [.box (base.enc 30 v) false] = out (fun r => treeK K (slices_Index_Lapi_RowID_api_RowID_tr2 r)) (slices_Index_Lapi_RowID_api_RowID_L2 n s t7 t8 v)
  | 0, _, _, _, _ => rfl
  | n + 1, s, t7, t8, v => by
    have ih := slices_Index_Lapi_RowID_api_RowID_loop2 R K n
    rw [slices_Index_Lapi_RowID_api_RowID_L2]
    exact (slices_Index_Lapi_RowID_api_RowID_round2 (loopI slices_Index_Lapi_RowID_api_RowID_cx (lp (body Tryz.f108) 0) K n) K s t7 t8 v).trans (out_ite (out_ite (out_ite (rfl) (ih s t7 (IntKind.i64.wrap (t8 + (1 : Int))) v)) (rfl)) (rfl))
theorem slices_Index_Lapi_RowID_api_RowID_to2 : LoopOK slices_Index_Lapi_RowID_api_RowID_cx (lp (body Tryz.f108) 0) := loopOK_of (id := 2) (sp := slices_Index_Lapi_RowID_api_RowID_sp2) (by kernel_rfl) (by kernel_rfl) (loopTo_of (V := slices_Index_Lapi_RowID_api_RowID_V2) (B := slices_Index_Lapi_RowID_api_RowID_B2) (L := fun n x y => slices_Index_Lapi_RowID_api_RowID_L2 n x.1 x.2.2.1 x.2.2.2.1 y.1) (tr := slices_Index_Lapi_RowID_api_RowID_tr2) (m := fun x y => x.1.length + Int.toNat x.2.2.1 + Int.toNat x.2.2.2.1 + 1) fun R K n x y => slices_Index_Lapi_RowID_api_RowID_loop2 R K n x.1 x.2.2.1 x.2.2.2.1 y.1)
noncomputable def slices_Index_Lapi_RowID_api_RowID (s : List RowID) (v : RowID) : Bool × Int := bnd (slices_Index_Lapi_RowID_api_RowID_L2 (s.length + (Int.ofNat s.length).toNat + Int.toNat (0 : Int) + (1 : Nat)) s (Int.ofNat s.length) (0 : Int) v) (fun r0 => bif isL r0 then (true, getL r0) else (true, (-1 : Int))) (false, default)
noncomputable def slices_Index_Lapi_RowID_api_RowID_res (r : Int) : ARes ty := ⟨[.pure (.lit (.int .i64 r))], []⟩
theorem slices_Index_Lapi_RowID_api_RowID_run (s : List RowID) (v : RowID) : runFn slices_Index_Lapi_RowID_api_RowID_cx Tryz.f108 (body Tryz.f108) ⟨[.pure], []⟩ [.pure (.sl 30 s), .pure (.agg (base.enc 30 v))] = out (fun r => some (slices_Index_Lapi_RowID_api_RowID_res r)) (slices_Index_Lapi_RowID_api_RowID s v) := by
  have h : runFn slices_Index_Lapi_RowID_api_RowID_cx Tryz.f108 (body Tryz.f108) ⟨[.pure], []⟩ [.pure (.sl 30 s), .pure (.agg (base.enc 30 v))] = obnd (slices_Index_Lapi_RowID_api_RowID_L2 (s.length + (Int.ofNat s.length).toNat + Int.toNat (0 : Int) + (1 : Nat)) s (Int.ofNat s.length) (0 : Int) v) (fun r1 => bif isL r1 then some ⟨[.pure (.lit (.int .i64 (getL r1)))], []⟩ else some ⟨[.pure (.lit (.int .i64 (-1 : Int)))], []⟩) := by kernel_rfl
  rw [slices_Index_Lapi_RowID_api_RowID]
  exact h.trans (out_ite (out_ite (rfl) (rfl)) (rfl))
noncomputable def slices_Index_Lapi_RowID_api_RowID_A : AL base (List RowID × RowID × Unit) := aCons (aPure (vSl 30)) (aCons (aPure (vAgg 30)) aNil)
noncomputable def slices_Index_Lapi_RowID_api_RowID_spec : Ab.Spec ty := mkSpec slices_Index_Lapi_RowID_api_RowID_A fun x => ((slices_Index_Lapi_RowID_api_RowID x.1 x.2.1).1, slices_Index_Lapi_RowID_api_RowID_res (slices_Index_Lapi_RowID_api_RowID x.1 x.2.1).2)
theorem slices_Index_Lapi_RowID_api_RowID_sound : Sound Tryz.prog base 108 slices_Index_Lapi_RowID_api_RowID_spec :=
  sound_of_run (cx' := slices_Index_Lapi_RowID_api_RowID_cx) draws base_ok ⟨⟨rfl, rfl, rfl, rfl, rfl, rfl⟩, rfl⟩ (spec_of [] trivial) Tryz.call108 Tryz.func108 (c := body Tryz.f108) (by kernel_rfl) (loopsOK_of (l := [lp (body Tryz.f108) 0]) (by kernel_rfl) ⟨slices_Index_Lapi_RowID_api_RowID_to2, trivial⟩) (sg := ⟨[.pure], []⟩) (A := slices_Index_Lapi_RowID_api_RowID_A) (res := slices_Index_Lapi_RowID_api_RowID_res) (F := fun x => slices_Index_Lapi_RowID_api_RowID x.1 x.2.1) (fun x => slices_Index_Lapi_RowID_api_RowID_run x.1 x.2.1) (fun _ => by kernel_rfl) (by kernel_rfl)
end Go.Proofs.YteopikhooiallaaGreatDoor
/- Functions of the program as plain functions, with their contracts. Printed by program. -/
set_option autoImplicit false
set_option linter.unusedVariables false
set_option linter.unusedSimpArgs false
namespace Go.Proofs.YteopikhooiallaaGreatDoor
open Go Go.Ab
/-! ### slices.Contains[[]lineage/api.RowID,lineage/api.RowID] -/
noncomputable def slices_Contains_Lapi_RowID_api_RowID_cx : Cx ty := { base with nt := 9, spec := fun g => List.lookup g [(108, slices_Index_Lapi_RowID_api_RowID_spec)], io := fun g => (List.lookup g []).getD [], head := fun i => (List.lookup i []).getD [], out := outOf [], loops := fun i => List.lookup i [] }
noncomputable def slices_Contains_Lapi_RowID_api_RowID (s : List RowID) (v : RowID) : Bool × Bool := bnd (slices_Index_Lapi_RowID_api_RowID s v) (fun r0 => (true, decide (r0 ≥ (0 : Int)))) (false, default)
noncomputable def slices_Contains_Lapi_RowID_api_RowID_res (r : Bool) : ARes ty := ⟨[.pure (.lit (.bool r))], []⟩
theorem slices_Contains_Lapi_RowID_api_RowID_run (s : List RowID) (v : RowID) : runFn slices_Contains_Lapi_RowID_api_RowID_cx Tryz.f85 (body Tryz.f85) ⟨[.pure], []⟩ [.pure (.sl 30 s), .pure (.agg (base.enc 30 v))] = out (fun r => some (slices_Contains_Lapi_RowID_api_RowID_res r)) (slices_Contains_Lapi_RowID_api_RowID s v) := by
  have h : runFn slices_Contains_Lapi_RowID_api_RowID_cx Tryz.f85 (body Tryz.f85) ⟨[.pure], []⟩ [.pure (.sl 30 s), .pure (.agg (base.enc 30 v))] = obnd (slices_Index_Lapi_RowID_api_RowID s v) (fun r1 => some ⟨[.pure (.lit (.bool (decide (r1 ≥ (0 : Int)))))], []⟩) := by kernel_rfl
  rw [slices_Contains_Lapi_RowID_api_RowID]
  exact h.trans (out_ite (rfl) (rfl))
noncomputable def slices_Contains_Lapi_RowID_api_RowID_A : AL base (List RowID × RowID × Unit) := aCons (aPure (vSl 30)) (aCons (aPure (vAgg 30)) aNil)
noncomputable def slices_Contains_Lapi_RowID_api_RowID_spec : Ab.Spec ty := mkSpec slices_Contains_Lapi_RowID_api_RowID_A fun x => ((slices_Contains_Lapi_RowID_api_RowID x.1 x.2.1).1, slices_Contains_Lapi_RowID_api_RowID_res (slices_Contains_Lapi_RowID_api_RowID x.1 x.2.1).2)
theorem slices_Contains_Lapi_RowID_api_RowID_sound : Sound Tryz.prog base 85 slices_Contains_Lapi_RowID_api_RowID_spec :=
  sound_of_run (cx' := slices_Contains_Lapi_RowID_api_RowID_cx) draws base_ok ⟨⟨rfl, rfl, rfl, rfl, rfl, rfl⟩, rfl⟩ (spec_of [(108, slices_Index_Lapi_RowID_api_RowID_spec)] ⟨(slices_Index_Lapi_RowID_api_RowID_sound), trivial⟩) Tryz.call85 Tryz.func85 (c := body Tryz.f85) (by kernel_rfl) (loopsOK_of (l := []) (by kernel_rfl) trivial) (sg := ⟨[.pure], []⟩) (A := slices_Contains_Lapi_RowID_api_RowID_A) (res := slices_Contains_Lapi_RowID_api_RowID_res) (F := fun x => slices_Contains_Lapi_RowID_api_RowID x.1 x.2.1) (fun x => slices_Contains_Lapi_RowID_api_RowID_run x.1 x.2.1) (fun _ => by kernel_rfl) (by kernel_rfl)
end Go.Proofs.YteopikhooiallaaGreatDoor
/- Functions of the program as plain functions, with their contracts. Printed by program. -/
set_option autoImplicit false
set_option linter.unusedVariables false
set_option linter.unusedSimpArgs false
namespace Go.Proofs.YteopikhooiallaaGreatDoor
open Go Go.Ab
/-! ### lineage/rowset.Minus literal 1 -/
noncomputable def rowset_Minus_c1_cx : Cx ty := { base with nt := 7, spec := fun g => List.lookup g [(85, slices_Contains_Lapi_RowID_api_RowID_spec)], io := fun g => (List.lookup g []).getD [], head := fun i => (List.lookup i []).getD [], out := outOf [], loops := fun i => List.lookup i [] }
noncomputable def rowset_Minus_c1 (id : RowID) (p1 : List RowID) : Bool × Bool := bnd (slices_Contains_Lapi_RowID_api_RowID p1 id) (fun r0 => (true, r0)) (false, default)
noncomputable def rowset_Minus_c1_res (r : Bool) : ARes ty := ⟨[.pure (.lit (.bool r))], []⟩
theorem rowset_Minus_c1_run (id : RowID) (p1 : List RowID) : runFn rowset_Minus_c1_cx Tryz.f84 (body Tryz.f84) ⟨[.pure], []⟩ [.pure (.agg (base.enc 30 id)), .pure (.bptr [.sl 30 p1] 0)] = out (fun r => some (rowset_Minus_c1_res r)) (rowset_Minus_c1 id p1) := by
  have h : runFn rowset_Minus_c1_cx Tryz.f84 (body Tryz.f84) ⟨[.pure], []⟩ [.pure (.agg (base.enc 30 id)), .pure (.bptr [.sl 30 p1] 0)] = obnd (slices_Contains_Lapi_RowID_api_RowID p1 id) (fun r1 => some ⟨[.pure (.lit (.bool (r1)))], []⟩) := by kernel_rfl
  rw [rowset_Minus_c1]
  exact h.trans (out_ite (rfl) (rfl))
noncomputable def rowset_Minus_c1_A : AL base (RowID × (List RowID × Unit) × Unit) := aCons (aPure (vAgg 30)) (aCons (aPure (vBox (vCons (vSl 30) vNil))) aNil)
noncomputable def rowset_Minus_c1_spec : Ab.Spec ty := mkSpec rowset_Minus_c1_A fun x => ((rowset_Minus_c1 x.1 x.2.1.1).1, rowset_Minus_c1_res (rowset_Minus_c1 x.1 x.2.1.1).2)
theorem rowset_Minus_c1_sound : Sound Tryz.prog base 84 rowset_Minus_c1_spec :=
  sound_of_run (cx' := rowset_Minus_c1_cx) draws base_ok ⟨⟨rfl, rfl, rfl, rfl, rfl, rfl⟩, rfl⟩ (spec_of [(85, slices_Contains_Lapi_RowID_api_RowID_spec)] ⟨(slices_Contains_Lapi_RowID_api_RowID_sound), trivial⟩) Tryz.call84 Tryz.func84 (c := body Tryz.f84) (by kernel_rfl) (loopsOK_of (l := []) (by kernel_rfl) trivial) (sg := ⟨[.pure], []⟩) (A := rowset_Minus_c1_A) (res := rowset_Minus_c1_res) (F := fun x => rowset_Minus_c1 x.1 x.2.1.1) (fun x => rowset_Minus_c1_run x.1 x.2.1.1) (fun _ => by kernel_rfl) (by kernel_rfl)
end Go.Proofs.YteopikhooiallaaGreatDoor
/- Functions of the program as plain functions, with their contracts. Printed by program. -/
set_option autoImplicit false
set_option linter.unusedVariables false
set_option linter.unusedSimpArgs false
namespace Go.Proofs.YteopikhooiallaaGreatDoor
open Go Go.Ab
/-! ### slices.IndexFunc[[]lineage/api.RowID,lineage/api.RowID] -/
noncomputable def slices_IndexFunc_Lapi_RowID_api_RowID_L2 : Nat → List RowID → List RowID → Int → Int → Bool × (Int ⊕ Unit)
  | 0, _, _, _, _ => (false, .inl default)
  | n + 1, s, f, t7, t8 => bif decide (t8 < t7) then bif decide ((0 : Int) ≤ t8) && decide (t8 < Int.ofNat s.length) then bnd (rowset_Minus_c1 (s.getD t8.toNat default) f) (fun r0 => bif r0 then (true, .inl t8) else slices_IndexFunc_Lapi_RowID_api_RowID_L2 n s f t7 (IntKind.i64.wrap (t8 + (1 : Int)))) (false, .inl default) else (false, .inl default) else (true, .inr ())
noncomputable def slices_IndexFunc_Lapi_RowID_api_RowID_tr2 (r : Int ⊕ Unit) : LTree ty := .ite (isL r) (.done .ret [.lit (.int .i64 (getL r))] []) (.done (.exit 0) [] [])
noncomputable def slices_IndexFunc_Lapi_RowID_api_RowID_V2 : LL ty (List RowID × ((List RowID × Unit) × Unit) × Int × Int × Unit) := llCons (lSl 30) (llCons (lFn 84 (llCons (lBptrC (llCons (lSl 30) llNil) 0) llNil)) (llCons (lInt .i64) (llCons (lInt .i64) llNil)))
noncomputable def slices_IndexFunc_Lapi_RowID_api_RowID_B2 : BL ty (Unit) := bNil
noncomputable def slices_IndexFunc_Lapi_RowID_api_RowID_sp2 : LSpec ty := mkLoop slices_IndexFunc_Lapi_RowID_api_RowID_V2 slices_IndexFunc_Lapi_RowID_api_RowID_B2 fun x y => ((slices_IndexFunc_Lapi_RowID_api_RowID_L2 (x.1.length + x.2.1.1.1.length + Int.toNat x.2.2.1 + Int.toNat x.2.2.2.1 + 1) x.1 x.2.1.1.1 x.2.2.1 x.2.2.2.1).1, slices_IndexFunc_Lapi_RowID_api_RowID_tr2 (slices_IndexFunc_Lapi_RowID_api_RowID_L2 (x.1.length + x.2.1.1.1.length + Int.toNat x.2.2.1 + Int.toNat x.2.2.2.1 + 1) x.1 x.2.1.1.1 x.2.2.1 x.2.2.2.1).2)
noncomputable def slices_IndexFunc_Lapi_RowID_api_RowID_cx : Cx ty := { base with nt := 19, spec := fun g => List.lookup g [(84, rowset_Minus_c1_spec)], io := fun g => (List.lookup g []).getD [], head := fun i => (List.lookup i [(2, [(0, .keep), (1, .keep), (7, .keep), (8, .keep)])]).getD [], out := outOf [(2, 1, []), (2, 0, [(4, .keep)])], loops := fun i => List.lookup i [(2, slices_IndexFunc_Lapi_RowID_api_RowID_sp2)] }
theorem slices_IndexFunc_Lapi_RowID_api_RowID_round2 {R : Type} (H : List (AV ty) → List (Blk ty) → Option R) (K : Ex → List (AV ty) → List (Blk ty) → Option R) (s : List RowID) (f : List RowID) (t7 : Int) (t8 : Int) : roundK slices_IndexFunc_Lapi_RowID_api_RowID_cx (lp (body Tryz.f107) 0) H K [.sl 30 s, .fn 84 ([.bptr ([.sl 30 f]) 0]), .lit (.int .i64 t7), .lit (.int .i64 t8)] [] = bif decide (t8 < t7) then bif decide ((0 : Int) ≤ t8) && decide (t8 < Int.ofNat s.length) then obnd (rowset_Minus_c1 (s.getD t8.toNat default) f) (fun r1 => bif r1 then K .ret [.lit (.int .i64 t8)] [] else H [.sl 30 s, .fn 84 ([.bptr ([.sl 30 f]) 0]), .lit (.int .i64 t7), .lit (.int .i64 (IntKind.i64.wrap (t8 + (1 : Int))))] []) else none else K (.exit 0) [] [] := by kernel_rfl
theorem slices_IndexFunc_Lapi_RowID_api_RowID_loop2 (R : Type) (K : Ex → List (AV ty) → List (Blk ty) → Option R) : ∀ (n : Nat) (s : List RowID) (f : List RowID) (t7 : Int) (t8 : Int), loopI slices_IndexFunc_Lapi_RowID_api_RowID_cx (lp (body Tryz.f107) 0) K n [.sl 30 s, .fn 84 ([.bptr ([.sl 30 f]) 0]), .lit (.int .i64 t7), .lit (.int .i64 t8)] [] = out (fun r => treeK K (slices_IndexFunc_Lapi_RowID_api_RowID_tr2 r)) (slices_IndexFunc_Lapi_RowID_api_RowID_L2 n s f t7 t8)
  | 0, _, _, _, _ => rfl
  | n + 1, s, f, t7, t8 => by
    have ih := slices_IndexFunc_Lapi_RowID_api_RowID_loop2 R K n
    rw [slices_IndexFunc_Lapi_RowID_api_RowID_L2]
    exact (slices_IndexFunc_Lapi_RowID_api_RowID_round2 (loopI slices_IndexFunc_Lapi_RowID_api_RowID_cx (lp (body Tryz.f107) 0) K n) K s f t7 t8).trans (out_ite (out_ite (out_ite (out_ite (rfl) (ih s f t7 (IntKind.i64.wrap (t8 + (1 : Int))))) (rfl)) (rfl)) (rfl))
theorem slices_IndexFunc_Lapi_RowID_api_RowID_to2 : LoopOK slices_IndexFunc_Lapi_RowID_api_RowID_cx (lp (body Tryz.f107) 0) := loopOK_of (id := 2) (sp := slices_IndexFunc_Lapi_RowID_api_RowID_sp2) (by kernel_rfl) (by kernel_rfl) (loopTo_of (V := slices_IndexFunc_Lapi_RowID_api_RowID_V2) (B := slices_IndexFunc_Lapi_RowID_api_RowID_B2) (L := fun n x y => slices_IndexFunc_Lapi_RowID_api_RowID_L2 n x.1 x.2.1.1.1 x.2.2.1 x.2.2.2.1) (tr := slices_IndexFunc_Lapi_RowID_api_RowID_tr2) (m := fun x y => x.1.length + x.2.1.1.1.length + Int.toNat x.2.2.1 + Int.toNat x.2.2.2.1 + 1) fun R K n x y => slices_IndexFunc_Lapi_RowID_api_RowID_loop2 R K n x.1 x.2.1.1.1 x.2.2.1 x.2.2.2.1)
noncomputable def slices_IndexFunc_Lapi_RowID_api_RowID (s : List RowID) (f : List RowID) : Bool × Int := bnd (slices_IndexFunc_Lapi_RowID_api_RowID_L2 (s.length + f.length + (Int.ofNat s.length).toNat + Int.toNat (0 : Int) + (1 : Nat)) s f (Int.ofNat s.length) (0 : Int)) (fun r2 => bif isL r2 then (true, getL r2) else (true, (-1 : Int))) (false, default)
noncomputable def slices_IndexFunc_Lapi_RowID_api_RowID_res (r : Int) : ARes ty := ⟨[.pure (.lit (.int .i64 r))], []⟩
theorem slices_IndexFunc_Lapi_RowID_api_RowID_run (s : List RowID) (f : List RowID) : runFn slices_IndexFunc_Lapi_RowID_api_RowID_cx Tryz.f107 (body Tryz.f107) ⟨[.pure], []⟩ [.pure (.sl 30 s), .pure (.fn 84 [.bptr [.sl 30 f] 0])] = out (fun r => some (slices_IndexFunc_Lapi_RowID_api_RowID_res r)) (slices_IndexFunc_Lapi_RowID_api_RowID s f) := by
  have h : runFn slices_IndexFunc_Lapi_RowID_api_RowID_cx Tryz.f107 (body Tryz.f107) ⟨[.pure], []⟩ [.pure (.sl 30 s), .pure (.fn 84 [.bptr [.sl 30 f] 0])] = obnd (slices_IndexFunc_Lapi_RowID_api_RowID_L2 (s.length + f.length + (Int.ofNat s.length).toNat + Int.toNat (0 : Int) + (1 : Nat)) s f (Int.ofNat s.length) (0 : Int)) (fun r3 => bif isL r3 then some ⟨[.pure (.lit (.int .i64 (getL r3)))], []⟩ else some ⟨[.pure (.lit (.int .i64 (-1 : Int)))], []⟩) := by kernel_rfl
  rw [slices_IndexFunc_Lapi_RowID_api_RowID]
  exact h.trans (out_ite (out_ite (rfl) (rfl)) (rfl))
noncomputable def slices_IndexFunc_Lapi_RowID_api_RowID_A : AL base (List RowID × ((List RowID × Unit) × Unit) × Unit) := aCons (aPure (vSl 30)) (aCons (aPure (vFn 84 (vCons (vBox (vCons (vSl 30) vNil)) vNil))) aNil)
noncomputable def slices_IndexFunc_Lapi_RowID_api_RowID_spec : Ab.Spec ty := mkSpec slices_IndexFunc_Lapi_RowID_api_RowID_A fun x => ((slices_IndexFunc_Lapi_RowID_api_RowID x.1 x.2.1.1.1).1, slices_IndexFunc_Lapi_RowID_api_RowID_res (slices_IndexFunc_Lapi_RowID_api_RowID x.1 x.2.1.1.1).2)
theorem slices_IndexFunc_Lapi_RowID_api_RowID_sound : Sound Tryz.prog base 107 slices_IndexFunc_Lapi_RowID_api_RowID_spec :=
  sound_of_run (cx' := slices_IndexFunc_Lapi_RowID_api_RowID_cx) draws base_ok ⟨⟨rfl, rfl, rfl, rfl, rfl, rfl⟩, rfl⟩ (spec_of [(84, rowset_Minus_c1_spec)] ⟨(rowset_Minus_c1_sound), trivial⟩) Tryz.call107 Tryz.func107 (c := body Tryz.f107) (by kernel_rfl) (loopsOK_of (l := [lp (body Tryz.f107) 0]) (by kernel_rfl) ⟨slices_IndexFunc_Lapi_RowID_api_RowID_to2, trivial⟩) (sg := ⟨[.pure], []⟩) (A := slices_IndexFunc_Lapi_RowID_api_RowID_A) (res := slices_IndexFunc_Lapi_RowID_api_RowID_res) (F := fun x => slices_IndexFunc_Lapi_RowID_api_RowID x.1 x.2.1.1.1) (fun x => slices_IndexFunc_Lapi_RowID_api_RowID_run x.1 x.2.1.1.1) (fun _ => by kernel_rfl) (by kernel_rfl)
end Go.Proofs.YteopikhooiallaaGreatDoor
/- Functions of the program as plain functions, with their contracts. Printed by program. -/
set_option autoImplicit false
set_option linter.unusedVariables false
set_option linter.unusedSimpArgs false
namespace Go.Proofs.YteopikhooiallaaGreatDoor
open Go Go.Ab
/-! ### slices.DeleteFunc[[]lineage/api.RowID,lineage/api.RowID] -/
noncomputable def slices_DeleteFunc_Lapi_RowID_api_RowID_L5 : Nat → List RowID → Int → Int → List RowID → Bool × (Int × List RowID)
  | 0, _, _, _, _ => (false, default)
  | n + 1, del, i, j, s => bif decide (j < Int.ofNat s.length) then bif decide ((0 : Int) ≤ j) && decide (j < Int.ofNat s.length) then bnd (rowset_Minus_c1 (s.getD j.toNat default) del) (fun r0 => bif !r0 then bif decide ((0 : Int) ≤ i) && decide (i < Int.ofNat s.length) then bif decide (i.toNat < s.length) then slices_DeleteFunc_Lapi_RowID_api_RowID_L5 n del (IntKind.i64.wrap (i + (1 : Int))) (IntKind.i64.wrap (j + (1 : Int))) (s.set i.toNat (s.getD j.toNat default)) else (false, default) else (false, default) else slices_DeleteFunc_Lapi_RowID_api_RowID_L5 n del i (IntKind.i64.wrap (j + (1 : Int))) s) (false, default) else (false, default) else (true, (i, s))
noncomputable def slices_DeleteFunc_Lapi_RowID_api_RowID_tr5 (r : Int × List RowID) : LTree ty := .done (.exit 0) [.own 168, .lit (.int .i64 r.1)] [.arr 30 r.2 false]
noncomputable def slices_DeleteFunc_Lapi_RowID_api_RowID_V5 : LL ty (Unit × ((List RowID × Unit) × Unit) × Int × Int × Unit) := llCons (lOwn 168) (llCons (lFn 84 (llCons (lBptrC (llCons (lSl 30) llNil) 0) llNil)) (llCons (lInt .i64) (llCons (lInt .i64) llNil)))
noncomputable def slices_DeleteFunc_Lapi_RowID_api_RowID_B5 : BL ty (List RowID × Unit) := bArr 30 false (bNil)
noncomputable def slices_DeleteFunc_Lapi_RowID_api_RowID_sp5 : LSpec ty := mkLoop slices_DeleteFunc_Lapi_RowID_api_RowID_V5 slices_DeleteFunc_Lapi_RowID_api_RowID_B5 fun x y => ((slices_DeleteFunc_Lapi_RowID_api_RowID_L5 (x.2.1.1.1.length + Int.toNat x.2.2.1 + Int.toNat x.2.2.2.1 + y.1.length + 1) x.2.1.1.1 x.2.2.1 x.2.2.2.1 y.1).1, slices_DeleteFunc_Lapi_RowID_api_RowID_tr5 (slices_DeleteFunc_Lapi_RowID_api_RowID_L5 (x.2.1.1.1.length + Int.toNat x.2.2.1 + Int.toNat x.2.2.2.1 + y.1.length + 1) x.2.1.1.1 x.2.2.1 x.2.2.2.1 y.1).2)
noncomputable def slices_DeleteFunc_Lapi_RowID_api_RowID_cx : Cx ty := { base with nt := 42, spec := fun g => List.lookup g [(84, rowset_Minus_c1_spec), (107, slices_IndexFunc_Lapi_RowID_api_RowID_spec)], io := fun g => (List.lookup g []).getD [], head := fun i => (List.lookup i [(5, [(0, .keep), (1, .keep), (5, .keep), (6, .keep)])]).getD [], out := outOf [(5, 1, [(0, .keep), (5, .keep)])], loops := fun i => List.lookup i [(5, slices_DeleteFunc_Lapi_RowID_api_RowID_sp5)] }
theorem slices_DeleteFunc_Lapi_RowID_api_RowID_round5 {R : Type} (H : List (AV ty) → List (Blk ty) → Option R) (K : Ex → List (AV ty) → List (Blk ty) → Option R) (del : List RowID) (i : Int) (j : Int) (s : List RowID) : roundK slices_DeleteFunc_Lapi_RowID_api_RowID_cx (lp (body Tryz.f83) 0) H K [.own 168, .fn 84 ([.bptr ([.sl 30 del]) 0]), .lit (.int .i64 i), .lit (.int .i64 j)] [.arr 30 s false] = bif decide (j < Int.ofNat s.length) then bif decide ((0 : Int) ≤ j) && decide (j < Int.ofNat s.length) then obnd (rowset_Minus_c1 (s.getD j.toNat default) del) (fun r1 => bif !r1 then bif decide ((0 : Int) ≤ i) && decide (i < Int.ofNat s.length) then bif decide (i.toNat < s.length) then H [.own 168, .fn 84 ([.bptr ([.sl 30 del]) 0]), .lit (.int .i64 (IntKind.i64.wrap (i + (1 : Int)))), .lit (.int .i64 (IntKind.i64.wrap (j + (1 : Int))))] [.arr 30 (s.set i.toNat (s.getD j.toNat default)) false] else none else none else H [.own 168, .fn 84 ([.bptr ([.sl 30 del]) 0]), .lit (.int .i64 i), .lit (.int .i64 (IntKind.i64.wrap (j + (1 : Int))))] [.arr 30 s false]) else none else K (.exit 0) [.own 168, .lit (.int .i64 i)] [.arr 30 s false] := by kernel_rfl
theorem slices_DeleteFunc_Lapi_RowID_api_RowID_loop5 (R : Type) (K : Ex → List (AV ty) → List (Blk ty) → Option R) : ∀ (n : Nat) (del : List RowID) (i : Int) (j : Int) (s : List RowID), loopI slices_DeleteFunc_Lapi_RowID_api_RowID_cx (lp (body Tryz.f83) 0) K n [.own 168, .fn 84 ([.bptr ([.sl 30 del]) 0]), .lit (.int .i64 i), .lit (.int .i64 j)] [.arr 30 s false] = out (fun r => treeK K (slices_DeleteFunc_Lapi_RowID_api_RowID_tr5 r)) (slices_DeleteFunc_Lapi_RowID_api_RowID_L5 n del i j s)
  | 0, _, _, _, _ => rfl
  | n + 1, del, i, j, s => by
    have ih := slices_DeleteFunc_Lapi_RowID_api_RowID_loop5 R K n
    rw [slices_DeleteFunc_Lapi_RowID_api_RowID_L5]
    exact (slices_DeleteFunc_Lapi_RowID_api_RowID_round5 (loopI slices_DeleteFunc_Lapi_RowID_api_RowID_cx (lp (body Tryz.f83) 0) K n) K del i j s).trans (out_ite (out_ite (out_ite (out_ite (out_ite (out_ite (ih del (IntKind.i64.wrap (i + (1 : Int))) (IntKind.i64.wrap (j + (1 : Int))) (s.set i.toNat (s.getD j.toNat default))) (rfl)) (rfl)) (ih del i (IntKind.i64.wrap (j + (1 : Int))) s)) (rfl)) (rfl)) (rfl))
theorem slices_DeleteFunc_Lapi_RowID_api_RowID_to5 : LoopOK slices_DeleteFunc_Lapi_RowID_api_RowID_cx (lp (body Tryz.f83) 0) := loopOK_of (id := 5) (sp := slices_DeleteFunc_Lapi_RowID_api_RowID_sp5) (by kernel_rfl) (by kernel_rfl) (loopTo_of (V := slices_DeleteFunc_Lapi_RowID_api_RowID_V5) (B := slices_DeleteFunc_Lapi_RowID_api_RowID_B5) (L := fun n x y => slices_DeleteFunc_Lapi_RowID_api_RowID_L5 n x.2.1.1.1 x.2.2.1 x.2.2.2.1 y.1) (tr := slices_DeleteFunc_Lapi_RowID_api_RowID_tr5) (m := fun x y => x.2.1.1.1.length + Int.toNat x.2.2.1 + Int.toNat x.2.2.2.1 + y.1.length + 1) fun R K n x y => slices_DeleteFunc_Lapi_RowID_api_RowID_loop5 R K n x.2.1.1.1 x.2.2.1 x.2.2.2.1 y.1)
noncomputable def slices_DeleteFunc_Lapi_RowID_api_RowID (s : List RowID) (del : List RowID) : Bool × List RowID := bnd (slices_IndexFunc_Lapi_RowID_api_RowID s del) (fun r3 => bif r3 == (-1 : Int) then (true, s) else bnd (slices_DeleteFunc_Lapi_RowID_api_RowID_L5 (del.length + r3.toNat + (IntKind.i64.wrap (r3 + (1 : Int))).toNat + s.length + (1 : Nat)) del r3 (IntKind.i64.wrap (r3 + (1 : Int))) s) (fun r2 => bif decide ((0 : Int) ≤ r2.fst) && decide (r2.fst ≤ Int.ofNat r2.snd.length) && decide (Int.ofNat r2.snd.length ≤ Int.ofNat r2.snd.length) then bif decide (r2.fst.toNat + ((Int.ofNat r2.snd.length).toNat - r2.fst.toNat) ≤ r2.snd.length) then bif decide ((0 : Int) ≤ (0 : Int)) && decide ((0 : Int) ≤ r2.fst) && decide (r2.fst ≤ Int.ofNat (List.take r2.fst.toNat r2.snd ++ List.replicate ((Int.ofNat r2.snd.length).toNat - r2.fst.toNat) (RowID.mk (0 : Int) (0 : Int)) ++ List.drop (r2.fst.toNat + ((Int.ofNat r2.snd.length).toNat - r2.fst.toNat)) r2.snd).length) then (true, List.take (r2.fst.toNat - Int.toNat (0 : Int)) (List.take r2.fst.toNat r2.snd ++ List.replicate ((Int.ofNat r2.snd.length).toNat - r2.fst.toNat) (RowID.mk (0 : Int) (0 : Int)) ++ List.drop (r2.fst.toNat + ((Int.ofNat r2.snd.length).toNat - r2.fst.toNat)) r2.snd)) else (false, default) else (false, default) else (false, default)) (false, default)) (false, default)
noncomputable def slices_DeleteFunc_Lapi_RowID_api_RowID_res (r : List RowID) : ARes ty := ⟨[.own 30 r], [none]⟩
theorem slices_DeleteFunc_Lapi_RowID_api_RowID_run (s : List RowID) (del : List RowID) : runFn slices_DeleteFunc_Lapi_RowID_api_RowID_cx Tryz.f83 (body Tryz.f83) ⟨[.own 30], [false]⟩ [.own 30 s, .pure (.fn 84 [.bptr [.sl 30 del] 0])] = out (fun r => some (slices_DeleteFunc_Lapi_RowID_api_RowID_res r)) (slices_DeleteFunc_Lapi_RowID_api_RowID s del) := by
  have h : runFn slices_DeleteFunc_Lapi_RowID_api_RowID_cx Tryz.f83 (body Tryz.f83) ⟨[.own 30], [false]⟩ [.own 30 s, .pure (.fn 84 [.bptr [.sl 30 del] 0])] = obnd (slices_IndexFunc_Lapi_RowID_api_RowID s del) (fun r5 => bif r5 == (-1 : Int) then some ⟨[.own 30 s], [none]⟩ else obnd (slices_DeleteFunc_Lapi_RowID_api_RowID_L5 (del.length + r5.toNat + (IntKind.i64.wrap (r5 + (1 : Int))).toNat + s.length + (1 : Nat)) del r5 (IntKind.i64.wrap (r5 + (1 : Int))) s) (fun r4 => bif decide ((0 : Int) ≤ r4.fst) && decide (r4.fst ≤ Int.ofNat r4.snd.length) && decide (Int.ofNat r4.snd.length ≤ Int.ofNat r4.snd.length) then bif decide (r4.fst.toNat + ((Int.ofNat r4.snd.length).toNat - r4.fst.toNat) ≤ r4.snd.length) then bif decide ((0 : Int) ≤ (0 : Int)) && decide ((0 : Int) ≤ r4.fst) && decide (r4.fst ≤ Int.ofNat (List.take r4.fst.toNat r4.snd ++ List.replicate ((Int.ofNat r4.snd.length).toNat - r4.fst.toNat) (RowID.mk (0 : Int) (0 : Int)) ++ List.drop (r4.fst.toNat + ((Int.ofNat r4.snd.length).toNat - r4.fst.toNat)) r4.snd).length) then some ⟨[.own 30 (List.take (r4.fst.toNat - Int.toNat (0 : Int)) (List.take r4.fst.toNat r4.snd ++ List.replicate ((Int.ofNat r4.snd.length).toNat - r4.fst.toNat) (RowID.mk (0 : Int) (0 : Int)) ++ List.drop (r4.fst.toNat + ((Int.ofNat r4.snd.length).toNat - r4.fst.toNat)) r4.snd))], [none]⟩ else none else none else none)) := by kernel_rfl
  rw [slices_DeleteFunc_Lapi_RowID_api_RowID]
  exact h.trans (out_ite (out_ite (rfl) (out_ite (out_ite (out_ite (out_ite (rfl) (rfl)) (rfl)) (rfl)) (rfl))) (rfl))
noncomputable def slices_DeleteFunc_Lapi_RowID_api_RowID_A : AL base (List RowID × ((List RowID × Unit) × Unit) × Unit) := aCons (aOwn 30) (aCons (aPure (vFn 84 (vCons (vBox (vCons (vSl 30) vNil)) vNil))) aNil)
noncomputable def slices_DeleteFunc_Lapi_RowID_api_RowID_spec : Ab.Spec ty := mkSpec slices_DeleteFunc_Lapi_RowID_api_RowID_A fun x => ((slices_DeleteFunc_Lapi_RowID_api_RowID x.1 x.2.1.1.1).1, slices_DeleteFunc_Lapi_RowID_api_RowID_res (slices_DeleteFunc_Lapi_RowID_api_RowID x.1 x.2.1.1.1).2)
theorem slices_DeleteFunc_Lapi_RowID_api_RowID_sound : Sound Tryz.prog base 83 slices_DeleteFunc_Lapi_RowID_api_RowID_spec :=
  sound_of_run (cx' := slices_DeleteFunc_Lapi_RowID_api_RowID_cx) draws base_ok ⟨⟨rfl, rfl, rfl, rfl, rfl, rfl⟩, rfl⟩ (spec_of [(84, rowset_Minus_c1_spec), (107, slices_IndexFunc_Lapi_RowID_api_RowID_spec)] ⟨(rowset_Minus_c1_sound), (slices_IndexFunc_Lapi_RowID_api_RowID_sound), trivial⟩) Tryz.call83 Tryz.func83 (c := body Tryz.f83) (by kernel_rfl) (loopsOK_of (l := [lp (body Tryz.f83) 0]) (by kernel_rfl) ⟨slices_DeleteFunc_Lapi_RowID_api_RowID_to5, trivial⟩) (sg := ⟨[.own 30], [false]⟩) (A := slices_DeleteFunc_Lapi_RowID_api_RowID_A) (res := slices_DeleteFunc_Lapi_RowID_api_RowID_res) (F := fun x => slices_DeleteFunc_Lapi_RowID_api_RowID x.1 x.2.1.1.1) (fun x => slices_DeleteFunc_Lapi_RowID_api_RowID_run x.1 x.2.1.1.1) (fun _ => by kernel_rfl) (by kernel_rfl)
end Go.Proofs.YteopikhooiallaaGreatDoor
/- Functions of the program as plain functions, with their contracts. Printed by program. -/
set_option autoImplicit false
set_option linter.unusedVariables false
set_option linter.unusedSimpArgs false
namespace Go.Proofs.YteopikhooiallaaGreatDoor
open Go Go.Ab
/-! ### lineage/rowset.Minus -/
noncomputable def rowset_Minus_cx : Cx ty := { base with nt := 11, spec := fun g => List.lookup g [(26, rowset_Normalize_spec), (83, slices_DeleteFunc_Lapi_RowID_api_RowID_spec), (84, rowset_Minus_c1_spec)], io := fun g => (List.lookup g [(83, [true, false])]).getD [], head := fun i => (List.lookup i []).getD [], out := outOf [], loops := fun i => List.lookup i [] }
noncomputable def rowset_Minus (a : List RowID) (b : List RowID) : Bool × List RowID := bnd (rowset_Normalize a) (fun r1 => bnd (slices_DeleteFunc_Lapi_RowID_api_RowID r1 b) (fun r0 => (true, r0)) (false, default)) (false, default)
noncomputable def rowset_Minus_res (r : List RowID) : ARes ty := ⟨[.own 30 r], []⟩
theorem rowset_Minus_run (a : List RowID) (b : List RowID) : runFn rowset_Minus_cx Tryz.f58 (body Tryz.f58) ⟨[.own 30], []⟩ [.pure (.sl 30 a), .pure (.sl 30 b)] = out (fun r => some (rowset_Minus_res r)) (rowset_Minus a b) := by
  have h : runFn rowset_Minus_cx Tryz.f58 (body Tryz.f58) ⟨[.own 30], []⟩ [.pure (.sl 30 a), .pure (.sl 30 b)] = obnd (rowset_Normalize a) (fun r3 => obnd (slices_DeleteFunc_Lapi_RowID_api_RowID r3 b) (fun r2 => some ⟨[.own 30 (r2)], []⟩)) := by kernel_rfl
  rw [rowset_Minus]
  exact h.trans (out_ite (out_ite (rfl) (rfl)) (rfl))
noncomputable def rowset_Minus_A : AL base (List RowID × List RowID × Unit) := aCons (aPure (vSl 30)) (aCons (aPure (vSl 30)) aNil)
noncomputable def rowset_Minus_spec : Ab.Spec ty := mkSpec rowset_Minus_A fun x => ((rowset_Minus x.1 x.2.1).1, rowset_Minus_res (rowset_Minus x.1 x.2.1).2)
theorem rowset_Minus_sound : Sound Tryz.prog base 58 rowset_Minus_spec :=
  sound_of_run (cx' := rowset_Minus_cx) draws base_ok ⟨⟨rfl, rfl, rfl, rfl, rfl, rfl⟩, rfl⟩ (spec_of [(26, rowset_Normalize_spec), (83, slices_DeleteFunc_Lapi_RowID_api_RowID_spec), (84, rowset_Minus_c1_spec)] ⟨(rowset_Normalize_sound), (slices_DeleteFunc_Lapi_RowID_api_RowID_sound), (rowset_Minus_c1_sound), trivial⟩) Tryz.call58 Tryz.func58 (c := body Tryz.f58) (by kernel_rfl) (loopsOK_of (l := []) (by kernel_rfl) trivial) (sg := ⟨[.own 30], []⟩) (A := rowset_Minus_A) (res := rowset_Minus_res) (F := fun x => rowset_Minus x.1 x.2.1) (fun x => rowset_Minus_run x.1 x.2.1) (fun _ => by kernel_rfl) (by kernel_rfl)
end Go.Proofs.YteopikhooiallaaGreatDoor
/- Functions of the program as plain functions, with their contracts. Printed by program. -/
set_option autoImplicit false
set_option linter.unusedVariables false
set_option linter.unusedSimpArgs false
namespace Go.Proofs.YteopikhooiallaaGreatDoor
open Go Go.Ab
/-! ### lineage/rowset.Subset -/
noncomputable def rowset_Subset_cx : Cx ty := { base with nt := 10, spec := fun g => List.lookup g [(58, rowset_Minus_spec)], io := fun g => (List.lookup g []).getD [], head := fun i => (List.lookup i []).getD [], out := outOf [], loops := fun i => List.lookup i [] }
noncomputable def rowset_Subset (a : List RowID) (b : List RowID) : Bool × Bool := bnd (rowset_Minus a b) (fun r0 => (true, Int.ofNat r0.length == (0 : Int))) (false, default)
noncomputable def rowset_Subset_res (r : Bool) : ARes ty := ⟨[.pure (.lit (.bool r))], []⟩
theorem rowset_Subset_run (a : List RowID) (b : List RowID) : runFn rowset_Subset_cx Tryz.f35 (body Tryz.f35) ⟨[.pure], []⟩ [.pure (.sl 30 a), .pure (.sl 30 b)] = out (fun r => some (rowset_Subset_res r)) (rowset_Subset a b) := by
  have h : runFn rowset_Subset_cx Tryz.f35 (body Tryz.f35) ⟨[.pure], []⟩ [.pure (.sl 30 a), .pure (.sl 30 b)] = obnd (rowset_Minus a b) (fun r1 => some ⟨[.pure (.lit (.bool (Int.ofNat r1.length == (0 : Int))))], []⟩) := by kernel_rfl
  rw [rowset_Subset]
  exact h.trans (out_ite (rfl) (rfl))
noncomputable def rowset_Subset_A : AL base (List RowID × List RowID × Unit) := aCons (aPure (vSl 30)) (aCons (aPure (vSl 30)) aNil)
noncomputable def rowset_Subset_spec : Ab.Spec ty := mkSpec rowset_Subset_A fun x => ((rowset_Subset x.1 x.2.1).1, rowset_Subset_res (rowset_Subset x.1 x.2.1).2)
theorem rowset_Subset_sound : Sound Tryz.prog base 35 rowset_Subset_spec :=
  sound_of_run (cx' := rowset_Subset_cx) draws base_ok ⟨⟨rfl, rfl, rfl, rfl, rfl, rfl⟩, rfl⟩ (spec_of [(58, rowset_Minus_spec)] ⟨(rowset_Minus_sound), trivial⟩) Tryz.call35 Tryz.func35 (c := body Tryz.f35) (by kernel_rfl) (loopsOK_of (l := []) (by kernel_rfl) trivial) (sg := ⟨[.pure], []⟩) (A := rowset_Subset_A) (res := rowset_Subset_res) (F := fun x => rowset_Subset x.1 x.2.1) (fun x => rowset_Subset_run x.1 x.2.1) (fun _ => by kernel_rfl) (by kernel_rfl)
end Go.Proofs.YteopikhooiallaaGreatDoor
/- Functions of the program as plain functions, with their contracts. Printed by program. -/
set_option autoImplicit false
set_option linter.unusedVariables false
set_option linter.unusedSimpArgs false
namespace Go.Proofs.YteopikhooiallaaGreatDoor
open Go Go.Ab
/-! ### lineage/rowset.Minimal literal 1 -/
noncomputable def rowset_Minimal_c1_cx : Cx ty := { base with nt := 17, spec := fun g => List.lookup g [(35, rowset_Subset_spec)], io := fun g => (List.lookup g []).getD [], head := fun i => (List.lookup i []).getD [], out := outOf [], loops := fun i => List.lookup i [] }
noncomputable def rowset_Minimal_c1 (k : Int) (p1 : Int) (p2 : List (List RowID)) (p3 : List RowID) : Bool × Bool := bif k != p1 then bif decide ((0 : Int) ≤ k) && decide (k < Int.ofNat p2.length) then bnd (rowset_Subset (p2.getD k.toNat default) p3) (fun r0 => (true, r0)) (false, default) else (false, default) else (true, false)
noncomputable def rowset_Minimal_c1_res (r : Bool) : ARes ty := ⟨[.pure (.lit (.bool r))], []⟩
theorem rowset_Minimal_c1_run (k : Int) (p1 : Int) (p2 : List (List RowID)) (p3 : List RowID) : runFn rowset_Minimal_c1_cx Tryz.f34 (body Tryz.f34) ⟨[.pure], []⟩ [.pure (.lit (.int .i64 k)), .pure (.bptr [.lit (.int .i64 p1)] 0), .pure (.bptr [.sl 31 p2] 0), .pure (.bptr [.sl 30 p3] 0)] = out (fun r => some (rowset_Minimal_c1_res r)) (rowset_Minimal_c1 k p1 p2 p3) := by
  have h : runFn rowset_Minimal_c1_cx Tryz.f34 (body Tryz.f34) ⟨[.pure], []⟩ [.pure (.lit (.int .i64 k)), .pure (.bptr [.lit (.int .i64 p1)] 0), .pure (.bptr [.sl 31 p2] 0), .pure (.bptr [.sl 30 p3] 0)] = bif k != p1 then bif decide ((0 : Int) ≤ k) && decide (k < Int.ofNat p2.length) then obnd (rowset_Subset (p2.getD k.toNat default) p3) (fun r1 => some ⟨[.pure (.lit (.bool (r1)))], []⟩) else none else some ⟨[.pure (.lit (.bool false))], []⟩ := by kernel_rfl
  rw [rowset_Minimal_c1]
  exact h.trans (out_ite (out_ite (out_ite (rfl) (rfl)) (rfl)) (rfl))
noncomputable def rowset_Minimal_c1_A : AL base (Int × (Int × Unit) × (List (List RowID) × Unit) × (List RowID × Unit) × Unit) := aCons (aPure (vInt .i64)) (aCons (aPure (vBox (vCons (vInt .i64) vNil))) (aCons (aPure (vBox (vCons (vSl 31) vNil))) (aCons (aPure (vBox (vCons (vSl 30) vNil))) aNil)))
noncomputable def rowset_Minimal_c1_spec : Ab.Spec ty := mkSpec rowset_Minimal_c1_A fun x => ((rowset_Minimal_c1 x.1 x.2.1.1 x.2.2.1.1 x.2.2.2.1.1).1, rowset_Minimal_c1_res (rowset_Minimal_c1 x.1 x.2.1.1 x.2.2.1.1 x.2.2.2.1.1).2)
theorem rowset_Minimal_c1_sound : Sound Tryz.prog base 34 rowset_Minimal_c1_spec :=
  sound_of_run (cx' := rowset_Minimal_c1_cx) draws base_ok ⟨⟨rfl, rfl, rfl, rfl, rfl, rfl⟩, rfl⟩ (spec_of [(35, rowset_Subset_spec)] ⟨(rowset_Subset_sound), trivial⟩) Tryz.call34 Tryz.func34 (c := body Tryz.f34) (by kernel_rfl) (loopsOK_of (l := []) (by kernel_rfl) trivial) (sg := ⟨[.pure], []⟩) (A := rowset_Minimal_c1_A) (res := rowset_Minimal_c1_res) (F := fun x => rowset_Minimal_c1 x.1 x.2.1.1 x.2.2.1.1 x.2.2.2.1.1) (fun x => rowset_Minimal_c1_run x.1 x.2.1.1 x.2.2.1.1 x.2.2.2.1.1) (fun _ => by kernel_rfl) (by kernel_rfl)
end Go.Proofs.YteopikhooiallaaGreatDoor
/- Functions of the program as plain functions, with their contracts. Printed by program. -/
set_option autoImplicit false
set_option linter.unusedVariables false
set_option linter.unusedSimpArgs false
namespace Go.Proofs.YteopikhooiallaaGreatDoor
open Go Go.Ab
/-! ### lineage/rowset.indices -/
noncomputable def rowset_indices_L3 : Nat → Int → Int → List Int → Bool × List Int
  | 0, _, _, _ => (false, default)
  | n + 1, t8, t9, out_ => bif decide (t9 < t8) then bif decide ((0 : Int) ≤ t9) && decide (t9 < Int.ofNat out_.length) then bif decide (t9.toNat < out_.length) then rowset_indices_L3 n t8 (IntKind.i64.wrap (t9 + (1 : Int))) (out_.set t9.toNat t9) else (false, default) else (false, default) else (true, out_)
noncomputable def rowset_indices_tr3 (r : List Int) : LTree ty := .done (.exit 0) [.own 72] [.arr 3 r false]
noncomputable def rowset_indices_V3 : LL ty (Unit × Int × Int × Unit) := llCons (lOwn 72) (llCons (lInt .i64) (llCons (lInt .i64) llNil))
noncomputable def rowset_indices_B3 : BL ty (List Int × Unit) := bArr 3 false (bNil)
noncomputable def rowset_indices_sp3 : LSpec ty := mkLoop rowset_indices_V3 rowset_indices_B3 fun x y => ((rowset_indices_L3 (Int.toNat x.2.1 + Int.toNat x.2.2.1 + y.1.length + 1) x.2.1 x.2.2.1 y.1).1, rowset_indices_tr3 (rowset_indices_L3 (Int.toNat x.2.1 + Int.toNat x.2.2.1 + y.1.length + 1) x.2.1 x.2.2.1 y.1).2)
noncomputable def rowset_indices_cx : Cx ty := { base with nt := 18, spec := fun g => List.lookup g [], io := fun g => (List.lookup g []).getD [], head := fun i => (List.lookup i [(3, [(3, .keep), (8, .keep), (9, .keep)])]).getD [], out := outOf [(3, 1, [(3, .keep)])], loops := fun i => List.lookup i [(3, rowset_indices_sp3)] }
theorem rowset_indices_round3 {R : Type} (H : List (AV ty) → List (Blk ty) → Option R) (K : Ex → List (AV ty) → List (Blk ty) → Option R) (t8 : Int) (t9 : Int) (out_ : List Int) : roundK rowset_indices_cx (lp (body Tryz.f37) 0) H K [.own 72, .lit (.int .i64 t8), .lit (.int .i64 t9)] [.arr 3 out_ false] = bif decide (t9 < t8) then bif decide ((0 : Int) ≤ t9) && decide (t9 < Int.ofNat out_.length) then bif decide (t9.toNat < out_.length) then H [.own 72, .lit (.int .i64 t8), .lit (.int .i64 (IntKind.i64.wrap (t9 + (1 : Int))))] [.arr 3 (out_.set t9.toNat t9) false] else none else none else K (.exit 0) [.own 72] [.arr 3 out_ false] := by kernel_rfl
theorem rowset_indices_loop3 (R : Type) (K : Ex → List (AV ty) → List (Blk ty) → Option R) : ∀ (n : Nat) (t8 : Int) (t9 : Int) (out_ : List Int), loopI rowset_indices_cx (lp (body Tryz.f37) 0) K n [.own 72, .lit (.int .i64 t8), .lit (.int .i64 t9)] [.arr 3 out_ false] = out (fun r => treeK K (rowset_indices_tr3 r)) (rowset_indices_L3 n t8 t9 out_)
  | 0, _, _, _ => rfl
  | n + 1, t8, t9, out_ => by
    have ih := rowset_indices_loop3 R K n
    rw [rowset_indices_L3]
    exact (rowset_indices_round3 (loopI rowset_indices_cx (lp (body Tryz.f37) 0) K n) K t8 t9 out_).trans (out_ite (out_ite (out_ite (ih t8 (IntKind.i64.wrap (t9 + (1 : Int))) (out_.set t9.toNat t9)) (rfl)) (rfl)) (rfl))
theorem rowset_indices_to3 : LoopOK rowset_indices_cx (lp (body Tryz.f37) 0) := loopOK_of (id := 3) (sp := rowset_indices_sp3) (by kernel_rfl) (by kernel_rfl) (loopTo_of (V := rowset_indices_V3) (B := rowset_indices_B3) (L := fun n x y => rowset_indices_L3 n x.2.1 x.2.2.1 y.1) (tr := rowset_indices_tr3) (m := fun x y => Int.toNat x.2.1 + Int.toNat x.2.2.1 + y.1.length + 1) fun R K n x y => rowset_indices_loop3 R K n x.2.1 x.2.2.1 y.1)
noncomputable def rowset_indices (n_ : Int) : Bool × List Int := bif decide ((0 : Int) ≤ n_) && decide (n_ ≤ n_) && decide (n_ * Int.ofNat (8 : Nat) ≤ Int.ofNat reach) && decide (n_ ≤ Int.ofNat reach) then bnd (rowset_indices_L3 ((Int.ofNat (List.replicate n_.toNat (0 : Int)).length).toNat + Int.toNat (0 : Int) + (List.replicate n_.toNat (0 : Int)).length + (1 : Nat)) (Int.ofNat (List.replicate n_.toNat (0 : Int)).length) (0 : Int) (List.replicate n_.toNat (0 : Int))) (fun r0 => (true, r0)) (false, default) else (false, default)
noncomputable def rowset_indices_res (r : List Int) : ARes ty := ⟨[.own 3 r], []⟩
theorem rowset_indices_run (n_ : Int) : runFn rowset_indices_cx Tryz.f37 (body Tryz.f37) ⟨[.own 3], []⟩ [.pure (.lit (.int .i64 n_))] = out (fun r => some (rowset_indices_res r)) (rowset_indices n_) := by
  have h : runFn rowset_indices_cx Tryz.f37 (body Tryz.f37) ⟨[.own 3], []⟩ [.pure (.lit (.int .i64 n_))] = bif decide ((0 : Int) ≤ n_) && decide (n_ ≤ n_) && decide (n_ * Int.ofNat (8 : Nat) ≤ Int.ofNat reach) && decide (n_ ≤ Int.ofNat reach) then obnd (rowset_indices_L3 ((Int.ofNat (List.replicate n_.toNat (0 : Int)).length).toNat + Int.toNat (0 : Int) + (List.replicate n_.toNat (0 : Int)).length + (1 : Nat)) (Int.ofNat (List.replicate n_.toNat (0 : Int)).length) (0 : Int) (List.replicate n_.toNat (0 : Int))) (fun r1 => some ⟨[.own 3 (r1)], []⟩) else none := by kernel_rfl
  rw [rowset_indices]
  exact h.trans (out_ite (out_ite (rfl) (rfl)) (rfl))
noncomputable def rowset_indices_A : AL base (Int × Unit) := aCons (aPure (vInt .i64)) aNil
noncomputable def rowset_indices_spec : Ab.Spec ty := mkSpec rowset_indices_A fun x => ((rowset_indices x.1).1, rowset_indices_res (rowset_indices x.1).2)
theorem rowset_indices_sound : Sound Tryz.prog base 37 rowset_indices_spec :=
  sound_of_run (cx' := rowset_indices_cx) draws base_ok ⟨⟨rfl, rfl, rfl, rfl, rfl, rfl⟩, rfl⟩ (spec_of [] trivial) Tryz.call37 Tryz.func37 (c := body Tryz.f37) (by kernel_rfl) (loopsOK_of (l := [lp (body Tryz.f37) 0]) (by kernel_rfl) ⟨rowset_indices_to3, trivial⟩) (sg := ⟨[.own 3], []⟩) (A := rowset_indices_A) (res := rowset_indices_res) (F := fun x => rowset_indices x.1) (fun x => rowset_indices_run x.1) (fun _ => by kernel_rfl) (by kernel_rfl)
end Go.Proofs.YteopikhooiallaaGreatDoor
/- Functions of the program as plain functions, with their contracts. Printed by program. -/
set_option autoImplicit false
set_option linter.unusedVariables false
set_option linter.unusedSimpArgs false
namespace Go.Proofs.YteopikhooiallaaGreatDoor
open Go Go.Ab
/-! ### slices.IndexFunc[[]int,int] -/
noncomputable def slices_IndexFunc_Lint_int_L2 : Nat → List Int → Int → List (List RowID) → List RowID → Int → Int → Bool × (Int ⊕ Unit)
  | 0, _, _, _, _, _, _ => (false, .inl default)
  | n + 1, s, f_0, f_1, f_2, t7, t8 => bif decide (t8 < t7) then bif decide ((0 : Int) ≤ t8) && decide (t8 < Int.ofNat s.length) then bnd (rowset_Minimal_c1 (s.getD t8.toNat default) f_0 f_1 f_2) (fun r0 => bif r0 then (true, .inl t8) else slices_IndexFunc_Lint_int_L2 n s f_0 f_1 f_2 t7 (IntKind.i64.wrap (t8 + (1 : Int)))) (false, .inl default) else (false, .inl default) else (true, .inr ())
noncomputable def slices_IndexFunc_Lint_int_tr2 (r : Int ⊕ Unit) : LTree ty := .ite (isL r) (.done .ret [.lit (.int .i64 (getL r))] []) (.done (.exit 0) [] [])
noncomputable def slices_IndexFunc_Lint_int_V2 : LL ty (List Int × ((Int × Unit) × (List (List RowID) × Unit) × (List RowID × Unit) × Unit) × Int × Int × Unit) := llCons (lSl 3) (llCons (lFn 34 (llCons (lBptrC (llCons (lInt .i64) llNil) 0) (llCons (lBptrC (llCons (lSl 31) llNil) 0) (llCons (lBptrC (llCons (lSl 30) llNil) 0) llNil)))) (llCons (lInt .i64) (llCons (lInt .i64) llNil)))
noncomputable def slices_IndexFunc_Lint_int_B2 : BL ty (Unit) := bNil
noncomputable def slices_IndexFunc_Lint_int_sp2 : LSpec ty := mkLoop slices_IndexFunc_Lint_int_V2 slices_IndexFunc_Lint_int_B2 fun x y => ((slices_IndexFunc_Lint_int_L2 (x.1.length + Int.toNat x.2.1.1.1 + x.2.1.2.1.1.length + x.2.1.2.2.1.1.length + Int.toNat x.2.2.1 + Int.toNat x.2.2.2.1 + 1) x.1 x.2.1.1.1 x.2.1.2.1.1 x.2.1.2.2.1.1 x.2.2.1 x.2.2.2.1).1, slices_IndexFunc_Lint_int_tr2 (slices_IndexFunc_Lint_int_L2 (x.1.length + Int.toNat x.2.1.1.1 + x.2.1.2.1.1.length + x.2.1.2.2.1.1.length + Int.toNat x.2.2.1 + Int.toNat x.2.2.2.1 + 1) x.1 x.2.1.1.1 x.2.1.2.1.1 x.2.1.2.2.1.1 x.2.2.1 x.2.2.2.1).2)
noncomputable def slices_IndexFunc_Lint_int_cx : Cx ty := { base with nt := 19, spec := fun g => List.lookup g [(34, rowset_Minimal_c1_spec)], io := fun g => (List.lookup g []).getD [], head := fun i => (List.lookup i [(2, [(0, .keep), (1, .keep), (7, .keep), (8, .keep)])]).getD [], out := outOf [(2, 1, []), (2, 0, [(4, .keep)])], loops := fun i => List.lookup i [(2, slices_IndexFunc_Lint_int_sp2)] }
theorem slices_IndexFunc_Lint_int_round2 {R : Type} (H : List (AV ty) → List (Blk ty) → Option R) (K : Ex → List (AV ty) → List (Blk ty) → Option R) (s : List Int) (f_0 : Int) (f_1 : List (List RowID)) (f_2 : List RowID) (t7 : Int) (t8 : Int) : roundK slices_IndexFunc_Lint_int_cx (lp (body Tryz.f59) 0) H K [.sl 3 s, .fn 34 ([.bptr ([.lit (.int .i64 f_0)]) 0, .bptr ([.sl 31 f_1]) 0, .bptr ([.sl 30 f_2]) 0]), .lit (.int .i64 t7), .lit (.int .i64 t8)] [] = bif decide (t8 < t7) then bif decide ((0 : Int) ≤ t8) && decide (t8 < Int.ofNat s.length) then obnd (rowset_Minimal_c1 (s.getD t8.toNat default) f_0 f_1 f_2) (fun r1 => bif r1 then K .ret [.lit (.int .i64 t8)] [] else H [.sl 3 s, .fn 34 ([.bptr ([.lit (.int .i64 f_0)]) 0, .bptr ([.sl 31 f_1]) 0, .bptr ([.sl 30 f_2]) 0]), .lit (.int .i64 t7), .lit (.int .i64 (IntKind.i64.wrap (t8 + (1 : Int))))] []) else none else K (.exit 0) [] [] := by kernel_rfl
theorem slices_IndexFunc_Lint_int_loop2 (R : Type) (K : Ex → List (AV ty) → List (Blk ty) → Option R) : ∀ (n : Nat) (s : List Int) (f_0 : Int) (f_1 : List (List RowID)) (f_2 : List RowID) (t7 : Int) (t8 : Int), loopI slices_IndexFunc_Lint_int_cx (lp (body Tryz.f59) 0) K n [.sl 3 s, .fn 34 ([.bptr ([.lit (.int .i64 f_0)]) 0, .bptr ([.sl 31 f_1]) 0, .bptr ([.sl 30 f_2]) 0]), .lit (.int .i64 t7), .lit (.int .i64 t8)] [] = out (fun r => treeK K (slices_IndexFunc_Lint_int_tr2 r)) (slices_IndexFunc_Lint_int_L2 n s f_0 f_1 f_2 t7 t8)
  | 0, _, _, _, _, _, _ => rfl
  | n + 1, s, f_0, f_1, f_2, t7, t8 => by
    have ih := slices_IndexFunc_Lint_int_loop2 R K n
    rw [slices_IndexFunc_Lint_int_L2]
    exact (slices_IndexFunc_Lint_int_round2 (loopI slices_IndexFunc_Lint_int_cx (lp (body Tryz.f59) 0) K n) K s f_0 f_1 f_2 t7 t8).trans (out_ite (out_ite (out_ite (out_ite (rfl) (ih s f_0 f_1 f_2 t7 (IntKind.i64.wrap (t8 + (1 : Int))))) (rfl)) (rfl)) (rfl))
theorem slices_IndexFunc_Lint_int_to2 : LoopOK slices_IndexFunc_Lint_int_cx (lp (body Tryz.f59) 0) := loopOK_of (id := 2) (sp := slices_IndexFunc_Lint_int_sp2) (by kernel_rfl) (by kernel_rfl) (loopTo_of (V := slices_IndexFunc_Lint_int_V2) (B := slices_IndexFunc_Lint_int_B2) (L := fun n x y => slices_IndexFunc_Lint_int_L2 n x.1 x.2.1.1.1 x.2.1.2.1.1 x.2.1.2.2.1.1 x.2.2.1 x.2.2.2.1) (tr := slices_IndexFunc_Lint_int_tr2) (m := fun x y => x.1.length + Int.toNat x.2.1.1.1 + x.2.1.2.1.1.length + x.2.1.2.2.1.1.length + Int.toNat x.2.2.1 + Int.toNat x.2.2.2.1 + 1) fun R K n x y => slices_IndexFunc_Lint_int_loop2 R K n x.1 x.2.1.1.1 x.2.1.2.1.1 x.2.1.2.2.1.1 x.2.2.1 x.2.2.2.1)
noncomputable def slices_IndexFunc_Lint_int (s : List Int) (f_0 : Int) (f_1 : List (List RowID)) (f_2 : List RowID) : Bool × Int := bnd (slices_IndexFunc_Lint_int_L2 (s.length + f_0.toNat + f_1.length + f_2.length + (Int.ofNat s.length).toNat + Int.toNat (0 : Int) + (1 : Nat)) s f_0 f_1 f_2 (Int.ofNat s.length) (0 : Int)) (fun r2 => bif isL r2 then (true, getL r2) else (true, (-1 : Int))) (false, default)
noncomputable def slices_IndexFunc_Lint_int_res (r : Int) : ARes ty := ⟨[.pure (.lit (.int .i64 r))], []⟩
theorem slices_IndexFunc_Lint_int_run (s : List Int) (f_0 : Int) (f_1 : List (List RowID)) (f_2 : List RowID) : runFn slices_IndexFunc_Lint_int_cx Tryz.f59 (body Tryz.f59) ⟨[.pure], []⟩ [.pure (.sl 3 s), .pure (.fn 34 [.bptr [.lit (.int .i64 f_0)] 0, .bptr [.sl 31 f_1] 0, .bptr [.sl 30 f_2] 0])] = out (fun r => some (slices_IndexFunc_Lint_int_res r)) (slices_IndexFunc_Lint_int s f_0 f_1 f_2) := by
  have h : runFn slices_IndexFunc_Lint_int_cx Tryz.f59 (body Tryz.f59) ⟨[.pure], []⟩ [.pure (.sl 3 s), .pure (.fn 34 [.bptr [.lit (.int .i64 f_0)] 0, .bptr [.sl 31 f_1] 0, .bptr [.sl 30 f_2] 0])] = obnd (slices_IndexFunc_Lint_int_L2 (s.length + f_0.toNat + f_1.length + f_2.length + (Int.ofNat s.length).toNat + Int.toNat (0 : Int) + (1 : Nat)) s f_0 f_1 f_2 (Int.ofNat s.length) (0 : Int)) (fun r3 => bif isL r3 then some ⟨[.pure (.lit (.int .i64 (getL r3)))], []⟩ else some ⟨[.pure (.lit (.int .i64 (-1 : Int)))], []⟩) := by kernel_rfl
  rw [slices_IndexFunc_Lint_int]
  exact h.trans (out_ite (out_ite (rfl) (rfl)) (rfl))
noncomputable def slices_IndexFunc_Lint_int_A : AL base (List Int × ((Int × Unit) × (List (List RowID) × Unit) × (List RowID × Unit) × Unit) × Unit) := aCons (aPure (vSl 3)) (aCons (aPure (vFn 34 (vCons (vBox (vCons (vInt .i64) vNil)) (vCons (vBox (vCons (vSl 31) vNil)) (vCons (vBox (vCons (vSl 30) vNil)) vNil))))) aNil)
noncomputable def slices_IndexFunc_Lint_int_spec : Ab.Spec ty := mkSpec slices_IndexFunc_Lint_int_A fun x => ((slices_IndexFunc_Lint_int x.1 x.2.1.1.1 x.2.1.2.1.1 x.2.1.2.2.1.1).1, slices_IndexFunc_Lint_int_res (slices_IndexFunc_Lint_int x.1 x.2.1.1.1 x.2.1.2.1.1 x.2.1.2.2.1.1).2)
theorem slices_IndexFunc_Lint_int_sound : Sound Tryz.prog base 59 slices_IndexFunc_Lint_int_spec :=
  sound_of_run (cx' := slices_IndexFunc_Lint_int_cx) draws base_ok ⟨⟨rfl, rfl, rfl, rfl, rfl, rfl⟩, rfl⟩ (spec_of [(34, rowset_Minimal_c1_spec)] ⟨(rowset_Minimal_c1_sound), trivial⟩) Tryz.call59 Tryz.func59 (c := body Tryz.f59) (by kernel_rfl) (loopsOK_of (l := [lp (body Tryz.f59) 0]) (by kernel_rfl) ⟨slices_IndexFunc_Lint_int_to2, trivial⟩) (sg := ⟨[.pure], []⟩) (A := slices_IndexFunc_Lint_int_A) (res := slices_IndexFunc_Lint_int_res) (F := fun x => slices_IndexFunc_Lint_int x.1 x.2.1.1.1 x.2.1.2.1.1 x.2.1.2.2.1.1) (fun x => slices_IndexFunc_Lint_int_run x.1 x.2.1.1.1 x.2.1.2.1.1 x.2.1.2.2.1.1) (fun _ => by kernel_rfl) (by kernel_rfl)
end Go.Proofs.YteopikhooiallaaGreatDoor
/- Functions of the program as plain functions, with their contracts. Printed by program. -/
set_option autoImplicit false
set_option linter.unusedVariables false
set_option linter.unusedSimpArgs false
namespace Go.Proofs.YteopikhooiallaaGreatDoor
open Go Go.Ab
/-! ### slices.ContainsFunc[[]int,int] -/
noncomputable def slices_ContainsFunc_Lint_int_cx : Cx ty := { base with nt := 9, spec := fun g => List.lookup g [(34, rowset_Minimal_c1_spec), (59, slices_IndexFunc_Lint_int_spec)], io := fun g => (List.lookup g []).getD [], head := fun i => (List.lookup i []).getD [], out := outOf [], loops := fun i => List.lookup i [] }
noncomputable def slices_ContainsFunc_Lint_int (s : List Int) (f_0 : Int) (f_1 : List (List RowID)) (f_2 : List RowID) : Bool × Bool := bnd (slices_IndexFunc_Lint_int s f_0 f_1 f_2) (fun r0 => (true, decide (r0 ≥ (0 : Int)))) (false, default)
noncomputable def slices_ContainsFunc_Lint_int_res (r : Bool) : ARes ty := ⟨[.pure (.lit (.bool r))], []⟩
theorem slices_ContainsFunc_Lint_int_run (s : List Int) (f_0 : Int) (f_1 : List (List RowID)) (f_2 : List RowID) : runFn slices_ContainsFunc_Lint_int_cx Tryz.f36 (body Tryz.f36) ⟨[.pure], []⟩ [.pure (.sl 3 s), .pure (.fn 34 [.bptr [.lit (.int .i64 f_0)] 0, .bptr [.sl 31 f_1] 0, .bptr [.sl 30 f_2] 0])] = out (fun r => some (slices_ContainsFunc_Lint_int_res r)) (slices_ContainsFunc_Lint_int s f_0 f_1 f_2) := by
  have h : runFn slices_ContainsFunc_Lint_int_cx Tryz.f36 (body Tryz.f36) ⟨[.pure], []⟩ [.pure (.sl 3 s), .pure (.fn 34 [.bptr [.lit (.int .i64 f_0)] 0, .bptr [.sl 31 f_1] 0, .bptr [.sl 30 f_2] 0])] = obnd (slices_IndexFunc_Lint_int s f_0 f_1 f_2) (fun r1 => some ⟨[.pure (.lit (.bool (decide (r1 ≥ (0 : Int)))))], []⟩) := by kernel_rfl
  rw [slices_ContainsFunc_Lint_int]
  exact h.trans (out_ite (rfl) (rfl))
noncomputable def slices_ContainsFunc_Lint_int_A : AL base (List Int × ((Int × Unit) × (List (List RowID) × Unit) × (List RowID × Unit) × Unit) × Unit) := aCons (aPure (vSl 3)) (aCons (aPure (vFn 34 (vCons (vBox (vCons (vInt .i64) vNil)) (vCons (vBox (vCons (vSl 31) vNil)) (vCons (vBox (vCons (vSl 30) vNil)) vNil))))) aNil)
noncomputable def slices_ContainsFunc_Lint_int_spec : Ab.Spec ty := mkSpec slices_ContainsFunc_Lint_int_A fun x => ((slices_ContainsFunc_Lint_int x.1 x.2.1.1.1 x.2.1.2.1.1 x.2.1.2.2.1.1).1, slices_ContainsFunc_Lint_int_res (slices_ContainsFunc_Lint_int x.1 x.2.1.1.1 x.2.1.2.1.1 x.2.1.2.2.1.1).2)
theorem slices_ContainsFunc_Lint_int_sound : Sound Tryz.prog base 36 slices_ContainsFunc_Lint_int_spec :=
  sound_of_run (cx' := slices_ContainsFunc_Lint_int_cx) draws base_ok ⟨⟨rfl, rfl, rfl, rfl, rfl, rfl⟩, rfl⟩ (spec_of [(34, rowset_Minimal_c1_spec), (59, slices_IndexFunc_Lint_int_spec)] ⟨(rowset_Minimal_c1_sound), (slices_IndexFunc_Lint_int_sound), trivial⟩) Tryz.call36 Tryz.func36 (c := body Tryz.f36) (by kernel_rfl) (loopsOK_of (l := []) (by kernel_rfl) trivial) (sg := ⟨[.pure], []⟩) (A := slices_ContainsFunc_Lint_int_A) (res := slices_ContainsFunc_Lint_int_res) (F := fun x => slices_ContainsFunc_Lint_int x.1 x.2.1.1.1 x.2.1.2.1.1 x.2.1.2.2.1.1) (fun x => slices_ContainsFunc_Lint_int_run x.1 x.2.1.1.1 x.2.1.2.1.1 x.2.1.2.2.1.1) (fun _ => by kernel_rfl) (by kernel_rfl)
end Go.Proofs.YteopikhooiallaaGreatDoor
/- Functions of the program as plain functions, with their contracts. Printed by program. -/
set_option autoImplicit false
set_option linter.unusedVariables false
set_option linter.unusedSimpArgs false
namespace Go.Proofs.YteopikhooiallaaGreatDoor
open Go Go.Ab
/-! ### lineage/rowset.Minimal -/
noncomputable def rowset_Minimal_L4 : Nat → Int → Int → List (List RowID) → List (List RowID) → Bool × List (List RowID)
  | 0, _, _, _, _ => (false, default)
  | n + 1, t11, t12, out_, t10 => bif decide (t12 < t11) then bif decide ((0 : Int) ≤ t12) && decide (t12 < Int.ofNat t10.length) then bnd (rowset_indices (Int.ofNat t10.length)) (fun r1 => bnd (slices_ContainsFunc_Lint_int r1 t12 t10 (t10.getD t12.toNat default)) (fun r0 => bif !r0 then bif decide ((out_.length + [t10.getD t12.toNat default].length) * (24 : Nat) ≤ reach) then rowset_Minimal_L4 n t11 (IntKind.i64.wrap (t12 + (1 : Int))) (out_ ++ [t10.getD t12.toNat default]) t10 else (false, default) else rowset_Minimal_L4 n t11 (IntKind.i64.wrap (t12 + (1 : Int))) out_ t10) (false, default)) (false, default) else (false, default) else (true, out_)
noncomputable def rowset_Minimal_tr4 (r : List (List RowID)) : LTree ty := .done (.exit 0) [.own 120] [.arr 31 r false]
noncomputable def rowset_Minimal_V4 : LL ty (Unit × Unit × Unit × Int × Int × Unit) := llCons (lPtrC 120 0) (llCons (lOwn 121) (llCons (lOwn 122) (llCons (lInt .i64) (llCons (lInt .i64) llNil))))
noncomputable def rowset_Minimal_B4 : BL ty ((Unit × Unit) × List (List RowID) × List (List RowID) × Unit) := bBox (llCons (lOwn 122) llNil) false (bArr 31 false (bArr 31 false (bNil)))
noncomputable def rowset_Minimal_sp4 : LSpec ty := mkLoop rowset_Minimal_V4 rowset_Minimal_B4 fun x y => ((rowset_Minimal_L4 (Int.toNat x.2.2.2.1 + Int.toNat x.2.2.2.2.1 + y.2.1.length + y.2.2.1.length + 1) x.2.2.2.1 x.2.2.2.2.1 y.2.1 y.2.2.1).1, rowset_Minimal_tr4 (rowset_Minimal_L4 (Int.toNat x.2.2.2.1 + Int.toNat x.2.2.2.2.1 + y.2.1.length + y.2.2.1.length + 1) x.2.2.2.1 x.2.2.2.2.1 y.2.1 y.2.2.1).2)
noncomputable def rowset_Minimal_cx : Cx ty := { base with nt := 30, spec := fun g => List.lookup g [(9, rowset_Family_spec), (34, rowset_Minimal_c1_spec), (36, slices_ContainsFunc_Lint_int_spec), (37, rowset_indices_spec)], io := fun g => (List.lookup g []).getD [], head := fun i => (List.lookup i [(4, [(3, .keep), (4, .own 31), (10, .keep), (11, .keep), (12, .keep)])]).getD [], out := outOf [(4, 1, [(4, .keep)])], loops := fun i => List.lookup i [(4, rowset_Minimal_sp4)] }
theorem rowset_Minimal_round4 {R : Type} (H : List (AV ty) → List (Blk ty) → Option R) (K : Ex → List (AV ty) → List (Blk ty) → Option R) (t11 : Int) (t12 : Int) (out_ : List (List RowID)) (t10 : List (List RowID)) : roundK rowset_Minimal_cx (lp (body Tryz.f11) 0) H K [.ptr 120 0, .own 121, .own 122, .lit (.int .i64 t11), .lit (.int .i64 t12)] [.box ([.own 122]) false, .arr 31 out_ false, .arr 31 t10 false] = bif decide (t12 < t11) then bif decide ((0 : Int) ≤ t12) && decide (t12 < Int.ofNat t10.length) then obnd (rowset_indices (Int.ofNat t10.length)) (fun r3 => obnd (slices_ContainsFunc_Lint_int r3 t12 t10 (t10.getD t12.toNat default)) (fun r2 => bif !r2 then bif decide ((out_.length + [t10.getD t12.toNat default].length) * (24 : Nat) ≤ reach) then H [.ptr 120 0, .own 121, .own 122, .lit (.int .i64 t11), .lit (.int .i64 (IntKind.i64.wrap (t12 + (1 : Int))))] [.box ([.own 122]) false, .arr 31 (out_ ++ [t10.getD t12.toNat default]) false, .arr 31 t10 false] else none else H [.ptr 120 0, .own 121, .own 122, .lit (.int .i64 t11), .lit (.int .i64 (IntKind.i64.wrap (t12 + (1 : Int))))] [.box ([.own 122]) false, .arr 31 out_ false, .arr 31 t10 false])) else none else K (.exit 0) [.own 120] [.arr 31 out_ false] := by kernel_rfl
theorem rowset_Minimal_loop4 (R : Type) (K : Ex → List (AV ty) → List (Blk ty) → Option R) : ∀ (n : Nat) (t11 : Int) (t12 : Int) (out_ : List (List RowID)) (t10 : List (List RowID)), loopI rowset_Minimal_cx (lp (body Tryz.f11) 0) K n [.ptr 120 0, .own 121, .own 122, .lit (.int .i64 t11), .lit (.int .i64 t12)] [.box ([.own 122]) false, .arr 31 out_ false, .arr 31 t10 false] = out (fun r => treeK K (rowset_Minimal_tr4 r)) (rowset_Minimal_L4 n t11 t12 out_ t10)
  | 0, _, _, _, _ => rfl
  | n + 1, t11, t12, out_, t10 => by
    have ih := rowset_Minimal_loop4 R K n
    rw [rowset_Minimal_L4]
    exact (rowset_Minimal_round4 (loopI rowset_Minimal_cx (lp (body Tryz.f11) 0) K n) K t11 t12 out_ t10).trans (out_ite (out_ite (out_ite (out_ite (out_ite (out_ite (ih t11 (IntKind.i64.wrap (t12 + (1 : Int))) (out_ ++ [t10.getD t12.toNat default]) t10) (rfl)) (ih t11 (IntKind.i64.wrap (t12 + (1 : Int))) out_ t10)) (rfl)) (rfl)) (rfl)) (rfl))
theorem rowset_Minimal_to4 : LoopOK rowset_Minimal_cx (lp (body Tryz.f11) 0) := loopOK_of (id := 4) (sp := rowset_Minimal_sp4) (by kernel_rfl) (by kernel_rfl) (loopTo_of (V := rowset_Minimal_V4) (B := rowset_Minimal_B4) (L := fun n x y => rowset_Minimal_L4 n x.2.2.2.1 x.2.2.2.2.1 y.2.1 y.2.2.1) (tr := rowset_Minimal_tr4) (m := fun x y => Int.toNat x.2.2.2.1 + Int.toNat x.2.2.2.2.1 + y.2.1.length + y.2.2.1.length + 1) fun R K n x y => rowset_Minimal_loop4 R K n x.2.2.2.1 x.2.2.2.2.1 y.2.1 y.2.2.1)
noncomputable def rowset_Minimal (l : List (List RowID)) : Bool × List (List RowID) := bnd (rowset_Family l) (fun r5 => bnd (rowset_Minimal_L4 ((Int.ofNat r5.length).toNat + Int.toNat (0 : Int) + (0 : Nat) + r5.length + (1 : Nat)) (Int.ofNat r5.length) (0 : Int) [] r5) (fun r4 => (true, r4)) (false, default)) (false, default)
noncomputable def rowset_Minimal_res (r : List (List RowID)) : ARes ty := ⟨[.own 31 r], []⟩
theorem rowset_Minimal_run (l : List (List RowID)) : runFn rowset_Minimal_cx Tryz.f11 (body Tryz.f11) ⟨[.own 31], []⟩ [.pure (.sl 31 l)] = out (fun r => some (rowset_Minimal_res r)) (rowset_Minimal l) := by
  have h : runFn rowset_Minimal_cx Tryz.f11 (body Tryz.f11) ⟨[.own 31], []⟩ [.pure (.sl 31 l)] = obnd (rowset_Family l) (fun r7 => obnd (rowset_Minimal_L4 ((Int.ofNat r7.length).toNat + Int.toNat (0 : Int) + (0 : Nat) + r7.length + (1 : Nat)) (Int.ofNat r7.length) (0 : Int) [] r7) (fun r6 => some ⟨[.own 31 (r6)], []⟩)) := by kernel_rfl
  rw [rowset_Minimal]
  exact h.trans (out_ite (out_ite (rfl) (rfl)) (rfl))
noncomputable def rowset_Minimal_A : AL base (List (List RowID) × Unit) := aCons (aPure (vSl 31)) aNil
noncomputable def rowset_Minimal_spec : Ab.Spec ty := mkSpec rowset_Minimal_A fun x => ((rowset_Minimal x.1).1, rowset_Minimal_res (rowset_Minimal x.1).2)
theorem rowset_Minimal_sound : Sound Tryz.prog base 11 rowset_Minimal_spec :=
  sound_of_run (cx' := rowset_Minimal_cx) draws base_ok ⟨⟨rfl, rfl, rfl, rfl, rfl, rfl⟩, rfl⟩ (spec_of [(9, rowset_Family_spec), (34, rowset_Minimal_c1_spec), (36, slices_ContainsFunc_Lint_int_spec), (37, rowset_indices_spec)] ⟨(rowset_Family_sound), (rowset_Minimal_c1_sound), (slices_ContainsFunc_Lint_int_sound), (rowset_indices_sound), trivial⟩) Tryz.call11 Tryz.func11 (c := body Tryz.f11) (by kernel_rfl) (loopsOK_of (l := [lp (body Tryz.f11) 0]) (by kernel_rfl) ⟨rowset_Minimal_to4, trivial⟩) (sg := ⟨[.own 31], []⟩) (A := rowset_Minimal_A) (res := rowset_Minimal_res) (F := fun x => rowset_Minimal x.1) (fun x => rowset_Minimal_run x.1) (fun _ => by kernel_rfl) (by kernel_rfl)
end Go.Proofs.YteopikhooiallaaGreatDoor
/- Functions of the program as plain functions, with their contracts. Printed by program. -/
set_option autoImplicit false
set_option linter.unusedVariables false
set_option linter.unusedSimpArgs false
namespace Go.Proofs.YteopikhooiallaaGreatDoor
open Go Go.Ab
/-! ### lineage/lineagelaw02.awake -/
noncomputable def law02_awake_cx : Cx ty := { base0 with nt := 40, spec := fun g => List.lookup g [(11, rowset_Minimal_spec), (21, rowset_Format_spec), (23, rowset_FormatSet_spec)], io := fun g => (List.lookup g []).getD [], head := fun i => (List.lookup i []).getD [], out := outOf [], loops := fun i => List.lookup i [] }
noncomputable def law02_awake  : Bool × Bool := (true, true)
noncomputable def law02_awake_res (r : Bool) : ARes ty := ⟨[.pure (.lit (.bool r))], []⟩
theorem law02_awake_run  : runFn law02_awake_cx Tryz.f6 (body Tryz.f6) ⟨[.pure], []⟩ [] = out (fun r => some (law02_awake_res r)) (law02_awake ) := by
  have h : runFn law02_awake_cx Tryz.f6 (body Tryz.f6) ⟨[.pure], []⟩ [] = some ⟨[.pure (.lit (.bool true))], []⟩ := by kernel_rfl
  rw [law02_awake]
  exact h.trans (rfl)
noncomputable def law02_awake_A : AL base0 (Unit) := aNil
noncomputable def law02_awake_spec : Ab.Spec ty := mkSpec law02_awake_A fun x => ((law02_awake ).1, law02_awake_res (law02_awake ).2)
theorem law02_awake_sound : Sound Tryz.prog base0 6 law02_awake_spec :=
  sound_of_run (cx' := law02_awake_cx) draws base0_ok ⟨⟨rfl, rfl, rfl, rfl, rfl, rfl⟩, rfl⟩ (spec_of [(11, rowset_Minimal_spec), (21, rowset_Format_spec), (23, rowset_FormatSet_spec)] ⟨(rowset_Minimal_sound.nodr), (rowset_Format_sound.nodr), (rowset_FormatSet_sound), trivial⟩) Tryz.call6 Tryz.func6 (c := body Tryz.f6) (by kernel_rfl) (loopsOK_of (l := []) (by kernel_rfl) trivial) (sg := ⟨[.pure], []⟩) (A := law02_awake_A) (res := law02_awake_res) (F := fun x => law02_awake ) (fun x => law02_awake_run ) (fun _ => by kernel_rfl) (by kernel_rfl)
end Go.Proofs.YteopikhooiallaaGreatDoor
/- Functions of the program as plain functions, with their contracts. Printed by program. -/
set_option autoImplicit false
set_option linter.unusedVariables false
set_option linter.unusedSimpArgs false
namespace Go.Proofs.YteopikhooiallaaGreatDoor
open Go Go.Ab
/-! ### lineage/lineageref02.Compare -/
noncomputable def ref02_Compare_cx : Cx ty := { base with nt := 27, spec := fun g => List.lookup g [], io := fun g => (List.lookup g []).getD [], head := fun i => (List.lookup i []).getD [], out := outOf [], loops := fun i => List.lookup i [] }
noncomputable def ref02_Compare (a : RowID) (b : RowID) : Bool × Int := bif a.Table == b.Table && (a.Seq == b.Seq && true) then (true, (0 : Int)) else bif decide (a.Table < b.Table) then (true, (-1 : Int)) else bif a.Table == b.Table then bif decide (a.Seq < b.Seq) then (true, (-1 : Int)) else (true, (1 : Int)) else (true, (1 : Int))
noncomputable def ref02_Compare_res (r : Int) : ARes ty := ⟨[.pure (.lit (.int .i64 r))], []⟩
theorem ref02_Compare_run (a : RowID) (b : RowID) : runFn ref02_Compare_cx Tryz.f20 (body Tryz.f20) ⟨[.pure], []⟩ [.pure (.agg (base.enc 30 a)), .pure (.agg (base.enc 30 b))] = out (fun r => some (ref02_Compare_res r)) (ref02_Compare a b) := by
  have h : runFn ref02_Compare_cx Tryz.f20 (body Tryz.f20) ⟨[.pure], []⟩ [.pure (.agg (base.enc 30 a)), .pure (.agg (base.enc 30 b))] = bif a.Table == b.Table && (a.Seq == b.Seq && true) then some ⟨[.pure (.lit (.int .i64 (0 : Int)))], []⟩ else bif decide (a.Table < b.Table) then some ⟨[.pure (.lit (.int .i64 (-1 : Int)))], []⟩ else bif a.Table == b.Table then bif decide (a.Seq < b.Seq) then some ⟨[.pure (.lit (.int .i64 (-1 : Int)))], []⟩ else some ⟨[.pure (.lit (.int .i64 (1 : Int)))], []⟩ else some ⟨[.pure (.lit (.int .i64 (1 : Int)))], []⟩ := by kernel_rfl
  rw [ref02_Compare]
  exact h.trans (out_ite (rfl) (out_ite (rfl) (out_ite (out_ite (rfl) (rfl)) (rfl))))
noncomputable def ref02_Compare_A : AL base (RowID × RowID × Unit) := aCons (aPure (vAgg 30)) (aCons (aPure (vAgg 30)) aNil)
noncomputable def ref02_Compare_spec : Ab.Spec ty := mkSpec ref02_Compare_A fun x => ((ref02_Compare x.1 x.2.1).1, ref02_Compare_res (ref02_Compare x.1 x.2.1).2)
theorem ref02_Compare_sound : Sound Tryz.prog base 20 ref02_Compare_spec :=
  sound_of_run (cx' := ref02_Compare_cx) draws base_ok ⟨⟨rfl, rfl, rfl, rfl, rfl, rfl⟩, rfl⟩ (spec_of [] trivial) Tryz.call20 Tryz.func20 (c := body Tryz.f20) (by kernel_rfl) (loopsOK_of (l := []) (by kernel_rfl) trivial) (sg := ⟨[.pure], []⟩) (A := ref02_Compare_A) (res := ref02_Compare_res) (F := fun x => ref02_Compare x.1 x.2.1) (fun x => ref02_Compare_run x.1 x.2.1) (fun _ => by kernel_rfl) (by kernel_rfl)
end Go.Proofs.YteopikhooiallaaGreatDoor
/- Functions of the program as plain functions, with their contracts. Printed by program. -/
set_option autoImplicit false
set_option linter.unusedVariables false
set_option linter.unusedSimpArgs false
namespace Go.Proofs.YteopikhooiallaaGreatDoor
open Go Go.Ab
/-! ### lineage/lineageref02.CompareSets -/
noncomputable def ref02_CompareSets_L2 : Nat → List RowID → List RowID → Int → Bool × (Int ⊕ (List RowID × List RowID))
  | 0, _, _, _ => (false, .inl default)
  | n + 1, a, b, i => bif decide (i < Int.ofNat a.length) then bif decide (i < Int.ofNat b.length) then bif decide ((0 : Int) ≤ i) && decide (i < Int.ofNat a.length) then bif decide ((0 : Int) ≤ i) && decide (i < Int.ofNat b.length) then bnd (ref02_Compare (a.getD i.toNat default) (b.getD i.toNat default)) (fun r0 => bif r0 != (0 : Int) then (true, .inl (r0)) else ref02_CompareSets_L2 n a b (IntKind.i64.wrap (i + (1 : Int)))) (false, .inl default) else (false, .inl default) else (false, .inl default) else (true, .inr (a, b)) else (true, .inr (a, b))
noncomputable def ref02_CompareSets_tr2 (r : Int ⊕ (List RowID × List RowID)) : LTree ty := .ite (isL r) (.done .ret [.lit (.int .i64 (getL r))] []) (.done (.exit 0) [.sl 30 ((getR r).1), .sl 30 ((getR r).2)] [])
noncomputable def ref02_CompareSets_V2 : LL ty (List RowID × List RowID × Int × Unit) := llCons (lSl 30) (llCons (lSl 30) (llCons (lInt .i64) llNil))
noncomputable def ref02_CompareSets_B2 : BL ty (Unit) := bNil
noncomputable def ref02_CompareSets_sp2 : LSpec ty := mkLoop ref02_CompareSets_V2 ref02_CompareSets_B2 fun x y => ((ref02_CompareSets_L2 (x.1.length + x.2.1.length + Int.toNat x.2.2.1 + 1) x.1 x.2.1 x.2.2.1).1, ref02_CompareSets_tr2 (ref02_CompareSets_L2 (x.1.length + x.2.1.length + Int.toNat x.2.2.1 + 1) x.1 x.2.1 x.2.2.1).2)
noncomputable def ref02_CompareSets_cx : Cx ty := { base with nt := 41, spec := fun g => List.lookup g [(20, ref02_Compare_spec)], io := fun g => (List.lookup g []).getD [], head := fun i => (List.lookup i [(2, [(0, .keep), (1, .keep), (5, .keep)])]).getD [], out := outOf [(2, 1, [(0, .keep), (1, .keep)]), (2, 0, [(4, .keep)])], loops := fun i => List.lookup i [(2, ref02_CompareSets_sp2)] }
theorem ref02_CompareSets_round2 {R : Type} (H : List (AV ty) → List (Blk ty) → Option R) (K : Ex → List (AV ty) → List (Blk ty) → Option R) (a : List RowID) (b : List RowID) (i : Int) : roundK ref02_CompareSets_cx (lp (body Tryz.f56) 0) H K [.sl 30 a, .sl 30 b, .lit (.int .i64 i)] [] = bif decide (i < Int.ofNat a.length) then bif decide (i < Int.ofNat b.length) then bif decide ((0 : Int) ≤ i) && decide (i < Int.ofNat a.length) then bif decide ((0 : Int) ≤ i) && decide (i < Int.ofNat b.length) then obnd (ref02_Compare (a.getD i.toNat default) (b.getD i.toNat default)) (fun r1 => bif r1 != (0 : Int) then K .ret [.lit (.int .i64 (r1))] [] else H [.sl 30 a, .sl 30 b, .lit (.int .i64 (IntKind.i64.wrap (i + (1 : Int))))] []) else none else none else K (.exit 0) [.sl 30 a, .sl 30 b] [] else K (.exit 0) [.sl 30 a, .sl 30 b] [] := by kernel_rfl
theorem ref02_CompareSets_loop2 (R : Type) (K : Ex → List (AV ty) → List (Blk ty) → Option R) : ∀ (n : Nat) (a : List RowID) (b : List RowID) (i : Int), loopI ref02_CompareSets_cx (lp (body Tryz.f56) 0) K n [.sl 30 a, .sl 30 b, .lit (.int .i64 i)] [] = out (fun r => treeK K (ref02_CompareSets_tr2 r)) (ref02_CompareSets_L2 n a b i)
  | 0, _, _, _ => rfl
  | n + 1, a, b, i => by
    have ih := ref02_CompareSets_loop2 R K n
    rw [ref02_CompareSets_L2]
    exact (ref02_CompareSets_round2 (loopI ref02_CompareSets_cx (lp (body Tryz.f56) 0) K n) K a b i).trans (out_ite (out_ite (out_ite (out_ite (out_ite (out_ite (rfl) (ih a b (IntKind.i64.wrap (i + (1 : Int))))) (rfl)) (rfl)) (rfl)) (rfl)) (rfl))
theorem ref02_CompareSets_to2 : LoopOK ref02_CompareSets_cx (lp (body Tryz.f56) 0) := loopOK_of (id := 2) (sp := ref02_CompareSets_sp2) (by kernel_rfl) (by kernel_rfl) (loopTo_of (V := ref02_CompareSets_V2) (B := ref02_CompareSets_B2) (L := fun n x y => ref02_CompareSets_L2 n x.1 x.2.1 x.2.2.1) (tr := ref02_CompareSets_tr2) (m := fun x y => x.1.length + x.2.1.length + Int.toNat x.2.2.1 + 1) fun R K n x y => ref02_CompareSets_loop2 R K n x.1 x.2.1 x.2.2.1)
noncomputable def ref02_CompareSets (a : List RowID) (b : List RowID) : Bool × Int := bnd (ref02_CompareSets_L2 (a.length + b.length + Int.toNat (0 : Int) + (1 : Nat)) a b (0 : Int)) (fun r2 => bif isL r2 then (true, getL r2) else bif decide (Int.ofNat (getR r2).fst.length < Int.ofNat (getR r2).snd.length) then (true, (-1 : Int)) else bif decide (Int.ofNat (getR r2).fst.length > Int.ofNat (getR r2).snd.length) then (true, (1 : Int)) else (true, (0 : Int))) (false, default)
noncomputable def ref02_CompareSets_res (r : Int) : ARes ty := ⟨[.pure (.lit (.int .i64 r))], []⟩
theorem ref02_CompareSets_run (a : List RowID) (b : List RowID) : runFn ref02_CompareSets_cx Tryz.f56 (body Tryz.f56) ⟨[.pure], []⟩ [.pure (.sl 30 a), .pure (.sl 30 b)] = out (fun r => some (ref02_CompareSets_res r)) (ref02_CompareSets a b) := by
  have h : runFn ref02_CompareSets_cx Tryz.f56 (body Tryz.f56) ⟨[.pure], []⟩ [.pure (.sl 30 a), .pure (.sl 30 b)] = obnd (ref02_CompareSets_L2 (a.length + b.length + Int.toNat (0 : Int) + (1 : Nat)) a b (0 : Int)) (fun r3 => bif isL r3 then some ⟨[.pure (.lit (.int .i64 (getL r3)))], []⟩ else bif decide (Int.ofNat (getR r3).fst.length < Int.ofNat (getR r3).snd.length) then some ⟨[.pure (.lit (.int .i64 (-1 : Int)))], []⟩ else bif decide (Int.ofNat (getR r3).fst.length > Int.ofNat (getR r3).snd.length) then some ⟨[.pure (.lit (.int .i64 (1 : Int)))], []⟩ else some ⟨[.pure (.lit (.int .i64 (0 : Int)))], []⟩) := by kernel_rfl
  rw [ref02_CompareSets]
  exact h.trans (out_ite (out_ite (rfl) (out_ite (rfl) (out_ite (rfl) (rfl)))) (rfl))
noncomputable def ref02_CompareSets_A : AL base (List RowID × List RowID × Unit) := aCons (aPure (vSl 30)) (aCons (aPure (vSl 30)) aNil)
noncomputable def ref02_CompareSets_spec : Ab.Spec ty := mkSpec ref02_CompareSets_A fun x => ((ref02_CompareSets x.1 x.2.1).1, ref02_CompareSets_res (ref02_CompareSets x.1 x.2.1).2)
theorem ref02_CompareSets_sound : Sound Tryz.prog base 56 ref02_CompareSets_spec :=
  sound_of_run (cx' := ref02_CompareSets_cx) draws base_ok ⟨⟨rfl, rfl, rfl, rfl, rfl, rfl⟩, rfl⟩ (spec_of [(20, ref02_Compare_spec)] ⟨(ref02_Compare_sound), trivial⟩) Tryz.call56 Tryz.func56 (c := body Tryz.f56) (by kernel_rfl) (loopsOK_of (l := [lp (body Tryz.f56) 0]) (by kernel_rfl) ⟨ref02_CompareSets_to2, trivial⟩) (sg := ⟨[.pure], []⟩) (A := ref02_CompareSets_A) (res := ref02_CompareSets_res) (F := fun x => ref02_CompareSets x.1 x.2.1) (fun x => ref02_CompareSets_run x.1 x.2.1) (fun _ => by kernel_rfl) (by kernel_rfl)
end Go.Proofs.YteopikhooiallaaGreatDoor
/- Functions of the program as plain functions, with their contracts. Printed by program. -/
set_option autoImplicit false
set_option linter.unusedVariables false
set_option linter.unusedSimpArgs false
namespace Go.Proofs.YteopikhooiallaaGreatDoor
open Go Go.Ab
/-! ### lineage/lineageref02.Add -/
noncomputable def ref02_Add_L4 : Nat → List (List RowID) → List RowID → Bool → Int → List (List RowID) → Bool × (List (List RowID) ⊕ (List RowID × Bool × List (List RowID)))
  | 0, _, _, _, _, _ => (false, .inl default)
  | n + 1, l, s, done, i, out_ => bif decide (i < Int.ofNat l.length) then bif decide ((0 : Int) ≤ i) && decide (i < Int.ofNat l.length) then bnd (ref02_CompareSets s (l.getD i.toNat default)) (fun r0 => bif r0 == (0 : Int) then (true, .inl l) else bif !done then bif decide (r0 < (0 : Int)) then bif decide ((out_.length + [s].length) * (24 : Nat) ≤ reach) then bif decide ((0 : Int) ≤ i) && decide (i < Int.ofNat l.length) then bif decide (((out_ ++ [s]).length + [l.getD i.toNat default].length) * (24 : Nat) ≤ reach) then ref02_Add_L4 n l s true (IntKind.i64.wrap (i + (1 : Int))) (out_ ++ [s] ++ [l.getD i.toNat default]) else (false, .inl default) else (false, .inl default) else (false, .inl default) else bif decide ((0 : Int) ≤ i) && decide (i < Int.ofNat l.length) then bif decide ((out_.length + [l.getD i.toNat default].length) * (24 : Nat) ≤ reach) then ref02_Add_L4 n l s done (IntKind.i64.wrap (i + (1 : Int))) (out_ ++ [l.getD i.toNat default]) else (false, .inl default) else (false, .inl default) else bif decide ((0 : Int) ≤ i) && decide (i < Int.ofNat l.length) then bif decide ((out_.length + [l.getD i.toNat default].length) * (24 : Nat) ≤ reach) then ref02_Add_L4 n l s done (IntKind.i64.wrap (i + (1 : Int))) (out_ ++ [l.getD i.toNat default]) else (false, .inl default) else (false, .inl default)) (false, .inl default) else (false, .inl default) else (true, .inr (s, done, out_))
noncomputable def ref02_Add_tr4 (r : List (List RowID) ⊕ (List RowID × Bool × List (List RowID))) : LTree ty := .ite (isL r) (.done .ret [.sl 31 (getL r)] []) (.done (.exit 0) [.sl 30 ((getR r).1), .own 196, .lit (.bool ((getR r).2.1))] [.arr 31 ((getR r).2.2) false])
noncomputable def ref02_Add_V4 : LL ty (List (List RowID) × List RowID × Unit × Bool × Int × Unit) := llCons (lSl 31) (llCons (lSl 30) (llCons (lOwn 196) (llCons lBool (llCons (lInt .i64) llNil))))
noncomputable def ref02_Add_B4 : BL ty (List (List RowID) × Unit) := bArr 31 false (bNil)
noncomputable def ref02_Add_sp4 : LSpec ty := mkLoop ref02_Add_V4 ref02_Add_B4 fun x y => ((ref02_Add_L4 (x.1.length + x.2.1.length + Int.toNat x.2.2.2.2.1 + y.1.length + 1) x.1 x.2.1 x.2.2.2.1 x.2.2.2.2.1 y.1).1, ref02_Add_tr4 (ref02_Add_L4 (x.1.length + x.2.1.length + Int.toNat x.2.2.2.2.1 + y.1.length + 1) x.1 x.2.1 x.2.2.2.1 x.2.2.2.2.1 y.1).2)
noncomputable def ref02_Add_cx : Cx ty := { base with nt := 49, spec := fun g => List.lookup g [(56, ref02_CompareSets_spec)], io := fun g => (List.lookup g []).getD [], head := fun i => (List.lookup i [(4, [(0, .keep), (1, .keep), (5, .keep), (6, .keep), (7, .keep)])]).getD [], out := outOf [(4, 1, [(1, .keep), (5, .keep), (6, .keep)]), (4, 0, [(4, .keep)])], loops := fun i => List.lookup i [(4, ref02_Add_sp4)] }
theorem ref02_Add_round4 {R : Type} (H : List (AV ty) → List (Blk ty) → Option R) (K : Ex → List (AV ty) → List (Blk ty) → Option R) (l : List (List RowID)) (s : List RowID) (done : Bool) (i : Int) (out_ : List (List RowID)) : roundK ref02_Add_cx (lp (body Tryz.f32) 0) H K [.sl 31 l, .sl 30 s, .own 196, .lit (.bool done), .lit (.int .i64 i)] [.arr 31 out_ false] = bif decide (i < Int.ofNat l.length) then bif decide ((0 : Int) ≤ i) && decide (i < Int.ofNat l.length) then obnd (ref02_CompareSets s (l.getD i.toNat default)) (fun r1 => bif r1 == (0 : Int) then K .ret [.sl 31 l] [] else bif !done then bif decide (r1 < (0 : Int)) then bif decide ((out_.length + [s].length) * (24 : Nat) ≤ reach) then bif decide ((0 : Int) ≤ i) && decide (i < Int.ofNat l.length) then bif decide (((out_ ++ [s]).length + [l.getD i.toNat default].length) * (24 : Nat) ≤ reach) then H [.sl 31 l, .sl 30 s, .own 196, .lit (.bool true), .lit (.int .i64 (IntKind.i64.wrap (i + (1 : Int))))] [.arr 31 (out_ ++ [s] ++ [l.getD i.toNat default]) false] else none else none else none else bif decide ((0 : Int) ≤ i) && decide (i < Int.ofNat l.length) then bif decide ((out_.length + [l.getD i.toNat default].length) * (24 : Nat) ≤ reach) then H [.sl 31 l, .sl 30 s, .own 196, .lit (.bool done), .lit (.int .i64 (IntKind.i64.wrap (i + (1 : Int))))] [.arr 31 (out_ ++ [l.getD i.toNat default]) false] else none else none else bif decide ((0 : Int) ≤ i) && decide (i < Int.ofNat l.length) then bif decide ((out_.length + [l.getD i.toNat default].length) * (24 : Nat) ≤ reach) then H [.sl 31 l, .sl 30 s, .own 196, .lit (.bool done), .lit (.int .i64 (IntKind.i64.wrap (i + (1 : Int))))] [.arr 31 (out_ ++ [l.getD i.toNat default]) false] else none else none) else none else K (.exit 0) [.sl 30 s, .own 196, .lit (.bool done)] [.arr 31 out_ false] := by kernel_rfl
theorem ref02_Add_loop4 (R : Type) (K : Ex → List (AV ty) → List (Blk ty) → Option R) : ∀ (n : Nat) (l : List (List RowID)) (s : List RowID) (done : Bool) (i : Int) (out_ : List (List RowID)), loopI ref02_Add_cx (lp (body Tryz.f32) 0) K n [.sl 31 l, .sl 30 s, .own 196, .lit (.bool done), .lit (.int .i64 i)] [.arr 31 out_ false] = out (fun r => treeK K (ref02_Add_tr4 r)) (ref02_Add_L4 n l s done i out_)
  | 0, _, _, _, _, _ => rfl
  | n + 1, l, s, done, i, out_ => by
    have ih := ref02_Add_loop4 R K n
    rw [ref02_Add_L4]
    exact (ref02_Add_round4 (loopI ref02_Add_cx (lp (body Tryz.f32) 0) K n) K l s done i out_).trans (out_ite (out_ite (out_ite (out_ite (rfl) (out_ite (out_ite (out_ite (out_ite (out_ite (ih l s true (IntKind.i64.wrap (i + (1 : Int))) (out_ ++ [s] ++ [l.getD i.toNat default])) (rfl)) (rfl)) (rfl)) (out_ite (out_ite (ih l s done (IntKind.i64.wrap (i + (1 : Int))) (out_ ++ [l.getD i.toNat default])) (rfl)) (rfl))) (out_ite (out_ite (ih l s done (IntKind.i64.wrap (i + (1 : Int))) (out_ ++ [l.getD i.toNat default])) (rfl)) (rfl)))) (rfl)) (rfl)) (rfl))
theorem ref02_Add_to4 : LoopOK ref02_Add_cx (lp (body Tryz.f32) 0) := loopOK_of (id := 4) (sp := ref02_Add_sp4) (by kernel_rfl) (by kernel_rfl) (loopTo_of (V := ref02_Add_V4) (B := ref02_Add_B4) (L := fun n x y => ref02_Add_L4 n x.1 x.2.1 x.2.2.2.1 x.2.2.2.2.1 y.1) (tr := ref02_Add_tr4) (m := fun x y => x.1.length + x.2.1.length + Int.toNat x.2.2.2.2.1 + y.1.length + 1) fun R K n x y => ref02_Add_loop4 R K n x.1 x.2.1 x.2.2.2.1 x.2.2.2.2.1 y.1)
noncomputable def ref02_Add (l : List (List RowID)) (s : List RowID) : Bool × List (List RowID) := bnd (ref02_Add_L4 (l.length + s.length + Int.toNat (0 : Int) + (0 : Nat) + (1 : Nat)) l s false (0 : Int) []) (fun r2 => bif isL r2 then (true, getL r2) else bif !(getR r2).snd.fst then bif decide (((getR r2).snd.snd.length + [(getR r2).fst].length) * (24 : Nat) ≤ reach) then (true, (getR r2).snd.snd ++ [(getR r2).fst]) else (false, default) else (true, (getR r2).snd.snd)) (false, default)
noncomputable def ref02_Add_res (r : List (List RowID)) : ARes ty := ⟨[.pure (.sl 31 r)], []⟩
theorem ref02_Add_run (l : List (List RowID)) (s : List RowID) : runFn ref02_Add_cx Tryz.f32 (body Tryz.f32) ⟨[.pure], []⟩ [.pure (.sl 31 l), .pure (.sl 30 s)] = out (fun r => some (ref02_Add_res r)) (ref02_Add l s) := by
  have h : runFn ref02_Add_cx Tryz.f32 (body Tryz.f32) ⟨[.pure], []⟩ [.pure (.sl 31 l), .pure (.sl 30 s)] = obnd (ref02_Add_L4 (l.length + s.length + Int.toNat (0 : Int) + (0 : Nat) + (1 : Nat)) l s false (0 : Int) []) (fun r3 => bif isL r3 then some ⟨[.pure (.sl 31 (getL r3))], []⟩ else bif !(getR r3).snd.fst then bif decide (((getR r3).snd.snd.length + [(getR r3).fst].length) * (24 : Nat) ≤ reach) then some ⟨[.pure (.sl 31 ((getR r3).snd.snd ++ [(getR r3).fst]))], []⟩ else none else some ⟨[.pure (.sl 31 ((getR r3).snd.snd))], []⟩) := by kernel_rfl
  rw [ref02_Add]
  exact h.trans (out_ite (out_ite (rfl) (out_ite (out_ite (rfl) (rfl)) (rfl))) (rfl))
noncomputable def ref02_Add_A : AL base (List (List RowID) × List RowID × Unit) := aCons (aPure (vSl 31)) (aCons (aPure (vSl 30)) aNil)
noncomputable def ref02_Add_spec : Ab.Spec ty := mkSpec ref02_Add_A fun x => ((ref02_Add x.1 x.2.1).1, ref02_Add_res (ref02_Add x.1 x.2.1).2)
theorem ref02_Add_sound : Sound Tryz.prog base 32 ref02_Add_spec :=
  sound_of_run (cx' := ref02_Add_cx) draws base_ok ⟨⟨rfl, rfl, rfl, rfl, rfl, rfl⟩, rfl⟩ (spec_of [(56, ref02_CompareSets_spec)] ⟨(ref02_CompareSets_sound), trivial⟩) Tryz.call32 Tryz.func32 (c := body Tryz.f32) (by kernel_rfl) (loopsOK_of (l := [lp (body Tryz.f32) 0]) (by kernel_rfl) ⟨ref02_Add_to4, trivial⟩) (sg := ⟨[.pure], []⟩) (A := ref02_Add_A) (res := ref02_Add_res) (F := fun x => ref02_Add x.1 x.2.1) (fun x => ref02_Add_run x.1 x.2.1) (fun _ => by kernel_rfl) (by kernel_rfl)
end Go.Proofs.YteopikhooiallaaGreatDoor
/- Functions of the program as plain functions, with their contracts. Printed by program. -/
set_option autoImplicit false
set_option linter.unusedVariables false
set_option linter.unusedSimpArgs false
namespace Go.Proofs.YteopikhooiallaaGreatDoor
open Go Go.Ab
/-! ### lineage/lineageref02.In -/
noncomputable def ref02_In_L2 : Nat → List RowID → Int → RowID → Bool × (Bool ⊕ Unit)
  | 0, _, _, _ => (false, .inl default)
  | n + 1, l, i, id => bif decide (i < Int.ofNat l.length) then bif decide ((0 : Int) ≤ i) && decide (i < Int.ofNat l.length) then bif (l.getD i.toNat default).Table == id.Table && ((l.getD i.toNat default).Seq == id.Seq && true) then (true, .inl true) else ref02_In_L2 n l (IntKind.i64.wrap (i + (1 : Int))) id else (false, .inl default) else (true, .inr ())
noncomputable def ref02_In_tr2 (r : Bool ⊕ Unit) : LTree ty := .ite (isL r) (.done .ret [.lit (.bool (getL r))] []) (.done (.exit 0) [] [])
noncomputable def ref02_In_V2 : LL ty (List RowID × Unit × Int × Unit) := llCons (lSl 30) (llCons (lPtrC 72 0) (llCons (lInt .i64) llNil))
noncomputable def ref02_In_B2 : BL ty (RowID × Unit) := bBox (llMap (fun x => (⟨x.1, x.2.1⟩ : RowID)) (fun x => (x.Table, x.Seq, ())) (fun _ => rfl) (llCons (lInt .i64) (llCons (lInt .i64) llNil))) false (bNil)
noncomputable def ref02_In_sp2 : LSpec ty := mkLoop ref02_In_V2 ref02_In_B2 fun x y => ((ref02_In_L2 (x.1.length + Int.toNat x.2.2.1 + 1) x.1 x.2.2.1 y.1).1, ref02_In_tr2 (ref02_In_L2 (x.1.length + Int.toNat x.2.2.1 + 1) x.1 x.2.2.1 y.1).2)
noncomputable def ref02_In_cx : Cx ty := { base with nt := 18, spec := fun g => List.lookup g [], io := fun g => (List.lookup g []).getD [], head := fun i => (List.lookup i [(2, [(0, .keep), (3, .keep), (5, .keep)])]).getD [], out := outOf [(2, 1, []), (2, 0, [(4, .keep)])], loops := fun i => List.lookup i [(2, ref02_In_sp2)] }
theorem ref02_In_round2 {R : Type} (H : List (AV ty) → List (Blk ty) → Option R) (K : Ex → List (AV ty) → List (Blk ty) → Option R) (l : List RowID) (i : Int) (id : RowID) : roundK ref02_In_cx (lp (body Tryz.f60) 0) H K [.sl 30 l, .ptr 72 0, .lit (.int .i64 i)] [.box (base.enc 30 id) false] = bif decide (i < Int.ofNat l.length) then bif decide ((0 : Int) ≤ i) && decide (i < Int.ofNat l.length) then bif (l.getD i.toNat default).Table == id.Table && ((l.getD i.toNat default).Seq == id.Seq && true) then K .ret [.lit (.bool true)] [] else H [.sl 30 l, .ptr 72 0, .lit (.int .i64 (IntKind.i64.wrap (i + (1 : Int))))] [.box (base.enc 30 id) false] else none else K (.exit 0) [] [] := by kernel_rfl
theorem ref02_In_loop2 (R : Type) (K : Ex → List (AV ty) → List (Blk ty) → Option R) : ∀ (n : Nat) (l : List RowID) (i : Int) (id : RowID), loopI ref02_In_cx (lp (body Tryz.f60) 0) K n [.sl 30 l, .ptr 72 0, .lit (.int .i64 i)] [.box (base.enc 30 id) false] = out (fun r => treeK K (ref02_In_tr2 r)) (ref02_In_L2 n l i id)
  | 0, _, _, _ => rfl
  | n + 1, l, i, id => by
    have ih := ref02_In_loop2 R K n
    rw [ref02_In_L2]
    exact (ref02_In_round2 (loopI ref02_In_cx (lp (body Tryz.f60) 0) K n) K l i id).trans (out_ite (out_ite (out_ite (rfl) (ih l (IntKind.i64.wrap (i + (1 : Int))) id)) (rfl)) (rfl))
theorem ref02_In_to2 : LoopOK ref02_In_cx (lp (body Tryz.f60) 0) := loopOK_of (id := 2) (sp := ref02_In_sp2) (by kernel_rfl) (by kernel_rfl) (loopTo_of (V := ref02_In_V2) (B := ref02_In_B2) (L := fun n x y => ref02_In_L2 n x.1 x.2.2.1 y.1) (tr := ref02_In_tr2) (m := fun x y => x.1.length + Int.toNat x.2.2.1 + 1) fun R K n x y => ref02_In_loop2 R K n x.1 x.2.2.1 y.1)
noncomputable def ref02_In (l : List RowID) (id : RowID) : Bool × Bool := bnd (ref02_In_L2 (l.length + Int.toNat (0 : Int) + (1 : Nat)) l (0 : Int) id) (fun r0 => bif isL r0 then (true, getL r0) else (true, false)) (false, default)
noncomputable def ref02_In_res (r : Bool) : ARes ty := ⟨[.pure (.lit (.bool r))], []⟩
theorem ref02_In_run (l : List RowID) (id : RowID) : runFn ref02_In_cx Tryz.f60 (body Tryz.f60) ⟨[.pure], []⟩ [.pure (.sl 30 l), .pure (.agg (base.enc 30 id))] = out (fun r => some (ref02_In_res r)) (ref02_In l id) := by
  have h : runFn ref02_In_cx Tryz.f60 (body Tryz.f60) ⟨[.pure], []⟩ [.pure (.sl 30 l), .pure (.agg (base.enc 30 id))] = obnd (ref02_In_L2 (l.length + Int.toNat (0 : Int) + (1 : Nat)) l (0 : Int) id) (fun r1 => bif isL r1 then some ⟨[.pure (.lit (.bool (getL r1)))], []⟩ else some ⟨[.pure (.lit (.bool false))], []⟩) := by kernel_rfl
  rw [ref02_In]
  exact h.trans (out_ite (out_ite (rfl) (rfl)) (rfl))
noncomputable def ref02_In_A : AL base (List RowID × RowID × Unit) := aCons (aPure (vSl 30)) (aCons (aPure (vAgg 30)) aNil)
noncomputable def ref02_In_spec : Ab.Spec ty := mkSpec ref02_In_A fun x => ((ref02_In x.1 x.2.1).1, ref02_In_res (ref02_In x.1 x.2.1).2)
theorem ref02_In_sound : Sound Tryz.prog base 60 ref02_In_spec :=
  sound_of_run (cx' := ref02_In_cx) draws base_ok ⟨⟨rfl, rfl, rfl, rfl, rfl, rfl⟩, rfl⟩ (spec_of [] trivial) Tryz.call60 Tryz.func60 (c := body Tryz.f60) (by kernel_rfl) (loopsOK_of (l := [lp (body Tryz.f60) 0]) (by kernel_rfl) ⟨ref02_In_to2, trivial⟩) (sg := ⟨[.pure], []⟩) (A := ref02_In_A) (res := ref02_In_res) (F := fun x => ref02_In x.1 x.2.1) (fun x => ref02_In_run x.1 x.2.1) (fun _ => by kernel_rfl) (by kernel_rfl)
end Go.Proofs.YteopikhooiallaaGreatDoor
/- Functions of the program as plain functions, with their contracts. Printed by program. -/
set_option autoImplicit false
set_option linter.unusedVariables false
set_option linter.unusedSimpArgs false
namespace Go.Proofs.YteopikhooiallaaGreatDoor
open Go Go.Ab
/-! ### lineage/lineageref02.insert -/
noncomputable def ref02_insert_L6 : Nat → List RowID → Bool → Int → RowID → List RowID → Bool × (Bool × RowID × List RowID)
  | 0, _, _, _, _, _ => (false, default)
  | n + 1, l, done, i, id, out_ => bif decide (i < Int.ofNat l.length) then bif !done then bif decide ((0 : Int) ≤ i) && decide (i < Int.ofNat l.length) then bnd (ref02_Compare id (l.getD i.toNat default)) (fun r0 => bif decide (r0 < (0 : Int)) then bif decide ((out_.length + [id].length) * (16 : Nat) ≤ reach) then bif decide ((0 : Int) ≤ i) && decide (i < Int.ofNat l.length) then bif decide (((out_ ++ [id]).length + [l.getD i.toNat default].length) * (16 : Nat) ≤ reach) then ref02_insert_L6 n l true (IntKind.i64.wrap (i + (1 : Int))) id (out_ ++ [id] ++ [l.getD i.toNat default]) else (false, default) else (false, default) else (false, default) else bif decide ((0 : Int) ≤ i) && decide (i < Int.ofNat l.length) then bif decide ((out_.length + [l.getD i.toNat default].length) * (16 : Nat) ≤ reach) then ref02_insert_L6 n l done (IntKind.i64.wrap (i + (1 : Int))) id (out_ ++ [l.getD i.toNat default]) else (false, default) else (false, default)) (false, default) else (false, default) else bif decide ((0 : Int) ≤ i) && decide (i < Int.ofNat l.length) then bif decide ((out_.length + [l.getD i.toNat default].length) * (16 : Nat) ≤ reach) then ref02_insert_L6 n l done (IntKind.i64.wrap (i + (1 : Int))) id (out_ ++ [l.getD i.toNat default]) else (false, default) else (false, default) else (true, (done, id, out_))
noncomputable def ref02_insert_tr6 (r : Bool × RowID × List RowID) : LTree ty := .done (.exit 0) [.ptr 192 0, .own 193, .lit (.bool r.1)] [.box (base.enc 30 r.2.1) false, .arr 30 r.2.2 false]
noncomputable def ref02_insert_V6 : LL ty (List RowID × Unit × Unit × Bool × Int × Unit) := llCons (lSl 30) (llCons (lPtrC 192 0) (llCons (lOwn 193) (llCons lBool (llCons (lInt .i64) llNil))))
noncomputable def ref02_insert_B6 : BL ty (RowID × List RowID × Unit) := bBox (llMap (fun x => (⟨x.1, x.2.1⟩ : RowID)) (fun x => (x.Table, x.Seq, ())) (fun _ => rfl) (llCons (lInt .i64) (llCons (lInt .i64) llNil))) false (bArr 30 false (bNil))
noncomputable def ref02_insert_sp6 : LSpec ty := mkLoop ref02_insert_V6 ref02_insert_B6 fun x y => ((ref02_insert_L6 (x.1.length + Int.toNat x.2.2.2.2.1 + y.2.1.length + 1) x.1 x.2.2.2.1 x.2.2.2.2.1 y.1 y.2.1).1, ref02_insert_tr6 (ref02_insert_L6 (x.1.length + Int.toNat x.2.2.2.2.1 + y.2.1.length + 1) x.1 x.2.2.2.1 x.2.2.2.2.1 y.1 y.2.1).2)
noncomputable def ref02_insert_cx : Cx ty := { base with nt := 48, spec := fun g => List.lookup g [(20, ref02_Compare_spec), (60, ref02_In_spec)], io := fun g => (List.lookup g []).getD [], head := fun i => (List.lookup i [(6, [(0, .keep), (3, .keep), (5, .keep), (6, .keep), (7, .keep)])]).getD [], out := outOf [(6, 1, [(3, .keep), (5, .keep), (6, .keep)])], loops := fun i => List.lookup i [(6, ref02_insert_sp6)] }
theorem ref02_insert_round6 {R : Type} (H : List (AV ty) → List (Blk ty) → Option R) (K : Ex → List (AV ty) → List (Blk ty) → Option R) (l : List RowID) (done : Bool) (i : Int) (id : RowID) (out_ : List RowID) : roundK ref02_insert_cx (lp (body Tryz.f57) 0) H K [.sl 30 l, .ptr 192 0, .own 193, .lit (.bool done), .lit (.int .i64 i)] [.box (base.enc 30 id) false, .arr 30 out_ false] = bif decide (i < Int.ofNat l.length) then bif !done then bif decide ((0 : Int) ≤ i) && decide (i < Int.ofNat l.length) then obnd (ref02_Compare id (l.getD i.toNat default)) (fun r1 => bif decide (r1 < (0 : Int)) then bif decide ((out_.length + [id].length) * (16 : Nat) ≤ reach) then bif decide ((0 : Int) ≤ i) && decide (i < Int.ofNat l.length) then bif decide (((out_ ++ [id]).length + [l.getD i.toNat default].length) * (16 : Nat) ≤ reach) then H [.sl 30 l, .ptr 192 0, .own 193, .lit (.bool true), .lit (.int .i64 (IntKind.i64.wrap (i + (1 : Int))))] [.box (base.enc 30 id) false, .arr 30 (out_ ++ [id] ++ [l.getD i.toNat default]) false] else none else none else none else bif decide ((0 : Int) ≤ i) && decide (i < Int.ofNat l.length) then bif decide ((out_.length + [l.getD i.toNat default].length) * (16 : Nat) ≤ reach) then H [.sl 30 l, .ptr 192 0, .own 193, .lit (.bool done), .lit (.int .i64 (IntKind.i64.wrap (i + (1 : Int))))] [.box (base.enc 30 id) false, .arr 30 (out_ ++ [l.getD i.toNat default]) false] else none else none) else none else bif decide ((0 : Int) ≤ i) && decide (i < Int.ofNat l.length) then bif decide ((out_.length + [l.getD i.toNat default].length) * (16 : Nat) ≤ reach) then H [.sl 30 l, .ptr 192 0, .own 193, .lit (.bool done), .lit (.int .i64 (IntKind.i64.wrap (i + (1 : Int))))] [.box (base.enc 30 id) false, .arr 30 (out_ ++ [l.getD i.toNat default]) false] else none else none else K (.exit 0) [.ptr 192 0, .own 193, .lit (.bool done)] [.box (base.enc 30 id) false, .arr 30 out_ false] := by kernel_rfl
theorem ref02_insert_loop6 (R : Type) (K : Ex → List (AV ty) → List (Blk ty) → Option R) : ∀ (n : Nat) (l : List RowID) (done : Bool) (i : Int) (id : RowID) (out_ : List RowID), loopI ref02_insert_cx (lp (body Tryz.f57) 0) K n [.sl 30 l, .ptr 192 0, .own 193, .lit (.bool done), .lit (.int .i64 i)] [.box (base.enc 30 id) false, .arr 30 out_ false] = out (fun r => treeK K (ref02_insert_tr6 r)) (ref02_insert_L6 n l done i id out_)
  | 0, _, _, _, _, _ => rfl
  | n + 1, l, done, i, id, out_ => by
    have ih := ref02_insert_loop6 R K n
    rw [ref02_insert_L6]
    exact (ref02_insert_round6 (loopI ref02_insert_cx (lp (body Tryz.f57) 0) K n) K l done i id out_).trans (out_ite (out_ite (out_ite (out_ite (out_ite (out_ite (out_ite (out_ite (ih l true (IntKind.i64.wrap (i + (1 : Int))) id (out_ ++ [id] ++ [l.getD i.toNat default])) (rfl)) (rfl)) (rfl)) (out_ite (out_ite (ih l done (IntKind.i64.wrap (i + (1 : Int))) id (out_ ++ [l.getD i.toNat default])) (rfl)) (rfl))) (rfl)) (rfl)) (out_ite (out_ite (ih l done (IntKind.i64.wrap (i + (1 : Int))) id (out_ ++ [l.getD i.toNat default])) (rfl)) (rfl))) (rfl))
theorem ref02_insert_to6 : LoopOK ref02_insert_cx (lp (body Tryz.f57) 0) := loopOK_of (id := 6) (sp := ref02_insert_sp6) (by kernel_rfl) (by kernel_rfl) (loopTo_of (V := ref02_insert_V6) (B := ref02_insert_B6) (L := fun n x y => ref02_insert_L6 n x.1 x.2.2.2.1 x.2.2.2.2.1 y.1 y.2.1) (tr := ref02_insert_tr6) (m := fun x y => x.1.length + Int.toNat x.2.2.2.2.1 + y.2.1.length + 1) fun R K n x y => ref02_insert_loop6 R K n x.1 x.2.2.2.1 x.2.2.2.2.1 y.1 y.2.1)
noncomputable def ref02_insert (l : List RowID) (id : RowID) : Bool × List RowID := bnd (ref02_In l id) (fun r3 => bif r3 then (true, l) else bnd (ref02_insert_L6 (l.length + Int.toNat (0 : Int) + (0 : Nat) + (1 : Nat)) l false (0 : Int) id []) (fun r2 => bif !r2.fst then bif decide ((r2.snd.snd.length + [r2.snd.fst].length) * (16 : Nat) ≤ reach) then (true, r2.snd.snd ++ [r2.snd.fst]) else (false, default) else (true, r2.snd.snd)) (false, default)) (false, default)
noncomputable def ref02_insert_res (r : List RowID) : ARes ty := ⟨[.pure (.sl 30 r)], []⟩
theorem ref02_insert_run (l : List RowID) (id : RowID) : runFn ref02_insert_cx Tryz.f57 (body Tryz.f57) ⟨[.pure], []⟩ [.pure (.sl 30 l), .pure (.agg (base.enc 30 id))] = out (fun r => some (ref02_insert_res r)) (ref02_insert l id) := by
  have h : runFn ref02_insert_cx Tryz.f57 (body Tryz.f57) ⟨[.pure], []⟩ [.pure (.sl 30 l), .pure (.agg (base.enc 30 id))] = obnd (ref02_In l id) (fun r5 => bif r5 then some ⟨[.pure (.sl 30 l)], []⟩ else obnd (ref02_insert_L6 (l.length + Int.toNat (0 : Int) + (0 : Nat) + (1 : Nat)) l false (0 : Int) id []) (fun r4 => bif !r4.fst then bif decide ((r4.snd.snd.length + [r4.snd.fst].length) * (16 : Nat) ≤ reach) then some ⟨[.pure (.sl 30 (r4.snd.snd ++ [r4.snd.fst]))], []⟩ else none else some ⟨[.pure (.sl 30 (r4.snd.snd))], []⟩)) := by kernel_rfl
  rw [ref02_insert]
  exact h.trans (out_ite (out_ite (rfl) (out_ite (out_ite (out_ite (rfl) (rfl)) (rfl)) (rfl))) (rfl))
noncomputable def ref02_insert_A : AL base (List RowID × RowID × Unit) := aCons (aPure (vSl 30)) (aCons (aPure (vAgg 30)) aNil)
noncomputable def ref02_insert_spec : Ab.Spec ty := mkSpec ref02_insert_A fun x => ((ref02_insert x.1 x.2.1).1, ref02_insert_res (ref02_insert x.1 x.2.1).2)
theorem ref02_insert_sound : Sound Tryz.prog base 57 ref02_insert_spec :=
  sound_of_run (cx' := ref02_insert_cx) draws base_ok ⟨⟨rfl, rfl, rfl, rfl, rfl, rfl⟩, rfl⟩ (spec_of [(20, ref02_Compare_spec), (60, ref02_In_spec)] ⟨(ref02_Compare_sound), (ref02_In_sound), trivial⟩) Tryz.call57 Tryz.func57 (c := body Tryz.f57) (by kernel_rfl) (loopsOK_of (l := [lp (body Tryz.f57) 0]) (by kernel_rfl) ⟨ref02_insert_to6, trivial⟩) (sg := ⟨[.pure], []⟩) (A := ref02_insert_A) (res := ref02_insert_res) (F := fun x => ref02_insert x.1 x.2.1) (fun x => ref02_insert_run x.1 x.2.1) (fun _ => by kernel_rfl) (by kernel_rfl)
end Go.Proofs.YteopikhooiallaaGreatDoor
/- Functions of the program as plain functions, with their contracts. Printed by program. -/
set_option autoImplicit false
set_option linter.unusedVariables false
set_option linter.unusedSimpArgs false
namespace Go.Proofs.YteopikhooiallaaGreatDoor
open Go Go.Ab
/-! ### lineage/lineageref02.Normalize -/
noncomputable def ref02_Normalize_L3 : Nat → List RowID → List RowID → Int → Bool × List RowID
  | 0, _, _, _ => (false, default)
  | n + 1, l, out_, i => bif decide (i < Int.ofNat l.length) then bif decide ((0 : Int) ≤ i) && decide (i < Int.ofNat l.length) then bnd (ref02_insert out_ (l.getD i.toNat default)) (fun r0 => ref02_Normalize_L3 n l (r0) (IntKind.i64.wrap (i + (1 : Int)))) (false, default) else (false, default) else (true, out_)
noncomputable def ref02_Normalize_tr3 (r : List RowID) : LTree ty := .done (.exit 0) [.sl 30 r] []
noncomputable def ref02_Normalize_V3 : LL ty (List RowID × List RowID × Int × Unit) := llCons (lSl 30) (llCons (lSl 30) (llCons (lInt .i64) llNil))
noncomputable def ref02_Normalize_B3 : BL ty (Unit) := bNil
noncomputable def ref02_Normalize_sp3 : LSpec ty := mkLoop ref02_Normalize_V3 ref02_Normalize_B3 fun x y => ((ref02_Normalize_L3 (x.1.length + x.2.1.length + Int.toNat x.2.2.1 + 1) x.1 x.2.1 x.2.2.1).1, ref02_Normalize_tr3 (ref02_Normalize_L3 (x.1.length + x.2.1.length + Int.toNat x.2.2.1 + 1) x.1 x.2.1 x.2.2.1).2)
noncomputable def ref02_Normalize_cx : Cx ty := { base with nt := 19, spec := fun g => List.lookup g [(57, ref02_insert_spec)], io := fun g => (List.lookup g []).getD [], head := fun i => (List.lookup i [(3, [(0, .keep), (3, .sl 30), (4, .keep)])]).getD [], out := outOf [(3, 1, [(3, .keep)])], loops := fun i => List.lookup i [(3, ref02_Normalize_sp3)] }
theorem ref02_Normalize_round3 {R : Type} (H : List (AV ty) → List (Blk ty) → Option R) (K : Ex → List (AV ty) → List (Blk ty) → Option R) (l : List RowID) (out_ : List RowID) (i : Int) : roundK ref02_Normalize_cx (lp (body Tryz.f33) 0) H K [.sl 30 l, .sl 30 out_, .lit (.int .i64 i)] [] = bif decide (i < Int.ofNat l.length) then bif decide ((0 : Int) ≤ i) && decide (i < Int.ofNat l.length) then obnd (ref02_insert out_ (l.getD i.toNat default)) (fun r1 => H [.sl 30 l, .sl 30 (r1), .lit (.int .i64 (IntKind.i64.wrap (i + (1 : Int))))] []) else none else K (.exit 0) [.sl 30 out_] [] := by kernel_rfl
theorem ref02_Normalize_loop3 (R : Type) (K : Ex → List (AV ty) → List (Blk ty) → Option R) : ∀ (n : Nat) (l : List RowID) (out_ : List RowID) (i : Int), loopI ref02_Normalize_cx (lp (body Tryz.f33) 0) K n [.sl 30 l, .sl 30 out_, .lit (.int .i64 i)] [] = out (fun r => treeK K (ref02_Normalize_tr3 r)) (ref02_Normalize_L3 n l out_ i)
  | 0, _, _, _ => rfl
  | n + 1, l, out_, i => by
    have ih := ref02_Normalize_loop3 R K n
    rw [ref02_Normalize_L3]
    exact (ref02_Normalize_round3 (loopI ref02_Normalize_cx (lp (body Tryz.f33) 0) K n) K l out_ i).trans (out_ite (out_ite (out_ite (ih l ((ref02_insert out_ (l.getD i.toNat default)).snd) (IntKind.i64.wrap (i + (1 : Int)))) (rfl)) (rfl)) (rfl))
theorem ref02_Normalize_to3 : LoopOK ref02_Normalize_cx (lp (body Tryz.f33) 0) := loopOK_of (id := 3) (sp := ref02_Normalize_sp3) (by kernel_rfl) (by kernel_rfl) (loopTo_of (V := ref02_Normalize_V3) (B := ref02_Normalize_B3) (L := fun n x y => ref02_Normalize_L3 n x.1 x.2.1 x.2.2.1) (tr := ref02_Normalize_tr3) (m := fun x y => x.1.length + x.2.1.length + Int.toNat x.2.2.1 + 1) fun R K n x y => ref02_Normalize_loop3 R K n x.1 x.2.1 x.2.2.1)
noncomputable def ref02_Normalize (l : List RowID) : Bool × List RowID := bnd (ref02_Normalize_L3 (l.length + (0 : Nat) + Int.toNat (0 : Int) + (1 : Nat)) l [] (0 : Int)) (fun r2 => (true, r2)) (false, default)
noncomputable def ref02_Normalize_res (r : List RowID) : ARes ty := ⟨[.pure (.sl 30 r)], []⟩
theorem ref02_Normalize_run (l : List RowID) : runFn ref02_Normalize_cx Tryz.f33 (body Tryz.f33) ⟨[.pure], []⟩ [.pure (.sl 30 l)] = out (fun r => some (ref02_Normalize_res r)) (ref02_Normalize l) := by
  have h : runFn ref02_Normalize_cx Tryz.f33 (body Tryz.f33) ⟨[.pure], []⟩ [.pure (.sl 30 l)] = obnd (ref02_Normalize_L3 (l.length + (0 : Nat) + Int.toNat (0 : Int) + (1 : Nat)) l [] (0 : Int)) (fun r3 => some ⟨[.pure (.sl 30 (r3))], []⟩) := by kernel_rfl
  rw [ref02_Normalize]
  exact h.trans (out_ite (rfl) (rfl))
noncomputable def ref02_Normalize_A : AL base (List RowID × Unit) := aCons (aPure (vSl 30)) aNil
noncomputable def ref02_Normalize_spec : Ab.Spec ty := mkSpec ref02_Normalize_A fun x => ((ref02_Normalize x.1).1, ref02_Normalize_res (ref02_Normalize x.1).2)
theorem ref02_Normalize_sound : Sound Tryz.prog base 33 ref02_Normalize_spec :=
  sound_of_run (cx' := ref02_Normalize_cx) draws base_ok ⟨⟨rfl, rfl, rfl, rfl, rfl, rfl⟩, rfl⟩ (spec_of [(57, ref02_insert_spec)] ⟨(ref02_insert_sound), trivial⟩) Tryz.call33 Tryz.func33 (c := body Tryz.f33) (by kernel_rfl) (loopsOK_of (l := [lp (body Tryz.f33) 0]) (by kernel_rfl) ⟨ref02_Normalize_to3, trivial⟩) (sg := ⟨[.pure], []⟩) (A := ref02_Normalize_A) (res := ref02_Normalize_res) (F := fun x => ref02_Normalize x.1) (fun x => ref02_Normalize_run x.1) (fun _ => by kernel_rfl) (by kernel_rfl)
end Go.Proofs.YteopikhooiallaaGreatDoor
/- Functions of the program as plain functions, with their contracts. Printed by program. -/
set_option autoImplicit false
set_option linter.unusedVariables false
set_option linter.unusedSimpArgs false
namespace Go.Proofs.YteopikhooiallaaGreatDoor
open Go Go.Ab
/-! ### lineage/lineageref02.Family -/
noncomputable def ref02_Family_L3 : Nat → List (List RowID) → List (List RowID) → Int → Bool × List (List RowID)
  | 0, _, _, _ => (false, default)
  | n + 1, l, out_, i => bif decide (i < Int.ofNat l.length) then bif decide ((0 : Int) ≤ i) && decide (i < Int.ofNat l.length) then bnd (ref02_Normalize (l.getD i.toNat default)) (fun r1 => bnd (ref02_Add out_ r1) (fun r0 => ref02_Family_L3 n l (r0) (IntKind.i64.wrap (i + (1 : Int)))) (false, default)) (false, default) else (false, default) else (true, out_)
noncomputable def ref02_Family_tr3 (r : List (List RowID)) : LTree ty := .done (.exit 0) [.sl 31 r] []
noncomputable def ref02_Family_V3 : LL ty (List (List RowID) × List (List RowID) × Int × Unit) := llCons (lSl 31) (llCons (lSl 31) (llCons (lInt .i64) llNil))
noncomputable def ref02_Family_B3 : BL ty (Unit) := bNil
noncomputable def ref02_Family_sp3 : LSpec ty := mkLoop ref02_Family_V3 ref02_Family_B3 fun x y => ((ref02_Family_L3 (x.1.length + x.2.1.length + Int.toNat x.2.2.1 + 1) x.1 x.2.1 x.2.2.1).1, ref02_Family_tr3 (ref02_Family_L3 (x.1.length + x.2.1.length + Int.toNat x.2.2.1 + 1) x.1 x.2.1 x.2.2.1).2)
noncomputable def ref02_Family_cx : Cx ty := { base with nt := 20, spec := fun g => List.lookup g [(32, ref02_Add_spec), (33, ref02_Normalize_spec)], io := fun g => (List.lookup g []).getD [], head := fun i => (List.lookup i [(3, [(0, .keep), (3, .sl 31), (4, .keep)])]).getD [], out := outOf [(3, 1, [(3, .keep)])], loops := fun i => List.lookup i [(3, ref02_Family_sp3)] }
theorem ref02_Family_round3 {R : Type} (H : List (AV ty) → List (Blk ty) → Option R) (K : Ex → List (AV ty) → List (Blk ty) → Option R) (l : List (List RowID)) (out_ : List (List RowID)) (i : Int) : roundK ref02_Family_cx (lp (body Tryz.f10) 0) H K [.sl 31 l, .sl 31 out_, .lit (.int .i64 i)] [] = bif decide (i < Int.ofNat l.length) then bif decide ((0 : Int) ≤ i) && decide (i < Int.ofNat l.length) then obnd (ref02_Normalize (l.getD i.toNat default)) (fun r3 => obnd (ref02_Add out_ r3) (fun r2 => H [.sl 31 l, .sl 31 (r2), .lit (.int .i64 (IntKind.i64.wrap (i + (1 : Int))))] [])) else none else K (.exit 0) [.sl 31 out_] [] := by kernel_rfl
theorem ref02_Family_loop3 (R : Type) (K : Ex → List (AV ty) → List (Blk ty) → Option R) : ∀ (n : Nat) (l : List (List RowID)) (out_ : List (List RowID)) (i : Int), loopI ref02_Family_cx (lp (body Tryz.f10) 0) K n [.sl 31 l, .sl 31 out_, .lit (.int .i64 i)] [] = out (fun r => treeK K (ref02_Family_tr3 r)) (ref02_Family_L3 n l out_ i)
  | 0, _, _, _ => rfl
  | n + 1, l, out_, i => by
    have ih := ref02_Family_loop3 R K n
    rw [ref02_Family_L3]
    exact (ref02_Family_round3 (loopI ref02_Family_cx (lp (body Tryz.f10) 0) K n) K l out_ i).trans (out_ite (out_ite (out_ite (out_ite (ih l ((ref02_Add out_ (ref02_Normalize (l.getD i.toNat default)).snd).snd) (IntKind.i64.wrap (i + (1 : Int)))) (rfl)) (rfl)) (rfl)) (rfl))
theorem ref02_Family_to3 : LoopOK ref02_Family_cx (lp (body Tryz.f10) 0) := loopOK_of (id := 3) (sp := ref02_Family_sp3) (by kernel_rfl) (by kernel_rfl) (loopTo_of (V := ref02_Family_V3) (B := ref02_Family_B3) (L := fun n x y => ref02_Family_L3 n x.1 x.2.1 x.2.2.1) (tr := ref02_Family_tr3) (m := fun x y => x.1.length + x.2.1.length + Int.toNat x.2.2.1 + 1) fun R K n x y => ref02_Family_loop3 R K n x.1 x.2.1 x.2.2.1)
noncomputable def ref02_Family (l : List (List RowID)) : Bool × List (List RowID) := bnd (ref02_Family_L3 (l.length + (0 : Nat) + Int.toNat (0 : Int) + (1 : Nat)) l [] (0 : Int)) (fun r4 => (true, r4)) (false, default)
noncomputable def ref02_Family_res (r : List (List RowID)) : ARes ty := ⟨[.pure (.sl 31 r)], []⟩
theorem ref02_Family_run (l : List (List RowID)) : runFn ref02_Family_cx Tryz.f10 (body Tryz.f10) ⟨[.pure], []⟩ [.pure (.sl 31 l)] = out (fun r => some (ref02_Family_res r)) (ref02_Family l) := by
  have h : runFn ref02_Family_cx Tryz.f10 (body Tryz.f10) ⟨[.pure], []⟩ [.pure (.sl 31 l)] = obnd (ref02_Family_L3 (l.length + (0 : Nat) + Int.toNat (0 : Int) + (1 : Nat)) l [] (0 : Int)) (fun r5 => some ⟨[.pure (.sl 31 (r5))], []⟩) := by kernel_rfl
  rw [ref02_Family]
  exact h.trans (out_ite (rfl) (rfl))
noncomputable def ref02_Family_A : AL base (List (List RowID) × Unit) := aCons (aPure (vSl 31)) aNil
noncomputable def ref02_Family_spec : Ab.Spec ty := mkSpec ref02_Family_A fun x => ((ref02_Family x.1).1, ref02_Family_res (ref02_Family x.1).2)
theorem ref02_Family_sound : Sound Tryz.prog base 10 ref02_Family_spec :=
  sound_of_run (cx' := ref02_Family_cx) draws base_ok ⟨⟨rfl, rfl, rfl, rfl, rfl, rfl⟩, rfl⟩ (spec_of [(32, ref02_Add_spec), (33, ref02_Normalize_spec)] ⟨(ref02_Add_sound), (ref02_Normalize_sound), trivial⟩) Tryz.call10 Tryz.func10 (c := body Tryz.f10) (by kernel_rfl) (loopsOK_of (l := [lp (body Tryz.f10) 0]) (by kernel_rfl) ⟨ref02_Family_to3, trivial⟩) (sg := ⟨[.pure], []⟩) (A := ref02_Family_A) (res := ref02_Family_res) (F := fun x => ref02_Family x.1) (fun x => ref02_Family_run x.1) (fun _ => by kernel_rfl) (by kernel_rfl)
end Go.Proofs.YteopikhooiallaaGreatDoor
/- Functions of the program as plain functions, with their contracts. Printed by program. -/
set_option autoImplicit false
set_option linter.unusedVariables false
set_option linter.unusedSimpArgs false
namespace Go.Proofs.YteopikhooiallaaGreatDoor
open Go Go.Ab
/-! ### lineage/lineageref02.Few -/
noncomputable def ref02_Few_L4 : Nat → List (List RowID) → Int → Int → Bool × (Bool ⊕ Unit)
  | 0, _, _, _ => (false, .inl default)
  | n + 1, l, most, i => bif decide (i < Int.ofNat l.length) then bif decide ((0 : Int) ≤ i) && decide (i < Int.ofNat l.length) then bif decide (Int.ofNat (List.length (l.getD i.toNat default)) > most) then (true, .inl false) else ref02_Few_L4 n l most (IntKind.i64.wrap (i + (1 : Int))) else (false, .inl default) else (true, .inr ())
noncomputable def ref02_Few_tr4 (r : Bool ⊕ Unit) : LTree ty := .ite (isL r) (.done .ret [.lit (.bool (getL r))] []) (.done (.exit 0) [] [])
noncomputable def ref02_Few_V4 : LL ty (List (List RowID) × Int × Int × Unit) := llCons (lSl 31) (llCons (lInt .i64) (llCons (lInt .i64) llNil))
noncomputable def ref02_Few_B4 : BL ty (Unit) := bNil
noncomputable def ref02_Few_sp4 : LSpec ty := mkLoop ref02_Few_V4 ref02_Few_B4 fun x y => ((ref02_Few_L4 (x.1.length + Int.toNat x.2.1 + Int.toNat x.2.2.1 + 1) x.1 x.2.1 x.2.2.1).1, ref02_Few_tr4 (ref02_Few_L4 (x.1.length + Int.toNat x.2.1 + Int.toNat x.2.2.1 + 1) x.1 x.2.1 x.2.2.1).2)
noncomputable def ref02_Few_cx : Cx ty := { base with nt := 25, spec := fun g => List.lookup g [], io := fun g => (List.lookup g []).getD [], head := fun i => (List.lookup i [(4, [(0, .keep), (2, .keep), (7, .keep)])]).getD [], out := outOf [(4, 1, []), (4, 0, [(6, .keep)])], loops := fun i => List.lookup i [(4, ref02_Few_sp4)] }
theorem ref02_Few_round4 {R : Type} (H : List (AV ty) → List (Blk ty) → Option R) (K : Ex → List (AV ty) → List (Blk ty) → Option R) (l : List (List RowID)) (most : Int) (i : Int) : roundK ref02_Few_cx (lp (body Tryz.f7) 0) H K [.sl 31 l, .lit (.int .i64 most), .lit (.int .i64 i)] [] = bif decide (i < Int.ofNat l.length) then bif decide ((0 : Int) ≤ i) && decide (i < Int.ofNat l.length) then bif decide (Int.ofNat (List.length (l.getD i.toNat default)) > most) then K .ret [.lit (.bool false)] [] else H [.sl 31 l, .lit (.int .i64 most), .lit (.int .i64 (IntKind.i64.wrap (i + (1 : Int))))] [] else none else K (.exit 0) [] [] := by kernel_rfl
theorem ref02_Few_loop4 (R : Type) (K : Ex → List (AV ty) → List (Blk ty) → Option R) : ∀ (n : Nat) (l : List (List RowID)) (most : Int) (i : Int), loopI ref02_Few_cx (lp (body Tryz.f7) 0) K n [.sl 31 l, .lit (.int .i64 most), .lit (.int .i64 i)] [] = out (fun r => treeK K (ref02_Few_tr4 r)) (ref02_Few_L4 n l most i)
  | 0, _, _, _ => rfl
  | n + 1, l, most, i => by
    have ih := ref02_Few_loop4 R K n
    rw [ref02_Few_L4]
    exact (ref02_Few_round4 (loopI ref02_Few_cx (lp (body Tryz.f7) 0) K n) K l most i).trans (out_ite (out_ite (out_ite (rfl) (ih l most (IntKind.i64.wrap (i + (1 : Int))))) (rfl)) (rfl))
theorem ref02_Few_to4 : LoopOK ref02_Few_cx (lp (body Tryz.f7) 0) := loopOK_of (id := 4) (sp := ref02_Few_sp4) (by kernel_rfl) (by kernel_rfl) (loopTo_of (V := ref02_Few_V4) (B := ref02_Few_B4) (L := fun n x y => ref02_Few_L4 n x.1 x.2.1 x.2.2.1) (tr := ref02_Few_tr4) (m := fun x y => x.1.length + Int.toNat x.2.1 + Int.toNat x.2.2.1 + 1) fun R K n x y => ref02_Few_loop4 R K n x.1 x.2.1 x.2.2.1)
noncomputable def ref02_Few (l : List (List RowID)) (sets : Int) (most : Int) : Bool × Bool := bif decide (Int.ofNat l.length > sets) then (true, false) else bnd (ref02_Few_L4 (l.length + most.toNat + Int.toNat (0 : Int) + (1 : Nat)) l most (0 : Int)) (fun r0 => bif isL r0 then (true, getL r0) else (true, true)) (false, default)
noncomputable def ref02_Few_res (r : Bool) : ARes ty := ⟨[.pure (.lit (.bool r))], []⟩
theorem ref02_Few_run (l : List (List RowID)) (sets : Int) (most : Int) : runFn ref02_Few_cx Tryz.f7 (body Tryz.f7) ⟨[.pure], []⟩ [.pure (.sl 31 l), .pure (.lit (.int .i64 sets)), .pure (.lit (.int .i64 most))] = out (fun r => some (ref02_Few_res r)) (ref02_Few l sets most) := by
  have h : runFn ref02_Few_cx Tryz.f7 (body Tryz.f7) ⟨[.pure], []⟩ [.pure (.sl 31 l), .pure (.lit (.int .i64 sets)), .pure (.lit (.int .i64 most))] = bif decide (Int.ofNat l.length > sets) then some ⟨[.pure (.lit (.bool false))], []⟩ else obnd (ref02_Few_L4 (l.length + most.toNat + Int.toNat (0 : Int) + (1 : Nat)) l most (0 : Int)) (fun r1 => bif isL r1 then some ⟨[.pure (.lit (.bool (getL r1)))], []⟩ else some ⟨[.pure (.lit (.bool true))], []⟩) := by kernel_rfl
  rw [ref02_Few]
  exact h.trans (out_ite (rfl) (out_ite (out_ite (rfl) (rfl)) (rfl)))
noncomputable def ref02_Few_A : AL base (List (List RowID) × Int × Int × Unit) := aCons (aPure (vSl 31)) (aCons (aPure (vInt .i64)) (aCons (aPure (vInt .i64)) aNil))
noncomputable def ref02_Few_spec : Ab.Spec ty := mkSpec ref02_Few_A fun x => ((ref02_Few x.1 x.2.1 x.2.2.1).1, ref02_Few_res (ref02_Few x.1 x.2.1 x.2.2.1).2)
theorem ref02_Few_sound : Sound Tryz.prog base 7 ref02_Few_spec :=
  sound_of_run (cx' := ref02_Few_cx) draws base_ok ⟨⟨rfl, rfl, rfl, rfl, rfl, rfl⟩, rfl⟩ (spec_of [] trivial) Tryz.call7 Tryz.func7 (c := body Tryz.f7) (by kernel_rfl) (loopsOK_of (l := [lp (body Tryz.f7) 0]) (by kernel_rfl) ⟨ref02_Few_to4, trivial⟩) (sg := ⟨[.pure], []⟩) (A := ref02_Few_A) (res := ref02_Few_res) (F := fun x => ref02_Few x.1 x.2.1 x.2.2.1) (fun x => ref02_Few_run x.1 x.2.1 x.2.2.1) (fun _ => by kernel_rfl) (by kernel_rfl)
end Go.Proofs.YteopikhooiallaaGreatDoor
/- Functions of the program as plain functions, with their contracts. Printed by program. -/
set_option autoImplicit false
set_option linter.unusedVariables false
set_option linter.unusedSimpArgs false
namespace Go.Proofs.YteopikhooiallaaGreatDoor
open Go Go.Ab
/-! ### lineage/lineageref02.Subset -/
noncomputable def ref02_Subset_L2 : Nat → List RowID → List RowID → Int → Bool × (Bool ⊕ Unit)
  | 0, _, _, _ => (false, .inl default)
  | n + 1, a, b, i => bif decide (i < Int.ofNat a.length) then bif decide ((0 : Int) ≤ i) && decide (i < Int.ofNat a.length) then bnd (ref02_In b (a.getD i.toNat default)) (fun r0 => bif !r0 then (true, .inl false) else ref02_Subset_L2 n a b (IntKind.i64.wrap (i + (1 : Int)))) (false, .inl default) else (false, .inl default) else (true, .inr ())
noncomputable def ref02_Subset_tr2 (r : Bool ⊕ Unit) : LTree ty := .ite (isL r) (.done .ret [.lit (.bool (getL r))] []) (.done (.exit 0) [] [])
noncomputable def ref02_Subset_V2 : LL ty (List RowID × List RowID × Int × Unit) := llCons (lSl 30) (llCons (lSl 30) (llCons (lInt .i64) llNil))
noncomputable def ref02_Subset_B2 : BL ty (Unit) := bNil
noncomputable def ref02_Subset_sp2 : LSpec ty := mkLoop ref02_Subset_V2 ref02_Subset_B2 fun x y => ((ref02_Subset_L2 (x.1.length + x.2.1.length + Int.toNat x.2.2.1 + 1) x.1 x.2.1 x.2.2.1).1, ref02_Subset_tr2 (ref02_Subset_L2 (x.1.length + x.2.1.length + Int.toNat x.2.2.1 + 1) x.1 x.2.1 x.2.2.1).2)
noncomputable def ref02_Subset_cx : Cx ty := { base with nt := 19, spec := fun g => List.lookup g [(60, ref02_In_spec)], io := fun g => (List.lookup g []).getD [], head := fun i => (List.lookup i [(2, [(0, .keep), (1, .keep), (5, .keep)])]).getD [], out := outOf [(2, 1, []), (2, 0, [(4, .keep)])], loops := fun i => List.lookup i [(2, ref02_Subset_sp2)] }
theorem ref02_Subset_round2 {R : Type} (H : List (AV ty) → List (Blk ty) → Option R) (K : Ex → List (AV ty) → List (Blk ty) → Option R) (a : List RowID) (b : List RowID) (i : Int) : roundK ref02_Subset_cx (lp (body Tryz.f38) 0) H K [.sl 30 a, .sl 30 b, .lit (.int .i64 i)] [] = bif decide (i < Int.ofNat a.length) then bif decide ((0 : Int) ≤ i) && decide (i < Int.ofNat a.length) then obnd (ref02_In b (a.getD i.toNat default)) (fun r1 => bif !r1 then K .ret [.lit (.bool false)] [] else H [.sl 30 a, .sl 30 b, .lit (.int .i64 (IntKind.i64.wrap (i + (1 : Int))))] []) else none else K (.exit 0) [] [] := by kernel_rfl
theorem ref02_Subset_loop2 (R : Type) (K : Ex → List (AV ty) → List (Blk ty) → Option R) : ∀ (n : Nat) (a : List RowID) (b : List RowID) (i : Int), loopI ref02_Subset_cx (lp (body Tryz.f38) 0) K n [.sl 30 a, .sl 30 b, .lit (.int .i64 i)] [] = out (fun r => treeK K (ref02_Subset_tr2 r)) (ref02_Subset_L2 n a b i)
  | 0, _, _, _ => rfl
  | n + 1, a, b, i => by
    have ih := ref02_Subset_loop2 R K n
    rw [ref02_Subset_L2]
    exact (ref02_Subset_round2 (loopI ref02_Subset_cx (lp (body Tryz.f38) 0) K n) K a b i).trans (out_ite (out_ite (out_ite (out_ite (rfl) (ih a b (IntKind.i64.wrap (i + (1 : Int))))) (rfl)) (rfl)) (rfl))
theorem ref02_Subset_to2 : LoopOK ref02_Subset_cx (lp (body Tryz.f38) 0) := loopOK_of (id := 2) (sp := ref02_Subset_sp2) (by kernel_rfl) (by kernel_rfl) (loopTo_of (V := ref02_Subset_V2) (B := ref02_Subset_B2) (L := fun n x y => ref02_Subset_L2 n x.1 x.2.1 x.2.2.1) (tr := ref02_Subset_tr2) (m := fun x y => x.1.length + x.2.1.length + Int.toNat x.2.2.1 + 1) fun R K n x y => ref02_Subset_loop2 R K n x.1 x.2.1 x.2.2.1)
noncomputable def ref02_Subset (a : List RowID) (b : List RowID) : Bool × Bool := bnd (ref02_Subset_L2 (a.length + b.length + Int.toNat (0 : Int) + (1 : Nat)) a b (0 : Int)) (fun r2 => bif isL r2 then (true, getL r2) else (true, true)) (false, default)
noncomputable def ref02_Subset_res (r : Bool) : ARes ty := ⟨[.pure (.lit (.bool r))], []⟩
theorem ref02_Subset_run (a : List RowID) (b : List RowID) : runFn ref02_Subset_cx Tryz.f38 (body Tryz.f38) ⟨[.pure], []⟩ [.pure (.sl 30 a), .pure (.sl 30 b)] = out (fun r => some (ref02_Subset_res r)) (ref02_Subset a b) := by
  have h : runFn ref02_Subset_cx Tryz.f38 (body Tryz.f38) ⟨[.pure], []⟩ [.pure (.sl 30 a), .pure (.sl 30 b)] = obnd (ref02_Subset_L2 (a.length + b.length + Int.toNat (0 : Int) + (1 : Nat)) a b (0 : Int)) (fun r3 => bif isL r3 then some ⟨[.pure (.lit (.bool (getL r3)))], []⟩ else some ⟨[.pure (.lit (.bool true))], []⟩) := by kernel_rfl
  rw [ref02_Subset]
  exact h.trans (out_ite (out_ite (rfl) (rfl)) (rfl))
noncomputable def ref02_Subset_A : AL base (List RowID × List RowID × Unit) := aCons (aPure (vSl 30)) (aCons (aPure (vSl 30)) aNil)
noncomputable def ref02_Subset_spec : Ab.Spec ty := mkSpec ref02_Subset_A fun x => ((ref02_Subset x.1 x.2.1).1, ref02_Subset_res (ref02_Subset x.1 x.2.1).2)
theorem ref02_Subset_sound : Sound Tryz.prog base 38 ref02_Subset_spec :=
  sound_of_run (cx' := ref02_Subset_cx) draws base_ok ⟨⟨rfl, rfl, rfl, rfl, rfl, rfl⟩, rfl⟩ (spec_of [(60, ref02_In_spec)] ⟨(ref02_In_sound), trivial⟩) Tryz.call38 Tryz.func38 (c := body Tryz.f38) (by kernel_rfl) (loopsOK_of (l := [lp (body Tryz.f38) 0]) (by kernel_rfl) ⟨ref02_Subset_to2, trivial⟩) (sg := ⟨[.pure], []⟩) (A := ref02_Subset_A) (res := ref02_Subset_res) (F := fun x => ref02_Subset x.1 x.2.1) (fun x => ref02_Subset_run x.1 x.2.1) (fun _ => by kernel_rfl) (by kernel_rfl)
end Go.Proofs.YteopikhooiallaaGreatDoor
/- Functions of the program as plain functions, with their contracts. Printed by program. -/
set_option autoImplicit false
set_option linter.unusedVariables false
set_option linter.unusedSimpArgs false
namespace Go.Proofs.YteopikhooiallaaGreatDoor
open Go Go.Ab
/-! ### lineage/lineageref02.Minimal -/
noncomputable def ref02_Minimal_L8 : Nat → List (List RowID) → Int → Bool → Int → List (List RowID) → Bool × (List (List RowID) × Int × Bool × List (List RowID))
  | 0, _, _, _, _, _ => (false, default)
  | n + 1, all, i, least, k, out_ => bif decide (k < Int.ofNat all.length) then bif k != i then bif decide ((0 : Int) ≤ k) && decide (k < Int.ofNat all.length) then bif decide ((0 : Int) ≤ i) && decide (i < Int.ofNat all.length) then bnd (ref02_Subset (all.getD k.toNat default) (all.getD i.toNat default)) (fun r0 => bif r0 then ref02_Minimal_L8 n all i false (IntKind.i64.wrap (k + (1 : Int))) out_ else ref02_Minimal_L8 n all i least (IntKind.i64.wrap (k + (1 : Int))) out_) (false, default) else (false, default) else (false, default) else ref02_Minimal_L8 n all i least (IntKind.i64.wrap (k + (1 : Int))) out_ else (true, (all, i, least, out_))
noncomputable def ref02_Minimal_tr8 (r : List (List RowID) × Int × Bool × List (List RowID)) : LTree ty := .done (.exit 2) [.sl 31 r.1, .own 184, .lit (.int .i64 r.2.1), .lit (.bool r.2.2.1)] [.arr 31 r.2.2.2 false]
noncomputable def ref02_Minimal_V8 : LL ty (List (List RowID) × Unit × Int × Bool × Int × Unit) := llCons (lSl 31) (llCons (lOwn 184) (llCons (lInt .i64) (llCons lBool (llCons (lInt .i64) llNil))))
noncomputable def ref02_Minimal_B8 : BL ty (List (List RowID) × Unit) := bArr 31 false (bNil)
noncomputable def ref02_Minimal_sp8 : LSpec ty := mkLoop ref02_Minimal_V8 ref02_Minimal_B8 fun x y => ((ref02_Minimal_L8 (x.1.length + Int.toNat x.2.2.1 + Int.toNat x.2.2.2.2.1 + y.1.length + 1) x.1 x.2.2.1 x.2.2.2.1 x.2.2.2.2.1 y.1).1, ref02_Minimal_tr8 (ref02_Minimal_L8 (x.1.length + Int.toNat x.2.2.1 + Int.toNat x.2.2.2.2.1 + y.1.length + 1) x.1 x.2.2.1 x.2.2.2.1 x.2.2.2.2.1 y.1).2)
noncomputable def ref02_Minimal_L4 : Nat → List (List RowID) → Int → List (List RowID) → Bool × List (List RowID)
  | 0, _, _, _ => (false, default)
  | n + 1, all, i, out_ => bif decide (i < Int.ofNat all.length) then bnd (ref02_Minimal_L8 (all.length + i.toNat + Int.toNat (0 : Int) + out_.length + (1 : Nat)) all i true (0 : Int) out_) (fun r2 => bif r2.snd.snd.fst then bif decide ((0 : Int) ≤ r2.snd.fst) && decide (r2.snd.fst < Int.ofNat r2.fst.length) then bif decide ((r2.snd.snd.snd.length + [r2.fst.getD r2.snd.fst.toNat default].length) * (24 : Nat) ≤ reach) then ref02_Minimal_L4 n (r2.fst) (IntKind.i64.wrap (r2.snd.fst + (1 : Int))) (r2.snd.snd.snd ++ [r2.fst.getD r2.snd.fst.toNat default]) else (false, default) else (false, default) else ref02_Minimal_L4 n (r2.fst) (IntKind.i64.wrap (r2.snd.fst + (1 : Int))) (r2.snd.snd.snd)) (false, default) else (true, out_)
noncomputable def ref02_Minimal_tr4 (r : List (List RowID)) : LTree ty := .done (.exit 0) [.own 184] [.arr 31 r false]
noncomputable def ref02_Minimal_V4 : LL ty (List (List RowID) × Unit × Int × Unit) := llCons (lSl 31) (llCons (lOwn 184) (llCons (lInt .i64) llNil))
noncomputable def ref02_Minimal_B4 : BL ty (List (List RowID) × Unit) := bArr 31 false (bNil)
noncomputable def ref02_Minimal_sp4 : LSpec ty := mkLoop ref02_Minimal_V4 ref02_Minimal_B4 fun x y => ((ref02_Minimal_L4 (x.1.length + Int.toNat x.2.2.1 + y.1.length + 1) x.1 x.2.2.1 y.1).1, ref02_Minimal_tr4 (ref02_Minimal_L4 (x.1.length + Int.toNat x.2.2.1 + y.1.length + 1) x.1 x.2.2.1 y.1).2)
noncomputable def ref02_Minimal_cx : Cx ty := { base with nt := 46, spec := fun g => List.lookup g [(10, ref02_Family_spec), (38, ref02_Subset_spec)], io := fun g => (List.lookup g []).getD [], head := fun i => (List.lookup i [(4, [(3, .keep), (4, .keep), (5, .keep)]), (8, [(3, .keep), (4, .keep), (5, .keep), (6, .keep), (7, .keep)])]).getD [], out := outOf [(4, 1, [(4, .keep)]), (8, 3, [(3, .keep), (4, .keep), (5, .keep), (6, .keep)])], loops := fun i => List.lookup i [(8, ref02_Minimal_sp8), (4, ref02_Minimal_sp4)] }
theorem ref02_Minimal_round8 {R : Type} (H : List (AV ty) → List (Blk ty) → Option R) (K : Ex → List (AV ty) → List (Blk ty) → Option R) (all : List (List RowID)) (i : Int) (least : Bool) (k : Int) (out_ : List (List RowID)) : roundK ref02_Minimal_cx (lp (body Tryz.f12) 1) H K [.sl 31 all, .own 184, .lit (.int .i64 i), .lit (.bool least), .lit (.int .i64 k)] [.arr 31 out_ false] = bif decide (k < Int.ofNat all.length) then bif k != i then bif decide ((0 : Int) ≤ k) && decide (k < Int.ofNat all.length) then bif decide ((0 : Int) ≤ i) && decide (i < Int.ofNat all.length) then obnd (ref02_Subset (all.getD k.toNat default) (all.getD i.toNat default)) (fun r1 => bif r1 then H [.sl 31 all, .own 184, .lit (.int .i64 i), .lit (.bool false), .lit (.int .i64 (IntKind.i64.wrap (k + (1 : Int))))] [.arr 31 out_ false] else H [.sl 31 all, .own 184, .lit (.int .i64 i), .lit (.bool least), .lit (.int .i64 (IntKind.i64.wrap (k + (1 : Int))))] [.arr 31 out_ false]) else none else none else H [.sl 31 all, .own 184, .lit (.int .i64 i), .lit (.bool least), .lit (.int .i64 (IntKind.i64.wrap (k + (1 : Int))))] [.arr 31 out_ false] else K (.exit 2) [.sl 31 all, .own 184, .lit (.int .i64 i), .lit (.bool least)] [.arr 31 out_ false] := by kernel_rfl
theorem ref02_Minimal_loop8 (R : Type) (K : Ex → List (AV ty) → List (Blk ty) → Option R) : ∀ (n : Nat) (all : List (List RowID)) (i : Int) (least : Bool) (k : Int) (out_ : List (List RowID)), loopI ref02_Minimal_cx (lp (body Tryz.f12) 1) K n [.sl 31 all, .own 184, .lit (.int .i64 i), .lit (.bool least), .lit (.int .i64 k)] [.arr 31 out_ false] = out (fun r => treeK K (ref02_Minimal_tr8 r)) (ref02_Minimal_L8 n all i least k out_)
  | 0, _, _, _, _, _ => rfl
  | n + 1, all, i, least, k, out_ => by
    have ih := ref02_Minimal_loop8 R K n
    rw [ref02_Minimal_L8]
    exact (ref02_Minimal_round8 (loopI ref02_Minimal_cx (lp (body Tryz.f12) 1) K n) K all i least k out_).trans (out_ite (out_ite (out_ite (out_ite (out_ite (out_ite (ih all i false (IntKind.i64.wrap (k + (1 : Int))) out_) (ih all i least (IntKind.i64.wrap (k + (1 : Int))) out_)) (rfl)) (rfl)) (rfl)) (ih all i least (IntKind.i64.wrap (k + (1 : Int))) out_)) (rfl))
theorem ref02_Minimal_to8 : LoopOK ref02_Minimal_cx (lp (body Tryz.f12) 1) := loopOK_of (id := 8) (sp := ref02_Minimal_sp8) (by kernel_rfl) (by kernel_rfl) (loopTo_of (V := ref02_Minimal_V8) (B := ref02_Minimal_B8) (L := fun n x y => ref02_Minimal_L8 n x.1 x.2.2.1 x.2.2.2.1 x.2.2.2.2.1 y.1) (tr := ref02_Minimal_tr8) (m := fun x y => x.1.length + Int.toNat x.2.2.1 + Int.toNat x.2.2.2.2.1 + y.1.length + 1) fun R K n x y => ref02_Minimal_loop8 R K n x.1 x.2.2.1 x.2.2.2.1 x.2.2.2.2.1 y.1)
theorem ref02_Minimal_round4 {R : Type} (H : List (AV ty) → List (Blk ty) → Option R) (K : Ex → List (AV ty) → List (Blk ty) → Option R) (all : List (List RowID)) (i : Int) (out_ : List (List RowID)) : roundK ref02_Minimal_cx (lp (body Tryz.f12) 0) H K [.sl 31 all, .own 184, .lit (.int .i64 i)] [.arr 31 out_ false] = bif decide (i < Int.ofNat all.length) then obnd (ref02_Minimal_L8 (all.length + i.toNat + Int.toNat (0 : Int) + out_.length + (1 : Nat)) all i true (0 : Int) out_) (fun r3 => bif r3.snd.snd.fst then bif decide ((0 : Int) ≤ r3.snd.fst) && decide (r3.snd.fst < Int.ofNat r3.fst.length) then bif decide ((r3.snd.snd.snd.length + [r3.fst.getD r3.snd.fst.toNat default].length) * (24 : Nat) ≤ reach) then H [.sl 31 (r3.fst), .own 184, .lit (.int .i64 (IntKind.i64.wrap (r3.snd.fst + (1 : Int))))] [.arr 31 (r3.snd.snd.snd ++ [r3.fst.getD r3.snd.fst.toNat default]) false] else none else none else H [.sl 31 (r3.fst), .own 184, .lit (.int .i64 (IntKind.i64.wrap (r3.snd.fst + (1 : Int))))] [.arr 31 (r3.snd.snd.snd) false]) else K (.exit 0) [.own 184] [.arr 31 out_ false] := by kernel_rfl
theorem ref02_Minimal_loop4 (R : Type) (K : Ex → List (AV ty) → List (Blk ty) → Option R) : ∀ (n : Nat) (all : List (List RowID)) (i : Int) (out_ : List (List RowID)), loopI ref02_Minimal_cx (lp (body Tryz.f12) 0) K n [.sl 31 all, .own 184, .lit (.int .i64 i)] [.arr 31 out_ false] = out (fun r => treeK K (ref02_Minimal_tr4 r)) (ref02_Minimal_L4 n all i out_)
  | 0, _, _, _ => rfl
  | n + 1, all, i, out_ => by
    have ih := ref02_Minimal_loop4 R K n
    rw [ref02_Minimal_L4]
    exact (ref02_Minimal_round4 (loopI ref02_Minimal_cx (lp (body Tryz.f12) 0) K n) K all i out_).trans (out_ite (out_ite (out_ite (out_ite (out_ite (ih ((ref02_Minimal_L8 (all.length + i.toNat + Int.toNat (0 : Int) + out_.length + (1 : Nat)) all i true (0 : Int) out_).snd.fst) (IntKind.i64.wrap ((ref02_Minimal_L8 (all.length + i.toNat + Int.toNat (0 : Int) + out_.length + (1 : Nat)) all i true (0 : Int) out_).snd.snd.fst + (1 : Int))) ((ref02_Minimal_L8 (all.length + i.toNat + Int.toNat (0 : Int) + out_.length + (1 : Nat)) all i true (0 : Int) out_).snd.snd.snd.snd ++ [(ref02_Minimal_L8 (all.length + i.toNat + Int.toNat (0 : Int) + out_.length + (1 : Nat)) all i true (0 : Int) out_).snd.fst.getD (ref02_Minimal_L8 (all.length + i.toNat + Int.toNat (0 : Int) + out_.length + (1 : Nat)) all i true (0 : Int) out_).snd.snd.fst.toNat default])) (rfl)) (rfl)) (ih ((ref02_Minimal_L8 (all.length + i.toNat + Int.toNat (0 : Int) + out_.length + (1 : Nat)) all i true (0 : Int) out_).snd.fst) (IntKind.i64.wrap ((ref02_Minimal_L8 (all.length + i.toNat + Int.toNat (0 : Int) + out_.length + (1 : Nat)) all i true (0 : Int) out_).snd.snd.fst + (1 : Int))) ((ref02_Minimal_L8 (all.length + i.toNat + Int.toNat (0 : Int) + out_.length + (1 : Nat)) all i true (0 : Int) out_).snd.snd.snd.snd))) (rfl)) (rfl))
theorem ref02_Minimal_to4 : LoopOK ref02_Minimal_cx (lp (body Tryz.f12) 0) := loopOK_of (id := 4) (sp := ref02_Minimal_sp4) (by kernel_rfl) (by kernel_rfl) (loopTo_of (V := ref02_Minimal_V4) (B := ref02_Minimal_B4) (L := fun n x y => ref02_Minimal_L4 n x.1 x.2.2.1 y.1) (tr := ref02_Minimal_tr4) (m := fun x y => x.1.length + Int.toNat x.2.2.1 + y.1.length + 1) fun R K n x y => ref02_Minimal_loop4 R K n x.1 x.2.2.1 y.1)
noncomputable def ref02_Minimal (l : List (List RowID)) : Bool × List (List RowID) := bnd (ref02_Family l) (fun r5 => bnd (ref02_Minimal_L4 (r5.length + Int.toNat (0 : Int) + (0 : Nat) + (1 : Nat)) r5 (0 : Int) []) (fun r4 => (true, r4)) (false, default)) (false, default)
noncomputable def ref02_Minimal_res (r : List (List RowID)) : ARes ty := ⟨[.own 31 r], []⟩
theorem ref02_Minimal_run (l : List (List RowID)) : runFn ref02_Minimal_cx Tryz.f12 (body Tryz.f12) ⟨[.own 31], []⟩ [.pure (.sl 31 l)] = out (fun r => some (ref02_Minimal_res r)) (ref02_Minimal l) := by
  have h : runFn ref02_Minimal_cx Tryz.f12 (body Tryz.f12) ⟨[.own 31], []⟩ [.pure (.sl 31 l)] = obnd (ref02_Family l) (fun r7 => obnd (ref02_Minimal_L4 (r7.length + Int.toNat (0 : Int) + (0 : Nat) + (1 : Nat)) r7 (0 : Int) []) (fun r6 => some ⟨[.own 31 (r6)], []⟩)) := by kernel_rfl
  rw [ref02_Minimal]
  exact h.trans (out_ite (out_ite (rfl) (rfl)) (rfl))
noncomputable def ref02_Minimal_A : AL base (List (List RowID) × Unit) := aCons (aPure (vSl 31)) aNil
noncomputable def ref02_Minimal_spec : Ab.Spec ty := mkSpec ref02_Minimal_A fun x => ((ref02_Minimal x.1).1, ref02_Minimal_res (ref02_Minimal x.1).2)
theorem ref02_Minimal_sound : Sound Tryz.prog base 12 ref02_Minimal_spec :=
  sound_of_run (cx' := ref02_Minimal_cx) draws base_ok ⟨⟨rfl, rfl, rfl, rfl, rfl, rfl⟩, rfl⟩ (spec_of [(10, ref02_Family_spec), (38, ref02_Subset_spec)] ⟨(ref02_Family_sound), (ref02_Subset_sound), trivial⟩) Tryz.call12 Tryz.func12 (c := body Tryz.f12) (by kernel_rfl) (loopsOK_of (l := [lp (body Tryz.f12) 0, lp (body Tryz.f12) 1]) (by kernel_rfl) ⟨ref02_Minimal_to4, ref02_Minimal_to8, trivial⟩) (sg := ⟨[.own 31], []⟩) (A := ref02_Minimal_A) (res := ref02_Minimal_res) (F := fun x => ref02_Minimal x.1) (fun x => ref02_Minimal_run x.1) (fun _ => by kernel_rfl) (by kernel_rfl)
end Go.Proofs.YteopikhooiallaaGreatDoor
/- Functions of the program as plain functions, with their contracts. Printed by program. -/
set_option autoImplicit false
set_option linter.unusedVariables false
set_option linter.unusedSimpArgs false
namespace Go.Proofs.YteopikhooiallaaGreatDoor
open Go Go.Ab
/-! ### lineage/lineageref02.Union -/
noncomputable def ref02_Union_L3 : Nat → List RowID → List RowID → Int → Bool × List RowID
  | 0, _, _, _ => (false, default)
  | n + 1, b, out_, i => bif decide (i < Int.ofNat b.length) then bif decide ((0 : Int) ≤ i) && decide (i < Int.ofNat b.length) then bnd (ref02_insert out_ (b.getD i.toNat default)) (fun r0 => ref02_Union_L3 n b (r0) (IntKind.i64.wrap (i + (1 : Int)))) (false, default) else (false, default) else (true, out_)
noncomputable def ref02_Union_tr3 (r : List RowID) : LTree ty := .done (.exit 0) [.sl 30 r] []
noncomputable def ref02_Union_V3 : LL ty (List RowID × List RowID × Int × Unit) := llCons (lSl 30) (llCons (lSl 30) (llCons (lInt .i64) llNil))
noncomputable def ref02_Union_B3 : BL ty (Unit) := bNil
noncomputable def ref02_Union_sp3 : LSpec ty := mkLoop ref02_Union_V3 ref02_Union_B3 fun x y => ((ref02_Union_L3 (x.1.length + x.2.1.length + Int.toNat x.2.2.1 + 1) x.1 x.2.1 x.2.2.1).1, ref02_Union_tr3 (ref02_Union_L3 (x.1.length + x.2.1.length + Int.toNat x.2.2.1 + 1) x.1 x.2.1 x.2.2.1).2)
noncomputable def ref02_Union_cx : Cx ty := { base with nt := 22, spec := fun g => List.lookup g [(33, ref02_Normalize_spec), (57, ref02_insert_spec)], io := fun g => (List.lookup g []).getD [], head := fun i => (List.lookup i [(3, [(1, .keep), (5, .keep), (6, .keep)])]).getD [], out := outOf [(3, 1, [(5, .keep)])], loops := fun i => List.lookup i [(3, ref02_Union_sp3)] }
theorem ref02_Union_round3 {R : Type} (H : List (AV ty) → List (Blk ty) → Option R) (K : Ex → List (AV ty) → List (Blk ty) → Option R) (b : List RowID) (out_ : List RowID) (i : Int) : roundK ref02_Union_cx (lp (body Tryz.f40) 0) H K [.sl 30 b, .sl 30 out_, .lit (.int .i64 i)] [] = bif decide (i < Int.ofNat b.length) then bif decide ((0 : Int) ≤ i) && decide (i < Int.ofNat b.length) then obnd (ref02_insert out_ (b.getD i.toNat default)) (fun r1 => H [.sl 30 b, .sl 30 (r1), .lit (.int .i64 (IntKind.i64.wrap (i + (1 : Int))))] []) else none else K (.exit 0) [.sl 30 out_] [] := by kernel_rfl
theorem ref02_Union_loop3 (R : Type) (K : Ex → List (AV ty) → List (Blk ty) → Option R) : ∀ (n : Nat) (b : List RowID) (out_ : List RowID) (i : Int), loopI ref02_Union_cx (lp (body Tryz.f40) 0) K n [.sl 30 b, .sl 30 out_, .lit (.int .i64 i)] [] = out (fun r => treeK K (ref02_Union_tr3 r)) (ref02_Union_L3 n b out_ i)
  | 0, _, _, _ => rfl
  | n + 1, b, out_, i => by
    have ih := ref02_Union_loop3 R K n
    rw [ref02_Union_L3]
    exact (ref02_Union_round3 (loopI ref02_Union_cx (lp (body Tryz.f40) 0) K n) K b out_ i).trans (out_ite (out_ite (out_ite (ih b ((ref02_insert out_ (b.getD i.toNat default)).snd) (IntKind.i64.wrap (i + (1 : Int)))) (rfl)) (rfl)) (rfl))
theorem ref02_Union_to3 : LoopOK ref02_Union_cx (lp (body Tryz.f40) 0) := loopOK_of (id := 3) (sp := ref02_Union_sp3) (by kernel_rfl) (by kernel_rfl) (loopTo_of (V := ref02_Union_V3) (B := ref02_Union_B3) (L := fun n x y => ref02_Union_L3 n x.1 x.2.1 x.2.2.1) (tr := ref02_Union_tr3) (m := fun x y => x.1.length + x.2.1.length + Int.toNat x.2.2.1 + 1) fun R K n x y => ref02_Union_loop3 R K n x.1 x.2.1 x.2.2.1)
noncomputable def ref02_Union (a : List RowID) (b : List RowID) : Bool × List RowID := bnd (ref02_Normalize a) (fun r3 => bnd (ref02_Union_L3 (b.length + r3.length + Int.toNat (0 : Int) + (1 : Nat)) b r3 (0 : Int)) (fun r2 => (true, r2)) (false, default)) (false, default)
noncomputable def ref02_Union_res (r : List RowID) : ARes ty := ⟨[.pure (.sl 30 r)], []⟩
theorem ref02_Union_run (a : List RowID) (b : List RowID) : runFn ref02_Union_cx Tryz.f40 (body Tryz.f40) ⟨[.pure], []⟩ [.pure (.sl 30 a), .pure (.sl 30 b)] = out (fun r => some (ref02_Union_res r)) (ref02_Union a b) := by
  have h : runFn ref02_Union_cx Tryz.f40 (body Tryz.f40) ⟨[.pure], []⟩ [.pure (.sl 30 a), .pure (.sl 30 b)] = obnd (ref02_Normalize a) (fun r5 => obnd (ref02_Union_L3 (b.length + r5.length + Int.toNat (0 : Int) + (1 : Nat)) b r5 (0 : Int)) (fun r4 => some ⟨[.pure (.sl 30 (r4))], []⟩)) := by kernel_rfl
  rw [ref02_Union]
  exact h.trans (out_ite (out_ite (rfl) (rfl)) (rfl))
noncomputable def ref02_Union_A : AL base (List RowID × List RowID × Unit) := aCons (aPure (vSl 30)) (aCons (aPure (vSl 30)) aNil)
noncomputable def ref02_Union_spec : Ab.Spec ty := mkSpec ref02_Union_A fun x => ((ref02_Union x.1 x.2.1).1, ref02_Union_res (ref02_Union x.1 x.2.1).2)
theorem ref02_Union_sound : Sound Tryz.prog base 40 ref02_Union_spec :=
  sound_of_run (cx' := ref02_Union_cx) draws base_ok ⟨⟨rfl, rfl, rfl, rfl, rfl, rfl⟩, rfl⟩ (spec_of [(33, ref02_Normalize_spec), (57, ref02_insert_spec)] ⟨(ref02_Normalize_sound), (ref02_insert_sound), trivial⟩) Tryz.call40 Tryz.func40 (c := body Tryz.f40) (by kernel_rfl) (loopsOK_of (l := [lp (body Tryz.f40) 0]) (by kernel_rfl) ⟨ref02_Union_to3, trivial⟩) (sg := ⟨[.pure], []⟩) (A := ref02_Union_A) (res := ref02_Union_res) (F := fun x => ref02_Union x.1 x.2.1) (fun x => ref02_Union_run x.1 x.2.1) (fun _ => by kernel_rfl) (by kernel_rfl)
end Go.Proofs.YteopikhooiallaaGreatDoor
/- Functions of the program as plain functions, with their contracts. Printed by program. -/
set_option autoImplicit false
set_option linter.unusedVariables false
set_option linter.unusedSimpArgs false
namespace Go.Proofs.YteopikhooiallaaGreatDoor
open Go Go.Ab
/-! ### lineage/lineageref02.Product -/
noncomputable def ref02_Product_L6 : Nat → List (List RowID) → List (List RowID) → List (List RowID) → Int → Int → Bool × (List (List RowID) × List (List RowID) × List (List RowID) × Int)
  | 0, _, _, _, _, _ => (false, default)
  | n + 1, a, b, out_, i, k => bif decide (k < Int.ofNat b.length) then bif decide ((0 : Int) ≤ i) && decide (i < Int.ofNat a.length) then bif decide ((0 : Int) ≤ k) && decide (k < Int.ofNat b.length) then bnd (ref02_Union (a.getD i.toNat default) (b.getD k.toNat default)) (fun r5 => bnd (ref02_Add out_ r5) (fun r4 => ref02_Product_L6 n a b (r4) i (IntKind.i64.wrap (k + (1 : Int)))) (false, default)) (false, default) else (false, default) else (false, default) else (true, (a, b, out_, i))
noncomputable def ref02_Product_tr6 (r : List (List RowID) × List (List RowID) × List (List RowID) × Int) : LTree ty := .done (.exit 2) [.sl 31 r.1, .sl 31 r.2.1, .sl 31 r.2.2.1, .lit (.int .i64 r.2.2.2)] []
noncomputable def ref02_Product_V6 : LL ty (List (List RowID) × List (List RowID) × List (List RowID) × Int × Int × Unit) := llCons (lSl 31) (llCons (lSl 31) (llCons (lSl 31) (llCons (lInt .i64) (llCons (lInt .i64) llNil))))
noncomputable def ref02_Product_B6 : BL ty (Unit) := bNil
noncomputable def ref02_Product_sp6 : LSpec ty := mkLoop ref02_Product_V6 ref02_Product_B6 fun x y => ((ref02_Product_L6 (x.1.length + x.2.1.length + x.2.2.1.length + Int.toNat x.2.2.2.1 + Int.toNat x.2.2.2.2.1 + 1) x.1 x.2.1 x.2.2.1 x.2.2.2.1 x.2.2.2.2.1).1, ref02_Product_tr6 (ref02_Product_L6 (x.1.length + x.2.1.length + x.2.2.1.length + Int.toNat x.2.2.2.1 + Int.toNat x.2.2.2.2.1 + 1) x.1 x.2.1 x.2.2.1 x.2.2.2.1 x.2.2.2.2.1).2)
noncomputable def ref02_Product_L3 : Nat → List (List RowID) → List (List RowID) → List (List RowID) → Int → Bool × List (List RowID)
  | 0, _, _, _, _ => (false, default)
  | n + 1, a, b, out_, i => bif decide (i < Int.ofNat a.length) then bnd (ref02_Product_L6 (a.length + b.length + out_.length + i.toNat + Int.toNat (0 : Int) + (1 : Nat)) a b out_ i (0 : Int)) (fun r8 => ref02_Product_L3 n (r8.fst) (r8.snd.fst) (r8.snd.snd.fst) (IntKind.i64.wrap (r8.snd.snd.snd + (1 : Int)))) (false, default) else (true, out_)
noncomputable def ref02_Product_tr3 (r : List (List RowID)) : LTree ty := .done (.exit 0) [.sl 31 r] []
noncomputable def ref02_Product_V3 : LL ty (List (List RowID) × List (List RowID) × List (List RowID) × Int × Unit) := llCons (lSl 31) (llCons (lSl 31) (llCons (lSl 31) (llCons (lInt .i64) llNil)))
noncomputable def ref02_Product_B3 : BL ty (Unit) := bNil
noncomputable def ref02_Product_sp3 : LSpec ty := mkLoop ref02_Product_V3 ref02_Product_B3 fun x y => ((ref02_Product_L3 (x.1.length + x.2.1.length + x.2.2.1.length + Int.toNat x.2.2.2.1 + 1) x.1 x.2.1 x.2.2.1 x.2.2.2.1).1, ref02_Product_tr3 (ref02_Product_L3 (x.1.length + x.2.1.length + x.2.2.1.length + Int.toNat x.2.2.2.1 + 1) x.1 x.2.1 x.2.2.1 x.2.2.2.1).2)
noncomputable def ref02_Product_cx : Cx ty := { base with nt := 33, spec := fun g => List.lookup g [(32, ref02_Add_spec), (40, ref02_Union_spec)], io := fun g => (List.lookup g []).getD [], head := fun i => (List.lookup i [(3, [(0, .keep), (1, .keep), (5, .sl 31), (6, .keep)]), (6, [(0, .keep), (1, .keep), (5, .sl 31), (6, .keep), (7, .keep)])]).getD [], out := outOf [(3, 1, [(5, .keep)]), (6, 3, [(0, .keep), (1, .keep), (5, .keep), (6, .keep)])], loops := fun i => List.lookup i [(6, ref02_Product_sp6), (3, ref02_Product_sp3)] }
theorem ref02_Product_round6 {R : Type} (H : List (AV ty) → List (Blk ty) → Option R) (K : Ex → List (AV ty) → List (Blk ty) → Option R) (a : List (List RowID)) (b : List (List RowID)) (out_ : List (List RowID)) (i : Int) (k : Int) : roundK ref02_Product_cx (lp (body Tryz.f14) 1) H K [.sl 31 a, .sl 31 b, .sl 31 out_, .lit (.int .i64 i), .lit (.int .i64 k)] [] = bif decide (k < Int.ofNat b.length) then bif decide ((0 : Int) ≤ i) && decide (i < Int.ofNat a.length) then bif decide ((0 : Int) ≤ k) && decide (k < Int.ofNat b.length) then obnd (ref02_Union (a.getD i.toNat default) (b.getD k.toNat default)) (fun r7 => obnd (ref02_Add out_ r7) (fun r6 => H [.sl 31 a, .sl 31 b, .sl 31 (r6), .lit (.int .i64 i), .lit (.int .i64 (IntKind.i64.wrap (k + (1 : Int))))] [])) else none else none else K (.exit 2) [.sl 31 a, .sl 31 b, .sl 31 out_, .lit (.int .i64 i)] [] := by kernel_rfl
theorem ref02_Product_loop6 (R : Type) (K : Ex → List (AV ty) → List (Blk ty) → Option R) : ∀ (n : Nat) (a : List (List RowID)) (b : List (List RowID)) (out_ : List (List RowID)) (i : Int) (k : Int), loopI ref02_Product_cx (lp (body Tryz.f14) 1) K n [.sl 31 a, .sl 31 b, .sl 31 out_, .lit (.int .i64 i), .lit (.int .i64 k)] [] = out (fun r => treeK K (ref02_Product_tr6 r)) (ref02_Product_L6 n a b out_ i k)
  | 0, _, _, _, _, _ => rfl
  | n + 1, a, b, out_, i, k => by
    have ih := ref02_Product_loop6 R K n
    rw [ref02_Product_L6]
    exact (ref02_Product_round6 (loopI ref02_Product_cx (lp (body Tryz.f14) 1) K n) K a b out_ i k).trans (out_ite (out_ite (out_ite (out_ite (out_ite (ih a b ((ref02_Add out_ (ref02_Union (a.getD i.toNat default) (b.getD k.toNat default)).snd).snd) i (IntKind.i64.wrap (k + (1 : Int)))) (rfl)) (rfl)) (rfl)) (rfl)) (rfl))
theorem ref02_Product_to6 : LoopOK ref02_Product_cx (lp (body Tryz.f14) 1) := loopOK_of (id := 6) (sp := ref02_Product_sp6) (by kernel_rfl) (by kernel_rfl) (loopTo_of (V := ref02_Product_V6) (B := ref02_Product_B6) (L := fun n x y => ref02_Product_L6 n x.1 x.2.1 x.2.2.1 x.2.2.2.1 x.2.2.2.2.1) (tr := ref02_Product_tr6) (m := fun x y => x.1.length + x.2.1.length + x.2.2.1.length + Int.toNat x.2.2.2.1 + Int.toNat x.2.2.2.2.1 + 1) fun R K n x y => ref02_Product_loop6 R K n x.1 x.2.1 x.2.2.1 x.2.2.2.1 x.2.2.2.2.1)
theorem ref02_Product_round3 {R : Type} (H : List (AV ty) → List (Blk ty) → Option R) (K : Ex → List (AV ty) → List (Blk ty) → Option R) (a : List (List RowID)) (b : List (List RowID)) (out_ : List (List RowID)) (i : Int) : roundK ref02_Product_cx (lp (body Tryz.f14) 0) H K [.sl 31 a, .sl 31 b, .sl 31 out_, .lit (.int .i64 i)] [] = bif decide (i < Int.ofNat a.length) then obnd (ref02_Product_L6 (a.length + b.length + out_.length + i.toNat + Int.toNat (0 : Int) + (1 : Nat)) a b out_ i (0 : Int)) (fun r9 => H [.sl 31 (r9.fst), .sl 31 (r9.snd.fst), .sl 31 (r9.snd.snd.fst), .lit (.int .i64 (IntKind.i64.wrap (r9.snd.snd.snd + (1 : Int))))] []) else K (.exit 0) [.sl 31 out_] [] := by kernel_rfl
theorem ref02_Product_loop3 (R : Type) (K : Ex → List (AV ty) → List (Blk ty) → Option R) : ∀ (n : Nat) (a : List (List RowID)) (b : List (List RowID)) (out_ : List (List RowID)) (i : Int), loopI ref02_Product_cx (lp (body Tryz.f14) 0) K n [.sl 31 a, .sl 31 b, .sl 31 out_, .lit (.int .i64 i)] [] = out (fun r => treeK K (ref02_Product_tr3 r)) (ref02_Product_L3 n a b out_ i)
  | 0, _, _, _, _ => rfl
  | n + 1, a, b, out_, i => by
    have ih := ref02_Product_loop3 R K n
    rw [ref02_Product_L3]
    exact (ref02_Product_round3 (loopI ref02_Product_cx (lp (body Tryz.f14) 0) K n) K a b out_ i).trans (out_ite (out_ite (ih ((ref02_Product_L6 (a.length + b.length + out_.length + i.toNat + Int.toNat (0 : Int) + (1 : Nat)) a b out_ i (0 : Int)).snd.fst) ((ref02_Product_L6 (a.length + b.length + out_.length + i.toNat + Int.toNat (0 : Int) + (1 : Nat)) a b out_ i (0 : Int)).snd.snd.fst) ((ref02_Product_L6 (a.length + b.length + out_.length + i.toNat + Int.toNat (0 : Int) + (1 : Nat)) a b out_ i (0 : Int)).snd.snd.snd.fst) (IntKind.i64.wrap ((ref02_Product_L6 (a.length + b.length + out_.length + i.toNat + Int.toNat (0 : Int) + (1 : Nat)) a b out_ i (0 : Int)).snd.snd.snd.snd + (1 : Int)))) (rfl)) (rfl))
theorem ref02_Product_to3 : LoopOK ref02_Product_cx (lp (body Tryz.f14) 0) := loopOK_of (id := 3) (sp := ref02_Product_sp3) (by kernel_rfl) (by kernel_rfl) (loopTo_of (V := ref02_Product_V3) (B := ref02_Product_B3) (L := fun n x y => ref02_Product_L3 n x.1 x.2.1 x.2.2.1 x.2.2.2.1) (tr := ref02_Product_tr3) (m := fun x y => x.1.length + x.2.1.length + x.2.2.1.length + Int.toNat x.2.2.2.1 + 1) fun R K n x y => ref02_Product_loop3 R K n x.1 x.2.1 x.2.2.1 x.2.2.2.1)
noncomputable def ref02_Product (a : List (List RowID)) (b : List (List RowID)) : Bool × List (List RowID) := bnd (ref02_Product_L3 (a.length + b.length + (0 : Nat) + Int.toNat (0 : Int) + (1 : Nat)) a b [] (0 : Int)) (fun r10 => (true, r10)) (false, default)
noncomputable def ref02_Product_res (r : List (List RowID)) : ARes ty := ⟨[.pure (.sl 31 r)], []⟩
theorem ref02_Product_run (a : List (List RowID)) (b : List (List RowID)) : runFn ref02_Product_cx Tryz.f14 (body Tryz.f14) ⟨[.pure], []⟩ [.pure (.sl 31 a), .pure (.sl 31 b)] = out (fun r => some (ref02_Product_res r)) (ref02_Product a b) := by
  have h : runFn ref02_Product_cx Tryz.f14 (body Tryz.f14) ⟨[.pure], []⟩ [.pure (.sl 31 a), .pure (.sl 31 b)] = obnd (ref02_Product_L3 (a.length + b.length + (0 : Nat) + Int.toNat (0 : Int) + (1 : Nat)) a b [] (0 : Int)) (fun r11 => some ⟨[.pure (.sl 31 (r11))], []⟩) := by kernel_rfl
  rw [ref02_Product]
  exact h.trans (out_ite (rfl) (rfl))
noncomputable def ref02_Product_A : AL base (List (List RowID) × List (List RowID) × Unit) := aCons (aPure (vSl 31)) (aCons (aPure (vSl 31)) aNil)
noncomputable def ref02_Product_spec : Ab.Spec ty := mkSpec ref02_Product_A fun x => ((ref02_Product x.1 x.2.1).1, ref02_Product_res (ref02_Product x.1 x.2.1).2)
theorem ref02_Product_sound : Sound Tryz.prog base 14 ref02_Product_spec :=
  sound_of_run (cx' := ref02_Product_cx) draws base_ok ⟨⟨rfl, rfl, rfl, rfl, rfl, rfl⟩, rfl⟩ (spec_of [(32, ref02_Add_spec), (40, ref02_Union_spec)] ⟨(ref02_Add_sound), (ref02_Union_sound), trivial⟩) Tryz.call14 Tryz.func14 (c := body Tryz.f14) (by kernel_rfl) (loopsOK_of (l := [lp (body Tryz.f14) 0, lp (body Tryz.f14) 1]) (by kernel_rfl) ⟨ref02_Product_to3, ref02_Product_to6, trivial⟩) (sg := ⟨[.pure], []⟩) (A := ref02_Product_A) (res := ref02_Product_res) (F := fun x => ref02_Product x.1 x.2.1) (fun x => ref02_Product_run x.1 x.2.1) (fun _ => by kernel_rfl) (by kernel_rfl)
end Go.Proofs.YteopikhooiallaaGreatDoor
/- Functions of the program as plain functions, with their contracts. Printed by program. -/
set_option autoImplicit false
set_option linter.unusedVariables false
set_option linter.unusedSimpArgs false
namespace Go.Proofs.YteopikhooiallaaGreatDoor
open Go Go.Ab
/-! ### lineage/lineageref02.Same -/
noncomputable def ref02_Same_L4 : Nat → List RowID → List RowID → Int → Bool × (Bool ⊕ Unit)
  | 0, _, _, _ => (false, .inl default)
  | n + 1, a, b, i => bif decide (i < Int.ofNat a.length) then bif decide ((0 : Int) ≤ i) && decide (i < Int.ofNat a.length) then bif decide ((0 : Int) ≤ i) && decide (i < Int.ofNat b.length) then bif !((a.getD i.toNat default).Table == (b.getD i.toNat default).Table && ((a.getD i.toNat default).Seq == (b.getD i.toNat default).Seq && true)) then (true, .inl false) else ref02_Same_L4 n a b (IntKind.i64.wrap (i + (1 : Int))) else (false, .inl default) else (false, .inl default) else (true, .inr ())
noncomputable def ref02_Same_tr4 (r : Bool ⊕ Unit) : LTree ty := .ite (isL r) (.done .ret [.lit (.bool (getL r))] []) (.done (.exit 0) [] [])
noncomputable def ref02_Same_V4 : LL ty (List RowID × List RowID × Int × Unit) := llCons (lSl 30) (llCons (lSl 30) (llCons (lInt .i64) llNil))
noncomputable def ref02_Same_B4 : BL ty (Unit) := bNil
noncomputable def ref02_Same_sp4 : LSpec ty := mkLoop ref02_Same_V4 ref02_Same_B4 fun x y => ((ref02_Same_L4 (x.1.length + x.2.1.length + Int.toNat x.2.2.1 + 1) x.1 x.2.1 x.2.2.1).1, ref02_Same_tr4 (ref02_Same_L4 (x.1.length + x.2.1.length + Int.toNat x.2.2.1 + 1) x.1 x.2.1 x.2.2.1).2)
noncomputable def ref02_Same_cx : Cx ty := { base with nt := 26, spec := fun g => List.lookup g [], io := fun g => (List.lookup g []).getD [], head := fun i => (List.lookup i [(4, [(0, .keep), (1, .keep), (5, .keep)])]).getD [], out := outOf [(4, 1, []), (4, 0, [(4, .keep)])], loops := fun i => List.lookup i [(4, ref02_Same_sp4)] }
theorem ref02_Same_round4 {R : Type} (H : List (AV ty) → List (Blk ty) → Option R) (K : Ex → List (AV ty) → List (Blk ty) → Option R) (a : List RowID) (b : List RowID) (i : Int) : roundK ref02_Same_cx (lp (body Tryz.f25) 0) H K [.sl 30 a, .sl 30 b, .lit (.int .i64 i)] [] = bif decide (i < Int.ofNat a.length) then bif decide ((0 : Int) ≤ i) && decide (i < Int.ofNat a.length) then bif decide ((0 : Int) ≤ i) && decide (i < Int.ofNat b.length) then bif !((a.getD i.toNat default).Table == (b.getD i.toNat default).Table && ((a.getD i.toNat default).Seq == (b.getD i.toNat default).Seq && true)) then K .ret [.lit (.bool false)] [] else H [.sl 30 a, .sl 30 b, .lit (.int .i64 (IntKind.i64.wrap (i + (1 : Int))))] [] else none else none else K (.exit 0) [] [] := by kernel_rfl
theorem ref02_Same_loop4 (R : Type) (K : Ex → List (AV ty) → List (Blk ty) → Option R) : ∀ (n : Nat) (a : List RowID) (b : List RowID) (i : Int), loopI ref02_Same_cx (lp (body Tryz.f25) 0) K n [.sl 30 a, .sl 30 b, .lit (.int .i64 i)] [] = out (fun r => treeK K (ref02_Same_tr4 r)) (ref02_Same_L4 n a b i)
  | 0, _, _, _ => rfl
  | n + 1, a, b, i => by
    have ih := ref02_Same_loop4 R K n
    rw [ref02_Same_L4]
    exact (ref02_Same_round4 (loopI ref02_Same_cx (lp (body Tryz.f25) 0) K n) K a b i).trans (out_ite (out_ite (out_ite (out_ite (rfl) (ih a b (IntKind.i64.wrap (i + (1 : Int))))) (rfl)) (rfl)) (rfl))
theorem ref02_Same_to4 : LoopOK ref02_Same_cx (lp (body Tryz.f25) 0) := loopOK_of (id := 4) (sp := ref02_Same_sp4) (by kernel_rfl) (by kernel_rfl) (loopTo_of (V := ref02_Same_V4) (B := ref02_Same_B4) (L := fun n x y => ref02_Same_L4 n x.1 x.2.1 x.2.2.1) (tr := ref02_Same_tr4) (m := fun x y => x.1.length + x.2.1.length + Int.toNat x.2.2.1 + 1) fun R K n x y => ref02_Same_loop4 R K n x.1 x.2.1 x.2.2.1)
noncomputable def ref02_Same (a : List RowID) (b : List RowID) : Bool × Bool := bif Int.ofNat a.length != Int.ofNat b.length then (true, false) else bnd (ref02_Same_L4 (a.length + b.length + Int.toNat (0 : Int) + (1 : Nat)) a b (0 : Int)) (fun r0 => bif isL r0 then (true, getL r0) else (true, true)) (false, default)
noncomputable def ref02_Same_res (r : Bool) : ARes ty := ⟨[.pure (.lit (.bool r))], []⟩
theorem ref02_Same_run (a : List RowID) (b : List RowID) : runFn ref02_Same_cx Tryz.f25 (body Tryz.f25) ⟨[.pure], []⟩ [.pure (.sl 30 a), .pure (.sl 30 b)] = out (fun r => some (ref02_Same_res r)) (ref02_Same a b) := by
  have h : runFn ref02_Same_cx Tryz.f25 (body Tryz.f25) ⟨[.pure], []⟩ [.pure (.sl 30 a), .pure (.sl 30 b)] = bif Int.ofNat a.length != Int.ofNat b.length then some ⟨[.pure (.lit (.bool false))], []⟩ else obnd (ref02_Same_L4 (a.length + b.length + Int.toNat (0 : Int) + (1 : Nat)) a b (0 : Int)) (fun r1 => bif isL r1 then some ⟨[.pure (.lit (.bool (getL r1)))], []⟩ else some ⟨[.pure (.lit (.bool true))], []⟩) := by kernel_rfl
  rw [ref02_Same]
  exact h.trans (out_ite (rfl) (out_ite (out_ite (rfl) (rfl)) (rfl)))
noncomputable def ref02_Same_A : AL base (List RowID × List RowID × Unit) := aCons (aPure (vSl 30)) (aCons (aPure (vSl 30)) aNil)
noncomputable def ref02_Same_spec : Ab.Spec ty := mkSpec ref02_Same_A fun x => ((ref02_Same x.1 x.2.1).1, ref02_Same_res (ref02_Same x.1 x.2.1).2)
theorem ref02_Same_sound : Sound Tryz.prog base 25 ref02_Same_spec :=
  sound_of_run (cx' := ref02_Same_cx) draws base_ok ⟨⟨rfl, rfl, rfl, rfl, rfl, rfl⟩, rfl⟩ (spec_of [] trivial) Tryz.call25 Tryz.func25 (c := body Tryz.f25) (by kernel_rfl) (loopsOK_of (l := [lp (body Tryz.f25) 0]) (by kernel_rfl) ⟨ref02_Same_to4, trivial⟩) (sg := ⟨[.pure], []⟩) (A := ref02_Same_A) (res := ref02_Same_res) (F := fun x => ref02_Same x.1 x.2.1) (fun x => ref02_Same_run x.1 x.2.1) (fun _ => by kernel_rfl) (by kernel_rfl)
end Go.Proofs.YteopikhooiallaaGreatDoor
/- Functions of the program as plain functions, with their contracts. Printed by program. -/
set_option autoImplicit false
set_option linter.unusedVariables false
set_option linter.unusedSimpArgs false
namespace Go.Proofs.YteopikhooiallaaGreatDoor
open Go Go.Ab
/-! ### lineage/lineageref02.Sets -/
noncomputable def ref02_Sets_L4 : Nat → List (List RowID) → List (List RowID) → Int → Bool × (Bool ⊕ Unit)
  | 0, _, _, _ => (false, .inl default)
  | n + 1, a, b, i => bif decide (i < Int.ofNat a.length) then bif decide ((0 : Int) ≤ i) && decide (i < Int.ofNat a.length) then bif decide ((0 : Int) ≤ i) && decide (i < Int.ofNat b.length) then bnd (ref02_Same (a.getD i.toNat default) (b.getD i.toNat default)) (fun r0 => bif !r0 then (true, .inl false) else ref02_Sets_L4 n a b (IntKind.i64.wrap (i + (1 : Int)))) (false, .inl default) else (false, .inl default) else (false, .inl default) else (true, .inr ())
noncomputable def ref02_Sets_tr4 (r : Bool ⊕ Unit) : LTree ty := .ite (isL r) (.done .ret [.lit (.bool (getL r))] []) (.done (.exit 0) [] [])
noncomputable def ref02_Sets_V4 : LL ty (List (List RowID) × List (List RowID) × Int × Unit) := llCons (lSl 31) (llCons (lSl 31) (llCons (lInt .i64) llNil))
noncomputable def ref02_Sets_B4 : BL ty (Unit) := bNil
noncomputable def ref02_Sets_sp4 : LSpec ty := mkLoop ref02_Sets_V4 ref02_Sets_B4 fun x y => ((ref02_Sets_L4 (x.1.length + x.2.1.length + Int.toNat x.2.2.1 + 1) x.1 x.2.1 x.2.2.1).1, ref02_Sets_tr4 (ref02_Sets_L4 (x.1.length + x.2.1.length + Int.toNat x.2.2.1 + 1) x.1 x.2.1 x.2.2.1).2)
noncomputable def ref02_Sets_cx : Cx ty := { base with nt := 27, spec := fun g => List.lookup g [(25, ref02_Same_spec)], io := fun g => (List.lookup g []).getD [], head := fun i => (List.lookup i [(4, [(0, .keep), (1, .keep), (5, .keep)])]).getD [], out := outOf [(4, 1, []), (4, 0, [(4, .keep)])], loops := fun i => List.lookup i [(4, ref02_Sets_sp4)] }
theorem ref02_Sets_round4 {R : Type} (H : List (AV ty) → List (Blk ty) → Option R) (K : Ex → List (AV ty) → List (Blk ty) → Option R) (a : List (List RowID)) (b : List (List RowID)) (i : Int) : roundK ref02_Sets_cx (lp (body Tryz.f8) 0) H K [.sl 31 a, .sl 31 b, .lit (.int .i64 i)] [] = bif decide (i < Int.ofNat a.length) then bif decide ((0 : Int) ≤ i) && decide (i < Int.ofNat a.length) then bif decide ((0 : Int) ≤ i) && decide (i < Int.ofNat b.length) then obnd (ref02_Same (a.getD i.toNat default) (b.getD i.toNat default)) (fun r1 => bif !r1 then K .ret [.lit (.bool false)] [] else H [.sl 31 a, .sl 31 b, .lit (.int .i64 (IntKind.i64.wrap (i + (1 : Int))))] []) else none else none else K (.exit 0) [] [] := by kernel_rfl
theorem ref02_Sets_loop4 (R : Type) (K : Ex → List (AV ty) → List (Blk ty) → Option R) : ∀ (n : Nat) (a : List (List RowID)) (b : List (List RowID)) (i : Int), loopI ref02_Sets_cx (lp (body Tryz.f8) 0) K n [.sl 31 a, .sl 31 b, .lit (.int .i64 i)] [] = out (fun r => treeK K (ref02_Sets_tr4 r)) (ref02_Sets_L4 n a b i)
  | 0, _, _, _ => rfl
  | n + 1, a, b, i => by
    have ih := ref02_Sets_loop4 R K n
    rw [ref02_Sets_L4]
    exact (ref02_Sets_round4 (loopI ref02_Sets_cx (lp (body Tryz.f8) 0) K n) K a b i).trans (out_ite (out_ite (out_ite (out_ite (out_ite (rfl) (ih a b (IntKind.i64.wrap (i + (1 : Int))))) (rfl)) (rfl)) (rfl)) (rfl))
theorem ref02_Sets_to4 : LoopOK ref02_Sets_cx (lp (body Tryz.f8) 0) := loopOK_of (id := 4) (sp := ref02_Sets_sp4) (by kernel_rfl) (by kernel_rfl) (loopTo_of (V := ref02_Sets_V4) (B := ref02_Sets_B4) (L := fun n x y => ref02_Sets_L4 n x.1 x.2.1 x.2.2.1) (tr := ref02_Sets_tr4) (m := fun x y => x.1.length + x.2.1.length + Int.toNat x.2.2.1 + 1) fun R K n x y => ref02_Sets_loop4 R K n x.1 x.2.1 x.2.2.1)
noncomputable def ref02_Sets (a : List (List RowID)) (b : List (List RowID)) : Bool × Bool := bif Int.ofNat a.length != Int.ofNat b.length then (true, false) else bnd (ref02_Sets_L4 (a.length + b.length + Int.toNat (0 : Int) + (1 : Nat)) a b (0 : Int)) (fun r2 => bif isL r2 then (true, getL r2) else (true, true)) (false, default)
noncomputable def ref02_Sets_res (r : Bool) : ARes ty := ⟨[.pure (.lit (.bool r))], []⟩
theorem ref02_Sets_run (a : List (List RowID)) (b : List (List RowID)) : runFn ref02_Sets_cx Tryz.f8 (body Tryz.f8) ⟨[.pure], []⟩ [.pure (.sl 31 a), .pure (.sl 31 b)] = out (fun r => some (ref02_Sets_res r)) (ref02_Sets a b) := by
  have h : runFn ref02_Sets_cx Tryz.f8 (body Tryz.f8) ⟨[.pure], []⟩ [.pure (.sl 31 a), .pure (.sl 31 b)] = bif Int.ofNat a.length != Int.ofNat b.length then some ⟨[.pure (.lit (.bool false))], []⟩ else obnd (ref02_Sets_L4 (a.length + b.length + Int.toNat (0 : Int) + (1 : Nat)) a b (0 : Int)) (fun r3 => bif isL r3 then some ⟨[.pure (.lit (.bool (getL r3)))], []⟩ else some ⟨[.pure (.lit (.bool true))], []⟩) := by kernel_rfl
  rw [ref02_Sets]
  exact h.trans (out_ite (rfl) (out_ite (out_ite (rfl) (rfl)) (rfl)))
noncomputable def ref02_Sets_A : AL base (List (List RowID) × List (List RowID) × Unit) := aCons (aPure (vSl 31)) (aCons (aPure (vSl 31)) aNil)
noncomputable def ref02_Sets_spec : Ab.Spec ty := mkSpec ref02_Sets_A fun x => ((ref02_Sets x.1 x.2.1).1, ref02_Sets_res (ref02_Sets x.1 x.2.1).2)
theorem ref02_Sets_sound : Sound Tryz.prog base 8 ref02_Sets_spec :=
  sound_of_run (cx' := ref02_Sets_cx) draws base_ok ⟨⟨rfl, rfl, rfl, rfl, rfl, rfl⟩, rfl⟩ (spec_of [(25, ref02_Same_spec)] ⟨(ref02_Same_sound), trivial⟩) Tryz.call8 Tryz.func8 (c := body Tryz.f8) (by kernel_rfl) (loopsOK_of (l := [lp (body Tryz.f8) 0]) (by kernel_rfl) ⟨ref02_Sets_to4, trivial⟩) (sg := ⟨[.pure], []⟩) (A := ref02_Sets_A) (res := ref02_Sets_res) (F := fun x => ref02_Sets x.1 x.2.1) (fun x => ref02_Sets_run x.1 x.2.1) (fun _ => by kernel_rfl) (by kernel_rfl)
end Go.Proofs.YteopikhooiallaaGreatDoor
