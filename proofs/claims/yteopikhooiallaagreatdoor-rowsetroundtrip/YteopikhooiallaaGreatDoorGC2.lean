/- Texts of this claim, joined (the program, its functions in plain words, and what they compute). -/
import Derived.Test.YteopikhooiallaaGreatDoorGC1
import Derived.Test.YteopikhooiallaaGreatDoorGB1
set_option autoImplicit false
set_option maxRecDepth 1000000
set_option maxHeartbeats 0
/- Functions of the program as plain functions, with their contracts. Printed by program. -/
set_option autoImplicit false
set_option linter.unusedVariables false
set_option linter.unusedSimpArgs false
namespace Go.Proofs.YteopikhooiallaaGreatDoor
open Go Go.Ab
/-! ### lineage/lineagelaw02.RowsetText -/
noncomputable def law02_RowsetText_cx : Cx ty := { base0 with nt := 71, spec := fun g => List.lookup g [(6, law02_awake_spec), (15, rowset_Parse_spec), (16, ref02_Parse_spec), (17, rowset_Valid_spec), (18, ref02_Valid_spec), (19, rowset_Compare_spec), (20, ref02_Compare_spec), (21, rowset_Format_spec), (22, ref02_Format_spec), (23, rowset_FormatSet_spec), (24, ref02_FormatSet_spec)], io := fun g => (List.lookup g []).getD [], head := fun i => (List.lookup i []).getD [], out := outOf [], loops := fun i => List.lookup i [] }
noncomputable def law02_RowsetText (a : RowID) (b : RowID) (s : ByteArray) (l : List RowID) : Bool × Bool := bif decide (Int.ofNat s.size > (100 : Int)) then (true, true) else bif decide (Int.ofNat l.length > (20 : Int)) then (true, true) else bnd (rowset_Parse s) (fun r9 => bnd (ref02_Parse s) (fun r8 => bnd (rowset_Valid a) (fun r7 => bnd (ref02_Valid a) (fun r6 => bif r7 == r6 then bnd (rowset_Compare a b) (fun r5 => bnd (ref02_Compare a b) (fun r4 => bif r5 == r4 then bnd (rowset_Format a) (fun r3 => bnd (ref02_Format a) (fun r2 => bif r3.toList == r2.toList then bif r9.fst.Table == r8.fst.Table && (r9.fst.Seq == r8.fst.Seq && true) then bif r9.snd == r8.snd then bnd (rowset_FormatSet l) (fun r1 => bnd (ref02_FormatSet l) (fun r0 => (true, r1.toList == r0.toList)) (false, default)) (false, default) else (true, false) else (true, false) else (true, false)) (false, default)) (false, default) else (true, false)) (false, default)) (false, default) else (true, false)) (false, default)) (false, default)) (false, default)) (false, default)
noncomputable def law02_RowsetText_res (r : Bool) : ARes ty := ⟨[.pure (.lit (.bool r))], []⟩
theorem law02_RowsetText_run (a : RowID) (b : RowID) (s : ByteArray) (l : List RowID) : runFn law02_RowsetText_cx Tryz.f4 (body Tryz.f4) ⟨[.pure], []⟩ [.pure (.agg (base.enc 30 a)), .pure (.agg (base.enc 30 b)), .pure (.lit (.string s)), .pure (.sl 30 l)] = out (fun r => some (law02_RowsetText_res r)) (law02_RowsetText a b s l) := by
  have h : runFn law02_RowsetText_cx Tryz.f4 (body Tryz.f4) ⟨[.pure], []⟩ [.pure (.agg (base.enc 30 a)), .pure (.agg (base.enc 30 b)), .pure (.lit (.string s)), .pure (.sl 30 l)] = bif decide (Int.ofNat s.size > (100 : Int)) then some ⟨[.pure (.lit (.bool true))], []⟩ else bif decide (Int.ofNat l.length > (20 : Int)) then some ⟨[.pure (.lit (.bool true))], []⟩ else obnd (rowset_Parse s) (fun r19 => obnd (ref02_Parse s) (fun r18 => obnd (rowset_Valid a) (fun r17 => obnd (ref02_Valid a) (fun r16 => bif r17 == r16 then obnd (rowset_Compare a b) (fun r15 => obnd (ref02_Compare a b) (fun r14 => bif r15 == r14 then obnd (rowset_Format a) (fun r13 => obnd (ref02_Format a) (fun r12 => bif r13.toList == r12.toList then bif r19.fst.Table == r18.fst.Table && (r19.fst.Seq == r18.fst.Seq && true) then bif r19.snd == r18.snd then obnd (rowset_FormatSet l) (fun r11 => obnd (ref02_FormatSet l) (fun r10 => some ⟨[.pure (.lit (.bool (r11.toList == r10.toList)))], []⟩)) else some ⟨[.pure (.lit (.bool false))], []⟩ else some ⟨[.pure (.lit (.bool false))], []⟩ else some ⟨[.pure (.lit (.bool false))], []⟩)) else some ⟨[.pure (.lit (.bool false))], []⟩)) else some ⟨[.pure (.lit (.bool false))], []⟩)))) := by kernel_rfl
  rw [law02_RowsetText]
  exact h.trans (out_ite (rfl) (out_ite (rfl) (out_ite (out_ite (out_ite (out_ite (out_ite (out_ite (out_ite (out_ite (out_ite (out_ite (out_ite (out_ite (out_ite (out_ite (out_ite (rfl) (rfl)) (rfl)) (rfl)) (rfl)) (rfl)) (rfl)) (rfl)) (rfl)) (rfl)) (rfl)) (rfl)) (rfl)) (rfl)) (rfl)) (rfl))))
noncomputable def law02_RowsetText_A : AL base0 (RowID × RowID × ByteArray × List RowID × Unit) := aCons (aPure (vAgg 30)) (aCons (aPure (vAgg 30)) (aCons (aPure vStr) (aCons (aPure (vSl 30)) aNil)))
noncomputable def law02_RowsetText_spec : Ab.Spec ty := mkSpec law02_RowsetText_A fun x => ((law02_RowsetText x.1 x.2.1 x.2.2.1 x.2.2.2.1).1, law02_RowsetText_res (law02_RowsetText x.1 x.2.1 x.2.2.1 x.2.2.2.1).2)
theorem law02_RowsetText_sound : Sound Tryz.prog base0 4 law02_RowsetText_spec :=
  sound_of_run (cx' := law02_RowsetText_cx) draws base0_ok ⟨⟨rfl, rfl, rfl, rfl, rfl, rfl⟩, rfl⟩ (spec_of [(6, law02_awake_spec), (15, rowset_Parse_spec), (16, ref02_Parse_spec), (17, rowset_Valid_spec), (18, ref02_Valid_spec), (19, rowset_Compare_spec), (20, ref02_Compare_spec), (21, rowset_Format_spec), (22, ref02_Format_spec), (23, rowset_FormatSet_spec), (24, ref02_FormatSet_spec)] ⟨(law02_awake_sound), (rowset_Parse_sound), (ref02_Parse_sound.nodr), (rowset_Valid_sound.nodr), (ref02_Valid_sound.nodr), (rowset_Compare_sound.nodr), (ref02_Compare_sound.nodr), (rowset_Format_sound.nodr), (ref02_Format_sound.nodr), (rowset_FormatSet_sound), (ref02_FormatSet_sound.nodr), trivial⟩) Tryz.call4 Tryz.func4 (c := body Tryz.f4) (by kernel_rfl) (loopsOK_of (l := []) (by kernel_rfl) trivial) (sg := ⟨[.pure], []⟩) (A := law02_RowsetText_A) (res := law02_RowsetText_res) (F := fun x => law02_RowsetText x.1 x.2.1 x.2.2.1 x.2.2.2.1) (fun x => law02_RowsetText_run x.1 x.2.1 x.2.2.1 x.2.2.2.1) (fun _ => by kernel_rfl)
end Go.Proofs.YteopikhooiallaaGreatDoor
/- Functions of the program as plain functions, with their contracts. Printed by program. -/
set_option autoImplicit false
set_option linter.unusedVariables false
set_option linter.unusedSimpArgs false
namespace Go.Proofs.YteopikhooiallaaGreatDoor
open Go Go.Ab
/-! ### lineage/lineageref02.Union -/
noncomputable def ref02_Union_L3 : Nat → List RowID → List RowID → Int → Bool × List RowID
  | 0, _, _, _ => (false, default)
  | n + 1, b, out_, i => bif decide (i < Int.ofNat b.length) then bif decide ((0 : Int) ≤ i) && decide (i < Int.ofNat b.length) then bnd (ref02_insert out_ (b.getD i.toNat default)) (fun r0 => ref02_Union_L3 n b (r0) (IntKind.i64.wrap (i + (1 : Int)))) (false, default) else (false, default) else (true, out_)
noncomputable def ref02_Union_tr3 (r : List RowID) : LTree ty := .done (.exit 0) [.sl 30 r] []
noncomputable def ref02_Union_V3 : LL ty (List RowID × List RowID × Int × Unit) := llCons (lSl 30) (llCons (lSl 30) (llCons (lInt .i64) llNil))
noncomputable def ref02_Union_B3 : BL ty (Unit) := bNil
noncomputable def ref02_Union_sp3 : LSpec ty := mkLoop ref02_Union_V3 ref02_Union_B3 fun x y => ((ref02_Union_L3 (x.1.length + x.2.1.length + Int.toNat x.2.2.1 + 1) x.1 x.2.1 x.2.2.1).1, ref02_Union_tr3 (ref02_Union_L3 (x.1.length + x.2.1.length + Int.toNat x.2.2.1 + 1) x.1 x.2.1 x.2.2.1).2)
noncomputable def ref02_Union_cx : Cx ty := { base with nt := 22, spec := fun g => List.lookup g [(33, ref02_Normalize_spec), (57, ref02_insert_spec)], io := fun g => (List.lookup g []).getD [], head := fun i => (List.lookup i [(3, [(1, .keep), (5, .keep), (6, .keep)])]).getD [], out := outOf [(3, 1, [(5, .keep)])], loops := fun i => List.lookup i [(3, ref02_Union_sp3)] }
theorem ref02_Union_round3 {R : Type} (H : List (AV ty) → List (Blk ty) → Option R) (K : Ex → List (AV ty) → List (Blk ty) → Option R) (b : List RowID) (out_ : List RowID) (i : Int) : roundK ref02_Union_cx (lp (body Tryz.f40) 0) H K [.sl 30 b, .sl 30 out_, .lit (.int .i64 i)] [] = bif decide (i < Int.ofNat b.length) then bif decide ((0 : Int) ≤ i) && decide (i < Int.ofNat b.length) then obnd (ref02_insert out_ (b.getD i.toNat default)) (fun r1 => H [.sl 30 b, .sl 30 (r1), .lit (.int .i64 (IntKind.i64.wrap (i + (1 : Int))))] []) else none else K (.exit 0) [.sl 30 out_] [] := by kernel_rfl
theorem ref02_Union_loop3 (R : Type) (K : Ex → List (AV ty) → List (Blk ty) → Option R) : ∀ (n : Nat) (b : List RowID) (out_ : List RowID) (i : Int), loopI ref02_Union_cx (lp (body Tryz.f40) 0) K n [.sl 30 b, .sl 30 out_, .lit (.int .i64 i)] [] = out (fun r => treeK K (ref02_Union_tr3 r)) (ref02_Union_L3 n b out_ i)
  | 0, _, _, _ => rfl
  | n + 1, b, out_, i => by
    have ih := ref02_Union_loop3 R K n
    rw [ref02_Union_L3]
    exact (ref02_Union_round3 (loopI ref02_Union_cx (lp (body Tryz.f40) 0) K n) K b out_ i).trans (out_ite (out_ite (out_ite (ih b ((ref02_insert out_ (b.getD i.toNat default)).snd) (IntKind.i64.wrap (i + (1 : Int)))) (rfl)) (rfl)) (rfl))
theorem ref02_Union_to3 : LoopOK ref02_Union_cx (lp (body Tryz.f40) 0) := loopOK_of (id := 3) (sp := ref02_Union_sp3) (by kernel_rfl) (by kernel_rfl) (loopTo_of (V := ref02_Union_V3) (B := ref02_Union_B3) (L := fun n x y => ref02_Union_L3 n x.1 x.2.1 x.2.2.1) (tr := ref02_Union_tr3) (m := fun x y => x.1.length + x.2.1.length + Int.toNat x.2.2.1 + 1) fun R K n x y => ref02_Union_loop3 R K n x.1 x.2.1 x.2.2.1)
noncomputable def ref02_Union (a : List RowID) (b : List RowID) : Bool × List RowID := bnd (ref02_Normalize a) (fun r3 => bnd (ref02_Union_L3 (b.length + r3.length + Int.toNat (0 : Int) + (1 : Nat)) b r3 (0 : Int)) (fun r2 => (true, r2)) (false, default)) (false, default)
noncomputable def ref02_Union_res (r : List RowID) : ARes ty := ⟨[.pure (.sl 30 r)], []⟩
theorem ref02_Union_run (a : List RowID) (b : List RowID) : runFn ref02_Union_cx Tryz.f40 (body Tryz.f40) ⟨[.pure], []⟩ [.pure (.sl 30 a), .pure (.sl 30 b)] = out (fun r => some (ref02_Union_res r)) (ref02_Union a b) := by
  have h : runFn ref02_Union_cx Tryz.f40 (body Tryz.f40) ⟨[.pure], []⟩ [.pure (.sl 30 a), .pure (.sl 30 b)] = obnd (ref02_Normalize a) (fun r5 => obnd (ref02_Union_L3 (b.length + r5.length + Int.toNat (0 : Int) + (1 : Nat)) b r5 (0 : Int)) (fun r4 => some ⟨[.pure (.sl 30 (r4))], []⟩)) := by kernel_rfl
  rw [ref02_Union]
  exact h.trans (out_ite (out_ite (rfl) (rfl)) (rfl))
noncomputable def ref02_Union_A : AL base (List RowID × List RowID × Unit) := aCons (aPure (vSl 30)) (aCons (aPure (vSl 30)) aNil)
noncomputable def ref02_Union_spec : Ab.Spec ty := mkSpec ref02_Union_A fun x => ((ref02_Union x.1 x.2.1).1, ref02_Union_res (ref02_Union x.1 x.2.1).2)
theorem ref02_Union_sound : Sound Tryz.prog base 40 ref02_Union_spec :=
  sound_of_run (cx' := ref02_Union_cx) draws base_ok ⟨⟨rfl, rfl, rfl, rfl, rfl, rfl⟩, rfl⟩ (spec_of [(33, ref02_Normalize_spec), (57, ref02_insert_spec)] ⟨(ref02_Normalize_sound), (ref02_insert_sound), trivial⟩) Tryz.call40 Tryz.func40 (c := body Tryz.f40) (by kernel_rfl) (loopsOK_of (l := [lp (body Tryz.f40) 0]) (by kernel_rfl) ⟨ref02_Union_to3, trivial⟩) (sg := ⟨[.pure], []⟩) (A := ref02_Union_A) (res := ref02_Union_res) (F := fun x => ref02_Union x.1 x.2.1) (fun x => ref02_Union_run x.1 x.2.1) (fun _ => by kernel_rfl)
end Go.Proofs.YteopikhooiallaaGreatDoor
/- Functions of the program as plain functions, with their contracts. Printed by program. -/
set_option autoImplicit false
set_option linter.unusedVariables false
set_option linter.unusedSimpArgs false
namespace Go.Proofs.YteopikhooiallaaGreatDoor
open Go Go.Ab
/-! ### lineage/lineageref02.Subset -/
noncomputable def ref02_Subset_L2 : Nat → List RowID → List RowID → Int → Bool × (Bool ⊕ Unit)
  | 0, _, _, _ => (false, .inl default)
  | n + 1, a, b, i => bif decide (i < Int.ofNat a.length) then bif decide ((0 : Int) ≤ i) && decide (i < Int.ofNat a.length) then bnd (ref02_In b (a.getD i.toNat default)) (fun r0 => bif !r0 then (true, .inl false) else ref02_Subset_L2 n a b (IntKind.i64.wrap (i + (1 : Int)))) (false, .inl default) else (false, .inl default) else (true, .inr ())
noncomputable def ref02_Subset_tr2 (r : Bool ⊕ Unit) : LTree ty := .ite (isL r) (.done .ret [.lit (.bool (getL r))] []) (.done (.exit 0) [] [])
noncomputable def ref02_Subset_V2 : LL ty (List RowID × List RowID × Int × Unit) := llCons (lSl 30) (llCons (lSl 30) (llCons (lInt .i64) llNil))
noncomputable def ref02_Subset_B2 : BL ty (Unit) := bNil
noncomputable def ref02_Subset_sp2 : LSpec ty := mkLoop ref02_Subset_V2 ref02_Subset_B2 fun x y => ((ref02_Subset_L2 (x.1.length + x.2.1.length + Int.toNat x.2.2.1 + 1) x.1 x.2.1 x.2.2.1).1, ref02_Subset_tr2 (ref02_Subset_L2 (x.1.length + x.2.1.length + Int.toNat x.2.2.1 + 1) x.1 x.2.1 x.2.2.1).2)
noncomputable def ref02_Subset_cx : Cx ty := { base with nt := 19, spec := fun g => List.lookup g [(60, ref02_In_spec)], io := fun g => (List.lookup g []).getD [], head := fun i => (List.lookup i [(2, [(0, .keep), (1, .keep), (5, .keep)])]).getD [], out := outOf [(2, 1, []), (2, 0, [(4, .keep)])], loops := fun i => List.lookup i [(2, ref02_Subset_sp2)] }
theorem ref02_Subset_round2 {R : Type} (H : List (AV ty) → List (Blk ty) → Option R) (K : Ex → List (AV ty) → List (Blk ty) → Option R) (a : List RowID) (b : List RowID) (i : Int) : roundK ref02_Subset_cx (lp (body Tryz.f38) 0) H K [.sl 30 a, .sl 30 b, .lit (.int .i64 i)] [] = bif decide (i < Int.ofNat a.length) then bif decide ((0 : Int) ≤ i) && decide (i < Int.ofNat a.length) then obnd (ref02_In b (a.getD i.toNat default)) (fun r1 => bif !r1 then K .ret [.lit (.bool false)] [] else H [.sl 30 a, .sl 30 b, .lit (.int .i64 (IntKind.i64.wrap (i + (1 : Int))))] []) else none else K (.exit 0) [] [] := by kernel_rfl
theorem ref02_Subset_loop2 (R : Type) (K : Ex → List (AV ty) → List (Blk ty) → Option R) : ∀ (n : Nat) (a : List RowID) (b : List RowID) (i : Int), loopI ref02_Subset_cx (lp (body Tryz.f38) 0) K n [.sl 30 a, .sl 30 b, .lit (.int .i64 i)] [] = out (fun r => treeK K (ref02_Subset_tr2 r)) (ref02_Subset_L2 n a b i)
  | 0, _, _, _ => rfl
  | n + 1, a, b, i => by
    have ih := ref02_Subset_loop2 R K n
    rw [ref02_Subset_L2]
    exact (ref02_Subset_round2 (loopI ref02_Subset_cx (lp (body Tryz.f38) 0) K n) K a b i).trans (out_ite (out_ite (out_ite (out_ite (rfl) (ih a b (IntKind.i64.wrap (i + (1 : Int))))) (rfl)) (rfl)) (rfl))
theorem ref02_Subset_to2 : LoopOK ref02_Subset_cx (lp (body Tryz.f38) 0) := loopOK_of (id := 2) (sp := ref02_Subset_sp2) (by kernel_rfl) (by kernel_rfl) (loopTo_of (V := ref02_Subset_V2) (B := ref02_Subset_B2) (L := fun n x y => ref02_Subset_L2 n x.1 x.2.1 x.2.2.1) (tr := ref02_Subset_tr2) (m := fun x y => x.1.length + x.2.1.length + Int.toNat x.2.2.1 + 1) fun R K n x y => ref02_Subset_loop2 R K n x.1 x.2.1 x.2.2.1)
noncomputable def ref02_Subset (a : List RowID) (b : List RowID) : Bool × Bool := bnd (ref02_Subset_L2 (a.length + b.length + Int.toNat (0 : Int) + (1 : Nat)) a b (0 : Int)) (fun r2 => bif isL r2 then (true, getL r2) else (true, true)) (false, default)
noncomputable def ref02_Subset_res (r : Bool) : ARes ty := ⟨[.pure (.lit (.bool r))], []⟩
theorem ref02_Subset_run (a : List RowID) (b : List RowID) : runFn ref02_Subset_cx Tryz.f38 (body Tryz.f38) ⟨[.pure], []⟩ [.pure (.sl 30 a), .pure (.sl 30 b)] = out (fun r => some (ref02_Subset_res r)) (ref02_Subset a b) := by
  have h : runFn ref02_Subset_cx Tryz.f38 (body Tryz.f38) ⟨[.pure], []⟩ [.pure (.sl 30 a), .pure (.sl 30 b)] = obnd (ref02_Subset_L2 (a.length + b.length + Int.toNat (0 : Int) + (1 : Nat)) a b (0 : Int)) (fun r3 => bif isL r3 then some ⟨[.pure (.lit (.bool (getL r3)))], []⟩ else some ⟨[.pure (.lit (.bool true))], []⟩) := by kernel_rfl
  rw [ref02_Subset]
  exact h.trans (out_ite (out_ite (rfl) (rfl)) (rfl))
noncomputable def ref02_Subset_A : AL base (List RowID × List RowID × Unit) := aCons (aPure (vSl 30)) (aCons (aPure (vSl 30)) aNil)
noncomputable def ref02_Subset_spec : Ab.Spec ty := mkSpec ref02_Subset_A fun x => ((ref02_Subset x.1 x.2.1).1, ref02_Subset_res (ref02_Subset x.1 x.2.1).2)
theorem ref02_Subset_sound : Sound Tryz.prog base 38 ref02_Subset_spec :=
  sound_of_run (cx' := ref02_Subset_cx) draws base_ok ⟨⟨rfl, rfl, rfl, rfl, rfl, rfl⟩, rfl⟩ (spec_of [(60, ref02_In_spec)] ⟨(ref02_In_sound), trivial⟩) Tryz.call38 Tryz.func38 (c := body Tryz.f38) (by kernel_rfl) (loopsOK_of (l := [lp (body Tryz.f38) 0]) (by kernel_rfl) ⟨ref02_Subset_to2, trivial⟩) (sg := ⟨[.pure], []⟩) (A := ref02_Subset_A) (res := ref02_Subset_res) (F := fun x => ref02_Subset x.1 x.2.1) (fun x => ref02_Subset_run x.1 x.2.1) (fun _ => by kernel_rfl)
end Go.Proofs.YteopikhooiallaaGreatDoor
/- Functions of the program as plain functions, with their contracts. Printed by program. -/
set_option autoImplicit false
set_option linter.unusedVariables false
set_option linter.unusedSimpArgs false
namespace Go.Proofs.YteopikhooiallaaGreatDoor
open Go Go.Ab
/-! ### lineage/lineageref02.Same -/
noncomputable def ref02_Same_L4 : Nat → List RowID → List RowID → Int → Bool × (Bool ⊕ Unit)
  | 0, _, _, _ => (false, .inl default)
  | n + 1, a, b, i => bif decide (i < Int.ofNat a.length) then bif decide ((0 : Int) ≤ i) && decide (i < Int.ofNat a.length) then bif decide ((0 : Int) ≤ i) && decide (i < Int.ofNat b.length) then bif !((a.getD i.toNat default).Table == (b.getD i.toNat default).Table && ((a.getD i.toNat default).Seq == (b.getD i.toNat default).Seq && true)) then (true, .inl false) else ref02_Same_L4 n a b (IntKind.i64.wrap (i + (1 : Int))) else (false, .inl default) else (false, .inl default) else (true, .inr ())
noncomputable def ref02_Same_tr4 (r : Bool ⊕ Unit) : LTree ty := .ite (isL r) (.done .ret [.lit (.bool (getL r))] []) (.done (.exit 0) [] [])
noncomputable def ref02_Same_V4 : LL ty (List RowID × List RowID × Int × Unit) := llCons (lSl 30) (llCons (lSl 30) (llCons (lInt .i64) llNil))
noncomputable def ref02_Same_B4 : BL ty (Unit) := bNil
noncomputable def ref02_Same_sp4 : LSpec ty := mkLoop ref02_Same_V4 ref02_Same_B4 fun x y => ((ref02_Same_L4 (x.1.length + x.2.1.length + Int.toNat x.2.2.1 + 1) x.1 x.2.1 x.2.2.1).1, ref02_Same_tr4 (ref02_Same_L4 (x.1.length + x.2.1.length + Int.toNat x.2.2.1 + 1) x.1 x.2.1 x.2.2.1).2)
noncomputable def ref02_Same_cx : Cx ty := { base with nt := 26, spec := fun g => List.lookup g [], io := fun g => (List.lookup g []).getD [], head := fun i => (List.lookup i [(4, [(0, .keep), (1, .keep), (5, .keep)])]).getD [], out := outOf [(4, 1, []), (4, 0, [(4, .keep)])], loops := fun i => List.lookup i [(4, ref02_Same_sp4)] }
theorem ref02_Same_round4 {R : Type} (H : List (AV ty) → List (Blk ty) → Option R) (K : Ex → List (AV ty) → List (Blk ty) → Option R) (a : List RowID) (b : List RowID) (i : Int) : roundK ref02_Same_cx (lp (body Tryz.f25) 0) H K [.sl 30 a, .sl 30 b, .lit (.int .i64 i)] [] = bif decide (i < Int.ofNat a.length) then bif decide ((0 : Int) ≤ i) && decide (i < Int.ofNat a.length) then bif decide ((0 : Int) ≤ i) && decide (i < Int.ofNat b.length) then bif !((a.getD i.toNat default).Table == (b.getD i.toNat default).Table && ((a.getD i.toNat default).Seq == (b.getD i.toNat default).Seq && true)) then K .ret [.lit (.bool false)] [] else H [.sl 30 a, .sl 30 b, .lit (.int .i64 (IntKind.i64.wrap (i + (1 : Int))))] [] else none else none else K (.exit 0) [] [] := by kernel_rfl
theorem ref02_Same_loop4 (R : Type) (K : Ex → List (AV ty) → List (Blk ty) → Option R) : ∀ (n : Nat) (a : List RowID) (b : List RowID) (i : Int), loopI ref02_Same_cx (lp (body Tryz.f25) 0) K n [.sl 30 a, .sl 30 b, .lit (.int .i64 i)] [] = out (fun r => treeK K (ref02_Same_tr4 r)) (ref02_Same_L4 n a b i)
  | 0, _, _, _ => rfl
  | n + 1, a, b, i => by
    have ih := ref02_Same_loop4 R K n
    rw [ref02_Same_L4]
    exact (ref02_Same_round4 (loopI ref02_Same_cx (lp (body Tryz.f25) 0) K n) K a b i).trans (out_ite (out_ite (out_ite (out_ite (rfl) (ih a b (IntKind.i64.wrap (i + (1 : Int))))) (rfl)) (rfl)) (rfl))
theorem ref02_Same_to4 : LoopOK ref02_Same_cx (lp (body Tryz.f25) 0) := loopOK_of (id := 4) (sp := ref02_Same_sp4) (by kernel_rfl) (by kernel_rfl) (loopTo_of (V := ref02_Same_V4) (B := ref02_Same_B4) (L := fun n x y => ref02_Same_L4 n x.1 x.2.1 x.2.2.1) (tr := ref02_Same_tr4) (m := fun x y => x.1.length + x.2.1.length + Int.toNat x.2.2.1 + 1) fun R K n x y => ref02_Same_loop4 R K n x.1 x.2.1 x.2.2.1)
noncomputable def ref02_Same (a : List RowID) (b : List RowID) : Bool × Bool := bif Int.ofNat a.length != Int.ofNat b.length then (true, false) else bnd (ref02_Same_L4 (a.length + b.length + Int.toNat (0 : Int) + (1 : Nat)) a b (0 : Int)) (fun r0 => bif isL r0 then (true, getL r0) else (true, true)) (false, default)
noncomputable def ref02_Same_res (r : Bool) : ARes ty := ⟨[.pure (.lit (.bool r))], []⟩
theorem ref02_Same_run (a : List RowID) (b : List RowID) : runFn ref02_Same_cx Tryz.f25 (body Tryz.f25) ⟨[.pure], []⟩ [.pure (.sl 30 a), .pure (.sl 30 b)] = out (fun r => some (ref02_Same_res r)) (ref02_Same a b) := by
  have h : runFn ref02_Same_cx Tryz.f25 (body Tryz.f25) ⟨[.pure], []⟩ [.pure (.sl 30 a), .pure (.sl 30 b)] = bif Int.ofNat a.length != Int.ofNat b.length then some ⟨[.pure (.lit (.bool false))], []⟩ else obnd (ref02_Same_L4 (a.length + b.length + Int.toNat (0 : Int) + (1 : Nat)) a b (0 : Int)) (fun r1 => bif isL r1 then some ⟨[.pure (.lit (.bool (getL r1)))], []⟩ else some ⟨[.pure (.lit (.bool true))], []⟩) := by kernel_rfl
  rw [ref02_Same]
  exact h.trans (out_ite (rfl) (out_ite (out_ite (rfl) (rfl)) (rfl)))
noncomputable def ref02_Same_A : AL base (List RowID × List RowID × Unit) := aCons (aPure (vSl 30)) (aCons (aPure (vSl 30)) aNil)
noncomputable def ref02_Same_spec : Ab.Spec ty := mkSpec ref02_Same_A fun x => ((ref02_Same x.1 x.2.1).1, ref02_Same_res (ref02_Same x.1 x.2.1).2)
theorem ref02_Same_sound : Sound Tryz.prog base 25 ref02_Same_spec :=
  sound_of_run (cx' := ref02_Same_cx) draws base_ok ⟨⟨rfl, rfl, rfl, rfl, rfl, rfl⟩, rfl⟩ (spec_of [] trivial) Tryz.call25 Tryz.func25 (c := body Tryz.f25) (by kernel_rfl) (loopsOK_of (l := [lp (body Tryz.f25) 0]) (by kernel_rfl) ⟨ref02_Same_to4, trivial⟩) (sg := ⟨[.pure], []⟩) (A := ref02_Same_A) (res := ref02_Same_res) (F := fun x => ref02_Same x.1 x.2.1) (fun x => ref02_Same_run x.1 x.2.1) (fun _ => by kernel_rfl)
end Go.Proofs.YteopikhooiallaaGreatDoor
/- Functions of the program as plain functions, with their contracts. Printed by program. -/
set_option autoImplicit false
set_option linter.unusedVariables false
set_option linter.unusedSimpArgs false
namespace Go.Proofs.YteopikhooiallaaGreatDoor
open Go Go.Ab
/-! ### lineage/lineageref02.Sets -/
noncomputable def ref02_Sets_L4 : Nat → List (List RowID) → List (List RowID) → Int → Bool × (Bool ⊕ Unit)
  | 0, _, _, _ => (false, .inl default)
  | n + 1, a, b, i => bif decide (i < Int.ofNat a.length) then bif decide ((0 : Int) ≤ i) && decide (i < Int.ofNat a.length) then bif decide ((0 : Int) ≤ i) && decide (i < Int.ofNat b.length) then bnd (ref02_Same (a.getD i.toNat default) (b.getD i.toNat default)) (fun r0 => bif !r0 then (true, .inl false) else ref02_Sets_L4 n a b (IntKind.i64.wrap (i + (1 : Int)))) (false, .inl default) else (false, .inl default) else (false, .inl default) else (true, .inr ())
noncomputable def ref02_Sets_tr4 (r : Bool ⊕ Unit) : LTree ty := .ite (isL r) (.done .ret [.lit (.bool (getL r))] []) (.done (.exit 0) [] [])
noncomputable def ref02_Sets_V4 : LL ty (List (List RowID) × List (List RowID) × Int × Unit) := llCons (lSl 31) (llCons (lSl 31) (llCons (lInt .i64) llNil))
noncomputable def ref02_Sets_B4 : BL ty (Unit) := bNil
noncomputable def ref02_Sets_sp4 : LSpec ty := mkLoop ref02_Sets_V4 ref02_Sets_B4 fun x y => ((ref02_Sets_L4 (x.1.length + x.2.1.length + Int.toNat x.2.2.1 + 1) x.1 x.2.1 x.2.2.1).1, ref02_Sets_tr4 (ref02_Sets_L4 (x.1.length + x.2.1.length + Int.toNat x.2.2.1 + 1) x.1 x.2.1 x.2.2.1).2)
noncomputable def ref02_Sets_cx : Cx ty := { base with nt := 27, spec := fun g => List.lookup g [(25, ref02_Same_spec)], io := fun g => (List.lookup g []).getD [], head := fun i => (List.lookup i [(4, [(0, .keep), (1, .keep), (5, .keep)])]).getD [], out := outOf [(4, 1, []), (4, 0, [(4, .keep)])], loops := fun i => List.lookup i [(4, ref02_Sets_sp4)] }
theorem ref02_Sets_round4 {R : Type} (H : List (AV ty) → List (Blk ty) → Option R) (K : Ex → List (AV ty) → List (Blk ty) → Option R) (a : List (List RowID)) (b : List (List RowID)) (i : Int) : roundK ref02_Sets_cx (lp (body Tryz.f8) 0) H K [.sl 31 a, .sl 31 b, .lit (.int .i64 i)] [] = bif decide (i < Int.ofNat a.length) then bif decide ((0 : Int) ≤ i) && decide (i < Int.ofNat a.length) then bif decide ((0 : Int) ≤ i) && decide (i < Int.ofNat b.length) then obnd (ref02_Same (a.getD i.toNat default) (b.getD i.toNat default)) (fun r1 => bif !r1 then K .ret [.lit (.bool false)] [] else H [.sl 31 a, .sl 31 b, .lit (.int .i64 (IntKind.i64.wrap (i + (1 : Int))))] []) else none else none else K (.exit 0) [] [] := by kernel_rfl
theorem ref02_Sets_loop4 (R : Type) (K : Ex → List (AV ty) → List (Blk ty) → Option R) : ∀ (n : Nat) (a : List (List RowID)) (b : List (List RowID)) (i : Int), loopI ref02_Sets_cx (lp (body Tryz.f8) 0) K n [.sl 31 a, .sl 31 b, .lit (.int .i64 i)] [] = out (fun r => treeK K (ref02_Sets_tr4 r)) (ref02_Sets_L4 n a b i)
  | 0, _, _, _ => rfl
  | n + 1, a, b, i => by
    have ih := ref02_Sets_loop4 R K n
    rw [ref02_Sets_L4]
    exact (ref02_Sets_round4 (loopI ref02_Sets_cx (lp (body Tryz.f8) 0) K n) K a b i).trans (out_ite (out_ite (out_ite (out_ite (out_ite (rfl) (ih a b (IntKind.i64.wrap (i + (1 : Int))))) (rfl)) (rfl)) (rfl)) (rfl))
theorem ref02_Sets_to4 : LoopOK ref02_Sets_cx (lp (body Tryz.f8) 0) := loopOK_of (id := 4) (sp := ref02_Sets_sp4) (by kernel_rfl) (by kernel_rfl) (loopTo_of (V := ref02_Sets_V4) (B := ref02_Sets_B4) (L := fun n x y => ref02_Sets_L4 n x.1 x.2.1 x.2.2.1) (tr := ref02_Sets_tr4) (m := fun x y => x.1.length + x.2.1.length + Int.toNat x.2.2.1 + 1) fun R K n x y => ref02_Sets_loop4 R K n x.1 x.2.1 x.2.2.1)
noncomputable def ref02_Sets (a : List (List RowID)) (b : List (List RowID)) : Bool × Bool := bif Int.ofNat a.length != Int.ofNat b.length then (true, false) else bnd (ref02_Sets_L4 (a.length + b.length + Int.toNat (0 : Int) + (1 : Nat)) a b (0 : Int)) (fun r2 => bif isL r2 then (true, getL r2) else (true, true)) (false, default)
noncomputable def ref02_Sets_res (r : Bool) : ARes ty := ⟨[.pure (.lit (.bool r))], []⟩
theorem ref02_Sets_run (a : List (List RowID)) (b : List (List RowID)) : runFn ref02_Sets_cx Tryz.f8 (body Tryz.f8) ⟨[.pure], []⟩ [.pure (.sl 31 a), .pure (.sl 31 b)] = out (fun r => some (ref02_Sets_res r)) (ref02_Sets a b) := by
  have h : runFn ref02_Sets_cx Tryz.f8 (body Tryz.f8) ⟨[.pure], []⟩ [.pure (.sl 31 a), .pure (.sl 31 b)] = bif Int.ofNat a.length != Int.ofNat b.length then some ⟨[.pure (.lit (.bool false))], []⟩ else obnd (ref02_Sets_L4 (a.length + b.length + Int.toNat (0 : Int) + (1 : Nat)) a b (0 : Int)) (fun r3 => bif isL r3 then some ⟨[.pure (.lit (.bool (getL r3)))], []⟩ else some ⟨[.pure (.lit (.bool true))], []⟩) := by kernel_rfl
  rw [ref02_Sets]
  exact h.trans (out_ite (rfl) (out_ite (out_ite (rfl) (rfl)) (rfl)))
noncomputable def ref02_Sets_A : AL base (List (List RowID) × List (List RowID) × Unit) := aCons (aPure (vSl 31)) (aCons (aPure (vSl 31)) aNil)
noncomputable def ref02_Sets_spec : Ab.Spec ty := mkSpec ref02_Sets_A fun x => ((ref02_Sets x.1 x.2.1).1, ref02_Sets_res (ref02_Sets x.1 x.2.1).2)
theorem ref02_Sets_sound : Sound Tryz.prog base 8 ref02_Sets_spec :=
  sound_of_run (cx' := ref02_Sets_cx) draws base_ok ⟨⟨rfl, rfl, rfl, rfl, rfl, rfl⟩, rfl⟩ (spec_of [(25, ref02_Same_spec)] ⟨(ref02_Same_sound), trivial⟩) Tryz.call8 Tryz.func8 (c := body Tryz.f8) (by kernel_rfl) (loopsOK_of (l := [lp (body Tryz.f8) 0]) (by kernel_rfl) ⟨ref02_Sets_to4, trivial⟩) (sg := ⟨[.pure], []⟩) (A := ref02_Sets_A) (res := ref02_Sets_res) (F := fun x => ref02_Sets x.1 x.2.1) (fun x => ref02_Sets_run x.1 x.2.1) (fun _ => by kernel_rfl)
end Go.Proofs.YteopikhooiallaaGreatDoor
/- Functions of the program as plain functions, with their contracts. Printed by program. -/
set_option autoImplicit false
set_option linter.unusedVariables false
set_option linter.unusedSimpArgs false
namespace Go.Proofs.YteopikhooiallaaGreatDoor
open Go Go.Ab
/-! ### lineage/lineageref02.CompareSets -/
noncomputable def ref02_CompareSets_L2 : Nat → List RowID → List RowID → Int → Bool × (Int ⊕ (List RowID × List RowID))
  | 0, _, _, _ => (false, .inl default)
  | n + 1, a, b, i => bif decide (i < Int.ofNat a.length) then bif decide (i < Int.ofNat b.length) then bif decide ((0 : Int) ≤ i) && decide (i < Int.ofNat a.length) then bif decide ((0 : Int) ≤ i) && decide (i < Int.ofNat b.length) then bnd (ref02_Compare (a.getD i.toNat default) (b.getD i.toNat default)) (fun r0 => bif r0 != (0 : Int) then (true, .inl (r0)) else ref02_CompareSets_L2 n a b (IntKind.i64.wrap (i + (1 : Int)))) (false, .inl default) else (false, .inl default) else (false, .inl default) else (true, .inr (a, b)) else (true, .inr (a, b))
noncomputable def ref02_CompareSets_tr2 (r : Int ⊕ (List RowID × List RowID)) : LTree ty := .ite (isL r) (.done .ret [.lit (.int .i64 (getL r))] []) (.done (.exit 0) [.sl 30 ((getR r).1), .sl 30 ((getR r).2)] [])
noncomputable def ref02_CompareSets_V2 : LL ty (List RowID × List RowID × Int × Unit) := llCons (lSl 30) (llCons (lSl 30) (llCons (lInt .i64) llNil))
noncomputable def ref02_CompareSets_B2 : BL ty (Unit) := bNil
noncomputable def ref02_CompareSets_sp2 : LSpec ty := mkLoop ref02_CompareSets_V2 ref02_CompareSets_B2 fun x y => ((ref02_CompareSets_L2 (x.1.length + x.2.1.length + Int.toNat x.2.2.1 + 1) x.1 x.2.1 x.2.2.1).1, ref02_CompareSets_tr2 (ref02_CompareSets_L2 (x.1.length + x.2.1.length + Int.toNat x.2.2.1 + 1) x.1 x.2.1 x.2.2.1).2)
noncomputable def ref02_CompareSets_cx : Cx ty := { base with nt := 41, spec := fun g => List.lookup g [(20, ref02_Compare_spec)], io := fun g => (List.lookup g []).getD [], head := fun i => (List.lookup i [(2, [(0, .keep), (1, .keep), (5, .keep)])]).getD [], out := outOf [(2, 1, [(0, .keep), (1, .keep)]), (2, 0, [(4, .keep)])], loops := fun i => List.lookup i [(2, ref02_CompareSets_sp2)] }
theorem ref02_CompareSets_round2 {R : Type} (H : List (AV ty) → List (Blk ty) → Option R) (K : Ex → List (AV ty) → List (Blk ty) → Option R) (a : List RowID) (b : List RowID) (i : Int) : roundK ref02_CompareSets_cx (lp (body Tryz.f56) 0) H K [.sl 30 a, .sl 30 b, .lit (.int .i64 i)] [] = bif decide (i < Int.ofNat a.length) then bif decide (i < Int.ofNat b.length) then bif decide ((0 : Int) ≤ i) && decide (i < Int.ofNat a.length) then bif decide ((0 : Int) ≤ i) && decide (i < Int.ofNat b.length) then obnd (ref02_Compare (a.getD i.toNat default) (b.getD i.toNat default)) (fun r1 => bif r1 != (0 : Int) then K .ret [.lit (.int .i64 (r1))] [] else H [.sl 30 a, .sl 30 b, .lit (.int .i64 (IntKind.i64.wrap (i + (1 : Int))))] []) else none else none else K (.exit 0) [.sl 30 a, .sl 30 b] [] else K (.exit 0) [.sl 30 a, .sl 30 b] [] := by kernel_rfl
theorem ref02_CompareSets_loop2 (R : Type) (K : Ex → List (AV ty) → List (Blk ty) → Option R) : ∀ (n : Nat) (a : List RowID) (b : List RowID) (i : Int), loopI ref02_CompareSets_cx (lp (body Tryz.f56) 0) K n [.sl 30 a, .sl 30 b, .lit (.int .i64 i)] [] = out (fun r => treeK K (ref02_CompareSets_tr2 r)) (ref02_CompareSets_L2 n a b i)
  | 0, _, _, _ => rfl
  | n + 1, a, b, i => by
    have ih := ref02_CompareSets_loop2 R K n
    rw [ref02_CompareSets_L2]
    exact (ref02_CompareSets_round2 (loopI ref02_CompareSets_cx (lp (body Tryz.f56) 0) K n) K a b i).trans (out_ite (out_ite (out_ite (out_ite (out_ite (out_ite (rfl) (ih a b (IntKind.i64.wrap (i + (1 : Int))))) (rfl)) (rfl)) (rfl)) (rfl)) (rfl))
theorem ref02_CompareSets_to2 : LoopOK ref02_CompareSets_cx (lp (body Tryz.f56) 0) := loopOK_of (id := 2) (sp := ref02_CompareSets_sp2) (by kernel_rfl) (by kernel_rfl) (loopTo_of (V := ref02_CompareSets_V2) (B := ref02_CompareSets_B2) (L := fun n x y => ref02_CompareSets_L2 n x.1 x.2.1 x.2.2.1) (tr := ref02_CompareSets_tr2) (m := fun x y => x.1.length + x.2.1.length + Int.toNat x.2.2.1 + 1) fun R K n x y => ref02_CompareSets_loop2 R K n x.1 x.2.1 x.2.2.1)
noncomputable def ref02_CompareSets (a : List RowID) (b : List RowID) : Bool × Int := bnd (ref02_CompareSets_L2 (a.length + b.length + Int.toNat (0 : Int) + (1 : Nat)) a b (0 : Int)) (fun r2 => bif isL r2 then (true, getL r2) else bif decide (Int.ofNat (getR r2).fst.length < Int.ofNat (getR r2).snd.length) then (true, (-1 : Int)) else bif decide (Int.ofNat (getR r2).fst.length > Int.ofNat (getR r2).snd.length) then (true, (1 : Int)) else (true, (0 : Int))) (false, default)
noncomputable def ref02_CompareSets_res (r : Int) : ARes ty := ⟨[.pure (.lit (.int .i64 r))], []⟩
theorem ref02_CompareSets_run (a : List RowID) (b : List RowID) : runFn ref02_CompareSets_cx Tryz.f56 (body Tryz.f56) ⟨[.pure], []⟩ [.pure (.sl 30 a), .pure (.sl 30 b)] = out (fun r => some (ref02_CompareSets_res r)) (ref02_CompareSets a b) := by
  have h : runFn ref02_CompareSets_cx Tryz.f56 (body Tryz.f56) ⟨[.pure], []⟩ [.pure (.sl 30 a), .pure (.sl 30 b)] = obnd (ref02_CompareSets_L2 (a.length + b.length + Int.toNat (0 : Int) + (1 : Nat)) a b (0 : Int)) (fun r3 => bif isL r3 then some ⟨[.pure (.lit (.int .i64 (getL r3)))], []⟩ else bif decide (Int.ofNat (getR r3).fst.length < Int.ofNat (getR r3).snd.length) then some ⟨[.pure (.lit (.int .i64 (-1 : Int)))], []⟩ else bif decide (Int.ofNat (getR r3).fst.length > Int.ofNat (getR r3).snd.length) then some ⟨[.pure (.lit (.int .i64 (1 : Int)))], []⟩ else some ⟨[.pure (.lit (.int .i64 (0 : Int)))], []⟩) := by kernel_rfl
  rw [ref02_CompareSets]
  exact h.trans (out_ite (out_ite (rfl) (out_ite (rfl) (out_ite (rfl) (rfl)))) (rfl))
noncomputable def ref02_CompareSets_A : AL base (List RowID × List RowID × Unit) := aCons (aPure (vSl 30)) (aCons (aPure (vSl 30)) aNil)
noncomputable def ref02_CompareSets_spec : Ab.Spec ty := mkSpec ref02_CompareSets_A fun x => ((ref02_CompareSets x.1 x.2.1).1, ref02_CompareSets_res (ref02_CompareSets x.1 x.2.1).2)
theorem ref02_CompareSets_sound : Sound Tryz.prog base 56 ref02_CompareSets_spec :=
  sound_of_run (cx' := ref02_CompareSets_cx) draws base_ok ⟨⟨rfl, rfl, rfl, rfl, rfl, rfl⟩, rfl⟩ (spec_of [(20, ref02_Compare_spec)] ⟨(ref02_Compare_sound), trivial⟩) Tryz.call56 Tryz.func56 (c := body Tryz.f56) (by kernel_rfl) (loopsOK_of (l := [lp (body Tryz.f56) 0]) (by kernel_rfl) ⟨ref02_CompareSets_to2, trivial⟩) (sg := ⟨[.pure], []⟩) (A := ref02_CompareSets_A) (res := ref02_CompareSets_res) (F := fun x => ref02_CompareSets x.1 x.2.1) (fun x => ref02_CompareSets_run x.1 x.2.1) (fun _ => by kernel_rfl)
end Go.Proofs.YteopikhooiallaaGreatDoor
/- Functions of the program as plain functions, with their contracts. Printed by program. -/
set_option autoImplicit false
set_option linter.unusedVariables false
set_option linter.unusedSimpArgs false
namespace Go.Proofs.YteopikhooiallaaGreatDoor
open Go Go.Ab
/-! ### lineage/lineageref02.Few -/
noncomputable def ref02_Few_L4 : Nat → List (List RowID) → Int → Int → Bool × (Bool ⊕ Unit)
  | 0, _, _, _ => (false, .inl default)
  | n + 1, l, most, i => bif decide (i < Int.ofNat l.length) then bif decide ((0 : Int) ≤ i) && decide (i < Int.ofNat l.length) then bif decide (Int.ofNat (List.length (l.getD i.toNat default)) > most) then (true, .inl false) else ref02_Few_L4 n l most (IntKind.i64.wrap (i + (1 : Int))) else (false, .inl default) else (true, .inr ())
noncomputable def ref02_Few_tr4 (r : Bool ⊕ Unit) : LTree ty := .ite (isL r) (.done .ret [.lit (.bool (getL r))] []) (.done (.exit 0) [] [])
noncomputable def ref02_Few_V4 : LL ty (List (List RowID) × Int × Int × Unit) := llCons (lSl 31) (llCons (lInt .i64) (llCons (lInt .i64) llNil))
noncomputable def ref02_Few_B4 : BL ty (Unit) := bNil
noncomputable def ref02_Few_sp4 : LSpec ty := mkLoop ref02_Few_V4 ref02_Few_B4 fun x y => ((ref02_Few_L4 (x.1.length + Int.toNat x.2.1 + Int.toNat x.2.2.1 + 1) x.1 x.2.1 x.2.2.1).1, ref02_Few_tr4 (ref02_Few_L4 (x.1.length + Int.toNat x.2.1 + Int.toNat x.2.2.1 + 1) x.1 x.2.1 x.2.2.1).2)
noncomputable def ref02_Few_cx : Cx ty := { base with nt := 25, spec := fun g => List.lookup g [], io := fun g => (List.lookup g []).getD [], head := fun i => (List.lookup i [(4, [(0, .keep), (2, .keep), (7, .keep)])]).getD [], out := outOf [(4, 1, []), (4, 0, [(6, .keep)])], loops := fun i => List.lookup i [(4, ref02_Few_sp4)] }
theorem ref02_Few_round4 {R : Type} (H : List (AV ty) → List (Blk ty) → Option R) (K : Ex → List (AV ty) → List (Blk ty) → Option R) (l : List (List RowID)) (most : Int) (i : Int) : roundK ref02_Few_cx (lp (body Tryz.f7) 0) H K [.sl 31 l, .lit (.int .i64 most), .lit (.int .i64 i)] [] = bif decide (i < Int.ofNat l.length) then bif decide ((0 : Int) ≤ i) && decide (i < Int.ofNat l.length) then bif decide (Int.ofNat (List.length (l.getD i.toNat default)) > most) then K .ret [.lit (.bool false)] [] else H [.sl 31 l, .lit (.int .i64 most), .lit (.int .i64 (IntKind.i64.wrap (i + (1 : Int))))] [] else none else K (.exit 0) [] [] := by kernel_rfl
theorem ref02_Few_loop4 (R : Type) (K : Ex → List (AV ty) → List (Blk ty) → Option R) : ∀ (n : Nat) (l : List (List RowID)) (most : Int) (i : Int), loopI ref02_Few_cx (lp (body Tryz.f7) 0) K n [.sl 31 l, .lit (.int .i64 most), .lit (.int .i64 i)] [] = out (fun r => treeK K (ref02_Few_tr4 r)) (ref02_Few_L4 n l most i)
  | 0, _, _, _ => rfl
  | n + 1, l, most, i => by
    have ih := ref02_Few_loop4 R K n
    rw [ref02_Few_L4]
    exact (ref02_Few_round4 (loopI ref02_Few_cx (lp (body Tryz.f7) 0) K n) K l most i).trans (out_ite (out_ite (out_ite (rfl) (ih l most (IntKind.i64.wrap (i + (1 : Int))))) (rfl)) (rfl))
theorem ref02_Few_to4 : LoopOK ref02_Few_cx (lp (body Tryz.f7) 0) := loopOK_of (id := 4) (sp := ref02_Few_sp4) (by kernel_rfl) (by kernel_rfl) (loopTo_of (V := ref02_Few_V4) (B := ref02_Few_B4) (L := fun n x y => ref02_Few_L4 n x.1 x.2.1 x.2.2.1) (tr := ref02_Few_tr4) (m := fun x y => x.1.length + Int.toNat x.2.1 + Int.toNat x.2.2.1 + 1) fun R K n x y => ref02_Few_loop4 R K n x.1 x.2.1 x.2.2.1)
noncomputable def ref02_Few (l : List (List RowID)) (sets : Int) (most : Int) : Bool × Bool := bif decide (Int.ofNat l.length > sets) then (true, false) else bnd (ref02_Few_L4 (l.length + most.toNat + Int.toNat (0 : Int) + (1 : Nat)) l most (0 : Int)) (fun r0 => bif isL r0 then (true, getL r0) else (true, true)) (false, default)
noncomputable def ref02_Few_res (r : Bool) : ARes ty := ⟨[.pure (.lit (.bool r))], []⟩
theorem ref02_Few_run (l : List (List RowID)) (sets : Int) (most : Int) : runFn ref02_Few_cx Tryz.f7 (body Tryz.f7) ⟨[.pure], []⟩ [.pure (.sl 31 l), .pure (.lit (.int .i64 sets)), .pure (.lit (.int .i64 most))] = out (fun r => some (ref02_Few_res r)) (ref02_Few l sets most) := by
  have h : runFn ref02_Few_cx Tryz.f7 (body Tryz.f7) ⟨[.pure], []⟩ [.pure (.sl 31 l), .pure (.lit (.int .i64 sets)), .pure (.lit (.int .i64 most))] = bif decide (Int.ofNat l.length > sets) then some ⟨[.pure (.lit (.bool false))], []⟩ else obnd (ref02_Few_L4 (l.length + most.toNat + Int.toNat (0 : Int) + (1 : Nat)) l most (0 : Int)) (fun r1 => bif isL r1 then some ⟨[.pure (.lit (.bool (getL r1)))], []⟩ else some ⟨[.pure (.lit (.bool true))], []⟩) := by kernel_rfl
  rw [ref02_Few]
  exact h.trans (out_ite (rfl) (out_ite (out_ite (rfl) (rfl)) (rfl)))
noncomputable def ref02_Few_A : AL base (List (List RowID) × Int × Int × Unit) := aCons (aPure (vSl 31)) (aCons (aPure (vInt .i64)) (aCons (aPure (vInt .i64)) aNil))
noncomputable def ref02_Few_spec : Ab.Spec ty := mkSpec ref02_Few_A fun x => ((ref02_Few x.1 x.2.1 x.2.2.1).1, ref02_Few_res (ref02_Few x.1 x.2.1 x.2.2.1).2)
theorem ref02_Few_sound : Sound Tryz.prog base 7 ref02_Few_spec :=
  sound_of_run (cx' := ref02_Few_cx) draws base_ok ⟨⟨rfl, rfl, rfl, rfl, rfl, rfl⟩, rfl⟩ (spec_of [] trivial) Tryz.call7 Tryz.func7 (c := body Tryz.f7) (by kernel_rfl) (loopsOK_of (l := [lp (body Tryz.f7) 0]) (by kernel_rfl) ⟨ref02_Few_to4, trivial⟩) (sg := ⟨[.pure], []⟩) (A := ref02_Few_A) (res := ref02_Few_res) (F := fun x => ref02_Few x.1 x.2.1 x.2.2.1) (fun x => ref02_Few_run x.1 x.2.1 x.2.2.1) (fun _ => by kernel_rfl)
end Go.Proofs.YteopikhooiallaaGreatDoor
/- What the printed functions compute: the reference's functions on sets of row identifiers. -/
set_option autoImplicit false
set_option linter.unusedVariables false
set_option linter.unusedSimpArgs false
namespace Go.Proofs.YteopikhooiallaaGreatDoor
open Go Go.Ab

/-! ### the order of row identifiers -/
def cR (a b : RowID) : Int := if a.Table < b.Table then -1 else if b.Table < a.Table then 1 else if a.Seq < b.Seq then -1 else if b.Seq < a.Seq then 1 else 0
theorem cR_ord : Ord3 cR where
  eq := fun x y => by
    obtain ⟨a, b⟩ := x; obtain ⟨c, d⟩ := y
    simp only [cR, RowID.mk.injEq]
    repeat' split
    all_goals omega
  swap := fun x y => by
    simp only [cR]
    repeat' split
    all_goals omega
  trans := fun x y z => by
    simp only [cR]
    repeat' split
    all_goals omega
theorem cR_range (a b : RowID) : cR a b = -1 ∨ cR a b = 0 ∨ cR a b = 1 := by
  simp only [cR]
  repeat' split
  all_goals omega
theorem eqR' (a b : RowID) : (a.Table == b.Table && a.Seq == b.Seq) = decide (a = b) := by
  obtain ⟨p, q⟩ := a; obtain ⟨r, s⟩ := b
  by_cases h1 : p = r <;> by_cases h2 : q = s <;> simp [h1, h2]
theorem eqR (a b : RowID) : (a.Table == b.Table && (a.Seq == b.Seq && true)) = decide (a = b) := by
  rw [Bool.and_true, eqR']
abbrev cS : List RowID → List RowID → Int := lexc cR
theorem cS_ord : Ord3 cS := lexc_ord cR_ord
abbrev nR : List RowID → List RowID := snorm cR

theorem ref02_Compare_eq (a b : RowID) : ref02_Compare a b = (true, cR a b) := by
  unfold ref02_Compare cR
  rw [eqR]
  by_cases h : a = b
  · subst h; simp
  · obtain ⟨p, q⟩ := a; obtain ⟨r, s⟩ := b
    have h' : ¬ (p = r ∧ q = s) := by simpa using h
    simp only [h, decide_false, cond_false]
    by_cases h1 : p < r
    · simp [h1]
    · by_cases h2 : p = r
      · subst h2
        by_cases h3 : q < s
        · simp [h3]
        · have h4 : s < q := by omega
          simp [h3, h4]
      · have h3 : r < p := by omega
        have h4 : (p == r) = false := by simp [h2]
        simp [h1, h4, h3]

theorem In_loop (l : List RowID) (id : RowID) (hl : l.length ≤ 1000000) : ∀ (n i : Nat), l.length < i + n → i ≤ l.length → ref02_In_L2 n l i id = (true, if id ∈ l.drop i then .inl true else .inr ())
  | 0, i, h, h2 => by omega
  | n + 1, i, h, h2 => by
    rw [ref02_In_L2]
    by_cases hi : i < l.length
    · simp only [Int.ofNat_eq_natCast, lt_nat, le0_nat, decide_true, decide_false, Bool.and_self, Bool.true_and, Bool.and_true, cond_true, cond_false, Int.toNat_natCast, eqR, eqR', Bool.not_true, Bool.not_false, bnd, hi]
      rw [drop_lt hi, wrap_succ (by omega), In_loop l id hl n (i + 1) (by omega) (by omega)]
      generalize l.getD i default = x
      by_cases he : x = id
      · subst he; simp
      · simp [he, Ne.symm he]
    · simp only [Int.ofNat_eq_natCast, lt_nat, le0_nat, decide_true, decide_false, Bool.and_self, Bool.true_and, Bool.and_true, cond_true, cond_false, Int.toNat_natCast, eqR, eqR', Bool.not_true, Bool.not_false, bnd, hi, drop_ge hi]; simp
theorem ref02_In_eq (l : List RowID) (id : RowID) (hl : l.length ≤ 1000000) : ref02_In l id = (true, decide (id ∈ l)) := by
  unfold ref02_In
  rw [show (0 : Int) = ((0 : Nat) : Int) from rfl, In_loop l id hl _ 0 (by simp) (by omega)]
  by_cases h : id ∈ l <;> simp [h, isL, getL, bnd]

/-- Insertion before the first that is greater: did it happen, and with what. -/
def insb (x : RowID) : List RowID → Bool × List RowID
  | [] => (false, [])
  | y :: r => if cR x y < 0 then (true, x :: y :: r) else ((insb x r).1, y :: (insb x r).2)
theorem insb_sins (x : RowID) : ∀ (l : List RowID), x ∉ l → (if (insb x l).1 then (insb x l).2 else (insb x l).2 ++ [x]) = sins cR x l
  | [], _ => by simp [insb, sins]
  | y :: r, h => by
    have h1 : x ≠ y := fun e => h (by simp [e])
    have h2 := insb_sins x r fun e => h (by simp [e])
    unfold insb sins
    by_cases hc : cR x y < 0
    · simp [hc]
    · have h3 : ¬ cR x y = 0 := fun e => h1 ((cR_ord.eq x y).1 e)
      simp only [hc, h3, if_false]
      rw [← h2]
      cases (insb x r).1 <;> simp
theorem insb_length (x : RowID) : ∀ (l : List RowID), (insb x l).2.length ≤ l.length + 1
  | [] => by simp [insb]
  | y :: r => by
    have := insb_length x r
    unfold insb
    split
    · simp
    · simp; omega
theorem insert_loop (l : List RowID) (id : RowID) (hl : l.length ≤ 1000000) : ∀ (n i : Nat) (done : Bool) (o : List RowID), l.length < i + n → i ≤ l.length → o.length ≤ i + (if done then 1 else 0) →
    ref02_insert_L6 n l done i id o = (true, if done then (true, id, o ++ l.drop i) else ((insb id (l.drop i)).1, id, o ++ (insb id (l.drop i)).2))
  | 0, i, done, o, h, h2, h3 => by omega
  | n + 1, i, done, o, h, h2, h3 => by
    rw [ref02_insert_L6]
    by_cases hi : i < l.length
    · have h4 : o.length ≤ i + 1 := by split at h3 <;> omega
      have e1 : (o.length + 1) * 16 ≤ reach := reach_of (by omega) (by omega)
      have e2 : (o.length + 1 + 1) * 16 ≤ reach := reach_of (by omega) (by omega)
      simp only [Int.ofNat_eq_natCast, lt_nat, le0_nat, decide_true, decide_false, Bool.and_self, Bool.true_and, Bool.and_true, cond_true, cond_false, Int.toNat_natCast, eqR, eqR', Bool.not_true, Bool.not_false, bnd, hi, ref02_Compare_eq, List.length_singleton, List.length_append, e1, e2]
      rw [wrap_succ (by omega), drop_lt hi]
      generalize l.getD i default = x
      cases done with
      | true =>
        simp only [Bool.not_true, cond_false, if_true] at h3 ⊢
        rw [insert_loop l id hl n (i + 1) true _ (by omega) (by omega) (by simp; omega)]
        simp
      | false =>
        simp only [Bool.not_false, cond_true, insb, Bool.false_eq_true, if_false] at h3 ⊢
        by_cases hc : cR id x < 0
        · simp only [hc, decide_true, cond_true, if_true]
          rw [insert_loop l id hl n (i + 1) true _ (by omega) (by omega) (by simp; omega)]
          simp
        · simp only [hc, decide_false, cond_false, if_false]
          rw [insert_loop l id hl n (i + 1) false _ (by omega) (by omega) (by simp; omega)]
          simp
    · simp only [Int.ofNat_eq_natCast, lt_nat, le0_nat, decide_true, decide_false, Bool.and_self, Bool.true_and, Bool.and_true, cond_true, cond_false, Int.toNat_natCast, eqR, eqR', Bool.not_true, Bool.not_false, bnd, hi, drop_ge hi]
      cases done <;> simp [insb]
theorem ref02_insert_eq (l : List RowID) (id : RowID) (hl : l.length ≤ 1000000) (hs : SAsc cR l) : ref02_insert l id = (true, sins cR id l) := by
  unfold ref02_insert
  rw [ref02_In_eq l id hl]
  by_cases h : id ∈ l
  · simp only [Int.ofNat_eq_natCast, lt_nat, le0_nat, decide_true, decide_false, Bool.and_self, Bool.true_and, Bool.and_true, cond_true, cond_false, Int.toNat_natCast, eqR, eqR', Bool.not_true, Bool.not_false, bnd, h]
    congr 1
    exact sasc_unique cR_ord hs (sins_asc cR_ord id hs) fun z => by
      rw [sins_mem cR_ord]
      exact ⟨.inr, fun h' => h'.elim (fun e => e ▸ h) fun h' => h'⟩
  · simp only [Int.ofNat_eq_natCast, lt_nat, le0_nat, decide_true, decide_false, Bool.and_self, Bool.true_and, Bool.and_true, cond_true, cond_false, Int.toNat_natCast, eqR, eqR', Bool.not_true, Bool.not_false, bnd, h]
    rw [show (0 : Int) = ((0 : Nat) : Int) from rfl, insert_loop l id hl _ 0 false [] (by simp) (by omega) (by simp)]
    have h1 := insb_length id l
    have e1 : ((insb id l).2.length + 1) * 16 ≤ reach := reach_of (by omega) (by omega)
    simp only [Bool.false_eq_true, if_false, List.drop_zero, List.nil_append, List.length_singleton, e1, decide_true, cond_true]
    rw [← insb_sins id l h]
    cases (insb id l).1 <;> simp
theorem sins_length (x : RowID) : ∀ l : List RowID, (sins cR x l).length ≤ l.length + 1
  | [] => by simp [sins]
  | y :: r => by
    have := sins_length x r
    unfold sins
    split
    · simp
    · split <;> simp <;> omega

theorem Normalize_loop (l : List RowID) (hl : l.length ≤ 100000) : ∀ (n i : Nat) (o : List RowID), l.length < i + n → i ≤ l.length → SAsc cR o → o.length + l.length ≤ 500000 + i → ref02_Normalize_L3 n l o i = (true, (l.drop i).foldl (fun o x => sins cR x o) o)
  | 0, i, o, h, h2, hs, h3 => by omega
  | n + 1, i, o, h, h2, hs, h3 => by
    rw [ref02_Normalize_L3]
    by_cases hi : i < l.length
    · simp only [Int.ofNat_eq_natCast, lt_nat, le0_nat, decide_true, decide_false, Bool.and_self, Bool.true_and, Bool.and_true, cond_true, cond_false, Int.toNat_natCast, eqR, eqR', Bool.not_true, Bool.not_false, bnd, hi]
      rw [drop_lt hi, wrap_succ (by omega), ref02_insert_eq _ _ (by omega) hs]
      generalize l.getD i default = x
      have := sins_length x o
      simp only [cond_true]
      rw [Normalize_loop l hl n (i + 1) _ (by omega) (by omega) (sins_asc cR_ord x hs) (by omega)]
      rfl
    · simp only [Int.ofNat_eq_natCast, lt_nat, le0_nat, decide_true, decide_false, Bool.and_self, Bool.true_and, Bool.and_true, cond_true, cond_false, Int.toNat_natCast, eqR, eqR', Bool.not_true, Bool.not_false, bnd, hi, drop_ge hi]; rfl
theorem ref02_Normalize_eq (l : List RowID) (hl : l.length ≤ 100000) : ref02_Normalize l = (true, nR l) := by
  unfold ref02_Normalize
  rw [show (0 : Int) = ((0 : Nat) : Int) from rfl, Normalize_loop l hl _ 0 [] (by simp) (by omega) .nil (by simp; omega)]
  rfl
theorem Union_loop (b : List RowID) (hl : b.length ≤ 100000) : ∀ (n i : Nat) (o : List RowID), b.length < i + n → i ≤ b.length → SAsc cR o → o.length + b.length ≤ 500000 + i → ref02_Union_L3 n b o i = (true, (b.drop i).foldl (fun o x => sins cR x o) o)
  | 0, i, o, h, h2, hs, h3 => by omega
  | n + 1, i, o, h, h2, hs, h3 => by
    rw [ref02_Union_L3]
    by_cases hi : i < b.length
    · simp only [Int.ofNat_eq_natCast, lt_nat, le0_nat, decide_true, decide_false, Bool.and_self, Bool.true_and, Bool.and_true, cond_true, cond_false, Int.toNat_natCast, eqR, eqR', Bool.not_true, Bool.not_false, bnd, hi]
      rw [drop_lt hi, wrap_succ (by omega), ref02_insert_eq _ _ (by omega) hs]
      generalize b.getD i default = x
      have := sins_length x o
      simp only [cond_true]
      rw [Union_loop b hl n (i + 1) _ (by omega) (by omega) (sins_asc cR_ord x hs) (by omega)]
      rfl
    · simp only [Int.ofNat_eq_natCast, lt_nat, le0_nat, decide_true, decide_false, Bool.and_self, Bool.true_and, Bool.and_true, cond_true, cond_false, Int.toNat_natCast, eqR, eqR', Bool.not_true, Bool.not_false, bnd, hi, drop_ge hi]; rfl
theorem ref02_Union_eq (a b : List RowID) (ha : a.length ≤ 100000) (hb : b.length ≤ 100000) : ref02_Union a b = (true, nR (a ++ b)) := by
  unfold ref02_Union
  have h1 := snorm_length cR_ord a
  rw [ref02_Normalize_eq a ha, bnd, show (0 : Int) = ((0 : Nat) : Int) from rfl]
  simp only [cond_true]
  rw [Union_loop b hb _ 0 _ (by simp; omega) (by omega) (snorm_asc cR_ord a) (by omega)]
  simp only [bnd, cond_true, List.drop_zero, nR, snorm, List.foldl_append]
theorem Subset_loop (a b : List RowID) (ha : a.length ≤ 1000000) (hb : b.length ≤ 1000000) : ∀ (n i : Nat), a.length < i + n → i ≤ a.length → ref02_Subset_L2 n a b i = (true, if (a.drop i).all (fun x => decide (x ∈ b)) then .inr () else .inl false)
  | 0, i, h, h2 => by omega
  | n + 1, i, h, h2 => by
    rw [ref02_Subset_L2]
    by_cases hi : i < a.length
    · simp only [Int.ofNat_eq_natCast, lt_nat, le0_nat, decide_true, decide_false, Bool.and_self, Bool.true_and, Bool.and_true, cond_true, cond_false, Int.toNat_natCast, eqR, eqR', Bool.not_true, Bool.not_false, bnd, hi, ref02_In_eq b _ hb]
      rw [drop_lt hi, wrap_succ (by omega), Subset_loop a b ha hb n (i + 1) (by omega) (by omega)]
      generalize a.getD i default = x
      by_cases hx : x ∈ b <;> simp [hx]
    · simp only [Int.ofNat_eq_natCast, lt_nat, le0_nat, decide_true, decide_false, Bool.and_self, Bool.true_and, Bool.and_true, cond_true, cond_false, Int.toNat_natCast, eqR, eqR', Bool.not_true, Bool.not_false, bnd, hi, drop_ge hi]; rfl
theorem ref02_Subset_eq (a b : List RowID) (ha : a.length ≤ 1000000) (hb : b.length ≤ 1000000) : ref02_Subset a b = (true, a.all fun x => decide (x ∈ b)) := by
  unfold ref02_Subset
  rw [show (0 : Int) = ((0 : Nat) : Int) from rfl, Subset_loop a b ha hb _ 0 (by simp; omega) (by omega)]
  simp only [List.drop_zero]
  cases a.all fun x => decide (x ∈ b) <;> rfl

theorem Same_loop (a b : List RowID) (ha : a.length ≤ 1000000) (hab : a.length = b.length) : ∀ (n i : Nat), a.length < i + n → i ≤ a.length → ref02_Same_L4 n a b i = (true, if a.drop i = b.drop i then .inr () else .inl false)
  | 0, i, h, h2 => by omega
  | n + 1, i, h, h2 => by
    rw [ref02_Same_L4]
    by_cases hi : i < a.length
    · have hi' : i < b.length := by omega
      simp only [Int.ofNat_eq_natCast, lt_nat, le0_nat, decide_true, decide_false, Bool.and_self, Bool.true_and, Bool.and_true, cond_true, cond_false, Int.toNat_natCast, eqR, eqR', Bool.not_true, Bool.not_false, bnd, hi, hi']
      rw [drop_lt hi, drop_lt hi', wrap_succ (by omega), Same_loop a b ha hab n (i + 1) (by omega) (by omega)]
      generalize a.getD i default = x
      generalize b.getD i default = y
      by_cases hx : x = y <;> simp [hx]
    · have hi' : ¬ i < b.length := by omega
      simp only [Int.ofNat_eq_natCast, lt_nat, le0_nat, decide_true, decide_false, Bool.and_self, Bool.true_and, Bool.and_true, cond_true, cond_false, Int.toNat_natCast, eqR, eqR', Bool.not_true, Bool.not_false, bnd, hi, drop_ge hi, drop_ge hi']; simp
theorem ref02_Same_eq (a b : List RowID) (ha : a.length ≤ 1000000) : ref02_Same a b = (true, decide (a = b)) := by
  unfold ref02_Same
  simp only [Int.ofNat_eq_natCast, bne_nat]
  by_cases hab : a.length = b.length
  · simp only [hab, ne_eq, not_true_eq_false, decide_false, cond_false]
    rw [show (0 : Int) = ((0 : Nat) : Int) from rfl, Same_loop a b ha hab _ 0 (by simp; omega) (by omega)]
    by_cases h : a = b <;> simp [h, isL, getL, bnd]
  · have : a ≠ b := fun e => hab (by rw [e])
    simp [hab, this]
theorem Sets_loop (a b : List (List RowID)) (ha : a.length ≤ 1000000) (hae : ∀ s ∈ a, s.length ≤ 1000000) (hab : a.length = b.length) : ∀ (n i : Nat), a.length < i + n → i ≤ a.length → ref02_Sets_L4 n a b i = (true, if a.drop i = b.drop i then .inr () else .inl false)
  | 0, i, h, h2 => by omega
  | n + 1, i, h, h2 => by
    rw [ref02_Sets_L4]
    by_cases hi : i < a.length
    · have hi' : i < b.length := by omega
      simp only [Int.ofNat_eq_natCast, lt_nat, le0_nat, decide_true, decide_false, Bool.and_self, Bool.true_and, Bool.and_true, cond_true, cond_false, Int.toNat_natCast, eqR, eqR', Bool.not_true, Bool.not_false, bnd, hi, hi', ref02_Same_eq _ _ (hae _ (getD_mem hi))]
      rw [drop_lt hi, drop_lt hi', wrap_succ (by omega), Sets_loop a b ha hae hab n (i + 1) (by omega) (by omega)]
      generalize a.getD i default = x
      generalize b.getD i default = y
      by_cases hx : x = y <;> simp [hx]
    · have hi' : ¬ i < b.length := by omega
      simp only [Int.ofNat_eq_natCast, lt_nat, le0_nat, decide_true, decide_false, Bool.and_self, Bool.true_and, Bool.and_true, cond_true, cond_false, Int.toNat_natCast, eqR, eqR', Bool.not_true, Bool.not_false, bnd, hi, drop_ge hi, drop_ge hi']; simp
theorem ref02_Sets_eq (a b : List (List RowID)) (ha : a.length ≤ 1000000) (hae : ∀ s ∈ a, s.length ≤ 1000000) : ref02_Sets a b = (true, decide (a = b)) := by
  unfold ref02_Sets
  simp only [Int.ofNat_eq_natCast, bne_nat]
  by_cases hab : a.length = b.length
  · simp only [hab, ne_eq, not_true_eq_false, decide_false, cond_false]
    rw [show (0 : Int) = ((0 : Nat) : Int) from rfl, Sets_loop a b ha hae hab _ 0 (by simp; omega) (by omega)]
    by_cases h : a = b <;> simp [h, isL, getL, bnd]
  · have : a ≠ b := fun e => hab (by rw [e])
    simp [hab, this]

theorem CompareSets_loop (a b : List RowID) (ha : a.length ≤ 1000000) (hb : b.length ≤ 1000000) : ∀ (n i : Nat), a.length < i + n → i ≤ a.length → i ≤ b.length →
    ∃ r, ref02_CompareSets_L2 n a b i = (true, r) ∧ ((r = .inl (cS (a.drop i) (b.drop i))) ∨ (r = .inr (a, b) ∧ cS (a.drop i) (b.drop i) = if a.length < b.length then -1 else if b.length < a.length then 1 else 0))
  | 0, i, h, h2, h3 => by omega
  | n + 1, i, h, h2, h3 => by
    rw [ref02_CompareSets_L2]
    by_cases hi : i < a.length
    · by_cases hi' : i < b.length
      · simp only [Int.ofNat_eq_natCast, lt_nat, le0_nat, decide_true, decide_false, Bool.and_self, Bool.true_and, Bool.and_true, cond_true, cond_false, Int.toNat_natCast, eqR, eqR', Bool.not_true, Bool.not_false, bnd, hi, hi', ref02_Compare_eq]
        rw [drop_lt hi, drop_lt hi', wrap_succ (by omega)]
        generalize a.getD i default = x
        generalize b.getD i default = y
        by_cases hx : cR x y = 0
        · have e : (cR x y != 0) = false := by simp [hx]
          simp only [e, cond_false, lexc, hx, if_true]
          exact CompareSets_loop a b ha hb n (i + 1) (by omega) (by omega) (by omega)
        · have e : (cR x y != 0) = true := by simp [hx]
          simp only [e, cond_true, lexc, hx, if_false]
          exact ⟨_, rfl, .inl rfl⟩
      · simp only [Int.ofNat_eq_natCast, lt_nat, le0_nat, decide_true, decide_false, Bool.and_self, Bool.true_and, Bool.and_true, cond_true, cond_false, Int.toNat_natCast, eqR, eqR', Bool.not_true, Bool.not_false, bnd, hi, hi']
        refine ⟨_, rfl, .inr ⟨rfl, ?_⟩⟩
        rw [drop_lt hi, drop_ge hi', if_neg (by omega), if_pos (by omega)]; rfl
    · simp only [Int.ofNat_eq_natCast, lt_nat, le0_nat, decide_true, decide_false, Bool.and_self, Bool.true_and, Bool.and_true, cond_true, cond_false, Int.toNat_natCast, eqR, eqR', Bool.not_true, Bool.not_false, bnd, hi]
      refine ⟨_, rfl, .inr ⟨rfl, ?_⟩⟩
      rw [drop_ge hi]
      by_cases hi' : i < b.length
      · rw [drop_lt hi', if_pos (by omega)]; rfl
      · rw [drop_ge hi', if_neg (by omega), if_neg (by omega)]; rfl
theorem ref02_CompareSets_eq (a b : List RowID) (ha : a.length ≤ 1000000) (hb : b.length ≤ 1000000) : ref02_CompareSets a b = (true, cS a b) := by
  unfold ref02_CompareSets
  obtain ⟨r, h1, h2⟩ := CompareSets_loop a b ha hb (a.length + b.length + Int.toNat 0 + 1) 0 (by simp; omega) (by omega) (by omega)
  rw [show (0 : Int) = ((0 : Nat) : Int) from rfl] at *
  rw [h1]
  simp only [List.drop_zero] at h2
  rcases h2 with rfl | ⟨rfl, h2⟩
  · rfl
  · rw [h2]
    simp only [Int.ofNat_eq_natCast, lt_nat, le0_nat, decide_true, decide_false, Bool.and_self, Bool.true_and, Bool.and_true, cond_true, cond_false, Int.toNat_natCast, eqR, eqR', Bool.not_true, Bool.not_false, bnd, isL, getR, gt_nat]
    by_cases h3 : a.length < b.length
    · simp [h3]
    · by_cases h4 : b.length < a.length <;> simp [h3, h4]

theorem few_loop (l : List (List RowID)) (m : Nat) (hl : l.length ≤ 1000000) : ∀ (n i : Nat), l.length < i + n → i ≤ l.length → ref02_Few_L4 n l m i = (true, if (l.drop i).all (fun s => decide (s.length ≤ m)) then .inr () else .inl false)
  | 0, i, h, h2 => by omega
  | n + 1, i, h, h2 => by
    rw [ref02_Few_L4]
    by_cases hi : i < l.length
    · simp only [Int.ofNat_eq_natCast, lt_nat, le0_nat, decide_true, decide_false, Bool.and_self, Bool.true_and, Bool.and_true, cond_true, cond_false, Int.toNat_natCast, eqR, eqR', Bool.not_true, Bool.not_false, bnd, hi, gt_nat]
      rw [drop_lt hi, wrap_succ (by omega), few_loop l m hl n (i + 1) (by omega) (by omega)]
      generalize l.getD i default = x
      by_cases hx : x.length ≤ m
      · have : ¬ m < x.length := by omega
        simp [hx, this]
      · have : m < x.length := by omega
        simp [hx, this]
    · simp only [Int.ofNat_eq_natCast, lt_nat, le0_nat, decide_true, decide_false, Bool.and_self, Bool.true_and, Bool.and_true, cond_true, cond_false, Int.toNat_natCast, eqR, eqR', Bool.not_true, Bool.not_false, bnd, hi, drop_ge hi]; rfl
theorem ref02_Few_eq (l : List (List RowID)) (k m : Nat) (hk : k ≤ 1000) : ref02_Few l k m = (true, decide (l.length ≤ k) && l.all fun s => decide (s.length ≤ m)) := by
  unfold ref02_Few
  simp only [Int.ofNat_eq_natCast, gt_nat]
  by_cases h : k < l.length
  · have : ¬ l.length ≤ k := by omega
    simp [h, this]
  · have h' : l.length ≤ k := by omega
    simp only [h, h', decide_false, cond_false, decide_true, Bool.true_and]
    rw [show (0 : Int) = ((0 : Nat) : Int) from rfl, few_loop l m (by omega) _ 0 (by simp; omega) (by omega)]
    simp only [List.drop_zero]
    cases l.all fun s => decide (s.length ≤ m) <;> rfl

/-- Each with the one before it. -/
def chain {α : Type} (c : α → α → Int) : α → List α → Bool
  | _, [] => true
  | x, y :: r => decide (c x y < 0) && chain c y r
theorem chain_iff {α : Type} {c : α → α → Int} (h : Ord3 c) : ∀ (l : List α) (x : α), chain c x l = true ↔ SAsc c (x :: l)
  | [], x => by simp [chain]
  | y :: r, x => by
    simp only [chain, Bool.and_eq_true, decide_eq_true_eq, chain_iff h r y]
    constructor
    · rintro ⟨h1, h2⟩
      refine List.pairwise_cons.2 ⟨fun z hz => ?_, h2⟩
      rcases List.mem_cons.1 hz with rfl | hz
      · exact h1
      · exact h.trans _ _ _ h1 ((List.pairwise_cons.1 h2).1 z hz)
    · intro h1
      exact ⟨(List.pairwise_cons.1 h1).1 y (by simp), (List.pairwise_cons.1 h1).2⟩
end Go.Proofs.YteopikhooiallaaGreatDoor
/- What the printed functions compute: the texts of row identifiers, read. -/
set_option autoImplicit false
set_option linter.unusedVariables false
set_option linter.unusedSimpArgs false
namespace Go.Proofs.YteopikhooiallaaGreatDoor
open Go Go.Ab Go.Lib

theorem toList_loop (s : ByteArray) : ∀ (n i : Nat) (r : List UInt8), s.size ≤ i + n → ByteArray.toList.loop s i r = r.reverse ++ s.data.toList.drop i
  | 0, i, r, h => by
    rw [ByteArray.toList.loop, if_neg (by omega), List.drop_eq_nil_of_le (by rw [← Lib.size_eq]; omega), List.append_nil]
  | n + 1, i, r, h => by
    rw [ByteArray.toList.loop]
    by_cases hi : i < s.size
    · have hi' : i < s.data.toList.length := by rw [← Lib.size_eq]; exact hi
      rw [if_pos hi, toList_loop s n (i + 1) _ (by omega), List.drop_eq_getElem_cons hi', List.reverse_cons, List.append_assoc]
      congr 1
      have : s.get! i = s.data.toList[i] := by
        have h' : i < s.data.size := hi
        show s.data[i]! = s.data.toList[i]
        rw [getElem!_pos s.data i h']; rfl
      rw [this]; rfl
    · rw [if_neg hi, List.drop_eq_nil_of_le (by rw [← Lib.size_eq]; omega), List.append_nil]
theorem toList_eq (s : ByteArray) : s.toList = s.data.toList := by
  rw [ByteArray.toList, toList_loop s s.size 0 [] (by omega)]; rfl
theorem bytes_ext {s t : ByteArray} (h : s.data.toList = t.data.toList) : s = t := by
  cases s; cases t
  congr 1
  exact Array.toList_inj.1 h
theorem bytes_beq (s t : ByteArray) : (s.toList == t.toList) = decide (s.data.toList = t.data.toList) := by
  rw [toList_eq, toList_eq]
  cases hb : (s.data.toList == t.data.toList) with
  | true => rw [decide_eq_true (beq_iff_eq.1 hb)]
  | false => rw [decide_eq_false (fun h => by rw [beq_iff_eq.2 h] at hb; cases hb)]
theorem byteAt_get (s : ByteArray) (i : Nat) (h : i < s.data.toList.length) : byteAt s i = (s.data.toList[i].toNat : Int) := by
  unfold byteAt
  have h' : i < s.size := by rw [Lib.size_eq]; exact h
  rw [dif_pos (by rw [Int.toNat_natCast]; exact h')]
  rfl

def numE (l : List UInt8) : Int × Int := match numR l with
  | .ok n => (n, 0)
  | .range => (0, 2)
  | _ => (0, 3)
theorem c2_eq (r : Nat) : (rowset_number_c2 (r : Int)).2 = !(decide (48 ≤ r) && decide (r ≤ 57)) := by
  unfold rowset_number_c2 rowset_number_c1
  by_cases h1 : 48 ≤ r
  · have e1 : decide ((r : Int) ≥ (48 : Int)) = true := decide_eq_true (by omega)
    have e2 : decide ((r : Int) ≤ (57 : Int)) = decide (r ≤ 57) := decide_eq_decide.2 (by omega)
    rw [e1, e2, decide_eq_true h1]; rfl
  · have e1 : decide ((r : Int) ≥ (48 : Int)) = false := decide_eq_false (by omega)
    rw [e1, decide_eq_false h1]; rfl
theorem numE_nil : numE [] = (0, 3) := by unfold numE numR; rw [if_pos (.inl rfl)]; rfl
theorem numE_48 (r : List UInt8) : numE (48 :: r) = (0, 3) := by unfold numE numR; rw [if_pos (.inr (.inl rfl))]; rfl
theorem numE_bad {l : List UInt8} (h : l.all isDig = false) : numE l = (0, 3) := by unfold numE numR; rw [if_pos (.inr (.inr h))]; rfl
theorem rowset_number_eq (s : ByteArray) (hs : s.size ≤ 1000) : rowset_number s = (true, numE s.data.toList) := by
  unfold rowset_number
  have hsz := Lib.size_eq s
  rw [bytes_beq]
  cases hl : s.data.toList with
  | nil =>
    rw [numE_nil]; rfl
  | cons c r =>
    rw [hl] at hsz
    have e0 : decide (c :: r = (ByteArray.mk #[]).data.toList) = false := rfl
    have e1 : (decide ((0 : Int) ≤ (0 : Int)) && decide ((0 : Int) < Int.ofNat s.size)) = true := by
      rw [hsz]; simp
    have e2 : byteAt s (0 : Int) = (c.toNat : Int) := by
      have := byteAt_get s 0 (by rw [hl]; simp)
      simp only [hl, List.getElem_cons_zero] at this
      exact this
    rw [e0, e1, e2]
    simp only [cond_false, cond_true]
    by_cases h48 : c = 48
    · subst h48
      rw [numE_48]; rfl
    · have e3 : ((c.toNat : Int) == (48 : Int)) = false := by
        cases hb : ((c.toNat : Int) == (48 : Int)) with
        | false => rfl
        | true =>
          have := beq_iff_eq.1 hb
          exact absurd (UInt8.toNat_inj.1 (by rw [show (48 : UInt8).toNat = 48 from rfl]; omega)) h48
      have e4 : (strings_ContainsFunc s).2 = !((c :: r).all isDig) := by
        have := contains_digits (fun r => (rowset_number_c2 (r : Int)).2) s c2_eq
        rw [hl] at this; exact this
      rw [e3, e4]
      simp only [cond_false]
      cases hd : (c :: r).all isDig with
      | false => rw [numE_bad hd]; rfl
      | true =>
        have hn : (c :: r) ≠ [] := List.cons_ne_nil _ _
        have h0 : (c :: r).head? ≠ some 48 := fun h => h48 (Option.some.inj h)
        have e5 : strconv_Atoi s = (true, match numR (c :: r) with | .ok v => (v, false) | .range => (Lib.atoiSat (c :: r), true) | _ => (0, true)) := by
          unfold strconv_Atoi atoiF
          rw [hl, numR_atoi hn h0 hd, decide_eq_true (show s.size ≤ 281474976710656 by omega)]
          cases atoiAll (c :: r) <;> rfl
        have e6 : numR (c :: r) ≠ badNum := by
          rw [numR_atoi hn h0 hd, atoi_digits hn hd]
          split
          · intro h
            exact absurd (congrArg (fun x : NumEnd Int => match x with | .ok _ => (1 : Nat) | .range => 2 | _ => 3) h) (show ¬ (1 : Nat) = 3 by decide)
          · intro h
            exact absurd (congrArg (fun x : NumEnd Int => match x with | .ok _ => (1 : Nat) | .range => 2 | _ => 3) h) (show ¬ (2 : Nat) = 3 by decide)
        rw [e5]
        unfold numE
        cases hr : numR (c :: r) with
        | ok v => rfl
        | range => rfl
        | _ => exact absurd hr e6

/-! ### the reference's numbers -/
def refE (x : Int) (l : List UInt8) : Int × Bool × Bool := match numR l with
  | .ok n => (n, true, true)
  | .range => (x, true, false)
  | _ => (0, false, false)
theorem digit_wrap {k : Nat} (h1 : 48 ≤ k) (h2 : k ≤ 57) : IntKind.i64.wrap (IntKind.u8.wrap ((k : Int) - (48 : Int))) = ((k - 48 : Nat) : Int) := by
  obtain ⟨d, rfl⟩ : ∃ d, k = 48 + d := ⟨k - 48, by omega⟩
  have hd : d < 10 := by omega
  have : ((48 + d : Nat) : Int) - 48 = (d : Int) := by omega
  rw [this, show 48 + d - 48 = d by omega]
  match d, hd with
  | 0, _ | 1, _ | 2, _ | 3, _ | 4, _ | 5, _ | 6, _ | 7, _ | 8, _ | 9, _ => rfl
theorem over_iff {n d : Nat} (hn : n ≤ 9223372036854775807) (hd : d < 10) : decide ((n : Int) > IntKind.i64.wrap ((IntKind.i64.wrap ((9223372036854775807 : Int) - (d : Int))).tdiv (10 : Int))) = decide (9223372036854775807 < n * 10 + d) := by
  have e1 : IntKind.i64.wrap ((9223372036854775807 : Int) - (d : Int)) = ((9223372036854775807 - d : Nat) : Int) := by
    rw [wrap_id (by omega) (by omega)]; omega
  have e2 : (((9223372036854775807 - d : Nat) : Int)).tdiv (10 : Int) = (((9223372036854775807 - d) / 10 : Nat) : Int) := rfl
  rw [e1, e2, wrap_id (by omega) (by omega)]
  exact decide_eq_decide.2 (by omega)
theorem number_loop (s : ByteArray) (hs : s.size ≤ 1000) : ∀ (n i acc : Nat) (fits : Bool), s.data.toList.length < i + n → i ≤ s.data.toList.length → acc ≤ 9223372036854775807 →
    ∃ x : Int, ref02_number_L5 n s acc fits i = (true, if (s.data.toList.drop i).all isDig = true then .inr (if fits = true ∧ decVal acc (s.data.toList.drop i) ≤ 9223372036854775807 then ((decVal acc (s.data.toList.drop i) : Nat), true) else (x, false)) else .inl (0, false, false))
  | 0, i, acc, fits, h, h2, h3 => by omega
  | n + 1, i, acc, fits, h, h2, h3 => by
    have hsz := Lib.size_eq s
    rw [ref02_number_L5]
    by_cases hi : i < s.data.toList.length
    · have hb := byteAt_get s i hi
      have hdrop := List.drop_eq_getElem_cons hi
      generalize s.data.toList[i] = c at hb hdrop
      have e1 : decide ((i : Int) < Int.ofNat s.size) = true := decide_eq_true (by rw [Int.ofNat_eq_natCast]; omega)
      have e2 : decide ((0 : Int) ≤ (i : Int)) = true := decide_eq_true (by omega)
      rw [e1, e2, hb, hdrop, List.all_cons]
      simp only [cond_true, Bool.and_self]
      by_cases h48 : c.toNat < 48
      · have e3 : isDig c = false := by cases hd : isDig c with | false => rfl | true => have := isDig_iff.1 hd; omega
        refine ⟨0, ?_⟩
        rw [decide_eq_true (show ((c.toNat : Int) < 48) by omega), e3]; rfl
      · rw [decide_eq_false (show ¬ ((c.toNat : Int) < 48) by omega)]
        simp only [cond_false]
        by_cases h57 : 57 < c.toNat
        · have e3 : isDig c = false := by cases hd : isDig c with | false => rfl | true => have := isDig_iff.1 hd; omega
          refine ⟨0, ?_⟩
          rw [decide_eq_true (show ((c.toNat : Int) > 57) by omega), e3]; rfl
        · have e3 : isDig c = true := isDig_iff.2 ⟨by omega, by omega⟩
          rw [decide_eq_false (show ¬ ((c.toNat : Int) > 57) by omega), e3]
          simp only [cond_false, Bool.true_and]
          rw [digit_wrap (by omega) (by omega), over_iff h3 (by omega)]
          rw [show decVal acc (c :: s.data.toList.drop (i + 1)) = decVal (acc * 10 + (c.toNat - 48)) (s.data.toList.drop (i + 1)) from rfl]
          have hge := decVal_ge (s.data.toList.drop (i + 1)) (acc * 10 + (c.toNat - 48))
          have hd10 : c.toNat - 48 < 10 := by omega
          generalize c.toNat - 48 = d at hge hd10
          rw [wrap_succ (by omega)]
          by_cases hov : 9223372036854775807 < acc * 10 + d
          · rw [decide_eq_true hov]
            simp only [cond_true]
            have e4 : IntKind.i64.wrap (IntKind.i64.wrap ((10 : Int) * (0 : Int)) + (d : Int)) = (d : Int) := by
              rw [show (10 : Int) * 0 = 0 from rfl, wrap_id (n := 0) (by omega) (by omega), Int.zero_add, wrap_id (by omega) (by omega)]
            obtain ⟨x, hx⟩ := number_loop s hs n (i + 1) d false (by omega) (by omega) (by omega)
            refine ⟨x, ?_⟩
            rw [e4, hx]
            have e5 : ¬ (fits = true ∧ decVal (acc * 10 + d) (s.data.toList.drop (i + 1)) ≤ 9223372036854775807) := fun hh => by omega
            rw [if_neg e5, if_neg (show ¬ (false = true ∧ decVal d (s.data.toList.drop (i + 1)) ≤ 9223372036854775807) from fun hh => by cases hh.1)]
          · rw [decide_eq_false hov]
            simp only [cond_false]
            have e4 : IntKind.i64.wrap (IntKind.i64.wrap ((10 : Int) * (acc : Int)) + (d : Int)) = ((acc * 10 + d : Nat) : Int) := by
              rw [wrap_id (n := (10 : Int) * (acc : Int)) (by omega) (by omega), wrap_id (by omega) (by omega)]; omega
            obtain ⟨x, hx⟩ := number_loop s hs n (i + 1) (acc * 10 + d) fits (by omega) (by omega) (by omega)
            exact ⟨x, by rw [e4, hx]⟩
    · have e1 : decide ((i : Int) < Int.ofNat s.size) = false := decide_eq_false (by rw [Int.ofNat_eq_natCast]; omega)
      have e2 : s.data.toList.drop i = [] := List.drop_eq_nil_of_le (by omega)
      refine ⟨acc, ?_⟩
      rw [e1, e2]
      cases fits with
      | false => rfl
      | true =>
        rw [show decVal acc [] = acc from rfl, if_pos (show ([] : List UInt8).all isDig = true from rfl), if_pos ⟨rfl, h3⟩]; rfl
theorem ref02_number_eq (s : ByteArray) (hs : s.size ≤ 1000) : ∃ x, ref02_number s = (true, refE x s.data.toList) := by
  unfold ref02_number
  have hsz := Lib.size_eq s
  cases hl : s.data.toList with
  | nil =>
    rw [hl] at hsz
    refine ⟨0, ?_⟩
    have : refE 0 [] = (0, false, false) := by unfold refE numR; rw [if_pos (.inl rfl)]; rfl
    rw [this, hsz]; rfl
  | cons c r =>
    rw [hl] at hsz
    have e0 : (Int.ofNat s.size == (0 : Int)) = false := by
      rw [hsz]
      cases hb : (Int.ofNat (c :: r).length == (0 : Int)) with
      | false => rfl
      | true => have := beq_iff_eq.1 hb; simp at this; omega
    have e1 : (decide ((0 : Int) ≤ (0 : Int)) && decide ((0 : Int) < Int.ofNat s.size)) = true := by
      rw [hsz]; simp
    have e2 : byteAt s (0 : Int) = (c.toNat : Int) := by
      have := byteAt_get s 0 (by rw [hl]; simp)
      simp only [hl, List.getElem_cons_zero] at this
      exact this
    rw [e0, e1, e2]
    simp only [cond_false, cond_true]
    by_cases h48 : c = 48
    · subst h48
      refine ⟨0, ?_⟩
      have : refE 0 (48 :: r) = (0, false, false) := by unfold refE numR; rw [if_pos (.inr (.inl rfl))]; rfl
      rw [this]; rfl
    · have e3 : ((c.toNat : Int) == (48 : Int)) = false := by
        cases hb : ((c.toNat : Int) == (48 : Int)) with
        | false => rfl
        | true =>
          have := beq_iff_eq.1 hb
          exact absurd (UInt8.toNat_inj.1 (by rw [show (48 : UInt8).toNat = 48 from rfl]; omega)) h48
      obtain ⟨x, hx⟩ := number_loop s hs (s.size + Int.toNat (0 : Int) + Int.toNat (0 : Int) + (1 : Nat)) 0 0 true (by rw [hl, hsz]; simp) (by omega) (by omega)
      rw [List.drop_zero, hl] at hx
      refine ⟨x, ?_⟩
      rw [e3, show ref02_number_L5 (s.size + Int.toNat (0 : Int) + Int.toNat (0 : Int) + (1 : Nat)) s (0 : Int) true (0 : Int) = _ from hx]
      unfold refE numR
      cases hd : (c :: r).all isDig with
      | false =>
        rw [if_pos (show (c :: r = [] ∨ (c :: r).head? = some 48 ∨ false = false) from .inr (.inr rfl))]
        rfl
      | true =>
        have hc : ¬ (c :: r = [] ∨ (c :: r).head? = some 48 ∨ true = false) := fun h => by
          rcases h with h | h | h
          · cases h
          · exact h48 (Option.some.inj h)
          · cases h
        rw [if_neg hc]
        by_cases hv : decVal 0 (c :: r) ≤ 9223372036854775807
        · rw [if_pos hv, if_pos rfl, if_pos ⟨rfl, hv⟩]; rfl
        · rw [if_neg hv, if_pos rfl, if_neg (fun h => hv h.2)]; rfl

/-! ### the text of a row identifier, read -/
def parseR (l : List UInt8) : RowID × Int :=
  match l with
  | [] => (⟨0, 0⟩, 3)
  | c :: r => if c = 116 ∧ at1 46 r < r.length then
      match numR (r.take (at1 46 r)), numR (r.drop (at1 46 r + 1)) with
      | .ok a, .ok b => (⟨a, b⟩, 0)
      | .ok _, .range => (⟨0, 0⟩, 2)
      | .range, .ok _ => (⟨0, 0⟩, 2)
      | .range, .range => (⟨0, 0⟩, 2)
      | _, _ => (⟨0, 0⟩, 3)
    else (⟨0, 0⟩, 3)
theorem parseR_cons (c : UInt8) (r : List UInt8) : parseR (c :: r) = if c = 116 ∧ at1 46 r < r.length then
      (match numR (r.take (at1 46 r)), numR (r.drop (at1 46 r + 1)) with
      | .ok a, .ok b => ((⟨a, b⟩ : RowID), (0 : Int))
      | .ok _, .range => ((⟨0, 0⟩ : RowID), (2 : Int))
      | .range, .ok _ => ((⟨0, 0⟩ : RowID), (2 : Int))
      | .range, .range => ((⟨0, 0⟩ : RowID), (2 : Int))
      | _, _ => ((⟨0, 0⟩ : RowID), (3 : Int)))
    else ((⟨0, 0⟩ : RowID), (3 : Int)) := rfl
theorem toList_mk (l : List UInt8) : (ByteArray.mk l.toArray).data.toList = l := rfl
theorem size_mk (l : List UInt8) : (ByteArray.mk l.toArray).size = l.length := by rw [Lib.size_eq]
theorem rowset_Parse_eq (s : ByteArray) (hs : s.size ≤ 1000) : rowset_Parse s = (true, parseR s.data.toList) := by
  have hsz := Lib.size_eq s
  unfold rowset_Parse
  have ep : (strings_CutPrefix s (ByteArray.mk #[(116 : UInt8)])).2 = (⟨(Lib.trimPrefix s.data.toList [116]).toArray⟩, Lib.hasPrefix s.data.toList [116]) := rfl
  simp only [ep]
  have ht : ∀ t : ByteArray, t.size ≤ 1000 → strings_Cut t (ByteArray.mk #[(46 : UInt8)]) = (true, (⟨(Lib.cut t.data.toList [46]).1.toArray⟩, ⟨(Lib.cut t.data.toList [46]).2.1.toArray⟩, (Lib.cut t.data.toList [46]).2.2)) := fun t ht => by
    unfold strings_Cut cutF
    rw [decide_eq_true (show t.size < 4294967281 by omega)]
  have hlen : (Lib.trimPrefix s.data.toList [116]).length ≤ 1000 := by
    unfold Lib.trimPrefix
    split
    · rw [List.length_drop]; omega
    · omega
  rw [ht _ (by rw [size_mk]; exact hlen)]
  simp only [bnd, cond_true, toList_mk]
  cases hl : s.data.toList with
  | nil => rfl
  | cons c r =>
    rw [hl] at hsz hlen
    have e1 : Lib.hasPrefix (c :: r) [116] = decide (c = 116) := by
      unfold Lib.hasPrefix
      by_cases h : c = 116
      · subst h; rfl
      · rw [decide_eq_false h]
        simp only [List.isPrefixOf]
        have : ((116 : UInt8) == c) = false := by
          cases hb : ((116 : UInt8) == c) with
          | false => rfl
          | true => exact absurd (beq_iff_eq.1 hb).symm h
        rw [this]; rfl
    rw [e1]
    rw [parseR_cons]
    by_cases h : c = 116
    · have e2 : Lib.trimPrefix (c :: r) [116] = r := by
        unfold Lib.trimPrefix
        rw [e1, decide_eq_true h, if_pos rfl]; rfl
      rw [e2, decide_eq_true h, cut_one]
      by_cases hd : at1 46 r < r.length
      · rw [if_pos hd, if_pos ⟨h, hd⟩]
        have hr : r.length ≤ 1000 := by simp at hsz; omega
        simp only [Bool.not_true, cond_false]
        rw [rowset_number_eq _ (by rw [size_mk, List.length_take]; omega), rowset_number_eq _ (by rw [size_mk, List.length_drop]; omega)]
        simp only [cond_true, toList_mk]
        unfold numE
        cases numR (r.take (at1 46 r)) <;> cases numR (r.drop (at1 46 r + 1)) <;> rfl
      · rw [if_neg hd, if_neg (fun hh => hd hh.2)]
        rfl
    · rw [decide_eq_false h, if_neg (fun hh => h hh.1)]
      rfl
theorem dot_loop (s : ByteArray) (hs : s.size ≤ 1000) (a b : Int) : ∀ (n i : Nat), s.data.toList.length < i + n → i ≤ s.data.toList.length → ref02_Parse_L2 n s i a b = (true, (s, ((i + at1 46 (s.data.toList.drop i) : Nat) : Int), a, b))
  | 0, i, h, h2 => by omega
  | n + 1, i, h, h2 => by
    have hsz := Lib.size_eq s
    rw [ref02_Parse_L2]
    by_cases hi : i < s.data.toList.length
    · have hb := byteAt_get s i hi
      have hdrop := List.drop_eq_getElem_cons hi
      generalize s.data.toList[i] = c at hb hdrop
      have e1 : decide ((i : Int) < Int.ofNat s.size) = true := decide_eq_true (by rw [Int.ofNat_eq_natCast]; omega)
      have e2 : decide ((0 : Int) ≤ (i : Int)) = true := decide_eq_true (by omega)
      rw [e1, e2, hb, hdrop]
      simp only [cond_true, Bool.and_self]
      by_cases hc : c = 46
      · subst hc; rfl
      · have e3 : ((c.toNat : Int) != (46 : Int)) = true := by
          cases hb : ((c.toNat : Int) != (46 : Int)) with
          | true => rfl
          | false =>
            have : (c.toNat : Int) = 46 := by simpa using hb
            exact absurd (UInt8.toNat_inj.1 (by rw [show (46 : UInt8).toNat = 46 from rfl]; omega)) hc
        have e4 : (c == 46) = false := by
          cases hb : (c == 46) with
          | false => rfl
          | true => exact absurd (beq_iff_eq.1 hb) hc
        rw [e3]
        simp only [cond_true]
        rw [wrap_succ (by omega), dot_loop s hs a b n (i + 1) (by omega) (by omega), at1, e4]
        simp only [cond_false]
        rw [show i + 1 + at1 46 (s.data.toList.drop (i + 1)) = i + (at1 46 (s.data.toList.drop (i + 1)) + 1) by omega]
    · have e1 : decide ((i : Int) < Int.ofNat s.size) = false := decide_eq_false (by rw [Int.ofNat_eq_natCast]; omega)
      have e2 : s.data.toList.drop i = [] := List.drop_eq_nil_of_le (by omega)
      rw [e1, e2]; rfl
theorem ref02_Parse_eq (s : ByteArray) (hs : s.size ≤ 1000) : ref02_Parse s = (true, parseR s.data.toList) := by
  have hsz := Lib.size_eq s
  unfold ref02_Parse
  have hL := dot_loop s hs 0 0 (s.size + Int.toNat (0 : Int) + Int.toNat (0 : Int) + Int.toNat (0 : Int) + (1 : Nat)) 0 (by rw [hsz]; simp) (by omega)
  rw [List.drop_zero, Nat.zero_add] at hL
  rw [show ref02_Parse_L2 (s.size + Int.toNat (0 : Int) + Int.toNat (0 : Int) + Int.toNat (0 : Int) + (1 : Nat)) s (0 : Int) (0 : Int) (0 : Int) = _ from hL]
  simp only [bnd, cond_true]
  cases hl : s.data.toList with
  | nil => rfl
  | cons c r =>
    rw [hl] at hsz
    have hr : r.length ≤ 1000 := by simp at hsz; omega
    have hsz' : s.size = r.length + 1 := by rw [hsz]; rfl
    rw [parseR_cons]
    by_cases h46 : c = 46
    · subst h46
      rw [if_neg (fun hh => absurd hh.1 (by decide))]
      rfl
    · have e4 : (c == 46) = false := by
        cases hb : (c == 46) with
        | false => rfl
        | true => exact absurd (beq_iff_eq.1 hb) h46
      have ea : at1 46 (c :: r) = at1 46 r + 1 := by rw [at1, e4]; rfl
      have hle := at1_le 46 r
      rw [ea]
      generalize hk : at1 46 r = k at hle
      rw [decide_eq_false (show ¬ ((k + 1 : Nat) : Int) < 1 by omega)]
      simp only [cond_false]
      by_cases hd : k < r.length
      · rw [decide_eq_false (show ¬ (((k + 1 : Nat) : Int) ≥ Int.ofNat s.size) by rw [Int.ofNat_eq_natCast]; omega)]
        have e1 : (decide ((0 : Int) ≤ (0 : Int)) && decide ((0 : Int) < Int.ofNat s.size)) = true := by
          rw [decide_eq_true (show (0 : Int) < Int.ofNat s.size by rw [Int.ofNat_eq_natCast]; omega)]; rfl
        have e2 : byteAt s (0 : Int) = (c.toNat : Int) := by
          have := byteAt_get s 0 (by rw [hl]; simp)
          simp only [hl, List.getElem_cons_zero] at this
          exact this
        rw [e1, e2]
        simp only [cond_false, cond_true]
        by_cases h : c = 116
        · subst h
          rw [if_pos ⟨rfl, hd⟩, show ((((116 : UInt8).toNat : Nat) : Int) != (116 : Int)) = false from rfl]
          have e5 : (decide ((0 : Int) ≤ (1 : Int)) && decide ((1 : Int) ≤ ((k + 1 : Nat) : Int)) && decide (((k + 1 : Nat) : Int) ≤ Int.ofNat s.size)) = true := by
            rw [decide_eq_true (show (1 : Int) ≤ ((k + 1 : Nat) : Int) by omega), decide_eq_true (show ((k + 1 : Nat) : Int) ≤ Int.ofNat s.size by rw [Int.ofNat_eq_natCast]; omega)]; rfl
          have e6 : IntKind.i64.wrap (((k + 1 : Nat) : Int) + 1) = ((k + 2 : Nat) : Int) := wrap_succ (by omega)
          have e7 : (decide ((0 : Int) ≤ ((k + 2 : Nat) : Int)) && decide (((k + 2 : Nat) : Int) ≤ Int.ofNat s.size) && decide (Int.ofNat s.size ≤ Int.ofNat s.size)) = true := by
            rw [decide_eq_true (show (0 : Int) ≤ ((k + 2 : Nat) : Int) by omega), decide_eq_true (show ((k + 2 : Nat) : Int) ≤ Int.ofNat s.size by rw [Int.ofNat_eq_natCast]; omega), decide_eq_true (Int.le_refl _)]; rfl
          rw [e5, e6, e7]
          simp only [cond_false, cond_true]
          have x1 : (s.extract (Int.toNat (1 : Int)) ((k + 1 : Nat) : Int).toNat).data.toList = r.take k := by
            rw [Lib.extract_data, hl]; rfl
          have x2 : (s.extract ((k + 2 : Nat) : Int).toNat (Int.ofNat s.size).toNat).data.toList = r.drop (k + 1) := by
            rw [Lib.extract_data, hl, Int.toNat_natCast, show (Int.ofNat s.size).toNat = s.size from rfl, hsz']
            rw [show (116 :: r : List UInt8).drop (k + 2) = r.drop (k + 1) from rfl]
            exact List.take_of_length_le (by rw [List.length_drop]; omega)
          obtain ⟨y1, h1⟩ := ref02_number_eq (s.extract (Int.toNat (1 : Int)) ((k + 1 : Nat) : Int).toNat) (by rw [Lib.size_eq, x1, List.length_take]; omega)
          obtain ⟨y2, h2⟩ := ref02_number_eq (s.extract ((k + 2 : Nat) : Int).toNat (Int.ofNat s.size).toNat) (by rw [Lib.size_eq, x2, List.length_drop]; omega)
          rw [h1, h2, x1, x2]
          simp only [cond_true]
          unfold refE
          cases numR (r.take k) <;> cases numR (r.drop (k + 1)) <;> rfl
        · have e3 : ((c.toNat : Int) != (116 : Int)) = true := by
            cases hb : ((c.toNat : Int) != (116 : Int)) with
            | true => rfl
            | false =>
              have : (c.toNat : Int) = 116 := by simpa using hb
              exact absurd (UInt8.toNat_inj.1 (by rw [show (116 : UInt8).toNat = 116 from rfl]; omega)) h
          rw [e3, if_neg (fun hh => h hh.1)]; rfl
      · rw [decide_eq_true (show (((k + 1 : Nat) : Int) ≥ Int.ofNat s.size) by rw [Int.ofNat_eq_natCast]; omega), if_neg (fun hh => hd hh.2)]; rfl
end Go.Proofs.YteopikhooiallaaGreatDoor
/- Functions of the program as plain functions, with their contracts. Printed by program. -/
set_option autoImplicit false
set_option linter.unusedVariables false
set_option linter.unusedSimpArgs false
namespace Go.Proofs.YteopikhooiallaaGreatDoor
open Go Go.Ab
/-! ### lineage/rowset.Union -/
noncomputable def rowset_Union_cx : Cx ty := { base with nt := 10, spec := fun g => List.lookup g [(26, rowset_Normalize_spec), (50, slices_Clone_Lapi_RowID_api_RowID_spec)], io := fun g => (List.lookup g []).getD [], head := fun i => (List.lookup i []).getD [], out := outOf [], loops := fun i => List.lookup i [] }
noncomputable def rowset_Union (a : List RowID) (b : List RowID) : Bool × List RowID := bnd (slices_Clone_Lapi_RowID_api_RowID a) (fun r1 => bif decide ((r1.length + b.length) * (16 : Nat) ≤ reach) then bnd (rowset_Normalize (r1 ++ b)) (fun r0 => (true, r0)) (false, default) else (false, default)) (false, default)
noncomputable def rowset_Union_res (r : List RowID) : ARes ty := ⟨[.own 30 r], []⟩
theorem rowset_Union_run (a : List RowID) (b : List RowID) : runFn rowset_Union_cx Tryz.f39 (body Tryz.f39) ⟨[.own 30], []⟩ [.pure (.sl 30 a), .pure (.sl 30 b)] = out (fun r => some (rowset_Union_res r)) (rowset_Union a b) := by
  have h : runFn rowset_Union_cx Tryz.f39 (body Tryz.f39) ⟨[.own 30], []⟩ [.pure (.sl 30 a), .pure (.sl 30 b)] = obnd (slices_Clone_Lapi_RowID_api_RowID a) (fun r3 => bif decide ((r3.length + b.length) * (16 : Nat) ≤ reach) then obnd (rowset_Normalize (r3 ++ b)) (fun r2 => some ⟨[.own 30 (r2)], []⟩) else none) := by kernel_rfl
  rw [rowset_Union]
  exact h.trans (out_ite (out_ite (out_ite (rfl) (rfl)) (rfl)) (rfl))
noncomputable def rowset_Union_A : AL base (List RowID × List RowID × Unit) := aCons (aPure (vSl 30)) (aCons (aPure (vSl 30)) aNil)
noncomputable def rowset_Union_spec : Ab.Spec ty := mkSpec rowset_Union_A fun x => ((rowset_Union x.1 x.2.1).1, rowset_Union_res (rowset_Union x.1 x.2.1).2)
theorem rowset_Union_sound : Sound Tryz.prog base 39 rowset_Union_spec :=
  sound_of_run (cx' := rowset_Union_cx) draws base_ok ⟨⟨rfl, rfl, rfl, rfl, rfl, rfl⟩, rfl⟩ (spec_of [(26, rowset_Normalize_spec), (50, slices_Clone_Lapi_RowID_api_RowID_spec)] ⟨(rowset_Normalize_sound), (slices_Clone_Lapi_RowID_api_RowID_sound), trivial⟩) Tryz.call39 Tryz.func39 (c := body Tryz.f39) (by kernel_rfl) (loopsOK_of (l := []) (by kernel_rfl) trivial) (sg := ⟨[.own 30], []⟩) (A := rowset_Union_A) (res := rowset_Union_res) (F := fun x => rowset_Union x.1 x.2.1) (fun x => rowset_Union_run x.1 x.2.1) (fun _ => by kernel_rfl)
end Go.Proofs.YteopikhooiallaaGreatDoor
/- What the printed functions compute: the program's functions on sets of row identifiers. -/
set_option autoImplicit false
set_option linter.unusedVariables false
set_option linter.unusedSimpArgs false
namespace Go.Proofs.YteopikhooiallaaGreatDoor
open Go Go.Ab

theorem cmp_Compare_int_eq (x y : Int) : cmp_Compare_int x y = (true, if x < y then -1 else if y < x then 1 else 0) := by
  unfold cmp_Compare_int cmp_isNaN_int
  by_cases h1 : x < y
  · simp [h1]
  · by_cases h2 : y < x <;> simp [h1, h2]
/-- The first that is not zero. -/
def firstNZ : List Int → Int
  | [] => 0
  | x :: r => if x = 0 then firstNZ r else x
theorem Or_loop (l : List Int) (hl : l.length ≤ 1000000) : ∀ (n i : Nat), l.length < i + n → i ≤ l.length → ∃ r, cmp_Or_int_L3 n 0 l l.length i = (true, r) ∧ (r = .inl (firstNZ (l.drop i)) ∨ (r = .inr 0 ∧ firstNZ (l.drop i) = 0))
  | 0, i, h, h2 => by omega
  | n + 1, i, h, h2 => by
    rw [cmp_Or_int_L3]
    by_cases hi : i < l.length
    · simp only [Int.ofNat_eq_natCast, lt_nat, le0_nat, decide_true, decide_false, Bool.and_self, Bool.true_and, Bool.and_true, cond_true, cond_false, Int.toNat_natCast, eqR, eqR', Bool.not_true, Bool.not_false, bnd, hi]
      obtain ⟨r, h1, h3⟩ := Or_loop l hl n (i + 1) (by omega) (by omega)
      rw [drop_lt hi, wrap_succ (by omega), h1]
      generalize l.getD i default = x
      by_cases hx : x = 0
      · have e : (x != 0) = false := by simp [hx]
        simp only [e, cond_false, firstNZ, hx, if_true]
        exact ⟨r, rfl, h3⟩
      · have e : (x != 0) = true := by simp [hx]
        simp only [e, cond_true, firstNZ, hx, if_false]
        exact ⟨_, rfl, .inl rfl⟩
    · simp only [Int.ofNat_eq_natCast, lt_nat, le0_nat, decide_true, decide_false, Bool.and_self, Bool.true_and, Bool.and_true, cond_true, cond_false, Int.toNat_natCast, eqR, eqR', Bool.not_true, Bool.not_false, bnd, hi, drop_ge hi]
      exact ⟨_, rfl, .inr ⟨rfl, rfl⟩⟩
theorem cmp_Or_int_eq (l : List Int) (hl : l.length ≤ 1000000) : cmp_Or_int l = (true, firstNZ l) := by
  unfold cmp_Or_int
  obtain ⟨r, h1, h2⟩ := Or_loop l hl (Int.toNat 0 + l.length + (Int.ofNat l.length).toNat + Int.toNat 0 + 1) 0 (by simp; omega) (by omega)
  rw [show Int.ofNat l.length = (l.length : Int) from rfl] at *
  rw [show ((0 : Nat) : Int) = (0 : Int) from rfl] at h1
  rw [h1]
  rw [List.drop_zero] at h2
  rcases h2 with rfl | ⟨rfl, h2⟩
  · rfl
  · rw [h2]; rfl
theorem rowset_Compare_eq (a b : RowID) : rowset_Compare a b = (true, cR a b) := by
  unfold rowset_Compare
  simp only [cmp_Compare_int_eq, bnd, cond_true]
  rw [cmp_Or_int_eq _ (by simp)]
  simp only [cond_true, cR, firstNZ]
  congr 1
  repeat' split
  all_goals first | rfl | omega

theorem CompareFunc_loop (a b : List RowID) (ha : a.length ≤ 1000000) (hb : b.length ≤ 1000000) : ∀ (n i : Nat), a.length < i + n → i ≤ a.length → i ≤ b.length →
    ∃ r, slices_CompareFunc_Lapi_RowID_Lapi_RowID_api_RowID_api_RowID_L2 n a b a a.length i = (true, r) ∧ ((r = .inl (cS (a.drop i) (b.drop i))) ∨ (r = .inr (a, b) ∧ cS (a.drop i) (b.drop i) = if a.length < b.length then -1 else 0))
  | 0, i, h, h2, h3 => by omega
  | n + 1, i, h, h2, h3 => by
    rw [slices_CompareFunc_Lapi_RowID_Lapi_RowID_api_RowID_api_RowID_L2]
    by_cases hi : i < a.length
    · by_cases hi' : i < b.length
      · have hg : ¬ b.length ≤ i := by omega
        simp only [Int.ofNat_eq_natCast, lt_nat, le0_nat, decide_true, decide_false, Bool.and_self, Bool.true_and, Bool.and_true, cond_true, cond_false, Int.toNat_natCast, eqR, eqR', Bool.not_true, Bool.not_false, bnd, hi, hi', ge_nat, hg, rowset_Compare_eq]
        rw [drop_lt hi, drop_lt hi', wrap_succ (by omega)]
        generalize a.getD i default = x
        generalize b.getD i default = y
        by_cases hx : cR x y = 0
        · have e : (cR x y != 0) = false := by simp [hx]
          simp only [e, cond_false, lexc, hx, if_true]
          exact CompareFunc_loop a b ha hb n (i + 1) (by omega) (by omega) (by omega)
        · have e : (cR x y != 0) = true := by simp [hx]
          simp only [e, cond_true, lexc, hx, if_false]
          exact ⟨_, rfl, .inl rfl⟩
      · have hg : b.length ≤ i := by omega
        simp only [Int.ofNat_eq_natCast, lt_nat, le0_nat, decide_true, decide_false, Bool.and_self, Bool.true_and, Bool.and_true, cond_true, cond_false, Int.toNat_natCast, eqR, eqR', Bool.not_true, Bool.not_false, bnd, hi, ge_nat, hg]
        refine ⟨_, rfl, .inl ?_⟩
        rw [drop_lt hi, drop_ge hi']; rfl
    · simp only [Int.ofNat_eq_natCast, lt_nat, le0_nat, decide_true, decide_false, Bool.and_self, Bool.true_and, Bool.and_true, cond_true, cond_false, Int.toNat_natCast, eqR, eqR', Bool.not_true, Bool.not_false, bnd, hi]
      refine ⟨_, rfl, .inr ⟨rfl, ?_⟩⟩
      rw [drop_ge hi]
      by_cases hi' : i < b.length
      · rw [drop_lt hi', if_pos (by omega)]; rfl
      · rw [drop_ge hi', if_neg (by omega)]; rfl
theorem rowset_compareSets_eq (a b : List RowID) (ha : a.length ≤ 1000000) (hb : b.length ≤ 1000000) : rowset_compareSets a b = (true, cS a b) := by
  unfold rowset_compareSets
  have h : slices_CompareFunc_Lapi_RowID_Lapi_RowID_api_RowID_api_RowID a b = (true, cS a b) := by
    unfold slices_CompareFunc_Lapi_RowID_Lapi_RowID_api_RowID_api_RowID
    obtain ⟨r, h1, h2⟩ := CompareFunc_loop a b ha hb (a.length + b.length + a.length + (Int.ofNat a.length).toNat + Int.toNat 0 + 1) 0 (by simp; omega) (by omega) (by omega)
    rw [show (0 : Int) = ((0 : Nat) : Int) from rfl] at *
    rw [show Int.ofNat a.length = (a.length : Int) from rfl] at *
    rw [h1]
    simp only [List.drop_zero] at h2
    rcases h2 with rfl | ⟨rfl, h2⟩
    · rfl
    · rw [h2]
      simp only [Int.ofNat_eq_natCast, lt_nat, le0_nat, decide_true, decide_false, Bool.and_self, Bool.true_and, Bool.and_true, cond_true, cond_false, Int.toNat_natCast, eqR, eqR', Bool.not_true, Bool.not_false, bnd, isL, getR]
      by_cases h3 : a.length < b.length <;> simp [h3]
  rw [h]; rfl

theorem Equal_loop (a b : List RowID) (ha : a.length ≤ 1000000) (hab : a.length = b.length) : ∀ (n i : Nat), a.length < i + n → i ≤ a.length → slices_Equal_Lapi_RowID_api_RowID_L4 n a b a.length i = (true, if a.drop i = b.drop i then .inr () else .inl false)
  | 0, i, h, h2 => by omega
  | n + 1, i, h, h2 => by
    rw [slices_Equal_Lapi_RowID_api_RowID_L4]
    by_cases hi : i < a.length
    · have hi' : i < b.length := by omega
      simp only [Int.ofNat_eq_natCast, lt_nat, le0_nat, decide_true, decide_false, Bool.and_self, Bool.true_and, Bool.and_true, cond_true, cond_false, Int.toNat_natCast, eqR, eqR', Bool.not_true, Bool.not_false, bnd, hi, hi']
      rw [drop_lt hi, drop_lt hi', wrap_succ (by omega), Equal_loop a b ha hab n (i + 1) (by omega) (by omega)]
      generalize a.getD i default = x
      generalize b.getD i default = y
      by_cases hx : x = y <;> simp [hx]
    · have hi' : ¬ i < b.length := by omega
      simp only [Int.ofNat_eq_natCast, lt_nat, le0_nat, decide_true, decide_false, Bool.and_self, Bool.true_and, Bool.and_true, cond_true, cond_false, Int.toNat_natCast, eqR, eqR', Bool.not_true, Bool.not_false, bnd, hi, drop_ge hi, drop_ge hi']; simp
theorem slices_Equal_eq (a b : List RowID) (ha : a.length ≤ 1000000) : slices_Equal_Lapi_RowID_api_RowID a b = (true, decide (a = b)) := by
  unfold slices_Equal_Lapi_RowID_api_RowID
  simp only [Int.ofNat_eq_natCast, bne_nat]
  by_cases hab : a.length = b.length
  · simp only [hab, ne_eq, not_true_eq_false, decide_false, cond_false]
    rw [show (0 : Int) = ((0 : Nat) : Int) from rfl, ← hab, Equal_loop a b ha hab _ 0 (by simp; omega) (by omega)]
    by_cases h : a = b <;> simp [h, isL, getL, bnd]
  · have : a ≠ b := fun e => hab (by rw [e])
    simp [hab, this]
theorem rowset_Family_c1_eq (a b : List RowID) (ha : a.length ≤ 1000000) : rowset_Family_c1 a b = (true, decide (a = b)) := by
  unfold rowset_Family_c1
  rw [slices_Equal_eq a b ha]; rfl

theorem Index_loop (l : List RowID) (v : RowID) (hl : l.length ≤ 1000000) : ∀ (n i : Nat), l.length < i + n → i ≤ l.length → ∃ r, slices_Index_Lapi_RowID_api_RowID_L2 n l l.length i v = (true, r) ∧ ((v ∈ l.drop i ∧ ∃ j : Nat, r = .inl (j : Int)) ∨ (v ∉ l.drop i ∧ r = .inr ()))
  | 0, i, h, h2 => by omega
  | n + 1, i, h, h2 => by
    rw [slices_Index_Lapi_RowID_api_RowID_L2]
    by_cases hi : i < l.length
    · simp only [Int.ofNat_eq_natCast, lt_nat, le0_nat, decide_true, decide_false, Bool.and_self, Bool.true_and, Bool.and_true, cond_true, cond_false, Int.toNat_natCast, eqR, eqR', Bool.not_true, Bool.not_false, bnd, hi]
      obtain ⟨r, h1, h3⟩ := Index_loop l v hl n (i + 1) (by omega) (by omega)
      rw [drop_lt hi, wrap_succ (by omega), h1]
      generalize l.getD i default = x
      by_cases hx : v = x
      · subst hx
        exact ⟨.inl (i : Int), by simp, .inl ⟨by simp, i, rfl⟩⟩
      · refine ⟨r, by simp [hx], ?_⟩
        simpa [hx] using h3
    · simp only [Int.ofNat_eq_natCast, lt_nat, le0_nat, decide_true, decide_false, Bool.and_self, Bool.true_and, Bool.and_true, cond_true, cond_false, Int.toNat_natCast, eqR, eqR', Bool.not_true, Bool.not_false, bnd, hi, drop_ge hi]
      exact ⟨_, rfl, .inr ⟨by simp, rfl⟩⟩
theorem slices_Contains_eq (l : List RowID) (v : RowID) (hl : l.length ≤ 1000000) : slices_Contains_Lapi_RowID_api_RowID l v = (true, decide (v ∈ l)) := by
  have h : ∃ k : Int, slices_Index_Lapi_RowID_api_RowID l v = (true, k) ∧ (0 ≤ k ↔ v ∈ l) := by
    unfold slices_Index_Lapi_RowID_api_RowID
    obtain ⟨r, h1, h2⟩ := Index_loop l v hl (l.length + (Int.ofNat l.length).toNat + Int.toNat 0 + 1) 0 (by simp; omega) (by omega)
    rw [show (0 : Int) = ((0 : Nat) : Int) from rfl] at *
    rw [show Int.ofNat l.length = (l.length : Int) from rfl] at *
    rw [h1]
    rw [List.drop_zero] at h2
    rcases h2 with ⟨h2, j, rfl⟩ | ⟨h2, rfl⟩
    · exact ⟨(j : Int), rfl, by simp [h2]⟩
    · exact ⟨-1, rfl, by simp [h2]⟩
  obtain ⟨k, h1, h2⟩ := h
  unfold slices_Contains_Lapi_RowID_api_RowID
  rw [h1]
  simp only [bnd, cond_true]
  by_cases h3 : v ∈ l
  · have := h2.2 h3; simp [h3, this]
  · have : ¬ 0 ≤ k := fun h => h3 (h2.1 h)
    simp [h3]; omega
theorem rowset_Minus_c1_eq (x : RowID) (b : List RowID) (hb : b.length ≤ 1000000) : rowset_Minus_c1 x b = (true, decide (x ∈ b)) := by
  unfold rowset_Minus_c1
  rw [slices_Contains_eq b x hb]; rfl

theorem IndexFunc_loop (l b : List RowID) (hl : l.length ≤ 1000000) (hb : b.length ≤ 1000000) : ∀ (n i : Nat), l.length < i + n → i ≤ l.length →
    ∃ r, slices_IndexFunc_Lapi_RowID_api_RowID_L2 n l b l.length i = (true, r) ∧ ((∃ j : Nat, r = .inl (j : Int) ∧ i ≤ j ∧ j < l.length ∧ l.getD j default ∈ b ∧ l.drop i = (l.take j).drop i ++ l.drop j ∧ ∀ x ∈ (l.take j).drop i, x ∉ b) ∨ (r = .inr () ∧ ∀ x ∈ l.drop i, x ∉ b))
  | 0, i, h, h2 => by omega
  | n + 1, i, h, h2 => by
    rw [slices_IndexFunc_Lapi_RowID_api_RowID_L2]
    by_cases hi : i < l.length
    · simp only [Int.ofNat_eq_natCast, lt_nat, le0_nat, decide_true, decide_false, Bool.and_self, Bool.true_and, Bool.and_true, cond_true, cond_false, Int.toNat_natCast, eqR, eqR', Bool.not_true, Bool.not_false, bnd, hi, rowset_Minus_c1_eq _ b hb]
      obtain ⟨r, h1, h3⟩ := IndexFunc_loop l b hl hb n (i + 1) (by omega) (by omega)
      rw [wrap_succ (by omega), h1]
      by_cases hx : l.getD i default ∈ b
      · refine ⟨.inl (i : Int), by simp only [hx, decide_true, cond_true], .inl ⟨i, rfl, Nat.le_refl _, hi, hx, ?_, ?_⟩⟩
        · rw [List.drop_take, Nat.sub_self]; simp
        · rw [List.drop_take, Nat.sub_self]; simp
      · refine ⟨r, by simp only [hx, decide_false, cond_false], ?_⟩
        rcases h3 with ⟨j, rfl, h4, h5, h6, h7, h8⟩ | ⟨rfl, h4⟩
        · have e : (l.take j).drop i = l.getD i default :: (l.take j).drop (i + 1) := by
            rw [List.drop_take, List.drop_take, drop_lt hi, show j - i = (j - (i + 1)) + 1 by omega, List.take_succ_cons]
          refine .inl ⟨j, rfl, by omega, h5, h6, ?_, ?_⟩
          · rw [drop_lt hi, h7, e]; rfl
          · rw [e]
            intro x hx'
            rcases List.mem_cons.1 hx' with rfl | hx'
            · exact hx
            · exact h8 x hx'
        · refine .inr ⟨rfl, ?_⟩
          rw [drop_lt hi]
          intro x hx'
          rcases List.mem_cons.1 hx' with rfl | hx'
          · exact hx
          · exact h4 x hx'
    · simp only [Int.ofNat_eq_natCast, lt_nat, le0_nat, decide_true, decide_false, Bool.and_self, Bool.true_and, Bool.and_true, cond_true, cond_false, Int.toNat_natCast, eqR, eqR', Bool.not_true, Bool.not_false, bnd, hi]
      exact ⟨_, rfl, .inr ⟨rfl, by rw [drop_ge hi]; simp⟩⟩
theorem slices_IndexFunc_eq (l b : List RowID) (hl : l.length ≤ 1000000) (hb : b.length ≤ 1000000) :
    (∃ j : Nat, slices_IndexFunc_Lapi_RowID_api_RowID l b = (true, (j : Int)) ∧ j < l.length ∧ l.getD j default ∈ b ∧ ∀ x ∈ l.take j, x ∉ b) ∨ (slices_IndexFunc_Lapi_RowID_api_RowID l b = (true, -1) ∧ ∀ x ∈ l, x ∉ b) := by
  unfold slices_IndexFunc_Lapi_RowID_api_RowID
  obtain ⟨r, h1, h2⟩ := IndexFunc_loop l b hl hb (l.length + b.length + (Int.ofNat l.length).toNat + Int.toNat 0 + 1) 0 (by simp; omega) (by omega)
  rw [show (0 : Int) = ((0 : Nat) : Int) from rfl] at *
  rw [show Int.ofNat l.length = (l.length : Int) from rfl] at *
  rw [h1]
  simp only [List.drop_zero] at h2
  rcases h2 with ⟨j, rfl, _, h3, h4, _, h5⟩ | ⟨rfl, h3⟩
  · exact .inl ⟨j, rfl, h3, h4, h5⟩
  · exact .inr ⟨rfl, h3⟩

theorem DeleteFunc_loop (b : List RowID) (hb : b.length ≤ 1000000) : ∀ (n i j : Nat) (s : List RowID), s.length ≤ 1000000 → s.length < j + n → j ≤ s.length → i ≤ j →
    ∃ (i' : Nat) (s' : List RowID), slices_DeleteFunc_Lapi_RowID_api_RowID_L5 n b i j s = (true, ((i' : Int), s')) ∧ s'.length = s.length ∧ i' ≤ s.length ∧ s'.take i' = s.take i ++ (s.drop j).filter fun x => !decide (x ∈ b)
  | 0, i, j, s, hs, h, h2, h3 => by omega
  | n + 1, i, j, s, hs, h, h2, h3 => by
    rw [slices_DeleteFunc_Lapi_RowID_api_RowID_L5]
    by_cases hj : j < s.length
    · have hi : i < s.length := by omega
      simp only [Int.ofNat_eq_natCast, lt_nat, le0_nat, decide_true, decide_false, Bool.and_self, Bool.true_and, Bool.and_true, cond_true, cond_false, Int.toNat_natCast, eqR, eqR', Bool.not_true, Bool.not_false, bnd, hj, hi, rowset_Minus_c1_eq _ b hb]
      rw [drop_lt hj]
      by_cases hx : s.getD j default ∈ b
      · simp only [Int.ofNat_eq_natCast, lt_nat, le0_nat, decide_true, decide_false, Bool.and_self, Bool.true_and, Bool.and_true, cond_true, cond_false, Int.toNat_natCast, eqR, eqR', Bool.not_true, Bool.not_false, bnd, hx, List.filter_cons, Bool.false_eq_true, if_false]
        rw [wrap_succ (by omega)]
        exact DeleteFunc_loop b hb n i (j + 1) s hs (by omega) (by omega) (by omega)
      · simp only [Int.ofNat_eq_natCast, lt_nat, le0_nat, decide_true, decide_false, Bool.and_self, Bool.true_and, Bool.and_true, cond_true, cond_false, Int.toNat_natCast, eqR, eqR', Bool.not_true, Bool.not_false, bnd, hx, List.filter_cons, if_true]
        rw [wrap_succ (by omega), wrap_succ (by omega)]
        obtain ⟨i', s', h4, h5, h6, h7⟩ := DeleteFunc_loop b hb n (i + 1) (j + 1) (s.set i (s.getD j default)) (by simpa using hs) (by simp; omega) (by simp; omega) (by omega)
        refine ⟨i', s', h4, by simpa using h5, by simpa using h6, ?_⟩
        rw [h7, take_set_succ _ hi, drop_set_lt _ (by omega)]
        simp
    · simp only [Int.ofNat_eq_natCast, lt_nat, le0_nat, decide_true, decide_false, Bool.and_self, Bool.true_and, Bool.and_true, cond_true, cond_false, Int.toNat_natCast, eqR, eqR', Bool.not_true, Bool.not_false, bnd, hj]
      exact ⟨i, s, rfl, rfl, by omega, by rw [drop_ge hj]; simp⟩
theorem slices_DeleteFunc_eq (s b : List RowID) (hs : s.length ≤ 1000000) (hb : b.length ≤ 1000000) : slices_DeleteFunc_Lapi_RowID_api_RowID s b = (true, s.filter fun x => !decide (x ∈ b)) := by
  unfold slices_DeleteFunc_Lapi_RowID_api_RowID
  rcases slices_IndexFunc_eq s b hs hb with ⟨j, h1, h2, h3, h4⟩ | ⟨h1, h2⟩
  · rw [h1]
    have e : ((j : Int) == -1) = false := by simp
    simp only [bnd, cond_true, e, cond_false]
    rw [wrap_succ (by omega)]
    obtain ⟨i', s', h5, h6, h7, h8⟩ := DeleteFunc_loop b hb (b.length + (j : Int).toNat + ((j + 1 : Nat) : Int).toNat + s.length + 1) j (j + 1) s hs (by simp; omega) (by omega) (by omega)
    rw [h5]
    have h7' : i' ≤ s'.length := by omega
    have e2 : i' + (s'.length - i') ≤ s'.length := by omega
    have e3 : i' ≤ (List.take i' s' ++ List.replicate (s'.length - i') (RowID.mk 0 0) ++ List.drop (i' + (s'.length - i')) s').length := by simp; omega
    simp only [Int.ofNat_eq_natCast, Int.toNat_natCast, le0_nat, le_nat, h7', e2, e3, Nat.le_refl, decide_true, Bool.and_self, cond_true, Int.le_refl, Int.toNat_zero, Nat.sub_zero]
    rw [clear_take _ h7', h8]
    congr 1
    conv => rhs; rw [← List.take_append_drop j s, List.filter_append, drop_lt h2, List.filter_cons]
    simp only [h3, decide_true, Bool.not_true, Bool.false_eq_true, if_false]
    congr 1
    refine (List.filter_eq_self.2 fun x hx => ?_).symm
    simp [h4 x hx]
  · rw [h1]
    simp only [bnd, cond_true]
    have : s.filter (fun x => !decide (x ∈ b)) = s := List.filter_eq_self.2 fun x hx => by simp [h2 x hx]
    rw [this]; rfl

/-! ### compaction -/
abbrev pR (x y : RowID) : Bool := decide (x = y)
theorem Compact_in : ∀ (n k k0 m k2 : Nat) (s : List RowID) (x : RowID) (rest : List RowID), s.length ≤ 1000000 → k0 + m = s.length → 1 ≤ k2 → k2 ≤ m → k ≤ k0 + k2 - 1 → s.drop (k0 + k2 - 1) = x :: rest → m < k2 + n →
    ∃ (k' : Nat) (s' : List RowID), slices_Compact_Lapi_RowID_api_RowID_L9 n k k0 m k2 s = (true, ((k' : Int), s')) ∧ s'.length = s.length ∧ k' ≤ s.length ∧ s'.take k' = s.take k ++ adjFrom pR x rest
  | 0, k, k0, m, k2, s, x, rest, hs, hm, h1, h2, h3, hd, h4 => by omega
  | n + 1, k, k0, m, k2, s, x, rest, hs, hm, h1, h2, h3, hd, h4 => by
    rw [slices_Compact_Lapi_RowID_api_RowID_L9]
    by_cases hk : k2 < m
    · have hk1 : k2 - 1 < m := by omega
      have hkl : k < s.length := by omega
      rw [wrap_pred (by omega) (by omega)]
      simp only [Int.ofNat_eq_natCast, lt_nat, le0_nat, decide_true, decide_false, Bool.and_self, Bool.true_and, Bool.and_true, cond_true, cond_false, Int.toNat_natCast, eqR, eqR', Bool.not_true, Bool.not_false, bnd, hk, hk1, hkl]
      have e1 : k0 + k2 - 1 < s.length := by omega
      have e2 : k0 + k2 < s.length := by omega
      have e3 : k0 + (k2 - 1) = k0 + k2 - 1 := by omega
      rw [drop_lt e1, show k0 + k2 - 1 + 1 = k0 + k2 by omega] at hd
      obtain ⟨hx, hr⟩ := List.cons.inj hd
      rw [e3, hx, ← hr, drop_lt e2]
      generalize hy : s.getD (k0 + k2) default = y
      by_cases hxy : y = x
      · subst hxy
        simp only [decide_true, Bool.not_true, cond_false, adjFrom, pR, cond_true]
        rw [wrap_succ (by omega)]
        exact Compact_in n k k0 m (k2 + 1) s y _ hs hm (by omega) (by omega) (by omega) (by rw [show k0 + (k2 + 1) - 1 = k0 + k2 by omega, drop_lt e2, hy]) (by omega)
      · simp only [hxy, decide_false, Bool.not_false, cond_true, adjFrom, pR, cond_false]
        rw [wrap_succ (by omega), wrap_succ (by omega)]
        obtain ⟨k', s', h5, h6, h7, h8⟩ := Compact_in n (k + 1) k0 m (k2 + 1) (s.set k y) y (s.drop (k0 + k2 + 1)) (by simpa using hs) (by simpa using hm) (by omega) (by omega) (by omega)
          (by rw [show k0 + (k2 + 1) - 1 = k0 + k2 by omega, drop_set_lt _ (by omega), drop_lt e2, hy]) (by omega)
        refine ⟨k', s', h5, by simpa using h6, by simpa using h7, ?_⟩
        rw [h8, take_set_succ _ hkl]; simp
    · simp only [Int.ofNat_eq_natCast, lt_nat, le0_nat, decide_true, decide_false, Bool.and_self, Bool.true_and, Bool.and_true, cond_true, cond_false, Int.toNat_natCast, eqR, eqR', Bool.not_true, Bool.not_false, bnd, hk]
      refine ⟨k, s, rfl, rfl, by omega, ?_⟩
      have : rest = [] := by
        have h5 := congrArg List.length hd
        simp at h5
        exact List.eq_nil_of_length_eq_zero (by omega)
      rw [this]; simp [adjFrom]
theorem Compact_out : ∀ (n k : Nat) (s : List RowID), s.length ≤ 1000000 → 1 ≤ k → k ≤ s.length → s.length < k + n → adj pR s = s.take k ++ adjFrom pR (s.getD (k - 1) default) (s.drop k) →
    ∃ r, slices_Compact_Lapi_RowID_api_RowID_L4 n k s = (true, r) ∧ ((∃ (m : Nat) (s' : List RowID), r = .inl (m, s') ∧ s'.take m = adj pR s) ∨ (r = .inr s ∧ adj pR s = s))
  | 0, k, s, hs, h1, h2, h3, ha => by omega
  | n + 1, k, s, hs, h1, h2, h3, ha => by
    rw [slices_Compact_Lapi_RowID_api_RowID_L4]
    by_cases hk : k < s.length
    · have hk1 : k - 1 < s.length := by omega
      have hkl : k ≤ s.length := by omega
      rw [wrap_pred (by omega) (by omega)]
      simp only [Int.ofNat_eq_natCast, lt_nat, le_nat, le0_nat, hk, hk1, hkl, Nat.le_refl, decide_true, Bool.and_self, cond_true, Int.toNat_natCast, eqR]
      rw [drop_lt hk] at ha
      by_cases hxy : s.getD k default = s.getD (k - 1) default
      · simp only [hxy, decide_true, cond_true]
        obtain ⟨k', s', h5, h6, h7, h8⟩ := Compact_in (k + k + (s.length - k) + Int.toNat 1 + s.length + 1) k k (s.length - k) 1 s (s.getD k default) (s.drop (k + 1)) hs (by omega) (by omega) (by omega) (by omega)
          (by rw [show k + 1 - 1 = k by omega, drop_lt hk]) (by omega)
        rw [show (1 : Int) = ((1 : Nat) : Int) from rfl] at *
        rw [h5]
        have h7' : k' ≤ s'.length := by omega
        have e2 : k' + (s'.length - k') ≤ s'.length := by omega
        have e3 : k' ≤ (List.take k' s' ++ List.replicate (s'.length - k') (RowID.mk 0 0) ++ List.drop (k' + (s'.length - k')) s').length := by simp; omega
        simp only [bnd, Int.ofNat_eq_natCast, Int.toNat_natCast, le0_nat, le_nat, h7', e2, e3, Nat.le_refl, decide_true, Bool.and_self, cond_true, Int.le_refl, Int.toNat_zero, Nat.sub_zero]
        refine ⟨_, rfl, .inl ⟨_, _, rfl, ?_⟩⟩
        rw [clear_take _ h7', h8, ha]
        simp only [adjFrom, pR, hxy, decide_true, cond_true]
      · simp only [hxy, decide_false, cond_false]
        rw [wrap_succ (by omega)]
        refine Compact_out n (k + 1) s hs (by omega) (by omega) (by omega) ?_
        rw [ha, take_succ_getD hk]
        simp only [adjFrom, pR, hxy, decide_false, cond_false, Nat.add_sub_cancel]
        simp
    · simp only [Int.ofNat_eq_natCast, lt_nat, le0_nat, decide_true, decide_false, Bool.and_self, Bool.true_and, Bool.and_true, cond_true, cond_false, Int.toNat_natCast, eqR, eqR', Bool.not_true, Bool.not_false, bnd, hk]
      refine ⟨_, rfl, .inr ⟨rfl, ?_⟩⟩
      rw [ha, drop_ge hk, List.take_of_length_le (by omega)]
      simp [adjFrom]
theorem slices_Compact_eq (s : List RowID) (hs : s.length ≤ 1000000) : slices_Compact_Lapi_RowID_api_RowID s = (true, adj pR s) := by
  unfold slices_Compact_Lapi_RowID_api_RowID
  have h2 : decide (Int.ofNat s.length < 2) = decide (s.length < 2) := by simp; omega
  rw [h2]
  by_cases h : s.length < 2
  · simp only [h, decide_true, cond_true]
    match s, h with
    | [], _ => rfl
    | [x], _ => rfl
    | _ :: _ :: _, h => simp at h; omega
  · simp only [h, decide_false, cond_false]
    have ha : adj pR s = s.take 1 ++ adjFrom pR (s.getD (1 - 1) default) (s.drop 1) := by
      cases s with
      | nil => simp at h
      | cons x r => simp [adj]
    obtain ⟨r, h3, h4⟩ := Compact_out (Int.toNat 1 + s.length + 1) 1 s hs (by omega) (by omega) (by simp; omega) ha
    rw [show (1 : Int) = ((1 : Nat) : Int) from rfl] at *
    rw [h3]
    rcases h4 with ⟨m, s', rfl, h4⟩ | ⟨rfl, h4⟩
    · simp only [bnd, cond_true, isL, getL]; rw [h4]
    · simp only [bnd, cond_true, isL, getR, cond_false]; rw [h4]

abbrev pS (x y : List RowID) : Bool := decide (x = y)
theorem CompactFunc_in : ∀ (n k k0 m k2 : Nat) (s : List (List RowID)) (x : List RowID) (rest : List (List RowID)), (∀ z ∈ s, z.length ≤ 1000000) → s.length ≤ 1000000 → k0 + m = s.length → 1 ≤ k2 → k2 ≤ m → k ≤ k0 + k2 - 1 → s.drop (k0 + k2 - 1) = x :: rest → m < k2 + n →
    ∃ (k' : Nat) (s' : List (List RowID)), slices_CompactFunc_LLapi_RowID_Lapi_RowID_L9 n k k0 m k2 s = (true, ((k' : Int), s')) ∧ s'.length = s.length ∧ k' ≤ s.length ∧ s'.take k' = s.take k ++ adjFrom pS x rest
  | 0, k, k0, m, k2, s, x, rest, hz, hs, hm, h1, h2, h3, hd, h4 => by omega
  | n + 1, k, k0, m, k2, s, x, rest, hz, hs, hm, h1, h2, h3, hd, h4 => by
    rw [slices_CompactFunc_LLapi_RowID_Lapi_RowID_L9]
    by_cases hk : k2 < m
    · have hk1 : k2 - 1 < m := by omega
      have hkl : k < s.length := by omega
      have e1 : k0 + k2 - 1 < s.length := by omega
      have e2 : k0 + k2 < s.length := by omega
      have e3 : k0 + (k2 - 1) = k0 + k2 - 1 := by omega
      rw [wrap_pred (by omega) (by omega)]
      simp only [Int.ofNat_eq_natCast, lt_nat, le0_nat, decide_true, decide_false, Bool.and_self, Bool.true_and, Bool.and_true, cond_true, cond_false, Int.toNat_natCast, eqR, eqR', Bool.not_true, Bool.not_false, bnd, hk, hk1, hkl, rowset_Family_c1_eq _ _ (hz _ (getD_mem e2))]
      rw [drop_lt e1, show k0 + k2 - 1 + 1 = k0 + k2 by omega] at hd
      obtain ⟨hx, hr⟩ := List.cons.inj hd
      have hym := hz _ (getD_mem e2)
      rw [e3, hx, ← hr, drop_lt e2]
      generalize hy : s.getD (k0 + k2) default = y at hym
      by_cases hxy : y = x
      · subst hxy
        simp only [decide_true, Bool.not_true, cond_false, adjFrom, pS, cond_true]
        rw [wrap_succ (by omega)]
        exact CompactFunc_in n k k0 m (k2 + 1) s y _ hz hs hm (by omega) (by omega) (by omega) (by rw [show k0 + (k2 + 1) - 1 = k0 + k2 by omega, drop_lt e2, hy]) (by omega)
      · simp only [hxy, decide_false, Bool.not_false, cond_true, adjFrom, pS, cond_false]
        rw [wrap_succ (by omega), wrap_succ (by omega)]
        obtain ⟨k', s', h5, h6, h7, h8⟩ := CompactFunc_in n (k + 1) k0 m (k2 + 1) (s.set k y) y (s.drop (k0 + k2 + 1))
          (fun z hz' => by
            rcases List.mem_or_eq_of_mem_set hz' with h | h
            · exact hz z h
            · subst h; exact hym) (by simpa using hs) (by simpa using hm) (by omega) (by omega) (by omega)
          (by rw [show k0 + (k2 + 1) - 1 = k0 + k2 by omega, drop_set_lt _ (by omega), drop_lt e2, hy]) (by omega)
        refine ⟨k', s', h5, by simpa using h6, by simpa using h7, ?_⟩
        rw [h8, take_set_succ _ hkl]; simp
    · simp only [Int.ofNat_eq_natCast, lt_nat, le0_nat, decide_true, decide_false, Bool.and_self, Bool.true_and, Bool.and_true, cond_true, cond_false, Int.toNat_natCast, eqR, eqR', Bool.not_true, Bool.not_false, bnd, hk]
      refine ⟨k, s, rfl, rfl, by omega, ?_⟩
      have : rest = [] := by
        have h5 := congrArg List.length hd
        simp at h5
        exact List.eq_nil_of_length_eq_zero (by omega)
      rw [this]; simp [adjFrom]
theorem CompactFunc_out : ∀ (n k : Nat) (s : List (List RowID)), (∀ z ∈ s, z.length ≤ 1000000) → s.length ≤ 1000000 → 1 ≤ k → k ≤ s.length → s.length < k + n → adj pS s = s.take k ++ adjFrom pS (s.getD (k - 1) default) (s.drop k) →
    ∃ r, slices_CompactFunc_LLapi_RowID_Lapi_RowID_L4 n k s = (true, r) ∧ ((∃ (m : Nat) (s' : List (List RowID)), r = .inl (m, s') ∧ s'.take m = adj pS s) ∨ (r = .inr s ∧ adj pS s = s))
  | 0, k, s, hz, hs, h1, h2, h3, ha => by omega
  | n + 1, k, s, hz, hs, h1, h2, h3, ha => by
    rw [slices_CompactFunc_LLapi_RowID_Lapi_RowID_L4]
    by_cases hk : k < s.length
    · have hk1 : k - 1 < s.length := by omega
      have hkl : k ≤ s.length := by omega
      rw [wrap_pred (by omega) (by omega)]
      simp only [Int.ofNat_eq_natCast, lt_nat, le_nat, le0_nat, hk, hk1, hkl, Nat.le_refl, decide_true, Bool.and_self, cond_true, Int.toNat_natCast, rowset_Family_c1_eq _ _ (hz _ (getD_mem hk))]
      rw [drop_lt hk] at ha
      by_cases hxy : s.getD k default = s.getD (k - 1) default
      · simp only [hxy, decide_true, cond_true, bnd]
        obtain ⟨k', s', h5, h6, h7, h8⟩ := CompactFunc_in (k + k + (s.length - k) + Int.toNat 1 + s.length + 1) k k (s.length - k) 1 s (s.getD k default) (s.drop (k + 1)) hz hs (by omega) (by omega) (by omega) (by omega)
          (by rw [show k + 1 - 1 = k by omega, drop_lt hk]) (by omega)
        rw [show (1 : Int) = ((1 : Nat) : Int) from rfl] at *
        rw [h5]
        have h7' : k' ≤ s'.length := by omega
        have e2 : k' + (s'.length - k') ≤ s'.length := by omega
        have e3 : k' ≤ (List.take k' s' ++ List.replicate (s'.length - k') [] ++ List.drop (k' + (s'.length - k')) s').length := by simp; omega
        simp only [bnd, Int.ofNat_eq_natCast, Int.toNat_natCast, le0_nat, le_nat, h7', e2, e3, Nat.le_refl, decide_true, Bool.and_self, cond_true, Int.le_refl, Int.toNat_zero, Nat.sub_zero]
        refine ⟨_, rfl, .inl ⟨_, _, rfl, ?_⟩⟩
        rw [clear_take _ h7', h8, ha]
        simp only [adjFrom, pS, hxy, decide_true, cond_true]
      · simp only [hxy, decide_false, cond_false, bnd, cond_true]
        rw [wrap_succ (by omega)]
        refine CompactFunc_out n (k + 1) s hz hs (by omega) (by omega) (by omega) ?_
        rw [ha, take_succ_getD hk]
        simp only [adjFrom, pS, hxy, decide_false, cond_false, Nat.add_sub_cancel]
        simp
    · simp only [Int.ofNat_eq_natCast, lt_nat, le0_nat, decide_true, decide_false, Bool.and_self, Bool.true_and, Bool.and_true, cond_true, cond_false, Int.toNat_natCast, eqR, eqR', Bool.not_true, Bool.not_false, bnd, hk]
      refine ⟨_, rfl, .inr ⟨rfl, ?_⟩⟩
      rw [ha, drop_ge hk, List.take_of_length_le (by omega)]
      simp [adjFrom]
theorem slices_CompactFunc_eq (s : List (List RowID)) (hz : ∀ z ∈ s, z.length ≤ 1000000) (hs : s.length ≤ 1000000) : slices_CompactFunc_LLapi_RowID_Lapi_RowID s = (true, adj pS s) := by
  unfold slices_CompactFunc_LLapi_RowID_Lapi_RowID
  have h2 : decide (Int.ofNat s.length < 2) = decide (s.length < 2) := by simp; omega
  rw [h2]
  by_cases h : s.length < 2
  · simp only [h, decide_true, cond_true]
    match s, h with
    | [], _ => rfl
    | [x], _ => rfl
    | _ :: _ :: _, h => simp at h; omega
  · simp only [h, decide_false, cond_false]
    have ha : adj pS s = s.take 1 ++ adjFrom pS (s.getD (1 - 1) default) (s.drop 1) := by
      cases s with
      | nil => simp at h
      | cons x r => simp [adj]
    obtain ⟨r, h3, h4⟩ := CompactFunc_out (Int.toNat 1 + s.length + 1) 1 s hz hs (by omega) (by omega) (by simp; omega) ha
    rw [show (1 : Int) = ((1 : Nat) : Int) from rfl] at *
    rw [h3]
    rcases h4 with ⟨m, s', rfl, h4⟩ | ⟨rfl, h4⟩
    · simp only [bnd, cond_true, isL, getL]; rw [h4]
    · simp only [bnd, cond_true, isL, getR, cond_false]; rw [h4]

/-! ### sets -/
theorem slices_SortFunc_row (l : List RowID) (hl : l.length ≤ 1000000) : ∃ ok : SortOK (fun a b => rowset_Compare a b) l, slices_SortFunc_Lapi_RowID_api_RowID l = (true, isort (fun a b => rowset_Compare a b) l) := by
  have ok : SortOK (fun a b => rowset_Compare a b) l := sortOK_of cR_ord (by omega) fun x _ y _ => rowset_Compare_eq x y
  refine ⟨ok, ?_⟩
  unfold slices_SortFunc_Lapi_RowID_api_RowID sortFunc
  rw [decide_eq_true ok]
theorem rowset_Normalize_eq (l : List RowID) (hl : l.length ≤ 1000000) : rowset_Normalize l = (true, nR l) := by
  unfold rowset_Normalize slices_Clone_Lapi_RowID_api_RowID
  have e1 : l.length * 16 ≤ reach := reach_of (by omega) (by omega)
  obtain ⟨ok, h⟩ := slices_SortFunc_row l hl
  simp only [e1, decide_true, bnd, cond_true, h]
  rw [slices_Compact_eq _ (by rw [(isort_perm _ l).length_eq]; exact hl)]
  simp only [cond_true]
  rw [adj_isort cR_ord (fun x y => by simp) ok fun x _ y _ => by rw [rowset_Compare_eq]]
theorem rowset_Union_eq (a b : List RowID) (h : a.length + b.length ≤ 1000000) : rowset_Union a b = (true, nR (a ++ b)) := by
  unfold rowset_Union slices_Clone_Lapi_RowID_api_RowID
  have e1 : a.length * 16 ≤ reach := reach_of (by omega) (by omega)
  have e2 : (a.length + b.length) * 16 ≤ reach := reach_of (by omega) (by omega)
  simp only [e1, e2, decide_true, bnd, cond_true]
  rw [rowset_Normalize_eq (a ++ b) (by simp; omega)]; rfl
theorem rowset_Minus_eq (a b : List RowID) (ha : a.length ≤ 1000000) (hb : b.length ≤ 1000000) : rowset_Minus a b = (true, (nR a).filter fun x => !decide (x ∈ b)) := by
  unfold rowset_Minus
  have h1 : (nR a).length ≤ a.length := snorm_length cR_ord a
  rw [rowset_Normalize_eq a ha]
  simp only [bnd, cond_true]
  rw [slices_DeleteFunc_eq _ _ (by omega) hb]; rfl
theorem rowset_Subset_eq (a b : List RowID) (ha : a.length ≤ 1000000) (hb : b.length ≤ 1000000) : rowset_Subset a b = (true, a.all fun x => decide (x ∈ b)) := by
  unfold rowset_Subset
  rw [rowset_Minus_eq a b ha hb]
  simp only [bnd, cond_true]
  congr 1
  have : (Int.ofNat ((nR a).filter fun x => !decide (x ∈ b)).length == (0 : Int)) = decide (((nR a).filter fun x => !decide (x ∈ b)).length = 0) := beq_nat _ 0
  rw [this, Bool.eq_iff_iff, decide_eq_true_eq, List.length_eq_zero_iff, List.filter_eq_nil_iff, List.all_eq_true]
  constructor
  · intro h x hx
    have := h x ((snorm_mem cR_ord a x).2 hx)
    simpa using this
  · intro h x hx
    have := h x ((snorm_mem cR_ord a x).1 hx)
    simpa using this
end Go.Proofs.YteopikhooiallaaGreatDoor
/- Functions of the program as plain functions, with their contracts. Printed by program. -/
set_option autoImplicit false
set_option linter.unusedVariables false
set_option linter.unusedSimpArgs false
namespace Go.Proofs.YteopikhooiallaaGreatDoor
open Go Go.Ab
/-! ### lineage/lineagelaw02.RowsetRoundTrip -/
noncomputable def law02_RowsetRoundTrip_cx : Cx ty := { base0 with nt := 62, spec := fun g => List.lookup g [(6, law02_awake_spec), (15, rowset_Parse_spec), (17, rowset_Valid_spec), (21, rowset_Format_spec)], io := fun g => (List.lookup g []).getD [], head := fun i => (List.lookup i []).getD [], out := outOf [], loops := fun i => List.lookup i [] }
noncomputable def law02_RowsetRoundTrip (a : RowID) (s : ByteArray) : Bool × Bool := bif decide (Int.ofNat s.size > (100 : Int)) then (true, true) else bnd (rowset_Format a) (fun r13 => bnd (rowset_Parse r13) (fun r12 => bnd (rowset_Valid a) (fun r11 => bif !r11 == (r12.snd == (0 : Int)) then (true, false) else bnd (rowset_Valid a) (fun r10 => bif r10 then bif !(r12.fst.Table == a.Table && (r12.fst.Seq == a.Seq && true)) then (true, false) else bnd (rowset_Parse s) (fun r4 => bif r4.snd != (0 : Int) then bif r4.fst.Table == (0 : Int) && (r4.fst.Seq == (0 : Int) && true) then (true, true) else bif r4.snd == (0 : Int) then bnd (rowset_Valid r4.fst) (fun r1 => bif r1 then bnd (rowset_Format r4.fst) (fun r0 => (true, r0.toList == s.toList)) (false, default) else (true, false)) (false, default) else (true, false) else bif r4.snd == (0 : Int) then bnd (rowset_Valid r4.fst) (fun r3 => bif r3 then bnd (rowset_Format r4.fst) (fun r2 => (true, r2.toList == s.toList)) (false, default) else (true, false)) (false, default) else (true, false)) (false, default) else bnd (rowset_Parse s) (fun r9 => bif r9.snd != (0 : Int) then bif r9.fst.Table == (0 : Int) && (r9.fst.Seq == (0 : Int) && true) then (true, true) else bif r9.snd == (0 : Int) then bnd (rowset_Valid r9.fst) (fun r6 => bif r6 then bnd (rowset_Format r9.fst) (fun r5 => (true, r5.toList == s.toList)) (false, default) else (true, false)) (false, default) else (true, false) else bif r9.snd == (0 : Int) then bnd (rowset_Valid r9.fst) (fun r8 => bif r8 then bnd (rowset_Format r9.fst) (fun r7 => (true, r7.toList == s.toList)) (false, default) else (true, false)) (false, default) else (true, false)) (false, default)) (false, default)) (false, default)) (false, default)) (false, default)
noncomputable def law02_RowsetRoundTrip_res (r : Bool) : ARes ty := ⟨[.pure (.lit (.bool r))], []⟩
theorem law02_RowsetRoundTrip_run (a : RowID) (s : ByteArray) : runFn law02_RowsetRoundTrip_cx Tryz.f5 (body Tryz.f5) ⟨[.pure], []⟩ [.pure (.agg (base.enc 30 a)), .pure (.lit (.string s))] = out (fun r => some (law02_RowsetRoundTrip_res r)) (law02_RowsetRoundTrip a s) := by
  have h : runFn law02_RowsetRoundTrip_cx Tryz.f5 (body Tryz.f5) ⟨[.pure], []⟩ [.pure (.agg (base.enc 30 a)), .pure (.lit (.string s))] = bif decide (Int.ofNat s.size > (100 : Int)) then some ⟨[.pure (.lit (.bool true))], []⟩ else obnd (rowset_Format a) (fun r27 => obnd (rowset_Parse r27) (fun r26 => obnd (rowset_Valid a) (fun r25 => bif !r25 == (r26.snd == (0 : Int)) then some ⟨[.pure (.lit (.bool false))], []⟩ else obnd (rowset_Valid a) (fun r24 => bif r24 then bif !(r26.fst.Table == a.Table && (r26.fst.Seq == a.Seq && true)) then some ⟨[.pure (.lit (.bool false))], []⟩ else obnd (rowset_Parse s) (fun r18 => bif r18.snd != (0 : Int) then bif r18.fst.Table == (0 : Int) && (r18.fst.Seq == (0 : Int) && true) then some ⟨[.pure (.lit (.bool true))], []⟩ else bif r18.snd == (0 : Int) then obnd (rowset_Valid r18.fst) (fun r15 => bif r15 then obnd (rowset_Format r18.fst) (fun r14 => some ⟨[.pure (.lit (.bool (r14.toList == s.toList)))], []⟩) else some ⟨[.pure (.lit (.bool false))], []⟩) else some ⟨[.pure (.lit (.bool false))], []⟩ else bif r18.snd == (0 : Int) then obnd (rowset_Valid r18.fst) (fun r17 => bif r17 then obnd (rowset_Format r18.fst) (fun r16 => some ⟨[.pure (.lit (.bool (r16.toList == s.toList)))], []⟩) else some ⟨[.pure (.lit (.bool false))], []⟩) else some ⟨[.pure (.lit (.bool false))], []⟩) else obnd (rowset_Parse s) (fun r23 => bif r23.snd != (0 : Int) then bif r23.fst.Table == (0 : Int) && (r23.fst.Seq == (0 : Int) && true) then some ⟨[.pure (.lit (.bool true))], []⟩ else bif r23.snd == (0 : Int) then obnd (rowset_Valid r23.fst) (fun r20 => bif r20 then obnd (rowset_Format r23.fst) (fun r19 => some ⟨[.pure (.lit (.bool (r19.toList == s.toList)))], []⟩) else some ⟨[.pure (.lit (.bool false))], []⟩) else some ⟨[.pure (.lit (.bool false))], []⟩ else bif r23.snd == (0 : Int) then obnd (rowset_Valid r23.fst) (fun r22 => bif r22 then obnd (rowset_Format r23.fst) (fun r21 => some ⟨[.pure (.lit (.bool (r21.toList == s.toList)))], []⟩) else some ⟨[.pure (.lit (.bool false))], []⟩) else some ⟨[.pure (.lit (.bool false))], []⟩))))) := by kernel_rfl
  rw [law02_RowsetRoundTrip]
  exact h.trans (out_ite (rfl) (out_ite (out_ite (out_ite (out_ite (rfl) (out_ite (out_ite (out_ite (rfl) (out_ite (out_ite (out_ite (rfl) (out_ite (out_ite (out_ite (out_ite (rfl) (rfl)) (rfl)) (rfl)) (rfl))) (out_ite (out_ite (out_ite (out_ite (rfl) (rfl)) (rfl)) (rfl)) (rfl))) (rfl))) (out_ite (out_ite (out_ite (rfl) (out_ite (out_ite (out_ite (out_ite (rfl) (rfl)) (rfl)) (rfl)) (rfl))) (out_ite (out_ite (out_ite (out_ite (rfl) (rfl)) (rfl)) (rfl)) (rfl))) (rfl))) (rfl))) (rfl)) (rfl)) (rfl)))
noncomputable def law02_RowsetRoundTrip_A : AL base0 (RowID × ByteArray × Unit) := aCons (aPure (vAgg 30)) (aCons (aPure vStr) aNil)
noncomputable def law02_RowsetRoundTrip_spec : Ab.Spec ty := mkSpec law02_RowsetRoundTrip_A fun x => ((law02_RowsetRoundTrip x.1 x.2.1).1, law02_RowsetRoundTrip_res (law02_RowsetRoundTrip x.1 x.2.1).2)
theorem law02_RowsetRoundTrip_sound : Sound Tryz.prog base0 5 law02_RowsetRoundTrip_spec :=
  sound_of_run (cx' := law02_RowsetRoundTrip_cx) draws base0_ok ⟨⟨rfl, rfl, rfl, rfl, rfl, rfl⟩, rfl⟩ (spec_of [(6, law02_awake_spec), (15, rowset_Parse_spec), (17, rowset_Valid_spec), (21, rowset_Format_spec)] ⟨(law02_awake_sound), (rowset_Parse_sound), (rowset_Valid_sound.nodr), (rowset_Format_sound.nodr), trivial⟩) Tryz.call5 Tryz.func5 (c := body Tryz.f5) (by kernel_rfl) (loopsOK_of (l := []) (by kernel_rfl) trivial) (sg := ⟨[.pure], []⟩) (A := law02_RowsetRoundTrip_A) (res := law02_RowsetRoundTrip_res) (F := fun x => law02_RowsetRoundTrip x.1 x.2.1) (fun x => law02_RowsetRoundTrip_run x.1 x.2.1) (fun _ => by kernel_rfl)
end Go.Proofs.YteopikhooiallaaGreatDoor
/- RowsetText, RowsetRoundTrip: the texts of row identifiers, written; the laws. -/
set_option autoImplicit false
set_option linter.unusedVariables false
set_option linter.unusedSimpArgs false
namespace Go.Proofs.YteopikhooiallaaGreatDoor
open Go Go.Ab Go.Lib

def vR (a : RowID) : Bool := decide (1 ≤ a.Table) && decide (1 ≤ a.Seq)
def inR (a : RowID) : Prop := (-9223372036854775808 ≤ a.Table ∧ a.Table ≤ 9223372036854775807) ∧ (-9223372036854775808 ≤ a.Seq ∧ a.Seq ≤ 9223372036854775807)
theorem vR_iff {a : RowID} : vR a = true ↔ 1 ≤ a.Table ∧ 1 ≤ a.Seq := by simp [vR]
theorem rowset_Valid_eq (a : RowID) : rowset_Valid a = (true, vR a) := by
  unfold rowset_Valid vR
  by_cases h1 : 1 ≤ a.Table
  · rw [decide_eq_true (show a.Table ≥ 1 from h1)]; rfl
  · rw [decide_eq_false (show ¬ a.Table ≥ 1 from h1)]; rfl
theorem ref02_Valid_eq (a : RowID) : ref02_Valid a = (true, vR a) := rowset_Valid_eq a

/-- The text of a row identifier. -/
def fmtL (a : RowID) : List UInt8 := bif vR a then 116 :: (itoaL a.Table ++ 46 :: itoaL a.Seq) else []
theorem decF_len : ∀ f u : Nat, (decF f u).length ≤ f
  | 0, u => Nat.le_refl _
  | f + 1, u => by
    unfold decF
    cases Nat.blt u 10
    · simp only [cond_false, List.length_append, List.length_singleton]
      have := decF_len f (u / 10); omega
    · simp
theorem itoaL_len (n : Int) : (itoaL n).length ≤ 21 := by
  unfold itoaL
  cases decide (n < 0)
  · exact Nat.le_trans (decF_len 20 _) (by omega)
  · simp only [cond_true, List.length_cons]
    have := decF_len 20 n.natAbs; omega
theorem fmtL_len (a : RowID) : (fmtL a).length ≤ 44 := by
  unfold fmtL
  cases vR a
  · simp
  · have h1 := itoaL_len a.Table
    have h2 := itoaL_len a.Seq
    simp only [cond_true, List.length_cons, List.length_append]; omega
theorem append_data (s t : ByteArray) : (s ++ t).data.toList = s.data.toList ++ t.data.toList := by
  rw [ByteArray.data_append, Array.toList_append]
theorem append_size (s t : ByteArray) : (s ++ t).size = s.size + t.size := ByteArray.size_append
theorem strconv_Itoa_eq {n : Int} (h1 : -9223372036854775808 ≤ n) (h2 : n ≤ 9223372036854775807) : strconv_Itoa n = (true, ByteArray.mk (itoaL n).toArray) := by
  unfold strconv_Itoa itoaF
  rw [decide_eq_true h1, decide_eq_true h2]; rfl
theorem glue (x y : List UInt8) : ByteArray.mk #[(116 : UInt8)] ++ ByteArray.mk x.toArray ++ ByteArray.mk #[(46 : UInt8)] ++ ByteArray.mk y.toArray = ByteArray.mk (116 :: (x ++ 46 :: y)).toArray := by
  apply bytes_ext
  rw [append_data, append_data, append_data]
  simp
theorem format_tail (a : RowID) (X : Bool × ByteArray) (Y : Bool × ByteArray) (hX : X = (true, ByteArray.mk (itoaL a.Table).toArray)) (hY : Y = (true, ByteArray.mk (itoaL a.Seq).toArray)) :
    (bif X.1 then bif decide ((ByteArray.mk #[(116 : UInt8)]).size + X.2.size ≤ (9223372036854775807 : Nat)) then bif decide ((ByteArray.mk #[(116 : UInt8)] ++ X.2).size + (ByteArray.mk #[(46 : UInt8)]).size ≤ (9223372036854775807 : Nat)) then
      bif Y.1 then bif decide ((ByteArray.mk #[(116 : UInt8)] ++ X.2 ++ ByteArray.mk #[(46 : UInt8)]).size + Y.2.size ≤ (9223372036854775807 : Nat)) then (true, ByteArray.mk #[(116 : UInt8)] ++ X.2 ++ ByteArray.mk #[(46 : UInt8)] ++ Y.2) else (false, default) else (false, default) else (false, default) else (false, default) else (false, default)) =
    ((true, ByteArray.mk (116 :: (itoaL a.Table ++ 46 :: itoaL a.Seq)).toArray) : Bool × ByteArray) := by
  subst hX hY
  have h1 := itoaL_len a.Table
  have h2 := itoaL_len a.Seq
  have s1 : (ByteArray.mk #[(116 : UInt8)]).size = 1 := rfl
  have s2 : (ByteArray.mk #[(46 : UInt8)]).size = 1 := rfl
  simp only [append_size, size_mk, s1, s2, cond_true]
  rw [decide_eq_true (show 1 + (itoaL a.Table).length ≤ 9223372036854775807 by omega), decide_eq_true (show 1 + (itoaL a.Table).length + 1 ≤ 9223372036854775807 by omega), decide_eq_true (show 1 + (itoaL a.Table).length + 1 + (itoaL a.Seq).length ≤ 9223372036854775807 by omega), glue]
  rfl
theorem rowset_Format_eq (a : RowID) (h : inR a) : rowset_Format a = (true, ByteArray.mk (fmtL a).toArray) := by
  unfold rowset_Format fmtL
  rw [rowset_Valid_eq]
  simp only [bnd, cond_true]
  cases vR a with
  | false => rfl
  | true => exact format_tail a _ _ (strconv_Itoa_eq h.1.1 h.1.2) (strconv_Itoa_eq h.2.1 h.2.2)

/-! ### the reference's digits -/
theorem Digits_n_eq : ∀ (k m n : Nat), n < 10 ^ (k + 1) → n ≤ 9223372036854775807 → ref02_Digits_n (k + 1 + m) (n : Int) = (true, ByteArray.mk (decDigits n).toArray)
  | k, m, n, hn, hm => by
    rw [show k + 1 + m = (k + m) + 1 by omega, ref02_Digits_succ]
    unfold ref02_Digits_b
    by_cases h : n < 10
    · rw [decide_eq_false (show ¬ ((n : Int) > 9) by omega), decDigits, dif_pos h]
      simp only [cond_false]
      have e : [IntKind.u8.wrap (IntKind.i64.wrap ((48 : Int) + (n : Int)))] = [((48 + n : Nat) : Int)] := by
        match n, h with
        | 0, _ | 1, _ | 2, _ | 3, _ | 4, _ | 5, _ | 6, _ | 7, _ | 8, _ | 9, _ => rfl
      rw [e]
      congr 1
    · rw [decide_eq_true (show ((n : Int) > 9) by omega)]
      simp only [cond_true]
      cases k with
      | zero => simp at hn; omega
      | succ k =>
        have e1 : IntKind.i64.wrap ((n : Int).tdiv (10 : Int)) = ((n / 10 : Nat) : Int) := by
          rw [show (n : Int).tdiv (10 : Int) = ((n / 10 : Nat) : Int) from rfl, wrap_id (by omega) (by omega)]
        have e2 : (n : Int).tmod (10 : Int) = ((n % 10 : Nat) : Int) := rfl
        have hd : n / 10 < 10 ^ (k + 1) := by rw [Nat.pow_succ] at hn; omega
        rw [e1, e2, show k + 1 + m = k + 1 + m from rfl, Digits_n_eq k m (n / 10) hd (by omega), show k + 1 + m = 0 + 1 + (k + m) by omega, Digits_n_eq 0 (k + m) (n % 10) (by simp; omega) (by omega)]
        have l1 : (decDigits (n / 10)).length ≤ 20 := by
          have := decF_eq 20 (n / 10) (by omega)
          rcases this with h' | h'
          · rw [← h']; exact decF_len _ _
          · omega
        have l2 : decDigits (n % 10) = [UInt8.ofNat (48 + n % 10)] := by rw [decDigits, dif_pos (by omega)]
        have l3 : decDigits n = decDigits (n / 10) ++ [UInt8.ofNat (48 + n % 10)] := by rw [decDigits, dif_neg h]
        rw [l2, l3]
        simp only [bnd, cond_true, size_mk]
        rw [decide_eq_true (show (decDigits (n / 10)).length + [UInt8.ofNat (48 + n % 10)].length ≤ 9223372036854775807 by rw [List.length_singleton]; omega)]
        simp only [cond_true]
        congr 1
theorem ref02_Digits_eq {n : Int} (h1 : 0 ≤ n) (h2 : n ≤ 9223372036854775807) : ref02_Digits n = (true, ByteArray.mk (itoaL n).toArray) := by
  obtain ⟨k, rfl⟩ : ∃ k : Nat, n = (k : Int) := ⟨n.toNat, by omega⟩
  unfold ref02_Digits
  rw [show (40 : Nat) = 19 + 1 + 20 from rfl, Digits_n_eq 19 20 k (by omega) (by omega), itoaL_eq (by omega) h2, Lib.itoa, if_neg (by omega), Int.toNat_natCast]
theorem ref02_Format_eq (a : RowID) (h : inR a) : ref02_Format a = (true, ByteArray.mk (fmtL a).toArray) := by
  unfold ref02_Format fmtL
  rw [ref02_Valid_eq]
  simp only [bnd, cond_true]
  cases hv : vR a with
  | false => rfl
  | true =>
    have := vR_iff.1 hv
    exact format_tail a _ _ (ref02_Digits_eq (by omega) h.1.2) (ref02_Digits_eq (by omega) h.2.2)

/-! ### sets of row identifiers as text -/
def sepL : List UInt8 := [44, 32]
def bodyL (l : List RowID) : List UInt8 := Lib.join (l.map fmtL) sepL
def tailL (l : List RowID) : List UInt8 := Lib.joinTail sepL (l.map fmtL)
theorem tailL_cons (x : RowID) (l : List RowID) : tailL (x :: l) = sepL ++ fmtL x ++ tailL l := by simp [tailL, Lib.joinTail]
theorem bodyL_cons (x : RowID) (l : List RowID) : bodyL (x :: l) = fmtL x ++ tailL l := by unfold bodyL tailL; rw [List.map_cons, Lib.join_cons]
theorem tailL_len : ∀ l : List RowID, (tailL l).length ≤ 46 * l.length
  | [] => by simp [tailL, Lib.joinTail]
  | x :: l => by
    have := tailL_len l
    have := fmtL_len x
    rw [tailL_cons]
    simp only [List.length_append, List.length_cons, sepL, List.length_nil]; omega
theorem bodyL_len (l : List RowID) : (bodyL l).length ≤ 46 * l.length := by
  cases l with
  | nil => simp [bodyL, Lib.join_nil]
  | cons x l =>
    have := tailL_len l
    have := fmtL_len x
    rw [bodyL_cons]
    simp only [List.length_append, List.length_cons]; omega
def setL (l : List RowID) : List UInt8 := bif (nR l).all vR then 123 :: (bodyL (nR l) ++ [125]) else []

theorem FormatSet_loop (l : List RowID) (hl : l.length ≤ 1000) (hr : ∀ a ∈ l, inR a) : ∀ (n i : Nat) (o : List ByteArray), l.length < i + n → i ≤ l.length → o.length ≤ i →
    rowset_FormatSet_L3 n l.length i o l = (true, if (l.drop i).all vR = true then .inr (o ++ (l.drop i).map fun a => ByteArray.mk (fmtL a).toArray) else .inl (ByteArray.mk #[]))
  | 0, i, o, h, h2, h3 => by omega
  | n + 1, i, o, h, h2, h3 => by
    rw [rowset_FormatSet_L3]
    by_cases hi : i < l.length
    · have e1 : (o.length + 1) * 16 ≤ reach := reach_of (by omega) (by omega)
      simp only [Int.ofNat_eq_natCast, lt_nat, le0_nat, decide_true, decide_false, Bool.and_self, Bool.true_and, Bool.and_true, cond_true, cond_false, Int.toNat_natCast, eqR, eqR', Bool.not_true, Bool.not_false, bnd, hi, rowset_Valid_eq, rowset_Format_eq _ (hr _ (getD_mem hi)), List.length_singleton, e1]
      rw [wrap_succ (by omega), drop_lt hi, List.all_cons]
      generalize l.getD i default = x
      cases hv : vR x with
      | false => rfl
      | true =>
        simp only [Bool.not_true, cond_false, cond_true, Bool.true_and]
        rw [FormatSet_loop l hl hr n (i + 1) _ (by omega) (by omega) (by simp; omega)]
        simp only [List.map_cons, List.append_assoc, List.singleton_append]
    · simp only [Int.ofNat_eq_natCast, lt_nat, le0_nat, decide_true, decide_false, Bool.and_self, Bool.true_and, Bool.and_true, cond_true, cond_false, Int.toNat_natCast, eqR, eqR', Bool.not_true, Bool.not_false, bnd, hi, drop_ge hi]; simp
theorem nR_in {l : List RowID} (h : ∀ a ∈ l, inR a) : ∀ a ∈ nR l, inR a := fun a ha => h a ((snorm_mem cR_ord l a).1 ha)
theorem wrap_set (x : List UInt8) : ByteArray.mk #[(123 : UInt8)] ++ ByteArray.mk x.toArray ++ ByteArray.mk #[(125 : UInt8)] = ByteArray.mk (123 :: (x ++ [125])).toArray := by
  apply bytes_ext
  rw [append_data, append_data]
  simp
theorem rowset_FormatSet_eq (l : List RowID) (hl : l.length ≤ 1000) (hr : ∀ a ∈ l, inR a) : rowset_FormatSet l = (true, ByteArray.mk (setL l).toArray) := by
  unfold rowset_FormatSet setL
  have hn := snorm_length cR_ord l
  rw [rowset_Normalize_eq l (by omega)]
  simp only [bnd, cond_true]
  have hz : (nR l).length ≤ 1000 := Nat.le_trans hn hl
  have hb := bodyL_len (nR l)
  generalize hm : nR l = m at hz hb
  have hrm : ∀ a ∈ m, inR a := hm ▸ nR_in hr
  rw [show (0 : Int) = ((0 : Nat) : Int) from rfl, show Int.ofNat m.length = (m.length : Int) from rfl, FormatSet_loop m hz hrm _ 0 [] (by simp; omega) (by omega) (by simp), List.drop_zero]
  simp only [cond_true, List.nil_append]
  cases hv : m.all vR with
  | false => rfl
  | true =>
    have ej : strings_Join (m.map fun a => ByteArray.mk (fmtL a).toArray) (ByteArray.mk #[(44 : UInt8), (32 : UInt8)]) = (true, ByteArray.mk (bodyL m).toArray) := by
      unfold strings_Join joinF joinB
      have e1 : (m.map fun a => ByteArray.mk (fmtL a).toArray).map (fun s => s.data.toList) = m.map fmtL := by
        rw [List.map_map]; rfl
      have e2 : (ByteArray.mk #[(44 : UInt8), (32 : UInt8)]).data.toList = sepL := rfl
      rw [e1, e2, show Lib.join (m.map fmtL) sepL = bodyL m from rfl, List.length_map, decide_eq_true (show m.length ≤ 140737488355328 by omega), decide_eq_true (show (bodyL m).length ≤ 140737488355328 by omega)]
      rfl
    simp only [if_true, isL, getR, cond_false, ej, cond_true]
    have s1 : (ByteArray.mk #[(123 : UInt8)]).size = 1 := rfl
    have s2 : (ByteArray.mk #[(125 : UInt8)]).size = 1 := rfl
    simp only [append_size, size_mk, s1, s2]
    rw [decide_eq_true (show 1 + (bodyL m).length ≤ 9223372036854775807 by omega), decide_eq_true (show 1 + (bodyL m).length + 1 ≤ 9223372036854775807 by omega), wrap_set]
    rfl
theorem mk_append (x y : List UInt8) : ByteArray.mk x.toArray ++ ByteArray.mk y.toArray = ByteArray.mk (x ++ y).toArray := by
  apply bytes_ext
  rw [append_data]
theorem RFormatSet_loop (l : List RowID) (hl : l.length ≤ 1000) (hr : ∀ a ∈ l, inR a) : ∀ (n i : Nat) (o : List UInt8), l.length < i + n → 0 < i → i ≤ l.length → o.length ≤ 1 + 46 * i →
    ref02_FormatSet_L4 n (ByteArray.mk o.toArray) l i = (true, if (l.drop i).all vR = true then .inr (ByteArray.mk (o ++ tailL (l.drop i)).toArray) else .inl (ByteArray.mk #[]))
  | 0, i, o, h, h0, h2, h3 => by omega
  | n + 1, i, o, h, h0, h2, h3 => by
    rw [ref02_FormatSet_L4]
    by_cases hi : i < l.length
    · have s1 : (ByteArray.mk #[(44 : UInt8), (32 : UInt8)]) = ByteArray.mk sepL.toArray := rfl
      simp only [Int.ofNat_eq_natCast, lt_nat, le0_nat, decide_true, decide_false, Bool.and_self, Bool.true_and, Bool.and_true, cond_true, cond_false, Int.toNat_natCast, eqR, eqR', Bool.not_true, Bool.not_false, bnd, hi, ref02_Valid_eq, ref02_Format_eq _ (hr _ (getD_mem hi)), s1, mk_append, size_mk]
      rw [wrap_succ (by omega), drop_lt hi, List.all_cons]
      generalize l.getD i default = x
      have hx := fmtL_len x
      cases hv : vR x with
      | false => rfl
      | true =>
        have h5 : (o ++ sepL).length + (fmtL x).length ≤ 9223372036854775807 := by simp only [List.length_append, sepL, List.length_cons, List.length_nil]; omega
        have h6 : o.length + sepL.length ≤ 9223372036854775807 := by simp only [sepL, List.length_cons, List.length_nil]; omega
        rw [decide_eq_true (show (i : Int) > 0 by omega), decide_eq_true h6, decide_eq_true h5]
        simp only [Bool.not_true, cond_false, cond_true, Bool.true_and]
        rw [RFormatSet_loop l hl hr n (i + 1) _ (by omega) (by omega) (by omega) (by simp only [List.length_append, sepL, List.length_cons, List.length_nil]; omega), tailL_cons]
        simp only [List.append_assoc]
    · simp only [Int.ofNat_eq_natCast, lt_nat, le0_nat, decide_true, decide_false, Bool.and_self, Bool.true_and, Bool.and_true, cond_true, cond_false, Int.toNat_natCast, eqR, eqR', Bool.not_true, Bool.not_false, bnd, hi, drop_ge hi]
      simp [tailL, Lib.joinTail]
theorem ref02_FormatSet_eq (l : List RowID) (hl : l.length ≤ 1000) (hr : ∀ a ∈ l, inR a) : ref02_FormatSet l = (true, ByteArray.mk (setL l).toArray) := by
  unfold ref02_FormatSet setL
  have hn := snorm_length cR_ord l
  rw [ref02_Normalize_eq l (by omega)]
  simp only [bnd, cond_true]
  have hz : (nR l).length ≤ 1000 := Nat.le_trans hn hl
  have hb := bodyL_len (nR l)
  generalize hm : nR l = m at hz hb
  have hrm : ∀ a ∈ m, inR a := hm ▸ nR_in hr
  have hloop : ref02_FormatSet_L4 ((ByteArray.mk #[(123 : UInt8)]).size + m.length + Int.toNat (0 : Int) + (1 : Nat)) (ByteArray.mk #[(123 : UInt8)]) m (0 : Int) = (true, if m.all vR = true then .inr (ByteArray.mk (123 :: bodyL m).toArray) else .inl (ByteArray.mk #[])) := by
    rw [show (ByteArray.mk #[(123 : UInt8)]).size + m.length + Int.toNat (0 : Int) + (1 : Nat) = (m.length + 1) + 1 by rw [show (ByteArray.mk #[(123 : UInt8)]).size = 1 from rfl]; simp; omega, ref02_FormatSet_L4]
    cases m with
    | nil => rfl
    | cons x r =>
      have e1 : decide ((0 : Int) < Int.ofNat (x :: r).length) = true := decide_eq_true (show (0 : Int) < ((x :: r).length : Int) by rw [List.length_cons]; omega)
      have e2 : (x :: r).getD (0 : Int).toNat default = x := rfl
      have hx := fmtL_len x
      rw [e1, e2, ref02_Valid_eq, ref02_Format_eq _ (hrm _ (by simp)), List.all_cons]
      simp only [bnd, cond_true, show decide ((0 : Int) ≤ 0) = true from rfl, Bool.and_self, show decide ((0 : Int) > 0) = false from rfl, cond_false]
      cases hv : vR x with
      | false => rfl
      | true =>
        have s1 : (ByteArray.mk #[(123 : UInt8)]) = ByteArray.mk ([123] : List UInt8).toArray := rfl
        simp only [Bool.not_true, cond_false, Bool.true_and, s1, mk_append, size_mk]
        rw [decide_eq_true (show ([123] : List UInt8).length + (fmtL x).length ≤ 9223372036854775807 by rw [List.length_singleton]; omega)]
        simp only [cond_true]
        rw [show IntKind.i64.wrap ((0 : Int) + 1) = ((1 : Nat) : Int) from rfl,
          RFormatSet_loop (x :: r) hz hrm ((x :: r).length + 1) 1 _ (by omega) (by omega) (by simp) (by simp only [List.length_append, List.length_singleton]; omega)]
        rw [bodyL_cons]
        rfl
  rw [hloop]
  simp only [cond_true]
  cases hv : m.all vR with
  | false => rfl
  | true =>
    have s2 : (ByteArray.mk #[(125 : UInt8)]) = ByteArray.mk ([125] : List UInt8).toArray := rfl
    simp only [if_true, isL, getR, cond_false, cond_true, s2, mk_append, size_mk]
    rw [decide_eq_true (show (123 :: bodyL m).length + ([125] : List UInt8).length ≤ 9223372036854775807 by simp only [List.length_cons, List.length_nil]; omega)]
    rfl

/-! ### the laws -/
theorem wf_in {a : RowID} (h : wf30 a) : inR a := by
  obtain ⟨h1, h2⟩ := h
  exact ⟨bounds_i64 h1, bounds_i64 h2⟩
theorem text_plain (a b : RowID) (s : ByteArray) (l : List RowID) (wa : wf30 a) (wb : wf30 b) (ws : wf9 s) (wl : wf31 l) : law02_RowsetText a b s l = (true, true) := by
  unfold law02_RowsetText
  by_cases h1 : s.size ≤ 100
  · rw [decide_eq_false (show ¬ (Int.ofNat s.size > (100 : Int)) by rw [Int.ofNat_eq_natCast]; omega)]
    by_cases h2 : l.length ≤ 20
    · rw [decide_eq_false (show ¬ (Int.ofNat l.length > (20 : Int)) by rw [Int.ofNat_eq_natCast]; omega)]
      simp only [cond_false]
      have ia := wf_in wa
      have il : ∀ x ∈ l, inR x := fun x hx => wf_in (wl.1 x hx)
      rw [rowset_Parse_eq s (by omega), ref02_Parse_eq s (by omega), rowset_Valid_eq, ref02_Valid_eq, rowset_Compare_eq, ref02_Compare_eq, rowset_Format_eq a ia, ref02_Format_eq a ia, rowset_FormatSet_eq l (by omega) il, ref02_FormatSet_eq l (by omega) il]
      simp only [bnd, cond_true, beq_self_eq_true, Bool.and_self]
    · rw [decide_eq_true (show (Int.ofNat l.length > (20 : Int)) by rw [Int.ofNat_eq_natCast]; omega)]; rfl
  · rw [decide_eq_true (show (Int.ofNat s.size > (100 : Int)) by rw [Int.ofNat_eq_natCast]; omega)]; rfl

theorem no_dot {n : Int} (h1 : 1 ≤ n) (h2 : n ≤ 9223372036854775807) : ∀ c ∈ itoaL n, c ≠ 46 := by
  intro c hc e
  subst e
  have := (numR_ok (numR_digits h1 h2)).2.2.2
  have := (List.all_eq_true.1 this) 46 hc
  have := isDig_iff.1 this
  simp at this
theorem parse_fmt {a : RowID} (hv : vR a = true) (h : inR a) : parseR (fmtL a) = (a, 0) := by
  obtain ⟨h1, h2⟩ := vR_iff.1 hv
  unfold fmtL
  rw [hv]
  simp only [cond_true]
  rw [parseR_cons, at1_append 46 _ _ (no_dot h1 h.1.2), if_pos ⟨rfl, by simp⟩, List.take_left' rfl, show (itoaL a.Table).length + 1 = (itoaL a.Table ++ [46]).length by simp,
    show itoaL a.Table ++ 46 :: itoaL a.Seq = (itoaL a.Table ++ [46]) ++ itoaL a.Seq by simp, List.drop_left' rfl, numR_digits h1 h.1.2, numR_digits h2 h.2.2]
theorem parse_ok {l : List UInt8} {a : RowID} (h : parseR l = (a, 0)) : vR a = true ∧ inR a ∧ fmtL a = l := by
  cases l with
  | nil => exact absurd (congrArg Prod.snd h) (show ¬ (3 : Int) = 0 by decide)
  | cons c r =>
    rw [parseR_cons] at h
    split at h
    · rename_i hc
      obtain ⟨rfl, hd⟩ := hc
      have hs := at1_split 46 r hd
      cases h1 : numR (r.take (at1 46 r)) <;> cases h2 : numR (r.drop (at1 46 r + 1)) <;> rw [h1, h2] at h <;> first | exact absurd (congrArg Prod.snd h) (show ¬ (3 : Int) = 0 by decide) | exact absurd (congrArg Prod.snd h) (show ¬ (2 : Int) = 0 by decide) | skip
      rename_i x y
      obtain rfl := congrArg Prod.fst h
      obtain ⟨a1, a2, a3, _⟩ := numR_ok h1
      obtain ⟨b1, b2, b3, _⟩ := numR_ok h2
      have hv : vR ⟨x, y⟩ = true := vR_iff.2 ⟨a1, b1⟩
      refine ⟨hv, ⟨⟨by show -9223372036854775808 ≤ x; omega, a2⟩, ⟨by show -9223372036854775808 ≤ y; omega, b2⟩⟩, ?_⟩
      unfold fmtL
      rw [hv]
      simp only [cond_true, a3, b3]
      rw [← hs]
    · exact absurd (congrArg Prod.snd h) (show ¬ (3 : Int) = 0 by decide)
theorem parse_bad {l : List UInt8} (h : (parseR l).2 ≠ 0) : (parseR l).1 = ⟨0, 0⟩ := by
  cases l with
  | nil => rfl
  | cons c r =>
    rw [parseR_cons] at h ⊢
    split
    · rename_i hc
      rw [if_pos hc] at h
      cases h1 : numR (r.take (at1 46 r)) <;> cases h2 : numR (r.drop (at1 46 r + 1)) <;> rw [h1, h2] at h <;> first | rfl | exact absurd rfl h
    · rfl
theorem roundtrip_plain (a : RowID) (s : ByteArray) (wa : wf30 a) (ws : wf9 s) : law02_RowsetRoundTrip a s = (true, true) := by
  unfold law02_RowsetRoundTrip
  have ia := wf_in wa
  by_cases h1 : s.size ≤ 100
  · rw [decide_eq_false (show ¬ (Int.ofNat s.size > (100 : Int)) by rw [Int.ofNat_eq_natCast]; omega)]
    simp only [cond_false]
    have hfl := fmtL_len a
    rw [rowset_Format_eq a ia]
    simp only [bnd, cond_true]
    rw [rowset_Parse_eq (ByteArray.mk (fmtL a).toArray) (by rw [size_mk]; omega), rowset_Valid_eq, toList_mk, rowset_Parse_eq s (by omega)]
    simp only [cond_true]
    have e0 : (!vR a == ((parseR (fmtL a)).2 == (0 : Int))) = false := by
      cases hv : vR a with
      | true => rw [parse_fmt hv ia]; rfl
      | false =>
        have : fmtL a = [] := by unfold fmtL; rw [hv]; rfl
        rw [this]; rfl
    rw [e0]
    have key : ∀ (X : Bool × Bool), (bif (parseR s.data.toList).2 != (0 : Int) then bif (parseR s.data.toList).1.Table == (0 : Int) && ((parseR s.data.toList).1.Seq == (0 : Int) && true) then (true, true) else X else
        bif (parseR s.data.toList).2 == (0 : Int) then bif (rowset_Valid (parseR s.data.toList).1).1 then bif (rowset_Valid (parseR s.data.toList).1).2 then bif (rowset_Format (parseR s.data.toList).1).1 then (true, (rowset_Format (parseR s.data.toList).1).2.toList == s.toList) else (false, default) else (true, false) else (false, default) else (true, false)) = ((true, true) : Bool × Bool) := by
      intro X
      cases hb : ((parseR s.data.toList).2 != (0 : Int)) with
      | true =>
        have hne : (parseR s.data.toList).2 ≠ 0 := by simpa using hb
        rw [parse_bad hne]; rfl
      | false =>
        have he : (parseR s.data.toList).2 = 0 := by simpa using hb
        obtain ⟨hv, hi, hf⟩ := parse_ok (l := s.data.toList) (a := (parseR s.data.toList).1) (Prod.ext rfl he)
        rw [rowset_Valid_eq, hv, rowset_Format_eq _ hi, he]
        simp only [cond_false, cond_true]
        rw [bytes_beq, toList_mk, hf, decide_eq_true rfl]; rfl
    cases hv : vR a with
    | false =>
      simp only [cond_false]
      exact key _
    | true =>
      rw [parse_fmt hv ia]
      simp only [cond_true, cond_false, beq_self_eq_true, Bool.and_self, Bool.not_true]
      exact key _
  · rw [decide_eq_true (show (Int.ofNat s.size > (100 : Int)) by rw [Int.ofNat_eq_natCast]; omega)]; rfl
end Go.Proofs.YteopikhooiallaaGreatDoor
