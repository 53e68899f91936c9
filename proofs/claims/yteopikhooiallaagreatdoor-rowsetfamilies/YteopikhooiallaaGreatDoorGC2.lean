/- Texts of this claim, joined (the program, its functions in plain words, and what they compute). -/
import Derived.Test.YteopikhooiallaaGreatDoorGC1
import Derived.Test.YteopikhooiallaaGreatDoorGB1
set_option autoImplicit false
set_option maxRecDepth 1000000
set_option maxHeartbeats 0
/- Functions of the program as plain functions, with their contracts. Printed by program. -/
set_option autoImplicit false
set_option linter.unusedVariables false
set_option linter.unusedSimpArgs false
namespace Go.Proofs.YteopikhooiallaaGreatDoor
open Go Go.Ab
/-! ### lineage/rowset.Union -/
noncomputable def rowset_Union_cx : Cx ty := { base with nt := 10, spec := fun g => List.lookup g [(26, rowset_Normalize_spec), (50, slices_Clone_Lapi_RowID_api_RowID_spec)], io := fun g => (List.lookup g []).getD [], head := fun i => (List.lookup i []).getD [], out := outOf [], loops := fun i => List.lookup i [] }
noncomputable def rowset_Union (a : List RowID) (b : List RowID) : Bool × List RowID := bnd (slices_Clone_Lapi_RowID_api_RowID a) (fun r1 => bif decide ((r1.length + b.length) * (16 : Nat) ≤ reach) then bnd (rowset_Normalize (r1 ++ b)) (fun r0 => (true, r0)) (false, default) else (false, default)) (false, default)
noncomputable def rowset_Union_res (r : List RowID) : ARes ty := ⟨[.own 30 r], []⟩
theorem rowset_Union_run (a : List RowID) (b : List RowID) : runFn rowset_Union_cx Tryz.f39 (body Tryz.f39) ⟨[.own 30], []⟩ [.pure (.sl 30 a), .pure (.sl 30 b)] = out (fun r => some (rowset_Union_res r)) (rowset_Union a b) := by
  have h : runFn rowset_Union_cx Tryz.f39 (body Tryz.f39) ⟨[.own 30], []⟩ [.pure (.sl 30 a), .pure (.sl 30 b)] = obnd (slices_Clone_Lapi_RowID_api_RowID a) (fun r3 => bif decide ((r3.length + b.length) * (16 : Nat) ≤ reach) then obnd (rowset_Normalize (r3 ++ b)) (fun r2 => some ⟨[.own 30 (r2)], []⟩) else none) := by kernel_rfl
  rw [rowset_Union]
  exact h.trans (out_ite (out_ite (out_ite (rfl) (rfl)) (rfl)) (rfl))
noncomputable def rowset_Union_A : AL base (List RowID × List RowID × Unit) := aCons (aPure (vSl 30)) (aCons (aPure (vSl 30)) aNil)
noncomputable def rowset_Union_spec : Ab.Spec ty := mkSpec rowset_Union_A fun x => ((rowset_Union x.1 x.2.1).1, rowset_Union_res (rowset_Union x.1 x.2.1).2)
theorem rowset_Union_sound : Sound Tryz.prog base 39 rowset_Union_spec :=
  sound_of_run (cx' := rowset_Union_cx) draws base_ok ⟨⟨rfl, rfl, rfl, rfl, rfl, rfl⟩, rfl⟩ (spec_of [(26, rowset_Normalize_spec), (50, slices_Clone_Lapi_RowID_api_RowID_spec)] ⟨(rowset_Normalize_sound), (slices_Clone_Lapi_RowID_api_RowID_sound), trivial⟩) Tryz.call39 Tryz.func39 (c := body Tryz.f39) (by kernel_rfl) (loopsOK_of (l := []) (by kernel_rfl) trivial) (sg := ⟨[.own 30], []⟩) (A := rowset_Union_A) (res := rowset_Union_res) (F := fun x => rowset_Union x.1 x.2.1) (fun x => rowset_Union_run x.1 x.2.1) (fun _ => by kernel_rfl) (by kernel_rfl)
end Go.Proofs.YteopikhooiallaaGreatDoor
/- Functions of the program as plain functions, with their contracts. Printed by program. -/
set_option autoImplicit false
set_option linter.unusedVariables false
set_option linter.unusedSimpArgs false
namespace Go.Proofs.YteopikhooiallaaGreatDoor
open Go Go.Ab
/-! ### lineage/rowset.Product -/
noncomputable def rowset_Product_L6 : Nat → List (List RowID) → List RowID → List (List RowID) → Int → Int → List (List RowID) → Int → Int → List (List RowID) → Bool × (List (List RowID) × List (List RowID) × Int × Int × List (List RowID))
  | 0, _, _, _, _, _, _, _, _, _ => (false, default)
  | n + 1, b, x_, t10, t11, t12, t16, t17, t18, out_ => bif decide (t18 < t17) then bif decide ((0 : Int) ≤ t18) && decide (t18 < Int.ofNat t16.length) then bnd (rowset_Union x_ (t16.getD t18.toNat default)) (fun r2 => bif decide ((out_.length + [r2].length) * (24 : Nat) ≤ reach) then rowset_Product_L6 n b x_ t10 t11 t12 t16 t17 (IntKind.i64.wrap (t18 + (1 : Int))) (out_ ++ [r2]) else (false, default)) (false, default) else (false, default) else (true, (b, t10, t11, t12, out_))
noncomputable def rowset_Product_tr6 (r : List (List RowID) × List (List RowID) × Int × Int × List (List RowID)) : LTree ty := .done (.exit 2) [.sl 31 r.1, .own 128, .sl 31 r.2.1, .lit (.int .i64 r.2.2.1), .lit (.int .i64 r.2.2.2.1)] [.arr 31 r.2.2.2.2 false]
noncomputable def rowset_Product_V6 : LL ty (List (List RowID) × Unit × List RowID × List (List RowID) × Int × Int × List (List RowID) × Int × Int × Unit) := llCons (lSl 31) (llCons (lOwn 128) (llCons (lSl 30) (llCons (lSl 31) (llCons (lInt .i64) (llCons (lInt .i64) (llCons (lSl 31) (llCons (lInt .i64) (llCons (lInt .i64) llNil))))))))
noncomputable def rowset_Product_B6 : BL ty (List (List RowID) × Unit) := bArr 31 false (bNil)
noncomputable def rowset_Product_sp6 : LSpec ty := mkLoop rowset_Product_V6 rowset_Product_B6 fun x y => ((rowset_Product_L6 (x.1.length + x.2.2.1.length + x.2.2.2.1.length + Int.toNat x.2.2.2.2.1 + Int.toNat x.2.2.2.2.2.1 + x.2.2.2.2.2.2.1.length + Int.toNat x.2.2.2.2.2.2.2.1 + Int.toNat x.2.2.2.2.2.2.2.2.1 + y.1.length + 1) x.1 x.2.2.1 x.2.2.2.1 x.2.2.2.2.1 x.2.2.2.2.2.1 x.2.2.2.2.2.2.1 x.2.2.2.2.2.2.2.1 x.2.2.2.2.2.2.2.2.1 y.1).1, rowset_Product_tr6 (rowset_Product_L6 (x.1.length + x.2.2.1.length + x.2.2.2.1.length + Int.toNat x.2.2.2.2.1 + Int.toNat x.2.2.2.2.2.1 + x.2.2.2.2.2.2.1.length + Int.toNat x.2.2.2.2.2.2.2.1 + Int.toNat x.2.2.2.2.2.2.2.2.1 + y.1.length + 1) x.1 x.2.2.1 x.2.2.2.1 x.2.2.2.2.1 x.2.2.2.2.2.1 x.2.2.2.2.2.2.1 x.2.2.2.2.2.2.2.1 x.2.2.2.2.2.2.2.2.1 y.1).2)
noncomputable def rowset_Product_L3 : Nat → List (List RowID) → List (List RowID) → Int → Int → List (List RowID) → Bool × List (List RowID)
  | 0, _, _, _, _, _ => (false, default)
  | n + 1, b, t10, t11, t12, out_ => bif decide (t12 < t11) then bif decide ((0 : Int) ≤ t12) && decide (t12 < Int.ofNat t10.length) then bnd (rowset_Product_L6 (b.length + List.length (t10.getD t12.toNat default) + t10.length + t11.toNat + t12.toNat + b.length + (Int.ofNat b.length).toNat + Int.toNat (0 : Int) + out_.length + (1 : Nat)) b (t10.getD t12.toNat default) t10 t11 t12 b (Int.ofNat b.length) (0 : Int) out_) (fun r4 => rowset_Product_L3 n (r4.fst) (r4.snd.fst) (r4.snd.snd.fst) (IntKind.i64.wrap (r4.snd.snd.snd.fst + (1 : Int))) (r4.snd.snd.snd.snd)) (false, default) else (false, default) else (true, out_)
noncomputable def rowset_Product_tr3 (r : List (List RowID)) : LTree ty := .done (.exit 0) [.own 128] [.arr 31 r false]
noncomputable def rowset_Product_V3 : LL ty (List (List RowID) × Unit × List (List RowID) × Int × Int × Unit) := llCons (lSl 31) (llCons (lOwn 128) (llCons (lSl 31) (llCons (lInt .i64) (llCons (lInt .i64) llNil))))
noncomputable def rowset_Product_B3 : BL ty (List (List RowID) × Unit) := bArr 31 false (bNil)
noncomputable def rowset_Product_sp3 : LSpec ty := mkLoop rowset_Product_V3 rowset_Product_B3 fun x y => ((rowset_Product_L3 (x.1.length + x.2.2.1.length + Int.toNat x.2.2.2.1 + Int.toNat x.2.2.2.2.1 + y.1.length + 1) x.1 x.2.2.1 x.2.2.2.1 x.2.2.2.2.1 y.1).1, rowset_Product_tr3 (rowset_Product_L3 (x.1.length + x.2.2.1.length + Int.toNat x.2.2.2.1 + Int.toNat x.2.2.2.2.1 + y.1.length + 1) x.1 x.2.2.1 x.2.2.2.1 x.2.2.2.2.1 y.1).2)
noncomputable def rowset_Product_cx : Cx ty := { base with nt := 32, spec := fun g => List.lookup g [(9, rowset_Family_spec), (39, rowset_Union_spec)], io := fun g => (List.lookup g []).getD [], head := fun i => (List.lookup i [(3, [(1, .keep), (5, .own 31), (10, .keep), (11, .keep), (12, .keep)]), (6, [(1, .keep), (5, .own 31), (7, .keep), (10, .keep), (11, .keep), (12, .keep), (16, .keep), (17, .keep), (18, .keep)])]).getD [], out := outOf [(3, 1, [(5, .keep)]), (6, 3, [(1, .keep), (5, .keep), (10, .keep), (11, .keep), (12, .keep)])], loops := fun i => List.lookup i [(6, rowset_Product_sp6), (3, rowset_Product_sp3)] }
theorem rowset_Product_round6 {R : Type} (H : List (AV ty) → List (Blk ty) → Option R) (K : Ex → List (AV ty) → List (Blk ty) → Option R) (b : List (List RowID)) (x_ : List RowID) (t10 : List (List RowID)) (t11 : Int) (t12 : Int) (t16 : List (List RowID)) (t17 : Int) (t18 : Int) (out_ : List (List RowID)) : roundK rowset_Product_cx (lp (body Tryz.f13) 1) H K [.sl 31 b, .own 128, .sl 30 x_, .sl 31 t10, .lit (.int .i64 t11), .lit (.int .i64 t12), .sl 31 t16, .lit (.int .i64 t17), .lit (.int .i64 t18)] [.arr 31 out_ false] = bif decide (t18 < t17) then bif decide ((0 : Int) ≤ t18) && decide (t18 < Int.ofNat t16.length) then obnd (rowset_Union x_ (t16.getD t18.toNat default)) (fun r3 => bif decide ((out_.length + [r3].length) * (24 : Nat) ≤ reach) then H [.sl 31 b, .own 128, .sl 30 x_, .sl 31 t10, .lit (.int .i64 t11), .lit (.int .i64 t12), .sl 31 t16, .lit (.int .i64 t17), .lit (.int .i64 (IntKind.i64.wrap (t18 + (1 : Int))))] [.arr 31 (out_ ++ [r3]) false] else none) else none else K (.exit 2) [.sl 31 b, .own 128, .sl 31 t10, .lit (.int .i64 t11), .lit (.int .i64 t12)] [.arr 31 out_ false] := by kernel_rfl
theorem rowset_Product_loop6 (R : Type) (K : Ex → List (AV ty) → List (Blk ty) → Option R) : ∀ (n : Nat) (b : List (List RowID)) (x_ : List RowID) (t10 : List (List RowID)) (t11 : Int) (t12 : Int) (t16 : List (List RowID)) (t17 : Int) (t18 : Int) (out_ : List (List RowID)), loopI rowset_Product_cx (lp (body Tryz.f13) 1) K n [.sl 31 b, .own 128, .sl 30 x_, .sl 31 t10, .lit (.int .i64 t11), .lit (.int .i64 t12), .sl 31 t16, .lit (.int .i64 t17), .lit (.int .i64 t18)] [.arr 31 out_ false] = out (fun r => treeK K (rowset_Product_tr6 r)) (rowset_Product_L6 n b x_ t10 t11 t12 t16 t17 t18 out_)
  | 0, _, _, _, _, _, _, _, _, _ => rfl
  | n + 1, b, x_, t10, t11, t12, t16, t17, t18, out_ => by
    have ih := rowset_Product_loop6 R K n
    rw [rowset_Product_L6]
    exact (rowset_Product_round6 (loopI rowset_Product_cx (lp (body Tryz.f13) 1) K n) K b x_ t10 t11 t12 t16 t17 t18 out_).trans (out_ite (out_ite (out_ite (out_ite (ih b x_ t10 t11 t12 t16 t17 (IntKind.i64.wrap (t18 + (1 : Int))) (out_ ++ [(rowset_Union x_ (t16.getD t18.toNat default)).snd])) (rfl)) (rfl)) (rfl)) (rfl))
theorem rowset_Product_to6 : LoopOK rowset_Product_cx (lp (body Tryz.f13) 1) := loopOK_of (id := 6) (sp := rowset_Product_sp6) (by kernel_rfl) (by kernel_rfl) (loopTo_of (V := rowset_Product_V6) (B := rowset_Product_B6) (L := fun n x y => rowset_Product_L6 n x.1 x.2.2.1 x.2.2.2.1 x.2.2.2.2.1 x.2.2.2.2.2.1 x.2.2.2.2.2.2.1 x.2.2.2.2.2.2.2.1 x.2.2.2.2.2.2.2.2.1 y.1) (tr := rowset_Product_tr6) (m := fun x y => x.1.length + x.2.2.1.length + x.2.2.2.1.length + Int.toNat x.2.2.2.2.1 + Int.toNat x.2.2.2.2.2.1 + x.2.2.2.2.2.2.1.length + Int.toNat x.2.2.2.2.2.2.2.1 + Int.toNat x.2.2.2.2.2.2.2.2.1 + y.1.length + 1) fun R K n x y => rowset_Product_loop6 R K n x.1 x.2.2.1 x.2.2.2.1 x.2.2.2.2.1 x.2.2.2.2.2.1 x.2.2.2.2.2.2.1 x.2.2.2.2.2.2.2.1 x.2.2.2.2.2.2.2.2.1 y.1)
theorem rowset_Product_round3 {R : Type} (H : List (AV ty) → List (Blk ty) → Option R) (K : Ex → List (AV ty) → List (Blk ty) → Option R) (b : List (List RowID)) (t10 : List (List RowID)) (t11 : Int) (t12 : Int) (out_ : List (List RowID)) : roundK rowset_Product_cx (lp (body Tryz.f13) 0) H K [.sl 31 b, .own 128, .sl 31 t10, .lit (.int .i64 t11), .lit (.int .i64 t12)] [.arr 31 out_ false] = bif decide (t12 < t11) then bif decide ((0 : Int) ≤ t12) && decide (t12 < Int.ofNat t10.length) then obnd (rowset_Product_L6 (b.length + List.length (t10.getD t12.toNat default) + t10.length + t11.toNat + t12.toNat + b.length + (Int.ofNat b.length).toNat + Int.toNat (0 : Int) + out_.length + (1 : Nat)) b (t10.getD t12.toNat default) t10 t11 t12 b (Int.ofNat b.length) (0 : Int) out_) (fun r5 => H [.sl 31 (r5.fst), .own 128, .sl 31 (r5.snd.fst), .lit (.int .i64 (r5.snd.snd.fst)), .lit (.int .i64 (IntKind.i64.wrap (r5.snd.snd.snd.fst + (1 : Int))))] [.arr 31 (r5.snd.snd.snd.snd) false]) else none else K (.exit 0) [.own 128] [.arr 31 out_ false] := by kernel_rfl
theorem rowset_Product_loop3 (R : Type) (K : Ex → List (AV ty) → List (Blk ty) → Option R) : ∀ (n : Nat) (b : List (List RowID)) (t10 : List (List RowID)) (t11 : Int) (t12 : Int) (out_ : List (List RowID)), loopI rowset_Product_cx (lp (body Tryz.f13) 0) K n [.sl 31 b, .own 128, .sl 31 t10, .lit (.int .i64 t11), .lit (.int .i64 t12)] [.arr 31 out_ false] = out (fun r => treeK K (rowset_Product_tr3 r)) (rowset_Product_L3 n b t10 t11 t12 out_)
  | 0, _, _, _, _, _ => rfl
  | n + 1, b, t10, t11, t12, out_ => by
    have ih := rowset_Product_loop3 R K n
    rw [rowset_Product_L3]
    exact (rowset_Product_round3 (loopI rowset_Product_cx (lp (body Tryz.f13) 0) K n) K b t10 t11 t12 out_).trans (out_ite (out_ite (out_ite (ih ((rowset_Product_L6 (b.length + List.length (t10.getD t12.toNat default) + t10.length + t11.toNat + t12.toNat + b.length + (Int.ofNat b.length).toNat + Int.toNat (0 : Int) + out_.length + (1 : Nat)) b (t10.getD t12.toNat default) t10 t11 t12 b (Int.ofNat b.length) (0 : Int) out_).snd.fst) ((rowset_Product_L6 (b.length + List.length (t10.getD t12.toNat default) + t10.length + t11.toNat + t12.toNat + b.length + (Int.ofNat b.length).toNat + Int.toNat (0 : Int) + out_.length + (1 : Nat)) b (t10.getD t12.toNat default) t10 t11 t12 b (Int.ofNat b.length) (0 : Int) out_).snd.snd.fst) ((rowset_Product_L6 (b.length + List.length (t10.getD t12.toNat default) + t10.length + t11.toNat + t12.toNat + b.length + (Int.ofNat b.length).toNat + Int.toNat (0 : Int) + out_.length + (1 : Nat)) b (t10.getD t12.toNat default) t10 t11 t12 b (Int.ofNat b.length) (0 : Int) out_).snd.snd.snd.fst) (IntKind.i64.wrap ((rowset_Product_L6 (b.length + List.length (t10.getD t12.toNat default) + t10.length + t11.toNat + t12.toNat + b.length + (Int.ofNat b.length).toNat + Int.toNat (0 : Int) + out_.length + (1 : Nat)) b (t10.getD t12.toNat default) t10 t11 t12 b (Int.ofNat b.length) (0 : Int) out_).snd.snd.snd.snd.fst + (1 : Int))) ((rowset_Product_L6 (b.length + List.length (t10.getD t12.toNat default) + t10.length + t11.toNat + t12.toNat + b.length + (Int.ofNat b.length).toNat + Int.toNat (0 : Int) + out_.length + (1 : Nat)) b (t10.getD t12.toNat default) t10 t11 t12 b (Int.ofNat b.length) (0 : Int) out_).snd.snd.snd.snd.snd)) (rfl)) (rfl)) (rfl))
theorem rowset_Product_to3 : LoopOK rowset_Product_cx (lp (body Tryz.f13) 0) := loopOK_of (id := 3) (sp := rowset_Product_sp3) (by kernel_rfl) (by kernel_rfl) (loopTo_of (V := rowset_Product_V3) (B := rowset_Product_B3) (L := fun n x y => rowset_Product_L3 n x.1 x.2.2.1 x.2.2.2.1 x.2.2.2.2.1 y.1) (tr := rowset_Product_tr3) (m := fun x y => x.1.length + x.2.2.1.length + Int.toNat x.2.2.2.1 + Int.toNat x.2.2.2.2.1 + y.1.length + 1) fun R K n x y => rowset_Product_loop3 R K n x.1 x.2.2.1 x.2.2.2.1 x.2.2.2.2.1 y.1)
noncomputable def rowset_Product (a : List (List RowID)) (b : List (List RowID)) : Bool × List (List RowID) := bnd (rowset_Product_L3 (b.length + a.length + (Int.ofNat a.length).toNat + Int.toNat (0 : Int) + (0 : Nat) + (1 : Nat)) b a (Int.ofNat a.length) (0 : Int) []) (fun r7 => bnd (rowset_Family r7) (fun r6 => (true, r6)) (false, default)) (false, default)
noncomputable def rowset_Product_res (r : List (List RowID)) : ARes ty := ⟨[.own 31 r], []⟩
theorem rowset_Product_run (a : List (List RowID)) (b : List (List RowID)) : runFn rowset_Product_cx Tryz.f13 (body Tryz.f13) ⟨[.own 31], []⟩ [.pure (.sl 31 a), .pure (.sl 31 b)] = out (fun r => some (rowset_Product_res r)) (rowset_Product a b) := by
  have h : runFn rowset_Product_cx Tryz.f13 (body Tryz.f13) ⟨[.own 31], []⟩ [.pure (.sl 31 a), .pure (.sl 31 b)] = obnd (rowset_Product_L3 (b.length + a.length + (Int.ofNat a.length).toNat + Int.toNat (0 : Int) + (0 : Nat) + (1 : Nat)) b a (Int.ofNat a.length) (0 : Int) []) (fun r9 => obnd (rowset_Family r9) (fun r8 => some ⟨[.own 31 (r8)], []⟩)) := by kernel_rfl
  rw [rowset_Product]
  exact h.trans (out_ite (out_ite (rfl) (rfl)) (rfl))
noncomputable def rowset_Product_A : AL base (List (List RowID) × List (List RowID) × Unit) := aCons (aPure (vSl 31)) (aCons (aPure (vSl 31)) aNil)
noncomputable def rowset_Product_spec : Ab.Spec ty := mkSpec rowset_Product_A fun x => ((rowset_Product x.1 x.2.1).1, rowset_Product_res (rowset_Product x.1 x.2.1).2)
theorem rowset_Product_sound : Sound Tryz.prog base 13 rowset_Product_spec :=
  sound_of_run (cx' := rowset_Product_cx) draws base_ok ⟨⟨rfl, rfl, rfl, rfl, rfl, rfl⟩, rfl⟩ (spec_of [(9, rowset_Family_spec), (39, rowset_Union_spec)] ⟨(rowset_Family_sound), (rowset_Union_sound), trivial⟩) Tryz.call13 Tryz.func13 (c := body Tryz.f13) (by kernel_rfl) (loopsOK_of (l := [lp (body Tryz.f13) 0, lp (body Tryz.f13) 1]) (by kernel_rfl) ⟨rowset_Product_to3, rowset_Product_to6, trivial⟩) (sg := ⟨[.own 31], []⟩) (A := rowset_Product_A) (res := rowset_Product_res) (F := fun x => rowset_Product x.1 x.2.1) (fun x => rowset_Product_run x.1 x.2.1) (fun _ => by kernel_rfl) (by kernel_rfl)
end Go.Proofs.YteopikhooiallaaGreatDoor
/- Functions of the program as plain functions, with their contracts. Printed by program. -/
set_option autoImplicit false
set_option linter.unusedVariables false
set_option linter.unusedSimpArgs false
namespace Go.Proofs.YteopikhooiallaaGreatDoor
open Go Go.Ab
/-! ### lineage/lineagelaw02.RowsetFamilies -/
noncomputable def law02_RowsetFamilies_cx : Cx ty := { base0 with nt := 36, spec := fun g => List.lookup g [(6, law02_awake_spec), (7, ref02_Few_spec), (8, ref02_Sets_spec), (9, rowset_Family_spec), (10, ref02_Family_spec), (11, rowset_Minimal_spec), (12, ref02_Minimal_spec), (13, rowset_Product_spec), (14, ref02_Product_spec)], io := fun g => (List.lookup g []).getD [], head := fun i => (List.lookup i []).getD [], out := outOf [], loops := fun i => List.lookup i [] }
noncomputable def law02_RowsetFamilies (a : List (List RowID)) (b : List (List RowID)) : Bool × Bool := bnd (ref02_Few a (8 : Int) (8 : Int)) (fun r10 => bif !r10 then (true, true) else bnd (ref02_Few b (8 : Int) (8 : Int)) (fun r9 => bif !r9 then (true, true) else bnd (rowset_Family a) (fun r8 => bnd (ref02_Family a) (fun r7 => bnd (ref02_Sets r8 r7) (fun r6 => bif r6 then bnd (rowset_Minimal a) (fun r5 => bnd (ref02_Minimal a) (fun r4 => bnd (ref02_Sets r5 r4) (fun r3 => bif r3 then bnd (rowset_Product a b) (fun r2 => bnd (ref02_Product a b) (fun r1 => bnd (ref02_Sets r2 r1) (fun r0 => (true, r0)) (false, default)) (false, default)) (false, default) else (true, false)) (false, default)) (false, default)) (false, default) else (true, false)) (false, default)) (false, default)) (false, default)) (false, default)) (false, default)
noncomputable def law02_RowsetFamilies_res (r : Bool) : ARes ty := ⟨[.pure (.lit (.bool r))], []⟩
theorem law02_RowsetFamilies_run (a : List (List RowID)) (b : List (List RowID)) : runFn law02_RowsetFamilies_cx Tryz.f3 (body Tryz.f3) ⟨[.pure], []⟩ [.pure (.sl 31 a), .pure (.sl 31 b)] = out (fun r => some (law02_RowsetFamilies_res r)) (law02_RowsetFamilies a b) := by
  have h : runFn law02_RowsetFamilies_cx Tryz.f3 (body Tryz.f3) ⟨[.pure], []⟩ [.pure (.sl 31 a), .pure (.sl 31 b)] = obnd (ref02_Few a (8 : Int) (8 : Int)) (fun r21 => bif !r21 then some ⟨[.pure (.lit (.bool true))], []⟩ else obnd (ref02_Few b (8 : Int) (8 : Int)) (fun r20 => bif !r20 then some ⟨[.pure (.lit (.bool true))], []⟩ else obnd (rowset_Family a) (fun r19 => obnd (ref02_Family a) (fun r18 => obnd (ref02_Sets r19 r18) (fun r17 => bif r17 then obnd (rowset_Minimal a) (fun r16 => obnd (ref02_Minimal a) (fun r15 => obnd (ref02_Sets r16 r15) (fun r14 => bif r14 then obnd (rowset_Product a b) (fun r13 => obnd (ref02_Product a b) (fun r12 => obnd (ref02_Sets r13 r12) (fun r11 => some ⟨[.pure (.lit (.bool (r11)))], []⟩))) else some ⟨[.pure (.lit (.bool false))], []⟩))) else some ⟨[.pure (.lit (.bool false))], []⟩))))) := by kernel_rfl
  rw [law02_RowsetFamilies]
  exact h.trans (out_ite (out_ite (rfl) (out_ite (out_ite (rfl) (out_ite (out_ite (out_ite (out_ite (out_ite (out_ite (out_ite (out_ite (out_ite (out_ite (out_ite (rfl) (rfl)) (rfl)) (rfl)) (rfl)) (rfl)) (rfl)) (rfl)) (rfl)) (rfl)) (rfl)) (rfl))) (rfl))) (rfl))
noncomputable def law02_RowsetFamilies_A : AL base0 (List (List RowID) × List (List RowID) × Unit) := aCons (aPure (vSl 31)) (aCons (aPure (vSl 31)) aNil)
noncomputable def law02_RowsetFamilies_spec : Ab.Spec ty := mkSpec law02_RowsetFamilies_A fun x => ((law02_RowsetFamilies x.1 x.2.1).1, law02_RowsetFamilies_res (law02_RowsetFamilies x.1 x.2.1).2)
theorem law02_RowsetFamilies_sound : Sound Tryz.prog base0 3 law02_RowsetFamilies_spec :=
  sound_of_run (cx' := law02_RowsetFamilies_cx) draws base0_ok ⟨⟨rfl, rfl, rfl, rfl, rfl, rfl⟩, rfl⟩ (spec_of [(6, law02_awake_spec), (7, ref02_Few_spec), (8, ref02_Sets_spec), (9, rowset_Family_spec), (10, ref02_Family_spec), (11, rowset_Minimal_spec), (12, ref02_Minimal_spec), (13, rowset_Product_spec), (14, ref02_Product_spec)] ⟨(law02_awake_sound), (ref02_Few_sound.nodr), (ref02_Sets_sound.nodr), (rowset_Family_sound.nodr), (ref02_Family_sound.nodr), (rowset_Minimal_sound.nodr), (ref02_Minimal_sound.nodr), (rowset_Product_sound.nodr), (ref02_Product_sound.nodr), trivial⟩) Tryz.call3 Tryz.func3 (c := body Tryz.f3) (by kernel_rfl) (loopsOK_of (l := []) (by kernel_rfl) trivial) (sg := ⟨[.pure], []⟩) (A := law02_RowsetFamilies_A) (res := law02_RowsetFamilies_res) (F := fun x => law02_RowsetFamilies x.1 x.2.1) (fun x => law02_RowsetFamilies_run x.1 x.2.1) (fun _ => by kernel_rfl) (by kernel_rfl)
end Go.Proofs.YteopikhooiallaaGreatDoor
/- What the printed functions compute: the reference's functions on sets of row identifiers. -/
set_option autoImplicit false
set_option linter.unusedVariables false
set_option linter.unusedSimpArgs false
namespace Go.Proofs.YteopikhooiallaaGreatDoor
open Go Go.Ab

/-! ### the order of row identifiers -/
def cR (a b : RowID) : Int := if a.Table < b.Table then -1 else if b.Table < a.Table then 1 else if a.Seq < b.Seq then -1 else if b.Seq < a.Seq then 1 else 0
theorem cR_ord : Ord3 cR where
  eq := fun x y => by
    obtain ⟨a, b⟩ := x; obtain ⟨c, d⟩ := y
    simp only [cR, RowID.mk.injEq]
    repeat' split
    all_goals omega
  swap := fun x y => by
    simp only [cR]
    repeat' split
    all_goals omega
  trans := fun x y z => by
    simp only [cR]
    repeat' split
    all_goals omega
theorem cR_range (a b : RowID) : cR a b = -1 ∨ cR a b = 0 ∨ cR a b = 1 := by
  simp only [cR]
  repeat' split
  all_goals omega
theorem eqR' (a b : RowID) : (a.Table == b.Table && a.Seq == b.Seq) = decide (a = b) := by
  obtain ⟨p, q⟩ := a; obtain ⟨r, s⟩ := b
  by_cases h1 : p = r <;> by_cases h2 : q = s <;> simp [h1, h2]
theorem eqR (a b : RowID) : (a.Table == b.Table && (a.Seq == b.Seq && true)) = decide (a = b) := by
  rw [Bool.and_true, eqR']
abbrev cS : List RowID → List RowID → Int := lexc cR
theorem cS_ord : Ord3 cS := lexc_ord cR_ord
abbrev nR : List RowID → List RowID := snorm cR

theorem ref02_Compare_eq (a b : RowID) : ref02_Compare a b = (true, cR a b) := by
  unfold ref02_Compare cR
  rw [eqR]
  by_cases h : a = b
  · subst h; simp
  · obtain ⟨p, q⟩ := a; obtain ⟨r, s⟩ := b
    have h' : ¬ (p = r ∧ q = s) := by simpa using h
    simp only [h, decide_false, cond_false]
    by_cases h1 : p < r
    · simp [h1]
    · by_cases h2 : p = r
      · subst h2
        by_cases h3 : q < s
        · simp [h3]
        · have h4 : s < q := by omega
          simp [h3, h4]
      · have h3 : r < p := by omega
        have h4 : (p == r) = false := by simp [h2]
        simp [h1, h4, h3]

theorem In_loop (l : List RowID) (id : RowID) (hl : l.length ≤ 1000000) : ∀ (n i : Nat), l.length < i + n → i ≤ l.length → ref02_In_L2 n l i id = (true, if id ∈ l.drop i then .inl true else .inr ())
  | 0, i, h, h2 => by omega
  | n + 1, i, h, h2 => by
    rw [ref02_In_L2]
    by_cases hi : i < l.length
    · simp only [Int.ofNat_eq_natCast, lt_nat, le0_nat, decide_true, decide_false, Bool.and_self, Bool.true_and, Bool.and_true, cond_true, cond_false, Int.toNat_natCast, eqR, eqR', Bool.not_true, Bool.not_false, bnd, hi]
      rw [drop_lt hi, wrap_succ (by omega), In_loop l id hl n (i + 1) (by omega) (by omega)]
      generalize l.getD i default = x
      by_cases he : x = id
      · subst he; simp
      · simp [he, Ne.symm he]
    · simp only [Int.ofNat_eq_natCast, lt_nat, le0_nat, decide_true, decide_false, Bool.and_self, Bool.true_and, Bool.and_true, cond_true, cond_false, Int.toNat_natCast, eqR, eqR', Bool.not_true, Bool.not_false, bnd, hi, drop_ge hi]; simp
theorem ref02_In_eq (l : List RowID) (id : RowID) (hl : l.length ≤ 1000000) : ref02_In l id = (true, decide (id ∈ l)) := by
  unfold ref02_In
  rw [show (0 : Int) = ((0 : Nat) : Int) from rfl, In_loop l id hl _ 0 (by simp) (by omega)]
  by_cases h : id ∈ l <;> simp [h, isL, getL, bnd]

/-- Insertion before the first that is greater: did it happen, and with what. -/
def insb (x : RowID) : List RowID → Bool × List RowID
  | [] => (false, [])
  | y :: r => if cR x y < 0 then (true, x :: y :: r) else ((insb x r).1, y :: (insb x r).2)
theorem insb_sins (x : RowID) : ∀ (l : List RowID), x ∉ l → (if (insb x l).1 then (insb x l).2 else (insb x l).2 ++ [x]) = sins cR x l
  | [], _ => by simp [insb, sins]
  | y :: r, h => by
    have h1 : x ≠ y := fun e => h (by simp [e])
    have h2 := insb_sins x r fun e => h (by simp [e])
    unfold insb sins
    by_cases hc : cR x y < 0
    · simp [hc]
    · have h3 : ¬ cR x y = 0 := fun e => h1 ((cR_ord.eq x y).1 e)
      simp only [hc, h3, if_false]
      rw [← h2]
      cases (insb x r).1 <;> simp
theorem insb_length (x : RowID) : ∀ (l : List RowID), (insb x l).2.length ≤ l.length + 1
  | [] => by simp [insb]
  | y :: r => by
    have := insb_length x r
    unfold insb
    split
    · simp
    · simp; omega
theorem insert_loop (l : List RowID) (id : RowID) (hl : l.length ≤ 1000000) : ∀ (n i : Nat) (done : Bool) (o : List RowID), l.length < i + n → i ≤ l.length → o.length ≤ i + (if done then 1 else 0) →
    ref02_insert_L6 n l done i id o = (true, if done then (true, id, o ++ l.drop i) else ((insb id (l.drop i)).1, id, o ++ (insb id (l.drop i)).2))
  | 0, i, done, o, h, h2, h3 => by omega
  | n + 1, i, done, o, h, h2, h3 => by
    rw [ref02_insert_L6]
    by_cases hi : i < l.length
    · have h4 : o.length ≤ i + 1 := by split at h3 <;> omega
      have e1 : (o.length + 1) * 16 ≤ reach := reach_of (by omega) (by omega)
      have e2 : (o.length + 1 + 1) * 16 ≤ reach := reach_of (by omega) (by omega)
      simp only [Int.ofNat_eq_natCast, lt_nat, le0_nat, decide_true, decide_false, Bool.and_self, Bool.true_and, Bool.and_true, cond_true, cond_false, Int.toNat_natCast, eqR, eqR', Bool.not_true, Bool.not_false, bnd, hi, ref02_Compare_eq, List.length_singleton, List.length_append, e1, e2]
      rw [wrap_succ (by omega), drop_lt hi]
      generalize l.getD i default = x
      cases done with
      | true =>
        simp only [Bool.not_true, cond_false, if_true] at h3 ⊢
        rw [insert_loop l id hl n (i + 1) true _ (by omega) (by omega) (by simp; omega)]
        simp
      | false =>
        simp only [Bool.not_false, cond_true, insb, Bool.false_eq_true, if_false] at h3 ⊢
        by_cases hc : cR id x < 0
        · simp only [hc, decide_true, cond_true, if_true]
          rw [insert_loop l id hl n (i + 1) true _ (by omega) (by omega) (by simp; omega)]
          simp
        · simp only [hc, decide_false, cond_false, if_false]
          rw [insert_loop l id hl n (i + 1) false _ (by omega) (by omega) (by simp; omega)]
          simp
    · simp only [Int.ofNat_eq_natCast, lt_nat, le0_nat, decide_true, decide_false, Bool.and_self, Bool.true_and, Bool.and_true, cond_true, cond_false, Int.toNat_natCast, eqR, eqR', Bool.not_true, Bool.not_false, bnd, hi, drop_ge hi]
      cases done <;> simp [insb]
theorem ref02_insert_eq (l : List RowID) (id : RowID) (hl : l.length ≤ 1000000) (hs : SAsc cR l) : ref02_insert l id = (true, sins cR id l) := by
  unfold ref02_insert
  rw [ref02_In_eq l id hl]
  by_cases h : id ∈ l
  · simp only [Int.ofNat_eq_natCast, lt_nat, le0_nat, decide_true, decide_false, Bool.and_self, Bool.true_and, Bool.and_true, cond_true, cond_false, Int.toNat_natCast, eqR, eqR', Bool.not_true, Bool.not_false, bnd, h]
    congr 1
    exact sasc_unique cR_ord hs (sins_asc cR_ord id hs) fun z => by
      rw [sins_mem cR_ord]
      exact ⟨.inr, fun h' => h'.elim (fun e => e ▸ h) fun h' => h'⟩
  · simp only [Int.ofNat_eq_natCast, lt_nat, le0_nat, decide_true, decide_false, Bool.and_self, Bool.true_and, Bool.and_true, cond_true, cond_false, Int.toNat_natCast, eqR, eqR', Bool.not_true, Bool.not_false, bnd, h]
    rw [show (0 : Int) = ((0 : Nat) : Int) from rfl, insert_loop l id hl _ 0 false [] (by simp) (by omega) (by simp)]
    have h1 := insb_length id l
    have e1 : ((insb id l).2.length + 1) * 16 ≤ reach := reach_of (by omega) (by omega)
    simp only [Bool.false_eq_true, if_false, List.drop_zero, List.nil_append, List.length_singleton, e1, decide_true, cond_true]
    rw [← insb_sins id l h]
    cases (insb id l).1 <;> simp
theorem sins_length (x : RowID) : ∀ l : List RowID, (sins cR x l).length ≤ l.length + 1
  | [] => by simp [sins]
  | y :: r => by
    have := sins_length x r
    unfold sins
    split
    · simp
    · split <;> simp <;> omega

theorem Normalize_loop (l : List RowID) (hl : l.length ≤ 100000) : ∀ (n i : Nat) (o : List RowID), l.length < i + n → i ≤ l.length → SAsc cR o → o.length + l.length ≤ 500000 + i → ref02_Normalize_L3 n l o i = (true, (l.drop i).foldl (fun o x => sins cR x o) o)
  | 0, i, o, h, h2, hs, h3 => by omega
  | n + 1, i, o, h, h2, hs, h3 => by
    rw [ref02_Normalize_L3]
    by_cases hi : i < l.length
    · simp only [Int.ofNat_eq_natCast, lt_nat, le0_nat, decide_true, decide_false, Bool.and_self, Bool.true_and, Bool.and_true, cond_true, cond_false, Int.toNat_natCast, eqR, eqR', Bool.not_true, Bool.not_false, bnd, hi]
      rw [drop_lt hi, wrap_succ (by omega), ref02_insert_eq _ _ (by omega) hs]
      generalize l.getD i default = x
      have := sins_length x o
      simp only [cond_true]
      rw [Normalize_loop l hl n (i + 1) _ (by omega) (by omega) (sins_asc cR_ord x hs) (by omega)]
      rfl
    · simp only [Int.ofNat_eq_natCast, lt_nat, le0_nat, decide_true, decide_false, Bool.and_self, Bool.true_and, Bool.and_true, cond_true, cond_false, Int.toNat_natCast, eqR, eqR', Bool.not_true, Bool.not_false, bnd, hi, drop_ge hi]; rfl
theorem ref02_Normalize_eq (l : List RowID) (hl : l.length ≤ 100000) : ref02_Normalize l = (true, nR l) := by
  unfold ref02_Normalize
  rw [show (0 : Int) = ((0 : Nat) : Int) from rfl, Normalize_loop l hl _ 0 [] (by simp) (by omega) .nil (by simp; omega)]
  rfl
theorem Union_loop (b : List RowID) (hl : b.length ≤ 100000) : ∀ (n i : Nat) (o : List RowID), b.length < i + n → i ≤ b.length → SAsc cR o → o.length + b.length ≤ 500000 + i → ref02_Union_L3 n b o i = (true, (b.drop i).foldl (fun o x => sins cR x o) o)
  | 0, i, o, h, h2, hs, h3 => by omega
  | n + 1, i, o, h, h2, hs, h3 => by
    rw [ref02_Union_L3]
    by_cases hi : i < b.length
    · simp only [Int.ofNat_eq_natCast, lt_nat, le0_nat, decide_true, decide_false, Bool.and_self, Bool.true_and, Bool.and_true, cond_true, cond_false, Int.toNat_natCast, eqR, eqR', Bool.not_true, Bool.not_false, bnd, hi]
      rw [drop_lt hi, wrap_succ (by omega), ref02_insert_eq _ _ (by omega) hs]
      generalize b.getD i default = x
      have := sins_length x o
      simp only [cond_true]
      rw [Union_loop b hl n (i + 1) _ (by omega) (by omega) (sins_asc cR_ord x hs) (by omega)]
      rfl
    · simp only [Int.ofNat_eq_natCast, lt_nat, le0_nat, decide_true, decide_false, Bool.and_self, Bool.true_and, Bool.and_true, cond_true, cond_false, Int.toNat_natCast, eqR, eqR', Bool.not_true, Bool.not_false, bnd, hi, drop_ge hi]; rfl
theorem ref02_Union_eq (a b : List RowID) (ha : a.length ≤ 100000) (hb : b.length ≤ 100000) : ref02_Union a b = (true, nR (a ++ b)) := by
  unfold ref02_Union
  have h1 := snorm_length cR_ord a
  rw [ref02_Normalize_eq a ha, bnd, show (0 : Int) = ((0 : Nat) : Int) from rfl]
  simp only [cond_true]
  rw [Union_loop b hb _ 0 _ (by simp; omega) (by omega) (snorm_asc cR_ord a) (by omega)]
  simp only [bnd, cond_true, List.drop_zero, nR, snorm, List.foldl_append]
theorem Subset_loop (a b : List RowID) (ha : a.length ≤ 1000000) (hb : b.length ≤ 1000000) : ∀ (n i : Nat), a.length < i + n → i ≤ a.length → ref02_Subset_L2 n a b i = (true, if (a.drop i).all (fun x => decide (x ∈ b)) then .inr () else .inl false)
  | 0, i, h, h2 => by omega
  | n + 1, i, h, h2 => by
    rw [ref02_Subset_L2]
    by_cases hi : i < a.length
    · simp only [Int.ofNat_eq_natCast, lt_nat, le0_nat, decide_true, decide_false, Bool.and_self, Bool.true_and, Bool.and_true, cond_true, cond_false, Int.toNat_natCast, eqR, eqR', Bool.not_true, Bool.not_false, bnd, hi, ref02_In_eq b _ hb]
      rw [drop_lt hi, wrap_succ (by omega), Subset_loop a b ha hb n (i + 1) (by omega) (by omega)]
      generalize a.getD i default = x
      by_cases hx : x ∈ b <;> simp [hx]
    · simp only [Int.ofNat_eq_natCast, lt_nat, le0_nat, decide_true, decide_false, Bool.and_self, Bool.true_and, Bool.and_true, cond_true, cond_false, Int.toNat_natCast, eqR, eqR', Bool.not_true, Bool.not_false, bnd, hi, drop_ge hi]; rfl
theorem ref02_Subset_eq (a b : List RowID) (ha : a.length ≤ 1000000) (hb : b.length ≤ 1000000) : ref02_Subset a b = (true, a.all fun x => decide (x ∈ b)) := by
  unfold ref02_Subset
  rw [show (0 : Int) = ((0 : Nat) : Int) from rfl, Subset_loop a b ha hb _ 0 (by simp; omega) (by omega)]
  simp only [List.drop_zero]
  cases a.all fun x => decide (x ∈ b) <;> rfl

theorem Same_loop (a b : List RowID) (ha : a.length ≤ 1000000) (hab : a.length = b.length) : ∀ (n i : Nat), a.length < i + n → i ≤ a.length → ref02_Same_L4 n a b i = (true, if a.drop i = b.drop i then .inr () else .inl false)
  | 0, i, h, h2 => by omega
  | n + 1, i, h, h2 => by
    rw [ref02_Same_L4]
    by_cases hi : i < a.length
    · have hi' : i < b.length := by omega
      simp only [Int.ofNat_eq_natCast, lt_nat, le0_nat, decide_true, decide_false, Bool.and_self, Bool.true_and, Bool.and_true, cond_true, cond_false, Int.toNat_natCast, eqR, eqR', Bool.not_true, Bool.not_false, bnd, hi, hi']
      rw [drop_lt hi, drop_lt hi', wrap_succ (by omega), Same_loop a b ha hab n (i + 1) (by omega) (by omega)]
      generalize a.getD i default = x
      generalize b.getD i default = y
      by_cases hx : x = y <;> simp [hx]
    · have hi' : ¬ i < b.length := by omega
      simp only [Int.ofNat_eq_natCast, lt_nat, le0_nat, decide_true, decide_false, Bool.and_self, Bool.true_and, Bool.and_true, cond_true, cond_false, Int.toNat_natCast, eqR, eqR', Bool.not_true, Bool.not_false, bnd, hi, drop_ge hi, drop_ge hi']; simp
theorem ref02_Same_eq (a b : List RowID) (ha : a.length ≤ 1000000) : ref02_Same a b = (true, decide (a = b)) := by
  unfold ref02_Same
  simp only [Int.ofNat_eq_natCast, bne_nat]
  by_cases hab : a.length = b.length
  · simp only [hab, ne_eq, not_true_eq_false, decide_false, cond_false]
    rw [show (0 : Int) = ((0 : Nat) : Int) from rfl, Same_loop a b ha hab _ 0 (by simp; omega) (by omega)]
    by_cases h : a = b <;> simp [h, isL, getL, bnd]
  · have : a ≠ b := fun e => hab (by rw [e])
    simp [hab, this]
theorem Sets_loop (a b : List (List RowID)) (ha : a.length ≤ 1000000) (hae : ∀ s ∈ a, s.length ≤ 1000000) (hab : a.length = b.length) : ∀ (n i : Nat), a.length < i + n → i ≤ a.length → ref02_Sets_L4 n a b i = (true, if a.drop i = b.drop i then .inr () else .inl false)
  | 0, i, h, h2 => by omega
  | n + 1, i, h, h2 => by
    rw [ref02_Sets_L4]
    by_cases hi : i < a.length
    · have hi' : i < b.length := by omega
      simp only [Int.ofNat_eq_natCast, lt_nat, le0_nat, decide_true, decide_false, Bool.and_self, Bool.true_and, Bool.and_true, cond_true, cond_false, Int.toNat_natCast, eqR, eqR', Bool.not_true, Bool.not_false, bnd, hi, hi', ref02_Same_eq _ _ (hae _ (getD_mem hi))]
      rw [drop_lt hi, drop_lt hi', wrap_succ (by omega), Sets_loop a b ha hae hab n (i + 1) (by omega) (by omega)]
      generalize a.getD i default = x
      generalize b.getD i default = y
      by_cases hx : x = y <;> simp [hx]
    · have hi' : ¬ i < b.length := by omega
      simp only [Int.ofNat_eq_natCast, lt_nat, le0_nat, decide_true, decide_false, Bool.and_self, Bool.true_and, Bool.and_true, cond_true, cond_false, Int.toNat_natCast, eqR, eqR', Bool.not_true, Bool.not_false, bnd, hi, drop_ge hi, drop_ge hi']; simp
theorem ref02_Sets_eq (a b : List (List RowID)) (ha : a.length ≤ 1000000) (hae : ∀ s ∈ a, s.length ≤ 1000000) : ref02_Sets a b = (true, decide (a = b)) := by
  unfold ref02_Sets
  simp only [Int.ofNat_eq_natCast, bne_nat]
  by_cases hab : a.length = b.length
  · simp only [hab, ne_eq, not_true_eq_false, decide_false, cond_false]
    rw [show (0 : Int) = ((0 : Nat) : Int) from rfl, Sets_loop a b ha hae hab _ 0 (by simp; omega) (by omega)]
    by_cases h : a = b <;> simp [h, isL, getL, bnd]
  · have : a ≠ b := fun e => hab (by rw [e])
    simp [hab, this]

theorem CompareSets_loop (a b : List RowID) (ha : a.length ≤ 1000000) (hb : b.length ≤ 1000000) : ∀ (n i : Nat), a.length < i + n → i ≤ a.length → i ≤ b.length →
    ∃ r, ref02_CompareSets_L2 n a b i = (true, r) ∧ ((r = .inl (cS (a.drop i) (b.drop i))) ∨ (r = .inr (a, b) ∧ cS (a.drop i) (b.drop i) = if a.length < b.length then -1 else if b.length < a.length then 1 else 0))
  | 0, i, h, h2, h3 => by omega
  | n + 1, i, h, h2, h3 => by
    rw [ref02_CompareSets_L2]
    by_cases hi : i < a.length
    · by_cases hi' : i < b.length
      · simp only [Int.ofNat_eq_natCast, lt_nat, le0_nat, decide_true, decide_false, Bool.and_self, Bool.true_and, Bool.and_true, cond_true, cond_false, Int.toNat_natCast, eqR, eqR', Bool.not_true, Bool.not_false, bnd, hi, hi', ref02_Compare_eq]
        rw [drop_lt hi, drop_lt hi', wrap_succ (by omega)]
        generalize a.getD i default = x
        generalize b.getD i default = y
        by_cases hx : cR x y = 0
        · have e : (cR x y != 0) = false := by simp [hx]
          simp only [e, cond_false, lexc, hx, if_true]
          exact CompareSets_loop a b ha hb n (i + 1) (by omega) (by omega) (by omega)
        · have e : (cR x y != 0) = true := by simp [hx]
          simp only [e, cond_true, lexc, hx, if_false]
          exact ⟨_, rfl, .inl rfl⟩
      · simp only [Int.ofNat_eq_natCast, lt_nat, le0_nat, decide_true, decide_false, Bool.and_self, Bool.true_and, Bool.and_true, cond_true, cond_false, Int.toNat_natCast, eqR, eqR', Bool.not_true, Bool.not_false, bnd, hi, hi']
        refine ⟨_, rfl, .inr ⟨rfl, ?_⟩⟩
        rw [drop_lt hi, drop_ge hi', if_neg (by omega), if_pos (by omega)]; rfl
    · simp only [Int.ofNat_eq_natCast, lt_nat, le0_nat, decide_true, decide_false, Bool.and_self, Bool.true_and, Bool.and_true, cond_true, cond_false, Int.toNat_natCast, eqR, eqR', Bool.not_true, Bool.not_false, bnd, hi]
      refine ⟨_, rfl, .inr ⟨rfl, ?_⟩⟩
      rw [drop_ge hi]
      by_cases hi' : i < b.length
      · rw [drop_lt hi', if_pos (by omega)]; rfl
      · rw [drop_ge hi', if_neg (by omega), if_neg (by omega)]; rfl
theorem ref02_CompareSets_eq (a b : List RowID) (ha : a.length ≤ 1000000) (hb : b.length ≤ 1000000) : ref02_CompareSets a b = (true, cS a b) := by
  unfold ref02_CompareSets
  obtain ⟨r, h1, h2⟩ := CompareSets_loop a b ha hb (a.length + b.length + Int.toNat 0 + 1) 0 (by simp; omega) (by omega) (by omega)
  rw [show (0 : Int) = ((0 : Nat) : Int) from rfl] at *
  rw [h1]
  simp only [List.drop_zero] at h2
  rcases h2 with rfl | ⟨rfl, h2⟩
  · rfl
  · rw [h2]
    simp only [Int.ofNat_eq_natCast, lt_nat, le0_nat, decide_true, decide_false, Bool.and_self, Bool.true_and, Bool.and_true, cond_true, cond_false, Int.toNat_natCast, eqR, eqR', Bool.not_true, Bool.not_false, bnd, isL, getR, gt_nat]
    by_cases h3 : a.length < b.length
    · simp [h3]
    · by_cases h4 : b.length < a.length <;> simp [h3, h4]

theorem few_loop (l : List (List RowID)) (m : Nat) (hl : l.length ≤ 1000000) : ∀ (n i : Nat), l.length < i + n → i ≤ l.length → ref02_Few_L4 n l m i = (true, if (l.drop i).all (fun s => decide (s.length ≤ m)) then .inr () else .inl false)
  | 0, i, h, h2 => by omega
  | n + 1, i, h, h2 => by
    rw [ref02_Few_L4]
    by_cases hi : i < l.length
    · simp only [Int.ofNat_eq_natCast, lt_nat, le0_nat, decide_true, decide_false, Bool.and_self, Bool.true_and, Bool.and_true, cond_true, cond_false, Int.toNat_natCast, eqR, eqR', Bool.not_true, Bool.not_false, bnd, hi, gt_nat]
      rw [drop_lt hi, wrap_succ (by omega), few_loop l m hl n (i + 1) (by omega) (by omega)]
      generalize l.getD i default = x
      by_cases hx : x.length ≤ m
      · have : ¬ m < x.length := by omega
        simp [hx, this]
      · have : m < x.length := by omega
        simp [hx, this]
    · simp only [Int.ofNat_eq_natCast, lt_nat, le0_nat, decide_true, decide_false, Bool.and_self, Bool.true_and, Bool.and_true, cond_true, cond_false, Int.toNat_natCast, eqR, eqR', Bool.not_true, Bool.not_false, bnd, hi, drop_ge hi]; rfl
theorem ref02_Few_eq (l : List (List RowID)) (k m : Nat) (hk : k ≤ 1000) : ref02_Few l k m = (true, decide (l.length ≤ k) && l.all fun s => decide (s.length ≤ m)) := by
  unfold ref02_Few
  simp only [Int.ofNat_eq_natCast, gt_nat]
  by_cases h : k < l.length
  · have : ¬ l.length ≤ k := by omega
    simp [h, this]
  · have h' : l.length ≤ k := by omega
    simp only [h, h', decide_false, cond_false, decide_true, Bool.true_and]
    rw [show (0 : Int) = ((0 : Nat) : Int) from rfl, few_loop l m (by omega) _ 0 (by simp; omega) (by omega)]
    simp only [List.drop_zero]
    cases l.all fun s => decide (s.length ≤ m) <;> rfl

/-- Each with the one before it. -/
def chain {α : Type} (c : α → α → Int) : α → List α → Bool
  | _, [] => true
  | x, y :: r => decide (c x y < 0) && chain c y r
theorem chain_iff {α : Type} {c : α → α → Int} (h : Ord3 c) : ∀ (l : List α) (x : α), chain c x l = true ↔ SAsc c (x :: l)
  | [], x => by simp [chain]
  | y :: r, x => by
    simp only [chain, Bool.and_eq_true, decide_eq_true_eq, chain_iff h r y]
    constructor
    · rintro ⟨h1, h2⟩
      refine List.pairwise_cons.2 ⟨fun z hz => ?_, h2⟩
      rcases List.mem_cons.1 hz with rfl | hz
      · exact h1
      · exact h.trans _ _ _ h1 ((List.pairwise_cons.1 h2).1 z hz)
    · intro h1
      exact ⟨(List.pairwise_cons.1 h1).1 y (by simp), (List.pairwise_cons.1 h1).2⟩
end Go.Proofs.YteopikhooiallaaGreatDoor
/- What the printed functions compute: the program's functions on sets of row identifiers. -/
set_option autoImplicit false
set_option linter.unusedVariables false
set_option linter.unusedSimpArgs false
namespace Go.Proofs.YteopikhooiallaaGreatDoor
open Go Go.Ab

theorem cmp_Compare_int_eq (x y : Int) : cmp_Compare_int x y = (true, if x < y then -1 else if y < x then 1 else 0) := by
  unfold cmp_Compare_int cmp_isNaN_int
  by_cases h1 : x < y
  · simp [h1]
  · by_cases h2 : y < x <;> simp [h1, h2]
/-- The first that is not zero. -/
def firstNZ : List Int → Int
  | [] => 0
  | x :: r => if x = 0 then firstNZ r else x
theorem Or_loop (l : List Int) (hl : l.length ≤ 1000000) : ∀ (n i : Nat), l.length < i + n → i ≤ l.length → ∃ r, cmp_Or_int_L3 n 0 l l.length i = (true, r) ∧ (r = .inl (firstNZ (l.drop i)) ∨ (r = .inr 0 ∧ firstNZ (l.drop i) = 0))
  | 0, i, h, h2 => by omega
  | n + 1, i, h, h2 => by
    rw [cmp_Or_int_L3]
    by_cases hi : i < l.length
    · simp only [Int.ofNat_eq_natCast, lt_nat, le0_nat, decide_true, decide_false, Bool.and_self, Bool.true_and, Bool.and_true, cond_true, cond_false, Int.toNat_natCast, eqR, eqR', Bool.not_true, Bool.not_false, bnd, hi]
      obtain ⟨r, h1, h3⟩ := Or_loop l hl n (i + 1) (by omega) (by omega)
      rw [drop_lt hi, wrap_succ (by omega), h1]
      generalize l.getD i default = x
      by_cases hx : x = 0
      · have e : (x != 0) = false := by simp [hx]
        simp only [e, cond_false, firstNZ, hx, if_true]
        exact ⟨r, rfl, h3⟩
      · have e : (x != 0) = true := by simp [hx]
        simp only [e, cond_true, firstNZ, hx, if_false]
        exact ⟨_, rfl, .inl rfl⟩
    · simp only [Int.ofNat_eq_natCast, lt_nat, le0_nat, decide_true, decide_false, Bool.and_self, Bool.true_and, Bool.and_true, cond_true, cond_false, Int.toNat_natCast, eqR, eqR', Bool.not_true, Bool.not_false, bnd, hi, drop_ge hi]
      exact ⟨_, rfl, .inr ⟨rfl, rfl⟩⟩
theorem cmp_Or_int_eq (l : List Int) (hl : l.length ≤ 1000000) : cmp_Or_int l = (true, firstNZ l) := by
  unfold cmp_Or_int
  obtain ⟨r, h1, h2⟩ := Or_loop l hl (Int.toNat 0 + l.length + (Int.ofNat l.length).toNat + Int.toNat 0 + 1) 0 (by simp; omega) (by omega)
  rw [show Int.ofNat l.length = (l.length : Int) from rfl] at *
  rw [show ((0 : Nat) : Int) = (0 : Int) from rfl] at h1
  rw [h1]
  rw [List.drop_zero] at h2
  rcases h2 with rfl | ⟨rfl, h2⟩
  · rfl
  · rw [h2]; rfl
theorem rowset_Compare_eq (a b : RowID) : rowset_Compare a b = (true, cR a b) := by
  unfold rowset_Compare
  simp only [cmp_Compare_int_eq, bnd, cond_true]
  rw [cmp_Or_int_eq _ (by simp)]
  simp only [cond_true, cR, firstNZ]
  congr 1
  repeat' split
  all_goals first | rfl | omega

theorem CompareFunc_loop (a b : List RowID) (ha : a.length ≤ 1000000) (hb : b.length ≤ 1000000) : ∀ (n i : Nat), a.length < i + n → i ≤ a.length → i ≤ b.length →
    ∃ r, slices_CompareFunc_Lapi_RowID_Lapi_RowID_api_RowID_api_RowID_L2 n a b a a.length i = (true, r) ∧ ((r = .inl (cS (a.drop i) (b.drop i))) ∨ (r = .inr (a, b) ∧ cS (a.drop i) (b.drop i) = if a.length < b.length then -1 else 0))
  | 0, i, h, h2, h3 => by omega
  | n + 1, i, h, h2, h3 => by
    rw [slices_CompareFunc_Lapi_RowID_Lapi_RowID_api_RowID_api_RowID_L2]
    by_cases hi : i < a.length
    · by_cases hi' : i < b.length
      · have hg : ¬ b.length ≤ i := by omega
        simp only [Int.ofNat_eq_natCast, lt_nat, le0_nat, decide_true, decide_false, Bool.and_self, Bool.true_and, Bool.and_true, cond_true, cond_false, Int.toNat_natCast, eqR, eqR', Bool.not_true, Bool.not_false, bnd, hi, hi', ge_nat, hg, rowset_Compare_eq]
        rw [drop_lt hi, drop_lt hi', wrap_succ (by omega)]
        generalize a.getD i default = x
        generalize b.getD i default = y
        by_cases hx : cR x y = 0
        · have e : (cR x y != 0) = false := by simp [hx]
          simp only [e, cond_false, lexc, hx, if_true]
          exact CompareFunc_loop a b ha hb n (i + 1) (by omega) (by omega) (by omega)
        · have e : (cR x y != 0) = true := by simp [hx]
          simp only [e, cond_true, lexc, hx, if_false]
          exact ⟨_, rfl, .inl rfl⟩
      · have hg : b.length ≤ i := by omega
        simp only [Int.ofNat_eq_natCast, lt_nat, le0_nat, decide_true, decide_false, Bool.and_self, Bool.true_and, Bool.and_true, cond_true, cond_false, Int.toNat_natCast, eqR, eqR', Bool.not_true, Bool.not_false, bnd, hi, ge_nat, hg]
        refine ⟨_, rfl, .inl ?_⟩
        rw [drop_lt hi, drop_ge hi']; rfl
    · simp only [Int.ofNat_eq_natCast, lt_nat, le0_nat, decide_true, decide_false, Bool.and_self, Bool.true_and, Bool.and_true, cond_true, cond_false, Int.toNat_natCast, eqR, eqR', Bool.not_true, Bool.not_false, bnd, hi]
      refine ⟨_, rfl, .inr ⟨rfl, ?_⟩⟩
      rw [drop_ge hi]
      by_cases hi' : i < b.length
      · rw [drop_lt hi', if_pos (by omega)]; rfl
      · rw [drop_ge hi', if_neg (by omega)]; rfl
theorem rowset_compareSets_eq (a b : List RowID) (ha : a.length ≤ 1000000) (hb : b.length ≤ 1000000) : rowset_compareSets a b = (true, cS a b) := by
  unfold rowset_compareSets
  have h : slices_CompareFunc_Lapi_RowID_Lapi_RowID_api_RowID_api_RowID a b = (true, cS a b) := by
    unfold slices_CompareFunc_Lapi_RowID_Lapi_RowID_api_RowID_api_RowID
    obtain ⟨r, h1, h2⟩ := CompareFunc_loop a b ha hb (a.length + b.length + a.length + (Int.ofNat a.length).toNat + Int.toNat 0 + 1) 0 (by simp; omega) (by omega) (by omega)
    rw [show (0 : Int) = ((0 : Nat) : Int) from rfl] at *
    rw [show Int.ofNat a.length = (a.length : Int) from rfl] at *
    rw [h1]
    simp only [List.drop_zero] at h2
    rcases h2 with rfl | ⟨rfl, h2⟩
    · rfl
    · rw [h2]
      simp only [Int.ofNat_eq_natCast, lt_nat, le0_nat, decide_true, decide_false, Bool.and_self, Bool.true_and, Bool.and_true, cond_true, cond_false, Int.toNat_natCast, eqR, eqR', Bool.not_true, Bool.not_false, bnd, isL, getR]
      by_cases h3 : a.length < b.length <;> simp [h3]
  rw [h]; rfl

theorem Equal_loop (a b : List RowID) (ha : a.length ≤ 1000000) (hab : a.length = b.length) : ∀ (n i : Nat), a.length < i + n → i ≤ a.length → slices_Equal_Lapi_RowID_api_RowID_L4 n a b a.length i = (true, if a.drop i = b.drop i then .inr () else .inl false)
  | 0, i, h, h2 => by omega
  | n + 1, i, h, h2 => by
    rw [slices_Equal_Lapi_RowID_api_RowID_L4]
    by_cases hi : i < a.length
    · have hi' : i < b.length := by omega
      simp only [Int.ofNat_eq_natCast, lt_nat, le0_nat, decide_true, decide_false, Bool.and_self, Bool.true_and, Bool.and_true, cond_true, cond_false, Int.toNat_natCast, eqR, eqR', Bool.not_true, Bool.not_false, bnd, hi, hi']
      rw [drop_lt hi, drop_lt hi', wrap_succ (by omega), Equal_loop a b ha hab n (i + 1) (by omega) (by omega)]
      generalize a.getD i default = x
      generalize b.getD i default = y
      by_cases hx : x = y <;> simp [hx]
    · have hi' : ¬ i < b.length := by omega
      simp only [Int.ofNat_eq_natCast, lt_nat, le0_nat, decide_true, decide_false, Bool.and_self, Bool.true_and, Bool.and_true, cond_true, cond_false, Int.toNat_natCast, eqR, eqR', Bool.not_true, Bool.not_false, bnd, hi, drop_ge hi, drop_ge hi']; simp
theorem slices_Equal_eq (a b : List RowID) (ha : a.length ≤ 1000000) : slices_Equal_Lapi_RowID_api_RowID a b = (true, decide (a = b)) := by
  unfold slices_Equal_Lapi_RowID_api_RowID
  simp only [Int.ofNat_eq_natCast, bne_nat]
  by_cases hab : a.length = b.length
  · simp only [hab, ne_eq, not_true_eq_false, decide_false, cond_false]
    rw [show (0 : Int) = ((0 : Nat) : Int) from rfl, ← hab, Equal_loop a b ha hab _ 0 (by simp; omega) (by omega)]
    by_cases h : a = b <;> simp [h, isL, getL, bnd]
  · have : a ≠ b := fun e => hab (by rw [e])
    simp [hab, this]
theorem rowset_Family_c1_eq (a b : List RowID) (ha : a.length ≤ 1000000) : rowset_Family_c1 a b = (true, decide (a = b)) := by
  unfold rowset_Family_c1
  rw [slices_Equal_eq a b ha]; rfl

theorem Index_loop (l : List RowID) (v : RowID) (hl : l.length ≤ 1000000) : ∀ (n i : Nat), l.length < i + n → i ≤ l.length → ∃ r, slices_Index_Lapi_RowID_api_RowID_L2 n l l.length i v = (true, r) ∧ ((v ∈ l.drop i ∧ ∃ j : Nat, r = .inl (j : Int)) ∨ (v ∉ l.drop i ∧ r = .inr ()))
  | 0, i, h, h2 => by omega
  | n + 1, i, h, h2 => by
    rw [slices_Index_Lapi_RowID_api_RowID_L2]
    by_cases hi : i < l.length
    · simp only [Int.ofNat_eq_natCast, lt_nat, le0_nat, decide_true, decide_false, Bool.and_self, Bool.true_and, Bool.and_true, cond_true, cond_false, Int.toNat_natCast, eqR, eqR', Bool.not_true, Bool.not_false, bnd, hi]
      obtain ⟨r, h1, h3⟩ := Index_loop l v hl n (i + 1) (by omega) (by omega)
      rw [drop_lt hi, wrap_succ (by omega), h1]
      generalize l.getD i default = x
      by_cases hx : v = x
      · subst hx
        exact ⟨.inl (i : Int), by simp, .inl ⟨by simp, i, rfl⟩⟩
      · refine ⟨r, by simp [hx], ?_⟩
        simpa [hx] using h3
    · simp only [Int.ofNat_eq_natCast, lt_nat, le0_nat, decide_true, decide_false, Bool.and_self, Bool.true_and, Bool.and_true, cond_true, cond_false, Int.toNat_natCast, eqR, eqR', Bool.not_true, Bool.not_false, bnd, hi, drop_ge hi]
      exact ⟨_, rfl, .inr ⟨by simp, rfl⟩⟩
theorem slices_Contains_eq (l : List RowID) (v : RowID) (hl : l.length ≤ 1000000) : slices_Contains_Lapi_RowID_api_RowID l v = (true, decide (v ∈ l)) := by
  have h : ∃ k : Int, slices_Index_Lapi_RowID_api_RowID l v = (true, k) ∧ (0 ≤ k ↔ v ∈ l) := by
    unfold slices_Index_Lapi_RowID_api_RowID
    obtain ⟨r, h1, h2⟩ := Index_loop l v hl (l.length + (Int.ofNat l.length).toNat + Int.toNat 0 + 1) 0 (by simp; omega) (by omega)
    rw [show (0 : Int) = ((0 : Nat) : Int) from rfl] at *
    rw [show Int.ofNat l.length = (l.length : Int) from rfl] at *
    rw [h1]
    rw [List.drop_zero] at h2
    rcases h2 with ⟨h2, j, rfl⟩ | ⟨h2, rfl⟩
    · exact ⟨(j : Int), rfl, by simp [h2]⟩
    · exact ⟨-1, rfl, by simp [h2]⟩
  obtain ⟨k, h1, h2⟩ := h
  unfold slices_Contains_Lapi_RowID_api_RowID
  rw [h1]
  simp only [bnd, cond_true]
  by_cases h3 : v ∈ l
  · have := h2.2 h3; simp [h3, this]
  · have : ¬ 0 ≤ k := fun h => h3 (h2.1 h)
    simp [h3]; omega
theorem rowset_Minus_c1_eq (x : RowID) (b : List RowID) (hb : b.length ≤ 1000000) : rowset_Minus_c1 x b = (true, decide (x ∈ b)) := by
  unfold rowset_Minus_c1
  rw [slices_Contains_eq b x hb]; rfl

theorem IndexFunc_loop (l b : List RowID) (hl : l.length ≤ 1000000) (hb : b.length ≤ 1000000) : ∀ (n i : Nat), l.length < i + n → i ≤ l.length →
    ∃ r, slices_IndexFunc_Lapi_RowID_api_RowID_L2 n l b l.length i = (true, r) ∧ ((∃ j : Nat, r = .inl (j : Int) ∧ i ≤ j ∧ j < l.length ∧ l.getD j default ∈ b ∧ l.drop i = (l.take j).drop i ++ l.drop j ∧ ∀ x ∈ (l.take j).drop i, x ∉ b) ∨ (r = .inr () ∧ ∀ x ∈ l.drop i, x ∉ b))
  | 0, i, h, h2 => by omega
  | n + 1, i, h, h2 => by
    rw [slices_IndexFunc_Lapi_RowID_api_RowID_L2]
    by_cases hi : i < l.length
    · simp only [Int.ofNat_eq_natCast, lt_nat, le0_nat, decide_true, decide_false, Bool.and_self, Bool.true_and, Bool.and_true, cond_true, cond_false, Int.toNat_natCast, eqR, eqR', Bool.not_true, Bool.not_false, bnd, hi, rowset_Minus_c1_eq _ b hb]
      obtain ⟨r, h1, h3⟩ := IndexFunc_loop l b hl hb n (i + 1) (by omega) (by omega)
      rw [wrap_succ (by omega), h1]
      by_cases hx : l.getD i default ∈ b
      · refine ⟨.inl (i : Int), by simp only [hx, decide_true, cond_true], .inl ⟨i, rfl, Nat.le_refl _, hi, hx, ?_, ?_⟩⟩
        · rw [List.drop_take, Nat.sub_self]; simp
        · rw [List.drop_take, Nat.sub_self]; simp
      · refine ⟨r, by simp only [hx, decide_false, cond_false], ?_⟩
        rcases h3 with ⟨j, rfl, h4, h5, h6, h7, h8⟩ | ⟨rfl, h4⟩
        · have e : (l.take j).drop i = l.getD i default :: (l.take j).drop (i + 1) := by
            rw [List.drop_take, List.drop_take, drop_lt hi, show j - i = (j - (i + 1)) + 1 by omega, List.take_succ_cons]
          refine .inl ⟨j, rfl, by omega, h5, h6, ?_, ?_⟩
          · rw [drop_lt hi, h7, e]; rfl
          · rw [e]
            intro x hx'
            rcases List.mem_cons.1 hx' with rfl | hx'
            · exact hx
            · exact h8 x hx'
        · refine .inr ⟨rfl, ?_⟩
          rw [drop_lt hi]
          intro x hx'
          rcases List.mem_cons.1 hx' with rfl | hx'
          · exact hx
          · exact h4 x hx'
    · simp only [Int.ofNat_eq_natCast, lt_nat, le0_nat, decide_true, decide_false, Bool.and_self, Bool.true_and, Bool.and_true, cond_true, cond_false, Int.toNat_natCast, eqR, eqR', Bool.not_true, Bool.not_false, bnd, hi]
      exact ⟨_, rfl, .inr ⟨rfl, by rw [drop_ge hi]; simp⟩⟩
theorem slices_IndexFunc_eq (l b : List RowID) (hl : l.length ≤ 1000000) (hb : b.length ≤ 1000000) :
    (∃ j : Nat, slices_IndexFunc_Lapi_RowID_api_RowID l b = (true, (j : Int)) ∧ j < l.length ∧ l.getD j default ∈ b ∧ ∀ x ∈ l.take j, x ∉ b) ∨ (slices_IndexFunc_Lapi_RowID_api_RowID l b = (true, -1) ∧ ∀ x ∈ l, x ∉ b) := by
  unfold slices_IndexFunc_Lapi_RowID_api_RowID
  obtain ⟨r, h1, h2⟩ := IndexFunc_loop l b hl hb (l.length + b.length + (Int.ofNat l.length).toNat + Int.toNat 0 + 1) 0 (by simp; omega) (by omega)
  rw [show (0 : Int) = ((0 : Nat) : Int) from rfl] at *
  rw [show Int.ofNat l.length = (l.length : Int) from rfl] at *
  rw [h1]
  simp only [List.drop_zero] at h2
  rcases h2 with ⟨j, rfl, _, h3, h4, _, h5⟩ | ⟨rfl, h3⟩
  · exact .inl ⟨j, rfl, h3, h4, h5⟩
  · exact .inr ⟨rfl, h3⟩

theorem DeleteFunc_loop (b : List RowID) (hb : b.length ≤ 1000000) : ∀ (n i j : Nat) (s : List RowID), s.length ≤ 1000000 → s.length < j + n → j ≤ s.length → i ≤ j →
    ∃ (i' : Nat) (s' : List RowID), slices_DeleteFunc_Lapi_RowID_api_RowID_L5 n b i j s = (true, ((i' : Int), s')) ∧ s'.length = s.length ∧ i' ≤ s.length ∧ s'.take i' = s.take i ++ (s.drop j).filter fun x => !decide (x ∈ b)
  | 0, i, j, s, hs, h, h2, h3 => by omega
  | n + 1, i, j, s, hs, h, h2, h3 => by
    rw [slices_DeleteFunc_Lapi_RowID_api_RowID_L5]
    by_cases hj : j < s.length
    · have hi : i < s.length := by omega
      simp only [Int.ofNat_eq_natCast, lt_nat, le0_nat, decide_true, decide_false, Bool.and_self, Bool.true_and, Bool.and_true, cond_true, cond_false, Int.toNat_natCast, eqR, eqR', Bool.not_true, Bool.not_false, bnd, hj, hi, rowset_Minus_c1_eq _ b hb]
      rw [drop_lt hj]
      by_cases hx : s.getD j default ∈ b
      · simp only [Int.ofNat_eq_natCast, lt_nat, le0_nat, decide_true, decide_false, Bool.and_self, Bool.true_and, Bool.and_true, cond_true, cond_false, Int.toNat_natCast, eqR, eqR', Bool.not_true, Bool.not_false, bnd, hx, List.filter_cons, Bool.false_eq_true, if_false]
        rw [wrap_succ (by omega)]
        exact DeleteFunc_loop b hb n i (j + 1) s hs (by omega) (by omega) (by omega)
      · simp only [Int.ofNat_eq_natCast, lt_nat, le0_nat, decide_true, decide_false, Bool.and_self, Bool.true_and, Bool.and_true, cond_true, cond_false, Int.toNat_natCast, eqR, eqR', Bool.not_true, Bool.not_false, bnd, hx, List.filter_cons, if_true]
        rw [wrap_succ (by omega), wrap_succ (by omega)]
        obtain ⟨i', s', h4, h5, h6, h7⟩ := DeleteFunc_loop b hb n (i + 1) (j + 1) (s.set i (s.getD j default)) (by simpa using hs) (by simp; omega) (by simp; omega) (by omega)
        refine ⟨i', s', h4, by simpa using h5, by simpa using h6, ?_⟩
        rw [h7, take_set_succ _ hi, drop_set_lt _ (by omega)]
        simp
    · simp only [Int.ofNat_eq_natCast, lt_nat, le0_nat, decide_true, decide_false, Bool.and_self, Bool.true_and, Bool.and_true, cond_true, cond_false, Int.toNat_natCast, eqR, eqR', Bool.not_true, Bool.not_false, bnd, hj]
      exact ⟨i, s, rfl, rfl, by omega, by rw [drop_ge hj]; simp⟩
theorem slices_DeleteFunc_eq (s b : List RowID) (hs : s.length ≤ 1000000) (hb : b.length ≤ 1000000) : slices_DeleteFunc_Lapi_RowID_api_RowID s b = (true, s.filter fun x => !decide (x ∈ b)) := by
  unfold slices_DeleteFunc_Lapi_RowID_api_RowID
  rcases slices_IndexFunc_eq s b hs hb with ⟨j, h1, h2, h3, h4⟩ | ⟨h1, h2⟩
  · rw [h1]
    have e : ((j : Int) == -1) = false := by simp
    simp only [bnd, cond_true, e, cond_false]
    rw [wrap_succ (by omega)]
    obtain ⟨i', s', h5, h6, h7, h8⟩ := DeleteFunc_loop b hb (b.length + (j : Int).toNat + ((j + 1 : Nat) : Int).toNat + s.length + 1) j (j + 1) s hs (by simp; omega) (by omega) (by omega)
    rw [h5]
    have h7' : i' ≤ s'.length := by omega
    have e2 : i' + (s'.length - i') ≤ s'.length := by omega
    have e3 : i' ≤ (List.take i' s' ++ List.replicate (s'.length - i') (RowID.mk 0 0) ++ List.drop (i' + (s'.length - i')) s').length := by simp; omega
    simp only [Int.ofNat_eq_natCast, Int.toNat_natCast, le0_nat, le_nat, h7', e2, e3, Nat.le_refl, decide_true, Bool.and_self, cond_true, Int.le_refl, Int.toNat_zero, Nat.sub_zero]
    rw [clear_take _ h7', h8]
    congr 1
    conv => rhs; rw [← List.take_append_drop j s, List.filter_append, drop_lt h2, List.filter_cons]
    simp only [h3, decide_true, Bool.not_true, Bool.false_eq_true, if_false]
    congr 1
    refine (List.filter_eq_self.2 fun x hx => ?_).symm
    simp [h4 x hx]
  · rw [h1]
    simp only [bnd, cond_true]
    have : s.filter (fun x => !decide (x ∈ b)) = s := List.filter_eq_self.2 fun x hx => by simp [h2 x hx]
    rw [this]; rfl

/-! ### compaction -/
abbrev pR (x y : RowID) : Bool := decide (x = y)
theorem Compact_in : ∀ (n k k0 m k2 : Nat) (s : List RowID) (x : RowID) (rest : List RowID), s.length ≤ 1000000 → k0 + m = s.length → 1 ≤ k2 → k2 ≤ m → k ≤ k0 + k2 - 1 → s.drop (k0 + k2 - 1) = x :: rest → m < k2 + n →
    ∃ (k' : Nat) (s' : List RowID), slices_Compact_Lapi_RowID_api_RowID_L9 n k k0 m k2 s = (true, ((k' : Int), s')) ∧ s'.length = s.length ∧ k' ≤ s.length ∧ s'.take k' = s.take k ++ adjFrom pR x rest
  | 0, k, k0, m, k2, s, x, rest, hs, hm, h1, h2, h3, hd, h4 => by omega
  | n + 1, k, k0, m, k2, s, x, rest, hs, hm, h1, h2, h3, hd, h4 => by
    rw [slices_Compact_Lapi_RowID_api_RowID_L9]
    by_cases hk : k2 < m
    · have hk1 : k2 - 1 < m := by omega
      have hkl : k < s.length := by omega
      rw [wrap_pred (by omega) (by omega)]
      simp only [Int.ofNat_eq_natCast, lt_nat, le0_nat, decide_true, decide_false, Bool.and_self, Bool.true_and, Bool.and_true, cond_true, cond_false, Int.toNat_natCast, eqR, eqR', Bool.not_true, Bool.not_false, bnd, hk, hk1, hkl]
      have e1 : k0 + k2 - 1 < s.length := by omega
      have e2 : k0 + k2 < s.length := by omega
      have e3 : k0 + (k2 - 1) = k0 + k2 - 1 := by omega
      rw [drop_lt e1, show k0 + k2 - 1 + 1 = k0 + k2 by omega] at hd
      obtain ⟨hx, hr⟩ := List.cons.inj hd
      rw [e3, hx, ← hr, drop_lt e2]
      generalize hy : s.getD (k0 + k2) default = y
      by_cases hxy : y = x
      · subst hxy
        simp only [decide_true, Bool.not_true, cond_false, adjFrom, pR, cond_true]
        rw [wrap_succ (by omega)]
        exact Compact_in n k k0 m (k2 + 1) s y _ hs hm (by omega) (by omega) (by omega) (by rw [show k0 + (k2 + 1) - 1 = k0 + k2 by omega, drop_lt e2, hy]) (by omega)
      · simp only [hxy, decide_false, Bool.not_false, cond_true, adjFrom, pR, cond_false]
        rw [wrap_succ (by omega), wrap_succ (by omega)]
        obtain ⟨k', s', h5, h6, h7, h8⟩ := Compact_in n (k + 1) k0 m (k2 + 1) (s.set k y) y (s.drop (k0 + k2 + 1)) (by simpa using hs) (by simpa using hm) (by omega) (by omega) (by omega)
          (by rw [show k0 + (k2 + 1) - 1 = k0 + k2 by omega, drop_set_lt _ (by omega), drop_lt e2, hy]) (by omega)
        refine ⟨k', s', h5, by simpa using h6, by simpa using h7, ?_⟩
        rw [h8, take_set_succ _ hkl]; simp
    · simp only [Int.ofNat_eq_natCast, lt_nat, le0_nat, decide_true, decide_false, Bool.and_self, Bool.true_and, Bool.and_true, cond_true, cond_false, Int.toNat_natCast, eqR, eqR', Bool.not_true, Bool.not_false, bnd, hk]
      refine ⟨k, s, rfl, rfl, by omega, ?_⟩
      have : rest = [] := by
        have h5 := congrArg List.length hd
        simp at h5
        exact List.eq_nil_of_length_eq_zero (by omega)
      rw [this]; simp [adjFrom]
theorem Compact_out : ∀ (n k : Nat) (s : List RowID), s.length ≤ 1000000 → 1 ≤ k → k ≤ s.length → s.length < k + n → adj pR s = s.take k ++ adjFrom pR (s.getD (k - 1) default) (s.drop k) →
    ∃ r, slices_Compact_Lapi_RowID_api_RowID_L4 n k s = (true, r) ∧ ((∃ (m : Nat) (s' : List RowID), r = .inl (m, s') ∧ s'.take m = adj pR s) ∨ (r = .inr s ∧ adj pR s = s))
  | 0, k, s, hs, h1, h2, h3, ha => by omega
  | n + 1, k, s, hs, h1, h2, h3, ha => by
    rw [slices_Compact_Lapi_RowID_api_RowID_L4]
    by_cases hk : k < s.length
    · have hk1 : k - 1 < s.length := by omega
      have hkl : k ≤ s.length := by omega
      rw [wrap_pred (by omega) (by omega)]
      simp only [Int.ofNat_eq_natCast, lt_nat, le_nat, le0_nat, hk, hk1, hkl, Nat.le_refl, decide_true, Bool.and_self, cond_true, Int.toNat_natCast, eqR]
      rw [drop_lt hk] at ha
      by_cases hxy : s.getD k default = s.getD (k - 1) default
      · simp only [hxy, decide_true, cond_true]
        obtain ⟨k', s', h5, h6, h7, h8⟩ := Compact_in (k + k + (s.length - k) + Int.toNat 1 + s.length + 1) k k (s.length - k) 1 s (s.getD k default) (s.drop (k + 1)) hs (by omega) (by omega) (by omega) (by omega)
          (by rw [show k + 1 - 1 = k by omega, drop_lt hk]) (by omega)
        rw [show (1 : Int) = ((1 : Nat) : Int) from rfl] at *
        rw [h5]
        have h7' : k' ≤ s'.length := by omega
        have e2 : k' + (s'.length - k') ≤ s'.length := by omega
        have e3 : k' ≤ (List.take k' s' ++ List.replicate (s'.length - k') (RowID.mk 0 0) ++ List.drop (k' + (s'.length - k')) s').length := by simp; omega
        simp only [bnd, Int.ofNat_eq_natCast, Int.toNat_natCast, le0_nat, le_nat, h7', e2, e3, Nat.le_refl, decide_true, Bool.and_self, cond_true, Int.le_refl, Int.toNat_zero, Nat.sub_zero]
        refine ⟨_, rfl, .inl ⟨_, _, rfl, ?_⟩⟩
        rw [clear_take _ h7', h8, ha]
        simp only [adjFrom, pR, hxy, decide_true, cond_true]
      · simp only [hxy, decide_false, cond_false]
        rw [wrap_succ (by omega)]
        refine Compact_out n (k + 1) s hs (by omega) (by omega) (by omega) ?_
        rw [ha, take_succ_getD hk]
        simp only [adjFrom, pR, hxy, decide_false, cond_false, Nat.add_sub_cancel]
        simp
    · simp only [Int.ofNat_eq_natCast, lt_nat, le0_nat, decide_true, decide_false, Bool.and_self, Bool.true_and, Bool.and_true, cond_true, cond_false, Int.toNat_natCast, eqR, eqR', Bool.not_true, Bool.not_false, bnd, hk]
      refine ⟨_, rfl, .inr ⟨rfl, ?_⟩⟩
      rw [ha, drop_ge hk, List.take_of_length_le (by omega)]
      simp [adjFrom]
theorem slices_Compact_eq (s : List RowID) (hs : s.length ≤ 1000000) : slices_Compact_Lapi_RowID_api_RowID s = (true, adj pR s) := by
  unfold slices_Compact_Lapi_RowID_api_RowID
  have h2 : decide (Int.ofNat s.length < 2) = decide (s.length < 2) := by simp; omega
  rw [h2]
  by_cases h : s.length < 2
  · simp only [h, decide_true, cond_true]
    match s, h with
    | [], _ => rfl
    | [x], _ => rfl
    | _ :: _ :: _, h => simp at h; omega
  · simp only [h, decide_false, cond_false]
    have ha : adj pR s = s.take 1 ++ adjFrom pR (s.getD (1 - 1) default) (s.drop 1) := by
      cases s with
      | nil => simp at h
      | cons x r => simp [adj]
    obtain ⟨r, h3, h4⟩ := Compact_out (Int.toNat 1 + s.length + 1) 1 s hs (by omega) (by omega) (by simp; omega) ha
    rw [show (1 : Int) = ((1 : Nat) : Int) from rfl] at *
    rw [h3]
    rcases h4 with ⟨m, s', rfl, h4⟩ | ⟨rfl, h4⟩
    · simp only [bnd, cond_true, isL, getL]; rw [h4]
    · simp only [bnd, cond_true, isL, getR, cond_false]; rw [h4]

abbrev pS (x y : List RowID) : Bool := decide (x = y)
theorem CompactFunc_in : ∀ (n k k0 m k2 : Nat) (s : List (List RowID)) (x : List RowID) (rest : List (List RowID)), (∀ z ∈ s, z.length ≤ 1000000) → s.length ≤ 1000000 → k0 + m = s.length → 1 ≤ k2 → k2 ≤ m → k ≤ k0 + k2 - 1 → s.drop (k0 + k2 - 1) = x :: rest → m < k2 + n →
    ∃ (k' : Nat) (s' : List (List RowID)), slices_CompactFunc_LLapi_RowID_Lapi_RowID_L9 n k k0 m k2 s = (true, ((k' : Int), s')) ∧ s'.length = s.length ∧ k' ≤ s.length ∧ s'.take k' = s.take k ++ adjFrom pS x rest
  | 0, k, k0, m, k2, s, x, rest, hz, hs, hm, h1, h2, h3, hd, h4 => by omega
  | n + 1, k, k0, m, k2, s, x, rest, hz, hs, hm, h1, h2, h3, hd, h4 => by
    rw [slices_CompactFunc_LLapi_RowID_Lapi_RowID_L9]
    by_cases hk : k2 < m
    · have hk1 : k2 - 1 < m := by omega
      have hkl : k < s.length := by omega
      have e1 : k0 + k2 - 1 < s.length := by omega
      have e2 : k0 + k2 < s.length := by omega
      have e3 : k0 + (k2 - 1) = k0 + k2 - 1 := by omega
      rw [wrap_pred (by omega) (by omega)]
      simp only [Int.ofNat_eq_natCast, lt_nat, le0_nat, decide_true, decide_false, Bool.and_self, Bool.true_and, Bool.and_true, cond_true, cond_false, Int.toNat_natCast, eqR, eqR', Bool.not_true, Bool.not_false, bnd, hk, hk1, hkl, rowset_Family_c1_eq _ _ (hz _ (getD_mem e2))]
      rw [drop_lt e1, show k0 + k2 - 1 + 1 = k0 + k2 by omega] at hd
      obtain ⟨hx, hr⟩ := List.cons.inj hd
      have hym := hz _ (getD_mem e2)
      rw [e3, hx, ← hr, drop_lt e2]
      generalize hy : s.getD (k0 + k2) default = y at hym
      by_cases hxy : y = x
      · subst hxy
        simp only [decide_true, Bool.not_true, cond_false, adjFrom, pS, cond_true]
        rw [wrap_succ (by omega)]
        exact CompactFunc_in n k k0 m (k2 + 1) s y _ hz hs hm (by omega) (by omega) (by omega) (by rw [show k0 + (k2 + 1) - 1 = k0 + k2 by omega, drop_lt e2, hy]) (by omega)
      · simp only [hxy, decide_false, Bool.not_false, cond_true, adjFrom, pS, cond_false]
        rw [wrap_succ (by omega), wrap_succ (by omega)]
        obtain ⟨k', s', h5, h6, h7, h8⟩ := CompactFunc_in n (k + 1) k0 m (k2 + 1) (s.set k y) y (s.drop (k0 + k2 + 1))
          (fun z hz' => by
            rcases List.mem_or_eq_of_mem_set hz' with h | h
            · exact hz z h
            · subst h; exact hym) (by simpa using hs) (by simpa using hm) (by omega) (by omega) (by omega)
          (by rw [show k0 + (k2 + 1) - 1 = k0 + k2 by omega, drop_set_lt _ (by omega), drop_lt e2, hy]) (by omega)
        refine ⟨k', s', h5, by simpa using h6, by simpa using h7, ?_⟩
        rw [h8, take_set_succ _ hkl]; simp
    · simp only [Int.ofNat_eq_natCast, lt_nat, le0_nat, decide_true, decide_false, Bool.and_self, Bool.true_and, Bool.and_true, cond_true, cond_false, Int.toNat_natCast, eqR, eqR', Bool.not_true, Bool.not_false, bnd, hk]
      refine ⟨k, s, rfl, rfl, by omega, ?_⟩
      have : rest = [] := by
        have h5 := congrArg List.length hd
        simp at h5
        exact List.eq_nil_of_length_eq_zero (by omega)
      rw [this]; simp [adjFrom]
theorem CompactFunc_out : ∀ (n k : Nat) (s : List (List RowID)), (∀ z ∈ s, z.length ≤ 1000000) → s.length ≤ 1000000 → 1 ≤ k → k ≤ s.length → s.length < k + n → adj pS s = s.take k ++ adjFrom pS (s.getD (k - 1) default) (s.drop k) →
    ∃ r, slices_CompactFunc_LLapi_RowID_Lapi_RowID_L4 n k s = (true, r) ∧ ((∃ (m : Nat) (s' : List (List RowID)), r = .inl (m, s') ∧ s'.take m = adj pS s) ∨ (r = .inr s ∧ adj pS s = s))
  | 0, k, s, hz, hs, h1, h2, h3, ha => by omega
  | n + 1, k, s, hz, hs, h1, h2, h3, ha => by
    rw [slices_CompactFunc_LLapi_RowID_Lapi_RowID_L4]
    by_cases hk : k < s.length
    · have hk1 : k - 1 < s.length := by omega
      have hkl : k ≤ s.length := by omega
      rw [wrap_pred (by omega) (by omega)]
      simp only [Int.ofNat_eq_natCast, lt_nat, le_nat, le0_nat, hk, hk1, hkl, Nat.le_refl, decide_true, Bool.and_self, cond_true, Int.toNat_natCast, rowset_Family_c1_eq _ _ (hz _ (getD_mem hk))]
      rw [drop_lt hk] at ha
      by_cases hxy : s.getD k default = s.getD (k - 1) default
      · simp only [hxy, decide_true, cond_true, bnd]
        obtain ⟨k', s', h5, h6, h7, h8⟩ := CompactFunc_in (k + k + (s.length - k) + Int.toNat 1 + s.length + 1) k k (s.length - k) 1 s (s.getD k default) (s.drop (k + 1)) hz hs (by omega) (by omega) (by omega) (by omega)
          (by rw [show k + 1 - 1 = k by omega, drop_lt hk]) (by omega)
        rw [show (1 : Int) = ((1 : Nat) : Int) from rfl] at *
        rw [h5]
        have h7' : k' ≤ s'.length := by omega
        have e2 : k' + (s'.length - k') ≤ s'.length := by omega
        have e3 : k' ≤ (List.take k' s' ++ List.replicate (s'.length - k') [] ++ List.drop (k' + (s'.length - k')) s').length := by simp; omega
        simp only [bnd, Int.ofNat_eq_natCast, Int.toNat_natCast, le0_nat, le_nat, h7', e2, e3, Nat.le_refl, decide_true, Bool.and_self, cond_true, Int.le_refl, Int.toNat_zero, Nat.sub_zero]
        refine ⟨_, rfl, .inl ⟨_, _, rfl, ?_⟩⟩
        rw [clear_take _ h7', h8, ha]
        simp only [adjFrom, pS, hxy, decide_true, cond_true]
      · simp only [hxy, decide_false, cond_false, bnd, cond_true]
        rw [wrap_succ (by omega)]
        refine CompactFunc_out n (k + 1) s hz hs (by omega) (by omega) (by omega) ?_
        rw [ha, take_succ_getD hk]
        simp only [adjFrom, pS, hxy, decide_false, cond_false, Nat.add_sub_cancel]
        simp
    · simp only [Int.ofNat_eq_natCast, lt_nat, le0_nat, decide_true, decide_false, Bool.and_self, Bool.true_and, Bool.and_true, cond_true, cond_false, Int.toNat_natCast, eqR, eqR', Bool.not_true, Bool.not_false, bnd, hk]
      refine ⟨_, rfl, .inr ⟨rfl, ?_⟩⟩
      rw [ha, drop_ge hk, List.take_of_length_le (by omega)]
      simp [adjFrom]
theorem slices_CompactFunc_eq (s : List (List RowID)) (hz : ∀ z ∈ s, z.length ≤ 1000000) (hs : s.length ≤ 1000000) : slices_CompactFunc_LLapi_RowID_Lapi_RowID s = (true, adj pS s) := by
  unfold slices_CompactFunc_LLapi_RowID_Lapi_RowID
  have h2 : decide (Int.ofNat s.length < 2) = decide (s.length < 2) := by simp; omega
  rw [h2]
  by_cases h : s.length < 2
  · simp only [h, decide_true, cond_true]
    match s, h with
    | [], _ => rfl
    | [x], _ => rfl
    | _ :: _ :: _, h => simp at h; omega
  · simp only [h, decide_false, cond_false]
    have ha : adj pS s = s.take 1 ++ adjFrom pS (s.getD (1 - 1) default) (s.drop 1) := by
      cases s with
      | nil => simp at h
      | cons x r => simp [adj]
    obtain ⟨r, h3, h4⟩ := CompactFunc_out (Int.toNat 1 + s.length + 1) 1 s hz hs (by omega) (by omega) (by simp; omega) ha
    rw [show (1 : Int) = ((1 : Nat) : Int) from rfl] at *
    rw [h3]
    rcases h4 with ⟨m, s', rfl, h4⟩ | ⟨rfl, h4⟩
    · simp only [bnd, cond_true, isL, getL]; rw [h4]
    · simp only [bnd, cond_true, isL, getR, cond_false]; rw [h4]

/-! ### sets -/
theorem slices_SortFunc_row (l : List RowID) (hl : l.length ≤ 1000000) : ∃ ok : SortOK (fun a b => rowset_Compare a b) l, slices_SortFunc_Lapi_RowID_api_RowID l = (true, isort (fun a b => rowset_Compare a b) l) := by
  have ok : SortOK (fun a b => rowset_Compare a b) l := sortOK_of cR_ord (by omega) fun x _ y _ => rowset_Compare_eq x y
  refine ⟨ok, ?_⟩
  unfold slices_SortFunc_Lapi_RowID_api_RowID sortFunc
  rw [decide_eq_true ok]
theorem rowset_Normalize_eq (l : List RowID) (hl : l.length ≤ 1000000) : rowset_Normalize l = (true, nR l) := by
  unfold rowset_Normalize slices_Clone_Lapi_RowID_api_RowID
  have e1 : l.length * 16 ≤ reach := reach_of (by omega) (by omega)
  obtain ⟨ok, h⟩ := slices_SortFunc_row l hl
  simp only [e1, decide_true, bnd, cond_true, h]
  rw [slices_Compact_eq _ (by rw [(isort_perm _ l).length_eq]; exact hl)]
  simp only [cond_true]
  rw [adj_isort cR_ord (fun x y => by simp) ok fun x _ y _ => by rw [rowset_Compare_eq]]
theorem rowset_Union_eq (a b : List RowID) (h : a.length + b.length ≤ 1000000) : rowset_Union a b = (true, nR (a ++ b)) := by
  unfold rowset_Union slices_Clone_Lapi_RowID_api_RowID
  have e1 : a.length * 16 ≤ reach := reach_of (by omega) (by omega)
  have e2 : (a.length + b.length) * 16 ≤ reach := reach_of (by omega) (by omega)
  simp only [e1, e2, decide_true, bnd, cond_true]
  rw [rowset_Normalize_eq (a ++ b) (by simp; omega)]; rfl
theorem rowset_Minus_eq (a b : List RowID) (ha : a.length ≤ 1000000) (hb : b.length ≤ 1000000) : rowset_Minus a b = (true, (nR a).filter fun x => !decide (x ∈ b)) := by
  unfold rowset_Minus
  have h1 : (nR a).length ≤ a.length := snorm_length cR_ord a
  rw [rowset_Normalize_eq a ha]
  simp only [bnd, cond_true]
  rw [slices_DeleteFunc_eq _ _ (by omega) hb]; rfl
theorem rowset_Subset_eq (a b : List RowID) (ha : a.length ≤ 1000000) (hb : b.length ≤ 1000000) : rowset_Subset a b = (true, a.all fun x => decide (x ∈ b)) := by
  unfold rowset_Subset
  rw [rowset_Minus_eq a b ha hb]
  simp only [bnd, cond_true]
  congr 1
  have : (Int.ofNat ((nR a).filter fun x => !decide (x ∈ b)).length == (0 : Int)) = decide (((nR a).filter fun x => !decide (x ∈ b)).length = 0) := beq_nat _ 0
  rw [this, Bool.eq_iff_iff, decide_eq_true_eq, List.length_eq_zero_iff, List.filter_eq_nil_iff, List.all_eq_true]
  constructor
  · intro h x hx
    have := h x ((snorm_mem cR_ord a x).2 hx)
    simpa using this
  · intro h x hx
    have := h x ((snorm_mem cR_ord a x).1 hx)
    simpa using this
end Go.Proofs.YteopikhooiallaaGreatDoor
/- What the printed functions compute: families of sets, their minimal sets and products. -/
set_option autoImplicit false
set_option linter.unusedVariables false
set_option linter.unusedSimpArgs false
namespace Go.Proofs.YteopikhooiallaaGreatDoor
open Go Go.Ab

/-- The family of the sets of a list. -/
abbrev fam (l : List (List RowID)) : List (List RowID) := snorm cS (l.map nR)
def sub (a b : List RowID) : Bool := a.all fun x => decide (x ∈ b)
theorem sub_iff {a b : List RowID} : sub a b = true ↔ ∀ x ∈ a, x ∈ b := by simp [sub]
theorem mem_fam {l : List (List RowID)} {z : List RowID} : z ∈ fam l ↔ ∃ s ∈ l, nR s = z := by
  rw [snorm_mem cS_ord, List.mem_map]
theorem fam_asc (l : List (List RowID)) : SAsc cS (fam l) := snorm_asc cS_ord _
theorem fam_set {l : List (List RowID)} {z : List RowID} (h : z ∈ fam l) : SAsc cR z := by
  obtain ⟨s, _, rfl⟩ := mem_fam.1 h
  exact snorm_asc cR_ord s
theorem fam_len (l : List (List RowID)) : (fam l).length ≤ l.length := by
  have := snorm_length cS_ord (l.map nR)
  simpa using this
theorem nR_len (l : List RowID) : (nR l).length ≤ l.length := snorm_length cR_ord l
theorem nR_mem {l : List RowID} {z : RowID} : z ∈ nR l ↔ z ∈ l := snorm_mem cR_ord l z
theorem nR_congr {l l' : List RowID} (h : ∀ z, z ∈ l ↔ z ∈ l') : nR l = nR l' := snorm_congr cR_ord h
theorem nR_self {l : List RowID} (h : SAsc cR l) : nR l = l := snorm_self cR_ord h
theorem fam_small {l : List (List RowID)} {k : Nat} (h : ∀ s ∈ l, s.length ≤ k) : ∀ s ∈ fam l, s.length ≤ k := fun s hs => by
  obtain ⟨t, ht, rfl⟩ := mem_fam.1 hs
  exact Nat.le_trans (nR_len t) (h t ht)

theorem Family_loop (l : List (List RowID)) (hl : l.length ≤ 1000000) (hz : ∀ s ∈ l, s.length ≤ 1000000) : ∀ (n i : Nat) (o : List (List RowID)), l.length < i + n → i ≤ l.length → o.length ≤ i → rowset_Family_L3 n l l.length i o = (true, o ++ (l.drop i).map nR)
  | 0, i, o, h, h2, h3 => by omega
  | n + 1, i, o, h, h2, h3 => by
    rw [rowset_Family_L3]
    by_cases hi : i < l.length
    · have e1 : (o.length + 1) * 24 ≤ reach := reach_of (by omega) (by omega)
      simp only [Int.ofNat_eq_natCast, lt_nat, le0_nat, decide_true, decide_false, Bool.and_self, Bool.true_and, Bool.and_true, cond_true, cond_false, Int.toNat_natCast, eqR, eqR', Bool.not_true, Bool.not_false, bnd, hi, rowset_Normalize_eq _ (hz _ (getD_mem hi)), List.length_singleton, e1]
      rw [wrap_succ (by omega), drop_lt hi, Family_loop l hl hz n (i + 1) _ (by omega) (by omega) (by simp; omega)]
      simp
    · simp only [Int.ofNat_eq_natCast, lt_nat, le0_nat, decide_true, decide_false, Bool.and_self, Bool.true_and, Bool.and_true, cond_true, cond_false, Int.toNat_natCast, eqR, eqR', Bool.not_true, Bool.not_false, bnd, hi, drop_ge hi]; simp
theorem rowset_Family_eq (l : List (List RowID)) (hl : l.length ≤ 1000000) (hz : ∀ s ∈ l, s.length ≤ 1000000) : rowset_Family l = (true, fam l) := by
  unfold rowset_Family
  rw [show (0 : Int) = ((0 : Nat) : Int) from rfl, show Int.ofNat l.length = (l.length : Int) from rfl, Family_loop l hl hz _ 0 [] (by simp; omega) (by omega) (by simp)]
  simp only [bnd, cond_true, List.drop_zero, List.nil_append]
  have hz' : ∀ z ∈ l.map nR, z.length ≤ 1000000 := fun z hz'' => by
    obtain ⟨s, hs, rfl⟩ := List.mem_map.1 hz''
    exact Nat.le_trans (nR_len s) (hz s hs)
  have ok : SortOK (fun a b => rowset_compareSets a b) (l.map nR) := sortOK_of cS_ord (by simp; omega) fun x hx y hy => rowset_compareSets_eq x y (hz' x hx) (hz' y hy)
  have e : slices_SortFunc_LLapi_RowID_Lapi_RowID (l.map nR) = (true, isort (fun a b => rowset_compareSets a b) (l.map nR)) := by
    unfold slices_SortFunc_LLapi_RowID_Lapi_RowID sortFunc
    rw [decide_eq_true ok]
  rw [e]
  simp only [cond_true]
  rw [slices_CompactFunc_eq _ (fun z h => hz' z ((isort_perm _ _).mem_iff.1 h)) (by rw [(isort_perm _ _).length_eq]; simpa using hl)]
  simp only [cond_true]
  rw [adj_isort cS_ord (fun x y => by simp) ok fun x hx y hy => by rw [rowset_compareSets_eq x y (hz' x hx) (hz' y hy)]]

/-! ### minimal sets -/
theorem indices_loop (m : Nat) (hm : m ≤ 1000000) : ∀ (n i : Nat) (o : List Int), m < i + n → i ≤ m → o.length = m → o.take i = (nums m).take i → rowset_indices_L3 n m i o = (true, nums m)
  | 0, i, o, h, h2, h3, h4 => by omega
  | n + 1, i, o, h, h2, h3, h4 => by
    rw [rowset_indices_L3]
    by_cases hi : i < m
    · have hi' : i < o.length := by omega
      simp only [Int.ofNat_eq_natCast, lt_nat, le0_nat, decide_true, decide_false, Bool.and_self, Bool.true_and, Bool.and_true, cond_true, cond_false, Int.toNat_natCast, eqR, eqR', Bool.not_true, Bool.not_false, bnd, hi, hi']
      rw [wrap_succ (by omega)]
      refine indices_loop m hm n (i + 1) _ (by omega) (by omega) (by simpa using h3) ?_
      rw [take_set_succ _ hi', h4, take_succ_getD (by rw [nums_len]; exact hi), nums_get hi]
    · simp only [Int.ofNat_eq_natCast, lt_nat, le0_nat, decide_true, decide_false, Bool.and_self, Bool.true_and, Bool.and_true, cond_true, cond_false, Int.toNat_natCast, eqR, eqR', Bool.not_true, Bool.not_false, bnd, hi]
      have e : i = m := by omega
      subst e
      rw [List.take_of_length_le (by omega), List.take_of_length_le (by rw [nums_len]; omega)] at h4
      rw [h4]
theorem rowset_indices_eq (m : Nat) (hm : m ≤ 1000000) : rowset_indices (m : Int) = (true, nums m) := by
  unfold rowset_indices
  have h1 : decide ((0 : Int) ≤ (m : Int)) = true := le0_nat m
  have h2 : decide ((m : Int) ≤ (m : Int)) = true := by simp
  have h3 : decide ((m : Int) * Int.ofNat 8 ≤ Int.ofNat reach) = true := by
    have : m * 8 ≤ reach := reach_of (by omega) (by omega)
    simp only [decide_eq_true_eq, Int.ofNat_eq_natCast]
    omega
  have h4 : decide ((m : Int) ≤ Int.ofNat reach) = true := by
    have : m * 1 ≤ reach := reach_of (by omega) (by omega)
    simp only [decide_eq_true_eq, Int.ofNat_eq_natCast]
    omega
  rw [h1, h2, h3, h4]
  simp only [Bool.and_self, cond_true, Int.toNat_natCast, List.length_replicate, Int.ofNat_eq_natCast]
  rw [show (0 : Int) = ((0 : Nat) : Int) from rfl, indices_loop m hm _ 0 _ (by simp; omega) (by omega) (by simp) (by simp)]
  rfl
theorem Minimal_c1_eq (k i : Nat) (al : List (List RowID)) (s : List RowID) (hk : k < al.length) (hz : ∀ t ∈ al, t.length ≤ 1000000) (hs : s.length ≤ 1000000) : rowset_Minimal_c1 k i al s = (true, decide (k ≠ i) && sub (al.getD k default) s) := by
  unfold rowset_Minimal_c1
  rw [bne_nat]
  by_cases h : k = i
  · simp [h]
  · simp only [Int.ofNat_eq_natCast, lt_nat, le0_nat, decide_true, decide_false, Bool.and_self, Bool.true_and, Bool.and_true, cond_true, cond_false, Int.toNat_natCast, eqR, eqR', Bool.not_true, Bool.not_false, bnd, h, hk, ne_eq, not_false_eq_true, rowset_Subset_eq _ _ (hz _ (getD_mem hk)) hs]
    rfl
theorem IndexInt_loop (al : List (List RowID)) (s : List RowID) (j : Nat) (hl : al.length ≤ 1000000) (hz : ∀ t ∈ al, t.length ≤ 1000000) (hs : s.length ≤ 1000000) : ∀ (n i : Nat), al.length < i + n → i ≤ al.length →
    ∃ r, slices_IndexFunc_Lint_int_L2 n (nums al.length) j al s al.length i = (true, r) ∧ (((∃ k : Nat, i ≤ k ∧ k < al.length ∧ k ≠ j ∧ sub (al.getD k default) s = true) ∧ ∃ k : Nat, r = .inl (k : Int)) ∨ ((∀ k : Nat, i ≤ k → k < al.length → k ≠ j → sub (al.getD k default) s = false) ∧ r = .inr ()))
  | 0, i, h, h2 => by omega
  | n + 1, i, h, h2 => by
    rw [slices_IndexFunc_Lint_int_L2]
    by_cases hi : i < al.length
    · simp only [Int.ofNat_eq_natCast, lt_nat, le0_nat, hi, nums_len, decide_true, Bool.and_self, cond_true, Int.toNat_natCast, nums_get hi, Minimal_c1_eq i j al s hi hz hs, bnd]
      obtain ⟨r, h1, h3⟩ := IndexInt_loop al s j hl hz hs n (i + 1) (by omega) (by omega)
      rw [wrap_succ (by omega), h1]
      by_cases hp : i ≠ j ∧ sub (al.getD i default) s = true
      · refine ⟨.inl (i : Int), by simp only [hp.1, hp.2, ne_eq, not_false_eq_true, decide_true, Bool.and_self, cond_true], .inl ⟨⟨i, Nat.le_refl _, hi, hp.1, hp.2⟩, i, rfl⟩⟩
      · have e : (decide (i ≠ j) && sub (al.getD i default) s) = false := by
          cases hb : (decide (i ≠ j) && sub (al.getD i default) s) with
          | false => rfl
          | true => rw [Bool.and_eq_true, decide_eq_true_eq] at hb; exact absurd hb hp
        refine ⟨r, by simp only [e, cond_false], ?_⟩
        rcases h3 with ⟨⟨k, h4, h5, h6, h7⟩, h8⟩ | ⟨h4, rfl⟩
        · exact .inl ⟨⟨k, by omega, h5, h6, h7⟩, h8⟩
        · refine .inr ⟨fun k h5 h6 h7 => ?_, rfl⟩
          by_cases hk : k = i
          · subst hk
            cases hb : sub (al.getD k default) s with
            | false => rfl
            | true => exact absurd ⟨h7, hb⟩ hp
          · exact h4 k (by omega) h6 h7
    · simp only [Int.ofNat_eq_natCast, lt_nat, hi, decide_false, cond_false]
      exact ⟨_, rfl, .inr ⟨fun k h5 h6 => by omega, rfl⟩⟩
/-- Includes the set no other one. -/
def least (al : List (List RowID)) (s : List RowID) : Bool := al.all fun t => !(decide (t ≠ s) && sub t s)
theorem least_iff {al : List (List RowID)} {s : List RowID} : least al s = true ↔ ∀ t ∈ al, (∀ x ∈ t, x ∈ s) → t = s := by
  unfold least
  rw [List.all_eq_true]
  constructor
  · intro h t ht hs
    have := h t ht
    rw [sub_iff.2 hs] at this
    simpa using this
  · intro h t ht
    by_cases hs : sub t s = true
    · have := h t ht (sub_iff.1 hs)
      simp [this]
    · simp [hs]
theorem nodup_getD {al : List (List RowID)} (hn : al.Nodup) {i k : Nat} (hi : i < al.length) (hk : k < al.length) (h : al.getD k default = al.getD i default) : k = i := by
  rw [List.getD_eq_getElem?_getD, List.getElem?_eq_getElem hk, List.getD_eq_getElem?_getD, List.getElem?_eq_getElem hi] at h
  exact (List.getElem_inj hn).1 h
theorem ContainsInt_eq (al : List (List RowID)) (hn : al.Nodup) (j : Nat) (hj : j < al.length) (hl : al.length ≤ 1000000) (hz : ∀ t ∈ al, t.length ≤ 1000000) :
    slices_ContainsFunc_Lint_int (nums al.length) j al (al.getD j default) = (true, !least al (al.getD j default)) := by
  have hs := hz _ (getD_mem hj)
  have h : ∃ k : Int, slices_IndexFunc_Lint_int (nums al.length) j al (al.getD j default) = (true, k) ∧ (0 ≤ k ↔ least al (al.getD j default) = false) := by
    unfold slices_IndexFunc_Lint_int
    obtain ⟨r, h1, h2⟩ := IndexInt_loop al (al.getD j default) j hl hz hs ((nums al.length).length + (j : Int).toNat + al.length + (al.getD j default).length + (Int.ofNat (nums al.length).length).toNat + Int.toNat 0 + 1) 0 (by simp; omega) (by omega)
    rw [show (0 : Int) = ((0 : Nat) : Int) from rfl] at *
    rw [show Int.ofNat (nums al.length).length = (al.length : Int) from by rw [nums_len]; rfl] at *
    rw [h1]
    rcases h2 with ⟨⟨k, _, h3, h4, h5⟩, m, rfl⟩ | ⟨h3, rfl⟩
    · refine ⟨(m : Int), rfl, ?_⟩
      have : least al (al.getD j default) = false := by
        cases hb : least al (al.getD j default) with
        | false => rfl
        | true =>
          have := least_iff.1 hb _ (getD_mem h3) (sub_iff.1 h5)
          exact absurd (nodup_getD hn hj h3 this) h4
      exact ⟨fun _ => this, fun _ => by omega⟩
    · refine ⟨-1, rfl, ?_⟩
      have : least al (al.getD j default) = true := by
        rw [least_iff]
        intro t ht hsub
        obtain ⟨k, hk, e⟩ := List.getElem_of_mem ht
        have e' : al.getD k default = t := by rw [List.getD_eq_getElem?_getD, List.getElem?_eq_getElem hk]; exact e
        by_cases hkj : k = j
        · subst hkj; exact e'.symm
        · have := h3 k (Nat.zero_le _) hk hkj
          rw [e', sub_iff.2 hsub] at this
          cases this
      exact ⟨fun h => by omega, fun h => by rw [this] at h; cases h⟩
  obtain ⟨k, h1, h2⟩ := h
  unfold slices_ContainsFunc_Lint_int
  rw [h1]
  simp only [bnd, cond_true]
  congr 1
  cases hb : least al (al.getD j default) with
  | true =>
    have : ¬ 0 ≤ k := fun h => by rw [h2.1 h] at hb; cases hb
    simp; omega
  | false => simp [h2.2 hb]
theorem Minimal_loop (al : List (List RowID)) (hn : al.Nodup) (hl : al.length ≤ 1000000) (hz : ∀ t ∈ al, t.length ≤ 1000000) : ∀ (n i : Nat) (o : List (List RowID)), al.length < i + n → i ≤ al.length → o.length ≤ i →
    rowset_Minimal_L4 n al.length i o al = (true, o ++ (al.drop i).filter (least al))
  | 0, i, o, h, h2, h3 => by omega
  | n + 1, i, o, h, h2, h3 => by
    rw [rowset_Minimal_L4]
    by_cases hi : i < al.length
    · have e1 : (o.length + 1) * 24 ≤ reach := reach_of (by omega) (by omega)
      simp only [Int.ofNat_eq_natCast, lt_nat, le0_nat, decide_true, decide_false, Bool.and_self, Bool.true_and, Bool.and_true, cond_true, cond_false, Int.toNat_natCast, eqR, eqR', Bool.not_true, Bool.not_false, bnd, hi, rowset_indices_eq _ hl, ContainsInt_eq al hn i hi hl hz, List.length_singleton, e1, Bool.not_not]
      rw [wrap_succ (by omega), drop_lt hi]
      generalize al.getD i default = s
      cases hb : least al s with
      | true =>
        simp only [cond_true, List.filter_cons, hb, if_true]
        rw [Minimal_loop al hn hl hz n (i + 1) _ (by omega) (by omega) (by simp; omega)]
        simp
      | false =>
        simp only [cond_false, List.filter_cons, hb, Bool.false_eq_true, if_false]
        rw [Minimal_loop al hn hl hz n (i + 1) _ (by omega) (by omega) (by omega)]
    · simp only [Int.ofNat_eq_natCast, lt_nat, le0_nat, decide_true, decide_false, Bool.and_self, Bool.true_and, Bool.and_true, cond_true, cond_false, Int.toNat_natCast, eqR, eqR', Bool.not_true, Bool.not_false, bnd, hi, drop_ge hi]; simp
/-- The minimal sets. -/
abbrev minl (l : List (List RowID)) : List (List RowID) := (fam l).filter (least (fam l))
theorem rowset_Minimal_eq (l : List (List RowID)) (hl : l.length ≤ 1000000) (hz : ∀ s ∈ l, s.length ≤ 1000000) : rowset_Minimal l = (true, minl l) := by
  unfold rowset_Minimal
  have h1 := fam_len l
  rw [rowset_Family_eq l hl hz]
  simp only [bnd, cond_true]
  rw [show (0 : Int) = ((0 : Nat) : Int) from rfl, show Int.ofNat (fam l).length = ((fam l).length : Int) from rfl,
    Minimal_loop (fam l) (sasc_nodup cS_ord (fam_asc l)) (by omega) (fam_small hz) _ 0 [] (by simp; omega) (by omega) (by simp)]
  rfl

/-! ### products -/
theorem Product_in (b : List (List RowID)) (x : List RowID) (t10 : List (List RowID)) (t11 t12 : Int) (hl : b.length ≤ 1000) (hz : ∀ y ∈ b, x.length + y.length ≤ 1000000) : ∀ (n i : Nat) (o : List (List RowID)), b.length < i + n → i ≤ b.length → o.length ≤ 1000000 + i →
    rowset_Product_L6 n b x t10 t11 t12 b b.length i o = (true, (b, t10, t11, t12, o ++ (b.drop i).map fun y => nR (x ++ y)))
  | 0, i, o, h, h2, h3 => by omega
  | n + 1, i, o, h, h2, h3 => by
    rw [rowset_Product_L6]
    by_cases hi : i < b.length
    · have e1 : (o.length + 1) * 24 ≤ reach := reach_of (by omega) (by omega)
      simp only [Int.ofNat_eq_natCast, lt_nat, le0_nat, decide_true, decide_false, Bool.and_self, Bool.true_and, Bool.and_true, cond_true, cond_false, Int.toNat_natCast, eqR, eqR', Bool.not_true, Bool.not_false, bnd, hi, rowset_Union_eq _ _ (hz _ (getD_mem hi)), List.length_singleton, e1]
      rw [wrap_succ (by omega), drop_lt hi, Product_in b x t10 t11 t12 hl hz n (i + 1) _ (by omega) (by omega) (by simp; omega)]
      simp
    · simp only [Int.ofNat_eq_natCast, lt_nat, le0_nat, decide_true, decide_false, Bool.and_self, Bool.true_and, Bool.and_true, cond_true, cond_false, Int.toNat_natCast, eqR, eqR', Bool.not_true, Bool.not_false, bnd, hi, drop_ge hi]; simp
theorem Product_loop (a b : List (List RowID)) (ha : a.length ≤ 1000) (hb : b.length ≤ 1000) (hz : ∀ x ∈ a, ∀ y ∈ b, x.length + y.length ≤ 1000000) : ∀ (n i : Nat) (o : List (List RowID)), a.length < i + n → i ≤ a.length → o.length ≤ 1000 * i →
    rowset_Product_L3 n b a a.length i o = (true, o ++ (a.drop i).flatMap fun x => b.map fun y => nR (x ++ y))
  | 0, i, o, h, h2, h3 => by omega
  | n + 1, i, o, h, h2, h3 => by
    rw [rowset_Product_L3]
    by_cases hi : i < a.length
    · simp only [Int.ofNat_eq_natCast, lt_nat, le0_nat, decide_true, decide_false, Bool.and_self, Bool.true_and, Bool.and_true, cond_true, cond_false, Int.toNat_natCast, eqR, eqR', Bool.not_true, Bool.not_false, bnd, hi]
      rw [show (0 : Int) = ((0 : Nat) : Int) from rfl, Product_in b (a.getD i default) a a.length i hb (hz _ (getD_mem hi)) _ 0 o (by simp; omega) (by omega) (by omega)]
      simp only [cond_true, List.drop_zero]
      rw [wrap_succ (by omega), drop_lt hi, Product_loop a b ha hb hz n (i + 1) _ (by omega) (by omega) (by simp; omega)]
      simp [List.flatMap_cons]
    · simp only [Int.ofNat_eq_natCast, lt_nat, le0_nat, decide_true, decide_false, Bool.and_self, Bool.true_and, Bool.and_true, cond_true, cond_false, Int.toNat_natCast, eqR, eqR', Bool.not_true, Bool.not_false, bnd, hi, drop_ge hi]; simp
abbrev prod (a b : List (List RowID)) : List (List RowID) := fam (a.flatMap fun x => b.map fun y => nR (x ++ y))
theorem mem_prod {a b : List (List RowID)} {z : List RowID} : z ∈ prod a b ↔ ∃ x ∈ a, ∃ y ∈ b, nR (x ++ y) = z := by
  rw [mem_fam]
  constructor
  · rintro ⟨s, hs, rfl⟩
    obtain ⟨x, hx, hs⟩ := List.mem_flatMap.1 hs
    obtain ⟨y, hy, rfl⟩ := List.mem_map.1 hs
    exact ⟨x, hx, y, hy, (nR_self (snorm_asc cR_ord _)).symm⟩
  · rintro ⟨x, hx, y, hy, rfl⟩
    exact ⟨nR (x ++ y), List.mem_flatMap.2 ⟨x, hx, List.mem_map.2 ⟨y, hy, rfl⟩⟩, nR_self (snorm_asc cR_ord _)⟩
theorem prod_small {a b : List (List RowID)} {p q : Nat} (ha : ∀ x ∈ a, x.length ≤ p) (hb : ∀ y ∈ b, y.length ≤ q) : ∀ z ∈ prod a b, z.length ≤ p + q := fun z hz => by
  obtain ⟨x, hx, y, hy, rfl⟩ := mem_prod.1 hz
  have := nR_len (x ++ y)
  have h1 := ha x hx
  have h2 := hb y hy
  simp at this; omega
theorem flat_len' (a b : List (List RowID)) : (a.flatMap fun x => b.map fun y => nR (x ++ y)).length = a.length * b.length := by
  rw [flat_len (fun x => b.map fun y => nR (x ++ y)) b.length (fun x => by simp)]
theorem prod_len (a b : List (List RowID)) : (prod a b).length ≤ a.length * b.length := by
  have := fam_len (a.flatMap fun x => b.map fun y => nR (x ++ y))
  rw [flat_len'] at this
  exact this
theorem rowset_Product_eq (a b : List (List RowID)) (ha : a.length ≤ 1000) (hb : b.length ≤ 1000) (hz : ∀ x ∈ a, ∀ y ∈ b, x.length + y.length ≤ 1000000) : rowset_Product a b = (true, prod a b) := by
  unfold rowset_Product
  rw [show (0 : Int) = ((0 : Nat) : Int) from rfl, show Int.ofNat a.length = (a.length : Int) from rfl, Product_loop a b ha hb hz _ 0 [] (by simp; omega) (by omega) (by simp)]
  simp only [bnd, cond_true, List.drop_zero, List.nil_append]
  rw [rowset_Family_eq _ (by rw [flat_len']; exact Nat.le_trans (Nat.mul_le_mul ha hb) (by omega)) fun s hs => by
    obtain ⟨x, hx, hs⟩ := List.mem_flatMap.1 hs
    obtain ⟨y, hy, rfl⟩ := List.mem_map.1 hs
    have h1 := hz x hx y hy
    have h2 := nR_len (x ++ y)
    simp at h2; omega]
  rfl

/-! ### the laws of minimal sets -/
theorem sub_eq {a b : List RowID} (ha : SAsc cR a) (hb : SAsc cR b) (h1 : ∀ x ∈ a, x ∈ b) (h2 : ∀ x ∈ b, x ∈ a) : a = b := sasc_unique cR_ord ha hb fun x => ⟨h1 x, h2 x⟩
theorem sub_lt {a b : List RowID} (ha : SAsc cR a) (hb : SAsc cR b) (h1 : ∀ x ∈ a, x ∈ b) (hne : a ≠ b) : a.length < b.length := by
  by_cases h : ∀ x ∈ b, x ∈ a
  · exact absurd (sub_eq ha hb h1 h) hne
  · obtain ⟨x, hx⟩ := Classical.not_forall.1 h
    obtain ⟨hxb, hxa⟩ := Classical.not_imp.1 hx
    have := perm_length_le_of_nodup_subset (l := x :: a) (l' := b) (List.nodup_cons.2 ⟨hxa, sasc_nodup cR_ord ha⟩) fun y hy => by
      rcases List.mem_cons.1 hy with rfl | hy
      · exact hxb
      · exact h1 y hy
    simp at this; omega
/-- Every set of a family includes a minimal one. -/
theorem has_least (al : List (List RowID)) (hs : ∀ s ∈ al, SAsc cR s) : ∀ (n : Nat) (s : List RowID), s.length ≤ n → s ∈ al → ∃ t ∈ al, least al t = true ∧ ∀ x ∈ t, x ∈ s
  | n, s, hn, hm => by
    by_cases h : least al s = true
    · exact ⟨s, hm, h, fun x hx => hx⟩
    · have h' : ¬ ∀ t ∈ al, (∀ x ∈ t, x ∈ s) → t = s := fun h' => h (least_iff.2 h')
      obtain ⟨t, ht⟩ := Classical.not_forall.1 h'
      obtain ⟨htm, ht⟩ := Classical.not_imp.1 ht
      obtain ⟨hts, hne⟩ := Classical.not_imp.1 ht
      have hlt := sub_lt (hs t htm) (hs s hm) hts hne
      cases n with
      | zero => omega
      | succ n =>
        obtain ⟨u, hu, hl, hsub⟩ := has_least al hs n t (by omega) htm
        exact ⟨u, hu, hl, fun x hx => hts x (hsub x hx)⟩
theorem mem_minl {l : List (List RowID)} {z : List RowID} : z ∈ minl l ↔ z ∈ fam l ∧ ∀ t ∈ fam l, (∀ x ∈ t, x ∈ z) → t = z := by
  rw [List.mem_filter, least_iff]
theorem minl_has {l : List (List RowID)} {s : List RowID} (h : s ∈ fam l) : ∃ t ∈ minl l, ∀ x ∈ t, x ∈ s := by
  obtain ⟨t, h1, h2, h3⟩ := has_least (fam l) (fun s hs => fam_set hs) s.length s (Nat.le_refl _) h
  exact ⟨t, List.mem_filter.2 ⟨h1, h2⟩, h3⟩
theorem minl_asc (l : List (List RowID)) : SAsc cS (minl l) := (fam_asc l).filter _
theorem minl_len (l : List (List RowID)) : (minl l).length ≤ l.length := Nat.le_trans (List.length_filter_le _ _) (fam_len l)
theorem minl_small {l : List (List RowID)} {k : Nat} (h : ∀ s ∈ l, s.length ≤ k) : ∀ s ∈ minl l, s.length ≤ k := fun s hs => fam_small h s (List.mem_filter.1 hs).1
theorem fam_self {l : List (List RowID)} (h : SAsc cS l) (hs : ∀ s ∈ l, SAsc cR s) : fam l = l := by
  have : l.map nR = l := by
    conv => rhs; rw [← List.map_id l]
    exact List.map_congr_left fun s h => nR_self (hs s h)
  unfold fam; rw [this]
  exact snorm_self cS_ord h
theorem fam_congr {l l' : List (List RowID)} (h : ∀ z, z ∈ fam l ↔ z ∈ fam l') : fam l = fam l' := sasc_unique cS_ord (fam_asc l) (fam_asc l') h
/-- A smaller family with a set below each of the greater one's has the same minimal sets. -/
theorem minl_eq {p q : List (List RowID)} (h1 : ∀ z ∈ fam q, z ∈ fam p) (h2 : ∀ z ∈ fam p, ∃ t ∈ fam q, ∀ x ∈ t, x ∈ z) : minl p = minl q := by
  refine sasc_unique cS_ord (minl_asc p) (minl_asc q) fun z => ?_
  rw [mem_minl, mem_minl]
  constructor
  · rintro ⟨hz, hm⟩
    obtain ⟨t, ht, hs⟩ := h2 z hz
    have := hm t (h1 t ht) hs
    subst this
    exact ⟨ht, fun u hu => hm u (h1 u hu)⟩
  · rintro ⟨hz, hm⟩
    refine ⟨h1 z hz, fun t ht hs => ?_⟩
    obtain ⟨u, hu, hus⟩ := h2 t ht
    have := hm u hu fun x hx => hs x (hus x hx)
    subst this
    exact sub_eq (fam_set ht) (fam_set hz) hs hus
end Go.Proofs.YteopikhooiallaaGreatDoor
/- RowsetFamilies: the law over the printed functions. -/
set_option autoImplicit false
set_option linter.unusedVariables false
set_option linter.unusedSimpArgs false
namespace Go.Proofs.YteopikhooiallaaGreatDoor
open Go Go.Ab

theorem few_iff {l : List (List RowID)} {k m : Nat} : (decide (l.length ≤ k) && l.all fun s => decide (s.length ≤ m)) = true ↔ l.length ≤ k ∧ ∀ s ∈ l, s.length ≤ m := by simp

/-- Insertion before the first that is greater: did it happen, and with what. -/
def insS (x : List RowID) : List (List RowID) → Bool × List (List RowID)
  | [] => (false, [])
  | y :: r => if cS x y < 0 then (true, x :: y :: r) else ((insS x r).1, y :: (insS x r).2)
theorem insS_sins (x : List RowID) : ∀ (l : List (List RowID)), x ∉ l → (if (insS x l).1 then (insS x l).2 else (insS x l).2 ++ [x]) = sins cS x l
  | [], _ => by simp [insS, sins]
  | y :: r, h => by
    have h1 : x ≠ y := fun e => h (by simp [e])
    have h2 := insS_sins x r fun e => h (by simp [e])
    unfold insS sins
    by_cases hc : cS x y < 0
    · simp [hc]
    · have h3 : ¬ cS x y = 0 := fun e => h1 ((cS_ord.eq x y).1 e)
      simp only [hc, h3, if_false]
      rw [← h2]
      cases (insS x r).1 <;> simp
theorem insS_length (x : List RowID) : ∀ (l : List (List RowID)), (insS x l).2.length ≤ l.length + 1
  | [] => by simp [insS]
  | y :: r => by
    have := insS_length x r
    unfold insS
    split
    · simp
    · simp; omega
theorem Add_loop (l : List (List RowID)) (s : List RowID) (hl : l.length ≤ 1000000) (hs : s.length ≤ 1000000) (hz : ∀ t ∈ l, t.length ≤ 1000000) : ∀ (n i : Nat) (done : Bool) (o : List (List RowID)), l.length < i + n → i ≤ l.length → o.length ≤ i + (if done then 1 else 0) →
    ref02_Add_L4 n l s done i o = (true, if s ∈ l.drop i then .inl l else .inr (if done then (s, true, o ++ l.drop i) else (s, (insS s (l.drop i)).1, o ++ (insS s (l.drop i)).2)))
  | 0, i, done, o, h, h2, h3 => by omega
  | n + 1, i, done, o, h, h2, h3 => by
    rw [ref02_Add_L4]
    by_cases hi : i < l.length
    · have h4 : o.length ≤ i + 1 := by split at h3 <;> omega
      have e1 : (o.length + 1) * 24 ≤ reach := reach_of (by omega) (by omega)
      have e2 : (o.length + 1 + 1) * 24 ≤ reach := reach_of (by omega) (by omega)
      simp only [Int.ofNat_eq_natCast, lt_nat, le0_nat, decide_true, decide_false, Bool.and_self, Bool.true_and, Bool.and_true, cond_true, cond_false, Int.toNat_natCast, eqR, eqR', Bool.not_true, Bool.not_false, bnd, hi, ref02_CompareSets_eq _ _ hs (hz _ (getD_mem hi)), List.length_singleton, List.length_append, e1, e2]
      rw [wrap_succ (by omega), drop_lt hi]
      generalize l.getD i default = x
      by_cases he : s = x
      · subst he
        simp [cS_ord.refl]
      · have h0 : ¬ cS s x = 0 := fun e => he ((cS_ord.eq s x).1 e)
        have h0' : (cS s x == 0) = false := by simp [h0]
        simp only [h0', cond_false]
        cases done with
        | true =>
          simp only [Bool.not_true, cond_false, if_true] at h3 ⊢
          rw [Add_loop l s hl hs hz n (i + 1) true _ (by omega) (by omega) (by simp; omega)]
          simp [he]
        | false =>
          simp only [Bool.not_false, cond_true, insS, Bool.false_eq_true, if_false] at h3 ⊢
          by_cases hc : cS s x < 0
          · simp only [hc, decide_true, cond_true, if_true]
            rw [Add_loop l s hl hs hz n (i + 1) true _ (by omega) (by omega) (by simp; omega)]
            simp [he]
          · simp only [hc, decide_false, cond_false, if_false]
            rw [Add_loop l s hl hs hz n (i + 1) false _ (by omega) (by omega) (by simp; omega)]
            simp [he]
    · simp only [Int.ofNat_eq_natCast, lt_nat, le0_nat, decide_true, decide_false, Bool.and_self, Bool.true_and, Bool.and_true, cond_true, cond_false, Int.toNat_natCast, eqR, eqR', Bool.not_true, Bool.not_false, bnd, hi, drop_ge hi]
      cases done <;> simp [insS]
theorem ref02_Add_eq (l : List (List RowID)) (s : List RowID) (hl : l.length ≤ 1000000) (hs : s.length ≤ 1000000) (hz : ∀ t ∈ l, t.length ≤ 1000000) (ha : SAsc cS l) : ref02_Add l s = (true, sins cS s l) := by
  unfold ref02_Add
  rw [show (0 : Int) = ((0 : Nat) : Int) from rfl, Add_loop l s hl hs hz _ 0 false [] (by simp; omega) (by omega) (by simp)]
  by_cases h : s ∈ l
  · simp only [List.drop_zero, h, if_true, bnd, cond_true, isL, getL]
    congr 1
    exact sasc_unique cS_ord ha (sins_asc cS_ord s ha) fun z => by
      rw [sins_mem cS_ord]
      exact ⟨.inr, fun h' => h'.elim (fun e => e ▸ h) fun h' => h'⟩
  · have h1 := insS_length s l
    have e1 : ((insS s l).2.length + 1) * 24 ≤ reach := reach_of (by omega) (by omega)
    simp only [List.drop_zero, h, if_false, bnd, cond_true, cond_false, isL, getR, Bool.false_eq_true, List.nil_append, List.length_singleton, e1, decide_true]
    rw [← insS_sins s l h]
    cases (insS s l).1 <;> simp
theorem sinsS_length (x : List RowID) : ∀ l : List (List RowID), (sins cS x l).length ≤ l.length + 1
  | [] => by simp [sins]
  | y :: r => by
    have := sinsS_length x r
    unfold sins
    split
    · simp
    · split <;> simp <;> omega
theorem sinsS_small {x : List RowID} {l : List (List RowID)} {k : Nat} (hx : x.length ≤ k) (h : ∀ t ∈ l, t.length ≤ k) : ∀ t ∈ sins cS x l, t.length ≤ k := fun t ht => by
  rcases (sins_mem cS_ord x l t).1 ht with rfl | ht
  · exact hx
  · exact h t ht
theorem RFamily_loop (l : List (List RowID)) (hl : l.length ≤ 1000) (hz : ∀ s ∈ l, s.length ≤ 1000) : ∀ (n i : Nat) (o : List (List RowID)), l.length < i + n → i ≤ l.length → SAsc cS o → o.length ≤ i → (∀ s ∈ o, s.length ≤ 1000) →
    ref02_Family_L3 n l o i = (true, ((l.drop i).map nR).foldl (fun o x => sins cS x o) o)
  | 0, i, o, h, h2, hs, h3, h4 => by omega
  | n + 1, i, o, h, h2, hs, h3, h4 => by
    rw [ref02_Family_L3]
    by_cases hi : i < l.length
    · have hx := hz _ (getD_mem hi)
      simp only [Int.ofNat_eq_natCast, lt_nat, le0_nat, decide_true, decide_false, Bool.and_self, Bool.true_and, Bool.and_true, cond_true, cond_false, Int.toNat_natCast, eqR, eqR', Bool.not_true, Bool.not_false, bnd, hi, ref02_Normalize_eq _ (Nat.le_trans hx (by omega))]
      rw [drop_lt hi, wrap_succ (by omega)]
      generalize l.getD i default = x at hx ⊢
      have h5 := nR_len x
      rw [ref02_Add_eq o (nR x) (by omega) (by omega) (fun t ht => Nat.le_trans (h4 t ht) (by omega)) hs]
      have := sinsS_length (nR x) o
      simp only [cond_true]
      rw [RFamily_loop l hl hz n (i + 1) _ (by omega) (by omega) (sins_asc cS_ord _ hs) (by omega) (sinsS_small (by omega) h4)]
      rfl
    · simp only [Int.ofNat_eq_natCast, lt_nat, le0_nat, decide_true, decide_false, Bool.and_self, Bool.true_and, Bool.and_true, cond_true, cond_false, Int.toNat_natCast, eqR, eqR', Bool.not_true, Bool.not_false, bnd, hi, drop_ge hi]; rfl
theorem ref02_Family_eq (l : List (List RowID)) (hl : l.length ≤ 1000) (hz : ∀ s ∈ l, s.length ≤ 1000) : ref02_Family l = (true, fam l) := by
  unfold ref02_Family
  rw [show (0 : Int) = ((0 : Nat) : Int) from rfl, RFamily_loop l hl hz _ 0 [] (by simp) (by omega) .nil (by simp) (by simp)]
  rfl

/-! ### minimal sets -/
theorem RMinimal_in (al : List (List RowID)) (hn : al.Nodup) (j : Nat) (hj : j < al.length) (hl : al.length ≤ 1000000) (hz : ∀ t ∈ al, t.length ≤ 1000000) (o : List (List RowID)) : ∀ (n k : Nat) (b : Bool), al.length < k + n → k ≤ al.length →
    ref02_Minimal_L8 n al j b k o = (true, (al, (j : Int), b && (al.drop k).all fun t => !(decide (t ≠ al.getD j default) && sub t (al.getD j default)), o))
  | 0, k, b, h, h2 => by omega
  | n + 1, k, b, h, h2 => by
    rw [ref02_Minimal_L8]
    by_cases hk : k < al.length
    · simp only [Int.ofNat_eq_natCast, lt_nat, le0_nat, decide_true, decide_false, Bool.and_self, Bool.true_and, Bool.and_true, cond_true, cond_false, Int.toNat_natCast, eqR, eqR', Bool.not_true, Bool.not_false, bnd, hk, hj, ref02_Subset_eq _ _ (hz _ (getD_mem hk)) (hz _ (getD_mem hj)), bne_nat]
      rw [wrap_succ (by omega), drop_lt hk]
      by_cases hkj : k = j
      · subst hkj
        simp only [ne_eq, not_true_eq_false, decide_false, cond_false, List.all_cons, Bool.false_and, Bool.not_false, Bool.true_and]
        exact RMinimal_in al hn k hj hl hz o n (k + 1) b (by omega) (by omega)
      · have hne : al.getD k default ≠ al.getD j default := fun e => hkj (nodup_getD hn hj hk e)
        simp only [ne_eq, hkj, not_false_eq_true, decide_true, cond_true, List.all_cons, hne, Bool.true_and]
        cases h3 : (al.getD k default).all fun x => decide (x ∈ al.getD j default) with
        | true =>
          have h3' : sub (al.getD k default) (al.getD j default) = true := h3
          simp only [cond_true, h3', Bool.not_true, Bool.false_and, Bool.and_false]
          rw [RMinimal_in al hn j hj hl hz o n (k + 1) false (by omega) (by omega)]; rfl
        | false =>
          have h3' : sub (al.getD k default) (al.getD j default) = false := h3
          simp only [cond_false, h3', Bool.not_false, Bool.true_and]
          exact RMinimal_in al hn j hj hl hz o n (k + 1) b (by omega) (by omega)
    · simp only [Int.ofNat_eq_natCast, lt_nat, le0_nat, decide_true, decide_false, Bool.and_self, Bool.true_and, Bool.and_true, cond_true, cond_false, Int.toNat_natCast, eqR, eqR', Bool.not_true, Bool.not_false, bnd, hk, drop_ge hk]; simp
theorem RMinimal_loop (al : List (List RowID)) (hn : al.Nodup) (hl : al.length ≤ 1000000) (hz : ∀ t ∈ al, t.length ≤ 1000000) : ∀ (n i : Nat) (o : List (List RowID)), al.length < i + n → i ≤ al.length → o.length ≤ i →
    ref02_Minimal_L4 n al i o = (true, o ++ (al.drop i).filter (least al))
  | 0, i, o, h, h2, h3 => by omega
  | n + 1, i, o, h, h2, h3 => by
    rw [ref02_Minimal_L4]
    by_cases hi : i < al.length
    · have e1 : (o.length + 1) * 24 ≤ reach := reach_of (by omega) (by omega)
      rw [show (0 : Int) = ((0 : Nat) : Int) from rfl, RMinimal_in al hn i hi hl hz o _ 0 true (by omega) (by omega)]
      simp only [Int.ofNat_eq_natCast, lt_nat, le0_nat, decide_true, decide_false, Bool.and_self, Bool.true_and, Bool.and_true, cond_true, cond_false, Int.toNat_natCast, eqR, eqR', Bool.not_true, Bool.not_false, bnd, hi, List.drop_zero, List.length_singleton, e1]
      rw [wrap_succ (by omega), drop_lt hi]
      generalize al.getD i default = s
      cases hb : least al s with
      | true =>
        have hb' : (al.all fun t => !(decide (t ≠ s) && sub t s)) = true := hb
        simp only [hb', cond_true, List.filter_cons, hb, if_true]
        rw [RMinimal_loop al hn hl hz n (i + 1) _ (by omega) (by omega) (by simp; omega)]
        simp
      | false =>
        have hb' : (al.all fun t => !(decide (t ≠ s) && sub t s)) = false := hb
        simp only [hb', cond_false, List.filter_cons, hb, Bool.false_eq_true, if_false]
        rw [RMinimal_loop al hn hl hz n (i + 1) _ (by omega) (by omega) (by omega)]
    · simp only [Int.ofNat_eq_natCast, lt_nat, le0_nat, decide_true, decide_false, Bool.and_self, Bool.true_and, Bool.and_true, cond_true, cond_false, Int.toNat_natCast, eqR, eqR', Bool.not_true, Bool.not_false, bnd, hi, drop_ge hi]; simp
theorem ref02_Minimal_eq (l : List (List RowID)) (hl : l.length ≤ 1000) (hz : ∀ s ∈ l, s.length ≤ 1000) : ref02_Minimal l = (true, minl l) := by
  unfold ref02_Minimal
  have h1 := fam_len l
  rw [ref02_Family_eq l hl hz]
  simp only [bnd, cond_true]
  rw [show (0 : Int) = ((0 : Nat) : Int) from rfl,
    RMinimal_loop (fam l) (sasc_nodup cS_ord (fam_asc l)) (by omega) (fun s h => Nat.le_trans (fam_small hz s h) (by omega)) _ 0 [] (by simp) (by omega) (by simp)]
  rfl

/-! ### products -/
theorem RProduct_in (a b : List (List RowID)) (j : Nat) (hj : j < a.length) (hb : b.length ≤ 1000) (hza : ∀ s ∈ a, s.length ≤ 1000) (hzb : ∀ s ∈ b, s.length ≤ 1000) : ∀ (n i : Nat) (o : List (List RowID)), b.length < i + n → i ≤ b.length → SAsc cS o → o.length + b.length ≤ 500000 + i → (∀ s ∈ o, s.length ≤ 2000) →
    ref02_Product_L6 n a b o j i = (true, (a, b, ((b.drop i).map fun y => nR (a.getD j default ++ y)).foldl (fun o x => sins cS x o) o, (j : Int)))
  | 0, i, o, h, h2, h3, h4, h5 => by omega
  | n + 1, i, o, h, h2, h3, h4, h5 => by
    rw [ref02_Product_L6]
    by_cases hi : i < b.length
    · have hx := hza _ (getD_mem hj)
      have hy := hzb _ (getD_mem hi)
      simp only [Int.ofNat_eq_natCast, lt_nat, le0_nat, decide_true, decide_false, Bool.and_self, Bool.true_and, Bool.and_true, cond_true, cond_false, Int.toNat_natCast, eqR, eqR', Bool.not_true, Bool.not_false, bnd, hi, hj, ref02_Union_eq _ _ (Nat.le_trans hx (by omega)) (Nat.le_trans hy (by omega))]
      rw [drop_lt hi, wrap_succ (by omega)]
      generalize b.getD i default = y at hy ⊢
      have h6 := nR_len (a.getD j default ++ y)
      rw [List.length_append] at h6
      rw [ref02_Add_eq o _ (by omega) (by omega) (fun t ht => Nat.le_trans (h5 t ht) (by omega)) h3]
      have := sinsS_length (nR (a.getD j default ++ y)) o
      simp only [cond_true]
      rw [RProduct_in a b j hj hb hza hzb n (i + 1) _ (by omega) (by omega) (sins_asc cS_ord _ h3) (by omega) (sinsS_small (by omega) h5)]
      rfl
    · simp only [Int.ofNat_eq_natCast, lt_nat, le0_nat, decide_true, decide_false, Bool.and_self, Bool.true_and, Bool.and_true, cond_true, cond_false, Int.toNat_natCast, eqR, eqR', Bool.not_true, Bool.not_false, bnd, hi, drop_ge hi]; rfl
theorem foldS_length : ∀ (l o : List (List RowID)), (l.foldl (fun o x => sins cS x o) o).length ≤ o.length + l.length
  | [], o => by simp
  | x :: l, o => by
    have h1 := foldS_length l (sins cS x o)
    have h2 := sinsS_length x o
    simp only [List.foldl_cons, List.length_cons]; omega
theorem foldS_small {k : Nat} : ∀ (l o : List (List RowID)), (∀ s ∈ l, s.length ≤ k) → (∀ s ∈ o, s.length ≤ k) → ∀ s ∈ l.foldl (fun o x => sins cS x o) o, s.length ≤ k
  | [], o, _, h => h
  | x :: l, o, h1, h2 => by
    simp only [List.foldl_cons]
    exact foldS_small l _ (fun s hs => h1 s (by simp [hs])) (sinsS_small (h1 x (by simp)) h2)
theorem RProduct_loop (a b : List (List RowID)) (ha : a.length ≤ 100) (hb : b.length ≤ 100) (hza : ∀ s ∈ a, s.length ≤ 1000) (hzb : ∀ s ∈ b, s.length ≤ 1000) : ∀ (n i : Nat) (o : List (List RowID)), a.length < i + n → i ≤ a.length → SAsc cS o → o.length ≤ 100 * i → (∀ s ∈ o, s.length ≤ 2000) →
    ref02_Product_L3 n a b o i = (true, ((a.drop i).flatMap fun x => b.map fun y => nR (x ++ y)).foldl (fun o x => sins cS x o) o)
  | 0, i, o, h, h2, h3, h4, h5 => by omega
  | n + 1, i, o, h, h2, h3, h4, h5 => by
    rw [ref02_Product_L3]
    by_cases hi : i < a.length
    · simp only [Int.ofNat_eq_natCast, lt_nat, le0_nat, decide_true, decide_false, Bool.and_self, Bool.true_and, Bool.and_true, cond_true, cond_false, Int.toNat_natCast, eqR, eqR', Bool.not_true, Bool.not_false, bnd, hi]
      rw [show (0 : Int) = ((0 : Nat) : Int) from rfl, RProduct_in a b i hi (by omega) hza hzb _ 0 o (by omega) (by omega) h3 (by omega) h5]
      simp only [Int.ofNat_eq_natCast, lt_nat, le0_nat, decide_true, decide_false, Bool.and_self, Bool.true_and, Bool.and_true, cond_true, cond_false, Int.toNat_natCast, eqR, eqR', Bool.not_true, Bool.not_false, bnd, hi, List.drop_zero]
      rw [wrap_succ (by omega), drop_lt hi]
      have hx := hza _ (getD_mem hi)
      generalize a.getD i default = x at hx ⊢
      have h6 : ∀ s ∈ b.map fun y => nR (x ++ y), s.length ≤ 2000 := fun s hs => by
        obtain ⟨y, hy, rfl⟩ := List.mem_map.1 hs
        have := nR_len (x ++ y)
        have := hzb y hy
        simp at *; omega
      have h7 := foldS_length (b.map fun y => nR (x ++ y)) o
      rw [List.length_map] at h7
      rw [RProduct_loop a b ha hb hza hzb n (i + 1) _ (by omega) (by omega) (foldl_sins cS_ord _ _ h3).1 (by omega) (foldS_small _ _ h6 h5)]
      rw [List.flatMap_cons, List.foldl_append]
    · simp only [Int.ofNat_eq_natCast, lt_nat, le0_nat, decide_true, decide_false, Bool.and_self, Bool.true_and, Bool.and_true, cond_true, cond_false, Int.toNat_natCast, eqR, eqR', Bool.not_true, Bool.not_false, bnd, hi, drop_ge hi]; rfl
theorem ref02_Product_eq (a b : List (List RowID)) (ha : a.length ≤ 100) (hb : b.length ≤ 100) (hza : ∀ s ∈ a, s.length ≤ 1000) (hzb : ∀ s ∈ b, s.length ≤ 1000) : ref02_Product a b = (true, prod a b) := by
  unfold ref02_Product
  rw [show (0 : Int) = ((0 : Nat) : Int) from rfl, RProduct_loop a b ha hb hza hzb _ 0 [] (by simp; omega) (by omega) .nil (by simp) (by simp)]
  simp only [bnd, cond_true, List.drop_zero]
  congr 1
  have : (a.flatMap fun x => b.map fun y => nR (x ++ y)).map nR = a.flatMap fun x => b.map fun y => nR (x ++ y) := by
    conv => rhs; rw [← List.map_id (a.flatMap fun x => b.map fun y => nR (x ++ y))]
    refine List.map_congr_left fun s hs => ?_
    obtain ⟨x, hx, hs⟩ := List.mem_flatMap.1 hs
    obtain ⟨y, hy, rfl⟩ := List.mem_map.1 hs
    exact nR_self (snorm_asc cR_ord _)
  unfold prod fam
  rw [this]; rfl

/-! ### RowsetFamilies -/
theorem families_plain (a b : List (List RowID)) (wa : wf22 a) (wb : wf22 b) : law02_RowsetFamilies a b = (true, true) := by
  unfold law02_RowsetFamilies
  rw [show (8 : Int) = ((8 : Nat) : Int) from rfl, ref02_Few_eq a 8 8 (by omega), ref02_Few_eq b 8 8 (by omega)]
  simp only [bnd, cond_true]
  cases hfa : decide (a.length ≤ 8) && a.all fun s => decide (s.length ≤ 8) with
  | false => rfl
  | true =>
  cases hfb : decide (b.length ≤ 8) && b.all fun s => decide (s.length ≤ 8) with
  | false => rfl
  | true =>
    obtain ⟨hal, has⟩ := few_iff.1 hfa
    obtain ⟨hbl, hbs⟩ := few_iff.1 hfb
    have za : ∀ s ∈ a, s.length ≤ 1000 := fun s h => Nat.le_trans (has s h) (by omega)
    have zb : ∀ s ∈ b, s.length ≤ 1000 := fun s h => Nat.le_trans (hbs s h) (by omega)
    have za' : ∀ s ∈ a, s.length ≤ 1000000 := fun s h => Nat.le_trans (has s h) (by omega)
    have h1 := fam_len a
    have h2 := minl_len a
    have h3 := prod_len a b
    have h4 : a.length * b.length ≤ 8 * 8 := Nat.mul_le_mul hal hbl
    simp only [Bool.not_true, cond_false]
    rw [rowset_Family_eq a (by omega) za', ref02_Family_eq a (by omega) za]
    simp only [cond_true]
    rw [ref02_Sets_eq (fam a) (fam a) (by omega) (fam_small za'), rowset_Minimal_eq a (by omega) za', ref02_Minimal_eq a (by omega) za]
    simp only [cond_true, decide_true]
    rw [ref02_Sets_eq (minl a) (minl a) (by omega) (minl_small za'),
      rowset_Product_eq a b (by omega) (by omega) (fun x hx y hy => by have := has x hx; have := hbs y hy; omega), ref02_Product_eq a b (by omega) (by omega) za zb]
    simp only [cond_true, decide_true]
    rw [ref02_Sets_eq (prod a b) (prod a b) (by omega) (fun s hs => Nat.le_trans (prod_small has hbs s hs) (by omega))]
    simp
end Go.Proofs.YteopikhooiallaaGreatDoor
