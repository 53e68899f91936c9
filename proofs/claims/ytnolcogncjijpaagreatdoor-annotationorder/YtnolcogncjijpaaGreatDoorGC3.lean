/- Texts of this claim, joined (the program, its functions in plain words, and what they compute). -/
import Derived.Test.YtnolcogncjijpaaGreatDoorGC1
import Derived.Test.YtnolcogncjijpaaGreatDoorGA2
import Derived.Test.YtnolcogncjijpaaGreatDoorGC2
import Derived.Test.YtnolcogncjijpaaGreatDoorGB1
set_option autoImplicit false
set_option linter.unusedVariables false
set_option linter.unusedSimpArgs false
set_option maxRecDepth 1000000
set_option maxHeartbeats 0
namespace Go.Proofs.YtnolcogncjijpaaGreatDoor
open Go Go.Ab
/-! ### slices.IndexFunc[[]lineage/api.Binding,lineage/api.Binding] -/
noncomputable def slices_IndexFunc_Lapi_Binding_api_Binding_s1_W2 (s : List Binding) (t7 : Int) (t8 : Int) : Wy (List Binding × Unit × Int × Int × Unit) (Unit) (Int ⊕ Unit) := .i (decide (t8 < t7)) (.i (decide ((0 : Int) ≤ t8) && decide (t8 < Int.ofNat s.length)) (.bn (annotation_Substitute_c1 (s.getD t8.toNat default)) fun r0 => .i (r0) (.k (.inl t8)) (.h (s, (), t7, (IntKind.i64.wrap (t8 + (1 : Int))), ()) ())) .d) (.k (.inr ()))
noncomputable def slices_IndexFunc_Lapi_Binding_api_Binding_s1_w2 (x : List Binding × Unit × Int × Int × Unit) (y : Unit) : Wy (List Binding × Unit × Int × Int × Unit) (Unit) (Int ⊕ Unit) := slices_IndexFunc_Lapi_Binding_api_Binding_s1_W2 x.1 x.2.2.1 x.2.2.2.1
noncomputable def slices_IndexFunc_Lapi_Binding_api_Binding_s1_L2 (n : Nat) (s : List Binding) (t7 : Int) (t8 : Int) : Bool × (Int ⊕ Unit) := iterW (slices_IndexFunc_Lapi_Binding_api_Binding_s1_w2) (.inl default) n (s, (), t7, t8, ()) ()
noncomputable def slices_IndexFunc_Lapi_Binding_api_Binding_s1_tr2 (r : Int ⊕ Unit) : LTree ty := .ite (isL r) (.done .ret [.lit (.int .i64 (getL r))] []) (.done (.exit 0) [] [])
noncomputable def slices_IndexFunc_Lapi_Binding_api_Binding_s1_V2 : LL ty (List Binding × Unit × Int × Int × Unit) := llCons (lSl 69) (llCons (lFn 91 (llNil)) (llCons (lInt .i64) (llCons (lInt .i64) llNil)))
noncomputable def slices_IndexFunc_Lapi_Binding_api_Binding_s1_B2 : BL ty (Unit) := bNil
noncomputable def slices_IndexFunc_Lapi_Binding_api_Binding_s1_cx : Cx ty := mkCx base 19 [(91, annotation_Substitute_c1_spec)] [] [(2, [(0, .keep), (1, .keep), (7, .keep), (8, .keep)])] [(2, 1, []), (2, 0, [(4, .keep)])] [(2, spW slices_IndexFunc_Lapi_Binding_api_Binding_s1_V2 slices_IndexFunc_Lapi_Binding_api_Binding_s1_B2 (slices_IndexFunc_Lapi_Binding_api_Binding_s1_w2) (.inl default) slices_IndexFunc_Lapi_Binding_api_Binding_s1_tr2 fun x y => (x.1.length + Int.toNat x.2.2.1 + Int.toNat x.2.2.2.1 + 1))] []
theorem slices_IndexFunc_Lapi_Binding_api_Binding_s1_to2 : LoopOK slices_IndexFunc_Lapi_Binding_api_Binding_s1_cx (lp (body Tryz.f94) 0) := loopOK_W (id := 2) (V := slices_IndexFunc_Lapi_Binding_api_Binding_s1_V2) (B := slices_IndexFunc_Lapi_Binding_api_Binding_s1_B2) (W := slices_IndexFunc_Lapi_Binding_api_Binding_s1_w2) (z := .inl default) (tr := slices_IndexFunc_Lapi_Binding_api_Binding_s1_tr2) (m := fun x y => (x.1.length + Int.toNat x.2.2.1 + Int.toNat x.2.2.2.1 + 1)) (by kernel_rfl) (by kernel_rfl) fun R H K x y => by kernel_rfl
noncomputable def slices_IndexFunc_Lapi_Binding_api_Binding_s1_W (s : List Binding) : Wy0 (Int) := .bn (slices_IndexFunc_Lapi_Binding_api_Binding_s1_L2 (s.length + (Int.ofNat s.length).toNat + Int.toNat (0 : Int) + (1 : Nat)) s (Int.ofNat s.length) (0 : Int)) fun r2 => .i (isL r2) (.k (getL r2)) (.k (-1 : Int))
noncomputable def slices_IndexFunc_Lapi_Binding_api_Binding_s1 (s : List Binding) : Bool × Int := (slices_IndexFunc_Lapi_Binding_api_Binding_s1_W s).fin default
noncomputable def slices_IndexFunc_Lapi_Binding_api_Binding_s1_res (r : Int) : ARes ty := ⟨[.pure (.lit (.int .i64 r))], []⟩
noncomputable def slices_IndexFunc_Lapi_Binding_api_Binding_s1_A : AL base (List Binding × Unit × Unit) := aCons (aPure (vSl 69)) (aCons (aPure (vFn 91 vNil)) aNil)
noncomputable def slices_IndexFunc_Lapi_Binding_api_Binding_s1_spec : Ab.Spec ty := mkSpec slices_IndexFunc_Lapi_Binding_api_Binding_s1_A fun x => ((slices_IndexFunc_Lapi_Binding_api_Binding_s1 x.1).1, slices_IndexFunc_Lapi_Binding_api_Binding_s1_res (slices_IndexFunc_Lapi_Binding_api_Binding_s1 x.1).2)
theorem slices_IndexFunc_Lapi_Binding_api_Binding_s1_sound : Sound Tryz.prog base 94 slices_IndexFunc_Lapi_Binding_api_Binding_s1_spec :=
  sound_W (cx' := slices_IndexFunc_Lapi_Binding_api_Binding_s1_cx) draws base_ok mkSame (mkSpecs ⟨(annotation_Substitute_c1_sound), trivial⟩) Tryz.call94 Tryz.func94 (c := body Tryz.f94) (by kernel_rfl) (loopsOK_of (l := [lp (body Tryz.f94) 0]) (by kernel_rfl) ⟨slices_IndexFunc_Lapi_Binding_api_Binding_s1_to2, trivial⟩) (sg := ⟨[.pure], []⟩) (A := slices_IndexFunc_Lapi_Binding_api_Binding_s1_A) (res := slices_IndexFunc_Lapi_Binding_api_Binding_s1_res) (W := fun x => slices_IndexFunc_Lapi_Binding_api_Binding_s1_W x.1) (z := default) (fun x => by kernel_rfl) (fun _ => by kernel_rfl)
end Go.Proofs.YtnolcogncjijpaaGreatDoor
namespace Go.Proofs.YtnolcogncjijpaaGreatDoor
open Go Go.Ab
/-! ### slices.ContainsFunc[[]lineage/api.Binding,lineage/api.Binding] -/
noncomputable def slices_ContainsFunc_Lapi_Binding_api_Binding_s1_cx : Cx ty := mkCx base 9 [(91, annotation_Substitute_c1_spec), (94, slices_IndexFunc_Lapi_Binding_api_Binding_s1_spec)] [] [] [] [] []
noncomputable def slices_ContainsFunc_Lapi_Binding_api_Binding_s1_W (s : List Binding) : Wy0 (Bool) := .bn (slices_IndexFunc_Lapi_Binding_api_Binding_s1 s) fun r0 => .k (decide (r0 ≥ (0 : Int)))
noncomputable def slices_ContainsFunc_Lapi_Binding_api_Binding_s1 (s : List Binding) : Bool × Bool := (slices_ContainsFunc_Lapi_Binding_api_Binding_s1_W s).fin default
noncomputable def slices_ContainsFunc_Lapi_Binding_api_Binding_s1_res (r : Bool) : ARes ty := ⟨[.pure (.lit (.bool r))], []⟩
noncomputable def slices_ContainsFunc_Lapi_Binding_api_Binding_s1_A : AL base (List Binding × Unit × Unit) := aCons (aPure (vSl 69)) (aCons (aPure (vFn 91 vNil)) aNil)
noncomputable def slices_ContainsFunc_Lapi_Binding_api_Binding_s1_spec : Ab.Spec ty := mkSpec slices_ContainsFunc_Lapi_Binding_api_Binding_s1_A fun x => ((slices_ContainsFunc_Lapi_Binding_api_Binding_s1 x.1).1, slices_ContainsFunc_Lapi_Binding_api_Binding_s1_res (slices_ContainsFunc_Lapi_Binding_api_Binding_s1 x.1).2)
theorem slices_ContainsFunc_Lapi_Binding_api_Binding_s1_sound : Sound Tryz.prog base 90 slices_ContainsFunc_Lapi_Binding_api_Binding_s1_spec :=
  sound_W (cx' := slices_ContainsFunc_Lapi_Binding_api_Binding_s1_cx) draws base_ok mkSame (mkSpecs ⟨(annotation_Substitute_c1_sound), (slices_IndexFunc_Lapi_Binding_api_Binding_s1_sound), trivial⟩) Tryz.call90 Tryz.func90 (c := body Tryz.f90) (by kernel_rfl) (loopsOK_of (l := []) (by kernel_rfl) trivial) (sg := ⟨[.pure], []⟩) (A := slices_ContainsFunc_Lapi_Binding_api_Binding_s1_A) (res := slices_ContainsFunc_Lapi_Binding_api_Binding_s1_res) (W := fun x => slices_ContainsFunc_Lapi_Binding_api_Binding_s1_W x.1) (z := default) (fun x => by kernel_rfl) (fun _ => by kernel_rfl)
end Go.Proofs.YtnolcogncjijpaaGreatDoor
namespace Go.Proofs.YtnolcogncjijpaaGreatDoor
open Go Go.Ab
/-! ### lineage/annotation.Substitute -/
noncomputable def annotation_Substitute_cx : Cx ty := mkCx base0 18 [(31, annotation_Valid_spec), (90, slices_ContainsFunc_Lapi_Binding_api_Binding_s1_spec), (91, annotation_Substitute_c1_spec), (92, annotation_replace_spec), (93, annotation_Substitute_c2_spec)] [] [] [] [] []
noncomputable def annotation_Substitute_W (a : List Term) (l : List Binding) : Wy0 (List Term × Int) := .bn (annotation_Valid a) fun r2 => .i (!r2) (.k ([], (1 : Int))) (.bn (slices_ContainsFunc_Lapi_Binding_api_Binding_s1 l) fun r1 => .i (r1) (.k ([], (1 : Int))) (.bn (annotation_replace a l) fun r0 => .k (r0.fst, r0.snd)))
noncomputable def annotation_Substitute (a : List Term) (l : List Binding) : Bool × (List Term × Int) := (annotation_Substitute_W a l).fin default
noncomputable def annotation_Substitute_res (r : List Term × Int) : ARes ty := ⟨[.own 42 r.1, .pure (.lit (.int .i64 r.2))], []⟩
noncomputable def annotation_Substitute_A : AL base0 (List Term × List Binding × Unit) := aCons (aPure (vSl 42)) (aCons (aPure (vSl 69)) aNil)
noncomputable def annotation_Substitute_spec : Ab.Spec ty := mkSpec annotation_Substitute_A fun x => ((annotation_Substitute x.1 x.2.1).1, annotation_Substitute_res (annotation_Substitute x.1 x.2.1).2)
theorem annotation_Substitute_sound : Sound Tryz.prog base0 41 annotation_Substitute_spec :=
  sound_W (cx' := annotation_Substitute_cx) draws base0_ok mkSame (mkSpecs ⟨(annotation_Valid_sound.nodr), (slices_ContainsFunc_Lapi_Binding_api_Binding_s1_sound.nodr), (annotation_Substitute_c1_sound.nodr), (annotation_replace_sound), (annotation_Substitute_c2_sound.nodr), trivial⟩) Tryz.call41 Tryz.func41 (c := body Tryz.f41) (by kernel_rfl) (loopsOK_of (l := []) (by kernel_rfl) trivial) (sg := ⟨[.own 42, .pure], []⟩) (A := annotation_Substitute_A) (res := annotation_Substitute_res) (W := fun x => annotation_Substitute_W x.1 x.2.1) (z := default) (fun x => by kernel_rfl) (fun _ => by kernel_rfl)
end Go.Proofs.YtnolcogncjijpaaGreatDoor
namespace Go.Proofs.YtnolcogncjijpaaGreatDoor
open Go Go.Ab
/-! ### lineage/lineagelaw05.awake -/
noncomputable def law05_awake_cx : Cx ty := mkCx base0 84 [(13, annotation_Add_spec), (16, annotation_Mul_spec), (18, annotation_Monus_spec), (20, annotation_Delta_spec), (25, annotation_Const_spec), (27, annotation_Var_spec), (41, annotation_Substitute_spec), (51, annotation_Format_spec)] [] [] [] [] []
noncomputable def law05_awake_W : Wy0 (Bool) := .k true
noncomputable def law05_awake : Bool × Bool := (law05_awake_W).fin default
noncomputable def law05_awake_res (r : Bool) : ARes ty := ⟨[.pure (.lit (.bool r))], []⟩
noncomputable def law05_awake_A : AL base0 (Unit) := aNil
noncomputable def law05_awake_spec : Ab.Spec ty := mkSpec law05_awake_A fun x => ((law05_awake ).1, law05_awake_res (law05_awake ).2)
theorem law05_awake_sound : Sound Tryz.prog base0 11 law05_awake_spec :=
  sound_W (cx' := law05_awake_cx) draws base0_ok mkSame (mkSpecs ⟨(annotation_Add_sound), (annotation_Mul_sound), (annotation_Monus_sound.nodr), (annotation_Delta_sound.nodr), (annotation_Const_sound.nodr), (annotation_Var_sound.nodr), (annotation_Substitute_sound), (annotation_Format_sound), trivial⟩) Tryz.call11 Tryz.func11 (c := body Tryz.f11) (by kernel_rfl) (loopsOK_of (l := []) (by kernel_rfl) trivial) (sg := ⟨[.pure], []⟩) (A := law05_awake_A) (res := law05_awake_res) (W := fun x => law05_awake_W ) (z := default) (fun x => by kernel_rfl) (fun _ => by kernel_rfl)
end Go.Proofs.YtnolcogncjijpaaGreatDoor
namespace Go.Proofs.YtnolcogncjijpaaGreatDoor
open Go Go.Ab
/-! ### lineage/lineageref05.weight -/
noncomputable def ref05_weight_res (r : Int) : ARes ty := ⟨[.pure (.lit (.int .i64 r))], []⟩
noncomputable def ref05_weight_A : AL base (List Term × Int × Int × Unit) := aCons (aPure (vSl 42)) (aCons (aPure (vInt .i64)) (aCons (aPure (vInt .i64)) aNil))
noncomputable def ref05_weight_S (F : List Term → Int → Int → Bool × Int) : Ab.Spec ty := mkSpec ref05_weight_A fun x => ((F x.1 x.2.1 x.2.2.1).1, ref05_weight_res (F x.1 x.2.1 x.2.2.1).2)
end Go.Proofs.YtnolcogncjijpaaGreatDoor
namespace Go.Proofs.YtnolcogncjijpaaGreatDoor
open Go Go.Ab
/-! ### lineage/lineageref05.weight -/
noncomputable def ref05_weight_b_W14 (g_ref05_weight : List Term → Int → Int → Bool × Int) (a : List Term) (limit : Int) (deep : Int) (n_ : Int) (i : Int) (k : Int) (j : Int) (x_ : Atom) : Wy (List Term × Int × Int × Int × Int × Int × Unit × Int × Unit) (Atom × Unit) (List Term × Int × Int × Int × Int × Int × Atom) := .i (decide (j < Int.ofNat x_.Args.length)) (.i (decide (n_ ≤ limit)) (.i (decide ((0 : Int) ≤ j) && decide (j < Int.ofNat x_.Args.length)) (.bn (g_ref05_weight (x_.Args.getD j.toNat default) (IntKind.i64.wrap (limit - n_)) (IntKind.i64.wrap (deep - (1 : Int)))) fun r0 => .h (a, limit, deep, (IntKind.i64.wrap (n_ + r0)), i, k, (), (IntKind.i64.wrap (j + (1 : Int))), ()) (x_, ())) .d) (.k (a, limit, deep, n_, i, k, x_))) (.k (a, limit, deep, n_, i, k, x_))
noncomputable def ref05_weight_b_w14 (g_ref05_weight : List Term → Int → Int → Bool × Int) (x : List Term × Int × Int × Int × Int × Int × Unit × Int × Unit) (y : Atom × Unit) : Wy (List Term × Int × Int × Int × Int × Int × Unit × Int × Unit) (Atom × Unit) (List Term × Int × Int × Int × Int × Int × Atom) := ref05_weight_b_W14 g_ref05_weight x.1 x.2.1 x.2.2.1 x.2.2.2.1 x.2.2.2.2.1 x.2.2.2.2.2.1 x.2.2.2.2.2.2.2.1 y.1
noncomputable def ref05_weight_b_L14 (g_ref05_weight : List Term → Int → Int → Bool × Int) (n : Nat) (a : List Term) (limit : Int) (deep : Int) (n_ : Int) (i : Int) (k : Int) (j : Int) (x_ : Atom) : Bool × (List Term × Int × Int × Int × Int × Int × Atom) := iterW (ref05_weight_b_w14 g_ref05_weight) default n (a, limit, deep, n_, i, k, (), j, ()) (x_, ())
noncomputable def ref05_weight_b_tr14 (r : List Term × Int × Int × Int × Int × Int × Atom) : LTree ty := .done (.exit 4) [.sl 42 r.1, .lit (.int .i64 r.2.1), .lit (.int .i64 r.2.2.1), .lit (.int .i64 r.2.2.2.1), .lit (.int .i64 r.2.2.2.2.1), .lit (.int .i64 r.2.2.2.2.2.1), .ptr 544 0] [.box (base.enc 48 r.2.2.2.2.2.2) false]
noncomputable def ref05_weight_b_V14 : LL ty (List Term × Int × Int × Int × Int × Int × Unit × Int × Unit) := llCons (lSl 42) (llCons (lInt .i64) (llCons (lInt .i64) (llCons (lInt .i64) (llCons (lInt .i64) (llCons (lInt .i64) (llCons (lPtrC 544 0) (llCons (lInt .i64) llNil)))))))
noncomputable def ref05_weight_b_B14 : BL ty (Atom × Unit) := bBox (llMap (fun x => (⟨x.1, ⟨x.2.1, x.2.2.1⟩, x.2.2.2.1, x.2.2.2.2.1, x.2.2.2.2.2.1, x.2.2.2.2.2.2.1, ⟨x.2.2.2.2.2.2.2.1, x.2.2.2.2.2.2.2.2.1, x.2.2.2.2.2.2.2.2.2.1⟩⟩ : Atom)) (fun x => (x.Kind, x.Row.Table, x.Row.Seq, x.Args, x.Func, x.Items, x.Op, x.Bound.Kind, x.Bound.Int, x.Bound.Text, ())) (fun _ => rfl) (llCons (lInt .i64) (llCons (lInt .i64) (llCons (lInt .i64) (llCons (lSl 23) (llCons (lInt .i64) (llCons (lSl 52) (llCons (lInt .i64) (llCons (lInt .i64) (llCons (lInt .i64) (llCons lStr llNil))))))))))) false (bNil)
noncomputable def ref05_weight_b_W18 (g_ref05_weight : List Term → Int → Int → Bool × Int) (a : List Term) (limit : Int) (deep : Int) (n_ : Int) (i : Int) (k : Int) (j : Int) (x_ : Atom) : Wy (List Term × Int × Int × Int × Int × Int × Unit × Int × Unit) (Atom × Unit) (List Term × Int × Int × Int × Int × Int) := .i (decide (j < Int.ofNat x_.Items.length)) (.i (decide (n_ ≤ limit)) (.i (decide ((0 : Int) ≤ j) && decide (j < Int.ofNat x_.Items.length)) (.i (decide ((0 : Int) ≤ j) && decide (j < Int.ofNat x_.Items.length)) (.bn (g_ref05_weight (x_.Items.getD j.toNat default).Ann (IntKind.i64.wrap (limit - n_)) (IntKind.i64.wrap (deep - (1 : Int)))) fun r2 => .h (a, limit, deep, (IntKind.i64.wrap (IntKind.i64.wrap (n_ + Int.ofNat (x_.Items.getD j.toNat default).Value.Text.size) + r2)), i, k, (), (IntKind.i64.wrap (j + (1 : Int))), ()) (x_, ())) .d) .d) (.k (a, limit, deep, n_, i, k))) (.k (a, limit, deep, n_, i, k))
noncomputable def ref05_weight_b_w18 (g_ref05_weight : List Term → Int → Int → Bool × Int) (x : List Term × Int × Int × Int × Int × Int × Unit × Int × Unit) (y : Atom × Unit) : Wy (List Term × Int × Int × Int × Int × Int × Unit × Int × Unit) (Atom × Unit) (List Term × Int × Int × Int × Int × Int) := ref05_weight_b_W18 g_ref05_weight x.1 x.2.1 x.2.2.1 x.2.2.2.1 x.2.2.2.2.1 x.2.2.2.2.2.1 x.2.2.2.2.2.2.2.1 y.1
noncomputable def ref05_weight_b_L18 (g_ref05_weight : List Term → Int → Int → Bool × Int) (n : Nat) (a : List Term) (limit : Int) (deep : Int) (n_ : Int) (i : Int) (k : Int) (j : Int) (x_ : Atom) : Bool × (List Term × Int × Int × Int × Int × Int) := iterW (ref05_weight_b_w18 g_ref05_weight) default n (a, limit, deep, n_, i, k, (), j, ()) (x_, ())
noncomputable def ref05_weight_b_tr18 (r : List Term × Int × Int × Int × Int × Int) : LTree ty := .done (.exit 6) [.sl 42 r.1, .lit (.int .i64 r.2.1), .lit (.int .i64 r.2.2.1), .lit (.int .i64 r.2.2.2.1), .lit (.int .i64 r.2.2.2.2.1), .lit (.int .i64 r.2.2.2.2.2)] []
noncomputable def ref05_weight_b_V18 : LL ty (List Term × Int × Int × Int × Int × Int × Unit × Int × Unit) := llCons (lSl 42) (llCons (lInt .i64) (llCons (lInt .i64) (llCons (lInt .i64) (llCons (lInt .i64) (llCons (lInt .i64) (llCons (lPtrC 544 0) (llCons (lInt .i64) llNil)))))))
noncomputable def ref05_weight_b_B18 : BL ty (Atom × Unit) := bBox (llMap (fun x => (⟨x.1, ⟨x.2.1, x.2.2.1⟩, x.2.2.2.1, x.2.2.2.2.1, x.2.2.2.2.2.1, x.2.2.2.2.2.2.1, ⟨x.2.2.2.2.2.2.2.1, x.2.2.2.2.2.2.2.2.1, x.2.2.2.2.2.2.2.2.2.1⟩⟩ : Atom)) (fun x => (x.Kind, x.Row.Table, x.Row.Seq, x.Args, x.Func, x.Items, x.Op, x.Bound.Kind, x.Bound.Int, x.Bound.Text, ())) (fun _ => rfl) (llCons (lInt .i64) (llCons (lInt .i64) (llCons (lInt .i64) (llCons (lSl 23) (llCons (lInt .i64) (llCons (lSl 52) (llCons (lInt .i64) (llCons (lInt .i64) (llCons (lInt .i64) (llCons lStr llNil))))))))))) false (bNil)
noncomputable def ref05_weight_b_W9 (g_ref05_weight : List Term → Int → Int → Bool × Int) (a : List Term) (limit : Int) (deep : Int) (n_ : Int) (i : Int) (k : Int) : Wy (List Term × Int × Int × Int × Int × Int × Unit) (Unit) (List Term × Int × Int × Int × Int) := .i (decide ((0 : Int) ≤ i) && decide (i < Int.ofNat a.length)) (.i (decide (k < Int.ofNat (a.getD i.toNat default).Factors.length)) (.i (decide (n_ ≤ limit)) (.i (decide ((0 : Int) ≤ i) && decide (i < Int.ofNat a.length)) (.i (decide ((0 : Int) ≤ k) && decide (k < Int.ofNat (a.getD i.toNat default).Factors.length)) (.bn (ref05_weight_b_L14 g_ref05_weight ((a.length + limit.toNat + deep.toNat + (IntKind.i64.wrap (IntKind.i64.wrap (IntKind.i64.wrap (n_ + Int.ofNat ((a.getD i.toNat default).Factors.getD k.toNat default).Atom.Items.length) + Int.ofNat ((a.getD i.toNat default).Factors.getD k.toNat default).Atom.Args.length) + Int.ofNat ((a.getD i.toNat default).Factors.getD k.toNat default).Atom.Bound.Text.size)).toNat + i.toNat + k.toNat + Int.toNat (0 : Int) + (1 : Nat)) + (Atom.mk ((a.getD i.toNat default).Factors.getD k.toNat default).Atom.Kind ((a.getD i.toNat default).Factors.getD k.toNat default).Atom.Row ((a.getD i.toNat default).Factors.getD k.toNat default).Atom.Args ((a.getD i.toNat default).Factors.getD k.toNat default).Atom.Func ((a.getD i.toNat default).Factors.getD k.toNat default).Atom.Items ((a.getD i.toNat default).Factors.getD k.toNat default).Atom.Op ((a.getD i.toNat default).Factors.getD k.toNat default).Atom.Bound).Args.length + (Atom.mk ((a.getD i.toNat default).Factors.getD k.toNat default).Atom.Kind ((a.getD i.toNat default).Factors.getD k.toNat default).Atom.Row ((a.getD i.toNat default).Factors.getD k.toNat default).Atom.Args ((a.getD i.toNat default).Factors.getD k.toNat default).Atom.Func ((a.getD i.toNat default).Factors.getD k.toNat default).Atom.Items ((a.getD i.toNat default).Factors.getD k.toNat default).Atom.Op ((a.getD i.toNat default).Factors.getD k.toNat default).Atom.Bound).Items.length) a limit deep (IntKind.i64.wrap (IntKind.i64.wrap (IntKind.i64.wrap (n_ + Int.ofNat ((a.getD i.toNat default).Factors.getD k.toNat default).Atom.Items.length) + Int.ofNat ((a.getD i.toNat default).Factors.getD k.toNat default).Atom.Args.length) + Int.ofNat ((a.getD i.toNat default).Factors.getD k.toNat default).Atom.Bound.Text.size)) i k (0 : Int) (Atom.mk ((a.getD i.toNat default).Factors.getD k.toNat default).Atom.Kind ((a.getD i.toNat default).Factors.getD k.toNat default).Atom.Row ((a.getD i.toNat default).Factors.getD k.toNat default).Atom.Args ((a.getD i.toNat default).Factors.getD k.toNat default).Atom.Func ((a.getD i.toNat default).Factors.getD k.toNat default).Atom.Items ((a.getD i.toNat default).Factors.getD k.toNat default).Atom.Op ((a.getD i.toNat default).Factors.getD k.toNat default).Atom.Bound)) fun r5 => .bn (ref05_weight_b_L18 g_ref05_weight ((r5.fst.length + r5.snd.fst.toNat + r5.snd.snd.fst.toNat + r5.snd.snd.snd.fst.toNat + r5.snd.snd.snd.snd.fst.toNat + r5.snd.snd.snd.snd.snd.fst.toNat + Int.toNat (0 : Int) + (1 : Nat)) + (Atom.mk r5.snd.snd.snd.snd.snd.snd.Kind r5.snd.snd.snd.snd.snd.snd.Row r5.snd.snd.snd.snd.snd.snd.Args r5.snd.snd.snd.snd.snd.snd.Func r5.snd.snd.snd.snd.snd.snd.Items r5.snd.snd.snd.snd.snd.snd.Op r5.snd.snd.snd.snd.snd.snd.Bound).Args.length + (Atom.mk r5.snd.snd.snd.snd.snd.snd.Kind r5.snd.snd.snd.snd.snd.snd.Row r5.snd.snd.snd.snd.snd.snd.Args r5.snd.snd.snd.snd.snd.snd.Func r5.snd.snd.snd.snd.snd.snd.Items r5.snd.snd.snd.snd.snd.snd.Op r5.snd.snd.snd.snd.snd.snd.Bound).Items.length) r5.fst r5.snd.fst r5.snd.snd.fst r5.snd.snd.snd.fst r5.snd.snd.snd.snd.fst r5.snd.snd.snd.snd.snd.fst (0 : Int) (Atom.mk r5.snd.snd.snd.snd.snd.snd.Kind r5.snd.snd.snd.snd.snd.snd.Row r5.snd.snd.snd.snd.snd.snd.Args r5.snd.snd.snd.snd.snd.snd.Func r5.snd.snd.snd.snd.snd.snd.Items r5.snd.snd.snd.snd.snd.snd.Op r5.snd.snd.snd.snd.snd.snd.Bound)) fun r4 => .h ((r4.fst), (r4.snd.fst), (r4.snd.snd.fst), (r4.snd.snd.snd.fst), (r4.snd.snd.snd.snd.fst), (IntKind.i64.wrap (r4.snd.snd.snd.snd.snd + (1 : Int))), ()) ()) .d) .d) (.k (a, limit, deep, n_, i))) (.k (a, limit, deep, n_, i))) .d
noncomputable def ref05_weight_b_w9 (g_ref05_weight : List Term → Int → Int → Bool × Int) (x : List Term × Int × Int × Int × Int × Int × Unit) (y : Unit) : Wy (List Term × Int × Int × Int × Int × Int × Unit) (Unit) (List Term × Int × Int × Int × Int) := ref05_weight_b_W9 g_ref05_weight x.1 x.2.1 x.2.2.1 x.2.2.2.1 x.2.2.2.2.1 x.2.2.2.2.2.1
noncomputable def ref05_weight_b_L9 (g_ref05_weight : List Term → Int → Int → Bool × Int) (n : Nat) (a : List Term) (limit : Int) (deep : Int) (n_ : Int) (i : Int) (k : Int) : Bool × (List Term × Int × Int × Int × Int) := iterW (ref05_weight_b_w9 g_ref05_weight) default n (a, limit, deep, n_, i, k, ()) ()
noncomputable def ref05_weight_b_tr9 (r : List Term × Int × Int × Int × Int) : LTree ty := .done (.exit 2) [.sl 42 r.1, .lit (.int .i64 r.2.1), .lit (.int .i64 r.2.2.1), .lit (.int .i64 r.2.2.2.1), .lit (.int .i64 r.2.2.2.2)] []
noncomputable def ref05_weight_b_V9 : LL ty (List Term × Int × Int × Int × Int × Int × Unit) := llCons (lSl 42) (llCons (lInt .i64) (llCons (lInt .i64) (llCons (lInt .i64) (llCons (lInt .i64) (llCons (lInt .i64) llNil)))))
noncomputable def ref05_weight_b_B9 : BL ty (Unit) := bNil
noncomputable def ref05_weight_b_W5 (g_ref05_weight : List Term → Int → Int → Bool × Int) (a : List Term) (limit : Int) (deep : Int) (n_ : Int) (i : Int) : Wy (List Term × Int × Int × Int × Int × Unit) (Unit) (Int) := .i (decide (i < Int.ofNat a.length)) (.i (decide (n_ ≤ limit)) (.i (decide ((0 : Int) ≤ i) && decide (i < Int.ofNat a.length)) (.bn (ref05_weight_b_L9 g_ref05_weight (a.length + limit.toNat + deep.toNat + (IntKind.i64.wrap (IntKind.i64.wrap (n_ + (1 : Int)) + Int.ofNat (a.getD i.toNat default).Factors.length)).toNat + i.toNat + Int.toNat (0 : Int) + (1 : Nat)) a limit deep (IntKind.i64.wrap (IntKind.i64.wrap (n_ + (1 : Int)) + Int.ofNat (a.getD i.toNat default).Factors.length)) i (0 : Int)) fun r8 => .h ((r8.fst), (r8.snd.fst), (r8.snd.snd.fst), (r8.snd.snd.snd.fst), (IntKind.i64.wrap (r8.snd.snd.snd.snd + (1 : Int))), ()) ()) .d) (.k n_)) (.k n_)
noncomputable def ref05_weight_b_w5 (g_ref05_weight : List Term → Int → Int → Bool × Int) (x : List Term × Int × Int × Int × Int × Unit) (y : Unit) : Wy (List Term × Int × Int × Int × Int × Unit) (Unit) (Int) := ref05_weight_b_W5 g_ref05_weight x.1 x.2.1 x.2.2.1 x.2.2.2.1 x.2.2.2.2.1
noncomputable def ref05_weight_b_L5 (g_ref05_weight : List Term → Int → Int → Bool × Int) (n : Nat) (a : List Term) (limit : Int) (deep : Int) (n_ : Int) (i : Int) : Bool × Int := iterW (ref05_weight_b_w5 g_ref05_weight) default n (a, limit, deep, n_, i, ()) ()
noncomputable def ref05_weight_b_tr5 (r : Int) : LTree ty := .done (.exit 0) [.lit (.int .i64 r)] []
noncomputable def ref05_weight_b_V5 : LL ty (List Term × Int × Int × Int × Int × Unit) := llCons (lSl 42) (llCons (lInt .i64) (llCons (lInt .i64) (llCons (lInt .i64) (llCons (lInt .i64) llNil))))
noncomputable def ref05_weight_b_B5 : BL ty (Unit) := bNil
noncomputable def ref05_weight_b_cx (g_ref05_weight : List Term → Int → Int → Bool × Int) : Cx ty := mkCx base 136 [(52, (ref05_weight_S g_ref05_weight))] [] [(5, [(0, .keep), (1, .keep), (2, .keep), (7, .keep), (8, .keep)]), (9, [(0, .keep), (1, .keep), (2, .keep), (7, .keep), (8, .keep), (9, .keep)]), (14, [(0, .keep), (1, .keep), (2, .keep), (7, .keep), (8, .keep), (9, .keep), (10, .keep), (11, .keep)]), (18, [(0, .keep), (1, .keep), (2, .keep), (7, .keep), (8, .keep), (9, .keep), (10, .keep), (12, .keep)])] [(5, 1, [(7, .keep)]), (9, 3, [(0, .keep), (1, .keep), (2, .keep), (7, .keep), (8, .keep)]), (14, 5, [(0, .keep), (1, .keep), (2, .keep), (7, .keep), (8, .keep), (9, .keep), (10, .keep)]), (18, 7, [(0, .keep), (1, .keep), (2, .keep), (7, .keep), (8, .keep), (9, .keep)])] [(14, spW ref05_weight_b_V14 ref05_weight_b_B14 (ref05_weight_b_w14 g_ref05_weight) default ref05_weight_b_tr14 fun x y => ((x.1.length + Int.toNat x.2.1 + Int.toNat x.2.2.1 + Int.toNat x.2.2.2.1 + Int.toNat x.2.2.2.2.1 + Int.toNat x.2.2.2.2.2.1 + Int.toNat x.2.2.2.2.2.2.2.1 + 1) + y.1.Args.length + y.1.Items.length)), (18, spW ref05_weight_b_V18 ref05_weight_b_B18 (ref05_weight_b_w18 g_ref05_weight) default ref05_weight_b_tr18 fun x y => ((x.1.length + Int.toNat x.2.1 + Int.toNat x.2.2.1 + Int.toNat x.2.2.2.1 + Int.toNat x.2.2.2.2.1 + Int.toNat x.2.2.2.2.2.1 + Int.toNat x.2.2.2.2.2.2.2.1 + 1) + y.1.Args.length + y.1.Items.length)), (9, spW ref05_weight_b_V9 ref05_weight_b_B9 (ref05_weight_b_w9 g_ref05_weight) default ref05_weight_b_tr9 fun x y => (x.1.length + Int.toNat x.2.1 + Int.toNat x.2.2.1 + Int.toNat x.2.2.2.1 + Int.toNat x.2.2.2.2.1 + Int.toNat x.2.2.2.2.2.1 + 1)), (5, spW ref05_weight_b_V5 ref05_weight_b_B5 (ref05_weight_b_w5 g_ref05_weight) default ref05_weight_b_tr5 fun x y => (x.1.length + Int.toNat x.2.1 + Int.toNat x.2.2.1 + Int.toNat x.2.2.2.1 + Int.toNat x.2.2.2.2.1 + 1))] []
theorem ref05_weight_b_to14 (g_ref05_weight : List Term → Int → Int → Bool × Int) : LoopOK (ref05_weight_b_cx g_ref05_weight) (lp (body Tryz.f52) 2) := loopOK_W (id := 14) (V := ref05_weight_b_V14) (B := ref05_weight_b_B14) (W := ref05_weight_b_w14 g_ref05_weight) (z := default) (tr := ref05_weight_b_tr14) (m := fun x y => ((x.1.length + Int.toNat x.2.1 + Int.toNat x.2.2.1 + Int.toNat x.2.2.2.1 + Int.toNat x.2.2.2.2.1 + Int.toNat x.2.2.2.2.2.1 + Int.toNat x.2.2.2.2.2.2.2.1 + 1) + y.1.Args.length + y.1.Items.length)) (by kernel_rfl) (by kernel_rfl) fun R H K x y => by kernel_rfl
theorem ref05_weight_b_to18 (g_ref05_weight : List Term → Int → Int → Bool × Int) : LoopOK (ref05_weight_b_cx g_ref05_weight) (lp (body Tryz.f52) 3) := loopOK_W (id := 18) (V := ref05_weight_b_V18) (B := ref05_weight_b_B18) (W := ref05_weight_b_w18 g_ref05_weight) (z := default) (tr := ref05_weight_b_tr18) (m := fun x y => ((x.1.length + Int.toNat x.2.1 + Int.toNat x.2.2.1 + Int.toNat x.2.2.2.1 + Int.toNat x.2.2.2.2.1 + Int.toNat x.2.2.2.2.2.1 + Int.toNat x.2.2.2.2.2.2.2.1 + 1) + y.1.Args.length + y.1.Items.length)) (by kernel_rfl) (by kernel_rfl) fun R H K x y => by kernel_rfl
theorem ref05_weight_b_to9 (g_ref05_weight : List Term → Int → Int → Bool × Int) : LoopOK (ref05_weight_b_cx g_ref05_weight) (lp (body Tryz.f52) 1) := loopOK_W (id := 9) (V := ref05_weight_b_V9) (B := ref05_weight_b_B9) (W := ref05_weight_b_w9 g_ref05_weight) (z := default) (tr := ref05_weight_b_tr9) (m := fun x y => (x.1.length + Int.toNat x.2.1 + Int.toNat x.2.2.1 + Int.toNat x.2.2.2.1 + Int.toNat x.2.2.2.2.1 + Int.toNat x.2.2.2.2.2.1 + 1)) (by kernel_rfl) (by kernel_rfl) fun R H K x y => by kernel_rfl
theorem ref05_weight_b_to5 (g_ref05_weight : List Term → Int → Int → Bool × Int) : LoopOK (ref05_weight_b_cx g_ref05_weight) (lp (body Tryz.f52) 0) := loopOK_W (id := 5) (V := ref05_weight_b_V5) (B := ref05_weight_b_B5) (W := ref05_weight_b_w5 g_ref05_weight) (z := default) (tr := ref05_weight_b_tr5) (m := fun x y => (x.1.length + Int.toNat x.2.1 + Int.toNat x.2.2.1 + Int.toNat x.2.2.2.1 + Int.toNat x.2.2.2.2.1 + 1)) (by kernel_rfl) (by kernel_rfl) fun R H K x y => by kernel_rfl
noncomputable def ref05_weight_b_W (g_ref05_weight : List Term → Int → Int → Bool × Int) (a : List Term) (limit : Int) (deep : Int) : Wy0 (Int) := .i (deep == (0 : Int)) (.k (IntKind.i64.wrap (limit + (1 : Int)))) (.bn (ref05_weight_b_L5 g_ref05_weight (a.length + limit.toNat + deep.toNat + Int.toNat (0 : Int) + Int.toNat (0 : Int) + (1 : Nat)) a limit deep (0 : Int) (0 : Int)) fun r10 => .k r10)
noncomputable def ref05_weight_b (g_ref05_weight : List Term → Int → Int → Bool × Int) (a : List Term) (limit : Int) (deep : Int) : Bool × Int := (ref05_weight_b_W g_ref05_weight a limit deep).fin default
theorem ref05_weight_b_sound (g_ref05_weight : List Term → Int → Int → Bool × Int) (h_g_ref05_weight : Sound Tryz.prog base 52 (ref05_weight_S g_ref05_weight)) : Sound Tryz.prog base 52 (ref05_weight_S (ref05_weight_b g_ref05_weight)) :=
  sound_W (cx' := (ref05_weight_b_cx g_ref05_weight)) draws base_ok mkSame (mkSpecs ⟨(h_g_ref05_weight), trivial⟩) Tryz.call52 Tryz.func52 (c := body Tryz.f52) (by kernel_rfl) (loopsOK_of (l := [lp (body Tryz.f52) 0, lp (body Tryz.f52) 1, lp (body Tryz.f52) 2, lp (body Tryz.f52) 3]) (by kernel_rfl) ⟨ref05_weight_b_to5 g_ref05_weight, ref05_weight_b_to9 g_ref05_weight, ref05_weight_b_to14 g_ref05_weight, ref05_weight_b_to18 g_ref05_weight, trivial⟩) (sg := ⟨[.pure], []⟩) (A := ref05_weight_A) (res := ref05_weight_res) (W := fun x => ref05_weight_b_W g_ref05_weight x.1 x.2.1 x.2.2.1) (z := default) (fun x => by kernel_rfl) (fun _ => by kernel_rfl)
end Go.Proofs.YtnolcogncjijpaaGreatDoor
namespace Go.Proofs.YtnolcogncjijpaaGreatDoor
open Go Go.Ab
noncomputable def Rweight_rec : Nat → (List Term → Int → Int → Bool × Int)
  | 0 => fun _ _ _ => (false, default)
  | n + 1 => ref05_weight_b (Rweight_rec n)
noncomputable def ref05_weight_n (n : Nat) : List Term → Int → Int → Bool × Int := Rweight_rec n
theorem ref05_weight_succ (n : Nat) : ref05_weight_n (n + 1) = ref05_weight_b (ref05_weight_n n) := rfl
theorem Rweight_sound : ∀ n, Sound Tryz.prog base 52 (ref05_weight_S (ref05_weight_n n))
  | 0 => sound_false Tryz.call52 (fun _ => rfl)
  | n + 1 => by
    have ih := Rweight_sound n
    exact ref05_weight_b_sound _ (ih)
noncomputable def ref05_weight : List Term → Int → Int → Bool × Int := ref05_weight_n 1000
noncomputable def ref05_weight_spec : Ab.Spec ty := ref05_weight_S ref05_weight
theorem ref05_weight_sound : Sound Tryz.prog base 52 ref05_weight_spec := (Rweight_sound 1000)
end Go.Proofs.YtnolcogncjijpaaGreatDoor
namespace Go.Proofs.YtnolcogncjijpaaGreatDoor
open Go Go.Ab
/-! ### lineage/lineageref05.Few -/
noncomputable def ref05_Few_W2 (limit : Int) (l : List (List Term)) (i : Int) : Wy (Int × List (List Term) × Int × Unit) (Unit) (Bool ⊕ Unit) := .i (decide (i < Int.ofNat l.length)) (.i (decide ((0 : Int) ≤ i) && decide (i < Int.ofNat l.length)) (.bn (ref05_weight (l.getD i.toNat default) limit (12 : Int)) fun r0 => .i (decide (r0 > limit)) (.k (.inl false)) (.h (limit, l, (IntKind.i64.wrap (i + (1 : Int))), ()) ())) .d) (.k (.inr ()))
noncomputable def ref05_Few_w2 (x : Int × List (List Term) × Int × Unit) (y : Unit) : Wy (Int × List (List Term) × Int × Unit) (Unit) (Bool ⊕ Unit) := ref05_Few_W2 x.1 x.2.1 x.2.2.1
noncomputable def ref05_Few_L2 (n : Nat) (limit : Int) (l : List (List Term)) (i : Int) : Bool × (Bool ⊕ Unit) := iterW (ref05_Few_w2) (.inl default) n (limit, l, i, ()) ()
noncomputable def ref05_Few_tr2 (r : Bool ⊕ Unit) : LTree ty := .ite (isL r) (.done .ret [.lit (.bool (getL r))] []) (.done (.exit 0) [] [])
noncomputable def ref05_Few_V2 : LL ty (Int × List (List Term) × Int × Unit) := llCons (lInt .i64) (llCons (lSl 23) (llCons (lInt .i64) llNil))
noncomputable def ref05_Few_B2 : BL ty (Unit) := bNil
noncomputable def ref05_Few_cx : Cx ty := mkCx base 20 [(52, ref05_weight_spec)] [] [(2, [(0, .keep), (1, .keep), (5, .keep)])] [(2, 1, []), (2, 0, [(4, .keep)])] [(2, spW ref05_Few_V2 ref05_Few_B2 (ref05_Few_w2) (.inl default) ref05_Few_tr2 fun x y => (Int.toNat x.1 + x.2.1.length + Int.toNat x.2.2.1 + 1))] []
theorem ref05_Few_to2 : LoopOK ref05_Few_cx (lp (body Tryz.f12) 0) := loopOK_W (id := 2) (V := ref05_Few_V2) (B := ref05_Few_B2) (W := ref05_Few_w2) (z := .inl default) (tr := ref05_Few_tr2) (m := fun x y => (Int.toNat x.1 + x.2.1.length + Int.toNat x.2.2.1 + 1)) (by kernel_rfl) (by kernel_rfl) fun R H K x y => by kernel_rfl
noncomputable def ref05_Few_W (limit : Int) (l : List (List Term)) : Wy0 (Bool) := .bn (ref05_Few_L2 (limit.toNat + l.length + Int.toNat (0 : Int) + (1 : Nat)) limit l (0 : Int)) fun r2 => .i (isL r2) (.k (getL r2)) (.k true)
noncomputable def ref05_Few (limit : Int) (l : List (List Term)) : Bool × Bool := (ref05_Few_W limit l).fin default
noncomputable def ref05_Few_res (r : Bool) : ARes ty := ⟨[.pure (.lit (.bool r))], []⟩
noncomputable def ref05_Few_A : AL base (Int × List (List Term) × Unit) := aCons (aPure (vInt .i64)) (aCons (aPure (vSl 23)) aNil)
noncomputable def ref05_Few_spec : Ab.Spec ty := mkSpec ref05_Few_A fun x => ((ref05_Few x.1 x.2.1).1, ref05_Few_res (ref05_Few x.1 x.2.1).2)
theorem ref05_Few_sound : Sound Tryz.prog base 12 ref05_Few_spec :=
  sound_W (cx' := ref05_Few_cx) draws base_ok mkSame (mkSpecs ⟨(ref05_weight_sound), trivial⟩) Tryz.call12 Tryz.func12 (c := body Tryz.f12) (by kernel_rfl) (loopsOK_of (l := [lp (body Tryz.f12) 0]) (by kernel_rfl) ⟨ref05_Few_to2, trivial⟩) (sg := ⟨[.pure], []⟩) (A := ref05_Few_A) (res := ref05_Few_res) (W := fun x => ref05_Few_W x.1 x.2.1) (z := default) (fun x => by kernel_rfl) (fun _ => by kernel_rfl)
end Go.Proofs.YtnolcogncjijpaaGreatDoor
namespace Go.Proofs.YtnolcogncjijpaaGreatDoor
open Go Go.Ab
/-! ### lineage/lineagelaw05.AnnotationOrder -/
noncomputable def law05_AnnotationOrder_cx : Cx ty := mkCx base0 65 [(11, law05_awake_spec), (12, ref05_Few_spec), (32, annotation_Equal_spec), (38, annotation_Compare_spec), (39, ref05_Compare_spec)] [] [] [] [] []
noncomputable def law05_AnnotationOrder_W (a : List Term) (b : List Term) (c : List Term) : Wy0 (Bool) := .bn (ref05_Few (60 : Int) [a, b, c]) fun r7 => .i (!r7) (.k true) (.bn (annotation_Compare a b) fun r6 => .bn (annotation_Compare b c) fun r5 => .bn (annotation_Compare a c) fun r4 => .bn (ref05_Compare a b) fun r3 => .i (r6 != r3) (.k false) (.bn (annotation_Compare b a) fun r2 => .i (r2 != IntKind.i64.wrap ((0 : Int) - r6)) (.k false) (.bn (annotation_Equal a b) fun r1 => .i (!r1 == (r6 == (0 : Int))) (.k false) (.bn (annotation_Compare a a) fun r0 => .i (r0 != (0 : Int)) (.k false) (.i (decide (r6 ≤ (0 : Int))) (.i (!decide (r5 ≤ (0 : Int))) (.k true) (.k (decide (r4 ≤ (0 : Int))))) (.k true))))))
noncomputable def law05_AnnotationOrder (a : List Term) (b : List Term) (c : List Term) : Bool × Bool := (law05_AnnotationOrder_W a b c).fin default
noncomputable def law05_AnnotationOrder_res (r : Bool) : ARes ty := ⟨[.pure (.lit (.bool r))], []⟩
noncomputable def law05_AnnotationOrder_A : AL base0 (List Term × List Term × List Term × Unit) := aCons (aPure (vSl 42)) (aCons (aPure (vSl 42)) (aCons (aPure (vSl 42)) aNil))
noncomputable def law05_AnnotationOrder_spec : Ab.Spec ty := mkSpec law05_AnnotationOrder_A fun x => ((law05_AnnotationOrder x.1 x.2.1 x.2.2.1).1, law05_AnnotationOrder_res (law05_AnnotationOrder x.1 x.2.1 x.2.2.1).2)
theorem law05_AnnotationOrder_sound : Sound Tryz.prog base0 7 law05_AnnotationOrder_spec :=
  sound_W (cx' := law05_AnnotationOrder_cx) draws base0_ok mkSame (mkSpecs ⟨(law05_awake_sound), (ref05_Few_sound.nodr), (annotation_Equal_sound.nodr), (annotation_Compare_sound.nodr), (ref05_Compare_sound.nodr), trivial⟩) Tryz.call7 Tryz.func7 (c := body Tryz.f7) (by kernel_rfl) (loopsOK_of (l := []) (by kernel_rfl) trivial) (sg := ⟨[.pure], []⟩) (A := law05_AnnotationOrder_A) (res := law05_AnnotationOrder_res) (W := fun x => law05_AnnotationOrder_W x.1 x.2.1 x.2.2.1) (z := default) (fun x => by kernel_rfl) (fun _ => by kernel_rfl)
end Go.Proofs.YtnolcogncjijpaaGreatDoor
/- Annotations as trees; how deep and how wide they are. -/
namespace Go.Proofs.YtnolcogncjijpaaGreatDoor
open Go Go.Ab

def trV (v : Value) : TT := .l [.i v.Kind, .i v.Int, trB v.Text]
mutual
def trAtom : Atom → TT
  | ⟨k, r, a, f, i, o, b⟩ => .l [.i k, .i r.Table, .i r.Seq, .l (trAnns a), .i f, .l (trItems i), .i o, trV b]
def trFactor : Factor → TT
  | ⟨x, e⟩ => .l [trAtom x, .i e]
def trFactors : List Factor → List TT
  | [] => []
  | x :: r => trFactor x :: trFactors r
def trTerm : Term → TT
  | ⟨c, fs⟩ => .l [.l (trFactors fs), .i c]
def trAnn : List Term → List TT
  | [] => []
  | x :: r => trTerm x :: trAnn r
def trAnns : List (List Term) → List TT
  | [] => []
  | x :: r => .l (trAnn x) :: trAnns r
def trItem : Weighted → TT
  | ⟨v, a⟩ => .l [trV v, .l (trAnn a)]
def trItems : List Weighted → List TT
  | [] => []
  | x :: r => trItem x :: trItems r
end
theorem trFactors_map : ∀ l, trFactors l = l.map trFactor
  | [] => by rw [trFactors]; rfl
  | x :: r => by rw [trFactors, trFactors_map r]; rfl
theorem trAnn_map : ∀ l, trAnn l = l.map trTerm
  | [] => by rw [trAnn]; rfl
  | x :: r => by rw [trAnn, trAnn_map r]; rfl
theorem trAnns_map : ∀ l, trAnns l = l.map fun x => .l (trAnn x)
  | [] => by rw [trAnns]; rfl
  | x :: r => by rw [trAnns, trAnns_map r]; rfl
theorem trItems_map : ∀ l, trItems l = l.map trItem
  | [] => by rw [trItems]; rfl
  | x :: r => by rw [trItems, trItems_map r]; rfl
theorem map_toNat_inj : ∀ a b : List UInt8, (a.map fun x => TT.i (x.toNat : Int)) = (b.map fun x => TT.i (x.toNat : Int)) → a = b
  | [], [] => fun _ => rfl
  | [], _ :: _ => fun h => by simp at h
  | _ :: _, [] => fun h => by simp at h
  | x :: a, y :: b => fun h => by
    simp only [List.map, List.cons.injEq, TT.i.injEq] at h
    rw [map_toNat_inj a b h.2, UInt8.toNat_inj.1 (Int.ofNat.inj h.1)]
theorem trV_inj {a b : Value} (h : trV a = trV b) : a = b := by
  obtain ⟨k, n, s⟩ := a; obtain ⟨k', n', s'⟩ := b
  simp only [trV, trB, TT.l.injEq, List.cons.injEq, TT.i.injEq, and_true] at h
  obtain ⟨rfl, rfl, h⟩ := h
  have := map_toNat_inj _ _ h
  obtain ⟨⟨l⟩⟩ := s; obtain ⟨⟨l'⟩⟩ := s'
  simp only at this; subst this; rfl
mutual
theorem trAtom_inj : ∀ a b : Atom, trAtom a = trAtom b → a = b
  | ⟨k, r, a, f, i, o, v⟩, ⟨k', r', a', f', i', o', v'⟩ => fun h => by
    simp only [trAtom, TT.l.injEq, List.cons.injEq, TT.i.injEq, and_true] at h
    obtain ⟨rfl, h1, h2, h3, rfl, h4, rfl, h5⟩ := h
    obtain ⟨t, s⟩ := r; obtain ⟨t', s'⟩ := r'
    simp only at h1 h2; subst h1 h2
    rw [trAnns_inj a a' h3, trItems_inj i i' h4, trV_inj h5]
theorem trFactor_inj : ∀ a b : Factor, trFactor a = trFactor b → a = b
  | ⟨x, e⟩, ⟨x', e'⟩ => fun h => by
    simp only [trFactor, TT.l.injEq, List.cons.injEq, TT.i.injEq, and_true] at h
    rw [trAtom_inj x x' h.1, h.2]
theorem trFactors_inj : ∀ a b : List Factor, trFactors a = trFactors b → a = b
  | [], [] => fun _ => rfl
  | [], _ :: _ => fun h => by simp [trFactors] at h
  | _ :: _, [] => fun h => by simp [trFactors] at h
  | x :: a, y :: b => fun h => by
    simp only [trFactors, List.cons.injEq] at h
    rw [trFactor_inj x y h.1, trFactors_inj a b h.2]
theorem trTerm_inj : ∀ a b : Term, trTerm a = trTerm b → a = b
  | ⟨c, l⟩, ⟨c', l'⟩ => fun h => by
    simp only [trTerm, TT.l.injEq, List.cons.injEq, TT.i.injEq, and_true] at h
    rw [trFactors_inj l l' h.1, h.2]
theorem trAnn_inj : ∀ a b : List Term, trAnn a = trAnn b → a = b
  | [], [] => fun _ => rfl
  | [], _ :: _ => fun h => by simp [trAnn] at h
  | _ :: _, [] => fun h => by simp [trAnn] at h
  | x :: a, y :: b => fun h => by
    simp only [trAnn, List.cons.injEq] at h
    rw [trTerm_inj x y h.1, trAnn_inj a b h.2]
theorem trAnns_inj : ∀ a b : List (List Term), trAnns a = trAnns b → a = b
  | [], [] => fun _ => rfl
  | [], _ :: _ => fun h => by simp [trAnns] at h
  | _ :: _, [] => fun h => by simp [trAnns] at h
  | x :: a, y :: b => fun h => by
    simp only [trAnns, List.cons.injEq, TT.l.injEq] at h
    rw [trAnn_inj x y h.1, trAnns_inj a b h.2]
theorem trItem_inj : ∀ a b : Weighted, trItem a = trItem b → a = b
  | ⟨c, l⟩, ⟨c', l'⟩ => fun h => by
    simp only [trItem, TT.l.injEq, List.cons.injEq, and_true] at h
    rw [trV_inj h.1, trAnn_inj l l' h.2]
theorem trItems_inj : ∀ a b : List Weighted, trItems a = trItems b → a = b
  | [], [] => fun _ => rfl
  | [], _ :: _ => fun h => by simp [trItems] at h
  | _ :: _, [] => fun h => by simp [trItems] at h
  | x :: a, y :: b => fun h => by
    simp only [trItems, List.cons.injEq] at h
    rw [trItem_inj x y h.1, trItems_inj a b h.2]
end

/-! ### how deep and how wide -/
def fineAtom (P : List Term → Prop) (x : Atom) : Prop :=
  (x.Args.length ≤ 1000000 ∧ x.Items.length ≤ 1000000 ∧ x.Bound.Text.size ≤ 1000000000000) ∧ (∀ a ∈ x.Args, P a) ∧ ∀ w ∈ x.Items, w.Value.Text.size ≤ 1000000000000 ∧ P w.Ann
def fineFactors (P : List Term → Prop) (l : List Factor) : Prop := l.length ≤ 1000000 ∧ ∀ f ∈ l, fineAtom P f.Atom
/-- Atoms lie less than n deep in each other, and no list has more than a million elements. -/
def fineAnn : Nat → List Term → Prop
  | 0, _ => False
  | n + 1, a => a.length ≤ 1000000 ∧ ∀ t ∈ a, fineFactors (fineAnn n) t.Factors
theorem fineAtom.imp {P Q : List Term → Prop} (h : ∀ a, P a → Q a) {x : Atom} (hx : fineAtom P x) : fineAtom Q x := ⟨hx.1, fun a ha => h a (hx.2.1 a ha), fun w hw => ⟨(hx.2.2 w hw).1, h _ (hx.2.2 w hw).2⟩⟩
theorem fineAnn.succ : ∀ (n : Nat) (a : List Term), fineAnn n a → fineAnn (n + 1) a
  | 0, _, h => h.elim
  | n + 1, a, h => ⟨h.1, fun t ht => ⟨(h.2 t ht).1, fun f hf => ((h.2 t ht).2 f hf).imp (fineAnn.succ n)⟩⟩
theorem fineAnn.mono {n m : Nat} {a : List Term} (h : fineAnn n a) (hm : n ≤ m) : fineAnn m a := by
  obtain ⟨k, rfl⟩ := Nat.exists_eq_add_of_le hm
  clear hm
  induction k with
  | zero => exact h
  | succ k ih => exact fineAnn.succ _ _ ih
end Go.Proofs.YtnolcogncjijpaaGreatDoor
/- The program's comparison of annotations is the order of trees. -/
namespace Go.Proofs.YtnolcogncjijpaaGreatDoor
open Go Go.Ab

theorem cmp_Compare_int_eq (x y : Int) : cmp_Compare_int x y = (true, cmpI x y) := by
  unfold cmp_Compare_int cmp_Compare_int_W cmp_isNaN_int cmp_isNaN_int_W cmpI
  by_cases h1 : x < y
  · simp [h1, Wy.fin_i, Wy.fin_k]
  · by_cases h2 : y < x <;> simp [h1, h2, Wy.fin_i, Wy.fin_k]
theorem cmp_Compare_int64_eq (x y : Int) : cmp_Compare_int64 x y = (true, cmpI x y) := by
  unfold cmp_Compare_int64 cmp_Compare_int64_W cmp_isNaN_int64 cmp_isNaN_int64_W cmpI
  by_cases h1 : x < y
  · simp [h1, Wy.fin_i, Wy.fin_k]
  · by_cases h2 : y < x <;> simp [h1, h2, Wy.fin_i, Wy.fin_k]
/-- The first that is not zero. -/
def firstNZ : List Int → Int
  | [] => 0
  | x :: r => if x = 0 then firstNZ r else x
theorem Or_loop (l : List Int) (hl : l.length ≤ 1000000) : ∀ (n i : Nat), l.length < i + n → i ≤ l.length → ∃ r, cmp_Or_int_L3 n 0 l l.length i = (true, r) ∧ (r = .inl (firstNZ (l.drop i)) ∨ (r = .inr 0 ∧ firstNZ (l.drop i) = 0))
  | 0, i, h, h2 => by omega
  | n + 1, i, h, h2 => by
    show ∃ r, (cmp_Or_int_W3 0 l l.length i).ev (fun x y => cmp_Or_int_L3 n x.1 x.2.1 x.2.2.1 x.2.2.2.1) (fun r => (true, r)) (false, .inl default) = (true, r) ∧ _
    unfold cmp_Or_int_W3
    by_cases hi : i < l.length
    · simp only [Wy.ev_i, Wy.ev_k, Wy.ev_h, Int.ofNat_eq_natCast, lt_nat, le0_nat, decide_true, decide_false, Bool.and_self, Bool.true_and, Bool.and_true, cond_true, cond_false, Int.toNat_natCast, Bool.not_true, Bool.not_false, hi]
      obtain ⟨r, h1, h3⟩ := Or_loop l hl n (i + 1) (by omega) (by omega)
      rw [drop_lt hi, wrap_succ (by omega), h1]
      generalize l.getD i default = x
      by_cases hx : x = 0
      · have e : (x != 0) = false := by simp [hx]
        simp only [e, cond_false, firstNZ, hx, if_true]
        exact ⟨r, rfl, h3⟩
      · have e : (x != 0) = true := by simp [hx]
        simp only [e, cond_true, firstNZ, hx, if_false]
        exact ⟨_, rfl, .inl rfl⟩
    · simp only [Wy.ev_i, Wy.ev_k, Wy.ev_h, Int.ofNat_eq_natCast, lt_nat, le0_nat, decide_true, decide_false, Bool.and_self, Bool.true_and, Bool.and_true, cond_true, cond_false, Int.toNat_natCast, Bool.not_true, Bool.not_false, hi, drop_ge hi]
      exact ⟨_, rfl, .inr ⟨rfl, rfl⟩⟩
theorem cmp_Or_int_eq (l : List Int) (hl : l.length ≤ 1000000) : cmp_Or_int l = (true, firstNZ l) := by
  unfold cmp_Or_int cmp_Or_int_W
  obtain ⟨r, h1, h2⟩ := Or_loop l hl (Int.toNat 0 + l.length + (Int.ofNat l.length).toNat + Int.toNat 0 + 1) 0 (by simp; omega) (by omega)
  rw [show ((0 : Nat) : Int) = (0 : Int) from rfl] at h1
  rw [Wy.fin_bn, show Int.ofNat l.length = (l.length : Int) from rfl] at *
  rw [h1]
  rw [List.drop_zero] at h2
  rcases h2 with rfl | ⟨rfl, h2⟩
  · rfl
  · rw [h2]; rfl

/-! ### lists, element by element -/
section
variable {α : Type}
def lexG (c : α → α → Int) : List α → List α → Int
  | [], [] => 0
  | [], _ :: _ => -1
  | _ :: _, [] => 1
  | x :: a, y :: b => if c x y = 0 then lexG c a b else c x y
theorem lexG_tree (e : α → TT) {c : α → α → Int} : ∀ (a b : List α), (∀ x ∈ a, ∀ y ∈ b, c x y = cmpT (e x) (e y)) → lexG c a b = cmpL (a.map e) (b.map e)
  | [], [], _ => by simp only [lexG, List.map, cmpL]
  | [], _ :: _, _ => by simp only [lexG, List.map, cmpL]
  | _ :: _, [], _ => by simp only [lexG, List.map, cmpL]
  | x :: a, y :: b, h => by
    simp only [lexG, List.map, cmpL]
    rw [h x (by simp) y (by simp), lexG_tree e a b fun x hx y hy => h x (by simp [hx]) y (by simp [hy])]
variable [Inhabited α]
noncomputable def CF_W2 (g : α → α → Bool × Int) (s1 : List α) (s2 : List α) (t11 : List α) (t12 : Int) (t13 : Int) : Wy (List α × List α × Unit × List α × Int × Int × Unit) (Unit) (Int ⊕ (List α × List α)) := .i (decide (t13 < t12)) (.i (decide ((0 : Int) ≤ t13) && decide (t13 < Int.ofNat t11.length)) (.i (decide (t13 ≥ Int.ofNat s2.length)) (.k (.inl (1 : Int))) (.i (decide ((0 : Int) ≤ t13) && decide (t13 < Int.ofNat s2.length)) (.bn (g (t11.getD t13.toNat default) (s2.getD t13.toNat default)) fun r0 => .i (r0 != (0 : Int)) (.k (.inl (r0))) (.h (s1, s2, (), t11, t12, (IntKind.i64.wrap (t13 + (1 : Int))), ()) ())) .d)) .d) (.k (.inr (s1, s2)))
noncomputable def CF_w2 (g : α → α → Bool × Int) (x : List α × List α × Unit × List α × Int × Int × Unit) (y : Unit) : Wy (List α × List α × Unit × List α × Int × Int × Unit) (Unit) (Int ⊕ (List α × List α)) := CF_W2 g x.1 x.2.1 x.2.2.2.1 x.2.2.2.2.1 x.2.2.2.2.2.1
noncomputable def CF_L2 (g : α → α → Bool × Int) (n : Nat) (s1 : List α) (s2 : List α) (t11 : List α) (t12 : Int) (t13 : Int) : Bool × (Int ⊕ (List α × List α)) := iterW (CF_w2 g) (.inl default) n (s1, s2, (), t11, t12, t13, ()) ()
noncomputable def CF (g : α → α → Bool × Int) (s1 s2 : List α) : Bool × Int := (.bn (CF_L2 g (s1.length + s2.length + s1.length + (Int.ofNat s1.length).toNat + Int.toNat (0 : Int) + (1 : Nat)) s1 s2 s1 (Int.ofNat s1.length) (0 : Int)) fun r2 => .i (isL r2) (.k (getL r2)) (.i (decide (Int.ofNat (getR r2).fst.length < Int.ofNat (getR r2).snd.length)) (.k (-1 : Int)) (.k (0 : Int))) : Wy0 Int).fin default
theorem CF_loop (g : α → α → Bool × Int) (c : α → α → Int) (a b : List α) (ha : a.length ≤ 1000000) (hg : ∀ x ∈ a, ∀ y ∈ b, g x y = (true, c x y)) : ∀ (n i : Nat), a.length < i + n → i ≤ a.length → i ≤ b.length →
    ∃ r, CF_L2 g n a b a a.length i = (true, r) ∧ ((r = .inl (lexG c (a.drop i) (b.drop i))) ∨ (r = .inr (a, b) ∧ lexG c (a.drop i) (b.drop i) = if a.length < b.length then -1 else 0))
  | 0, i, h, h2, h3 => by omega
  | n + 1, i, h, h2, h3 => by
    show ∃ r, (CF_W2 g a b a a.length i).ev (fun x y => CF_L2 g n x.1 x.2.1 x.2.2.2.1 x.2.2.2.2.1 x.2.2.2.2.2.1) (fun r => (true, r)) (false, .inl default) = (true, r) ∧ _
    unfold CF_W2
    by_cases hi : i < a.length
    · by_cases hi' : i < b.length
      · have hg' : ¬ b.length ≤ i := by omega
        simp only [Wy.ev_i, Wy.ev_k, Wy.ev_h, Wy.ev_bn, Wy.ev_d, Int.ofNat_eq_natCast, lt_nat, le0_nat, decide_true, decide_false, Bool.and_self, Bool.true_and, Bool.and_true, cond_true, cond_false, Int.toNat_natCast, Bool.not_true, Bool.not_false, hi, hi', ge_nat, hg', hg _ (getD_mem hi) _ (getD_mem hi')]
        rw [drop_lt hi, drop_lt hi', wrap_succ (by omega)]
        simp only [lexG]
        generalize c (a.getD i default) (b.getD i default) = z
        by_cases hx : z = 0
        · have e : (z != 0) = false := by simp [hx]
          simp only [e, cond_false, hx, if_true]
          exact CF_loop g c a b ha hg n (i + 1) (by omega) (by omega) (by omega)
        · have e : (z != 0) = true := by simp [hx]
          simp only [e, cond_true, hx, if_false]
          exact ⟨_, rfl, .inl rfl⟩
      · have hg' : b.length ≤ i := by omega
        simp only [Wy.ev_i, Wy.ev_k, Wy.ev_h, Wy.ev_bn, Wy.ev_d, Int.ofNat_eq_natCast, lt_nat, le0_nat, decide_true, decide_false, Bool.and_self, Bool.true_and, Bool.and_true, cond_true, cond_false, Int.toNat_natCast, Bool.not_true, Bool.not_false, hi, ge_nat, hg']
        refine ⟨_, rfl, .inl ?_⟩
        rw [drop_lt hi, drop_ge hi']; rfl
    · simp only [Wy.ev_i, Wy.ev_k, Wy.ev_h, Wy.ev_bn, Wy.ev_d, Int.ofNat_eq_natCast, lt_nat, le0_nat, decide_true, decide_false, Bool.and_self, Bool.true_and, Bool.and_true, cond_true, cond_false, Int.toNat_natCast, Bool.not_true, Bool.not_false, hi]
      refine ⟨_, rfl, .inr ⟨rfl, ?_⟩⟩
      rw [drop_ge hi]
      by_cases hi' : i < b.length
      · rw [drop_lt hi', if_pos (by omega)]; rfl
      · rw [drop_ge hi', if_neg (by omega)]; rfl
theorem CF_eq (g : α → α → Bool × Int) (c : α → α → Int) (a b : List α) (ha : a.length ≤ 1000000) (hg : ∀ x ∈ a, ∀ y ∈ b, g x y = (true, c x y)) : CF g a b = (true, lexG c a b) := by
  unfold CF
  obtain ⟨r, h1, h2⟩ := CF_loop g c a b ha hg (a.length + b.length + a.length + (Int.ofNat a.length).toNat + Int.toNat 0 + 1) 0 (by simp; omega) (by omega) (by omega)
  rw [show ((0 : Nat) : Int) = (0 : Int) from rfl] at h1
  rw [Wy.fin_bn, show Int.ofNat a.length = (a.length : Int) from rfl] at *
  rw [h1]
  simp only [List.drop_zero] at h2
  rcases h2 with rfl | ⟨rfl, h2⟩
  · rfl
  · rw [h2]
    simp only [Wy.fin_i, Wy.fin_k, Int.ofNat_eq_natCast, lt_nat, le0_nat, decide_true, decide_false, Bool.and_self, Bool.true_and, Bool.and_true, cond_true, cond_false, Int.toNat_natCast, Bool.not_true, Bool.not_false, isL, getR]
    by_cases h3 : a.length < b.length <;> simp [h3]
end
theorem CF_tree {α : Type} [Inhabited α] (e : α → TT) (g : α → α → Bool × Int) (a b : List α) (ha : a.length ≤ 1000000) (hg : ∀ x ∈ a, ∀ y ∈ b, g x y = (true, cmpT (e x) (e y))) : CF g a b = (true, cmpL (a.map e) (b.map e)) := by
  rw [CF_eq g (fun x y => cmpT (e x) (e y)) a b ha hg, lexG_tree e a b fun _ _ _ _ => rfl]

theorem Factor.eta2 (x : Factor) : (FactorOf.mk (Atom.mk x.Atom.Kind x.Atom.Row x.Atom.Args x.Atom.Func x.Atom.Items x.Atom.Op x.Atom.Bound) x.Exp : Factor) = x := by rw [Atom.eta]
theorem CF_terms (g) : slices_CompareFunc_api_Annotation_api_Annotation_api_Term_api_Term_b g = CF g := rfl
theorem CF_factors (g) : slices_CompareFunc_Lapi_Factor_Lapi_Factor_api_Factor_api_Factor_b g = CF g := by
  have h : slices_CompareFunc_Lapi_Factor_Lapi_Factor_api_Factor_api_Factor_b_w2 g = CF_w2 g := by
    funext x y
    unfold slices_CompareFunc_Lapi_Factor_Lapi_Factor_api_Factor_api_Factor_b_w2 slices_CompareFunc_Lapi_Factor_Lapi_Factor_api_Factor_api_Factor_b_W2 CF_w2 CF_W2
    rw [Factor.eta2, Factor.eta2]
  funext a b
  unfold slices_CompareFunc_Lapi_Factor_Lapi_Factor_api_Factor_api_Factor_b slices_CompareFunc_Lapi_Factor_Lapi_Factor_api_Factor_api_Factor_b_W slices_CompareFunc_Lapi_Factor_Lapi_Factor_api_Factor_api_Factor_b_L2
  rw [h]; rfl
theorem CF_anns (g) : slices_CompareFunc_Lapi_Annotation_Lapi_Annotation_api_Annotation_api_Annotation_b g = CF g := rfl
theorem CF_items (g) : slices_CompareFunc_Lapi_Weighted_Lapi_Weighted_api_Weighted_api_Weighted_b g = CF g := rfl
end Go.Proofs.YtnolcogncjijpaaGreatDoor
/- The program's comparison of annotations is the order of trees: all functions that call one another. -/
namespace Go.Proofs.YtnolcogncjijpaaGreatDoor
open Go Go.Ab

theorem value_Compare_eq (a b : Value) : value_Compare a b = (true, cmpT (trV a) (trV b)) := by
  unfold value_Compare value_Compare_W
  have h : (strings_Compare a.Text b.Text).2 = cmpT (trB a.Text) (trB b.Text) := by rw [← trB_cmp]; rfl
  simp only [cmp_Compare_int_eq, cmp_Compare_int64_eq, Wy.fin_bn, cond_true, h]
  rw [cmp_Or_int_eq _ (by simp)]
  simp only [Wy.fin_k, cond_true, trV, cmpT, cmpL, firstNZ]
  rfl
theorem firstNZ2 (x y x' y' : TT) : firstNZ [cmpT x x', cmpT y y'] = cmpL [x, y] [x', y'] := by simp only [firstNZ, cmpL]

theorem cmp_all : ∀ n,
    (∀ d a b, fineAnn d a → 10 * d ≤ n → annotation_Compare_n n a b = (true, cmpL (trAnn a) (trAnn b))) ∧
    (∀ d a b, fineAnn d a → 10 * d ≤ n + 1 → slices_CompareFunc_api_Annotation_api_Annotation_api_Term_api_Term_n n a b = (true, cmpL (trAnn a) (trAnn b))) ∧
    (∀ d x y, fineFactors (fineAnn d) x.Factors → 10 * d + 10 ≤ n + 2 → annotation_Compare_c1_n n x y = (true, cmpT (trTerm x) (trTerm y))) ∧
    (∀ d x y, fineFactors (fineAnn d) x.Factors → 10 * d + 10 ≤ n + 3 → annotation_compareLists_n n x y = (true, cmpL (trFactors x.Factors) (trFactors y.Factors))) ∧
    (∀ d l l', fineFactors (fineAnn d) l → 10 * d + 10 ≤ n + 4 → slices_CompareFunc_Lapi_Factor_Lapi_Factor_api_Factor_api_Factor_n n l l' = (true, cmpL (trFactors l) (trFactors l'))) ∧
    (∀ d x y, fineAtom (fineAnn d) x.Atom → 10 * d + 10 ≤ n + 5 → annotation_compareFactors_n n x y = (true, cmpT (trFactor x) (trFactor y))) ∧
    (∀ d x y, fineAtom (fineAnn d) x → 10 * d + 10 ≤ n + 6 → annotation_compareAtoms_n n x y = (true, cmpT (trAtom x) (trAtom y))) ∧
    (∀ d a b, a.length ≤ 1000000 → (∀ x ∈ a, fineAnn d x) → 10 * d + 10 ≤ n + 7 → slices_CompareFunc_Lapi_Annotation_Lapi_Annotation_api_Annotation_api_Annotation_n n a b = (true, cmpL (trAnns a) (trAnns b))) ∧
    (∀ d a b, a.length ≤ 1000000 → (∀ x ∈ a, fineAnn d x.Ann) → 10 * d + 10 ≤ n + 7 → slices_CompareFunc_Lapi_Weighted_Lapi_Weighted_api_Weighted_api_Weighted_n n a b = (true, cmpL (trItems a) (trItems b))) ∧
    (∀ d x y, fineAnn d x.Ann → 10 * d + 10 ≤ n + 8 → annotation_compareItems_n n x y = (true, cmpT (trItem x) (trItem y)))
  | 0 => by
    refine ⟨?_, ?_, ?_, ?_, ?_, ?_, ?_, ?_, ?_, ?_⟩
    · intro d a b h hd; have : d = 0 := by omega
      subst this; exact h.elim
    · intro d a b h hd; have : d = 0 := by omega
      subst this; exact h.elim
    all_goals (intros; omega)
  | n + 1 => by
    obtain ⟨h1, h2, h3, h4, h5, h6, h7, h8, h9, h10⟩ := cmp_all n
    refine ⟨?_, ?_, ?_, ?_, ?_, ?_, ?_, ?_, ?_, ?_⟩
    · intro d a b h hd
      rw [annotation_Compare_succ]
      unfold annotation_Compare_b annotation_Compare_b_W
      rw [Wy.fin_bn, h2 d a b h (by omega)]; rfl
    · intro d a b h hd
      cases d with
      | zero => exact h.elim
      | succ d =>
        rw [slices_CompareFunc_api_Annotation_api_Annotation_api_Term_api_Term_succ, CF_terms, trAnn_map, trAnn_map]
        exact CF_tree trTerm _ a b h.1 fun x hx y hy => h3 d x y (h.2 x hx) (by omega)
    · intro d x y h hd
      rw [annotation_Compare_c1_succ]
      unfold annotation_Compare_c1_b annotation_Compare_c1_b_W
      rw [Wy.fin_bn, h4 d x y h (by omega)]
      simp only [cond_true, Wy.fin_bn, cmp_Compare_int64_eq]
      rw [cmp_Or_int_eq _ (by simp)]
      obtain ⟨c, l⟩ := x; obtain ⟨c', l'⟩ := y
      simp only [cond_true, Wy.fin_k, firstNZ, trTerm, cmpT, cmpL]
      rfl
    · intro d x y h hd
      rw [annotation_compareLists_succ]
      unfold annotation_compareLists_b annotation_compareLists_b_W
      rw [Wy.fin_bn, h5 d _ _ h (by omega)]; rfl
    · intro d l l' h hd
      rw [slices_CompareFunc_Lapi_Factor_Lapi_Factor_api_Factor_api_Factor_succ, CF_factors, trFactors_map, trFactors_map]
      exact CF_tree trFactor _ l l' h.1 fun x hx y hy => h6 d x y (h.2 x hx) (by omega)
    · intro d x y h hd
      rw [annotation_compareFactors_succ]
      unfold annotation_compareFactors_b annotation_compareFactors_b_W
      rw [Atom.eta, Atom.eta, Wy.fin_bn, h7 d _ _ h (by omega)]
      simp only [cond_true, Wy.fin_bn, cmp_Compare_int_eq]
      rw [cmp_Or_int_eq _ (by simp)]
      obtain ⟨c, l⟩ := x; obtain ⟨c', l'⟩ := y
      simp only [cond_true, Wy.fin_k, firstNZ, trFactor, cmpT, cmpL]
      rfl
    · intro d x y h hd
      rw [annotation_compareAtoms_succ]
      unfold annotation_compareAtoms_b annotation_compareAtoms_b_W
      simp only [cond_true, Wy.fin_bn, cmp_Compare_int_eq, value_Compare_eq, h8 d x.Args y.Args h.1.1 h.2.1 (by omega), h9 d x.Items y.Items h.1.2.1 (fun w hw => (h.2.2 w hw).2) (by omega)]
      rw [cmp_Or_int_eq _ (by simp)]
      obtain ⟨k, r, a, f, i, o, v⟩ := x; obtain ⟨k', r', a', f', i', o', v'⟩ := y
      simp only [cond_true, Wy.fin_k, firstNZ, trAtom, cmpT, cmpL]
      rfl
    · intro d a b h0 h hd
      rw [slices_CompareFunc_Lapi_Annotation_Lapi_Annotation_api_Annotation_api_Annotation_succ, CF_anns, trAnns_map, trAnns_map]
      exact CF_tree (fun x => TT.l (trAnn x)) _ a b h0 fun x hx y hy => by rw [h1 d x y (h x hx) (by omega)]; simp only [cmpT]
    · intro d a b h0 h hd
      rw [slices_CompareFunc_Lapi_Weighted_Lapi_Weighted_api_Weighted_api_Weighted_succ, CF_items, trItems_map, trItems_map]
      exact CF_tree trItem _ a b h0 fun x hx y hy => h10 d x y (h x hx) (by omega)
    · intro d x y h hd
      rw [annotation_compareItems_succ]
      unfold annotation_compareItems_b annotation_compareItems_b_W
      simp only [cond_true, Wy.fin_bn, value_Compare_eq, h1 d _ _ h (by omega)]
      rw [cmp_Or_int_eq _ (by simp)]
      obtain ⟨c, l⟩ := x; obtain ⟨c', l'⟩ := y
      simp only [cond_true, Wy.fin_k, firstNZ, trItem, cmpT, cmpL]
      rfl

theorem annotation_Compare_eq {d : Nat} {a : List Term} (h : fineAnn d a) (hd : d ≤ 100) (b : List Term) : annotation_Compare a b = (true, cmpL (trAnn a) (trAnn b)) := (cmp_all 1000).1 d a b h (by omega)
theorem annotation_compareLists_eq {d : Nat} {x : Term} (h : fineFactors (fineAnn d) x.Factors) (hd : d ≤ 99) (y : Term) : annotation_compareLists x y = (true, cmpL (trFactors x.Factors) (trFactors y.Factors)) := (cmp_all 1000).2.2.2.1 d x y h (by omega)
theorem annotation_compareAtoms_eq {d : Nat} {x : Atom} (h : fineAtom (fineAnn d) x) (hd : d ≤ 99) (y : Atom) : annotation_compareAtoms x y = (true, cmpT (trAtom x) (trAtom y)) := (cmp_all 1000).2.2.2.2.2.2.1 d x y h (by omega)
theorem annotation_compareItems_eq {d : Nat} {x : Weighted} (h : fineAnn d x.Ann) (hd : d ≤ 99) (y : Weighted) : annotation_compareItems x y = (true, cmpT (trItem x) (trItem y)) := (cmp_all 1000).2.2.2.2.2.2.2.2.2 d x y h (by omega)
theorem annotation_Equal_eq {d : Nat} {a : List Term} (h : fineAnn d a) (hd : d ≤ 100) (b : List Term) : annotation_Equal a b = (true, decide (a = b)) := by
  unfold annotation_Equal annotation_Equal_W
  rw [Wy.fin_bn, annotation_Compare_eq h hd]
  simp only [cond_true, Wy.fin_k]
  congr 1
  by_cases e : a = b
  · subst e; rw [cmpL_self]; simp
  · have : cmpL (trAnn a) (trAnn b) ≠ 0 := fun h => e (trAnn_inj _ _ (cmpL_eq _ _ h))
    simp [e, this]
end Go.Proofs.YtnolcogncjijpaaGreatDoor
namespace Go.Proofs.YtnolcogncjijpaaGreatDoor
open Go Go.Ab
/-! ### lineage/lineageref05.Same -/
noncomputable def ref05_Same_cx : Cx ty := mkCx base 9 [(39, ref05_Compare_spec)] [] [] [] [] []
noncomputable def ref05_Same_W (a : List Term) (b : List Term) : Wy0 (Bool) := .bn (ref05_Compare a b) fun r0 => .k (r0 == (0 : Int))
noncomputable def ref05_Same (a : List Term) (b : List Term) : Bool × Bool := (ref05_Same_W a b).fin default
noncomputable def ref05_Same_res (r : Bool) : ARes ty := ⟨[.pure (.lit (.bool r))], []⟩
noncomputable def ref05_Same_A : AL base (List Term × List Term × Unit) := aCons (aPure (vSl 42)) (aCons (aPure (vSl 42)) aNil)
noncomputable def ref05_Same_spec : Ab.Spec ty := mkSpec ref05_Same_A fun x => ((ref05_Same x.1 x.2.1).1, ref05_Same_res (ref05_Same x.1 x.2.1).2)
theorem ref05_Same_sound : Sound Tryz.prog base 24 ref05_Same_spec :=
  sound_W (cx' := ref05_Same_cx) draws base_ok mkSame (mkSpecs ⟨(ref05_Compare_sound), trivial⟩) Tryz.call24 Tryz.func24 (c := body Tryz.f24) (by kernel_rfl) (loopsOK_of (l := []) (by kernel_rfl) trivial) (sg := ⟨[.pure], []⟩) (A := ref05_Same_A) (res := ref05_Same_res) (W := fun x => ref05_Same_W x.1 x.2.1) (z := default) (fun x => by kernel_rfl) (fun _ => by kernel_rfl)
end Go.Proofs.YtnolcogncjijpaaGreatDoor
/- The reference's comparison of annotations is the order of trees. -/
namespace Go.Proofs.YtnolcogncjijpaaGreatDoor
open Go Go.Ab

/-! ### strings -/
theorem toList_loop (s : ByteArray) : ∀ (n i : Nat) (r : List UInt8), s.size ≤ i + n → ByteArray.toList.loop s i r = r.reverse ++ s.data.toList.drop i
  | 0, i, r, h => by
    rw [ByteArray.toList.loop, if_neg (by omega), List.drop_eq_nil_of_le (by rw [← Lib.size_eq]; omega), List.append_nil]
  | n + 1, i, r, h => by
    rw [ByteArray.toList.loop]
    by_cases hi : i < s.size
    · have hi' : i < s.data.toList.length := by rw [← Lib.size_eq]; exact hi
      rw [if_pos hi, toList_loop s n (i + 1) _ (by omega), List.drop_eq_getElem_cons hi', List.reverse_cons, List.append_assoc]
      congr 1
      have : s.get! i = s.data.toList[i] := by
        have h' : i < s.data.size := hi
        show s.data[i]! = s.data.toList[i]
        rw [getElem!_pos s.data i h']; rfl
      rw [this]; rfl
    · rw [if_neg hi, List.drop_eq_nil_of_le (by rw [← Lib.size_eq]; omega), List.append_nil]
theorem toList_eq (s : ByteArray) : s.toList = s.data.toList := by
  rw [ByteArray.toList, toList_loop s s.size 0 [] (by omega)]; rfl
theorem bytes_ext {s t : ByteArray} (h : s.data.toList = t.data.toList) : s = t := by
  cases s; cases t
  congr 1
  exact Array.toList_inj.1 h
theorem bytes_beq0 (s t : ByteArray) : (s.toList == t.toList) = decide (s.data.toList = t.data.toList) := by
  rw [toList_eq, toList_eq]
  cases hb : (s.data.toList == t.data.toList) with
  | true => rw [decide_eq_true (beq_iff_eq.1 hb)]
  | false => rw [decide_eq_false (fun h => by rw [beq_iff_eq.2 h] at hb; cases hb)]
theorem bytes_beq (s t : ByteArray) : (s.toList == t.toList) = decide (s = t) := by
  rw [bytes_beq0]
  by_cases h : s = t
  · rw [decide_eq_true h, decide_eq_true (by rw [h])]
  · rw [decide_eq_false h, decide_eq_false fun e => h (bytes_ext e)]
theorem bne0 (z w : Int) : (z != w) = !decide (z = w) := by by_cases h : z = w <;> simp [h]
theorem bytesLess_cmp : ∀ a b : List UInt8, Op.bytesLess a b = decide (Lib.compareBytes a b < 0)
  | [], [] => by simp [Op.bytesLess, Lib.compareBytes]
  | _ :: _, [] => by simp [Op.bytesLess, Lib.compareBytes]
  | [], _ :: _ => by simp [Op.bytesLess, Lib.compareBytes]
  | x :: a, y :: b => by
    simp only [Op.bytesLess, Lib.compareBytes]
    by_cases p : x < y
    · simp [p]
    · by_cases q : y < x
      · have hne : ¬ x = y := fun e => by subst e; exact p q
        simp [p, q, hne]
      · have he : x = y := UInt8.toNat_inj.1 (by rw [UInt8.lt_iff_toNat_lt] at p q; omega)
        subst he
        simp [p, bytesLess_cmp a b]
theorem ref01_Compare_eq (a b : Value) : ref01_Compare a b = (true, cmpT (trV a) (trV b)) := by
  unfold ref01_Compare ref01_Compare_W ref01_sign ref01_sign_W
  rw [bytes_beq, toList_eq, toList_eq, bytesLess_cmp, trB_cmp]
  simp only [trV, cmpT, cmpL, cmpI]
  simp only [Wy.fin_i, Wy.fin_bn, Wy.fin_k, cond_true, bne0]
  by_cases h1 : a.Kind = b.Kind
  · by_cases h2 : a.Int = b.Int
    · by_cases h3 : a.Text = b.Text
      · simp [h1, h2, h3, cmpT_self]
      · have h4 : cmpT (trB a.Text) (trB b.Text) ≠ 0 := fun e => by
          have := map_toNat_inj _ _ (TT.l.inj (cmpT_eq _ _ e))
          exact h3 (bytes_ext this)
        have h5 := cmpT_rng (trB a.Text) (trB b.Text)
        simp only [trB, cmpT] at h4 h5
        simp only [trB, cmpT]
        rcases h5 with h5 | h5 | h5
        · simp [h1, h2, h3, h5]
        · exact absurd h5 h4
        · simp [h1, h2, h3, h5]
    · by_cases h3 : a.Int < b.Int
      · simp [h1, h2, h3]
      · simp [h1, h2, h3, show b.Int < a.Int by omega]
  · by_cases h3 : a.Kind < b.Kind
    · simp [h1, h3]
    · simp [h1, h3, show b.Kind < a.Kind by omega]
theorem ref05_number_eq (x y : Int) : ref05_number x y = (true, cmpI x y) := by
  unfold ref05_number ref05_number_W cmpI
  by_cases h1 : x < y
  · simp [h1, Wy.fin_i, Wy.fin_k]
  · by_cases h2 : y < x <;> simp [h1, h2, Wy.fin_i, Wy.fin_k]
theorem cmpI_zero (a b : Int) : (cmpI a b = 0) ↔ a = b := ⟨cmpI_eq, fun h => h ▸ cmpI_self a⟩
theorem ref05_CompareRow_eq (x y : RowID) : ref05_CompareRow x y = (true, if cmpI x.Table y.Table = 0 then cmpI x.Seq y.Seq else cmpI x.Table y.Table) := by
  unfold ref05_CompareRow ref05_CompareRow_W
  simp only [ref05_number_eq, Wy.fin_i, Wy.fin_bn, Wy.fin_k, cond_true, bne0]
  by_cases h : cmpI x.Table y.Table = 0
  · simp [h]
  · simp [h]

/-! ### lists, element by element -/
section
variable {α : Type} [Inhabited α]
noncomputable def RG_W2 (p q : α → α → Bool × Int) (a : List α) (b : List α) (i : Int) : Wy (List α × List α × Int × Unit) (Unit) (Int ⊕ (List α × List α)) := .i (decide (i < Int.ofNat a.length)) (.i (decide (i < Int.ofNat b.length)) (.i (decide ((0 : Int) ≤ i) && decide (i < Int.ofNat a.length)) (.i (decide ((0 : Int) ≤ i) && decide (i < Int.ofNat b.length)) (.bn (p (a.getD i.toNat default) (b.getD i.toNat default)) fun r1 => .i (r1 != (0 : Int)) (.k (.inl (r1))) (.i (decide ((0 : Int) ≤ i) && decide (i < Int.ofNat a.length)) (.i (decide ((0 : Int) ≤ i) && decide (i < Int.ofNat b.length)) (.bn (q (a.getD i.toNat default) (b.getD i.toNat default)) fun r0 => .i (r0 != (0 : Int)) (.k (.inl (r0))) (.h (a, b, (IntKind.i64.wrap (i + (1 : Int))), ()) ())) .d) .d)) .d) .d) (.k (.inr (a, b)))) (.k (.inr (a, b)))
noncomputable def RG_w2 (p q : α → α → Bool × Int) (x : List α × List α × Int × Unit) (y : Unit) : Wy (List α × List α × Int × Unit) (Unit) (Int ⊕ (List α × List α)) := RG_W2 p q x.1 x.2.1 x.2.2.1
noncomputable def RG_L2 (p q : α → α → Bool × Int) (n : Nat) (a : List α) (b : List α) (i : Int) : Bool × (Int ⊕ (List α × List α)) := iterW (RG_w2 p q) (.inl default) n (a, b, i, ()) ()
noncomputable def RG (p q : α → α → Bool × Int) (a b : List α) : Bool × Int := (.bn (RG_L2 p q (a.length + b.length + Int.toNat (0 : Int) + (1 : Nat)) a b (0 : Int)) fun r5 => .i (isL r5) (.k (getL r5)) (.bn (ref05_number (Int.ofNat (getR r5).fst.length) (Int.ofNat (getR r5).snd.length)) fun r4 => .k r4) : Wy0 Int).fin default
theorem RG_loop (p q : α → α → Bool × Int) (c1 c2 : α → α → Int) (a b : List α) (ha : a.length ≤ 1000000) (hp : ∀ x ∈ a, ∀ y ∈ b, p x y = (true, c1 x y)) (hq : ∀ x ∈ a, ∀ y ∈ b, q x y = (true, c2 x y)) : ∀ (n i : Nat), a.length < i + n → i ≤ a.length → i ≤ b.length →
    ∃ r, RG_L2 p q n a b i = (true, r) ∧ ((r = .inl (lexG (fun x y => if c1 x y = 0 then c2 x y else c1 x y) (a.drop i) (b.drop i))) ∨ (r = .inr (a, b) ∧ lexG (fun x y => if c1 x y = 0 then c2 x y else c1 x y) (a.drop i) (b.drop i) = cmpI a.length b.length))
  | 0, i, h, h2, h3 => by omega
  | n + 1, i, h, h2, h3 => by
    show ∃ r, (RG_W2 p q a b i).ev (fun x y => RG_L2 p q n x.1 x.2.1 x.2.2.1) (fun r => (true, r)) (false, .inl default) = (true, r) ∧ _
    unfold RG_W2
    by_cases hi : i < a.length
    · by_cases hi' : i < b.length
      · simp only [Wy.ev_i, Wy.ev_k, Wy.ev_h, Wy.ev_bn, Wy.ev_d, Int.ofNat_eq_natCast, lt_nat, le0_nat, decide_true, decide_false, Bool.and_self, Bool.true_and, Bool.and_true, Bool.and_false, Bool.false_and, cond_true, cond_false, Int.toNat_natCast, Bool.not_true, Bool.not_false, hi, hi', hp _ (getD_mem hi) _ (getD_mem hi'), hq _ (getD_mem hi) _ (getD_mem hi')]
        rw [drop_lt hi, drop_lt hi', wrap_succ (by omega)]
        simp only [lexG]
        generalize c1 (a.getD i default) (b.getD i default) = z1
        generalize c2 (a.getD i default) (b.getD i default) = z2
        by_cases hx : z1 = 0
        · have e : (z1 != 0) = false := by simp [hx]
          by_cases hx2 : z2 = 0
          · have e2 : (z2 != 0) = false := by simp [hx2]
            simp only [e, e2, cond_false, hx, hx2, if_true]
            exact RG_loop p q c1 c2 a b ha hp hq n (i + 1) (by omega) (by omega) (by omega)
          · have e2 : (z2 != 0) = true := by simp [hx2]
            simp only [e, e2, cond_false, cond_true, hx, hx2, if_true, if_false]
            exact ⟨_, rfl, .inl rfl⟩
        · have e : (z1 != 0) = true := by simp [hx]
          simp only [e, cond_true, hx, if_false]
          exact ⟨_, rfl, .inl rfl⟩
      · simp only [Wy.ev_i, Wy.ev_k, Wy.ev_h, Wy.ev_bn, Wy.ev_d, Int.ofNat_eq_natCast, lt_nat, le0_nat, decide_true, decide_false, Bool.and_self, Bool.true_and, Bool.and_true, Bool.and_false, Bool.false_and, cond_true, cond_false, Int.toNat_natCast, Bool.not_true, Bool.not_false, hi, hi']
        refine ⟨_, rfl, .inr ⟨rfl, ?_⟩⟩
        rw [drop_lt hi, drop_ge hi']
        unfold cmpI; rw [if_neg (by omega), if_pos (by omega)]; rfl
    · simp only [Wy.ev_i, Wy.ev_k, Wy.ev_h, Wy.ev_bn, Wy.ev_d, Int.ofNat_eq_natCast, lt_nat, le0_nat, decide_true, decide_false, Bool.and_self, Bool.true_and, Bool.and_true, Bool.and_false, Bool.false_and, cond_true, cond_false, Int.toNat_natCast, Bool.not_true, Bool.not_false, hi]
      refine ⟨_, rfl, .inr ⟨rfl, ?_⟩⟩
      rw [drop_ge hi]
      by_cases hi' : i < b.length
      · rw [drop_lt hi']; unfold cmpI; rw [if_pos (by omega)]; rfl
      · rw [drop_ge hi']; unfold cmpI; rw [if_neg (by omega), if_neg (by omega)]; rfl
theorem RG_eq (p q : α → α → Bool × Int) (c1 c2 : α → α → Int) (a b : List α) (ha : a.length ≤ 1000000) (hp : ∀ x ∈ a, ∀ y ∈ b, p x y = (true, c1 x y)) (hq : ∀ x ∈ a, ∀ y ∈ b, q x y = (true, c2 x y)) : RG p q a b = (true, lexG (fun x y => if c1 x y = 0 then c2 x y else c1 x y) a b) := by
  unfold RG
  obtain ⟨r, h1, h2⟩ := RG_loop p q c1 c2 a b ha hp hq (a.length + b.length + Int.toNat 0 + 1) 0 (by simp; omega) (by omega) (by omega)
  rw [show ((0 : Nat) : Int) = (0 : Int) from rfl] at h1
  rw [Wy.fin_bn, h1]
  simp only [List.drop_zero] at h2
  rcases h2 with rfl | ⟨rfl, h2⟩
  · rfl
  · rw [h2]
    simp only [Wy.fin_i, Wy.fin_k, Wy.fin_bn, ref05_number_eq, Int.ofNat_eq_natCast, lt_nat, le0_nat, decide_true, decide_false, Bool.and_self, Bool.true_and, Bool.and_true, Bool.and_false, Bool.false_and, cond_true, cond_false, Int.toNat_natCast, Bool.not_true, Bool.not_false, isL, getR]
end
theorem RG_tree {α : Type} [Inhabited α] (e : α → TT) (p q : α → α → Bool × Int) (c1 c2 : α → α → Int) (a b : List α) (ha : a.length ≤ 1000000) (hp : ∀ x ∈ a, ∀ y ∈ b, p x y = (true, c1 x y)) (hq : ∀ x ∈ a, ∀ y ∈ b, q x y = (true, c2 x y))
    (hc : ∀ x y, (if c1 x y = 0 then c2 x y else c1 x y) = cmpT (e x) (e y)) : RG p q a b = (true, cmpL (a.map e) (b.map e)) := by
  rw [RG_eq p q c1 c2 a b ha hp hq, lexG_tree e a b fun x _ y _ => hc x y]

theorem RG_terms (g) : ref05_Compare_b g = RG (fun x y => g x.Factors y.Factors) (fun x y => ref05_number x.Coeff y.Coeff) := rfl
theorem RG_factors (g) : ref05_CompareFactors_b g = RG (fun x y => g x.Atom y.Atom) (fun x y => ref05_number x.Exp y.Exp) := by
  have h : ref05_CompareFactors_b_w2 g = RG_w2 (fun x y => g x.Atom y.Atom) (fun x y => ref05_number x.Exp y.Exp) := by
    funext x y
    unfold ref05_CompareFactors_b_w2 ref05_CompareFactors_b_W2 RG_w2 RG_W2
    rw [Atom.eta, Atom.eta]
  funext a b
  unfold ref05_CompareFactors_b ref05_CompareFactors_b_W ref05_CompareFactors_b_L2
  rw [h]; rfl
theorem RG_items (g) : ref05_CompareItems_b g = RG (fun x y => ref01_Compare x.Value y.Value) (fun x y => g x.Ann y.Ann) := rfl

theorem args_loop (gI) (g : List Term → List Term → Bool × Int) (a b : Atom) (ha : a.Args.length ≤ 1000000) (hg : ∀ x ∈ a.Args, ∀ y ∈ b.Args, g x y = (true, cmpL (trAnn x) (trAnn y))) : ∀ (n i : Nat), a.Args.length < i + n → i ≤ a.Args.length → i ≤ b.Args.length →
    ∃ r, ref05_CompareAtom_b_L8 gI g n i a b = (true, r) ∧ ((r = .inl (lexG (fun x y => cmpL (trAnn x) (trAnn y)) (a.Args.drop i) (b.Args.drop i)) ∧ lexG (fun x y => cmpL (trAnn x) (trAnn y)) (a.Args.drop i) (b.Args.drop i) ≠ 0) ∨ (r = .inr (a, b) ∧ lexG (fun x y => cmpL (trAnn x) (trAnn y)) (a.Args.drop i) (b.Args.drop i) = cmpI a.Args.length b.Args.length))
  | 0, i, h, h2, h3 => by omega
  | n + 1, i, h, h2, h3 => by
    show ∃ r, (ref05_CompareAtom_b_W8 gI g i a b).ev (fun x y => ref05_CompareAtom_b_L8 gI g n x.2.2.1 y.1 y.2.1) (fun r => (true, r)) (false, .inl default) = (true, r) ∧ _
    unfold ref05_CompareAtom_b_W8
    by_cases hi : i < a.Args.length
    · by_cases hi' : i < b.Args.length
      · simp only [Wy.ev_i, Wy.ev_k, Wy.ev_h, Wy.ev_bn, Wy.ev_d, Int.ofNat_eq_natCast, lt_nat, le0_nat, decide_true, decide_false, Bool.and_self, Bool.true_and, Bool.and_true, Bool.and_false, Bool.false_and, cond_true, cond_false, Int.toNat_natCast, Bool.not_true, Bool.not_false, hi, hi', hg _ (getD_mem hi) _ (getD_mem hi')]
        rw [drop_lt hi, drop_lt hi', wrap_succ (by omega)]
        simp only [lexG]
        generalize cmpL (trAnn (a.Args.getD i default)) (trAnn (b.Args.getD i default)) = z1
        by_cases hx : z1 = 0
        · have e : (z1 != 0) = false := by simp [hx]
          simp only [e, cond_false, hx, if_true]
          exact args_loop gI g a b ha hg n (i + 1) (by omega) (by omega) (by omega)
        · have e : (z1 != 0) = true := by simp [hx]
          simp only [e, cond_true, hx, if_false]
          exact ⟨_, rfl, .inl ⟨rfl, hx⟩⟩
      · simp only [Wy.ev_i, Wy.ev_k, Wy.ev_h, Wy.ev_bn, Wy.ev_d, Int.ofNat_eq_natCast, lt_nat, le0_nat, decide_true, decide_false, Bool.and_self, Bool.true_and, Bool.and_true, Bool.and_false, Bool.false_and, cond_true, cond_false, Int.toNat_natCast, Bool.not_true, Bool.not_false, hi, hi']
        refine ⟨_, rfl, .inr ⟨rfl, ?_⟩⟩
        rw [drop_lt hi, drop_ge hi']
        unfold cmpI; rw [if_neg (by omega), if_pos (by omega)]; rfl
    · simp only [Wy.ev_i, Wy.ev_k, Wy.ev_h, Wy.ev_bn, Wy.ev_d, Int.ofNat_eq_natCast, lt_nat, le0_nat, decide_true, decide_false, Bool.and_self, Bool.true_and, Bool.and_true, Bool.and_false, Bool.false_and, cond_true, cond_false, Int.toNat_natCast, Bool.not_true, Bool.not_false, hi]
      refine ⟨_, rfl, .inr ⟨rfl, ?_⟩⟩
      rw [drop_ge hi]
      by_cases hi' : i < b.Args.length
      · rw [drop_lt hi']; unfold cmpI; rw [if_pos (by omega)]; rfl
      · rw [drop_ge hi']; unfold cmpI; rw [if_neg (by omega), if_neg (by omega)]; rfl
theorem atom_eq (gI) (g : List Term → List Term → Bool × Int) (x y : Atom) (ha : x.Args.length ≤ 1000000) (hg : ∀ a ∈ x.Args, ∀ b ∈ y.Args, g a b = (true, cmpL (trAnn a) (trAnn b)))
    (hI : gI x.Items y.Items = (true, cmpL (trItems x.Items) (trItems y.Items))) : ref05_CompareAtom_b gI g x y = (true, cmpT (trAtom x) (trAtom y)) := by
  unfold ref05_CompareAtom_b ref05_CompareAtom_b_W
  rw [Atom.eta, Atom.eta]
  obtain ⟨r, h1, h2⟩ := args_loop gI g x y ha hg (Int.toNat 0 + 1 + x.Args.length + x.Items.length + y.Args.length + y.Items.length) 0 (by omega) (by omega) (by omega)
  rw [show ((0 : Nat) : Int) = (0 : Int) from rfl] at h1
  simp only [List.drop_zero] at h2
  rw [lexG_tree (fun a => TT.l (trAnn a)) x.Args y.Args (fun a _ b _ => by simp only [cmpT]), ← trAnns_map, ← trAnns_map] at h2
  simp only [ref05_number_eq, ref05_CompareRow_eq, Wy.fin_bn, Wy.fin_i, Wy.fin_k, cond_true, h1]
  obtain ⟨k, r0, a, f, i, o, v⟩ := x; obtain ⟨k', r', a', f', i', o', v'⟩ := y
  simp only [trAtom, cmpT, cmpL, bne0] at *
  by_cases e1 : cmpI k k' = 0
  rotate_left
  · simp [e1]
  by_cases e2 : cmpI r0.Table r'.Table = 0
  rotate_left
  · simp [e1, e2]
  by_cases e3 : cmpI r0.Seq r'.Seq = 0
  rotate_left
  · simp [e1, e2, e3]
  rcases h2 with ⟨rfl, h2⟩ | ⟨rfl, h2⟩
  · simp [e1, e2, e3, h2, isL, getL]
  simp only [e1, e2, e3, h2, isL, getR, Int.ofNat_eq_natCast, lt_nat, le0_nat, decide_true, decide_false, Bool.and_self, Bool.true_and, Bool.and_true, Bool.and_false, Bool.false_and, cond_true, cond_false, Int.toNat_natCast, Bool.not_true, Bool.not_false, hI, if_true]
  by_cases e4 : cmpI (a.length : Int) (a'.length : Int) = 0
  rotate_left
  · simp [e4]
  by_cases e5 : cmpI f f' = 0
  rotate_left
  · simp [e4, e5]
  by_cases e6 : cmpL (trItems i) (trItems i') = 0
  rotate_left
  · simp [e4, e5, e6]
  by_cases e7 : cmpI o o' = 0
  rotate_left
  · simp [e4, e5, e6, e7]
  simp [e4, e5, e6, e7, ref01_Compare_eq]

theorem rcmp_all : ∀ n,
    (∀ d a b, fineAnn d a → 10 * d ≤ n → ref05_Compare_n n a b = (true, cmpL (trAnn a) (trAnn b))) ∧
    (∀ d l l', fineFactors (fineAnn d) l → 10 * d + 10 ≤ n + 1 → ref05_CompareFactors_n n l l' = (true, cmpL (trFactors l) (trFactors l'))) ∧
    (∀ d x y, fineAtom (fineAnn d) x → 10 * d + 10 ≤ n + 2 → ref05_CompareAtom_n n x y = (true, cmpT (trAtom x) (trAtom y))) ∧
    (∀ d a b, a.length ≤ 1000000 → (∀ x ∈ a, fineAnn d x.Ann) → 10 * d + 10 ≤ n + 3 → ref05_CompareItems_n n a b = (true, cmpL (trItems a) (trItems b)))
  | 0 => by
    refine ⟨?_, ?_, ?_, ?_⟩
    · intro d a b h hd; have : d = 0 := by omega
      subst this; exact h.elim
    all_goals (intros; omega)
  | n + 1 => by
    obtain ⟨h1, h2, h3, h4⟩ := rcmp_all n
    refine ⟨?_, ?_, ?_, ?_⟩
    · intro d a b h hd
      cases d with
      | zero => exact h.elim
      | succ d =>
        rw [ref05_Compare_succ, RG_terms, trAnn_map, trAnn_map]
        exact RG_tree trTerm _ _ (fun x y => cmpL (trFactors x.Factors) (trFactors y.Factors)) (fun x y => cmpI x.Coeff y.Coeff) a b h.1 (fun x hx y hy => h2 d _ _ (h.2 x hx) (by omega)) (fun x _ y _ => ref05_number_eq _ _) fun x y => by
          obtain ⟨c, l⟩ := x; obtain ⟨c', l'⟩ := y
          simp only [trTerm, cmpT, cmpL]
          by_cases e : cmpI c c' = 0 <;> simp [e]
    · intro d l l' h hd
      rw [ref05_CompareFactors_succ, RG_factors, trFactors_map, trFactors_map]
      exact RG_tree trFactor _ _ (fun x y => cmpT (trAtom x.Atom) (trAtom y.Atom)) (fun x y => cmpI x.Exp y.Exp) l l' h.1 (fun x hx y hy => h3 d _ _ (h.2 x hx) (by omega)) (fun x _ y _ => ref05_number_eq _ _) fun x y => by
        obtain ⟨c, l⟩ := x; obtain ⟨c', l'⟩ := y
        simp only [trFactor, cmpT, cmpL]
        by_cases e : cmpI l l' = 0 <;> simp [e]
    · intro d x y h hd
      rw [ref05_CompareAtom_succ]
      exact atom_eq _ _ x y h.1.1 (fun a ha b _ => h1 d a b (h.2.1 a ha) (by omega)) (h4 d _ _ h.1.2.1 (fun w hw => (h.2.2 w hw).2) (by omega))
    · intro d a b h0 h hd
      rw [ref05_CompareItems_succ, RG_items, trItems_map, trItems_map]
      exact RG_tree trItem _ _ (fun x y => cmpT (trV x.Value) (trV y.Value)) (fun x y => cmpL (trAnn x.Ann) (trAnn y.Ann)) a b h0 (fun x _ y _ => ref01_Compare_eq _ _) (fun x hx y _ => h1 d _ _ (h x hx) (by omega)) fun x y => by
        obtain ⟨c, l⟩ := x; obtain ⟨c', l'⟩ := y
        simp only [trItem, cmpT, cmpL]
        by_cases e : cmpL (trAnn l) (trAnn l') = 0 <;> simp [e]
theorem ref05_Compare_eq {d : Nat} {a : List Term} (h : fineAnn d a) (hd : d ≤ 100) (b : List Term) : ref05_Compare a b = (true, cmpL (trAnn a) (trAnn b)) := (rcmp_all 1000).1 d a b h (by omega)
theorem ref05_CompareFactors_eq {d : Nat} {l : List Factor} (h : fineFactors (fineAnn d) l) (hd : d ≤ 99) (l' : List Factor) : ref05_CompareFactors l l' = (true, cmpL (trFactors l) (trFactors l')) := (rcmp_all 1000).2.1 d l l' h (by omega)
theorem ref05_CompareAtom_eq {d : Nat} {x : Atom} (h : fineAtom (fineAnn d) x) (hd : d ≤ 99) (y : Atom) : ref05_CompareAtom x y = (true, cmpT (trAtom x) (trAtom y)) := (rcmp_all 1000).2.2.1 d x y h (by omega)
theorem ref05_CompareItems_eq {d : Nat} {a : List Weighted} (h0 : a.length ≤ 1000000) (h : ∀ x ∈ a, fineAnn d x.Ann) (hd : d ≤ 99) (b : List Weighted) : ref05_CompareItems a b = (true, cmpL (trItems a) (trItems b)) := (rcmp_all 1000).2.2.2 d a b h0 h (by omega)
theorem ref05_Same_eq {d : Nat} {a : List Term} (h : fineAnn d a) (hd : d ≤ 100) (b : List Term) : ref05_Same a b = (true, decide (a = b)) := by
  unfold ref05_Same ref05_Same_W
  rw [Wy.fin_bn, ref05_Compare_eq h hd]
  simp only [cond_true, Wy.fin_k]
  congr 1
  by_cases e : a = b
  · subst e; rw [cmpL_self]; simp
  · have : cmpL (trAnn a) (trAnn b) ≠ 0 := fun h => e (trAnn_inj _ _ (cmpL_eq _ _ h))
    simp [e, this]
end Go.Proofs.YtnolcogncjijpaaGreatDoor
/- What the laws examine: annotations of small weight. -/
namespace Go.Proofs.YtnolcogncjijpaaGreatDoor
open Go Go.Ab

theorem wfFactors_mem : ∀ {l : List Factor}, wfFactors l → ∀ x ∈ l, wfFactor x
  | [], _, x, hx => by cases hx
  | y :: r, h, x, hx => by
    unfold wfFactors at h
    rcases List.mem_cons.1 hx with rfl | hx
    · exact h.1
    · exact wfFactors_mem h.2 x hx
theorem wfAnn_mem : ∀ {l : List Term}, wfAnn l → ∀ x ∈ l, wfTerm x
  | [], _, x, hx => by cases hx
  | y :: r, h, x, hx => by
    unfold wfAnn at h
    rcases List.mem_cons.1 hx with rfl | hx
    · exact h.1
    · exact wfAnn_mem h.2 x hx
theorem wfAnns_mem : ∀ {l : List (List Term)}, wfAnns l → ∀ x ∈ l, wfAnn x ∧ x.length ≤ roomLen
  | [], _, x, hx => by cases hx
  | y :: r, h, x, hx => by
    unfold wfAnns at h
    rcases List.mem_cons.1 hx with rfl | hx
    · exact h.1
    · exact wfAnns_mem h.2 x hx
theorem wfItems_mem : ∀ {l : List Weighted}, wfItems l → ∀ x ∈ l, wf46 x.Value ∧ wfAnn x.Ann ∧ x.Ann.length ≤ roomLen
  | [], _, x, hx => by cases hx
  | y :: r, h, x, hx => by
    unfold wfItems at h
    rcases List.mem_cons.1 hx with rfl | hx
    · have := h.1; unfold wfItem at this; exact ⟨this.1, this.2.1, this.2.2⟩
    · exact wfItems_mem h.2 x hx
theorem wfTerm_iff {t : Term} (h : wfTerm t) : wf2 t.Coeff ∧ wfFactors t.Factors ∧ t.Factors.length ≤ roomLen := by
  unfold wfTerm at h; exact ⟨h.1, h.2.1, h.2.2⟩
theorem wfFactor_iff {t : Factor} (h : wfFactor t) : wfAtom t.Atom ∧ wf3 t.Exp := by
  unfold wfFactor at h; exact h
theorem wfAtom_iff {x : Atom} (h : wfAtom x) : (wfAnns x.Args ∧ x.Args.length ≤ roomLen) ∧ (wfItems x.Items ∧ x.Items.length ≤ roomLen) ∧ wf46 x.Bound ∧ wf3 x.Kind ∧ wf25 x.Row ∧ wf3 x.Func ∧ wf3 x.Op := by
  obtain ⟨k, r, a, f, i, o, b⟩ := x; unfold wfAtom at h; exact ⟨h.2.2.1, h.2.2.2.2.1, h.2.2.2.2.2.2, h.1, h.2.1, h.2.2.2.1, h.2.2.2.2.2.1⟩
theorem wrap_nat {n : Nat} (h : n < 4611686018427387904) : IntKind.i64.wrap (n : Int) = n := wrap_id (by omega) (by omega)
theorem wrap_of {z : Int} (h0 : -4611686018427387904 ≤ z) (h : z < 4611686018427387904) : IntKind.i64.wrap z = z := wrap_id (by omega) (by omega)

section
variable (g : List Term → Int → Int → Bool × Int) (a : List Term) (limit d : Nat) (hl : limit ≤ 1000) (hd : d ≤ 100) (B : Nat) (hB : B ≤ 1152921504606846976) (P : List Term → Prop)
include hl hd hB
theorem w14 (x : Atom) (i k : Int) (hlen : x.Args.length ≤ roomLen) (hg : ∀ y ∈ x.Args, ∀ l : Nat, l ≤ 1000 → ∃ w : Nat, g y l d = (true, (w : Int)) ∧ w ≤ B ∧ (w ≤ l → P y)) :
    ∀ (fuel j n : Nat), x.Args.length < j + fuel → j ≤ x.Args.length → n ≤ 2305843009213693952 → ∃ n' : Nat, ref05_weight_b_L14 g fuel a limit (d + 1 : Nat) n i k j x = (true, (a, (limit : Int), ((d + 1 : Nat) : Int), (n' : Int), i, k, x)) ∧ n ≤ n' ∧ n' ≤ max n (limit + B) ∧ (n' ≤ limit → ∀ y ∈ x.Args.drop j, P y)
  | 0, j, n, h1, h2, h3 => by omega
  | fuel + 1, j, n, h1, h2, h3 => by
    show ∃ n' : Nat, (ref05_weight_b_W14 g a limit (d + 1 : Nat) n i k j x).ev (fun x y => ref05_weight_b_L14 g fuel x.1 x.2.1 x.2.2.1 x.2.2.2.1 x.2.2.2.2.1 x.2.2.2.2.2.1 x.2.2.2.2.2.2.2.1 y.1) (fun r => (true, r)) (false, default) = _ ∧ _
    unfold ref05_weight_b_W14
    have hml : roomLen = 140737488351232 := rfl
    by_cases hj : j < x.Args.length
    · by_cases hn : n ≤ limit
      · have e1 : IntKind.i64.wrap ((limit : Int) - (n : Int)) = ((limit - n : Nat) : Int) := by rw [wrap_of (by omega) (by omega)]; omega
        obtain ⟨w, hw, hwB, hwP⟩ := hg _ (getD_mem hj) (limit - n) (by omega)
        have ed : IntKind.i64.wrap (((d + 1 : Nat) : Int) - 1) = (d : Int) := by rw [wrap_of (by omega) (by omega)]; omega
        simp only [Wy.ev_i, Wy.ev_k, Wy.ev_h, Wy.ev_bn, Wy.ev_d, Int.ofNat_eq_natCast, lt_nat, le0_nat, decide_true, decide_false, Bool.and_self, Bool.true_and, Bool.and_true, Bool.and_false, Bool.false_and, cond_true, cond_false, Int.toNat_natCast, Bool.not_true, Bool.not_false, hj, le_nat, hn, e1, ed, hw]
        have e3 : IntKind.i64.wrap ((n : Int) + (w : Int)) = ((n + w : Nat) : Int) := by rw [wrap_of (by omega) (by omega)]; omega
        rw [e3, wrap_succ (by omega)]
        obtain ⟨n', h4, h5, h6, h7⟩ := w14 x i k hlen hg fuel (j + 1) (n + w) (by omega) (by omega) (by omega)
        refine ⟨n', h4, by omega, by omega, fun hn' y hy => ?_⟩
        rw [drop_lt hj] at hy
        rcases List.mem_cons.1 hy with rfl | hy
        · exact hwP (by omega)
        · exact h7 hn' y hy
      · simp only [Wy.ev_i, Wy.ev_k, Wy.ev_h, Wy.ev_bn, Wy.ev_d, Int.ofNat_eq_natCast, lt_nat, le0_nat, decide_true, decide_false, Bool.and_self, Bool.true_and, Bool.and_true, Bool.and_false, Bool.false_and, cond_true, cond_false, Int.toNat_natCast, Bool.not_true, Bool.not_false, hj, le_nat, hn]
        exact ⟨n, rfl, Nat.le_refl _, by omega, fun h => absurd h hn⟩
    · simp only [Wy.ev_i, Wy.ev_k, Wy.ev_h, Wy.ev_bn, Wy.ev_d, Int.ofNat_eq_natCast, lt_nat, le0_nat, decide_true, decide_false, Bool.and_self, Bool.true_and, Bool.and_true, Bool.and_false, Bool.false_and, cond_true, cond_false, Int.toNat_natCast, Bool.not_true, Bool.not_false, hj]
      exact ⟨n, rfl, Nat.le_refl _, by omega, fun _ y hy => by rw [drop_ge hj] at hy; cases hy⟩
theorem w18 (x : Atom) (i k : Int) (hlen : x.Items.length ≤ roomLen) (hg : ∀ y ∈ x.Items, y.Value.Text.size ≤ roomLen ∧ ∀ l : Nat, l ≤ 1000 → ∃ w : Nat, g y.Ann l d = (true, (w : Int)) ∧ w ≤ B ∧ (w ≤ l → P y.Ann)) :
    ∀ (fuel j n : Nat), x.Items.length < j + fuel → j ≤ x.Items.length → n ≤ 2305843009213693952 → ∃ n' : Nat, ref05_weight_b_L18 g fuel a limit (d + 1 : Nat) n i k j x = (true, (a, (limit : Int), ((d + 1 : Nat) : Int), (n' : Int), i, k)) ∧ n ≤ n' ∧ n' ≤ max n (limit + roomLen + B) ∧ (n' ≤ limit → ∀ y ∈ x.Items.drop j, y.Value.Text.size ≤ 1000 ∧ P y.Ann)
  | 0, j, n, h1, h2, h3 => by omega
  | fuel + 1, j, n, h1, h2, h3 => by
    show ∃ n' : Nat, (ref05_weight_b_W18 g a limit (d + 1 : Nat) n i k j x).ev (fun x y => ref05_weight_b_L18 g fuel x.1 x.2.1 x.2.2.1 x.2.2.2.1 x.2.2.2.2.1 x.2.2.2.2.2.1 x.2.2.2.2.2.2.2.1 y.1) (fun r => (true, r)) (false, default) = _ ∧ _
    unfold ref05_weight_b_W18
    have hml : roomLen = 140737488351232 := rfl
    by_cases hj : j < x.Items.length
    · by_cases hn : n ≤ limit
      · have e1 : IntKind.i64.wrap ((limit : Int) - (n : Int)) = ((limit - n : Nat) : Int) := by rw [wrap_of (by omega) (by omega)]; omega
        obtain ⟨ht, hgy⟩ := hg _ (getD_mem hj)
        obtain ⟨w, hw, hwB, hwP⟩ := hgy (limit - n) (by omega)
        have ed : IntKind.i64.wrap (((d + 1 : Nat) : Int) - 1) = (d : Int) := by rw [wrap_of (by omega) (by omega)]; omega
        simp only [Wy.ev_i, Wy.ev_k, Wy.ev_h, Wy.ev_bn, Wy.ev_d, Int.ofNat_eq_natCast, lt_nat, le0_nat, decide_true, decide_false, Bool.and_self, Bool.true_and, Bool.and_true, Bool.and_false, Bool.false_and, cond_true, cond_false, Int.toNat_natCast, Bool.not_true, Bool.not_false, hj, le_nat, hn, e1, ed, hw]
        generalize hsz : (x.Items.getD j default).Value.Text.size = sz at *
        have e3 : IntKind.i64.wrap (IntKind.i64.wrap ((n : Int) + (sz : Int)) + (w : Int)) = ((n + sz + w : Nat) : Int) := by rw [wrap_of (z := (n : Int) + (sz : Int)) (by omega) (by omega), wrap_of (by omega) (by omega)]; omega
        rw [e3, wrap_succ (by omega)]
        obtain ⟨n', h4, h5, h6, h7⟩ := w18 x i k hlen hg fuel (j + 1) (n + sz + w) (by omega) (by omega) (by omega)
        refine ⟨n', h4, by omega, by omega, fun hn' y hy => ?_⟩
        rw [drop_lt hj] at hy
        rcases List.mem_cons.1 hy with rfl | hy
        · exact ⟨by omega, hwP (by omega)⟩
        · exact h7 hn' y hy
      · simp only [Wy.ev_i, Wy.ev_k, Wy.ev_h, Wy.ev_bn, Wy.ev_d, Int.ofNat_eq_natCast, lt_nat, le0_nat, decide_true, decide_false, Bool.and_self, Bool.true_and, Bool.and_true, Bool.and_false, Bool.false_and, cond_true, cond_false, Int.toNat_natCast, Bool.not_true, Bool.not_false, hj, le_nat, hn]
        exact ⟨n, rfl, Nat.le_refl _, by omega, fun h => absurd h hn⟩
    · simp only [Wy.ev_i, Wy.ev_k, Wy.ev_h, Wy.ev_bn, Wy.ev_d, Int.ofNat_eq_natCast, lt_nat, le0_nat, decide_true, decide_false, Bool.and_self, Bool.true_and, Bool.and_true, Bool.and_false, Bool.false_and, cond_true, cond_false, Int.toNat_natCast, Bool.not_true, Bool.not_false, hj]
      exact ⟨n, rfl, Nat.le_refl _, by omega, fun _ y hy => by rw [drop_ge hj] at hy; cases hy⟩
/-- The factors of one term. -/
theorem w9 (i : Nat) (hi : i < a.length) (hla : (a.getD i default).Factors.length ≤ roomLen) (hg : ∀ f ∈ (a.getD i default).Factors, f.Atom.Args.length ≤ roomLen ∧ f.Atom.Items.length ≤ roomLen ∧ f.Atom.Bound.Text.size ≤ roomLen ∧ (∀ y ∈ f.Atom.Args, ∀ l : Nat, l ≤ 1000 → ∃ w : Nat, g y l d = (true, (w : Int)) ∧ w ≤ B ∧ (w ≤ l → P y)) ∧
      ∀ y ∈ f.Atom.Items, y.Value.Text.size ≤ roomLen ∧ ∀ l : Nat, l ≤ 1000 → ∃ w : Nat, g y.Ann l d = (true, (w : Int)) ∧ w ≤ B ∧ (w ≤ l → P y.Ann)) :
    ∀ (fuel k n : Nat), (a.getD i default).Factors.length < k + fuel → k ≤ (a.getD i default).Factors.length → n ≤ 2305843009213693952 → ∃ n' : Nat, ref05_weight_b_L9 g fuel a limit (d + 1 : Nat) n i k = (true, (a, (limit : Int), ((d + 1 : Nat) : Int), (n' : Int), (i : Int))) ∧ n ≤ n' ∧ n' ≤ max n (limit + 4 * roomLen + B) ∧
      (n' ≤ limit → ∀ f ∈ (a.getD i default).Factors.drop k, (f.Atom.Args.length ≤ 1000 ∧ f.Atom.Items.length ≤ 1000 ∧ f.Atom.Bound.Text.size ≤ 1000) ∧ (∀ y ∈ f.Atom.Args, P y) ∧ ∀ y ∈ f.Atom.Items, y.Value.Text.size ≤ 1000 ∧ P y.Ann)
  | 0, k, n, h1, h2, h3 => by omega
  | fuel + 1, k, n, h1, h2, h3 => by
    show ∃ n' : Nat, (ref05_weight_b_W9 g a limit (d + 1 : Nat) n i k).ev (fun x y => ref05_weight_b_L9 g fuel x.1 x.2.1 x.2.2.1 x.2.2.2.1 x.2.2.2.2.1 x.2.2.2.2.2.1) (fun r => (true, r)) (false, default) = _ ∧ _
    unfold ref05_weight_b_W9
    have hml : roomLen = 140737488351232 := rfl
    by_cases hk : k < (a.getD i default).Factors.length
    · by_cases hn : n ≤ limit
      · simp only [Wy.ev_i, Wy.ev_k, Wy.ev_h, Wy.ev_bn, Wy.ev_d, Int.ofNat_eq_natCast, lt_nat, le0_nat, decide_true, decide_false, Bool.and_self, Bool.true_and, Bool.and_true, Bool.and_false, Bool.false_and, cond_true, cond_false, Int.toNat_natCast, Bool.not_true, Bool.not_false, hi, hk, le_nat, hn, Atom.eta]
        obtain ⟨ha1, ha2, ha3, hgA, hgI⟩ := hg _ (getD_mem hk)
        generalize hf : ((a.getD i default).Factors.getD k default) = f at *
        have e0 : IntKind.i64.wrap (IntKind.i64.wrap (IntKind.i64.wrap ((n : Int) + (f.Atom.Items.length : Int)) + (f.Atom.Args.length : Int)) + (f.Atom.Bound.Text.size : Int)) = ((n + f.Atom.Items.length + f.Atom.Args.length + f.Atom.Bound.Text.size : Nat) : Int) := by
          rw [wrap_of (z := (n : Int) + (f.Atom.Items.length : Int)) (by omega) (by omega), wrap_of (z := (n : Int) + (f.Atom.Items.length : Int) + (f.Atom.Args.length : Int)) (by omega) (by omega), wrap_of (by omega) (by omega)]; omega
        rw [e0]
        obtain ⟨n1, q1, q2, q3, q4⟩ := w14 g a limit d hl hd B hB P f.Atom i k ha1 hgA (a.length + limit + (d + 1) + ((n + f.Atom.Items.length + f.Atom.Args.length + f.Atom.Bound.Text.size : Nat) : Int).toNat + i + k + Int.toNat 0 + 1 + f.Atom.Args.length + f.Atom.Items.length) 0 (n + f.Atom.Items.length + f.Atom.Args.length + f.Atom.Bound.Text.size) (by omega) (by omega) (by omega)
        rw [show ((0 : Nat) : Int) = (0 : Int) from rfl] at q1
        rw [q1]
        simp only [cond_true, Atom.eta, Int.toNat_natCast]
        obtain ⟨n2, r1, r2, r3, r4⟩ := w18 g a limit d hl hd B hB P f.Atom i k ha2 hgI (a.length + limit + (d + 1) + n1 + i + k + Int.toNat 0 + 1 + f.Atom.Args.length + f.Atom.Items.length) 0 n1 (by omega) (by omega) (by omega)
        rw [show ((0 : Nat) : Int) = (0 : Int) from rfl] at r1
        rw [r1]
        simp only [cond_true]
        rw [wrap_succ (by omega)]
        obtain ⟨n', h4, h5, h6, h7⟩ := w9 i hi hla hg fuel (k + 1) n2 (by omega) (by omega) (by omega)
        refine ⟨n', h4, by omega, by omega, fun hn' y hy => ?_⟩
        rw [drop_lt hk] at hy
        rcases List.mem_cons.1 hy with rfl | hy
        · rw [hf]
          exact ⟨⟨by omega, by omega, by omega⟩, fun y hy => q4 (by omega) y (by simpa using hy), fun y hy => r4 (by omega) y (by simpa using hy)⟩
        · exact h7 hn' y hy
      · simp only [Wy.ev_i, Wy.ev_k, Wy.ev_h, Wy.ev_bn, Wy.ev_d, Int.ofNat_eq_natCast, lt_nat, le0_nat, decide_true, decide_false, Bool.and_self, Bool.true_and, Bool.and_true, Bool.and_false, Bool.false_and, cond_true, cond_false, Int.toNat_natCast, Bool.not_true, Bool.not_false, hi, hk, le_nat, hn]
        exact ⟨n, rfl, Nat.le_refl _, by omega, fun h => absurd h hn⟩
    · simp only [Wy.ev_i, Wy.ev_k, Wy.ev_h, Wy.ev_bn, Wy.ev_d, Int.ofNat_eq_natCast, lt_nat, le0_nat, decide_true, decide_false, Bool.and_self, Bool.true_and, Bool.and_true, Bool.and_false, Bool.false_and, cond_true, cond_false, Int.toNat_natCast, Bool.not_true, Bool.not_false, hi, hk]
      exact ⟨n, rfl, Nat.le_refl _, by omega, fun _ y hy => by rw [drop_ge hk] at hy; cases hy⟩
/-- The terms. -/
theorem w5 (hla : ∀ t ∈ a, t.Factors.length ≤ roomLen) (hg : ∀ t ∈ a, ∀ f ∈ t.Factors, f.Atom.Args.length ≤ roomLen ∧ f.Atom.Items.length ≤ roomLen ∧ f.Atom.Bound.Text.size ≤ roomLen ∧ (∀ y ∈ f.Atom.Args, ∀ l : Nat, l ≤ 1000 → ∃ w : Nat, g y l d = (true, (w : Int)) ∧ w ≤ B ∧ (w ≤ l → P y)) ∧
      ∀ y ∈ f.Atom.Items, y.Value.Text.size ≤ roomLen ∧ ∀ l : Nat, l ≤ 1000 → ∃ w : Nat, g y.Ann l d = (true, (w : Int)) ∧ w ≤ B ∧ (w ≤ l → P y.Ann)) (hlen : a.length ≤ roomLen) :
    ∀ (fuel i n : Nat), a.length < i + fuel → i ≤ a.length → n ≤ 2305843009213693952 → ∃ n' : Nat, ref05_weight_b_L5 g fuel a limit (d + 1 : Nat) n i = (true, (n' : Int)) ∧ n ≤ n' ∧ n' ≤ max n (limit + 6 * roomLen + B) ∧
      (n' ≤ limit → n + (a.length - i) ≤ n' ∧ ∀ t ∈ a.drop i, t.Factors.length ≤ 1000 ∧ ∀ f ∈ t.Factors, (f.Atom.Args.length ≤ 1000 ∧ f.Atom.Items.length ≤ 1000 ∧ f.Atom.Bound.Text.size ≤ 1000) ∧ (∀ y ∈ f.Atom.Args, P y) ∧ ∀ y ∈ f.Atom.Items, y.Value.Text.size ≤ 1000 ∧ P y.Ann)
  | 0, i, n, h1, h2, h3 => by omega
  | fuel + 1, i, n, h1, h2, h3 => by
    show ∃ n' : Nat, (ref05_weight_b_W5 g a limit (d + 1 : Nat) n i).ev (fun x y => ref05_weight_b_L5 g fuel x.1 x.2.1 x.2.2.1 x.2.2.2.1 x.2.2.2.2.1) (fun r => (true, r)) (false, default) = _ ∧ _
    unfold ref05_weight_b_W5
    have hml : roomLen = 140737488351232 := rfl
    by_cases hi : i < a.length
    · by_cases hn : n ≤ limit
      · simp only [Wy.ev_i, Wy.ev_k, Wy.ev_h, Wy.ev_bn, Wy.ev_d, Int.ofNat_eq_natCast, lt_nat, le0_nat, decide_true, decide_false, Bool.and_self, Bool.true_and, Bool.and_true, Bool.and_false, Bool.false_and, cond_true, cond_false, Int.toNat_natCast, Bool.not_true, Bool.not_false, hi, le_nat, hn]
        have hla' := hla _ (getD_mem hi)
        have e0 : IntKind.i64.wrap (IntKind.i64.wrap ((n : Int) + 1) + ((a.getD i default).Factors.length : Int)) = ((n + 1 + (a.getD i default).Factors.length : Nat) : Int) := by
          rw [wrap_succ (by omega), wrap_of (by omega) (by omega)]; omega
        rw [e0]
        obtain ⟨n1, q1, q2, q3, q4⟩ := w9 g a limit d hl hd B hB P i hi hla' (hg _ (getD_mem hi)) (a.length + limit + (d + 1) + ((n + 1 + (a.getD i default).Factors.length : Nat) : Int).toNat + i + Int.toNat 0 + 1) 0 (n + 1 + (a.getD i default).Factors.length) (by omega) (by omega) (by omega)
        rw [show ((0 : Nat) : Int) = (0 : Int) from rfl] at q1
        rw [q1]
        simp only [cond_true]
        rw [wrap_succ (by omega)]
        obtain ⟨n', h4, h5, h6, h7⟩ := w5 hla hg hlen fuel (i + 1) n1 (by omega) (by omega) (by omega)
        refine ⟨n', h4, by omega, by omega, fun hn' => ?_⟩
        obtain ⟨h8, h9⟩ := h7 hn'
        refine ⟨by omega, fun y hy => ?_⟩
        rw [drop_lt hi] at hy
        rcases List.mem_cons.1 hy with rfl | hy
        · exact ⟨by omega, fun f hf => q4 (by omega) f (by simpa using hf)⟩
        · exact h9 y hy
      · simp only [Wy.ev_i, Wy.ev_k, Wy.ev_h, Wy.ev_bn, Wy.ev_d, Int.ofNat_eq_natCast, lt_nat, le0_nat, decide_true, decide_false, Bool.and_self, Bool.true_and, Bool.and_true, Bool.and_false, Bool.false_and, cond_true, cond_false, Int.toNat_natCast, Bool.not_true, Bool.not_false, hi, le_nat, hn]
        exact ⟨n, rfl, Nat.le_refl _, by omega, fun h => absurd h hn⟩
    · simp only [Wy.ev_i, Wy.ev_k, Wy.ev_h, Wy.ev_bn, Wy.ev_d, Int.ofNat_eq_natCast, lt_nat, le0_nat, decide_true, decide_false, Bool.and_self, Bool.true_and, Bool.and_true, Bool.and_false, Bool.false_and, cond_true, cond_false, Int.toNat_natCast, Bool.not_true, Bool.not_false, hi]
      exact ⟨n, rfl, Nat.le_refl _, by omega, fun _ => ⟨by omega, fun y hy => by rw [drop_ge hi] at hy; cases hy⟩⟩
end
theorem weight_ok : ∀ (d N : Nat), d < N → d ≤ 12 → ∀ (l : Nat), l ≤ 1000 → ∀ a, wfAnn a → a.length ≤ roomLen → ∃ w : Nat, ref05_weight_n N a l d = (true, (w : Int)) ∧ w ≤ (d + 1) * 4503599627370496 ∧ (w ≤ l → fineAnn d a)
  | _, 0, h, _, _, _, _, _, _ => by omega
  | 0, N + 1, _, _, l, hl, a, hw, hlen => by
    rw [ref05_weight_succ]
    unfold ref05_weight_b ref05_weight_b_W
    refine ⟨l + 1, ?_, by omega, fun h => by omega⟩
    simp only [Wy.fin_i, Wy.fin_k]
    rw [wrap_succ (by omega)]; rfl
  | d + 1, N + 1, hN, hd, l, hl, a, hw, hlen => by
    rw [ref05_weight_succ]
    unfold ref05_weight_b ref05_weight_b_W
    have hml : roomLen = 140737488351232 := rfl
    have ih := fun y (h1 : wfAnn y) (h2 : y.length ≤ roomLen) l hl => weight_ok d N (by omega) (by omega) l hl y h1 h2
    have e0 : (((d + 1 : Nat) : Int) == (0 : Int)) = false := by
      rw [beq_eq_false_iff_ne]; omega
    obtain ⟨n', h1, h2, h3, h4⟩ := w5 (ref05_weight_n N) a l d hl (by omega) ((d + 1) * 4503599627370496) (by omega) (fineAnn d) (fun t ht => (wfTerm_iff (wfAnn_mem hw t ht)).2.2) (fun t ht f hf => by
      have hx := wfAtom_iff (wfFactor_iff (wfFactors_mem (wfTerm_iff (wfAnn_mem hw t ht)).2.1 f hf)).1
      refine ⟨hx.1.2, hx.2.1.2, hx.2.2.1.2.2, fun y hy l hl => ?_, fun y hy => ?_⟩
      · have := wfAnns_mem hx.1.1 y hy
        exact ih y this.1 this.2 l hl
      · have := wfItems_mem hx.2.1.1 y hy
        exact ⟨this.1.2.2, fun l hl => ih y.Ann this.2.1 this.2.2 l hl⟩) hlen (a.length + l + (d + 1) + Int.toNat 0 + Int.toNat 0 + 1) 0 0 (by omega) (by omega) (by omega)
    rw [show ((0 : Nat) : Int) = (0 : Int) from rfl] at h1
    refine ⟨n', ?_, by omega, fun hn => ?_⟩
    · simp only [Wy.fin_i, Wy.fin_k, Wy.fin_bn, e0, cond_false, Int.toNat_natCast, h1, cond_true]
    · obtain ⟨h5, h6⟩ := h4 hn
      refine ⟨by omega, fun t ht => ?_⟩
      obtain ⟨h7, h8⟩ := h6 t (by simpa using ht)
      refine ⟨by omega, fun f hf => ?_⟩
      obtain ⟨h9, h10, h11⟩ := h8 f hf
      exact ⟨⟨by omega, by omega, by omega⟩, h10, fun w hw => ⟨by have := (h11 w hw).1; omega, (h11 w hw).2⟩⟩
theorem Few_loop (limit : Nat) (hl : limit ≤ 1000) (l : List (List Term)) (hll : l.length ≤ 1000) (hw : ∀ a ∈ l, wfAnn a ∧ a.length ≤ roomLen) : ∀ (n i : Nat), l.length < i + n → i ≤ l.length → ∃ r, ref05_Few_L2 n limit l i = (true, r) ∧ ((r = .inl false) ∨ (r = .inr () ∧ ∀ a ∈ l.drop i, fineAnn 12 a))
  | 0, i, h1, h2 => by omega
  | n + 1, i, h1, h2 => by
    show ∃ r, (ref05_Few_W2 limit l i).ev (fun x y => ref05_Few_L2 n x.1 x.2.1 x.2.2.1) (fun r => (true, r)) (false, .inl default) = (true, r) ∧ _
    unfold ref05_Few_W2
    by_cases hi : i < l.length
    · obtain ⟨w, q1, q2, q3⟩ := weight_ok 12 1000 (by omega) (by omega) limit hl _ (hw _ (getD_mem hi)).1 (hw _ (getD_mem hi)).2
      have q1' : ref05_weight (l.getD i default) (limit : Int) 12 = (true, (w : Int)) := q1
      simp only [Wy.ev_i, Wy.ev_k, Wy.ev_h, Wy.ev_bn, Wy.ev_d, Int.ofNat_eq_natCast, lt_nat, le0_nat, decide_true, decide_false, Bool.and_self, Bool.true_and, Bool.and_true, Bool.and_false, Bool.false_and, cond_true, cond_false, Int.toNat_natCast, Bool.not_true, Bool.not_false, hi, q1', gt_nat]
      by_cases hg : limit < w
      · simp only [hg, decide_true, cond_true]
        exact ⟨_, rfl, .inl rfl⟩
      · simp only [hg, decide_false, cond_false]
        rw [wrap_succ (by omega)]
        obtain ⟨r, h3, h4⟩ := Few_loop limit hl l hll hw n (i + 1) (by omega) (by omega)
        refine ⟨r, h3, ?_⟩
        rcases h4 with h4 | ⟨h4, h5⟩
        · exact .inl h4
        · refine .inr ⟨h4, fun a ha => ?_⟩
          rw [drop_lt hi] at ha
          rcases List.mem_cons.1 ha with rfl | ha
          · exact q3 (by omega)
          · exact h5 a ha
    · simp only [Wy.ev_i, Wy.ev_k, Wy.ev_h, Wy.ev_bn, Wy.ev_d, Int.ofNat_eq_natCast, lt_nat, le0_nat, decide_true, decide_false, Bool.and_self, Bool.true_and, Bool.and_true, Bool.and_false, Bool.false_and, cond_true, cond_false, Int.toNat_natCast, Bool.not_true, Bool.not_false, hi]
      exact ⟨_, rfl, .inr ⟨rfl, fun a ha => by rw [drop_ge hi] at ha; cases ha⟩⟩
theorem Few_ok (limit : Nat) (hl : limit ≤ 1000) (l : List (List Term)) (hll : l.length ≤ 1000) (hw : ∀ a ∈ l, wfAnn a ∧ a.length ≤ roomLen) : ∃ b, ref05_Few limit l = (true, b) ∧ (b = true → ∀ a ∈ l, fineAnn 12 a) := by
  unfold ref05_Few ref05_Few_W
  obtain ⟨r, h1, h2⟩ := Few_loop limit hl l hll hw (limit + l.length + Int.toNat 0 + 1) 0 (by omega) (by omega)
  rw [show ((0 : Nat) : Int) = (0 : Int) from rfl] at h1
  rw [Wy.fin_bn]
  simp only [Int.toNat_natCast, h1, cond_true]
  rcases h2 with rfl | ⟨rfl, h2⟩
  · exact ⟨false, rfl, fun h => by cases h⟩
  · exact ⟨true, rfl, fun _ a ha => h2 a (by simpa using ha)⟩
end Go.Proofs.YtnolcogncjijpaaGreatDoor
/- The law of the order of annotations. -/
namespace Go.Proofs.YtnolcogncjijpaaGreatDoor
open Go Go.Ab

theorem order_plain (a b c : List Term) (ha : wf23 a) (hb : wf23 b) (hc : wf23 c) : law05_AnnotationOrder a b c = (true, true) := by
  obtain ⟨q, h1, h2⟩ := Few_ok 60 (by omega) [a, b, c] (by simp) (fun x hx => by
    simp only [List.mem_cons, List.not_mem_nil, or_false] at hx
    rcases hx with rfl | rfl | rfl
    · exact ha
    · exact hb
    · exact hc)
  replace h1 : ref05_Few (60 : Int) [a, b, c] = (true, q) := h1
  unfold law05_AnnotationOrder law05_AnnotationOrder_W
  rw [Wy.fin_bn, h1]
  cases q with
  | false => rfl
  | true =>
    have fa := h2 rfl a (by simp)
    have fb := h2 rfl b (by simp)
    have e0 : (cmpL (trAnn a) (trAnn b) != cmpL (trAnn a) (trAnn b)) = false := by simp
    have ew : IntKind.i64.wrap (0 - cmpL (trAnn a) (trAnn b)) = - cmpL (trAnn a) (trAnn b) := by
      have := cmpL_rng (trAnn a) (trAnn b)
      rw [wrap_of (by omega) (by omega)]; omega
    have e1 : (cmpL (trAnn b) (trAnn a) != - cmpL (trAnn a) (trAnn b)) = false := by rw [cmpL_anti (trAnn a) (trAnn b)]; simp
    have e2 : (decide (a = b) == (cmpL (trAnn a) (trAnn b) == (0 : Int))) = true := by
      by_cases h : a = b
      · subst h; rw [cmpL_self]; simp
      · have : cmpL (trAnn a) (trAnn b) ≠ 0 := fun e => h (trAnn_inj _ _ (cmpL_eq _ _ e))
        simp [h, this]
    have e3 : (cmpL (trAnn a) (trAnn a) != 0) = false := by rw [cmpL_self]; rfl
    simp only [Wy.fin_i, Wy.fin_bn, Wy.fin_k, cond_true, cond_false, Bool.not_true, annotation_Compare_eq fa (by omega), annotation_Compare_eq fb (by omega), ref05_Compare_eq fa (by omega), annotation_Equal_eq fa (by omega), e0, ew, e1, e2, e3]
    by_cases g1 : cmpL (trAnn a) (trAnn b) ≤ 0
    · by_cases g2 : cmpL (trAnn b) (trAnn c) ≤ 0
      · have g3 := cmpL_trans _ _ _ g1 g2
        simp [g1, g2, g3]
      · simp [g1, g2]
    · simp [g1]
end Go.Proofs.YtnolcogncjijpaaGreatDoor
