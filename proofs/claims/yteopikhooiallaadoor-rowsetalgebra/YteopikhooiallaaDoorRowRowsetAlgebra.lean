/- RowsetAlgebra: For every input the law returns true, and the input reads afterwards as it read before. -/
import Derived.Test.YteopikhooiallaaDoorGC1
import Derived.Test.YteopikhooiallaaDoorGC2
import Derived.Test.YteopikhooiallaaDoorCards
import Derived.Test.YteopikhooiallaaDoorTie
set_option autoImplicit false
set_option maxRecDepth 1000000
set_option linter.unusedVariables false
namespace Go.Proofs.YteopikhooiallaaDoor
open Go Go.Ab Go.RowKit Go.ChangeShapes Go.WideShapes
theorem rowsetAlgebra_lifted (os : Os) (started : os.Started) (H : Type) (enc : TypeId × Value → H) :
    ReturnsInHanded {} Tryd.checked os 6 .any (fun w args => (Rows.rowsetAlgebraSpec.pre enc Tryd.prog Tryd.f6 [] false w args ∧ laidMetH Tryd.prog laidAll w) ∧ sizedMet enc Tryd.prog Tryd.f6 (OpenSpec.ofChange Rows.rowsetAlgebraSpec) false w args) (Rows.rowsetAlgebraSpec.post enc Tryd.prog Tryd.f6 false true false false) := by
  refine law_lifted (C := Tryd.checked) (cx := base0) (B := 4) (sp := law02_RowsetAlgebra_spec) own started (by kernel_rfl) Tryd.func6
    (ChangeSpec.witness_at (enc := enc) (C := Tryd.checked) (os := os) (X := fun w _ => laidMetH Tryd.prog laidAll w) false (laidWorld os) #[.slice none 0 0, .slice none 0 0, .slice none 0 0] 8 rfl (by kernel_rfl) (by kernel_rfl) (by kernel_rfl) (by kernel_rfl) (by kernel_rfl) (laidWorld_met os _))
    laidOut (fun t ht => ?_) rfl (by kernel_rfl) Tryd.underlying4 (fun ds hd => ?_) law02_RowsetAlgebra_sound (fun w h => invMet w h) (fun w vs ds ps hv hA => ?_)
  · rw [show Tryd.f6.params.toList = [24, 24, 24] by kernel_rfl] at ht
    simp only [List.mem_cons, List.not_mem_nil, or_false] at ht
    rcases ht with rfl | rfl | rfl
    all_goals exact ⟨by kernel_rfl, of_decide_eq_true (by kernel_rfl)⟩
  · rw [show Tryd.f6.params.size = 3 by kernel_rfl] at hd
    match ds, hd with
    | [d0, d1, d2], _ => rfl
  · rw [show Tryd.f6.params.toList = [24, 24, 24] by kernel_rfl] at hv hA
    obtain ⟨v0, vs1, ds1, ps1, x0, rfl, r0, w0, hv, hA⟩ := arg_next reads24 (argR_cell Tryd.underlying24 trivial (fun x : List RowID => .sl 23 x) (fun _ => rfl)) hv hA
    obtain ⟨v1, vs2, ds2, ps2, x1, rfl, r1, w1, hv, hA⟩ := arg_next reads24 (argR_cell Tryd.underlying24 trivial (fun x : List RowID => .sl 23 x) (fun _ => rfl)) hv hA
    obtain ⟨v2, vs3, ds3, ps3, x2, rfl, r2, w2, hv, hA⟩ := arg_next reads24 (argR_cell Tryd.underlying24 trivial (fun x : List RowID => .sl 23 x) (fun _ => rfl)) hv hA
    obtain rfl := arg_end hA
    have hp := algebra_plain x0 x1 x2 w0 w1 w2
    have e : law02_RowsetAlgebra_spec [.pure (.sl 23 x0), .pure (.sl 23 x1), .pure (.sl 23 x2)] = some ((law02_RowsetAlgebra x0 x1 x2).1, law02_RowsetAlgebra_res (law02_RowsetAlgebra x0 x1 x2).2) := by kernel_rfl
    rw [hp] at e
    exact ⟨[.pure (.sl 23 x0), .pure (.sl 23 x1), .pure (.sl 23 x2)], e, rfl, (All2.imp (.cons (show ArgOK base (In w) w v0 (.pure (.sl 23 x0)) from r0) (.cons (show ArgOK base (In w) w v1 (.pure (.sl 23 x1)) from r1) (.cons (show ArgOK base (In w) w v2 (.pure (.sl 23 x2)) from r2) (.nil)))) fun _ _ h => ArgOK.cg (cx := base) (cx' := base0) ⟨rfl, rfl, rfl, rfl, rfl, rfl⟩ h)⟩
theorem rowsetAlgebra_row : Rows.RowsetAlgebraSaid :=
  OpenClaim.holds_of_wide 6 Tryd.f6 rfl rfl rfl rfl rfl rfl rfl ⟨rfl, rfl, rfl, rfl, rfl⟩ rfl rfl rfl rfl rfl (by kernel_rfl) Tryd.func6 (by kernel_rfl)
    (of_decide_eq_true (by kernel_rfl)) (by unfold Func.isWrapper; rw [if_neg (of_decide_eq_false (by kernel_rfl))]; exact ⟨rfl, rfl⟩)
    (fun os started H enc _ => rowsetAlgebra_lifted os started H enc)
theorem rowsetAlgebra_holds : Rows.RowsetAlgebraCardSaid :=
  Claim7.holds_tied_plain_at .later [] [.data, .data, .data] true (true, "a649b3460f3ae812cd850f15a3f36ddb5b3c7ed771d4bca4ad86c3de1a0cfaac") false
    rowsetAlgebra_row (fun _ h => by cases h) (by kernel_rfl) (fun _ h => by cases h) rowsetAlgebra_row_tie rfl ⟨rfl, rfl⟩ (by kernel_rfl) rfl
    (fun f fn hf hfn => by
      obtain rfl : f = 6 := Option.some.inj ((show Tryd.prog.funcNamed "lineage/lineagelaw02.RowsetAlgebra" = some 6 by kernel_rfl).symm.trans hf) |>.symm
      obtain rfl : fn = Tryd.f6 := (Option.some.inj (Tryd.func6.symm.trans hfn)).symm
      exact ⟨by kernel_rfl, fun j t ht => by
        have ht' : t ∈ Tryd.f6.params.toList := by
          have := Array.mem_of_getElem? ht
          simpa using this
        rw [show Tryd.f6.params.toList = [24, 24, 24] by kernel_rfl] at ht'
        simp only [List.mem_cons, List.not_mem_nil, or_false] at ht'
        rcases ht' with rfl | rfl | rfl
        · exact (show Tryd.prog.wantsStandIn 24 = false by kernel_rfl)
        · exact (show Tryd.prog.wantsStandIn 24 = false by kernel_rfl)
        · exact (show Tryd.prog.wantsStandIn 24 = false by kernel_rfl)
        ⟩)
    (by kernel_rfl)
#print axioms rowsetAlgebra_holds
end Go.Proofs.YteopikhooiallaaDoor
