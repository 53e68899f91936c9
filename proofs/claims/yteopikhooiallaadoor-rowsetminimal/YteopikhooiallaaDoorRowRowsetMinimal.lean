/- RowsetMinimal: For every input the law returns true, and the input reads afterwards as it read before. -/
import Derived.Test.YteopikhooiallaaDoorGC1
import Derived.Test.YteopikhooiallaaDoorGC2
import Derived.Test.YteopikhooiallaaDoorCards
import Derived.Test.YteopikhooiallaaDoorTie
set_option autoImplicit false
set_option maxRecDepth 1000000
set_option linter.unusedVariables false
namespace Go.Proofs.YteopikhooiallaaDoor
open Go Go.Ab Go.RowKit Go.ChangeShapes Go.WideShapes
theorem rowsetMinimal_lifted (os : Os) (started : os.Started) (H : Type) (enc : TypeId × Value → H) :
    ReturnsInHanded {} Tryd.checked os 4 .any (fun w args => (Rows.rowsetMinimalSpec.pre enc Tryd.prog Tryd.f4 [] false w args ∧ laidMetH Tryd.prog laidAll w) ∧ sizedMet enc Tryd.prog Tryd.f4 (OpenSpec.ofChange Rows.rowsetMinimalSpec) false w args) (Rows.rowsetMinimalSpec.post enc Tryd.prog Tryd.f4 false true false false) := by
  refine law_lifted (C := Tryd.checked) (cx := base0) (B := 4) (sp := law02_RowsetMinimal_spec) own started (by kernel_rfl) Tryd.func4
    (ChangeSpec.witness_at (enc := enc) (C := Tryd.checked) (os := os) (X := fun w _ => laidMetH Tryd.prog laidAll w) false (laidWorld os) #[.slice none 0 0] 8 rfl (by kernel_rfl) (by kernel_rfl) (by kernel_rfl) (by kernel_rfl) (by kernel_rfl) (laidWorld_met os _))
    laidOut (fun t ht => ?_) rfl (by kernel_rfl) Tryd.underlying4 (fun ds hd => ?_) law02_RowsetMinimal_sound (fun w h => invMet w h) (fun w vs ds ps hv hA => ?_)
  · rw [show Tryd.f4.params.toList = [30] by kernel_rfl] at ht
    simp only [List.mem_cons, List.not_mem_nil, or_false] at ht
    rcases ht with rfl
    all_goals exact ⟨by kernel_rfl, of_decide_eq_true (by kernel_rfl)⟩
  · rw [show Tryd.f4.params.size = 1 by kernel_rfl] at hd
    match ds, hd with
    | [d0], _ => rfl
  · rw [show Tryd.f4.params.toList = [30] by kernel_rfl] at hv hA
    obtain ⟨v0, vs1, ds1, ps1, x0, rfl, r0, w0, hv, hA⟩ := arg_next reads30 (argR_cell Tryd.underlying30 trivial (fun x : List (List RowID) => .sl 24 x) (fun _ => rfl)) hv hA
    obtain rfl := arg_end hA
    have hp := minimal_plain x0 w0
    have e : law02_RowsetMinimal_spec [.pure (.sl 24 x0)] = some ((law02_RowsetMinimal x0).1, law02_RowsetMinimal_res (law02_RowsetMinimal x0).2) := by kernel_rfl
    rw [hp] at e
    exact ⟨[.pure (.sl 24 x0)], e, rfl, (All2.imp (.cons (show ArgOK base (In w) w v0 (.pure (.sl 24 x0)) from r0) (.nil)) fun _ _ h => ArgOK.cg (cx := base) (cx' := base0) ⟨rfl, rfl, rfl, rfl, rfl, rfl⟩ h)⟩
theorem rowsetMinimal_row : Rows.RowsetMinimalSaid :=
  OpenClaim.holds_of_wide 4 Tryd.f4 rfl rfl rfl rfl rfl rfl rfl ⟨rfl, rfl, rfl, rfl, rfl⟩ rfl rfl rfl rfl rfl (by kernel_rfl) Tryd.func4 (by kernel_rfl)
    (of_decide_eq_true (by kernel_rfl)) (by unfold Func.isWrapper; rw [if_neg (of_decide_eq_false (by kernel_rfl))]; exact ⟨rfl, rfl⟩)
    (fun os started H enc _ => rowsetMinimal_lifted os started H enc)
theorem rowsetMinimal_holds : Rows.RowsetMinimalCardSaid :=
  Claim7.holds_tied_plain_at .later [] [.data, .data, .data] true (true, "a649b3460f3ae812cd850f15a3f36ddb5b3c7ed771d4bca4ad86c3de1a0cfaac") false
    rowsetMinimal_row (fun _ h => by cases h) (by kernel_rfl) (fun _ h => by cases h) rowsetMinimal_row_tie rfl ⟨rfl, rfl⟩ (by kernel_rfl) rfl
    (fun f fn hf hfn => by
      obtain rfl : f = 4 := Option.some.inj ((show Tryd.prog.funcNamed "lineage/lineagelaw02.RowsetMinimal" = some 4 by kernel_rfl).symm.trans hf) |>.symm
      obtain rfl : fn = Tryd.f4 := (Option.some.inj (Tryd.func4.symm.trans hfn)).symm
      exact ⟨by kernel_rfl, fun j t ht => by
        have ht' : t ∈ Tryd.f4.params.toList := by
          have := Array.mem_of_getElem? ht
          simpa using this
        rw [show Tryd.f4.params.toList = [30] by kernel_rfl] at ht'
        simp only [List.mem_cons, List.not_mem_nil, or_false] at ht'
        rcases ht' with rfl
        · exact (show Tryd.prog.wantsStandIn 30 = false by kernel_rfl)
        ⟩)
    (by kernel_rfl)
#print axioms rowsetMinimal_holds
end Go.Proofs.YteopikhooiallaaDoor
