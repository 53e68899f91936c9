/- RowsetFamilies: For every input the law returns true, and the input reads afterwards as it read before. -/
import Derived.Test.YteopikhooiallaaGreatDoorGC1
import Derived.Test.YteopikhooiallaaGreatDoorGC2
import Derived.Test.YteopikhooiallaaGreatDoorCards
import Derived.Test.YteopikhooiallaaGreatDoorTie
set_option autoImplicit false
set_option maxRecDepth 1000000
set_option linter.unusedVariables false
namespace Go.Proofs.YteopikhooiallaaGreatDoor
open Go Go.Ab Go.RowKit Go.ChangeShapes Go.WideShapes
theorem rowsetFamilies_lifted (os : Os) (started : os.Started) (H : Type) (enc : TypeId × Value → H) :
    ReturnsInHanded {} Tryz.checked os 3 .any (fun w args => (Rows.rowsetFamiliesSpec.pre enc Tryz.prog Tryz.f3 [] false w args ∧ laidMetH Tryz.prog laidAll w) ∧ sizedMet enc Tryz.prog Tryz.f3 (OpenSpec.ofChange Rows.rowsetFamiliesSpec) false w args) (Rows.rowsetFamiliesSpec.post enc Tryz.prog Tryz.f3 false true false false) := by
  refine law_lifted (C := Tryz.checked) (cx := base0) (B := 4) (sp := law02_RowsetFamilies_spec) own started (by kernel_rfl) Tryz.func3
    (ChangeSpec.witness_at (enc := enc) (C := Tryz.checked) (os := os) (X := fun w _ => laidMetH Tryz.prog laidAll w) false (laidWorld os) #[.slice none 0 0, .slice none 0 0] 8 rfl (by kernel_rfl) (by kernel_rfl) (by kernel_rfl) (by kernel_rfl) (by kernel_rfl) (laidWorld_met os _))
    laidOut (fun t ht => ?_) rfl (by kernel_rfl) Tryz.underlying4 (fun ds hd => ?_) law02_RowsetFamilies_sound (fun w h => invMet w h) (fun w vs ds ps hv hA => ?_)
  · rw [show Tryz.f3.params.toList = [22, 22] by kernel_rfl] at ht
    simp only [List.mem_cons, List.not_mem_nil, or_false] at ht
    rcases ht with rfl | rfl
    all_goals exact ⟨by kernel_rfl, of_decide_eq_true (by kernel_rfl)⟩
  · rw [show Tryz.f3.params.size = 2 by kernel_rfl] at hd
    match ds, hd with
    | [d0, d1], _ => rfl
  · rw [show Tryz.f3.params.toList = [22, 22] by kernel_rfl] at hv hA
    obtain ⟨v0, vs1, ds1, ps1, x0, rfl, r0, w0, hv, hA⟩ := arg_next reads22 (argR_cell Tryz.underlying22 trivial (fun x : List (List RowID) => .sl 31 x) (fun _ => rfl)) hv hA
    obtain ⟨v1, vs2, ds2, ps2, x1, rfl, r1, w1, hv, hA⟩ := arg_next reads22 (argR_cell Tryz.underlying22 trivial (fun x : List (List RowID) => .sl 31 x) (fun _ => rfl)) hv hA
    obtain rfl := arg_end hA
    have hp := families_plain x0 x1 w0 w1
    have e : law02_RowsetFamilies_spec [.pure (.sl 31 x0), .pure (.sl 31 x1)] = some ((law02_RowsetFamilies x0 x1).1, law02_RowsetFamilies_res (law02_RowsetFamilies x0 x1).2) := by kernel_rfl
    rw [hp] at e
    exact ⟨[.pure (.sl 31 x0), .pure (.sl 31 x1)], e, rfl, (All2.imp (.cons (show ArgOK base (In w) w v0 (.pure (.sl 31 x0)) from r0) (.cons (show ArgOK base (In w) w v1 (.pure (.sl 31 x1)) from r1) (.nil))) fun _ _ h => ArgOK.cg (cx := base) (cx' := base0) ⟨rfl, rfl, rfl, rfl, rfl, rfl⟩ h)⟩
theorem rowsetFamilies_row : Rows.RowsetFamiliesSaid :=
  OpenClaim.holds_of_wide 3 Tryz.f3 rfl rfl rfl rfl rfl rfl rfl ⟨rfl, rfl, rfl, rfl, rfl⟩ rfl rfl rfl rfl rfl (by kernel_rfl) Tryz.func3 (by kernel_rfl)
    (of_decide_eq_true (by kernel_rfl)) (by unfold Func.isWrapper; rw [if_neg (of_decide_eq_false (by kernel_rfl))]; exact ⟨rfl, rfl⟩)
    (fun os started H enc _ => rowsetFamilies_lifted os started H enc)
theorem rowsetFamilies_holds : Rows.RowsetFamiliesCardSaid :=
  Claim7.holds_tied_plain_at .later [] [.data, .data, .data] true (true, "c8b8dcb21513a75ab96d048caf3b8c0122b0d45d626b6e575ad7b8bfc63ccc93") true
    rowsetFamilies_row (fun _ h => by cases h) (by kernel_rfl) (fun _ h => by cases h) rowsetFamilies_row_tie rfl ⟨rfl, rfl⟩ (by kernel_rfl) rfl
    (fun f fn hf hfn => by
      obtain rfl : f = 3 := Option.some.inj ((show Tryz.prog.funcNamed "lineage/lineagelaw02.RowsetFamilies" = some 3 by kernel_rfl).symm.trans hf) |>.symm
      obtain rfl : fn = Tryz.f3 := (Option.some.inj (Tryz.func3.symm.trans hfn)).symm
      exact ⟨by kernel_rfl, fun j t ht => by
        have ht' : t ∈ Tryz.f3.params.toList := by
          have := Array.mem_of_getElem? ht
          simpa using this
        rw [show Tryz.f3.params.toList = [22, 22] by kernel_rfl] at ht'
        simp only [List.mem_cons, List.not_mem_nil, or_false] at ht'
        rcases ht' with rfl | rfl
        · exact (show Tryz.prog.wantsStandIn 22 = false by kernel_rfl)
        · exact (show Tryz.prog.wantsStandIn 22 = false by kernel_rfl)
        ⟩)
    (by kernel_rfl)
#print axioms rowsetFamilies_holds
end Go.Proofs.YteopikhooiallaaGreatDoor
