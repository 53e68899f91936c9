/- AnnotationSimplification: For every input the law returns true, and the input reads afterwards as it read before. -/
import Derived.Test.YtnolcogncjijpaaGreatDoorGC1
import Derived.Test.YtnolcogncjijpaaGreatDoorGC4
import Derived.Test.YtnolcogncjijpaaGreatDoorGC9
import Derived.Test.YtnolcogncjijpaaGreatDoorCards
import Derived.Test.YtnolcogncjijpaaGreatDoorTie
set_option autoImplicit false
set_option maxRecDepth 1000000
set_option linter.unusedVariables false
namespace Go.Proofs.YtnolcogncjijpaaGreatDoor
open Go Go.Ab Go.RowKit Go.ChangeShapes Go.WideShapes
theorem zuI (os : Os) (started : os.Started) (H : Type) (enc : TypeId × _root_.Go.Value → H) :
    ReturnsInHanded {} Tryz.checked os 5 .any (fun w args => (Rows.annotationSimplificationSpec.pre enc Tryz.prog Tryz.f5 [] false w args ∧ laidMetH Tryz.prog zwE w) ∧ sizedMet enc Tryz.prog Tryz.f5 (OpenSpec.ofChange Rows.annotationSimplificationSpec) false w args) (Rows.annotationSimplificationSpec.post enc Tryz.prog Tryz.f5 false true false false) := by
  refine zMD (C := Tryz.checked) (cx := base0) (B := 4) (sp := zhc) own started (by kernel_rfl) Tryz.func5
    (ChangeSpec.witness_at (enc := enc) (C := Tryz.checked) (os := os) (X := fun w _ => laidMetH Tryz.prog zwE w) false (zI7 os) #[.slice none 0 0, .slice none 0 0] 8 rfl (by kernel_rfl) (by kernel_rfl) (by kernel_rfl) (by kernel_rfl) (by kernel_rfl) (zJR os _))
    zQo (fun t ht => ?_) rfl (by kernel_rfl) Tryz.underlying4 (fun ds hd => ?_) zrO (fun w hs h => zQx w hs h) (fun w vs ds ps hv hA hz => ?_)
  · rw [show Tryz.f5.params.toList = [23, 23] by kernel_rfl] at ht
    simp only [List.mem_cons, List.not_mem_nil, or_false] at ht
    rcases ht with rfl | rfl
    all_goals exact ⟨by kernel_rfl, of_decide_eq_true (by kernel_rfl)⟩
  · rw [show Tryz.f5.params.size = 2 by kernel_rfl] at hd
    match ds, hd with
    | [d0, d1], _ => rfl
  · rw [show Tryz.f5.params.toList = [23, 23] by kernel_rfl] at hv hA hz
    obtain ⟨v0, vs1, ds1, ps1, x0, rfl, r0, w0, hv, hA, hz⟩ := zKD zLO (zJA Tryz.underlying23 trivial (fun x : List Term => .sl 42 x) (fun _ => rfl)) hv hA hz
    obtain ⟨v1, vs2, ds2, ps2, x1, rfl, r1, w1, hv, hA, hz⟩ := zKD zLO (zJA Tryz.underlying23 trivial (fun x : List Term => .sl 42 x) (fun _ => rfl)) hv hA hz
    obtain rfl := zP9 hA
    have hp := zDj x0 x1 w0 w1
    have e : zhc [.pure (.sl 42 x0), .pure (.sl 42 x1)] = some ((zc6 x0 x1).1, zhJ (zc6 x0 x1).2) := by kernel_rfl
    rw [hp] at e
    exact ⟨[.pure (.sl 42 x0), .pure (.sl 42 x1)], e, rfl, (All2.imp (.cons (show ziH base (In w) w v0 (.pure (.sl 42 x0)) from r0) (.cons (show ziH base (In w) w v1 (.pure (.sl 42 x1)) from r1) (.nil))) fun _ _ h => ziH.cg (cx := base) (cx' := base0) ⟨rfl, rfl, rfl, rfl, rfl, rfl⟩ h)⟩
theorem zwQ : Rows.AnnotationSimplificationSaid :=
  OpenClaim.holds_of_wide 5 Tryz.f5 rfl rfl rfl rfl rfl rfl rfl ⟨rfl, rfl, rfl, rfl, rfl⟩ rfl rfl rfl rfl rfl (by kernel_rfl) Tryz.func5 (by kernel_rfl)
    (of_decide_eq_true (by kernel_rfl)) (by unfold Func.isWrapper; rw [if_neg (of_decide_eq_false (by kernel_rfl))]; exact ⟨rfl, rfl⟩)
    (fun os started H enc _ => zuI os started H enc)
theorem annotationSimplification_holds : Rows.AnnotationSimplificationCardSaid :=
  Claim7.holds_tied_plain_at .later [] [.data, .data, .data, .data, .pinned] true (true, "cb06c8cb28777d85586a1e43865128d6cf98388139daba7099a51cc0dc58b21d") false
    zwQ (fun _ h => by cases h) (by kernel_rfl) (fun _ h => by cases h) annotationSimplification_row_tie rfl ⟨rfl, rfl⟩ (by kernel_rfl) rfl
    (fun f fn hf hfn => by
      obtain rfl : f = 5 := Option.some.inj ((show Tryz.prog.funcNamed "lineage/lineagelaw05.AnnotationSimplification" = some 5 by kernel_rfl).symm.trans hf) |>.symm
      obtain rfl : fn = Tryz.f5 := (Option.some.inj (Tryz.func5.symm.trans hfn)).symm
      exact ⟨by kernel_rfl, fun j t ht => by
        have ht' : t ∈ Tryz.f5.params.toList := by
          have := Array.mem_of_getElem? ht
          simpa using this
        rw [show Tryz.f5.params.toList = [23, 23] by kernel_rfl] at ht'
        simp only [List.mem_cons, List.not_mem_nil, or_false] at ht'
        rcases ht' with rfl | rfl
        · exact (show Tryz.prog.wantsStandIn 23 = false by kernel_rfl)
        · exact (show Tryz.prog.wantsStandIn 23 = false by kernel_rfl)
        ⟩)
    (by kernel_rfl)
#print axioms annotationSimplification_holds
end Go.Proofs.YtnolcogncjijpaaGreatDoor
