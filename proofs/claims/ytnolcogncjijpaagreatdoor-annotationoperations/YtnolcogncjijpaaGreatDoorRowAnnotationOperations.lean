/- AnnotationOperations: For every input the law returns true, and the input reads afterwards as it read before. -/
import Derived.Test.YtnolcogncjijpaaGreatDoorGC1
import Derived.Test.YtnolcogncjijpaaGreatDoorGC3
import Derived.Test.YtnolcogncjijpaaGreatDoorGC5
import Derived.Test.YtnolcogncjijpaaGreatDoorCards
import Derived.Test.YtnolcogncjijpaaGreatDoorTie
set_option autoImplicit false
set_option maxRecDepth 1000000
set_option linter.unusedVariables false
namespace Go.Proofs.YtnolcogncjijpaaGreatDoor
open Go Go.Ab Go.RowKit Go.ChangeShapes Go.WideShapes
theorem zzb (os : Os) (started : os.Started) (H : Type) (enc : TypeId × _root_.Go.Value → H) :
    ReturnsInHanded {} Tryz.checked os 3 .any (fun w args => (Rows.annotationOperationsSpec.pre enc Tryz.prog Tryz.f3 [] false w args ∧ laidMetH Tryz.prog zxz w) ∧ sizedMet enc Tryz.prog Tryz.f3 (OpenSpec.ofChange Rows.annotationOperationsSpec) false w args) (Rows.annotationOperationsSpec.post enc Tryz.prog Tryz.f3 false true false false) := by
  refine zQW (C := Tryz.checked) (cx := base0) (B := 4) (sp := zix) own started (by kernel_rfl) Tryz.func3
    (ChangeSpec.witness_at (enc := enc) (C := Tryz.checked) (os := os) (X := fun w _ => laidMetH Tryz.prog zxz w) false (zM2 os) #[.slice none 0 0, .slice none 0 0, .int .i64 0, .agg #[.int .i64 0, .int .i64 0]] 8 rfl (by kernel_rfl) (by kernel_rfl) (by kernel_rfl) (by kernel_rfl) (by kernel_rfl) (zNQ os _))
    zTF (fun t ht => ?_) rfl (by kernel_rfl) Tryz.underlying4 (fun ds hd => ?_) zur (fun w hs h => zUh w hs h) (fun w vs ds ps hv hA hz => ?_)
  · rw [show Tryz.f3.params.toList = [23, 23, 2, 25] by kernel_rfl] at ht
    simp only [List.mem_cons, List.not_mem_nil, or_false] at ht
    rcases ht with rfl | rfl | rfl | rfl
    all_goals exact ⟨by kernel_rfl, of_decide_eq_true (by kernel_rfl)⟩
  · rw [show Tryz.f3.params.size = 4 by kernel_rfl] at hd
    match ds, hd with
    | [d0, d1, d2, d3], _ => rfl
  · rw [show Tryz.f3.params.toList = [23, 23, 2, 25] by kernel_rfl] at hv hA hz
    obtain ⟨v0, vs1, ds1, ps1, x0, rfl, r0, w0, hv, hA, hz⟩ := zGa zP6 (zIh Tryz.underlying23 trivial (fun x : List Term => .sl 42 x) (fun _ => rfl)) hv hA hz
    obtain ⟨v1, vs2, ds2, ps2, x1, rfl, r1, w1, hv, hA, hz⟩ := zGa zP6 (zIh Tryz.underlying23 trivial (fun x : List Term => .sl 42 x) (fun _ => rfl)) hv hA hz
    obtain ⟨v2, vs3, ds3, ps3, x2, rfl, r2, w2, hv, hA, hz⟩ := zGa zOO (zIh Tryz.underlying2 trivial (fun x : Int => .lit (.int .i64 x)) (fun _ => rfl)) hv hA hz
    obtain ⟨v3, vs4, ds4, ps4, x3, rfl, r3, w3, hv, hA, hz⟩ := zGa zPV (zPS Tryz.underlying25) hv hA hz
    obtain rfl := zTT hA
    have hp := zKJ x0 x1 x2 x3 w0 w1 w2 w3
    have e : zix [.pure (.sl 42 x0), .pure (.sl 42 x1), .pure (.lit (.int .i64 x2)), .pure (.agg (base.enc 25 x3))] = some ((zdY x0 x1 x2 x3).1, zi9 (zdY x0 x1 x2 x3).2) := by kernel_rfl
    rw [hp] at e
    exact ⟨[.pure (.sl 42 x0), .pure (.sl 42 x1), .pure (.lit (.int .i64 x2)), .pure (.agg (base.enc 25 x3))], e, rfl, (All2.imp (.cons (show zhE base (In w) w v0 (.pure (.sl 42 x0)) from r0) (.cons (show zhE base (In w) w v1 (.pure (.sl 42 x1)) from r1) (.cons (show zhE base (In w) w v2 (.pure (.lit (.int .i64 x2))) from r2) (.cons (show zhE base (In w) w v3 (.pure (.agg (base.enc 25 x3))) from r3) (.nil))))) fun _ _ h => zhE.cg (cx := base) (cx' := base0) ⟨rfl, rfl, rfl, rfl, rfl, rfl⟩ h)⟩
theorem zBQ : Rows.AnnotationOperationsSaid :=
  OpenClaim.holds_of_wide 3 Tryz.f3 rfl rfl rfl rfl rfl rfl rfl ⟨rfl, rfl, rfl, rfl, rfl⟩ rfl rfl rfl rfl rfl (by kernel_rfl) Tryz.func3 (by kernel_rfl)
    (of_decide_eq_true (by kernel_rfl)) (by unfold Func.isWrapper; rw [if_neg (of_decide_eq_false (by kernel_rfl))]; exact ⟨rfl, rfl⟩)
    (fun os started H enc _ => zzb os started H enc)
theorem annotationOperations_holds : Rows.AnnotationOperationsCardSaid :=
  Claim7.holds_tied_plain_at .later [] [.data, .data, .data, .data, .pinned] true (true, "cb06c8cb28777d85586a1e43865128d6cf98388139daba7099a51cc0dc58b21d") false
    zBQ (fun _ h => by cases h) (by kernel_rfl) (fun _ h => by cases h) annotationOperations_row_tie rfl ⟨rfl, rfl⟩ (by kernel_rfl) rfl
    (fun f fn hf hfn => by
      obtain rfl : f = 3 := Option.some.inj ((show Tryz.prog.funcNamed "lineage/lineagelaw05.AnnotationOperations" = some 3 by kernel_rfl).symm.trans hf) |>.symm
      obtain rfl : fn = Tryz.f3 := (Option.some.inj (Tryz.func3.symm.trans hfn)).symm
      exact ⟨by kernel_rfl, fun j t ht => by
        have ht' : t ∈ Tryz.f3.params.toList := by
          have := Array.mem_of_getElem? ht
          simpa using this
        rw [show Tryz.f3.params.toList = [23, 23, 2, 25] by kernel_rfl] at ht'
        simp only [List.mem_cons, List.not_mem_nil, or_false] at ht'
        rcases ht' with rfl | rfl | rfl | rfl
        · exact (show Tryz.prog.wantsStandIn 23 = false by kernel_rfl)
        · exact (show Tryz.prog.wantsStandIn 23 = false by kernel_rfl)
        · exact (show Tryz.prog.wantsStandIn 2 = false by kernel_rfl)
        · exact (show Tryz.prog.wantsStandIn 25 = false by kernel_rfl)
        ⟩)
    (by kernel_rfl)
#print axioms annotationOperations_holds
end Go.Proofs.YtnolcogncjijpaaGreatDoor
