/- AnnotationOrder: For every input the law returns true, and the input reads afterwards as it read before. -/
import Derived.Test.YtnolcogncjijpaaGreatDoorGC1
import Derived.Test.YtnolcogncjijpaaGreatDoorGC3
import Derived.Test.YtnolcogncjijpaaGreatDoorCards
import Derived.Test.YtnolcogncjijpaaGreatDoorTie
set_option autoImplicit false
set_option maxRecDepth 1000000
set_option linter.unusedVariables false
namespace Go.Proofs.YtnolcogncjijpaaGreatDoor
open Go Go.Ab Go.RowKit Go.ChangeShapes Go.WideShapes
theorem annotationOrder_lifted (os : Os) (started : os.Started) (H : Type) (enc : TypeId × _root_.Go.Value → H) :
    ReturnsInHanded {} Tryz.checked os 7 .any (fun w args => (Rows.annotationOrderSpec.pre enc Tryz.prog Tryz.f7 [] false w args ∧ laidMetH Tryz.prog laidAll w) ∧ sizedMet enc Tryz.prog Tryz.f7 (OpenSpec.ofChange Rows.annotationOrderSpec) false w args) (Rows.annotationOrderSpec.post enc Tryz.prog Tryz.f7 false true false false) := by
  refine law_lifted (C := Tryz.checked) (cx := base0) (B := 4) (sp := law05_AnnotationOrder_spec) own started (by kernel_rfl) Tryz.func7
    (ChangeSpec.witness_at (enc := enc) (C := Tryz.checked) (os := os) (X := fun w _ => laidMetH Tryz.prog laidAll w) false (laidWorld os) #[.slice none 0 0, .slice none 0 0, .slice none 0 0] 8 rfl (by kernel_rfl) (by kernel_rfl) (by kernel_rfl) (by kernel_rfl) (by kernel_rfl) (laidWorld_met os _))
    laidOut (fun t ht => ?_) rfl (by kernel_rfl) Tryz.underlying4 (fun ds hd => ?_) law05_AnnotationOrder_sound (fun w hs h => invMet w hs h) (fun w vs ds ps hv hA hz => ?_)
  · rw [show Tryz.f7.params.toList = [23, 23, 23] by kernel_rfl] at ht
    simp only [List.mem_cons, List.not_mem_nil, or_false] at ht
    rcases ht with rfl | rfl | rfl
    all_goals exact ⟨by kernel_rfl, of_decide_eq_true (by kernel_rfl)⟩
  · rw [show Tryz.f7.params.size = 3 by kernel_rfl] at hd
    match ds, hd with
    | [d0, d1, d2], _ => rfl
  · rw [show Tryz.f7.params.toList = [23, 23, 23] by kernel_rfl] at hv hA hz
    obtain ⟨v0, vs1, ds1, ps1, x0, rfl, r0, w0, hv, hA, hz⟩ := arg_next reads23 (argR_cell Tryz.underlying23 trivial (fun x : List Term => .sl 42 x) (fun _ => rfl)) hv hA hz
    obtain ⟨v1, vs2, ds2, ps2, x1, rfl, r1, w1, hv, hA, hz⟩ := arg_next reads23 (argR_cell Tryz.underlying23 trivial (fun x : List Term => .sl 42 x) (fun _ => rfl)) hv hA hz
    obtain ⟨v2, vs3, ds3, ps3, x2, rfl, r2, w2, hv, hA, hz⟩ := arg_next reads23 (argR_cell Tryz.underlying23 trivial (fun x : List Term => .sl 42 x) (fun _ => rfl)) hv hA hz
    obtain rfl := arg_end hA
    have hp := order_plain x0 x1 x2 w0 w1 w2
    have e : law05_AnnotationOrder_spec [.pure (.sl 42 x0), .pure (.sl 42 x1), .pure (.sl 42 x2)] = some ((law05_AnnotationOrder x0 x1 x2).1, law05_AnnotationOrder_res (law05_AnnotationOrder x0 x1 x2).2) := by kernel_rfl
    rw [hp] at e
    exact ⟨[.pure (.sl 42 x0), .pure (.sl 42 x1), .pure (.sl 42 x2)], e, rfl, (All2.imp (.cons (show ArgOK base (In w) w v0 (.pure (.sl 42 x0)) from r0) (.cons (show ArgOK base (In w) w v1 (.pure (.sl 42 x1)) from r1) (.cons (show ArgOK base (In w) w v2 (.pure (.sl 42 x2)) from r2) (.nil)))) fun _ _ h => ArgOK.cg (cx := base) (cx' := base0) ⟨rfl, rfl, rfl, rfl, rfl, rfl⟩ h)⟩
theorem annotationOrder_row : Rows.AnnotationOrderSaid :=
  OpenClaim.holds_of_wide 7 Tryz.f7 rfl rfl rfl rfl rfl rfl rfl ⟨rfl, rfl, rfl, rfl, rfl⟩ rfl rfl rfl rfl rfl (by kernel_rfl) Tryz.func7 (by kernel_rfl)
    (of_decide_eq_true (by kernel_rfl)) (by unfold Func.isWrapper; rw [if_neg (of_decide_eq_false (by kernel_rfl))]; exact ⟨rfl, rfl⟩)
    (fun os started H enc _ => annotationOrder_lifted os started H enc)
theorem annotationOrder_holds : Rows.AnnotationOrderCardSaid :=
  Claim7.holds_tied_plain_at .later [] [.data, .data, .data, .data, .pinned] true (true, "cb06c8cb28777d85586a1e43865128d6cf98388139daba7099a51cc0dc58b21d") false
    annotationOrder_row (fun _ h => by cases h) (by kernel_rfl) (fun _ h => by cases h) annotationOrder_row_tie rfl ⟨rfl, rfl⟩ (by kernel_rfl) rfl
    (fun f fn hf hfn => by
      obtain rfl : f = 7 := Option.some.inj ((show Tryz.prog.funcNamed "lineage/lineagelaw05.AnnotationOrder" = some 7 by kernel_rfl).symm.trans hf) |>.symm
      obtain rfl : fn = Tryz.f7 := (Option.some.inj (Tryz.func7.symm.trans hfn)).symm
      exact ⟨by kernel_rfl, fun j t ht => by
        have ht' : t ∈ Tryz.f7.params.toList := by
          have := Array.mem_of_getElem? ht
          simpa using this
        rw [show Tryz.f7.params.toList = [23, 23, 23] by kernel_rfl] at ht'
        simp only [List.mem_cons, List.not_mem_nil, or_false] at ht'
        rcases ht' with rfl | rfl | rfl
        · exact (show Tryz.prog.wantsStandIn 23 = false by kernel_rfl)
        · exact (show Tryz.prog.wantsStandIn 23 = false by kernel_rfl)
        · exact (show Tryz.prog.wantsStandIn 23 = false by kernel_rfl)
        ⟩)
    (by kernel_rfl)
#print axioms annotationOrder_holds
end Go.Proofs.YtnolcogncjijpaaGreatDoor
