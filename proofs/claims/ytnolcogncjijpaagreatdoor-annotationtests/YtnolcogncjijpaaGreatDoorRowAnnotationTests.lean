/- AnnotationTests: For every input the law returns true, and the input reads afterwards as it read before. -/
import Derived.Test.YtnolcogncjijpaaGreatDoorGC1
import Derived.Test.YtnolcogncjijpaaGreatDoorGC3
import Derived.Test.YtnolcogncjijpaaGreatDoorGC4
import Derived.Test.YtnolcogncjijpaaGreatDoorCards
import Derived.Test.YtnolcogncjijpaaGreatDoorTie
set_option autoImplicit false
set_option maxRecDepth 1000000
set_option linter.unusedVariables false
namespace Go.Proofs.YtnolcogncjijpaaGreatDoor
open Go Go.Ab Go.RowKit Go.ChangeShapes Go.WideShapes
theorem zbg8 (os : Os) (started : os.Started) (H : Type) (enc : TypeId × _root_.Go.Value → H) :
    ReturnsInHanded {} Tryz.checked os 6 .any (fun w args => (Rows.annotationTestsSpec.pre enc Tryz.prog Tryz.f6 [] false w args ∧ laidMetH Tryz.prog laidAll w) ∧ sizedMet enc Tryz.prog Tryz.f6 (OpenSpec.ofChange Rows.annotationTestsSpec) false w args) (Rows.annotationTestsSpec.post enc Tryz.prog Tryz.f6 false true false false) := by
  refine law_lifted (C := Tryz.checked) (cx := base0) (B := 4) (sp := zpx) own started (by kernel_rfl) Tryz.func6
    (ChangeSpec.witness_at (enc := enc) (C := Tryz.checked) (os := os) (X := fun w _ => laidMetH Tryz.prog laidAll w) false (zbp0 os) #[.int .i64 0, .slice none 0 0, .int .i64 0, .agg #[.int .i64 0, .int .i64 0, .string ⟨#[]⟩]] 8 rfl (by kernel_rfl) (by kernel_rfl) (by kernel_rfl) (by kernel_rfl) (by kernel_rfl) (zbp4 os _))
    laidOut (fun t ht => ?_) rfl (by kernel_rfl) Tryz.underlying4 (fun ds hd => ?_) z8u (fun w hs h => invMet w hs h) (fun w vs ds ps hv hA hz => ?_)
  · rw [show Tryz.f6.params.toList = [3, 44, 3, 46] by kernel_rfl] at ht
    simp only [List.mem_cons, List.not_mem_nil, or_false] at ht
    rcases ht with rfl | rfl | rfl | rfl
    all_goals exact ⟨by kernel_rfl, of_decide_eq_true (by kernel_rfl)⟩
  · rw [show Tryz.f6.params.size = 4 by kernel_rfl] at hd
    match ds, hd with
    | [d0, d1, d2, d3], _ => rfl
  · rw [show Tryz.f6.params.toList = [3, 44, 3, 46] by kernel_rfl] at hv hA hz
    obtain ⟨v0, vs1, ds1, ps1, x0, rfl, r0, w0, hv, hA, hz⟩ := arg_next reads3 (argR_cell Tryz.underlying3 trivial (fun x : Int => .lit (.int .i64 x)) (fun _ => rfl)) hv hA hz
    obtain ⟨v1, vs2, ds2, ps2, x1, rfl, r1, w1, hv, hA, hz⟩ := arg_next reads44 (argR_cell Tryz.underlying44 trivial (fun x : List Weighted => .sl 52 x) (fun _ => rfl)) hv hA hz
    obtain ⟨v2, vs3, ds3, ps3, x2, rfl, r2, w2, hv, hA, hz⟩ := arg_next reads3 (argR_cell Tryz.underlying3 trivial (fun x : Int => .lit (.int .i64 x)) (fun _ => rfl)) hv hA hz
    obtain ⟨v3, vs4, ds4, ps4, x3, rfl, r3, w3, hv, hA, hz⟩ := arg_next reads46 (argR_struct Tryz.underlying46) hv hA hz
    obtain rfl := arg_end hA
    have hp := zbq9 x0 x1 x2 x3 w0 w1 w2 w3
    have e : zpx [.pure (.lit (.int .i64 x0)), .pure (.sl 52 x1), .pure (.lit (.int .i64 x2)), .pure (.agg (base.enc 46 x3))] = some ((zh0 x0 x1 x2 x3).1, zqr (zh0 x0 x1 x2 x3).2) := by kernel_rfl
    rw [hp] at e
    exact ⟨[.pure (.lit (.int .i64 x0)), .pure (.sl 52 x1), .pure (.lit (.int .i64 x2)), .pure (.agg (base.enc 46 x3))], e, rfl, (All2.imp (.cons (show ArgOK base (In w) w v0 (.pure (.lit (.int .i64 x0))) from r0) (.cons (show ArgOK base (In w) w v1 (.pure (.sl 52 x1)) from r1) (.cons (show ArgOK base (In w) w v2 (.pure (.lit (.int .i64 x2))) from r2) (.cons (show ArgOK base (In w) w v3 (.pure (.agg (base.enc 46 x3))) from r3) (.nil))))) fun _ _ h => ArgOK.cg (cx := base) (cx' := base0) ⟨rfl, rfl, rfl, rfl, rfl, rfl⟩ h)⟩
theorem zbky : Rows.AnnotationTestsSaid :=
  OpenClaim.holds_of_wide 6 Tryz.f6 rfl rfl rfl rfl rfl rfl rfl ⟨rfl, rfl, rfl, rfl, rfl⟩ rfl rfl rfl rfl rfl (by kernel_rfl) Tryz.func6 (by kernel_rfl)
    (of_decide_eq_true (by kernel_rfl)) (by unfold Func.isWrapper; rw [if_neg (of_decide_eq_false (by kernel_rfl))]; exact ⟨rfl, rfl⟩)
    (fun os started H enc _ => zbg8 os started H enc)
theorem annotationTests_holds : Rows.AnnotationTestsCardSaid :=
  Claim7.holds_tied_plain_at .later [] [.data, .data, .data, .data, .pinned] true (true, "cb06c8cb28777d85586a1e43865128d6cf98388139daba7099a51cc0dc58b21d") false
    zbky (fun _ h => by cases h) (by kernel_rfl) (fun _ h => by cases h) annotationTests_row_tie rfl ⟨rfl, rfl⟩ (by kernel_rfl) rfl
    (fun f fn hf hfn => by
      obtain rfl : f = 6 := Option.some.inj ((show Tryz.prog.funcNamed "lineage/lineagelaw05.AnnotationTests" = some 6 by kernel_rfl).symm.trans hf) |>.symm
      obtain rfl : fn = Tryz.f6 := (Option.some.inj (Tryz.func6.symm.trans hfn)).symm
      exact ⟨by kernel_rfl, fun j t ht => by
        have ht' : t ∈ Tryz.f6.params.toList := by
          have := Array.mem_of_getElem? ht
          simpa using this
        rw [show Tryz.f6.params.toList = [3, 44, 3, 46] by kernel_rfl] at ht'
        simp only [List.mem_cons, List.not_mem_nil, or_false] at ht'
        rcases ht' with rfl | rfl | rfl | rfl
        · exact (show Tryz.prog.wantsStandIn 3 = false by kernel_rfl)
        · exact (show Tryz.prog.wantsStandIn 44 = false by kernel_rfl)
        · exact (show Tryz.prog.wantsStandIn 3 = false by kernel_rfl)
        · exact (show Tryz.prog.wantsStandIn 46 = false by kernel_rfl)
        ⟩)
    (by kernel_rfl)
#print axioms annotationTests_holds
end Go.Proofs.YtnolcogncjijpaaGreatDoor
