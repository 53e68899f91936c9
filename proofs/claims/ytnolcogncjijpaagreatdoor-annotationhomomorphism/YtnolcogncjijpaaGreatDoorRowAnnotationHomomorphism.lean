/- AnnotationHomomorphism: For every input the law returns true, and the input reads afterwards as it read before. -/
import Derived.Test.YtnolcogncjijpaaGreatDoorGC1
import Derived.Test.YtnolcogncjijpaaGreatDoorGC4
import Derived.Test.YtnolcogncjijpaaGreatDoorGC10
import Derived.Test.YtnolcogncjijpaaGreatDoorCards
import Derived.Test.YtnolcogncjijpaaGreatDoorTie
set_option autoImplicit false
set_option maxRecDepth 1000000
set_option linter.unusedVariables false
namespace Go.Proofs.YtnolcogncjijpaaGreatDoor
open Go Go.Ab Go.RowKit Go.ChangeShapes Go.WideShapes
theorem zwY (os : Os) (started : os.Started) (H : Type) (enc : TypeId × _root_.Go.Value → H) :
    ReturnsInHanded {} Tryz.checked os 9 .any (fun w args => (Rows.annotationHomomorphismSpec.pre enc Tryz.prog Tryz.f9 [] false w args ∧ laidMetH Tryz.prog zx7 w) ∧ sizedMet enc Tryz.prog Tryz.f9 (OpenSpec.ofChange Rows.annotationHomomorphismSpec) false w args) (Rows.annotationHomomorphismSpec.post enc Tryz.prog Tryz.f9 false true false false) := by
  refine zRn (C := Tryz.checked) (cx := base0) (B := 4) (sp := zin) own started (by kernel_rfl) Tryz.func9
    (ChangeSpec.witness_at (enc := enc) (C := Tryz.checked) (os := os) (X := fun w _ => laidMetH Tryz.prog zx7 w) false (zMP os) #[.slice none 0 0, .slice none 0 0, .slice none 0 0, .int .u8 0] 8 rfl (by kernel_rfl) (by kernel_rfl) (by kernel_rfl) (by kernel_rfl) (by kernel_rfl) (zNp os _))
    zT2 (fun t ht => ?_) rfl (by kernel_rfl) Tryz.underlying4 (fun ds hd => ?_) ztS (fun w hs h => zVt w hs h) (fun w vs ds ps hv hA hz => ?_)
  · rw [show Tryz.f9.params.toList = [23, 23, 59, 5] by kernel_rfl] at ht
    simp only [List.mem_cons, List.not_mem_nil, or_false] at ht
    rcases ht with rfl | rfl | rfl | rfl
    all_goals exact ⟨by kernel_rfl, of_decide_eq_true (by kernel_rfl)⟩
  · rw [show Tryz.f9.params.size = 4 by kernel_rfl] at hd
    match ds, hd with
    | [d0, d1, d2, d3], _ => rfl
  · rw [show Tryz.f9.params.toList = [23, 23, 59, 5] by kernel_rfl] at hv hA hz
    obtain ⟨v0, vs1, ds1, ps1, x0, rfl, r0, w0, hv, hA, hz⟩ := zFw zLR (zDn Tryz.underlying23 trivial (fun x : List Term => .sl 42 x) (fun _ => rfl)) hv hA hz
    obtain ⟨v1, vs2, ds2, ps2, x1, rfl, r1, w1, hv, hA, hz⟩ := zFw zLR (zDn Tryz.underlying23 trivial (fun x : List Term => .sl 42 x) (fun _ => rfl)) hv hA hz
    obtain ⟨v2, vs3, ds3, ps3, x2, rfl, r2, w2, hv, hA, hz⟩ := zFw zUy (zDn Tryz.underlying59 trivial (fun x : List Binding => .sl 69 x) (fun _ => rfl)) hv hA hz
    obtain ⟨v3, vs4, ds4, ps4, x3, rfl, r3, w3, hv, hA, hz⟩ := zFw zVj (zDn Tryz.underlying5 trivial (fun x : Int => .lit (.int .u8 x)) (fun _ => rfl)) hv hA hz
    obtain rfl := zUt hA
    have hp := zIk x0 x1 x2 x3 w0 w1 w2 w3
    have e : zin [.pure (.sl 42 x0), .pure (.sl 42 x1), .pure (.sl 69 x2), .pure (.lit (.int .u8 x3))] = some ((zdV x0 x1 x2 x3).1, ziE (zdV x0 x1 x2 x3).2) := by kernel_rfl
    rw [hp] at e
    exact ⟨[.pure (.sl 42 x0), .pure (.sl 42 x1), .pure (.sl 69 x2), .pure (.lit (.int .u8 x3))], e, rfl, (All2.imp (.cons (show zh7 base (In w) w v0 (.pure (.sl 42 x0)) from r0) (.cons (show zh7 base (In w) w v1 (.pure (.sl 42 x1)) from r1) (.cons (show zh7 base (In w) w v2 (.pure (.sl 69 x2)) from r2) (.cons (show zh7 base (In w) w v3 (.pure (.lit (.int .u8 x3))) from r3) (.nil))))) fun _ _ h => zh7.cg (cx := base) (cx' := base0) ⟨rfl, rfl, rfl, rfl, rfl, rfl⟩ h)⟩
theorem zzE : Rows.AnnotationHomomorphismSaid :=
  OpenClaim.holds_of_wide 9 Tryz.f9 rfl rfl rfl rfl rfl rfl rfl ⟨rfl, rfl, rfl, rfl, rfl⟩ rfl rfl rfl rfl rfl (by kernel_rfl) Tryz.func9 (by kernel_rfl)
    (of_decide_eq_true (by kernel_rfl)) (by unfold Func.isWrapper; rw [if_neg (of_decide_eq_false (by kernel_rfl))]; exact ⟨rfl, rfl⟩)
    (fun os started H enc _ => zwY os started H enc)
theorem annotationHomomorphism_holds : Rows.AnnotationHomomorphismCardSaid :=
  Claim7.holds_tied_plain_at .later [] [.data, .data, .data, .data, .pinned] true (true, "cb06c8cb28777d85586a1e43865128d6cf98388139daba7099a51cc0dc58b21d") false
    zzE (fun _ h => by cases h) (by kernel_rfl) (fun _ h => by cases h) annotationHomomorphism_row_tie rfl ⟨rfl, rfl⟩ (by kernel_rfl) rfl
    (fun f fn hf hfn => by
      obtain rfl : f = 9 := Option.some.inj ((show Tryz.prog.funcNamed "lineage/lineagelaw05.AnnotationHomomorphism" = some 9 by kernel_rfl).symm.trans hf) |>.symm
      obtain rfl : fn = Tryz.f9 := (Option.some.inj (Tryz.func9.symm.trans hfn)).symm
      exact ⟨by kernel_rfl, fun j t ht => by
        have ht' : t ∈ Tryz.f9.params.toList := by
          have := Array.mem_of_getElem? ht
          simpa using this
        rw [show Tryz.f9.params.toList = [23, 23, 59, 5] by kernel_rfl] at ht'
        simp only [List.mem_cons, List.not_mem_nil, or_false] at ht'
        rcases ht' with rfl | rfl | rfl | rfl
        · exact (show Tryz.prog.wantsStandIn 23 = false by kernel_rfl)
        · exact (show Tryz.prog.wantsStandIn 23 = false by kernel_rfl)
        · exact (show Tryz.prog.wantsStandIn 59 = false by kernel_rfl)
        · exact (show Tryz.prog.wantsStandIn 5 = false by kernel_rfl)
        ⟩)
    (by kernel_rfl)
#print axioms annotationHomomorphism_holds
end Go.Proofs.YtnolcogncjijpaaGreatDoor
