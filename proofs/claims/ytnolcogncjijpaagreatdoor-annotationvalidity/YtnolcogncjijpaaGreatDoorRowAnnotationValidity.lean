/- AnnotationValidity: For every input the law returns true, and the input reads afterwards as it read before. -/
import Derived.Test.YtnolcogncjijpaaGreatDoorGS1
import Derived.Test.YtnolcogncjijpaaGreatDoorGC5
import Derived.Test.YtnolcogncjijpaaGreatDoorGC9
import Derived.Test.YtnolcogncjijpaaGreatDoorCards
import Derived.Test.YtnolcogncjijpaaGreatDoorTie
set_option autoImplicit false
set_option maxRecDepth 1000000
set_option linter.unusedVariables false
namespace Go.Proofs.YtnolcogncjijpaaGreatDoor
open Go Go.Ab Go.RowKit Go.ChangeShapes Go.WideShapes
theorem zB4 (os : Os) (started : os.Started) (H : Type) (enc : TypeId × _root_.Go.Value → H) :
    ReturnsInHanded {} Tryz.checked os 10 .any (fun w args => (Rows.annotationValiditySpec.pre enc Tryz.prog Tryz.f10 [] false w args ∧ laidMetH Tryz.prog zys w) ∧ sizedMet enc Tryz.prog Tryz.f10 (OpenSpec.ofChange Rows.annotationValiditySpec) false w args) (Rows.annotationValiditySpec.post enc Tryz.prog Tryz.f10 false true false false) := by
  refine zWh (C := Tryz.checked) (cx := zbK) (B := 4) (sp := zji) own started (by kernel_rfl) Tryz.func10
    (ChangeSpec.witness_at (enc := enc) (C := Tryz.checked) (os := os) (X := fun w _ => laidMetH Tryz.prog zys w) false (zSP os) #[.slice none 0 0] 8 rfl (by kernel_rfl) (by kernel_rfl) (by kernel_rfl) (by kernel_rfl) (by kernel_rfl) (zTb os _))
    zZG (fun t ht => ?_) rfl (by kernel_rfl) Tryz.underlying4 (fun ds hd => ?_) zw9 (fun w hs h => z0r w hs h) (fun w vs ds ps hv hA hz => ?_)
  · rw [show Tryz.f10.params.toList = [23] by kernel_rfl] at ht
    simp only [List.mem_cons, List.not_mem_nil, or_false] at ht
    rcases ht with rfl
    all_goals exact ⟨by kernel_rfl, of_decide_eq_true (by kernel_rfl)⟩
  · rw [show Tryz.f10.params.size = 1 by kernel_rfl] at hd
    match ds, hd with
    | [d0], _ => rfl
  · rw [show Tryz.f10.params.toList = [23] by kernel_rfl] at hv hA hz
    obtain ⟨v0, vs1, ds1, ps1, x0, rfl, r0, w0, hv, hA, hz⟩ := zYC z0a (zXw Tryz.underlying23 trivial (fun x : List Term => .sl 42 x) (fun _ => rfl)) hv hA hz
    obtain rfl := zZE hA
    have hp := zRF x0 w0
    have e : zji [.pure (.sl 42 x0)] = some ((zey x0).1, (⟨[.pure (.lit (.bool (zey x0).2))], []⟩ : ARes ty)) := by kernel_rfl
    rw [hp] at e
    exact ⟨[.pure (.sl 42 x0)], e, rfl, (All2.imp (.cons (show zim base (In w) w v0 (.pure (.sl 42 x0)) from r0) (.nil)) fun _ _ h => zim.cg (cx := base) (cx' := zbK) ⟨rfl, rfl, rfl, rfl, rfl, rfl⟩ h)⟩
theorem zFr : Rows.AnnotationValiditySaid :=
  OpenClaim.holds_of_wide 10 Tryz.f10 rfl rfl rfl rfl rfl rfl rfl ⟨rfl, rfl, rfl, rfl, rfl⟩ rfl rfl rfl rfl rfl (by kernel_rfl) Tryz.func10 (by kernel_rfl)
    (of_decide_eq_true (by kernel_rfl)) (by unfold Func.isWrapper; rw [if_neg (of_decide_eq_false (by kernel_rfl))]; exact ⟨rfl, rfl⟩)
    (fun os started H enc _ => zB4 os started H enc)
theorem annotationValidity_holds : Rows.AnnotationValidityCardSaid :=
  Claim7.holds_tied_plain_at .later [] [.data, .data, .data, .data, .pinned] true (true, "cb06c8cb28777d85586a1e43865128d6cf98388139daba7099a51cc0dc58b21d") false
    zFr (fun _ h => by cases h) (by kernel_rfl) (fun _ h => by cases h) annotationValidity_row_tie rfl ⟨rfl, rfl⟩ (by kernel_rfl) rfl
    (fun f fn hf hfn => by
      obtain rfl : f = 10 := Option.some.inj ((show Tryz.prog.funcNamed "lineage/lineagelaw05.AnnotationValidity" = some 10 by kernel_rfl).symm.trans hf) |>.symm
      obtain rfl : fn = Tryz.f10 := (Option.some.inj (Tryz.func10.symm.trans hfn)).symm
      exact ⟨by kernel_rfl, fun j t ht => by
        have ht' : t ∈ Tryz.f10.params.toList := by
          have := Array.mem_of_getElem? ht
          simpa using this
        rw [show Tryz.f10.params.toList = [23] by kernel_rfl] at ht'
        simp only [List.mem_cons, List.not_mem_nil, or_false] at ht'
        rcases ht' with rfl
        · exact (show Tryz.prog.wantsStandIn 23 = false by kernel_rfl)
        ⟩)
    (by kernel_rfl)
#print axioms annotationValidity_holds
end Go.Proofs.YtnolcogncjijpaaGreatDoor
