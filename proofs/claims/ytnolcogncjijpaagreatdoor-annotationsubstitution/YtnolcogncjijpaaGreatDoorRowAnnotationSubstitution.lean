/- AnnotationSubstitution: For every input the law returns true, and the input reads afterwards as it read before. -/
import Derived.Test.YtnolcogncjijpaaGreatDoorGC1
import Derived.Test.YtnolcogncjijpaaGreatDoorGC6
import Derived.Test.YtnolcogncjijpaaGreatDoorGC9
import Derived.Test.YtnolcogncjijpaaGreatDoorCards
import Derived.Test.YtnolcogncjijpaaGreatDoorTie
set_option autoImplicit false
set_option maxRecDepth 1000000
set_option linter.unusedVariables false
namespace Go.Proofs.YtnolcogncjijpaaGreatDoor
open Go Go.Ab Go.RowKit Go.ChangeShapes Go.WideShapes
theorem zyi (os : Os) (started : os.Started) (H : Type) (enc : TypeId × _root_.Go.Value → H) :
    ReturnsInHanded {} Tryz.checked os 8 .any (fun w args => (Rows.annotationSubstitutionSpec.pre enc Tryz.prog Tryz.f8 [] false w args ∧ laidMetH Tryz.prog zzR w) ∧ sizedMet enc Tryz.prog Tryz.f8 (OpenSpec.ofChange Rows.annotationSubstitutionSpec) false w args) (Rows.annotationSubstitutionSpec.post enc Tryz.prog Tryz.f8 false true false false) := by
  refine zU1 (C := Tryz.checked) (cx := base0) (B := 4) (sp := zig) own started (by kernel_rfl) Tryz.func8
    (ChangeSpec.witness_at (enc := enc) (C := Tryz.checked) (os := os) (X := fun w _ => laidMetH Tryz.prog zzR w) false (zRe os) #[.slice none 0 0, .slice none 0 0] 8 rfl (by kernel_rfl) (by kernel_rfl) (by kernel_rfl) (by kernel_rfl) (by kernel_rfl) (zRN os _))
    zYr (fun t ht => ?_) rfl (by kernel_rfl) Tryz.underlying4 (fun ds hd => ?_) zuy (fun w hs h => zZb w hs h) (fun w vs ds ps hv hA hz => ?_)
  · rw [show Tryz.f8.params.toList = [23, 59] by kernel_rfl] at ht
    simp only [List.mem_cons, List.not_mem_nil, or_false] at ht
    rcases ht with rfl | rfl
    all_goals exact ⟨by kernel_rfl, of_decide_eq_true (by kernel_rfl)⟩
  · rw [show Tryz.f8.params.size = 2 by kernel_rfl] at hd
    match ds, hd with
    | [d0, d1], _ => rfl
  · rw [show Tryz.f8.params.toList = [23, 59] by kernel_rfl] at hv hA hz
    obtain ⟨v0, vs1, ds1, ps1, x0, rfl, r0, w0, hv, hA, hz⟩ := zTd zUF (zRf Tryz.underlying23 trivial (fun x : List Term => .sl 42 x) (fun _ => rfl)) hv hA hz
    obtain ⟨v1, vs2, ds2, ps2, x1, rfl, r1, w1, hv, hA, hz⟩ := zTd zYi (zRf Tryz.underlying59 trivial (fun x : List Binding => .sl 69 x) (fun _ => rfl)) hv hA hz
    obtain rfl := zX0 hA
    have hp := zLo x0 x1 w0 w1
    have e : zig [.pure (.sl 42 x0), .pure (.sl 69 x1)] = some ((zdN x0 x1).1, zix (zdN x0 x1).2) := by kernel_rfl
    rw [hp] at e
    exact ⟨[.pure (.sl 42 x0), .pure (.sl 69 x1)], e, rfl, (All2.imp (.cons (show ziX base (In w) w v0 (.pure (.sl 42 x0)) from r0) (.cons (show ziX base (In w) w v1 (.pure (.sl 69 x1)) from r1) (.nil))) fun _ _ h => ziX.cg (cx := base) (cx' := base0) ⟨rfl, rfl, rfl, rfl, rfl, rfl⟩ h)⟩
theorem zBC : Rows.AnnotationSubstitutionSaid :=
  OpenClaim.holds_of_wide 8 Tryz.f8 rfl rfl rfl rfl rfl rfl rfl ⟨rfl, rfl, rfl, rfl, rfl⟩ rfl rfl rfl rfl rfl (by kernel_rfl) Tryz.func8 (by kernel_rfl)
    (of_decide_eq_true (by kernel_rfl)) (by unfold Func.isWrapper; rw [if_neg (of_decide_eq_false (by kernel_rfl))]; exact ⟨rfl, rfl⟩)
    (fun os started H enc _ => zyi os started H enc)
theorem annotationSubstitution_holds : Rows.AnnotationSubstitutionCardSaid :=
  Claim7.holds_tied_plain_at .later [] [.data, .data, .data, .data, .pinned] true (true, "cb06c8cb28777d85586a1e43865128d6cf98388139daba7099a51cc0dc58b21d") false
    zBC (fun _ h => by cases h) (by kernel_rfl) (fun _ h => by cases h) annotationSubstitution_row_tie rfl ⟨rfl, rfl⟩ (by kernel_rfl) rfl
    (fun f fn hf hfn => by
      obtain rfl : f = 8 := Option.some.inj ((show Tryz.prog.funcNamed "lineage/lineagelaw05.AnnotationSubstitution" = some 8 by kernel_rfl).symm.trans hf) |>.symm
      obtain rfl : fn = Tryz.f8 := (Option.some.inj (Tryz.func8.symm.trans hfn)).symm
      exact ⟨by kernel_rfl, fun j t ht => by
        have ht' : t ∈ Tryz.f8.params.toList := by
          have := Array.mem_of_getElem? ht
          simpa using this
        rw [show Tryz.f8.params.toList = [23, 59] by kernel_rfl] at ht'
        simp only [List.mem_cons, List.not_mem_nil, or_false] at ht'
        rcases ht' with rfl | rfl
        · exact (show Tryz.prog.wantsStandIn 23 = false by kernel_rfl)
        · exact (show Tryz.prog.wantsStandIn 59 = false by kernel_rfl)
        ⟩)
    (by kernel_rfl)
#print axioms annotationSubstitution_holds
end Go.Proofs.YtnolcogncjijpaaGreatDoor
