/- RowsetRoundTrip: For every input the law returns true, and the input reads afterwards as it read before. -/
import Derived.Test.YteopikhooiallaaGreatDoorGC1
import Derived.Test.YteopikhooiallaaGreatDoorGC2
import Derived.Test.YteopikhooiallaaGreatDoorCards
import Derived.Test.YteopikhooiallaaGreatDoorTie
set_option autoImplicit false
set_option maxRecDepth 1000000
set_option linter.unusedVariables false
namespace Go.Proofs.YteopikhooiallaaGreatDoor
open Go Go.Ab Go.RowKit Go.ChangeShapes Go.WideShapes
theorem rowsetRoundTrip_lifted (os : Os) (started : os.Started) (H : Type) (enc : TypeId × Value → H) :
    ReturnsInHanded {} Tryz.checked os 5 .any (fun w args => (Rows.rowsetRoundTripSpec.pre enc Tryz.prog Tryz.f5 [] false w args ∧ laidMetH Tryz.prog laidAll w) ∧ sizedMet enc Tryz.prog Tryz.f5 (OpenSpec.ofChange Rows.rowsetRoundTripSpec) false w args) (Rows.rowsetRoundTripSpec.post enc Tryz.prog Tryz.f5 false true false false) := by
  refine law_lifted (C := Tryz.checked) (cx := base0) (B := 4) (sp := law02_RowsetRoundTrip_spec) own started (by kernel_rfl) Tryz.func5
    (ChangeSpec.witness_at (enc := enc) (C := Tryz.checked) (os := os) (X := fun w _ => laidMetH Tryz.prog laidAll w) false (laidWorld os) #[.agg #[.int .i64 0, .int .i64 0], .string ⟨#[]⟩] 8 rfl (by kernel_rfl) (by kernel_rfl) (by kernel_rfl) (by kernel_rfl) (by kernel_rfl) (laidWorld_met os _))
    laidOut (fun t ht => ?_) rfl (by kernel_rfl) Tryz.underlying4 (fun ds hd => ?_) law02_RowsetRoundTrip_sound (fun w hs h => invMet w hs h) (fun w vs ds ps hv hA => ?_)
  · rw [show Tryz.f5.params.toList = [30, 9] by kernel_rfl] at ht
    simp only [List.mem_cons, List.not_mem_nil, or_false] at ht
    rcases ht with rfl | rfl
    all_goals exact ⟨by kernel_rfl, of_decide_eq_true (by kernel_rfl)⟩
  · rw [show Tryz.f5.params.size = 2 by kernel_rfl] at hd
    match ds, hd with
    | [d0, d1], _ => rfl
  · rw [show Tryz.f5.params.toList = [30, 9] by kernel_rfl] at hv hA
    obtain ⟨v0, vs1, ds1, ps1, x0, rfl, r0, w0, hv, hA⟩ := arg_next reads30 (argR_struct Tryz.underlying30) hv hA
    obtain ⟨v1, vs2, ds2, ps2, x1, rfl, r1, w1, hv, hA⟩ := arg_next reads9 (argR_cell Tryz.underlying9 trivial (fun x : ByteArray => .lit (.string x)) (fun _ => rfl)) hv hA
    obtain rfl := arg_end hA
    have hp := roundtrip_plain x0 x1 w0 w1
    have e : law02_RowsetRoundTrip_spec [.pure (.agg (base.enc 30 x0)), .pure (.lit (.string x1))] = some ((law02_RowsetRoundTrip x0 x1).1, law02_RowsetRoundTrip_res (law02_RowsetRoundTrip x0 x1).2) := by kernel_rfl
    rw [hp] at e
    exact ⟨[.pure (.agg (base.enc 30 x0)), .pure (.lit (.string x1))], e, rfl, (All2.imp (.cons (show ArgOK base (In w) w v0 (.pure (.agg (base.enc 30 x0))) from r0) (.cons (show ArgOK base (In w) w v1 (.pure (.lit (.string x1))) from r1) (.nil))) fun _ _ h => ArgOK.cg (cx := base) (cx' := base0) ⟨rfl, rfl, rfl, rfl, rfl, rfl⟩ h)⟩
theorem rowsetRoundTrip_row : Rows.RowsetRoundTripSaid :=
  OpenClaim.holds_of_wide 5 Tryz.f5 rfl rfl rfl rfl rfl rfl rfl ⟨rfl, rfl, rfl, rfl, rfl⟩ rfl rfl rfl rfl rfl (by kernel_rfl) Tryz.func5 (by kernel_rfl)
    (of_decide_eq_true (by kernel_rfl)) (by unfold Func.isWrapper; rw [if_neg (of_decide_eq_false (by kernel_rfl))]; exact ⟨rfl, rfl⟩)
    (fun os started H enc _ => rowsetRoundTrip_lifted os started H enc)
theorem rowsetRoundTrip_holds : Rows.RowsetRoundTripCardSaid :=
  Claim7.holds_tied_plain_at .later [] [.data, .data, .data, .sentinel, .sentinel] true (true, "c8b8dcb21513a75ab96d048caf3b8c0122b0d45d626b6e575ad7b8bfc63ccc93") true
    rowsetRoundTrip_row (fun _ h => by cases h) (by kernel_rfl) (fun _ h => by cases h) rowsetRoundTrip_row_tie rfl ⟨rfl, rfl⟩ (by kernel_rfl) rfl
    (fun f fn hf hfn => by
      obtain rfl : f = 5 := Option.some.inj ((show Tryz.prog.funcNamed "lineage/lineagelaw02.RowsetRoundTrip" = some 5 by kernel_rfl).symm.trans hf) |>.symm
      obtain rfl : fn = Tryz.f5 := (Option.some.inj (Tryz.func5.symm.trans hfn)).symm
      exact ⟨by kernel_rfl, fun j t ht => by
        have ht' : t ∈ Tryz.f5.params.toList := by
          have := Array.mem_of_getElem? ht
          simpa using this
        rw [show Tryz.f5.params.toList = [30, 9] by kernel_rfl] at ht'
        simp only [List.mem_cons, List.not_mem_nil, or_false] at ht'
        rcases ht' with rfl | rfl
        · exact (show Tryz.prog.wantsStandIn 30 = false by kernel_rfl)
        · exact (show Tryz.prog.wantsStandIn 9 = false by kernel_rfl)
        ⟩)
    (by kernel_rfl)
#print axioms rowsetRoundTrip_holds
end Go.Proofs.YteopikhooiallaaGreatDoor
