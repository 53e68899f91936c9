/- RowsetText: For every input the law returns true, and the input reads afterwards as it read before. -/
import Derived.Test.YteopikhooiallaaGreatDoorGC1
import Derived.Test.YteopikhooiallaaGreatDoorGC2
import Derived.Test.YteopikhooiallaaGreatDoorCards
import Derived.Test.YteopikhooiallaaGreatDoorTie
set_option autoImplicit false
set_option maxRecDepth 1000000
set_option linter.unusedVariables false
namespace Go.Proofs.YteopikhooiallaaGreatDoor
open Go Go.Ab Go.RowKit Go.ChangeShapes Go.WideShapes
theorem rowsetText_lifted (os : Os) (started : os.Started) (H : Type) (enc : TypeId × Value → H) :
    ReturnsInHanded {} Tryz.checked os 4 .any (fun w args => (Rows.rowsetTextSpec.pre enc Tryz.prog Tryz.f4 [] false w args ∧ laidMetH Tryz.prog laidAll w) ∧ sizedMet enc Tryz.prog Tryz.f4 (OpenSpec.ofChange Rows.rowsetTextSpec) false w args) (Rows.rowsetTextSpec.post enc Tryz.prog Tryz.f4 false true false false) := by
  refine law_lifted (C := Tryz.checked) (cx := base0) (B := 4) (sp := law02_RowsetText_spec) own started (by kernel_rfl) Tryz.func4
    (ChangeSpec.witness_at (enc := enc) (C := Tryz.checked) (os := os) (X := fun w _ => laidMetH Tryz.prog laidAll w) false (laidWorld os) #[.agg #[.int .i64 0, .int .i64 0], .agg #[.int .i64 0, .int .i64 0], .string ⟨#[]⟩, .slice none 0 0] 8 rfl (by kernel_rfl) (by kernel_rfl) (by kernel_rfl) (by kernel_rfl) (by kernel_rfl) (laidWorld_met os _))
    laidOut (fun t ht => ?_) rfl (by kernel_rfl) Tryz.underlying4 (fun ds hd => ?_) law02_RowsetText_sound (fun w hs h => invMet w hs h) (fun w vs ds ps hv hA => ?_)
  · rw [show Tryz.f4.params.toList = [30, 30, 9, 31] by kernel_rfl] at ht
    simp only [List.mem_cons, List.not_mem_nil, or_false] at ht
    rcases ht with rfl | rfl | rfl | rfl
    all_goals exact ⟨by kernel_rfl, of_decide_eq_true (by kernel_rfl)⟩
  · rw [show Tryz.f4.params.size = 4 by kernel_rfl] at hd
    match ds, hd with
    | [d0, d1, d2, d3], _ => rfl
  · rw [show Tryz.f4.params.toList = [30, 30, 9, 31] by kernel_rfl] at hv hA
    obtain ⟨v0, vs1, ds1, ps1, x0, rfl, r0, w0, hv, hA⟩ := arg_next reads30 (argR_struct Tryz.underlying30) hv hA
    obtain ⟨v1, vs2, ds2, ps2, x1, rfl, r1, w1, hv, hA⟩ := arg_next reads30 (argR_struct Tryz.underlying30) hv hA
    obtain ⟨v2, vs3, ds3, ps3, x2, rfl, r2, w2, hv, hA⟩ := arg_next reads9 (argR_cell Tryz.underlying9 trivial (fun x : ByteArray => .lit (.string x)) (fun _ => rfl)) hv hA
    obtain ⟨v3, vs4, ds4, ps4, x3, rfl, r3, w3, hv, hA⟩ := arg_next reads31 (argR_cell Tryz.underlying31 trivial (fun x : List RowID => .sl 30 x) (fun _ => rfl)) hv hA
    obtain rfl := arg_end hA
    have hp := text_plain x0 x1 x2 x3 w0 w1 w2 w3
    have e : law02_RowsetText_spec [.pure (.agg (base.enc 30 x0)), .pure (.agg (base.enc 30 x1)), .pure (.lit (.string x2)), .pure (.sl 30 x3)] = some ((law02_RowsetText x0 x1 x2 x3).1, law02_RowsetText_res (law02_RowsetText x0 x1 x2 x3).2) := by kernel_rfl
    rw [hp] at e
    exact ⟨[.pure (.agg (base.enc 30 x0)), .pure (.agg (base.enc 30 x1)), .pure (.lit (.string x2)), .pure (.sl 30 x3)], e, rfl, (All2.imp (.cons (show ArgOK base (In w) w v0 (.pure (.agg (base.enc 30 x0))) from r0) (.cons (show ArgOK base (In w) w v1 (.pure (.agg (base.enc 30 x1))) from r1) (.cons (show ArgOK base (In w) w v2 (.pure (.lit (.string x2))) from r2) (.cons (show ArgOK base (In w) w v3 (.pure (.sl 30 x3)) from r3) (.nil))))) fun _ _ h => ArgOK.cg (cx := base) (cx' := base0) ⟨rfl, rfl, rfl, rfl, rfl, rfl⟩ h)⟩
theorem rowsetText_row : Rows.RowsetTextSaid :=
  OpenClaim.holds_of_wide 4 Tryz.f4 rfl rfl rfl rfl rfl rfl rfl ⟨rfl, rfl, rfl, rfl, rfl⟩ rfl rfl rfl rfl rfl (by kernel_rfl) Tryz.func4 (by kernel_rfl)
    (of_decide_eq_true (by kernel_rfl)) (by unfold Func.isWrapper; rw [if_neg (of_decide_eq_false (by kernel_rfl))]; exact ⟨rfl, rfl⟩)
    (fun os started H enc _ => rowsetText_lifted os started H enc)
theorem rowsetText_holds : Rows.RowsetTextCardSaid :=
  Claim7.holds_tied_plain_at .later [] [.data, .data, .data, .sentinel, .sentinel] true (true, "c8b8dcb21513a75ab96d048caf3b8c0122b0d45d626b6e575ad7b8bfc63ccc93") true
    rowsetText_row (fun _ h => by cases h) (by kernel_rfl) (fun _ h => by cases h) rowsetText_row_tie rfl ⟨rfl, rfl⟩ (by kernel_rfl) rfl
    (fun f fn hf hfn => by
      obtain rfl : f = 4 := Option.some.inj ((show Tryz.prog.funcNamed "lineage/lineagelaw02.RowsetText" = some 4 by kernel_rfl).symm.trans hf) |>.symm
      obtain rfl : fn = Tryz.f4 := (Option.some.inj (Tryz.func4.symm.trans hfn)).symm
      exact ⟨by kernel_rfl, fun j t ht => by
        have ht' : t ∈ Tryz.f4.params.toList := by
          have := Array.mem_of_getElem? ht
          simpa using this
        rw [show Tryz.f4.params.toList = [30, 30, 9, 31] by kernel_rfl] at ht'
        simp only [List.mem_cons, List.not_mem_nil, or_false] at ht'
        rcases ht' with rfl | rfl | rfl | rfl
        · exact (show Tryz.prog.wantsStandIn 30 = false by kernel_rfl)
        · exact (show Tryz.prog.wantsStandIn 30 = false by kernel_rfl)
        · exact (show Tryz.prog.wantsStandIn 9 = false by kernel_rfl)
        · exact (show Tryz.prog.wantsStandIn 31 = false by kernel_rfl)
        ⟩)
    (by kernel_rfl)
#print axioms rowsetText_holds
end Go.Proofs.YteopikhooiallaaGreatDoor
