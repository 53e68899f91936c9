/- StatisticsComplement: For every input the law returns true, and the input reads afterwards as it read before. -/
import Derived.Test.YtddkaehkimnklaaGreatDoorGC1
import Derived.Test.YtddkaehkimnklaaGreatDoorGC4
import Derived.Test.YtddkaehkimnklaaGreatDoorGC6
import Derived.Test.YtddkaehkimnklaaGreatDoorCards
import Derived.Test.YtddkaehkimnklaaGreatDoorTie
set_option autoImplicit false
set_option maxRecDepth 1000000
set_option linter.unusedVariables false
namespace Go.Proofs.YtddkaehkimnklaaGreatDoor
open Go Go.Ab Go.RowKit Go.ChangeShapes Go.WideShapes
theorem zsv (os : Os) (started : os.Started) (H : Type) (enc : TypeId × _root_.Go.Value → H) :
    ReturnsInHanded {} Tryz.checked os 7 .any (fun w args => (Rows.statisticsComplementSpec.pre enc Tryz.prog Tryz.f7 [] false w args ∧ laidMetH Tryz.prog zrR w) ∧ sizedMet enc Tryz.prog Tryz.f7 (OpenSpec.ofChange Rows.statisticsComplementSpec) false w args) (Rows.statisticsComplementSpec.post enc Tryz.prog Tryz.f7 false true false false) := by
  refine zFB (C := Tryz.checked) (cx := base0) (B := 4) (sp := zha) own started (by kernel_rfl) Tryz.func7
    (ChangeSpec.witness_at (enc := enc) (C := Tryz.checked) (os := os) (X := fun w _ => laidMetH Tryz.prog zrR w) false (zCM os) #[.agg #[.int .i64 0, .int .i64 0, .slice none 0 0], .agg #[.int .i64 0, .int .i64 0, .int .i64 0, .int .i64 0, .string ⟨#[]⟩, .int .i64 0, .slice none 0 0], .agg #[.int .i64 0, .int .i64 0, .string ⟨#[]⟩]] 8 rfl (by kernel_rfl) (by kernel_rfl) (by kernel_rfl) (by kernel_rfl) (by kernel_rfl) (zC9 os _))
    zE1 (fun t ht => ?_) rfl (by kernel_rfl) Tryz.underlying4 (fun ds hd => ?_) zpf (fun w hs h => zIc w hs h) (fun w vs ds ps hv hA hz => ?_)
  · rw [show Tryz.f7.params.toList = [30, 47, 40] by kernel_rfl] at ht
    simp only [List.mem_cons, List.not_mem_nil, or_false] at ht
    rcases ht with rfl | rfl | rfl
    all_goals exact ⟨by kernel_rfl, of_decide_eq_true (by kernel_rfl)⟩
  · rw [show Tryz.f7.params.size = 3 by kernel_rfl] at hd
    match ds, hd with
    | [d0, d1, d2], _ => rfl
  · rw [show Tryz.f7.params.toList = [30, 47, 40] by kernel_rfl] at hv hA hz
    obtain ⟨v0, vs1, ds1, ps1, x0, rfl, r0, w0, hv, hA, hz⟩ := zAF zHz (zwe Tryz.underlying30) hv hA hz
    obtain ⟨v1, vs2, ds2, ps2, x1, rfl, r1, w1, hv, hA, hz⟩ := zAF zHn (zwe Tryz.underlying47) hv hA hz
    obtain ⟨v2, vs3, ds3, ps3, x2, rfl, r2, w2, hv, hA, hz⟩ := zAF zxa (zwe Tryz.underlying40) hv hA hz
    obtain rfl := zHJ hA
    have hp := zAC x0 x1 x2 w0 w1 w2
    have e : zha [.pure (.agg (base.enc 30 x0)), .pure (.agg (base.enc 47 x1)), .pure (.agg (base.enc 40 x2))] = some ((zc0 x0 x1 x2).1, zho (zc0 x0 x1 x2).2) := by kernel_rfl
    rw [hp] at e
    exact ⟨[.pure (.agg (base.enc 30 x0)), .pure (.agg (base.enc 47 x1)), .pure (.agg (base.enc 40 x2))], e, rfl, (All2.imp (.cons (show zgK base (In w) w v0 (.pure (.agg (base.enc 30 x0))) from r0) (.cons (show zgK base (In w) w v1 (.pure (.agg (base.enc 47 x1))) from r1) (.cons (show zgK base (In w) w v2 (.pure (.agg (base.enc 40 x2))) from r2) (.nil)))) fun _ _ h => zgK.cg (cx := base) (cx' := base0) ⟨rfl, rfl, rfl, rfl, rfl, rfl⟩ h)⟩
theorem zrH : Tryz.prog.inPlace 7 = Rows.statisticsComplementRow.inPlace := by kernel_rfl
theorem zqg : Tryz.prog.unfollowed 7 = Rows.statisticsComplementRow.unfollowed := by kernel_rfl
theorem zrg : Tryz.prog.recurses 7 = Rows.statisticsComplementRow.recurses := by kernel_rfl
theorem zqW : Tryz.prog.varsNamed 7 = Rows.statisticsComplementRow.named := by kernel_rfl
theorem zsF : joinedFacts Tryz.prog 7 Tryz.f7 Rows.statisticsComplementSpec Rows.statisticsComplementRow = true := by
  unfold joinedFacts
  rw [zE1, zIg, zHd, zHw, zHX, zHW, zrH, zqg, zrg, zqW]
  kernel_rfl
theorem zuo : Rows.StatisticsComplementSaid :=
  OpenClaim.holds_of_wide 7 Tryz.f7 rfl rfl rfl rfl rfl rfl rfl ⟨rfl, rfl, rfl, rfl, rfl⟩ rfl rfl rfl rfl rfl (by kernel_rfl) Tryz.func7 zsF
    (of_decide_eq_true (by kernel_rfl)) (by unfold Func.isWrapper; rw [if_neg (of_decide_eq_false (by kernel_rfl))]; exact ⟨rfl, rfl⟩)
    (fun os started H enc _ => zsv os started H enc)
theorem statisticsComplement_holds : Rows.StatisticsComplementCardSaid :=
  Claim7.holds_tied_plain_at .later [] [.data, .data, .data, .data, .pinned] true (true, "bf0c0a4381aaf4fd3c266189531b2c7d7155b8fe72277c5f3dbcc7d3b4dee894") false
    zuo (fun _ h => by cases h) (by kernel_rfl) (fun _ h => by cases h) statisticsComplement_row_tie rfl ⟨rfl, rfl⟩ (by kernel_rfl) rfl
    (fun f fn hf hfn => by
      obtain rfl : f = 7 := Option.some.inj ((show Tryz.prog.funcNamed "lineage/lineagelaw37.StatisticsComplement" = some 7 by kernel_rfl).symm.trans hf) |>.symm
      obtain rfl : fn = Tryz.f7 := (Option.some.inj (Tryz.func7.symm.trans hfn)).symm
      exact ⟨by kernel_rfl, fun j t ht => by
        have ht' : t ∈ Tryz.f7.params.toList := by
          have := Array.mem_of_getElem? ht
          simpa using this
        rw [show Tryz.f7.params.toList = [30, 47, 40] by kernel_rfl] at ht'
        simp only [List.mem_cons, List.not_mem_nil, or_false] at ht'
        rcases ht' with rfl | rfl | rfl
        · exact (show Tryz.prog.wantsStandIn 30 = false by kernel_rfl)
        · exact (show Tryz.prog.wantsStandIn 47 = false by kernel_rfl)
        · exact (show Tryz.prog.wantsStandIn 40 = false by kernel_rfl)
        ⟩)
    (by kernel_rfl)
#print axioms statisticsComplement_holds
end Go.Proofs.YtddkaehkimnklaaGreatDoor
