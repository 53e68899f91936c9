/- StatisticsEstimate: For every input the law returns true, and the input reads afterwards as it read before. -/
import Derived.Test.YtddkaehkimnklaaGreatDoorGC1
import Derived.Test.YtddkaehkimnklaaGreatDoorGC5
import Derived.Test.YtddkaehkimnklaaGreatDoorGC7
import Derived.Test.YtddkaehkimnklaaGreatDoorCards
import Derived.Test.YtddkaehkimnklaaGreatDoorTie
set_option autoImplicit false
set_option maxRecDepth 1000000
set_option linter.unusedVariables false
namespace Go.Proofs.YtddkaehkimnklaaGreatDoor
open Go Go.Ab Go.RowKit Go.ChangeShapes Go.WideShapes
theorem zuG (os : Os) (started : os.Started) (H : Type) (enc : TypeId × _root_.Go.Value → H) :
    ReturnsInHanded {} Tryz.checked os 6 .any (fun w args => (Rows.statisticsEstimateSpec.pre enc Tryz.prog Tryz.f6 [] false w args ∧ laidMetH Tryz.prog zsJ w) ∧ sizedMet enc Tryz.prog Tryz.f6 (OpenSpec.ofChange Rows.statisticsEstimateSpec) false w args) (Rows.statisticsEstimateSpec.post enc Tryz.prog Tryz.f6 false true false false) := by
  refine zGK (C := Tryz.checked) (cx := base0) (B := 4) (sp := zhG) own started (by kernel_rfl) Tryz.func6
    (ChangeSpec.witness_at (enc := enc) (C := Tryz.checked) (os := os) (X := fun w _ => laidMetH Tryz.prog zsJ w) false (zDW os) #[.agg #[.int .i64 0, .string ⟨#[]⟩, .slice none 0 0, .slice none 0 0], .agg #[.int .i64 0, .int .i64 0, .string ⟨#[]⟩], .agg #[.int .i64 0, .int .i64 0, .string ⟨#[]⟩]] 8 rfl (by kernel_rfl) (by kernel_rfl) (by kernel_rfl) (by kernel_rfl) (by kernel_rfl) (zEw os _))
    zGn (fun t ht => ?_) rfl (by kernel_rfl) Tryz.underlying4 (fun ds hd => ?_) zrf (fun w hs h => zKn w hs h) (fun w vs ds ps hv hA hz => ?_)
  · rw [show Tryz.f6.params.toList = [25, 40, 40] by kernel_rfl] at ht
    simp only [List.mem_cons, List.not_mem_nil, or_false] at ht
    rcases ht with rfl | rfl | rfl
    all_goals exact ⟨by kernel_rfl, of_decide_eq_true (by kernel_rfl)⟩
  · rw [show Tryz.f6.params.size = 3 by kernel_rfl] at hd
    match ds, hd with
    | [d0, d1, d2], _ => rfl
  · rw [show Tryz.f6.params.toList = [25, 40, 40] by kernel_rfl] at hv hA hz
    obtain ⟨v0, vs1, ds1, ps1, x0, rfl, r0, w0, hv, hA, hz⟩ := zBM zJu (zxg Tryz.underlying25) hv hA hz
    obtain ⟨v1, vs2, ds2, ps2, x1, rfl, r1, w1, hv, hA, hz⟩ := zBM zxU (zxg Tryz.underlying40) hv hA hz
    obtain ⟨v2, vs3, ds3, ps3, x2, rfl, r2, w2, hv, hA, hz⟩ := zBM zxU (zxg Tryz.underlying40) hv hA hz
    obtain rfl := zJQ hA
    have hp := zDF x0 x1 x2 w0 w1 w2
    have e : zhG [.pure (.agg (base.enc 25 x0)), .pure (.agg (base.enc 40 x1)), .pure (.agg (base.enc 40 x2))] = some ((zdP x0 x1 x2).1, zh8 (zdP x0 x1 x2).2) := by kernel_rfl
    rw [hp] at e
    exact ⟨[.pure (.agg (base.enc 25 x0)), .pure (.agg (base.enc 40 x1)), .pure (.agg (base.enc 40 x2))], e, rfl, (All2.imp (.cons (show zgS base (In w) w v0 (.pure (.agg (base.enc 25 x0))) from r0) (.cons (show zgS base (In w) w v1 (.pure (.agg (base.enc 40 x1))) from r1) (.cons (show zgS base (In w) w v2 (.pure (.agg (base.enc 40 x2))) from r2) (.nil)))) fun _ _ h => zgS.cg (cx := base) (cx' := base0) ⟨rfl, rfl, rfl, rfl, rfl, rfl⟩ h)⟩
theorem zt6 : Tryz.prog.inPlace 6 = Rows.statisticsEstimateRow.inPlace := by kernel_rfl
theorem zr3 : Tryz.prog.unfollowed 6 = Rows.statisticsEstimateRow.unfollowed := by kernel_rfl
theorem ztQ : Tryz.prog.recurses 6 = Rows.statisticsEstimateRow.recurses := by kernel_rfl
theorem zsU : Tryz.prog.varsNamed 6 = Rows.statisticsEstimateRow.named := by kernel_rfl
theorem zuQ : joinedFacts Tryz.prog 6 Tryz.f6 Rows.statisticsEstimateSpec Rows.statisticsEstimateRow = true := by
  unfold joinedFacts
  rw [zGn, zKb, zJi, zJP, zJ9, zJ6, zt6, zr3, ztQ, zsU]
  kernel_rfl
theorem zxf : Rows.StatisticsEstimateSaid :=
  OpenClaim.holds_of_wide 6 Tryz.f6 rfl rfl rfl rfl rfl rfl rfl ⟨rfl, rfl, rfl, rfl, rfl⟩ rfl rfl rfl rfl rfl (by kernel_rfl) Tryz.func6 zuQ
    (of_decide_eq_true (by kernel_rfl)) (by unfold Func.isWrapper; rw [if_neg (of_decide_eq_false (by kernel_rfl))]; exact ⟨rfl, rfl⟩)
    (fun os started H enc _ => zuG os started H enc)
theorem statisticsEstimate_holds : Rows.StatisticsEstimateCardSaid :=
  Claim7.holds_tied_plain_at .later [] [.data, .data, .data, .data, .pinned] true (true, "bf0c0a4381aaf4fd3c266189531b2c7d7155b8fe72277c5f3dbcc7d3b4dee894") false
    zxf (fun _ h => by cases h) (by kernel_rfl) (fun _ h => by cases h) statisticsEstimate_row_tie rfl ⟨rfl, rfl⟩ (by kernel_rfl) rfl
    (fun f fn hf hfn => by
      obtain rfl : f = 6 := Option.some.inj ((show Tryz.prog.funcNamed "lineage/lineagelaw37.StatisticsEstimate" = some 6 by kernel_rfl).symm.trans hf) |>.symm
      obtain rfl : fn = Tryz.f6 := (Option.some.inj (Tryz.func6.symm.trans hfn)).symm
      exact ⟨by kernel_rfl, fun j t ht => by
        have ht' : t ∈ Tryz.f6.params.toList := by
          have := Array.mem_of_getElem? ht
          simpa using this
        rw [show Tryz.f6.params.toList = [25, 40, 40] by kernel_rfl] at ht'
        simp only [List.mem_cons, List.not_mem_nil, or_false] at ht'
        rcases ht' with rfl | rfl | rfl
        · exact (show Tryz.prog.wantsStandIn 25 = false by kernel_rfl)
        · exact (show Tryz.prog.wantsStandIn 40 = false by kernel_rfl)
        · exact (show Tryz.prog.wantsStandIn 40 = false by kernel_rfl)
        ⟩)
    (by kernel_rfl)
#print axioms statisticsEstimate_holds
end Go.Proofs.YtddkaehkimnklaaGreatDoor
