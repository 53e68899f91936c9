/- StatisticsSelectivity: For every input the law returns true, and the input reads afterwards as it read before. -/
import Derived.Test.YtddkaehkimnklaaGreatDoorGC1
import Derived.Test.YtddkaehkimnklaaGreatDoorGC5
import Derived.Test.YtddkaehkimnklaaGreatDoorGC6
import Derived.Test.YtddkaehkimnklaaGreatDoorCards
import Derived.Test.YtddkaehkimnklaaGreatDoorTie
set_option autoImplicit false
set_option maxRecDepth 1000000
set_option linter.unusedVariables false
namespace Go.Proofs.YtddkaehkimnklaaGreatDoor
open Go Go.Ab Go.RowKit Go.ChangeShapes Go.WideShapes
theorem ztc (os : Os) (started : os.Started) (H : Type) (enc : TypeId × _root_.Go.Value → H) :
    ReturnsInHanded {} Tryz.checked os 5 .any (fun w args => (Rows.statisticsSelectivitySpec.pre enc Tryz.prog Tryz.f5 [] false w args ∧ laidMetH Tryz.prog ztg w) ∧ sizedMet enc Tryz.prog Tryz.f5 (OpenSpec.ofChange Rows.statisticsSelectivitySpec) false w args) (Rows.statisticsSelectivitySpec.post enc Tryz.prog Tryz.f5 false true false false) := by
  refine zIj (C := Tryz.checked) (cx := base0) (B := 4) (sp := zgT) own started (by kernel_rfl) Tryz.func5
    (ChangeSpec.witness_at (enc := enc) (C := Tryz.checked) (os := os) (X := fun w _ => laidMetH Tryz.prog ztg w) false (zFt os) #[.agg #[.int .i64 0, .int .i64 0, .slice none 0 0], .agg #[.int .i64 0, .int .i64 0, .int .i64 0, .int .i64 0, .string ⟨#[]⟩, .int .i64 0, .slice none 0 0]] 8 rfl (by kernel_rfl) (by kernel_rfl) (by kernel_rfl) (by kernel_rfl) (by kernel_rfl) (zFL os _))
    zHO (fun t ht => ?_) rfl (by kernel_rfl) Tryz.underlying4 (fun ds hd => ?_) zpm (fun w hs h => zK5 w hs h) (fun w vs ds ps hv hA hz => ?_)
  · rw [show Tryz.f5.params.toList = [30, 47] by kernel_rfl] at ht
    simp only [List.mem_cons, List.not_mem_nil, or_false] at ht
    rcases ht with rfl | rfl
    all_goals exact ⟨by kernel_rfl, of_decide_eq_true (by kernel_rfl)⟩
  · rw [show Tryz.f5.params.size = 2 by kernel_rfl] at hd
    match ds, hd with
    | [d0, d1], _ => rfl
  · rw [show Tryz.f5.params.toList = [30, 47] by kernel_rfl] at hv hA hz
    obtain ⟨v0, vs1, ds1, ps1, x0, rfl, r0, w0, hv, hA, hz⟩ := zGh zKm (zCR Tryz.underlying30) hv hA hz
    obtain ⟨v1, vs2, ds2, ps2, x1, rfl, r1, w1, hv, hA, hz⟩ := zGh zJ4 (zCR Tryz.underlying47) hv hA hz
    obtain rfl := zKc hA
    have hp := zCm x0 x1 w0 w1
    have e : zgT [.pure (.agg (base.enc 30 x0)), .pure (.agg (base.enc 47 x1))] = some ((zcO x0 x1).1, zg8 (zcO x0 x1).2) := by kernel_rfl
    rw [hp] at e
    exact ⟨[.pure (.agg (base.enc 30 x0)), .pure (.agg (base.enc 47 x1))], e, rfl, (All2.imp (.cons (show zg3 base (In w) w v0 (.pure (.agg (base.enc 30 x0))) from r0) (.cons (show zg3 base (In w) w v1 (.pure (.agg (base.enc 47 x1))) from r1) (.nil))) fun _ _ h => zg3.cg (cx := base) (cx' := base0) ⟨rfl, rfl, rfl, rfl, rfl, rfl⟩ h)⟩
theorem zsv : Tryz.prog.inPlace 5 = Rows.statisticsSelectivityRow.inPlace := by kernel_rfl
theorem zpY : Tryz.prog.unfollowed 5 = Rows.statisticsSelectivityRow.unfollowed := by kernel_rfl
theorem zrE : Tryz.prog.recurses 5 = Rows.statisticsSelectivityRow.recurses := by kernel_rfl
theorem zq7 : Tryz.prog.varsNamed 5 = Rows.statisticsSelectivityRow.named := by kernel_rfl
theorem ztp : joinedFacts Tryz.prog 5 Tryz.f5 Rows.statisticsSelectivitySpec Rows.statisticsSelectivityRow = true := by
  unfold joinedFacts
  rw [zHO, zK0, zKD, zKC, zK3, zKL, zsv, zpY, zrE, zq7]
  kernel_rfl
theorem zvc : Rows.StatisticsSelectivitySaid :=
  OpenClaim.holds_of_wide 5 Tryz.f5 rfl rfl rfl rfl rfl rfl rfl ⟨rfl, rfl, rfl, rfl, rfl⟩ rfl rfl rfl rfl rfl (by kernel_rfl) Tryz.func5 ztp
    (of_decide_eq_true (by kernel_rfl)) (by unfold Func.isWrapper; rw [if_neg (of_decide_eq_false (by kernel_rfl))]; exact ⟨rfl, rfl⟩)
    (fun os started H enc _ => ztc os started H enc)
theorem statisticsSelectivity_holds : Rows.StatisticsSelectivityCardSaid :=
  Claim7.holds_tied_plain_at .later [] [.data, .data, .data, .data, .pinned] true (true, "bf0c0a4381aaf4fd3c266189531b2c7d7155b8fe72277c5f3dbcc7d3b4dee894") false
    zvc (fun _ h => by cases h) (by kernel_rfl) (fun _ h => by cases h) statisticsSelectivity_row_tie rfl ⟨rfl, rfl⟩ (by kernel_rfl) rfl
    (fun f fn hf hfn => by
      obtain rfl : f = 5 := Option.some.inj ((show Tryz.prog.funcNamed "lineage/lineagelaw37.StatisticsSelectivity" = some 5 by kernel_rfl).symm.trans hf) |>.symm
      obtain rfl : fn = Tryz.f5 := (Option.some.inj (Tryz.func5.symm.trans hfn)).symm
      exact ⟨by kernel_rfl, fun j t ht => by
        have ht' : t ∈ Tryz.f5.params.toList := by
          have := Array.mem_of_getElem? ht
          simpa using this
        rw [show Tryz.f5.params.toList = [30, 47] by kernel_rfl] at ht'
        simp only [List.mem_cons, List.not_mem_nil, or_false] at ht'
        rcases ht' with rfl | rfl
        · exact (show Tryz.prog.wantsStandIn 30 = false by kernel_rfl)
        · exact (show Tryz.prog.wantsStandIn 47 = false by kernel_rfl)
        ⟩)
    (by kernel_rfl)
#print axioms statisticsSelectivity_holds
end Go.Proofs.YtddkaehkimnklaaGreatDoor
