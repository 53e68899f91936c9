/- StatisticsValidity: For every input the law returns true, and the input reads afterwards as it read before. -/
import Derived.Test.YtddkaehkimnklaaGreatDoorGC1
import Derived.Test.YtddkaehkimnklaaGreatDoorGC5
import Derived.Test.YtddkaehkimnklaaGreatDoorGC6
import Derived.Test.YtddkaehkimnklaaGreatDoorCards
import Derived.Test.YtddkaehkimnklaaGreatDoorTie
set_option autoImplicit false
set_option maxRecDepth 1000000
set_option linter.unusedVariables false
namespace Go.Proofs.YtddkaehkimnklaaGreatDoor
open Go Go.Ab Go.RowKit Go.ChangeShapes Go.WideShapes
theorem zvu (os : Os) (started : os.Started) (H : Type) (enc : TypeId × _root_.Go.Value → H) :
    ReturnsInHanded {} Tryz.checked os 8 .any (fun w args => (Rows.statisticsValiditySpec.pre enc Tryz.prog Tryz.f8 [] false w args ∧ laidMetH Tryz.prog zti w) ∧ sizedMet enc Tryz.prog Tryz.f8 (OpenSpec.ofChange Rows.statisticsValiditySpec) false w args) (Rows.statisticsValiditySpec.post enc Tryz.prog Tryz.f8 false true false false) := by
  refine zHm (C := Tryz.checked) (cx := base0) (B := 4) (sp := zhM) own started (by kernel_rfl) Tryz.func8
    (ChangeSpec.witness_at (enc := enc) (C := Tryz.checked) (os := os) (X := fun w _ => laidMetH Tryz.prog zti w) false (zEs os) #[.agg #[.int .i64 0, .int .i64 0, .slice none 0 0], .agg #[.int .i64 0, .int .i64 0, .slice none 0 0], .int .i64 0] 8 rfl (by kernel_rfl) (by kernel_rfl) (by kernel_rfl) (by kernel_rfl) (by kernel_rfl) (zE0 os _))
    zGT (fun t ht => ?_) rfl (by kernel_rfl) Tryz.underlying4 (fun ds hd => ?_) zrP (fun w hs h => zKd w hs h) (fun w vs ds ps hv hA hz => ?_)
  · rw [show Tryz.f8.params.toList = [30, 30, 3] by kernel_rfl] at ht
    simp only [List.mem_cons, List.not_mem_nil, or_false] at ht
    rcases ht with rfl | rfl | rfl
    all_goals exact ⟨by kernel_rfl, of_decide_eq_true (by kernel_rfl)⟩
  · rw [show Tryz.f8.params.size = 3 by kernel_rfl] at hd
    match ds, hd with
    | [d0, d1, d2], _ => rfl
  · rw [show Tryz.f8.params.toList = [30, 30, 3] by kernel_rfl] at hv hA hz
    obtain ⟨v0, vs1, ds1, ps1, x0, rfl, r0, w0, hv, hA, hz⟩ := zCZ zGG (zB6 Tryz.underlying30) hv hA hz
    obtain ⟨v1, vs2, ds2, ps2, x1, rfl, r1, w1, hv, hA, hz⟩ := zCZ zGG (zB6 Tryz.underlying30) hv hA hz
    obtain ⟨v2, vs3, ds3, ps3, x2, rfl, r2, w2, hv, hA, hz⟩ := zCZ zBj (zH9 Tryz.underlying3 trivial (fun x : Int => .lit (.int .i64 x)) (fun _ => rfl)) hv hA hz
    obtain rfl := zJJ hA
    have hp := zDZ x0 x1 x2 w0 w1 w2
    have e : zhM [.pure (.agg (base.enc 30 x0)), .pure (.agg (base.enc 30 x1)), .pure (.lit (.int .i64 x2))] = some ((zdt x0 x1 x2).1, zh3 (zdt x0 x1 x2).2) := by kernel_rfl
    rw [hp] at e
    exact ⟨[.pure (.agg (base.enc 30 x0)), .pure (.agg (base.enc 30 x1)), .pure (.lit (.int .i64 x2))], e, rfl, (All2.imp (.cons (show zgJ base (In w) w v0 (.pure (.agg (base.enc 30 x0))) from r0) (.cons (show zgJ base (In w) w v1 (.pure (.agg (base.enc 30 x1))) from r1) (.cons (show zgJ base (In w) w v2 (.pure (.lit (.int .i64 x2))) from r2) (.nil)))) fun _ _ h => zgJ.cg (cx := base) (cx' := base0) ⟨rfl, rfl, rfl, rfl, rfl, rfl⟩ h)⟩
theorem zuB : Tryz.prog.inPlace 8 = Rows.statisticsValidityRow.inPlace := by kernel_rfl
theorem zsl : Tryz.prog.unfollowed 8 = Rows.statisticsValidityRow.unfollowed := by kernel_rfl
theorem ztF : Tryz.prog.recurses 8 = Rows.statisticsValidityRow.recurses := by kernel_rfl
theorem zsV : Tryz.prog.varsNamed 8 = Rows.statisticsValidityRow.named := by kernel_rfl
theorem zvo : joinedFacts Tryz.prog 8 Tryz.f8 Rows.statisticsValiditySpec Rows.statisticsValidityRow = true := by
  unfold joinedFacts
  rw [zGT, zKr, zJE, zJu, zKe, zKA, zuB, zsl, ztF, zsV]
  kernel_rfl
theorem zxU : Rows.StatisticsValiditySaid :=
  OpenClaim.holds_of_wide 8 Tryz.f8 rfl rfl rfl rfl rfl rfl rfl ⟨rfl, rfl, rfl, rfl, rfl⟩ rfl rfl rfl rfl rfl (by kernel_rfl) Tryz.func8 zvo
    (of_decide_eq_true (by kernel_rfl)) (by unfold Func.isWrapper; rw [if_neg (of_decide_eq_false (by kernel_rfl))]; exact ⟨rfl, rfl⟩)
    (fun os started H enc _ => zvu os started H enc)
theorem statisticsValidity_holds : Rows.StatisticsValidityCardSaid :=
  Claim7.holds_tied_plain_at .later [] [.data, .data, .data, .data, .pinned] true (true, "bf0c0a4381aaf4fd3c266189531b2c7d7155b8fe72277c5f3dbcc7d3b4dee894") false
    zxU (fun _ h => by cases h) (by kernel_rfl) (fun _ h => by cases h) statisticsValidity_row_tie rfl ⟨rfl, rfl⟩ (by kernel_rfl) rfl
    (fun f fn hf hfn => by
      obtain rfl : f = 8 := Option.some.inj ((show Tryz.prog.funcNamed "lineage/lineagelaw37.StatisticsValidity" = some 8 by kernel_rfl).symm.trans hf) |>.symm
      obtain rfl : fn = Tryz.f8 := (Option.some.inj (Tryz.func8.symm.trans hfn)).symm
      exact ⟨by kernel_rfl, fun j t ht => by
        have ht' : t ∈ Tryz.f8.params.toList := by
          have := Array.mem_of_getElem? ht
          simpa using this
        rw [show Tryz.f8.params.toList = [30, 30, 3] by kernel_rfl] at ht'
        simp only [List.mem_cons, List.not_mem_nil, or_false] at ht'
        rcases ht' with rfl | rfl | rfl
        · exact (show Tryz.prog.wantsStandIn 30 = false by kernel_rfl)
        · exact (show Tryz.prog.wantsStandIn 30 = false by kernel_rfl)
        · exact (show Tryz.prog.wantsStandIn 3 = false by kernel_rfl)
        ⟩)
    (by kernel_rfl)
#print axioms statisticsValidity_holds
end Go.Proofs.YtddkaehkimnklaaGreatDoor
