/- StatisticsGather: For every input the law returns true, and the input reads afterwards as it read before. -/
import Derived.Test.YtddkaehkimnklaaGreatDoorGC1
import Derived.Test.YtddkaehkimnklaaGreatDoorGC5
import Derived.Test.YtddkaehkimnklaaGreatDoorGC7
import Derived.Test.YtddkaehkimnklaaGreatDoorCards
import Derived.Test.YtddkaehkimnklaaGreatDoorTie
set_option autoImplicit false
set_option maxRecDepth 1000000
set_option linter.unusedVariables false
namespace Go.Proofs.YtddkaehkimnklaaGreatDoor
open Go Go.Ab Go.RowKit Go.ChangeShapes Go.WideShapes
theorem zw7 (os : Os) (started : os.Started) (H : Type) (enc : TypeId × _root_.Go.Value → H) :
    ReturnsInHanded {} Tryz.checked os 3 .any (fun w args => (Rows.statisticsGatherSpec.pre enc Tryz.prog Tryz.f3 [] false w args ∧ laidMetH Tryz.prog zs9 w) ∧ sizedMet enc Tryz.prog Tryz.f3 (OpenSpec.ofChange Rows.statisticsGatherSpec) false w args) (Rows.statisticsGatherSpec.post enc Tryz.prog Tryz.f3 false true false false) := by
  refine zIy (C := Tryz.checked) (cx := base0) (B := 4) (sp := zh8) own started (by kernel_rfl) Tryz.func3
    (ChangeSpec.witness_at (enc := enc) (C := Tryz.checked) (os := os) (X := fun w _ => laidMetH Tryz.prog zs9 w) false (zE0 os) #[.agg #[.int .i64 0, .string ⟨#[]⟩, .slice none 0 0, .slice none 0 0]] 8 rfl (by kernel_rfl) (by kernel_rfl) (by kernel_rfl) (by kernel_rfl) (by kernel_rfl) (zFJ os _))
    zHP (fun t ht => ?_) rfl (by kernel_rfl) Tryz.underlying4 (fun ds hd => ?_) zsP (fun w hs h => zLB w hs h) (fun w vs ds ps hv hA hz => ?_)
  · rw [show Tryz.f3.params.toList = [25] by kernel_rfl] at ht
    simp only [List.mem_cons, List.not_mem_nil, or_false] at ht
    rcases ht with rfl
    all_goals exact ⟨by kernel_rfl, of_decide_eq_true (by kernel_rfl)⟩
  · rw [show Tryz.f3.params.size = 1 by kernel_rfl] at hd
    match ds, hd with
    | [d0], _ => rfl
  · rw [show Tryz.f3.params.toList = [25] by kernel_rfl] at hv hA hz
    obtain ⟨v0, vs1, ds1, ps1, x0, rfl, r0, w0, hv, hA, hz⟩ := zJ5 zK6 (zHv Tryz.underlying25) hv hA hz
    obtain rfl := zKS hA
    have hp := zGV x0 w0
    have e : zh8 [.pure (.agg (base.enc 25 x0))] = some ((zeq x0).1, ziD (zeq x0).2) := by kernel_rfl
    rw [hp] at e
    exact ⟨[.pure (.agg (base.enc 25 x0))], e, rfl, (All2.imp (.cons (show zg9 base (In w) w v0 (.pure (.agg (base.enc 25 x0))) from r0) (.nil)) fun _ _ h => zg9.cg (cx := base) (cx' := base0) ⟨rfl, rfl, rfl, rfl, rfl, rfl⟩ h)⟩
theorem zv6 : Tryz.prog.inPlace 3 = Rows.statisticsGatherRow.inPlace := by kernel_rfl
theorem ztT : Tryz.prog.unfollowed 3 = Rows.statisticsGatherRow.unfollowed := by kernel_rfl
theorem zvj : Tryz.prog.recurses 3 = Rows.statisticsGatherRow.recurses := by kernel_rfl
theorem zuD : Tryz.prog.varsNamed 3 = Rows.statisticsGatherRow.named := by kernel_rfl
theorem zw1 : joinedFacts Tryz.prog 3 Tryz.f3 Rows.statisticsGatherSpec Rows.statisticsGatherRow = true := by
  unfold joinedFacts
  rw [zHP, zLA, zKu, zKv, zLj, zLd, zv6, ztT, zvj, zuD]
  kernel_rfl
theorem zzz : Rows.StatisticsGatherSaid :=
  OpenClaim.holds_of_wide 3 Tryz.f3 rfl rfl rfl rfl rfl rfl rfl ⟨rfl, rfl, rfl, rfl, rfl⟩ rfl rfl rfl rfl rfl (by kernel_rfl) Tryz.func3 zw1
    (of_decide_eq_true (by kernel_rfl)) (by unfold Func.isWrapper; rw [if_neg (of_decide_eq_false (by kernel_rfl))]; exact ⟨rfl, rfl⟩)
    (fun os started H enc _ => zw7 os started H enc)
theorem statisticsGather_holds : Rows.StatisticsGatherCardSaid :=
  Claim7.holds_tied_plain_at .later [] [.data, .data, .data, .data, .pinned] true (true, "bf0c0a4381aaf4fd3c266189531b2c7d7155b8fe72277c5f3dbcc7d3b4dee894") false
    zzz (fun _ h => by cases h) (by kernel_rfl) (fun _ h => by cases h) statisticsGather_row_tie rfl ⟨rfl, rfl⟩ (by kernel_rfl) rfl
    (fun f fn hf hfn => by
      obtain rfl : f = 3 := Option.some.inj ((show Tryz.prog.funcNamed "lineage/lineagelaw37.StatisticsGather" = some 3 by kernel_rfl).symm.trans hf) |>.symm
      obtain rfl : fn = Tryz.f3 := (Option.some.inj (Tryz.func3.symm.trans hfn)).symm
      exact ⟨by kernel_rfl, fun j t ht => by
        have ht' : t ∈ Tryz.f3.params.toList := by
          have := Array.mem_of_getElem? ht
          simpa using this
        rw [show Tryz.f3.params.toList = [25] by kernel_rfl] at ht'
        simp only [List.mem_cons, List.not_mem_nil, or_false] at ht'
        rcases ht' with rfl
        · exact (show Tryz.prog.wantsStandIn 25 = false by kernel_rfl)
        ⟩)
    (by kernel_rfl)
#print axioms statisticsGather_holds
end Go.Proofs.YtddkaehkimnklaaGreatDoor
