/- StatisticsOrder: For every input the law returns true, and the input reads afterwards as it read before. -/
import Derived.Test.YtddkaehkimnklaaGreatDoorGC1
import Derived.Test.YtddkaehkimnklaaGreatDoorGC5
import Derived.Test.YtddkaehkimnklaaGreatDoorGC7
import Derived.Test.YtddkaehkimnklaaGreatDoorCards
import Derived.Test.YtddkaehkimnklaaGreatDoorTie
set_option autoImplicit false
set_option maxRecDepth 1000000
set_option linter.unusedVariables false
namespace Go.Proofs.YtddkaehkimnklaaGreatDoor
open Go Go.Ab Go.RowKit Go.ChangeShapes Go.WideShapes
theorem zxp (os : Os) (started : os.Started) (H : Type) (enc : TypeId × _root_.Go.Value → H) :
    ReturnsInHanded {} Tryz.checked os 4 .any (fun w args => (Rows.statisticsOrderSpec.pre enc Tryz.prog Tryz.f4 [] false w args ∧ laidMetH Tryz.prog zsT w) ∧ sizedMet enc Tryz.prog Tryz.f4 (OpenSpec.ofChange Rows.statisticsOrderSpec) false w args) (Rows.statisticsOrderSpec.post enc Tryz.prog Tryz.f4 false true false false) := by
  refine zHt (C := Tryz.checked) (cx := base0) (B := 4) (sp := ziy) own started (by kernel_rfl) Tryz.func4
    (ChangeSpec.witness_at (enc := enc) (C := Tryz.checked) (os := os) (X := fun w _ => laidMetH Tryz.prog zsT w) false (zEc os) #[.agg #[.int .i64 0, .string ⟨#[]⟩, .slice none 0 0, .slice none 0 0], .int .u8 0] 8 rfl (by kernel_rfl) (by kernel_rfl) (by kernel_rfl) (by kernel_rfl) (by kernel_rfl) (zEB os _))
    zGB (fun t ht => ?_) rfl (by kernel_rfl) Tryz.underlying4 (fun ds hd => ?_) ztZ (fun w hs h => zKn w hs h) (fun w vs ds ps hv hA hz => ?_)
  · rw [show Tryz.f4.params.toList = [25, 5] by kernel_rfl] at ht
    simp only [List.mem_cons, List.not_mem_nil, or_false] at ht
    rcases ht with rfl | rfl
    all_goals exact ⟨by kernel_rfl, of_decide_eq_true (by kernel_rfl)⟩
  · rw [show Tryz.f4.params.size = 2 by kernel_rfl] at hd
    match ds, hd with
    | [d0, d1], _ => rfl
  · rw [show Tryz.f4.params.toList = [25, 5] by kernel_rfl] at hv hA hz
    obtain ⟨v0, vs1, ds1, ps1, x0, rfl, r0, w0, hv, hA, hz⟩ := zFx zJo (zGe Tryz.underlying25) hv hA hz
    obtain ⟨v1, vs2, ds2, ps2, x1, rfl, r1, w1, hv, hA, hz⟩ := zFx zJ8 (zHD Tryz.underlying5 trivial (fun x : Int => .lit (.int .u8 x)) (fun _ => rfl)) hv hA hz
    obtain rfl := zJz hA
    have hp := zGd x0 x1 w0 w1
    have e : ziy [.pure (.agg (base.enc 25 x0)), .pure (.lit (.int .u8 x1))] = some ((ze4 x0 x1).1, zjb (ze4 x0 x1).2) := by kernel_rfl
    rw [hp] at e
    exact ⟨[.pure (.agg (base.enc 25 x0)), .pure (.lit (.int .u8 x1))], e, rfl, (All2.imp (.cons (show zg0 base (In w) w v0 (.pure (.agg (base.enc 25 x0))) from r0) (.cons (show zg0 base (In w) w v1 (.pure (.lit (.int .u8 x1))) from r1) (.nil))) fun _ _ h => zg0.cg (cx := base) (cx' := base0) ⟨rfl, rfl, rfl, rfl, rfl, rfl⟩ h)⟩
theorem zwo : Tryz.prog.inPlace 4 = Rows.statisticsOrderRow.inPlace := by kernel_rfl
theorem zud : Tryz.prog.unfollowed 4 = Rows.statisticsOrderRow.unfollowed := by kernel_rfl
theorem zvr : Tryz.prog.recurses 4 = Rows.statisticsOrderRow.recurses := by kernel_rfl
theorem zu9 : Tryz.prog.varsNamed 4 = Rows.statisticsOrderRow.named := by kernel_rfl
theorem zxq : joinedFacts Tryz.prog 4 Tryz.f4 Rows.statisticsOrderSpec Rows.statisticsOrderRow = true := by
  unfold joinedFacts
  rw [zGB, zKg, zJc, zJT, zJ0, zKj, zwo, zud, zvr, zu9]
  kernel_rfl
theorem zz4 : Rows.StatisticsOrderSaid :=
  OpenClaim.holds_of_wide 4 Tryz.f4 rfl rfl rfl rfl rfl rfl rfl ⟨rfl, rfl, rfl, rfl, rfl⟩ rfl rfl rfl rfl rfl (by kernel_rfl) Tryz.func4 zxq
    (of_decide_eq_true (by kernel_rfl)) (by unfold Func.isWrapper; rw [if_neg (of_decide_eq_false (by kernel_rfl))]; exact ⟨rfl, rfl⟩)
    (fun os started H enc _ => zxp os started H enc)
theorem statisticsOrder_holds : Rows.StatisticsOrderCardSaid :=
  Claim7.holds_tied_plain_at .later [] [.data, .data, .data, .data, .pinned] true (true, "bf0c0a4381aaf4fd3c266189531b2c7d7155b8fe72277c5f3dbcc7d3b4dee894") false
    zz4 (fun _ h => by cases h) (by kernel_rfl) (fun _ h => by cases h) statisticsOrder_row_tie rfl ⟨rfl, rfl⟩ (by kernel_rfl) rfl
    (fun f fn hf hfn => by
      obtain rfl : f = 4 := Option.some.inj ((show Tryz.prog.funcNamed "lineage/lineagelaw37.StatisticsOrder" = some 4 by kernel_rfl).symm.trans hf) |>.symm
      obtain rfl : fn = Tryz.f4 := (Option.some.inj (Tryz.func4.symm.trans hfn)).symm
      exact ⟨by kernel_rfl, fun j t ht => by
        have ht' : t ∈ Tryz.f4.params.toList := by
          have := Array.mem_of_getElem? ht
          simpa using this
        rw [show Tryz.f4.params.toList = [25, 5] by kernel_rfl] at ht'
        simp only [List.mem_cons, List.not_mem_nil, or_false] at ht'
        rcases ht' with rfl | rfl
        · exact (show Tryz.prog.wantsStandIn 25 = false by kernel_rfl)
        · exact (show Tryz.prog.wantsStandIn 5 = false by kernel_rfl)
        ⟩)
    (by kernel_rfl)
#print axioms statisticsOrder_holds
end Go.Proofs.YtddkaehkimnklaaGreatDoor
