/- StatisticsRanges: For every input the law returns true, and the input reads afterwards as it read before. -/
import Derived.Test.YtddkaehkimnklaaGreatDoorGC1
import Derived.Test.YtddkaehkimnklaaGreatDoorGC5
import Derived.Test.YtddkaehkimnklaaGreatDoorGC6
import Derived.Test.YtddkaehkimnklaaGreatDoorCards
import Derived.Test.YtddkaehkimnklaaGreatDoorTie
set_option autoImplicit false
set_option maxRecDepth 1000000
set_option linter.unusedVariables false
namespace Go.Proofs.YtddkaehkimnklaaGreatDoor
open Go Go.Ab Go.RowKit Go.ChangeShapes Go.WideShapes
theorem zvh (os : Os) (started : os.Started) (H : Type) (enc : TypeId × _root_.Go.Value → H) :
    ReturnsInHanded {} Tryz.checked os 9 .any (fun w args => (Rows.statisticsRangesSpec.pre enc Tryz.prog Tryz.f9 [] false w args ∧ laidMetH Tryz.prog zrY w) ∧ sizedMet enc Tryz.prog Tryz.f9 (OpenSpec.ofChange Rows.statisticsRangesSpec) false w args) (Rows.statisticsRangesSpec.post enc Tryz.prog Tryz.f9 false true false false) := by
  refine zGf (C := Tryz.checked) (cx := base0) (B := 4) (sp := zig) own started (by kernel_rfl) Tryz.func9
    (ChangeSpec.witness_at (enc := enc) (C := Tryz.checked) (os := os) (X := fun w _ => laidMetH Tryz.prog zrY w) false (zDm os) #[.agg #[.int .i64 0, .int .i64 0, .slice none 0 0], .slice none 0 0, .int .i64 0, .slice none 0 0, .slice none 0 0] 8 rfl (by kernel_rfl) (by kernel_rfl) (by kernel_rfl) (by kernel_rfl) (by kernel_rfl) (zDE os _))
    zFx (fun t ht => ?_) rfl (by kernel_rfl) Tryz.underlying4 (fun ds hd => ?_) zrQ (fun w hs h => zIw w hs h) (fun w vs ds ps hv hA hz => ?_)
  · rw [show Tryz.f9.params.toList = [30, 53, 3, 34, 34] by kernel_rfl] at ht
    simp only [List.mem_cons, List.not_mem_nil, or_false] at ht
    rcases ht with rfl | rfl | rfl | rfl | rfl
    all_goals exact ⟨by kernel_rfl, of_decide_eq_true (by kernel_rfl)⟩
  · rw [show Tryz.f9.params.size = 5 by kernel_rfl] at hd
    match ds, hd with
    | [d0, d1, d2, d3, d4], _ => rfl
  · rw [show Tryz.f9.params.toList = [30, 53, 3, 34, 34] by kernel_rfl] at hv hA hz
    obtain ⟨v0, vs1, ds1, ps1, x0, rfl, r0, w0, hv, hA, hz⟩ := zuF zIt (zE8 Tryz.underlying30) hv hA hz
    obtain ⟨v1, vs2, ds2, ps2, x1, rfl, r1, w1, hv, hA, hz⟩ := zuF zH4 (zvD Tryz.underlying53 trivial (fun x : List Int => .sl 3 x) (fun _ => rfl)) hv hA hz
    obtain ⟨v2, vs3, ds3, ps3, x2, rfl, r2, w2, hv, hA, hz⟩ := zuF zwZ (zvD Tryz.underlying3 trivial (fun x : Int => .lit (.int .i64 x)) (fun _ => rfl)) hv hA hz
    obtain ⟨v3, vs4, ds4, ps4, x3, rfl, r3, w3, hv, hA, hz⟩ := zuF zCT (zvD Tryz.underlying34 trivial (fun x : List Value => .sl 40 x) (fun _ => rfl)) hv hA hz
    obtain ⟨v4, vs5, ds5, ps5, x4, rfl, r4, w4, hv, hA, hz⟩ := zuF zCT (zvD Tryz.underlying34 trivial (fun x : List Value => .sl 40 x) (fun _ => rfl)) hv hA hz
    obtain rfl := zHZ hA
    have hp := zEK x0 x1 x2 x3 x4 w0 w1 w2 w3 w4
    have e : zig [.pure (.agg (base.enc 30 x0)), .pure (.sl 3 x1), .pure (.lit (.int .i64 x2)), .pure (.sl 40 x3), .pure (.sl 40 x4)] = some ((zel x0 x1 x2 x3 x4).1, ziB (zel x0 x1 x2 x3 x4).2) := by kernel_rfl
    rw [hp] at e
    exact ⟨[.pure (.agg (base.enc 30 x0)), .pure (.sl 3 x1), .pure (.lit (.int .i64 x2)), .pure (.sl 40 x3), .pure (.sl 40 x4)], e, rfl, (All2.imp (.cons (show zfJ base (In w) w v0 (.pure (.agg (base.enc 30 x0))) from r0) (.cons (show zfJ base (In w) w v1 (.pure (.sl 3 x1)) from r1) (.cons (show zfJ base (In w) w v2 (.pure (.lit (.int .i64 x2))) from r2) (.cons (show zfJ base (In w) w v3 (.pure (.sl 40 x3)) from r3) (.cons (show zfJ base (In w) w v4 (.pure (.sl 40 x4)) from r4) (.nil)))))) fun _ _ h => zfJ.cg (cx := base) (cx' := base0) ⟨rfl, rfl, rfl, rfl, rfl, rfl⟩ h)⟩
theorem zuy : Tryz.prog.inPlace 9 = Rows.statisticsRangesRow.inPlace := by kernel_rfl
theorem zsp : Tryz.prog.unfollowed 9 = Rows.statisticsRangesRow.unfollowed := by kernel_rfl
theorem zuc : Tryz.prog.recurses 9 = Rows.statisticsRangesRow.recurses := by kernel_rfl
theorem zs4 : Tryz.prog.varsNamed 9 = Rows.statisticsRangesRow.named := by kernel_rfl
theorem zvd : joinedFacts Tryz.prog 9 Tryz.f9 Rows.statisticsRangesSpec Rows.statisticsRangesRow = true := by
  unfold joinedFacts
  rw [zFx, zIW, zIq, zIb, zIO, zIX, zuy, zsp, zuc, zs4]
  kernel_rfl
theorem zxU : Rows.StatisticsRangesSaid :=
  OpenClaim.holds_of_wide 9 Tryz.f9 rfl rfl rfl rfl rfl rfl rfl ⟨rfl, rfl, rfl, rfl, rfl⟩ rfl rfl rfl rfl rfl (by kernel_rfl) Tryz.func9 zvd
    (of_decide_eq_true (by kernel_rfl)) (by unfold Func.isWrapper; rw [if_neg (of_decide_eq_false (by kernel_rfl))]; exact ⟨rfl, rfl⟩)
    (fun os started H enc _ => zvh os started H enc)
theorem statisticsRanges_holds : Rows.StatisticsRangesCardSaid :=
  Claim7.holds_tied_plain_at .later [] [.data, .data, .data, .data, .pinned] true (true, "bf0c0a4381aaf4fd3c266189531b2c7d7155b8fe72277c5f3dbcc7d3b4dee894") false
    zxU (fun _ h => by cases h) (by kernel_rfl) (fun _ h => by cases h) statisticsRanges_row_tie rfl ⟨rfl, rfl⟩ (by kernel_rfl) rfl
    (fun f fn hf hfn => by
      obtain rfl : f = 9 := Option.some.inj ((show Tryz.prog.funcNamed "lineage/lineagelaw37.StatisticsRanges" = some 9 by kernel_rfl).symm.trans hf) |>.symm
      obtain rfl : fn = Tryz.f9 := (Option.some.inj (Tryz.func9.symm.trans hfn)).symm
      exact ⟨by kernel_rfl, fun j t ht => by
        have ht' : t ∈ Tryz.f9.params.toList := by
          have := Array.mem_of_getElem? ht
          simpa using this
        rw [show Tryz.f9.params.toList = [30, 53, 3, 34, 34] by kernel_rfl] at ht'
        simp only [List.mem_cons, List.not_mem_nil, or_false] at ht'
        rcases ht' with rfl | rfl | rfl | rfl | rfl
        · exact (show Tryz.prog.wantsStandIn 30 = false by kernel_rfl)
        · exact (show Tryz.prog.wantsStandIn 53 = false by kernel_rfl)
        · exact (show Tryz.prog.wantsStandIn 3 = false by kernel_rfl)
        · exact (show Tryz.prog.wantsStandIn 34 = false by kernel_rfl)
        · exact (show Tryz.prog.wantsStandIn 34 = false by kernel_rfl)
        ⟩)
    (by kernel_rfl)
#print axioms statisticsRanges_holds
end Go.Proofs.YtddkaehkimnklaaGreatDoor
