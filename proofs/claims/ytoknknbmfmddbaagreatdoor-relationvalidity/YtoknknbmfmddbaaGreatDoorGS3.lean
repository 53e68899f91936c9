/- Texts of this claim, joined (the program as a whole, and the law of one row). -/
import Derived.Test.YtoknknbmfmddbaaGreatDoorTie
import Derived.Test.YtoknknbmfmddbaaGreatDoorGS1
import Derived.Test.YtoknknbmfmddbaaGreatDoorGC13
set_option autoImplicit false
set_option linter.unusedVariables false
set_option linter.unusedSectionVars false
set_option linter.unusedSimpArgs false
set_option maxRecDepth 1000000
set_option maxHeartbeats 0
/- RelationValidity: For every input the law returns true, and the input reads afterwards as it read before. -/
noncomputable section
namespace Go.Proofs.YtoknknbmfmddbaaGreatDoor
open Go Go.Ab Go.RowKit Go.ChangeShapes Go.WideShapes
open Go.Proofs.Tryz
theorem zJT (os:Os) (started:os.Started) (H:Type) (enc:TypeId×_root_.Go.Value->H):
  ReturnsInHanded {} Tryz.checked os 3 .any (λw args=>(Rows.relationValiditySpec.pre enc Tryz.prog f3 [] false w args/\laidMetH Tryz.prog zDf w)/\sizedMet enc Tryz.prog f3 (OpenSpec.ofChange Rows.relationValiditySpec) false w args) (Rows.relationValiditySpec.post enc Tryz.prog f3 false true false false):=by
 refine z7U (C:=Tryz.checked) (cx:=zbD) (B:=4) (sp:=zlH) own started (by kernel_rfl) func3
  (ChangeSpec.witness_at (enc:=enc) (C:=Tryz.checked) (os:=os) (X:=λw _=>laidMetH Tryz.prog zDf w) false (z2l os) #[.agg #[.slice none 0 0,.slice none 0 0],.agg #[.slice none 0 0,.slice none 0 0]] 8 rfl (by kernel_rfl) (by kernel_rfl) (by kernel_rfl) (by kernel_rfl) (by kernel_rfl) (z3z os _))
  z6b (λt ht=> ?_) rfl (by kernel_rfl) underlying4 (λds hd=> ?_) zCZ (λw hs h=>zbcB w hs h) (λw vs ds ps hv hA hz=> ?_)
 ·rw [show f3.params.toList=[25,25] by kernel_rfl] at ht
  simp only [qd,List.not_mem_nil,or_false] at ht;rcases ht with rfl | rfl
  all_goals exact ⟨by kernel_rfl,of_decide_eq_true (by kernel_rfl)⟩
 ·rw [show f3.params.size=2 by kernel_rfl] at hd
  match ds,hd with
  | [d0,d1],_=>rfl
 ·rw [show f3.params.toList=[25,25] by kernel_rfl] at hv hA hz
  obtain ⟨v0,vs1,ds1,ps1,x0,rfl,r0,w0,hv,hA,hz⟩:=z4p z6B (zWe underlying25) hv hA hz;obtain ⟨v1,vs2,ds2,ps2,x1,rfl,r1,w1,hv,hA,hz⟩:=z4p z6B (zWe underlying25) hv hA hz;obtain rfl:=zbbM hA;have hp:=z1g x0 x1 w0 w1;have e:zlH [.pure (.agg (base.enc 25 x0)),.pure (.agg (base.enc 25 x1))]=some ((zf5 x0 x1).1,zQK (zf5 x0 x1).2):=by kernel_rfl
  rw [hp] at e;exact ⟨[.pure (.agg (base.enc 25 x0)),.pure (.agg (base.enc 25 x1))],e,rfl,(All2.imp (.cons (show zjb base (In w) w v0 (.pure (.agg (base.enc 25 x0))) from r0) (.cons (show zjb base (In w) w v1 (.pure (.agg (base.enc 25 x1))) from r1) (.nil))) λ_ _ h=>zjb.cg (cx:=base) (cx':=zbD) ⟨rfl,rfl,rfl,rfl,rfl,rfl⟩ h)⟩
theorem zHW:Tryz.prog.inPlace 3=Rows.relationValidityRow.inPlace:=by kernel_rfl
theorem zEa:Tryz.prog.unfollowed 3=Rows.relationValidityRow.unfollowed:=by kernel_rfl
theorem zHf:Tryz.prog.recurses 3=Rows.relationValidityRow.recurses:=by kernel_rfl
theorem zEZ:Tryz.prog.varsNamed 3=Rows.relationValidityRow.named:=by kernel_rfl
theorem zJH:joinedFacts Tryz.prog 3 f3 Rows.relationValiditySpec Rows.relationValidityRow=true:=by
 unfold joinedFacts;rw [z6b,zbcb,zba3,zbaN,zbcL,zbc8,zHW,zEa,zHf,zEZ]
 kernel_rfl
theorem zN6:Rows.RelationValiditySaid:=
 OpenClaim.holds_of_wide 3 f3 rfl rfl rfl rfl rfl rfl rfl ⟨rfl,rfl,rfl,rfl,rfl⟩ rfl rfl rfl rfl rfl (by kernel_rfl) func3 zJH
  (of_decide_eq_true (by kernel_rfl)) (by unfold Func.isWrapper; rw [if_neg (of_decide_eq_false (by kernel_rfl))]; exact ⟨rfl,rfl⟩)
  (λos started H enc _=>zJT os started H enc)
end Go.Proofs.YtoknknbmfmddbaaGreatDoor
end
