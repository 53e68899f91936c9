/- Texts of this claim, joined (the program as a whole, and the law of one row). -/
import Derived.Test.YtoknknbmfmddbaaGreatDoorTie
import Derived.Test.YtoknknbmfmddbaaGreatDoorGS1
import Derived.Test.YtoknknbmfmddbaaGreatDoorGC12
set_option autoImplicit false
set_option linter.unusedVariables false
set_option linter.unusedSectionVars false
set_option linter.unusedSimpArgs false
set_option maxRecDepth 1000000
set_option maxHeartbeats 0
/- RelationNormalization: For every input the law returns true, and the input reads afterwards as it read before. -/
noncomputable section
namespace Go.Proofs.YtoknknbmfmddbaaGreatDoor
open Go Go.Ab Go.RowKit Go.ChangeShapes Go.WideShapes
open Go.Proofs.Tryz
theorem zFk (os:Os) (started:os.Started) (H:Type) (enc:TypeId×_root_.Go.Value->H):
  ReturnsInHanded {} Tryz.checked os 6 .any (λw args=>(Rows.relationNormalizationSpec.pre enc Tryz.prog f6 [] false w args/\laidMetH Tryz.prog zFc w)/\sizedMet enc Tryz.prog f6 (OpenSpec.ofChange Rows.relationNormalizationSpec) false w args) (Rows.relationNormalizationSpec.post enc Tryz.prog f6 false true false false):=by
 refine zbbo (C:=Tryz.checked) (cx:=zbt) (B:=4) (sp:=zjX) own started (by kernel_rfl) func6
  (ChangeSpec.witness_at (enc:=enc) (C:=Tryz.checked) (os:=os) (X:=λw _=>laidMetH Tryz.prog zFc w) false (z4Y os) #[.agg #[.slice none 0 0,.slice none 0 0],.agg #[.slice none 0 0,.slice none 0 0]] 8 rfl (by kernel_rfl) (by kernel_rfl) (by kernel_rfl) (by kernel_rfl) (by kernel_rfl) (z64 os _))
  zbaj (λt ht=> ?_) rfl (by kernel_rfl) underlying4 (λds hd=> ?_) zAH (λw hs h=>zbgE w hs h) (λw vs ds ps hv hA hz=> ?_)
 ·rw [show f6.params.toList=[25,25] by kernel_rfl] at ht
  simp only [qd,List.not_mem_nil,or_false] at ht;rcases ht with rfl | rfl
  all_goals exact ⟨by kernel_rfl,of_decide_eq_true (by kernel_rfl)⟩
 ·rw [show f6.params.size=2 by kernel_rfl] at hd
  match ds,hd with
  | [d0,d1],_=>rfl
 ·rw [show f6.params.toList=[25,25] by kernel_rfl] at hv hA hz
  obtain ⟨v0,vs1,ds1,ps1,x0,rfl,r0,w0,hv,hA,hz⟩:=z8H zbaB (zZC underlying25) hv hA hz;obtain ⟨v1,vs2,ds2,ps2,x1,rfl,r1,w1,hv,hA,hz⟩:=z8H zbaB (zZC underlying25) hv hA hz;obtain rfl:=zbfz hA;have hp:=zUt x0 x1 w0 w1;have e:zjX [.pure (.agg (base.enc 25 x0)),.pure (.agg (base.enc 25 x1))]=some ((zey x0 x1).1,zUI (zey x0 x1).2):=by kernel_rfl
  rw [hp] at e;exact ⟨[.pure (.agg (base.enc 25 x0)),.pure (.agg (base.enc 25 x1))],e,rfl,(All2.imp (.cons (show zkh base (In w) w v0 (.pure (.agg (base.enc 25 x0))) from r0) (.cons (show zkh base (In w) w v1 (.pure (.agg (base.enc 25 x1))) from r1) (.nil))) λ_ _ h=>zkh.cg (cx:=base) (cx':=zbt) ⟨rfl,rfl,rfl,rfl,rfl,rfl⟩ h)⟩
theorem zEt:Tryz.prog.inPlace 6=Rows.relationNormalizationRow.inPlace:=by kernel_rfl
theorem zBs:Tryz.prog.unfollowed 6=Rows.relationNormalizationRow.unfollowed:=by kernel_rfl
theorem zDe:Tryz.prog.recurses 6=Rows.relationNormalizationRow.recurses:=by kernel_rfl
theorem zCB:Tryz.prog.varsNamed 6=Rows.relationNormalizationRow.named:=by kernel_rfl
theorem zE3:joinedFacts Tryz.prog 6 f6 Rows.relationNormalizationSpec Rows.relationNormalizationRow=true:=by
 unfold joinedFacts;rw [zbaj,zbgw,zbe7,zbfD,zbhx,zbgW,zEt,zBs,zDe,zCB]
 kernel_rfl
theorem zJq:Rows.RelationNormalizationSaid:=
 OpenClaim.holds_of_wide 6 f6 rfl rfl rfl rfl rfl rfl rfl ⟨rfl,rfl,rfl,rfl,rfl⟩ rfl rfl rfl rfl rfl (by kernel_rfl) func6 zE3
  (of_decide_eq_true (by kernel_rfl)) (by unfold Func.isWrapper; rw [if_neg (of_decide_eq_false (by kernel_rfl))]; exact ⟨rfl,rfl⟩)
  (λos started H enc _=>zFk os started H enc)
end Go.Proofs.YtoknknbmfmddbaaGreatDoor
end
