/- Texts of this claim, joined (the program as a whole, and the law of one row). -/
import Derived.Test.YtoknknbmfmddbaaGreatDoorTie
import Derived.Test.YtoknknbmfmddbaaGreatDoorGS1
import Derived.Test.YtoknknbmfmddbaaGreatDoorGC13
set_option autoImplicit false
set_option linter.unusedVariables false
set_option linter.unusedSectionVars false
set_option linter.unusedSimpArgs false
set_option maxRecDepth 1000000
set_option maxHeartbeats 0
/- RelationAddition: For every input the law returns true, and the input reads afterwards as it read before. -/
noncomputable section
namespace Go.Proofs.YtoknknbmfmddbaaGreatDoor
open Go Go.Ab Go.RowKit Go.ChangeShapes Go.WideShapes
open Go.Proofs.Tryz
theorem zKM (os:Os) (started:os.Started) (H:Type) (enc:TypeId×_root_.Go.Value->H):
  ReturnsInHanded {} Tryz.checked os 5 .any (λw args=>(Rows.relationAdditionSpec.pre enc Tryz.prog f5 [] false w args/\laidMetH Tryz.prog zEJ w)/\sizedMet enc Tryz.prog f5 (OpenSpec.ofChange Rows.relationAdditionSpec) false w args) (Rows.relationAdditionSpec.post enc Tryz.prog f5 false true false false):=by
 refine z6H (C:=Tryz.checked) (cx:=zbp) (B:=4) (sp:=znd) own started (by kernel_rfl) func5
  (ChangeSpec.witness_at (enc:=enc) (C:=Tryz.checked) (os:=os) (X:=λw _=>laidMetH Tryz.prog zEJ w) false (z07 os) #[.agg #[.slice none 0 0,.slice none 0 0],.agg #[.slice none 0 0,.slice none 0 0],.agg #[.slice none 0 0,.slice none 0 0]] 8 rfl (by kernel_rfl) (by kernel_rfl) (by kernel_rfl) (by kernel_rfl) (by kernel_rfl) (z2g os _))
  z5t (λt ht=> ?_) rfl (by kernel_rfl) underlying4 (λds hd=> ?_) zEL (λw hs h=>zbb2 w hs h) (λw vs ds ps hv hA hz=> ?_)
 ·rw [show f5.params.toList=[25,25,25] by kernel_rfl] at ht
  simp only [qd,List.not_mem_nil,or_false] at ht;rcases ht with rfl | rfl | rfl
  all_goals exact ⟨by kernel_rfl,of_decide_eq_true (by kernel_rfl)⟩
 ·rw [show f5.params.size=3 by kernel_rfl] at hd
  match ds,hd with
  | [d0,d1,d2],_=>rfl
 ·rw [show f5.params.toList=[25,25,25] by kernel_rfl] at hv hA hz
  obtain ⟨v0,vs1,ds1,ps1,x0,rfl,r0,w0,hv,hA,hz⟩:=zXC z0d (zNo underlying25) hv hA hz;obtain ⟨v1,vs2,ds2,ps2,x1,rfl,r1,w1,hv,hA,hz⟩:=zXC z0d (zNo underlying25) hv hA hz;obtain ⟨v2,vs3,ds3,ps3,x2,rfl,r2,w2,hv,hA,hz⟩:=zXC z0d (zNo underlying25) hv hA hz;obtain rfl:=zbay hA;have hp:=z0E x0 x1 x2 w0 w1 w2;have e:znd [.pure (.agg (base.enc 25 x0)),.pure (.agg (base.enc 25 x1)),.pure (.agg (base.enc 25 x2))]=some ((zhc x0 x1 x2).1,zSj (zhc x0 x1 x2).2):=by kernel_rfl
  rw [hp] at e;exact ⟨[.pure (.agg (base.enc 25 x0)),.pure (.agg (base.enc 25 x1)),.pure (.agg (base.enc 25 x2))],e,rfl,(All2.imp (.cons (show zkq base (In w) w v0 (.pure (.agg (base.enc 25 x0))) from r0) (.cons (show zkq base (In w) w v1 (.pure (.agg (base.enc 25 x1))) from r1) (.cons (show zkq base (In w) w v2 (.pure (.agg (base.enc 25 x2))) from r2) (.nil)))) λ_ _ h=>zkq.cg (cx:=base) (cx':=zbp) ⟨rfl,rfl,rfl,rfl,rfl,rfl⟩ h)⟩
theorem zKs:Tryz.prog.inPlace 5=Rows.relationAdditionRow.inPlace:=by kernel_rfl
theorem zGh:Tryz.prog.unfollowed 5=Rows.relationAdditionRow.unfollowed:=by kernel_rfl
theorem zIk:Tryz.prog.recurses 5=Rows.relationAdditionRow.recurses:=by kernel_rfl
theorem zGX:Tryz.prog.varsNamed 5=Rows.relationAdditionRow.named:=by kernel_rfl
theorem zKL:joinedFacts Tryz.prog 5 f5 Rows.relationAdditionSpec Rows.relationAdditionRow=true:=by
 unfold joinedFacts;rw [z5t,zbdk,zbaK,zbaG,zbb1,zbdf,zKs,zGh,zIk,zGX]
 kernel_rfl
theorem zP5:Rows.RelationAdditionSaid:=
 OpenClaim.holds_of_wide 5 f5 rfl rfl rfl rfl rfl rfl rfl ⟨rfl,rfl,rfl,rfl,rfl⟩ rfl rfl rfl rfl rfl (by kernel_rfl) func5 zKL
  (of_decide_eq_true (by kernel_rfl)) (by unfold Func.isWrapper; rw [if_neg (of_decide_eq_false (by kernel_rfl))]; exact ⟨rfl,rfl⟩)
  (λos started H enc _=>zKM os started H enc)
end Go.Proofs.YtoknknbmfmddbaaGreatDoor
end
