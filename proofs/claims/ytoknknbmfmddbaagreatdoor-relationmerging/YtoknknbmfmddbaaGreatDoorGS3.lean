/- Texts of this claim, joined (the program as a whole, and the law of one row). -/
import Derived.Test.YtoknknbmfmddbaaGreatDoorTie
import Derived.Test.YtoknknbmfmddbaaGreatDoorGS1
import Derived.Test.YtoknknbmfmddbaaGreatDoorGC13
set_option autoImplicit false
set_option linter.unusedVariables false
set_option linter.unusedSectionVars false
set_option linter.unusedSimpArgs false
set_option maxRecDepth 1000000
set_option maxHeartbeats 0
/- RelationMerging: For every input the law returns true, and the input reads afterwards as it read before. -/
noncomputable section
namespace Go.Proofs.YtoknknbmfmddbaaGreatDoor
open Go Go.Ab Go.RowKit Go.ChangeShapes Go.WideShapes
open Go.Proofs.Tryz
theorem zLT (os:Os) (started:os.Started) (H:Type) (enc:TypeId×_root_.Go.Value->H):
  ReturnsInHanded {} Tryz.checked os 7 .any (λw args=>(Rows.relationMergingSpec.pre enc Tryz.prog f7 [] false w args/\laidMetH Tryz.prog zDR w)/\sizedMet enc Tryz.prog f7 (OpenSpec.ofChange Rows.relationMergingSpec) false w args) (Rows.relationMergingSpec.post enc Tryz.prog f7 false true false false):=by
 refine z6Z (C:=Tryz.checked) (cx:=zbE) (B:=4) (sp:=znY) own started (by kernel_rfl) func7
  (ChangeSpec.witness_at (enc:=enc) (C:=Tryz.checked) (os:=os) (X:=λw _=>laidMetH Tryz.prog zDR w) false (z04 os) #[.agg #[.slice none 0 0,.slice none 0 0],.int .u8 0] 8 rfl (by kernel_rfl) (by kernel_rfl) (by kernel_rfl) (by kernel_rfl) (by kernel_rfl) (z2H os _))
  z5U (λt ht=> ?_) rfl (by kernel_rfl) underlying4 (λds hd=> ?_) zEY (λw hs h=>zbdq w hs h) (λw vs ds ps hv hA hz=> ?_)
 ·rw [show f7.params.toList=[25,5] by kernel_rfl] at ht
  simp only [qd,List.not_mem_nil,or_false] at ht;rcases ht with rfl | rfl
  all_goals exact ⟨by kernel_rfl,of_decide_eq_true (by kernel_rfl)⟩
 ·rw [show f7.params.size=2 by kernel_rfl] at hd
  match ds,hd with
  | [d0,d1],_=>rfl
 ·rw [show f7.params.toList=[25,5] by kernel_rfl] at hv hA hz
  obtain ⟨v0,vs1,ds1,ps1,x0,rfl,r0,w0,hv,hA,hz⟩:=z41 zbbF (z5S underlying25) hv hA hz;obtain ⟨v1,vs2,ds2,ps2,x1,rfl,r1,w1,hv,hA,hz⟩:=z41 zbdh (z8i underlying5 trivial (λx:Int=>.lit (.int .u8 x)) (λ_=>rfl)) hv hA hz
  obtain rfl:=zbck hA;have hp:=z16 x0 x1 w0 w1;have e:znY [.pure (.agg (base.enc 25 x0)),.pure (.lit (.int .u8 x1))]=some ((zhs x0 x1).1,zRy (zhs x0 x1).2):=by kernel_rfl
  rw [hp] at e;exact ⟨[.pure (.agg (base.enc 25 x0)),.pure (.lit (.int .u8 x1))],e,rfl,(All2.imp (.cons (show zjX base (In w) w v0 (.pure (.agg (base.enc 25 x0))) from r0) (.cons (show zjX base (In w) w v1 (.pure (.lit (.int .u8 x1))) from r1) (.nil))) λ_ _ h=>zjX.cg (cx:=base) (cx':=zbE) ⟨rfl,rfl,rfl,rfl,rfl,rfl⟩ h)⟩
theorem zKf:Tryz.prog.inPlace 7=Rows.relationMergingRow.inPlace:=by kernel_rfl
theorem zFR:Tryz.prog.unfollowed 7=Rows.relationMergingRow.unfollowed:=by kernel_rfl
theorem zJO:Tryz.prog.recurses 7=Rows.relationMergingRow.recurses:=by kernel_rfl
theorem zHi:Tryz.prog.varsNamed 7=Rows.relationMergingRow.named:=by kernel_rfl
theorem zMO:joinedFacts Tryz.prog 7 f7 Rows.relationMergingSpec Rows.relationMergingRow=true:=by
 unfold joinedFacts;rw [z5U,zbdc,zbbw,zbb4,zbdi,zbdt,zKf,zFR,zJO,zHi]
 kernel_rfl
theorem zRQ:Rows.RelationMergingSaid:=
 OpenClaim.holds_of_wide 7 f7 rfl rfl rfl rfl rfl rfl rfl ⟨rfl,rfl,rfl,rfl,rfl⟩ rfl rfl rfl rfl rfl (by kernel_rfl) func7 zMO
  (of_decide_eq_true (by kernel_rfl)) (by unfold Func.isWrapper; rw [if_neg (of_decide_eq_false (by kernel_rfl))]; exact ⟨rfl,rfl⟩)
  (λos started H enc _=>zLT os started H enc)
end Go.Proofs.YtoknknbmfmddbaaGreatDoor
end
