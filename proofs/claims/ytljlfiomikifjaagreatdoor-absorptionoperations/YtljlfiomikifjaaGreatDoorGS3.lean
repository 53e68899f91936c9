/- Texts of this claim, joined (the program as a whole, and the law of one row). -/
import Derived.Test.YtljlfiomikifjaaGreatDoorTie
import Derived.Test.YtljlfiomikifjaaGreatDoorGS1
import Derived.Test.YtljlfiomikifjaaGreatDoorGC12
set_option autoImplicit false
set_option linter.unusedVariables false
set_option linter.unusedSectionVars false
set_option linter.unusedSimpArgs false
set_option maxRecDepth 1000000
set_option maxHeartbeats 0
/- AbsorptionOperations: For every input the law returns true, and the input reads afterwards as it read before. -/
noncomputable section
namespace Go.Proofs.YtljlfiomikifjaaGreatDoor
open Go Go.Ab Go.RowKit Go.ChangeShapes Go.WideShapes
open Go.Proofs.Tryz
theorem zKd (os:Os) (started:os.Started) (H:Type) (enc:TypeId×_root_.Go.Value->H):
  ReturnsInHanded {} Tryz.checked os 11 .any (λw args=>(Rows.absorptionOperationsSpec.pre enc Tryz.prog f11 [] false w args/\laidMetH Tryz.prog zJd w)/\sizedMet enc Tryz.prog f11 (OpenSpec.ofChange Rows.absorptionOperationsSpec) false w args) (Rows.absorptionOperationsSpec.post enc Tryz.prog f11 false true false false):=by
 refine zbib (C:=Tryz.checked) (cx:=zbH) (B:=4) (sp:=zk4) own started (by kernel_rfl) func11
  (ChangeSpec.witness_at (enc:=enc) (C:=Tryz.checked) (os:=os) (X:=λw _=>laidMetH Tryz.prog zJd w) false (zbbw os) #[.slice none 0 0,.slice none 0 0,.slice none 0 0] 8 rfl (by kernel_rfl) (by kernel_rfl) (by kernel_rfl) (by kernel_rfl) (by kernel_rfl) (zbcV os _))
  zbg9 (λt ht=> ?_) rfl (by kernel_rfl) underlying4 (λds hd=> ?_) zEQ (λw hs h=>zbnp w hs h) (λw vs ds ps hv hA hz=> ?_)
 ·rw [show f11.params.toList=[23,23,43] by kernel_rfl] at ht
  simp only [qd,List.not_mem_nil,or_false] at ht;rcases ht with rfl | rfl | rfl
  all_goals exact ⟨by kernel_rfl,of_decide_eq_true (by kernel_rfl)⟩
 ·rw [show f11.params.size=3 by kernel_rfl] at hd
  match ds,hd with
  | [d0,d1,d2],_=>rfl
 ·rw [show f11.params.toList=[23,23,43] by kernel_rfl] at hv hA hz
  obtain ⟨v0,vs1,ds1,ps1,x0,rfl,r0,w0,hv,hA,hz⟩:=z6G zbhd (zZS underlying23 trivial (λx:yC=>.sl 28 x) (λ_=>rfl)) hv hA hz
  obtain ⟨v1,vs2,ds2,ps2,x1,rfl,r1,w1,hv,hA,hz⟩:=z6G zbhd (zZS underlying23 trivial (λx:yC=>.sl 28 x) (λ_=>rfl)) hv hA hz
  obtain ⟨v2,vs3,ds3,ps3,x2,rfl,r2,w2,hv,hA,hz⟩:=z6G zblQ (zZS underlying43 trivial (λx:yF=>.sl 49 x) (λ_=>rfl)) hv hA hz
  obtain rfl:=zbl6 hA;have hp:=z5O x0 x1 x2 w0 w1 w2;have e:zk4 [.pure (.sl 28 x0),.pure (.sl 28 x1),.pure (.sl 49 x2)]=some ((zeY x0 x1 x2).1,zYA (zeY x0 x1 x2).2):=by kernel_rfl
  rw [hp] at e;exact ⟨[.pure (.sl 28 x0),.pure (.sl 28 x1),.pure (.sl 49 x2)],e,rfl,(All2.imp (.cons (show zkj base (In w) w v0 (.pure (.sl 28 x0)) from r0) (.cons (show zkj base (In w) w v1 (.pure (.sl 28 x1)) from r1) (.cons (show zkj base (In w) w v2 (.pure (.sl 49 x2)) from r2) (.nil)))) λ_ _ h=>zkj.cg (cx:=base) (cx':=zbH) ⟨rfl,rfl,rfl,rfl,rfl,rfl⟩ h)⟩
theorem zJp:Tryz.prog.inPlace 11=Rows.absorptionOperationsRow.inPlace:=by kernel_rfl
theorem zFZ:Tryz.prog.unfollowed 11=Rows.absorptionOperationsRow.unfollowed:=by kernel_rfl
theorem zHN:Tryz.prog.recurses 11=Rows.absorptionOperationsRow.recurses:=by kernel_rfl
theorem zHa:Tryz.prog.varsNamed 11=Rows.absorptionOperationsRow.named:=by kernel_rfl
theorem zKF:joinedFacts Tryz.prog 11 f11 Rows.absorptionOperationsSpec Rows.absorptionOperationsRow=true:=by
 unfold joinedFacts;rw [zbg9,zbnG,zbmm,zbmn,zbnx,zbnS,zJp,zFZ,zHN,zHa]
 kernel_rfl
theorem zPT:Rows.AbsorptionOperationsSaid:=
 OpenClaim.holds_of_wide 11 f11 rfl rfl rfl rfl rfl rfl rfl ⟨rfl,rfl,rfl,rfl,rfl⟩ rfl rfl rfl rfl rfl (by kernel_rfl) func11 zKF
  (of_decide_eq_true (by kernel_rfl)) (by unfold Func.isWrapper; rw [if_neg (of_decide_eq_false (by kernel_rfl))]; exact ⟨rfl,rfl⟩)
  (λos started H enc _=>zKd os started H enc)
end Go.Proofs.YtljlfiomikifjaaGreatDoor
end
