/- Texts of this claim, joined (the program as a whole, and the law of one row). -/
import Derived.Test.YtljlfiomikifjaaGreatDoorTie
import Derived.Test.YtljlfiomikifjaaGreatDoorGS1
import Derived.Test.YtljlfiomikifjaaGreatDoorGC12
set_option autoImplicit false
set_option linter.unusedVariables false
set_option linter.unusedSectionVars false
set_option linter.unusedSimpArgs false
set_option maxRecDepth 1000000
set_option maxHeartbeats 0
/- AbsorptionAntichain: For every input the law returns true, and the input reads afterwards as it read before. -/
noncomputable section
namespace Go.Proofs.YtljlfiomikifjaaGreatDoor
open Go Go.Ab Go.RowKit Go.ChangeShapes Go.WideShapes
open Go.Proofs.Tryz
theorem zL7 (os:Os) (started:os.Started) (H:Type) (enc:TypeId×_root_.Go.Value->H):
  ReturnsInHanded {} Tryz.checked os 9 .any (λw args=>(Rows.absorptionAntichainSpec.pre enc Tryz.prog f9 [] false w args/\laidMetH Tryz.prog zJu w)/\sizedMet enc Tryz.prog f9 (OpenSpec.ofChange Rows.absorptionAntichainSpec) false w args) (Rows.absorptionAntichainSpec.post enc Tryz.prog f9 false true false false):=by
 refine zbeo (C:=Tryz.checked) (cx:=zb2) (B:=4) (sp:=zmq) own started (by kernel_rfl) func9
  (ChangeSpec.witness_at (enc:=enc) (C:=Tryz.checked) (os:=os) (X:=λw _=>laidMetH Tryz.prog zJu w) false (z9e os) #[.slice none 0 0] 8 rfl (by kernel_rfl) (by kernel_rfl) (by kernel_rfl) (by kernel_rfl) (by kernel_rfl) (zbar os _))
  zbdV (λt ht=> ?_) rfl (by kernel_rfl) underlying4 (λds hd=> ?_) zGs (λw hs h=>zbjF w hs h) (λw vs ds ps hv hA hz=> ?_)
 ·rw [show f9.params.toList=[23] by kernel_rfl] at ht
  simp only [qd,List.not_mem_nil,or_false] at ht;rcases ht with rfl
  all_goals exact ⟨by kernel_rfl,of_decide_eq_true (by kernel_rfl)⟩
 ·rw [show f9.params.size=1 by kernel_rfl] at hd
  match ds,hd with
  | [d0],_=>rfl
 ·rw [show f9.params.toList=[23] by kernel_rfl] at hv hA hz
  obtain ⟨v0,vs1,ds1,ps1,x0,rfl,r0,w0,hv,hA,hz⟩:=zbht zbiV (zbgu underlying23 trivial (λx:yC=>.sl 28 x) (λ_=>rfl)) hv hA hz
  obtain rfl:=zbi8 hA;have hp:=z6e x0 w0;have e:zmq [.pure (.sl 28 x0)]=some ((zfR x0).1,zYt (zfR x0).2):=by kernel_rfl
  rw [hp] at e;exact ⟨[.pure (.sl 28 x0)],e,rfl,(All2.imp (.cons (show zmu base (In w) w v0 (.pure (.sl 28 x0)) from r0) (.nil)) λ_ _ h=>zmu.cg (cx:=base) (cx':=zb2) ⟨rfl,rfl,rfl,rfl,rfl,rfl⟩ h)⟩
theorem zLm:Tryz.prog.inPlace 9=Rows.absorptionAntichainRow.inPlace:=by kernel_rfl
theorem zHM:Tryz.prog.unfollowed 9=Rows.absorptionAntichainRow.unfollowed:=by kernel_rfl
theorem zJm:Tryz.prog.recurses 9=Rows.absorptionAntichainRow.recurses:=by kernel_rfl
theorem zIk:Tryz.prog.varsNamed 9=Rows.absorptionAntichainRow.named:=by kernel_rfl
theorem zLU:joinedFacts Tryz.prog 9 f9 Rows.absorptionAntichainSpec Rows.absorptionAntichainRow=true:=by
 unfold joinedFacts;rw [zbdV,zbky,zbjs,zbiO,zbkl,zbkv,zLm,zHM,zJm,zIk]
 kernel_rfl
theorem zQZ:Rows.AbsorptionAntichainSaid:=
 OpenClaim.holds_of_wide 9 f9 rfl rfl rfl rfl rfl rfl rfl ⟨rfl,rfl,rfl,rfl,rfl⟩ rfl rfl rfl rfl rfl (by kernel_rfl) func9 zLU
  (of_decide_eq_true (by kernel_rfl)) (by unfold Func.isWrapper; rw [if_neg (of_decide_eq_false (by kernel_rfl))]; exact ⟨rfl,rfl⟩)
  (λos started H enc _=>zL7 os started H enc)
end Go.Proofs.YtljlfiomikifjaaGreatDoor
end
