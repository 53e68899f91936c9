/- Texts of this claim, joined (the program as a whole, and the law of one row). -/
import Derived.Test.YtljlfiomikifjaaGreatDoorTie
import Derived.Test.YtljlfiomikifjaaGreatDoorGS1
import Derived.Test.YtljlfiomikifjaaGreatDoorGC13
set_option autoImplicit false
set_option linter.unusedVariables false
set_option linter.unusedSectionVars false
set_option linter.unusedSimpArgs false
set_option maxRecDepth 1000000
set_option maxHeartbeats 0
/- AbsorptionWitnesses: For every input the law returns true, and the input reads afterwards as it read before. -/
noncomputable section
namespace Go.Proofs.YtljlfiomikifjaaGreatDoor
open Go Go.Ab Go.RowKit Go.ChangeShapes Go.WideShapes
open Go.Proofs.Tryz
theorem zHT (os:Os) (started:os.Started) (H:Type) (enc:TypeId×_root_.Go.Value->H):
  ReturnsInHanded {} Tryz.checked os 5 .any (λw args=>(Rows.absorptionWitnessesSpec.pre enc Tryz.prog f5 [] false w args/\laidMetH Tryz.prog zE6 w)/\sizedMet enc Tryz.prog f5 (OpenSpec.ofChange Rows.absorptionWitnessesSpec) false w args) (Rows.absorptionWitnessesSpec.post enc Tryz.prog f5 false true false false):=by
 refine zbcn (C:=Tryz.checked) (cx:=zbU) (B:=4) (sp:=zkI) own started (by kernel_rfl) func5
  (ChangeSpec.witness_at (enc:=enc) (C:=Tryz.checked) (os:=os) (X:=λw _=>laidMetH Tryz.prog zE6 w) false (z7y os) #[.slice none 0 0] 8 rfl (by kernel_rfl) (by kernel_rfl) (by kernel_rfl) (by kernel_rfl) (by kernel_rfl) (z8v os _))
  zbbu (λt ht=> ?_) rfl (by kernel_rfl) underlying4 (λds hd=> ?_) zCU (λw hs h=>zbha w hs h) (λw vs ds ps hv hA hz=> ?_)
 ·rw [show f5.params.toList=[23] by kernel_rfl] at ht
  simp only [qd,List.not_mem_nil,or_false] at ht;rcases ht with rfl
  all_goals exact ⟨by kernel_rfl,of_decide_eq_true (by kernel_rfl)⟩
 ·rw [show f5.params.size=1 by kernel_rfl] at hd
  match ds,hd with
  | [d0],_=>rfl
 ·rw [show f5.params.toList=[23] by kernel_rfl] at hv hA hz
  obtain ⟨v0,vs1,ds1,ps1,x0,rfl,r0,w0,hv,hA,hz⟩:=zbeu zbfR (zbdB underlying23 trivial (λx:yC=>.sl 28 x) (λ_=>rfl)) hv hA hz
  obtain rfl:=zbgp hA;have hp:=z3P x0 w0;have e:zkI [.pure (.sl 28 x0)]=some ((ze9 x0).1,zVf (ze9 x0).2):=by kernel_rfl
  rw [hp] at e;exact ⟨[.pure (.sl 28 x0)],e,rfl,(All2.imp (.cons (show zkw base (In w) w v0 (.pure (.sl 28 x0)) from r0) (.nil)) λ_ _ h=>zkw.cg (cx:=base) (cx':=zbU) ⟨rfl,rfl,rfl,rfl,rfl,rfl⟩ h)⟩
theorem zGD:Tryz.prog.inPlace 5=Rows.absorptionWitnessesRow.inPlace:=by kernel_rfl
theorem zDb:Tryz.prog.unfollowed 5=Rows.absorptionWitnessesRow.unfollowed:=by kernel_rfl
theorem zF6:Tryz.prog.recurses 5=Rows.absorptionWitnessesRow.recurses:=by kernel_rfl
theorem zEo:Tryz.prog.varsNamed 5=Rows.absorptionWitnessesRow.named:=by kernel_rfl
theorem zHR:joinedFacts Tryz.prog 5 f5 Rows.absorptionWitnessesSpec Rows.absorptionWitnessesRow=true:=by
 unfold joinedFacts;rw [zbbu,zbgx,zbfY,zbfO,zbhf,zbgM,zGD,zDb,zF6,zEo]
 kernel_rfl
theorem zMq:Rows.AbsorptionWitnessesSaid:=
 OpenClaim.holds_of_wide 5 f5 rfl rfl rfl rfl rfl rfl rfl ⟨rfl,rfl,rfl,rfl,rfl⟩ rfl rfl rfl rfl rfl (by kernel_rfl) func5 zHR
  (of_decide_eq_true (by kernel_rfl)) (by unfold Func.isWrapper; rw [if_neg (of_decide_eq_false (by kernel_rfl))]; exact ⟨rfl,rfl⟩)
  (λos started H enc _=>zHT os started H enc)
end Go.Proofs.YtljlfiomikifjaaGreatDoor
end
