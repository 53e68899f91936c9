/- Texts of this claim, joined (the program as a whole, and the law of one row). -/
import Derived.Test.YtljlfiomikifjaaGreatDoorTie
import Derived.Test.YtljlfiomikifjaaGreatDoorGS1
import Derived.Test.YtljlfiomikifjaaGreatDoorGC11
set_option autoImplicit false
set_option linter.unusedVariables false
set_option linter.unusedSectionVars false
set_option linter.unusedSimpArgs false
set_option maxRecDepth 1000000
set_option maxHeartbeats 0
/- AbsorptionLaws: For every input the law returns true, and the input reads afterwards as it read before. -/
noncomputable section
namespace Go.Proofs.YtljlfiomikifjaaGreatDoor
open Go Go.Ab Go.RowKit Go.ChangeShapes Go.WideShapes
open Go.Proofs.Tryz
theorem zSc (os:Os) (started:os.Started) (H:Type) (enc:TypeId×_root_.Go.Value→H):
  ReturnsInHanded {} Tryz.checked os 10 .any (fun w args=>(Rows.absorptionLawsSpec.pre enc Tryz.prog f10 [] false w args∧laidMetH Tryz.prog zGe w)∧sizedMet enc Tryz.prog f10 (OpenSpec.ofChange Rows.absorptionLawsSpec) false w args) (Rows.absorptionLawsSpec.post enc Tryz.prog f10 false true false false):=by
 refine zbbT (C:=Tryz.checked) (cx:=zbP) (B:=4) (sp:=zo5) own started (by kernel_rfl) func10
  (ChangeSpec.witness_at (enc:=enc) (C:=Tryz.checked) (os:=os) (X:=fun w _=>laidMetH Tryz.prog zGe w) false (z63 os) #[.slice none 0 0,.slice none 0 0] 8 rfl (by kernel_rfl) (by kernel_rfl) (by kernel_rfl) (by kernel_rfl) (by kernel_rfl) (z7L os _))
  zbbi (fun t ht=> ?_) rfl (by kernel_rfl) underlying4 (fun ds hd=> ?_) zJn (fun w hs h=>zbg2 w hs h) (fun w vs ds ps hv hA hz=> ?_)
 ·rw [show f10.params.toList=[23,23] by kernel_rfl] at ht
  simp only [qd,List.not_mem_nil,or_false] at ht;rcases ht with rfl | rfl
  all_goals exact ⟨by kernel_rfl,of_decide_eq_true (by kernel_rfl)⟩
 ·rw [show f10.params.size=2 by kernel_rfl] at hd
  match ds,hd with
  | [d0,d1],_=>rfl
 ·rw [show f10.params.toList=[23,23] by kernel_rfl] at hv hA hz
  obtain ⟨v0,vs1,ds1,ps1,x0,rfl,r0,w0,hv,hA,hz⟩:=zbaf zbbz (z65 underlying23 trivial (fun x:yC=>.sl 28 x) (fun _=>rfl)) hv hA hz
  obtain ⟨v1,vs2,ds2,ps2,x1,rfl,r1,w1,hv,hA,hz⟩:=zbaf zbbz (z65 underlying23 trivial (fun x:yC=>.sl 28 x) (fun _=>rfl)) hv hA hz
  obtain rfl:=zbfH hA;have hp:=zbcq x0 x1 w0 w1;have e:zo5 [.pure (.sl 28 x0),.pure (.sl 28 x1)]=some ((ziG x0 x1).1,zVj (ziG x0 x1).2):=by kernel_rfl
  rw [hp] at e;exact ⟨[.pure (.sl 28 x0),.pure (.sl 28 x1)],e,rfl,(All2.imp (.cons (show zkM base (In w) w v0 (.pure (.sl 28 x0)) from r0) (.cons (show zkM base (In w) w v1 (.pure (.sl 28 x1)) from r1) (.nil))) fun _ _ h=>zkM.cg (cx:=base) (cx':=zbP) ⟨rfl,rfl,rfl,rfl,rfl,rfl⟩ h)⟩
theorem zPi:Tryz.prog.inPlace 10=Rows.absorptionLawsRow.inPlace:=by kernel_rfl
theorem zJV:Tryz.prog.unfollowed 10=Rows.absorptionLawsRow.unfollowed:=by kernel_rfl
theorem zNP:Tryz.prog.recurses 10=Rows.absorptionLawsRow.recurses:=by kernel_rfl
theorem zLC:Tryz.prog.varsNamed 10=Rows.absorptionLawsRow.named:=by kernel_rfl
theorem zRZ:joinedFacts Tryz.prog 10 f10 Rows.absorptionLawsSpec Rows.absorptionLawsRow=true:=by
 unfold joinedFacts;rw [zbbi,zbhw,zbgD,zbf7,zbh3,zbhg,zPi,zJV,zNP,zLC]
 kernel_rfl
theorem zXz:Rows.AbsorptionLawsSaid:=
 OpenClaim.holds_of_wide 10 f10 rfl rfl rfl rfl rfl rfl rfl ⟨rfl,rfl,rfl,rfl,rfl⟩ rfl rfl rfl rfl rfl (by kernel_rfl) func10 zRZ
  (of_decide_eq_true (by kernel_rfl)) (by unfold Func.isWrapper; rw [if_neg (of_decide_eq_false (by kernel_rfl))]; exact ⟨rfl,rfl⟩)
  (fun os started H enc _=>zSc os started H enc)
end Go.Proofs.YtljlfiomikifjaaGreatDoor
end
