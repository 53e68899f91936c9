/- Texts of this claim, joined (the program as a whole, and the law of one row). -/
import Derived.Test.YtljlfiomikifjaaGreatDoorTie
import Derived.Test.YtljlfiomikifjaaGreatDoorGS1
import Derived.Test.YtljlfiomikifjaaGreatDoorGC11
set_option autoImplicit false
set_option linter.unusedVariables false
set_option linter.unusedSectionVars false
set_option linter.unusedSimpArgs false
set_option maxRecDepth 1000000
set_option maxHeartbeats 0
/- AbsorptionSubstitution: For every input the law returns true, and the input reads afterwards as it read before. -/
noncomputable section
namespace Go.Proofs.YtljlfiomikifjaaGreatDoor
open Go Go.Ab Go.RowKit Go.ChangeShapes Go.WideShapes
theorem zEP (os:Os) (started:os.Started) (H:Type) (enc:TypeId×_root_.Go.Value→H):
  ReturnsInHanded {} Tryz.checked os 7 .any (fun w args=>(Rows.absorptionSubstitutionSpec.pre enc Tryz.prog Tryz.f7 [] false w args∧laidMetH Tryz.prog zFP w)∧sizedMet enc Tryz.prog Tryz.f7 (OpenSpec.ofChange Rows.absorptionSubstitutionSpec) false w args) (Rows.absorptionSubstitutionSpec.post enc Tryz.prog Tryz.f7 false true false false):=by
 refine zbaU (C:=Tryz.checked) (cx:=base0) (B:=4) (sp:=zjy) own started (by kernel_rfl) Tryz.func7
  (ChangeSpec.witness_at (enc:=enc) (C:=Tryz.checked) (os:=os) (X:=fun w _=>laidMetH Tryz.prog zFP w) false (z4Q os) #[.slice none 0 0,.slice none 0 0] 8 rfl (by kernel_rfl) (by kernel_rfl) (by kernel_rfl) (by kernel_rfl) (by kernel_rfl) (z5R os _))
  z9b (fun t ht=> ?_) rfl (by kernel_rfl) Tryz.underlying4 (fun ds hd=> ?_) zBp (fun w hs h=>zbfA w hs h) (fun w vs ds ps hv hA hz=> ?_)
 ·rw [show Tryz.f7.params.toList=[23,47] by kernel_rfl] at ht
  simp only [qd,List.not_mem_nil,or_false] at ht;rcases ht with rfl | rfl
  all_goals exact ⟨by kernel_rfl,of_decide_eq_true (by kernel_rfl)⟩
 ·rw [show Tryz.f7.params.size=2 by kernel_rfl] at hd
  match ds,hd with
  | [d0,d1],_=>rfl
 ·rw [show Tryz.f7.params.toList=[23,47] by kernel_rfl] at hv hA hz
  obtain ⟨v0,vs1,ds1,ps1,x0,rfl,r0,w0,hv,hA,hz⟩:=z7x z9m (z4Y Tryz.underlying23 trivial (fun x:yC=>.sl 28 x) (fun _=>rfl)) hv hA hz
  obtain ⟨v1,vs2,ds2,ps2,x1,rfl,r1,w1,hv,hA,hz⟩:=z7x zber (z4Y Tryz.underlying47 trivial (fun x:yG=>.sl 51 x) (fun _=>rfl)) hv hA hz
  obtain rfl:=zbeK hA;have hp:=zVx x0 x1 w0 w1;have e:zjy [.pure (.sl 28 x0),.pure (.sl 51 x1)]=some ((zew x0 x1).1,zTP (zew x0 x1).2):=by kernel_rfl
  rw [hp] at e;exact ⟨[.pure (.sl 28 x0),.pure (.sl 51 x1)],e,rfl,(All2.imp (.cons (show zkG base (In w) w v0 (.pure (.sl 28 x0)) from r0) (.cons (show zkG base (In w) w v1 (.pure (.sl 51 x1)) from r1) (.nil))) fun _ _ h=>zkG.cg (cx:=base) (cx':=base0) ⟨rfl,rfl,rfl,rfl,rfl,rfl⟩ h)⟩
theorem zEk:Tryz.prog.inPlace 7=Rows.absorptionSubstitutionRow.inPlace:=by kernel_rfl
theorem zBF:Tryz.prog.unfollowed 7=Rows.absorptionSubstitutionRow.unfollowed:=by kernel_rfl
theorem zDy:Tryz.prog.recurses 7=Rows.absorptionSubstitutionRow.recurses:=by kernel_rfl
theorem zCn:Tryz.prog.varsNamed 7=Rows.absorptionSubstitutionRow.named:=by kernel_rfl
theorem zEQ:joinedFacts Tryz.prog 7 Tryz.f7 Rows.absorptionSubstitutionSpec Rows.absorptionSubstitutionRow=true:=by
 unfold joinedFacts;rw [z9b,zbfq,zbd3,zbeG,zbfe,zbfS,zEk,zBF,zDy,zCn]
 kernel_rfl
theorem zH7:Rows.AbsorptionSubstitutionSaid:=
 OpenClaim.holds_of_wide 7 Tryz.f7 rfl rfl rfl rfl rfl rfl rfl ⟨rfl,rfl,rfl,rfl,rfl⟩ rfl rfl rfl rfl rfl (by kernel_rfl) Tryz.func7 zEQ
  (of_decide_eq_true (by kernel_rfl)) (by unfold Func.isWrapper; rw [if_neg (of_decide_eq_false (by kernel_rfl))]; exact ⟨rfl,rfl⟩)
  (fun os started H enc _=>zEP os started H enc)
end Go.Proofs.YtljlfiomikifjaaGreatDoor
end
