/- Texts of this claim, joined (the program as a whole, and the law of one row). -/
import Derived.Test.YtljlfiomikifjaaGreatDoorTie
import Derived.Test.YtljlfiomikifjaaGreatDoorGS1
import Derived.Test.YtljlfiomikifjaaGreatDoorGC11
set_option autoImplicit false
set_option linter.unusedVariables false
set_option linter.unusedSectionVars false
set_option linter.unusedSimpArgs false
set_option maxRecDepth 1000000
set_option maxHeartbeats 0
/- AbsorptionOrder: For every input the law returns true, and the input reads afterwards as it read before. -/
noncomputable section
namespace Go.Proofs.YtljlfiomikifjaaGreatDoor
open Go Go.Ab Go.RowKit Go.ChangeShapes Go.WideShapes
theorem zPl (os:Os) (started:os.Started) (H:Type) (enc:TypeId×_root_.Go.Value→H):
  ReturnsInHanded {} Tryz.checked os 4 .any (fun w args=>(Rows.absorptionOrderSpec.pre enc Tryz.prog Tryz.f4 [] false w args∧laidMetH Tryz.prog zF5 w)∧sizedMet enc Tryz.prog Tryz.f4 (OpenSpec.ofChange Rows.absorptionOrderSpec) false w args) (Rows.absorptionOrderSpec.post enc Tryz.prog Tryz.f4 false true false false):=by
 refine zbag (C:=Tryz.checked) (cx:=base0) (B:=4) (sp:=zoe) own started (by kernel_rfl) Tryz.func4
  (ChangeSpec.witness_at (enc:=enc) (C:=Tryz.checked) (os:=os) (X:=fun w _=>laidMetH Tryz.prog zF5 w) false (z5s os) #[.slice none 0 0,.slice none 0 0,.slice none 0 0] 8 rfl (by kernel_rfl) (by kernel_rfl) (by kernel_rfl) (by kernel_rfl) (by kernel_rfl) (z52 os _))
  z9y (fun t ht=> ?_) rfl (by kernel_rfl) Tryz.underlying4 (fun ds hd=> ?_) zG5 (fun w hs h=>zbe7 w hs h) (fun w vs ds ps hv hA hz=> ?_)
 ·rw [show Tryz.f4.params.toList=[23,23,23] by kernel_rfl] at ht
  simp only [qd,List.not_mem_nil,or_false] at ht;rcases ht with rfl | rfl | rfl
  all_goals exact ⟨by kernel_rfl,of_decide_eq_true (by kernel_rfl)⟩
 ·rw [show Tryz.f4.params.size=3 by kernel_rfl] at hd
  match ds,hd with
  | [d0,d1,d2],_=>rfl
 ·rw [show Tryz.f4.params.toList=[23,23,23] by kernel_rfl] at hv hA hz
  obtain ⟨v0,vs1,ds1,ps1,x0,rfl,r0,w0,hv,hA,hz⟩:=z0E z30 (zUG Tryz.underlying23 trivial (fun x:yC=>.sl 28 x) (fun _=>rfl)) hv hA hz
  obtain ⟨v1,vs2,ds2,ps2,x1,rfl,r1,w1,hv,hA,hz⟩:=z0E z30 (zUG Tryz.underlying23 trivial (fun x:yC=>.sl 28 x) (fun _=>rfl)) hv hA hz
  obtain ⟨v2,vs3,ds3,ps3,x2,rfl,r2,w2,hv,hA,hz⟩:=z0E z30 (zUG Tryz.underlying23 trivial (fun x:yC=>.sl 28 x) (fun _=>rfl)) hv hA hz
  obtain rfl:=zbez hA;have hp:=z8I x0 x1 x2 w0 w1 w2;have e:zoe [.pure (.sl 28 x0),.pure (.sl 28 x1),.pure (.sl 28 x2)]=some ((zhk x0 x1 x2).1,zTU (zhk x0 x1 x2).2):=by kernel_rfl
  rw [hp] at e;exact ⟨[.pure (.sl 28 x0),.pure (.sl 28 x1),.pure (.sl 28 x2)],e,rfl,(All2.imp (.cons (show zjT base (In w) w v0 (.pure (.sl 28 x0)) from r0) (.cons (show zjT base (In w) w v1 (.pure (.sl 28 x1)) from r1) (.cons (show zjT base (In w) w v2 (.pure (.sl 28 x2)) from r2) (.nil)))) fun _ _ h=>zjT.cg (cx:=base) (cx':=base0) ⟨rfl,rfl,rfl,rfl,rfl,rfl⟩ h)⟩
theorem zMS:Tryz.prog.inPlace 4=Rows.absorptionOrderRow.inPlace:=by kernel_rfl
theorem zH2:Tryz.prog.unfollowed 4=Rows.absorptionOrderRow.unfollowed:=by kernel_rfl
theorem zLv:Tryz.prog.recurses 4=Rows.absorptionOrderRow.recurses:=by kernel_rfl
theorem zJj:Tryz.prog.varsNamed 4=Rows.absorptionOrderRow.named:=by kernel_rfl
theorem zPk:joinedFacts Tryz.prog 4 Tryz.f4 Rows.absorptionOrderSpec Rows.absorptionOrderRow=true:=by
 unfold joinedFacts;rw [z9y,zbfw,zbef,zber,zbfg,zbfc,zMS,zH2,zLv,zJj]
 kernel_rfl
theorem zUk:Rows.AbsorptionOrderSaid:=
 OpenClaim.holds_of_wide 4 Tryz.f4 rfl rfl rfl rfl rfl rfl rfl ⟨rfl,rfl,rfl,rfl,rfl⟩ rfl rfl rfl rfl rfl (by kernel_rfl) Tryz.func4 zPk
  (of_decide_eq_true (by kernel_rfl)) (by unfold Func.isWrapper; rw [if_neg (of_decide_eq_false (by kernel_rfl))]; exact ⟨rfl,rfl⟩)
  (fun os started H enc _=>zPl os started H enc)
end Go.Proofs.YtljlfiomikifjaaGreatDoor
end
