/- Texts of this claim, joined (the program as a whole, and the law of one row). -/
import Derived.Test.YtoknknbmfmddbaaGreatDoorTie
import Derived.Test.YtoknknbmfmddbaaGreatDoorGS1
import Derived.Test.YtoknknbmfmddbaaGreatDoorGC12
set_option autoImplicit false
set_option linter.unusedVariables false
set_option linter.unusedSectionVars false
set_option linter.unusedSimpArgs false
set_option maxRecDepth 1000000
set_option maxHeartbeats 0
/- RelationNames: For every input the law returns true, and the input reads afterwards as it read before. -/
noncomputable section
namespace Go.Proofs.YtoknknbmfmddbaaGreatDoor
open Go Go.Ab Go.RowKit Go.ChangeShapes Go.WideShapes
open Go.Proofs.Tryz
theorem zQV (os:Os) (started:os.Started) (H:Type) (enc:TypeId×_root_.Go.Value->H):
  ReturnsInHanded {} Tryz.checked os 4 .any (λw args=>(Rows.relationNamesSpec.pre enc Tryz.prog f4 [] false w args/\laidMetH Tryz.prog zDF w)/\sizedMet enc Tryz.prog f4 (OpenSpec.ofChange Rows.relationNamesSpec) false w args) (Rows.relationNamesSpec.post enc Tryz.prog f4 false true false false):=by
 refine zbao (C:=Tryz.checked) (cx:=zbw) (B:=4) (sp:=zp2) own started (by kernel_rfl) func4
  (ChangeSpec.witness_at (enc:=enc) (C:=Tryz.checked) (os:=os) (X:=λw _=>laidMetH Tryz.prog zDF w) false (z3T os) #[.int .i64 0,.slice none 0 0,.slice none 0 0] 8 rfl (by kernel_rfl) (by kernel_rfl) (by kernel_rfl) (by kernel_rfl) (by kernel_rfl) (z4L os _))
  z9y (λt ht=> ?_) rfl (by kernel_rfl) underlying4 (λds hd=> ?_) zHu (λw hs h=>zbfq w hs h) (λw vs ds ps hv hA hz=> ?_)
 ·rw [show f4.params.toList=[3,22,32] by kernel_rfl] at ht
  simp only [qd,List.not_mem_nil,or_false] at ht;rcases ht with rfl | rfl | rfl
  all_goals exact ⟨by kernel_rfl,of_decide_eq_true (by kernel_rfl)⟩
 ·rw [show f4.params.size=3 by kernel_rfl] at hd
  match ds,hd with
  | [d0,d1,d2],_=>rfl
 ·rw [show f4.params.toList=[3,22,32] by kernel_rfl] at hv hA hz
  obtain ⟨v0,vs1,ds1,ps1,x0,rfl,r0,w0,hv,hA,hz⟩:=zY1 z73 (zVp underlying3 trivial (λx:Int=>.lit (.int .i64 x)) (λ_=>rfl)) hv hA hz
  obtain ⟨v1,vs2,ds2,ps2,x1,rfl,r1,w1,hv,hA,hz⟩:=zY1 zbef (zVp underlying22 trivial (λx:yH=>.sl 75 x) (λ_=>rfl)) hv hA hz
  obtain ⟨v2,vs3,ds3,ps3,x2,rfl,r2,w2,hv,hA,hz⟩:=zY1 zbdG (zVp underlying32 trivial (λx:List (yG)=>.sl 34 x) (λ_=>rfl)) hv hA hz
  obtain rfl:=zbeH hA;have hp:=z8i x0 x1 x2 w0 w1 w2;have e:zp2 [.pure (.lit (.int .i64 x0)),.pure (.sl 75 x1),.pure (.sl 34 x2)]=some ((ziW x0 x1 x2).1,zTe (ziW x0 x1 x2).2):=by kernel_rfl
  rw [hp] at e;exact ⟨[.pure (.lit (.int .i64 x0)),.pure (.sl 75 x1),.pure (.sl 34 x2)],e,rfl,(All2.imp (.cons (show zjd base (In w) w v0 (.pure (.lit (.int .i64 x0))) from r0) (.cons (show zjd base (In w) w v1 (.pure (.sl 75 x1)) from r1) (.cons (show zjd base (In w) w v2 (.pure (.sl 34 x2)) from r2) (.nil)))) λ_ _ h=>zjd.cg (cx:=base) (cx':=zbw) ⟨rfl,rfl,rfl,rfl,rfl,rfl⟩ h)⟩
theorem zOE:Tryz.prog.inPlace 4=Rows.relationNamesRow.inPlace:=by kernel_rfl
theorem zI7:Tryz.prog.unfollowed 4=Rows.relationNamesRow.unfollowed:=by kernel_rfl
theorem zMv:Tryz.prog.recurses 4=Rows.relationNamesRow.recurses:=by kernel_rfl
theorem zKv:Tryz.prog.varsNamed 4=Rows.relationNamesRow.named:=by kernel_rfl
theorem zQb:joinedFacts Tryz.prog 4 f4 Rows.relationNamesSpec Rows.relationNamesRow=true:=by
 unfold joinedFacts;rw [z9y,zbfa,zbeQ,zbdx,zbff,zbf1,zOE,zI7,zMv,zKv]
 kernel_rfl
theorem zWW:Rows.RelationNamesSaid:=
 OpenClaim.holds_of_wide 4 f4 rfl rfl rfl rfl rfl rfl rfl ⟨rfl,rfl,rfl,rfl,rfl⟩ rfl rfl rfl rfl rfl (by kernel_rfl) func4 zQb
  (of_decide_eq_true (by kernel_rfl)) (by unfold Func.isWrapper; rw [if_neg (of_decide_eq_false (by kernel_rfl))]; exact ⟨rfl,rfl⟩)
  (λos started H enc _=>zQV os started H enc)
end Go.Proofs.YtoknknbmfmddbaaGreatDoor
end
