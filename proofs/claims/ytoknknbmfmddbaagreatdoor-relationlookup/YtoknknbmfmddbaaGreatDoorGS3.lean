/- Texts of this claim, joined (the program as a whole, and the law of one row). -/
import Derived.Test.YtoknknbmfmddbaaGreatDoorTie
import Derived.Test.YtoknknbmfmddbaaGreatDoorGS1
import Derived.Test.YtoknknbmfmddbaaGreatDoorGC14
set_option autoImplicit false
set_option linter.unusedVariables false
set_option linter.unusedSectionVars false
set_option linter.unusedSimpArgs false
set_option maxRecDepth 1000000
set_option maxHeartbeats 0
/- RelationLookup: For every input the law returns true, and the input reads afterwards as it read before. -/
noncomputable section
namespace Go.Proofs.YtoknknbmfmddbaaGreatDoor
open Go Go.Ab Go.RowKit Go.ChangeShapes Go.WideShapes
open Go.Proofs.Tryz
theorem zLU (os:Os) (started:os.Started) (H:Type) (enc:TypeId×_root_.Go.Value->H):
  ReturnsInHanded {} Tryz.checked os 9 .any (λw args=>(Rows.relationLookupSpec.pre enc Tryz.prog f9 [] false w args/\laidMetH Tryz.prog zCp w)/\sizedMet enc Tryz.prog f9 (OpenSpec.ofChange Rows.relationLookupSpec) false w args) (Rows.relationLookupSpec.post enc Tryz.prog f9 false true false false):=by
 refine z4O (C:=Tryz.checked) (cx:=zby) (B:=4) (sp:=zn7) own started (by kernel_rfl) func9
  (ChangeSpec.witness_at (enc:=enc) (C:=Tryz.checked) (os:=os) (X:=λw _=>laidMetH Tryz.prog zCp w) false (zZC os) #[.agg #[.slice none 0 0,.slice none 0 0],.slice none 0 0] 8 rfl (by kernel_rfl) (by kernel_rfl) (by kernel_rfl) (by kernel_rfl) (by kernel_rfl) (z0x os _))
  z3u (λt ht=> ?_) rfl (by kernel_rfl) underlying4 (λds hd=> ?_) zEG (λw hs h=>z99 w hs h) (λw vs ds ps hv hA hz=> ?_)
 ·rw [show f9.params.toList=[25,34] by kernel_rfl] at ht
  simp only [qd,List.not_mem_nil,or_false] at ht;rcases ht with rfl | rfl
  all_goals exact ⟨by kernel_rfl,of_decide_eq_true (by kernel_rfl)⟩
 ·rw [show f9.params.size=2 by kernel_rfl] at hd
  match ds,hd with
  | [d0,d1],_=>rfl
 ·rw [show f9.params.toList=[25,34] by kernel_rfl] at hv hA hz
  obtain ⟨v0,vs1,ds1,ps1,x0,rfl,r0,w0,hv,hA,hz⟩:=z1e z8s (z3k underlying25) hv hA hz;obtain ⟨v1,vs2,ds2,ps2,x1,rfl,r1,w1,hv,hA,hz⟩:=z1e z4d (z6q underlying34 trivial (λx:yH=>.sl 79 x) (λ_=>rfl)) hv hA hz
  obtain rfl:=z8W hA;have hp:=z2F x0 x1 w0 w1;have e:zn7 [.pure (.agg (base.enc 25 x0)),.pure (.sl 79 x1)]=some ((zho x0 x1).1,zQZ (zho x0 x1).2):=by kernel_rfl
  rw [hp] at e;exact ⟨[.pure (.agg (base.enc 25 x0)),.pure (.sl 79 x1)],e,rfl,(All2.imp (.cons (show zir base (In w) w v0 (.pure (.agg (base.enc 25 x0))) from r0) (.cons (show zir base (In w) w v1 (.pure (.sl 79 x1)) from r1) (.nil))) λ_ _ h=>zir.cg (cx:=base) (cx':=zby) ⟨rfl,rfl,rfl,rfl,rfl,rfl⟩ h)⟩
theorem zKB:Tryz.prog.inPlace 9=Rows.relationLookupRow.inPlace:=by kernel_rfl
theorem zF1:Tryz.prog.unfollowed 9=Rows.relationLookupRow.unfollowed:=by kernel_rfl
theorem zI2:Tryz.prog.recurses 9=Rows.relationLookupRow.recurses:=by kernel_rfl
theorem zH0:Tryz.prog.varsNamed 9=Rows.relationLookupRow.named:=by kernel_rfl
theorem zM3:joinedFacts Tryz.prog 9 f9 Rows.relationLookupSpec Rows.relationLookupRow=true:=by
 unfold joinedFacts;rw [z3u,z9r,z9b,z8D,z9t,z9Y,zKB,zF1,zI2,zH0]
 kernel_rfl
theorem zRK:Rows.RelationLookupSaid:=
 OpenClaim.holds_of_wide 9 f9 rfl rfl rfl rfl rfl rfl rfl ⟨rfl,rfl,rfl,rfl,rfl⟩ rfl rfl rfl rfl rfl (by kernel_rfl) func9 zM3
  (of_decide_eq_true (by kernel_rfl)) (by unfold Func.isWrapper; rw [if_neg (of_decide_eq_false (by kernel_rfl))]; exact ⟨rfl,rfl⟩)
  (λos started H enc _=>zLU os started H enc)
end Go.Proofs.YtoknknbmfmddbaaGreatDoor
end
