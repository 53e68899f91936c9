/- Texts of this claim, joined (the program as a whole, and the law of one row). -/
import Derived.Test.YtljlfiomikifjaaGreatDoorTie
import Derived.Test.YtljlfiomikifjaaGreatDoorGS1
import Derived.Test.YtljlfiomikifjaaGreatDoorGC14
set_option autoImplicit false
set_option linter.unusedVariables false
set_option linter.unusedSectionVars false
set_option linter.unusedSimpArgs false
set_option maxRecDepth 1000000
set_option maxHeartbeats 0
/- AbsorptionWorlds: For every input the law returns true, and the input reads afterwards as it read before. -/
noncomputable section
namespace Go.Proofs.YtljlfiomikifjaaGreatDoor
open Go Go.Ab Go.RowKit Go.ChangeShapes Go.WideShapes
open Go.Proofs.Tryz
theorem zP4 (os:Os) (started:os.Started) (H:Type) (enc:TypeId×_root_.Go.Value->H):
  ReturnsInHanded {} Tryz.checked os 6 .any (λw args=>(Rows.absorptionWorldsSpec.pre enc Tryz.prog f6 [] false w args/\laidMetH Tryz.prog zHO w)/\sizedMet enc Tryz.prog f6 (OpenSpec.ofChange Rows.absorptionWorldsSpec) false w args) (Rows.absorptionWorldsSpec.post enc Tryz.prog f6 false true false false):=by
 refine zbid (C:=Tryz.checked) (cx:=zb5) (B:=4) (sp:=znu) own started (by kernel_rfl) func6
  (ChangeSpec.witness_at (enc:=enc) (C:=Tryz.checked) (os:=os) (X:=λw _=>laidMetH Tryz.prog zHO w) false (zbcF os) #[.slice none 0 0,.slice none 0 0] 8 rfl (by kernel_rfl) (by kernel_rfl) (by kernel_rfl) (by kernel_rfl) (by kernel_rfl) (zbdx os _))
  zbhK (λt ht=> ?_) rfl (by kernel_rfl) underlying4 (λds hd=> ?_) zHi (λw hs h=>zbnc w hs h) (λw vs ds ps hv hA hz=> ?_)
 ·rw [show f6.params.toList=[23,43] by kernel_rfl] at ht
  simp only [qd,List.not_mem_nil,or_false] at ht;rcases ht with rfl | rfl
  all_goals exact ⟨by kernel_rfl,of_decide_eq_true (by kernel_rfl)⟩
 ·rw [show f6.params.size=2 by kernel_rfl] at hd
  match ds,hd with
  | [d0,d1],_=>rfl
 ·rw [show f6.params.toList=[23,43] by kernel_rfl] at hv hA hz
  obtain ⟨v0,vs1,ds1,ps1,x0,rfl,r0,w0,hv,hA,hz⟩:=zbez zbmm (zbcl underlying23 trivial (λx:yC=>.sl 28 x) (λ_=>rfl)) hv hA hz
  obtain ⟨v1,vs2,ds2,ps2,x1,rfl,r1,w1,hv,hA,hz⟩:=zbez zbmf (zbcl underlying43 trivial (λx:yF=>.sl 49 x) (λ_=>rfl)) hv hA hz
  obtain rfl:=zbmU hA;have hp:=zbeW x0 x1 w0 w1;have e:znu [.pure (.sl 28 x0),.pure (.sl 49 x1)]=some ((zgW x0 x1).1,zZL (zgW x0 x1).2):=by kernel_rfl
  rw [hp] at e;exact ⟨[.pure (.sl 28 x0),.pure (.sl 49 x1)],e,rfl,(All2.imp (.cons (show zkS base (In w) w v0 (.pure (.sl 28 x0)) from r0) (.cons (show zkS base (In w) w v1 (.pure (.sl 49 x1)) from r1) (.nil))) λ_ _ h=>zkS.cg (cx:=base) (cx':=zb5) ⟨rfl,rfl,rfl,rfl,rfl,rfl⟩ h)⟩
theorem zNB:Tryz.prog.inPlace 6=Rows.absorptionWorldsRow.inPlace:=by kernel_rfl
theorem zJR:Tryz.prog.unfollowed 6=Rows.absorptionWorldsRow.unfollowed:=by kernel_rfl
theorem zL8:Tryz.prog.recurses 6=Rows.absorptionWorldsRow.recurses:=by kernel_rfl
theorem zLp:Tryz.prog.varsNamed 6=Rows.absorptionWorldsRow.named:=by kernel_rfl
theorem zPy:joinedFacts Tryz.prog 6 f6 Rows.absorptionWorldsSpec Rows.absorptionWorldsRow=true:=by
 unfold joinedFacts;rw [zbhK,zbnj,zbmy,zbm2,zbn3,zbnn,zNB,zJR,zL8,zLp]
 kernel_rfl
theorem zXh:Rows.AbsorptionWorldsSaid:=
 OpenClaim.holds_of_wide 6 f6 rfl rfl rfl rfl rfl rfl rfl ⟨rfl,rfl,rfl,rfl,rfl⟩ rfl rfl rfl rfl rfl (by kernel_rfl) func6 zPy
  (of_decide_eq_true (by kernel_rfl)) (by unfold Func.isWrapper; rw [if_neg (of_decide_eq_false (by kernel_rfl))]; exact ⟨rfl,rfl⟩)
  (λos started H enc _=>zP4 os started H enc)
end Go.Proofs.YtljlfiomikifjaaGreatDoor
end
