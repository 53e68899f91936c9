/- Texts of this claim, joined (the program as a whole, and the law of one row). -/
import Derived.Test.YtljlfiomikifjaaGreatDoorTie
import Derived.Test.YtljlfiomikifjaaGreatDoorGS1
import Derived.Test.YtljlfiomikifjaaGreatDoorGC12
set_option autoImplicit false
set_option linter.unusedVariables false
set_option linter.unusedSectionVars false
set_option linter.unusedSimpArgs false
set_option maxRecDepth 1000000
set_option maxHeartbeats 0
/- AbsorptionNormalForm: For every input the law returns true, and the input reads afterwards as it read before. -/
noncomputable section
namespace Go.Proofs.YtljlfiomikifjaaGreatDoor
open Go Go.Ab Go.RowKit Go.ChangeShapes Go.WideShapes
open Go.Proofs.Tryz
theorem zKy (os:Os) (started:os.Started) (H:Type) (enc:TypeId×_root_.Go.Value->H):
  ReturnsInHanded {} Tryz.checked os 8 .any (λw args=>(Rows.absorptionNormalFormSpec.pre enc Tryz.prog f8 [] false w args/\laidMetH Tryz.prog zI3 w)/\sizedMet enc Tryz.prog f8 (OpenSpec.ofChange Rows.absorptionNormalFormSpec) false w args) (Rows.absorptionNormalFormSpec.post enc Tryz.prog f8 false true false false):=by
 refine zbfM (C:=Tryz.checked) (cx:=zb1) (B:=4) (sp:=zlA) own started (by kernel_rfl) func8
  (ChangeSpec.witness_at (enc:=enc) (C:=Tryz.checked) (os:=os) (X:=λw _=>laidMetH Tryz.prog zI3 w) false (z9z os) #[.slice none 0 0] 8 rfl (by kernel_rfl) (by kernel_rfl) (by kernel_rfl) (by kernel_rfl) (by kernel_rfl) (zba2 os _))
  zbd7 (λt ht=> ?_) rfl (by kernel_rfl) underlying4 (λds hd=> ?_) zFh (λw hs h=>zbk8 w hs h) (λw vs ds ps hv hA hz=> ?_)
 ·rw [show f8.params.toList=[23] by kernel_rfl] at ht
  simp only [qd,List.not_mem_nil,or_false] at ht;rcases ht with rfl
  all_goals exact ⟨by kernel_rfl,of_decide_eq_true (by kernel_rfl)⟩
 ·rw [show f8.params.size=1 by kernel_rfl] at hd
  match ds,hd with
  | [d0],_=>rfl
 ·rw [show f8.params.toList=[23] by kernel_rfl] at hv hA hz
  obtain ⟨v0,vs1,ds1,ps1,x0,rfl,r0,w0,hv,hA,hz⟩:=zbhZ zbj0 (zbg0 underlying23 trivial (λx:yC=>.sl 28 x) (λ_=>rfl)) hv hA hz
  obtain rfl:=zbjU hA;have hp:=z48 x0 w0;have e:zlA [.pure (.sl 28 x0)]=some ((zfk x0).1,zYq (zfk x0).2):=by kernel_rfl
  rw [hp] at e;exact ⟨[.pure (.sl 28 x0)],e,rfl,(All2.imp (.cons (show zlT base (In w) w v0 (.pure (.sl 28 x0)) from r0) (.nil)) λ_ _ h=>zlT.cg (cx:=base) (cx':=zb1) ⟨rfl,rfl,rfl,rfl,rfl,rfl⟩ h)⟩
theorem zJB:Tryz.prog.inPlace 8=Rows.absorptionNormalFormRow.inPlace:=by kernel_rfl
theorem zGs:Tryz.prog.unfollowed 8=Rows.absorptionNormalFormRow.unfollowed:=by kernel_rfl
theorem zIa:Tryz.prog.recurses 8=Rows.absorptionNormalFormRow.recurses:=by kernel_rfl
theorem zGP:Tryz.prog.varsNamed 8=Rows.absorptionNormalFormRow.named:=by kernel_rfl
theorem zKU:joinedFacts Tryz.prog 8 f8 Rows.absorptionNormalFormSpec Rows.absorptionNormalFormRow=true:=by
 unfold joinedFacts;rw [zbd7,zbkW,zbiW,zbje,zblh,zbkZ,zJB,zGs,zIa,zGP]
 kernel_rfl
theorem zN3:Rows.AbsorptionNormalFormSaid:=
 OpenClaim.holds_of_wide 8 f8 rfl rfl rfl rfl rfl rfl rfl ⟨rfl,rfl,rfl,rfl,rfl⟩ rfl rfl rfl rfl rfl (by kernel_rfl) func8 zKU
  (of_decide_eq_true (by kernel_rfl)) (by unfold Func.isWrapper; rw [if_neg (of_decide_eq_false (by kernel_rfl))]; exact ⟨rfl,rfl⟩)
  (λos started H enc _=>zKy os started H enc)
end Go.Proofs.YtljlfiomikifjaaGreatDoor
end
