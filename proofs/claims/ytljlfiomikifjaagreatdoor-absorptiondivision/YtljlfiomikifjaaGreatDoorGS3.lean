/- Texts of this claim, joined (the program as a whole, and the law of one row). -/
import Derived.Test.YtljlfiomikifjaaGreatDoorTie
import Derived.Test.YtljlfiomikifjaaGreatDoorGS1
import Derived.Test.YtljlfiomikifjaaGreatDoorGC11
set_option autoImplicit false
set_option linter.unusedVariables false
set_option linter.unusedSectionVars false
set_option linter.unusedSimpArgs false
set_option maxRecDepth 1000000
set_option maxHeartbeats 0
/- AbsorptionDivision: For every input the law returns true, and the input reads afterwards as it read before. -/
noncomputable section
namespace Go.Proofs.YtljlfiomikifjaaGreatDoor
open Go Go.Ab Go.RowKit Go.ChangeShapes Go.WideShapes
theorem zGF (os:Os) (started:os.Started) (H:Type) (enc:TypeId×_root_.Go.Value→H):
  ReturnsInHanded {} Tryz.checked os 3 .any (fun w args=>(Rows.absorptionDivisionSpec.pre enc Tryz.prog Tryz.f3 [] false w args∧laidMetH Tryz.prog zCF w)∧sizedMet enc Tryz.prog Tryz.f3 (OpenSpec.ofChange Rows.absorptionDivisionSpec) false w args) (Rows.absorptionDivisionSpec.post enc Tryz.prog Tryz.f3 false true false false):=by
 refine z5K (C:=Tryz.checked) (cx:=base0) (B:=4) (sp:=zkL) own started (by kernel_rfl) Tryz.func3
  (ChangeSpec.witness_at (enc:=enc) (C:=Tryz.checked) (os:=os) (X:=fun w _=>laidMetH Tryz.prog zCF w) false (z0P os) #[.slice none 0 0,.slice none 0 0,.int .u8 0,.int .u8 0] 8 rfl (by kernel_rfl) (by kernel_rfl) (by kernel_rfl) (by kernel_rfl) (by kernel_rfl) (z1E os _))
  z4B (fun t ht=> ?_) rfl (by kernel_rfl) Tryz.underlying4 (fun ds hd=> ?_) zBM (fun w hs h=>z9T w hs h) (fun w vs ds ps hv hA hz=> ?_)
 ·rw [show Tryz.f3.params.toList=[23,23,5,5] by kernel_rfl] at ht
  simp only [qd,List.not_mem_nil,or_false] at ht;rcases ht with rfl | rfl | rfl | rfl
  all_goals exact ⟨by kernel_rfl,of_decide_eq_true (by kernel_rfl)⟩
 ·rw [show Tryz.f3.params.size=4 by kernel_rfl] at hd
  match ds,hd with
  | [d0,d1,d2,d3],_=>rfl
 ·rw [show Tryz.f3.params.toList=[23,23,5,5] by kernel_rfl] at hv hA hz
  obtain ⟨v0,vs1,ds1,ps1,x0,rfl,r0,w0,hv,hA,hz⟩:=zOy z4A (zKS Tryz.underlying23 trivial (fun x:yC=>.sl 28 x) (fun _=>rfl)) hv hA hz
  obtain ⟨v1,vs2,ds2,ps2,x1,rfl,r1,w1,hv,hA,hz⟩:=zOy z4A (zKS Tryz.underlying23 trivial (fun x:yC=>.sl 28 x) (fun _=>rfl)) hv hA hz
  obtain ⟨v2,vs3,ds3,ps3,x2,rfl,r2,w2,hv,hA,hz⟩:=zOy z6v (zKS Tryz.underlying5 trivial (fun x:Int=>.lit (.int .u8 x)) (fun _=>rfl)) hv hA hz
  obtain ⟨v3,vs4,ds4,ps4,x3,rfl,r3,w3,hv,hA,hz⟩:=zOy z6v (zKS Tryz.underlying5 trivial (fun x:Int=>.lit (.int .u8 x)) (fun _=>rfl)) hv hA hz
  obtain rfl:=z8y hA;have hp:=z0m x0 x1 x2 x3 w0 w1 w2 w3;have e:zkL [.pure (.sl 28 x0),.pure (.sl 28 x1),.pure (.lit (.int .u8 x2)),.pure (.lit (.int .u8 x3))]=some ((ze0 x0 x1 x2 x3).1,zY8 (ze0 x0 x1 x2 x3).2):=by kernel_rfl
  rw [hp] at e;exact ⟨[.pure (.sl 28 x0),.pure (.sl 28 x1),.pure (.lit (.int .u8 x2)),.pure (.lit (.int .u8 x3))],e,rfl,(All2.imp (.cons (show zin base (In w) w v0 (.pure (.sl 28 x0)) from r0) (.cons (show zin base (In w) w v1 (.pure (.sl 28 x1)) from r1) (.cons (show zin base (In w) w v2 (.pure (.lit (.int .u8 x2))) from r2) (.cons (show zin base (In w) w v3 (.pure (.lit (.int .u8 x3))) from r3) (.nil))))) fun _ _ h=>zin.cg (cx:=base) (cx':=base0) ⟨rfl,rfl,rfl,rfl,rfl,rfl⟩ h)⟩
theorem zFf:Tryz.prog.inPlace 3=Rows.absorptionDivisionRow.inPlace:=by kernel_rfl
theorem zB6:Tryz.prog.unfollowed 3=Rows.absorptionDivisionRow.unfollowed:=by kernel_rfl
theorem zD5:Tryz.prog.recurses 3=Rows.absorptionDivisionRow.recurses:=by kernel_rfl
theorem zC0:Tryz.prog.varsNamed 3=Rows.absorptionDivisionRow.named:=by kernel_rfl
theorem zGQ:joinedFacts Tryz.prog 3 Tryz.f3 Rows.absorptionDivisionSpec Rows.absorptionDivisionRow=true:=by
 unfold joinedFacts;rw [z4B,z9F,z9p,z8Y,z9C,z9z,zFf,zB6,zD5,zC0]
 kernel_rfl
theorem zLF:Rows.AbsorptionDivisionSaid:=
 OpenClaim.holds_of_wide 3 Tryz.f3 rfl rfl rfl rfl rfl rfl rfl ⟨rfl,rfl,rfl,rfl,rfl⟩ rfl rfl rfl rfl rfl (by kernel_rfl) Tryz.func3 zGQ
  (of_decide_eq_true (by kernel_rfl)) (by unfold Func.isWrapper; rw [if_neg (of_decide_eq_false (by kernel_rfl))]; exact ⟨rfl,rfl⟩)
  (fun os started H enc _=>zGF os started H enc)
end Go.Proofs.YtljlfiomikifjaaGreatDoor
end
