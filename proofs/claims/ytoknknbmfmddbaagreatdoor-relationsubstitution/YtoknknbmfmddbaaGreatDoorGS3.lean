/- Texts of this claim, joined (the program as a whole, and the law of one row). -/
import Derived.Test.YtoknknbmfmddbaaGreatDoorTie
import Derived.Test.YtoknknbmfmddbaaGreatDoorGS1
import Derived.Test.YtoknknbmfmddbaaGreatDoorGC12
set_option autoImplicit false
set_option linter.unusedVariables false
set_option linter.unusedSectionVars false
set_option linter.unusedSimpArgs false
set_option maxRecDepth 1000000
set_option maxHeartbeats 0
/- RelationSubstitution: For every input the law returns true, and the input reads afterwards as it read before. -/
noncomputable section
namespace Go.Proofs.YtoknknbmfmddbaaGreatDoor
open Go Go.Ab Go.RowKit Go.ChangeShapes Go.WideShapes
open Go.Proofs.Tryz
theorem zJe (os:Os) (started:os.Started) (H:Type) (enc:TypeId×_root_.Go.Value->H):
  ReturnsInHanded {} Tryz.checked os 8 .any (λw args=>(Rows.relationSubstitutionSpec.pre enc Tryz.prog f8 [] false w args/\laidMetH Tryz.prog zHp w)/\sizedMet enc Tryz.prog f8 (OpenSpec.ofChange Rows.relationSubstitutionSpec) false w args) (Rows.relationSubstitutionSpec.post enc Tryz.prog f8 false true false false):=by
 refine zbgy (C:=Tryz.checked) (cx:=zby) (B:=4) (sp:=zkW) own started (by kernel_rfl) func8
  (ChangeSpec.witness_at (enc:=enc) (C:=Tryz.checked) (os:=os) (X:=λw _=>laidMetH Tryz.prog zHp w) false (z9t os) #[.agg #[.slice none 0 0,.slice none 0 0],.agg #[.slice none 0 0,.slice none 0 0],.slice none 0 0] 8 rfl (by kernel_rfl) (by kernel_rfl) (by kernel_rfl) (by kernel_rfl) (by kernel_rfl) (zbbl os _))
  zbfn (λt ht=> ?_) rfl (by kernel_rfl) underlying4 (λds hd=> ?_) zCG (λw hs h=>zbmm w hs h) (λw vs ds ps hv hA hz=> ?_)
 ·rw [show f8.params.toList=[25,25,60] by kernel_rfl] at ht
  simp only [q8,q16,or_false] at ht;rcases ht with rfl | rfl | rfl
  all_goals exact ⟨by kernel_rfl,of_decide_eq_true (by kernel_rfl)⟩
 ·rw [show f8.params.size=3 by kernel_rfl] at hd
  match ds,hd with
  | [d0,d1,d2],_=>rfl
 ·rw [show f8.params.toList=[25,25,60] by kernel_rfl] at hv hA hz
  obtain ⟨v0,vs1,ds1,ps1,x0,rfl,r0,w0,hv,hA,hz⟩:=z3x zbfs (z2N underlying25) hv hA hz;obtain ⟨v1,vs2,ds2,ps2,x1,rfl,r1,w1,hv,hA,hz⟩:=z3x zbfs (z2N underlying25) hv hA hz;obtain ⟨v2,vs3,ds3,ps3,x2,rfl,r2,w2,hv,hA,hz⟩:=z3x zbkX (zbiq underlying60 trivial (λx:yE=>.sl 65 x) (λ_=>rfl)) hv hA hz
  obtain rfl:=zbkN hA;have hp:=zW2 x0 x1 x2 w0 w1 w2;have e:zkW [.pure (.agg (base.enc 25 x0)),.pure (.agg (base.enc 25 x1)),.pure (.sl 65 x2)]=some ((ze6 x0 x1 x2).1,zXz (ze6 x0 x1 x2).2):=by kernel_rfl
  rw [hp] at e;exact ⟨[.pure (.agg (base.enc 25 x0)),.pure (.agg (base.enc 25 x1)),.pure (.sl 65 x2)],e,rfl,(All2.imp (.cons (show zkc base (In w) w v0 (.pure (.agg (base.enc 25 x0))) from r0) (.cons (show zkc base (In w) w v1 (.pure (.agg (base.enc 25 x1))) from r1) (.cons (show zkc base (In w) w v2 (.pure (.sl 65 x2)) from r2) (.nil)))) λ_ _ h=>zkc.cg (cx:=base) (cx':=zby) ⟨rfl,rfl,rfl,rfl,rfl,rfl⟩ h)⟩
theorem zHs:Tryz.prog.inPlace 8=Rows.relationSubstitutionRow.inPlace:=by kernel_rfl
theorem zEt:Tryz.prog.unfollowed 8=Rows.relationSubstitutionRow.unfollowed:=by kernel_rfl
theorem zGc:Tryz.prog.recurses 8=Rows.relationSubstitutionRow.recurses:=by kernel_rfl
theorem zFp:Tryz.prog.varsNamed 8=Rows.relationSubstitutionRow.named:=by kernel_rfl
theorem zJg:joinedFacts Tryz.prog 8 f8 Rows.relationSubstitutionSpec Rows.relationSubstitutionRow=true:=by
 unfold joinedFacts;rw [zbfn,zbmh,zbkM,zbk9,zbmW,zbl5,zHs,zEt,zGc,zFp]
 kernel_rfl
theorem zNV:Rows.RelationSubstitutionSaid:=
 OpenClaim.holds_of_wide 8 f8 rfl rfl rfl rfl rfl rfl rfl ⟨rfl,rfl,rfl,rfl,rfl⟩ rfl rfl rfl rfl rfl (by kernel_rfl) func8 zJg
  (of_decide_eq_true (by kernel_rfl)) (by unfold Func.isWrapper; rw [if_neg (of_decide_eq_false (by kernel_rfl))]; exact ⟨rfl,rfl⟩)
  (λos started H enc _=>zJe os started H enc)
end Go.Proofs.YtoknknbmfmddbaaGreatDoor
end
