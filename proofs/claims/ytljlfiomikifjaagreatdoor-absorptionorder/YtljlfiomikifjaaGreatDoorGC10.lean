/- Texts of this claim, joined (the program, its functions in plain words, and what they compute). -/
import Derived.Test.YtljlfiomikifjaaGreatDoorGC9
set_option autoImplicit false
set_option linter.unusedVariables false
set_option linter.unusedSectionVars false
set_option linter.unusedSimpArgs false
set_option maxRecDepth 1000000
set_option maxHeartbeats 0
/- Results may be handed over again. -/
noncomputable section
namespace Go.Proofs.YtljlfiomikifjaaGreatDoor
open Go Go.Ab
theorem zWI {n:Int} (h:rng n):wf3 n:=by
 show (Lit.int .i64 n).wf=true;have:IntKind.i64.min≤n∧n≤IntKind.i64.max:=⟨h.1,h.2⟩
 simpa [Lit.wf] using this
theorem zVj {t:Term} (hc:rng t.Coeff) (hf:∀ f∈t.Factors,zgn f.Atom∧rng f.Exp) (hl:t.Factors.length≤1000000):zB1 t:=by
 obtain ⟨c,fs⟩:=t;unfold zB1;refine ⟨zWI hc,zKQ fs fun f h=> ?_,by have:roomLen=140737488351232:=rfl; simp only at hl; omega⟩
 obtain ⟨x,e⟩:=f;unfold zw8;exact ⟨(hf _ h).1,zWI (hf _ h).2⟩
def okR (r:yC×Int):Prop:=okA r.1∧(r.2=0∨r.1=[])
theorem zj8:okA []:=⟨⟨zbcY 11,by rw [ztX]; omega⟩,by unfold zgr; trivial,by simp⟩
theorem zKp {a:yC} (h:okA a):okR (fitR a):=by
 unfold fitR;cases zeW a with
 | true=>exact ⟨h,.inl rfl⟩
 | false=>exact ⟨zj8,.inr rfl⟩
theorem zVa {ok:Bool} {r:yC×Int} (h:ok=true→okR r):okR (opR ok r):=by
 unfold opR;cases ok with
 | true=>exact h rfl
 | false=>exact ⟨zj8,.inr rfl⟩
theorem zXs {l:yC} (hl:l.length≤1000000) (h:∀ t∈l,GT t):okA l:=by
 obtain ⟨h1,h2⟩:=z8q hl h;refine ⟨⟨h1.mono (by omega),h2⟩,zFC l fun t ht=> ?_,by have:roomLen=140737488351232:=rfl; omega⟩
 have hg:=h t ht;exact zVj ⟨by have:=hg.1.1; omega,by have:=hg.1.2; omega⟩ (fun f hf=>⟨(hg.2.2 f hf).1.2.1,(hg.2.2 f hf).gF.2.2⟩) (by have:=hg.2.1; omega)
theorem zXM {a b:yC} (ha:okA a) (hb:okA b):okR (addR a b):=zVa fun hv=>by
 rw [qc] at hv;obtain ⟨sa,la,ta⟩:=zwJ hv.1 ha.2.1;obtain ⟨sb,lb,tb⟩:=zwJ hv.2 hb.2.1;exact zKp (zXs (by have:=zKu b a; omega) (zQH b a sa (fun t ht=>(ta t ht).1) fun t ht=>(tb t ht).1))
theorem z3Q {a b:yC} (ha:okA a) (hb:okA b):okR (mulR a b):=zVa fun hv=>by
 rw [qc] at hv;obtain ⟨sa,la,ta⟩:=zwJ hv.1 ha.2.1;obtain ⟨sb,lb,tb⟩:=zwJ hv.2 hb.2.1;have hpl:(zfS a b).length≤1000000:=by rw [zW9]; have:=Nat.mul_le_mul la lb; omega
 exact zKp (zXs (by have:=zKu (zfS a b) []; simp at this; exact Nat.le_trans this hpl) (zQH (zfS a b) [] .nil (fun t ht=>by cases ht) (zZ8 ta tb)))
theorem z7Y {x:Atom} (hf:zcV (zo 9) x) (hs:zM (oneA x)≤4611686018427387904) (hw:zgn x):okA (oneA x):=by
 refine ⟨⟨(zNN hf).mono (by omega),hs⟩,zFC _ fun t ht=> ?_,by simp [oneA,roomLen]⟩
 simp only [oneA,qh] at ht;subst ht;refine zVj ⟨by simp,by simp⟩ (fun f hf=> ?_) (by simp)
 simp only [qh] at hf;subst hf;exact ⟨hw,⟨by simp,by simp⟩⟩
theorem zWa {n:Int} (h: -1000≤n∧n≤1000):rng n:=⟨by omega,by omega⟩
theorem zqm:wf3 0:=zWI (zWa (by omega))
theorem zWW {l:yA} {k:Int} (hk:0≤k∧k≤4) (hl:l.length≤2) (h:∀ a∈l,zC a=true) (hw:∀ a∈l,okA a):okA (oneA ⟨k,⟨0,0⟩,l,0,[],0,⟨0,0,ByteArray.mk #[]⟩⟩):=by
 refine z7Y ⟨⟨by simp only; omega,by simp,by show (ByteArray.mk #[]).size≤_; decide⟩,fun a ha=>(ze2 (h a ha)).1,fun w hw=>(by cases hw)⟩ (zSy hl h).2 ?_
 unfold zgn;have hr:roomLen=140737488351232:=rfl;refine ⟨zWI (zWa (by omega)),⟨zqm,zqm⟩,⟨zWl l fun a ha=>⟨(hw a ha).2.1,(hw a ha).2.2⟩,by omega⟩,zqm,⟨by unfold zs9; trivial,by simp⟩,zqm,⟨zqm,zqm, ?_⟩⟩
 show (ByteArray.mk #[]).size≤roomLen;rw [hr]; decide
theorem z3A {a b:yC} (ha:okA a) (hb:okA b):okR (monR a b):=zVa fun hv=>by
 rw [qc] at hv;split
 ·exact ⟨ha,.inl rfl⟩
 ·split
  ·exact ⟨zj8,.inl rfl⟩
  ·refine zKp (zWW (by omega) (by simp) (fun x hx=> ?_) fun x hx=> ?_)
   ·simp only [qd,List.not_mem_nil,or_false] at hx;rcases hx with rfl | rfl
    ·exact hv.1
    ·exact hv.2
   ·simp only [qd,List.not_mem_nil,or_false] at hx;rcases hx with rfl | rfl
    ·exact ha
    ·exact hb
theorem zXy (c:Int) (hc:1≤c∧c≤1152921504606846976):okA [⟨c,[]⟩]:=zXs (by simp) fun t ht=>by
 rw [qh] at ht; subst ht;exact ⟨hc,by simp,fun f hf=>by cases hf⟩
theorem z3G {a:yC} (ha:okA a):okR (delR a):=zVa fun hv=>by
 split
 ·exact ⟨ha,.inl rfl⟩
 ·split
  ·exact ⟨zXy 1 (by omega),.inl rfl⟩
  ·exact zKp (zWW (by omega) (by simp) (fun x hx=>by rw [qh] at hx; subst hx; exact hv) fun x hx=>by rw [qh] at hx; subst hx; exact ha)
theorem z4m {a:yC} (ha:okA a):okR (absR a):=zVa fun hv=>by
 split
 ·exact ⟨zXy 1 (by omega),.inl rfl⟩
 ·split
  ·exact ⟨zj8,.inl rfl⟩
  ·exact zKp (zWW (by omega) (by simp) (fun x hx=>by rw [qh] at hx; subst hx; exact hv) fun x hx=>by rw [qh] at hx; subst hx; exact ha)
def cstA (n:Int):yC:=if n<1 then [] else [⟨if 1152921504606846976<n then 1152921504606846976 else n,[]⟩]
def varA (id:RowID):yC:=bif zAK id then oneA ⟨0,id,[],0,[],0,⟨0,0,ByteArray.mk #[]⟩⟩ else []
theorem z6P (n:Int):zqN n=(true,cstA n)∧zBE n=(true,cstA n):=by
 unfold zqN zHi zBE zTp cstA;by_cases h:n<1
 ·simp only [Wy.fin_i,Wy.fin_k,h,decide_true,cond_true,if_true]; exact ⟨trivial,trivial⟩
 ·simp only [Wy.fin_i,Wy.fin_k,h,decide_false,cond_false,if_false]; exact ⟨trivial,trivial⟩
theorem zbbS (id:RowID):zvz id=(true,varA id)∧zC6 id=(true,varA id):=by
 unfold zvz zK8 zC6 zZK varA zAK;simp only [Wy.fin_i,Wy.fin_bn,Wy.fin_k,zDR,zGL,zQ7,cond_true];unfold zAK
 have e1:decide (id.Table<1)= !decide (id.Table≥1):=by
  by_cases h:id.Table<1
  ·have:¬ id.Table≥1:=by omega
   simp only [h,this,decide_true,decide_false,Bool.not_false]
  ·have:id.Table≥1:=by omega
   simp only [h,this,decide_true,decide_false,Bool.not_true]
 have e2:decide (id.Seq<1)= !decide (id.Seq≥1):=by
  by_cases h:id.Seq<1
  ·have:¬ id.Seq≥1:=by omega
   simp only [h,this,decide_true,decide_false,Bool.not_false]
  ·have:id.Seq≥1:=by omega
   simp only [h,this,decide_true,decide_false,Bool.not_true]
 rw [e1,e2];cases decide (id.Table≥1) <;>cases decide (id.Seq≥1) <;>exact ⟨rfl,rfl⟩
theorem z8z (n:Int):okA (cstA n):=by
 unfold cstA;split
 ·exact zj8
 ·refine zXy _ ?_;split <;>omega
theorem zbfM {id:RowID} (h:wf49 id):okA (varA id):=by
 unfold varA;cases hr:zAK id with
 | false=>exact zj8
 | true=>
  refine z7Y ⟨⟨by simp,by simp,by show (ByteArray.mk #[]).size≤_; decide⟩,fun a ha=>(by cases ha),fun w hw=>(by cases hw)⟩ (by rw [z03,zg9,zgA,zfE]; omega) ?_
  unfold zgn;refine ⟨zqm,h,⟨by unfold zxS; trivial,by simp⟩,zqm,⟨by unfold zs9; trivial,by simp⟩,zqm,⟨zqm,zqm, ?_⟩⟩
  show (ByteArray.mk #[]).size≤roomLen;have hr:roomLen=140737488351232:=rfl;rw [hr]; decide
theorem z4g {a:yC} {n:Nat} (hn:n≤1000) (h:zo 12 a∧zen a≤n) (hw:wf23 a):okA a:=⟨⟨h.1,by have:=zKh a; omega⟩,hw.1,hw.2⟩
def MF (l:yD):Prop:=Srf l∧∀ f∈l,eOK f∧1≤f.Exp
theorem MF.tail {f:Factor} {l:yD} (h:MF (f::l)):MF l:=⟨(qi.1 h.1).2,fun g hg=>h.2 g (by simp [hg])⟩
theorem MF.nil:MF []:=⟨List.Pairwise.nil,fun f hf=>by cases hf⟩
theorem cF_self' {x y:Factor} (h:x.Atom=y.Atom):cF x y=0:=by unfold cF; rw [h]; exact zCP _
theorem MF.ne {f:Factor} {l:yD} (h:MF (f::l)):∀ g∈l,g.Atom≠f.Atom:=fun g hg e=>by
 have:=(qi.1 h.1).1 g hg;rw [cF_self' e.symm] at this; omega
theorem zbcB {a b:yD}:Srf a→Srf b→Srf (zbN a b):=by
 induction a,b using zbN.induct with
 | case1 b=>intro _ hb; rw [zbN]; exact hb
 | case2 x a=>intro ha _; rw [zbN]; exact ha
 | case3 x a y b h ih=>
  intro ha hb;have ca:=qi.1 ha;rw [zbN,if_pos h];refine qi.2 ⟨fun z hz=> ?_,ih ca.2 hb⟩
  obtain ⟨w,hw,e⟩:=zuj hz;have:cF x z=cF x w:=by unfold cF; rw [e]
  rw [this];rcases hw with hw | hw
  ·exact ca.1 w hw
  ·rcases qd.1 hw with rfl | hw
   ·exact h
   ·exact zFd h ((qi.1 hb).1 w hw)
 | case4 x a y b h h2 ih=>
  intro ha hb;have cb:=qi.1 hb;rw [zbN,if_neg h,if_pos h2];have h3:cF y x<0:=by rw [zbev x y]; omega
  refine qi.2 ⟨fun z hz=> ?_,ih ha cb.2⟩
  obtain ⟨w,hw,e⟩:=zuj hz;have:cF y z=cF y w:=by unfold cF; rw [e]
  rw [this];rcases hw with hw | hw
  ·rcases qd.1 hw with rfl | hw
   ·exact h3
   ·exact zFd h3 ((qi.1 ha).1 w hw)
  ·exact cb.1 w hw
 | case5 x a y b h h2 ih=>
  intro ha hb;have ca:=qi.1 ha;have cb:=qi.1 hb;have h0:x.Atom=y.Atom:=z9v (by omega)
  rw [zbN,if_neg h,if_neg h2];have hA:(if x.Atom.Kind=3∨x.Atom.Kind=4 then x else ⟨x.Atom,x.Exp+y.Exp⟩:Factor).Atom=x.Atom:=by split <;>rfl
  refine qi.2 ⟨fun z hz=> ?_,ih ca.2 cb.2⟩
  obtain ⟨w,hw,e⟩:=zuj hz;have:cF (if x.Atom.Kind=3∨x.Atom.Kind=4 then x else ⟨x.Atom,x.Exp+y.Exp⟩:Factor) z=cF x w:=by unfold cF; rw [e,hA]
  rw [this];rcases hw with hw | hw
  ·exact ca.1 w hw
  ·have:cF x w=cF y w:=by unfold cF; rw [h0]
   rw [this]; exact cb.1 w hw
theorem zbcK {a b:yD}:(∀ f∈a,eOK f∧1≤f.Exp)→(∀ f∈b,eOK f∧1≤f.Exp)→∀ f∈zbN a b,eOK f∧1≤f.Exp:=by
 induction a,b using zbN.induct with
 | case1 b=>intro _ hb; rw [zbN]; exact hb
 | case2 x a=>intro ha _; rw [zbN]; exact ha
 | case3 x a y b h ih=>
  intro ha hb f hf;rw [zbN,if_pos h] at hf;rcases qd.1 hf with rfl | hf
  ·exact ha _ (by simp)
  ·exact ih (fun g hg=>ha g (by simp [hg])) hb f hf
 | case4 x a y b h h2 ih=>
  intro ha hb f hf;rw [zbN,if_neg h,if_pos h2] at hf;rcases qd.1 hf with rfl | hf
  ·exact hb _ (by simp)
  ·exact ih ha (fun g hg=>hb g (by simp [hg])) f hf
 | case5 x a y b h h2 ih=>
  intro ha hb f hf;rw [zbN,if_neg h,if_neg h2] at hf;rcases qd.1 hf with rfl | hf
  ·have h1:=ha x (by simp)
   have h2:=hb y (by simp)
   split
   ·exact h1
   ·rename_i hk;exact ⟨⟨h1.1.1,fun h=>absurd h hk⟩,by show 1≤x.Exp+y.Exp; omega⟩
  ·exact ih (fun g hg=>ha g (by simp [hg])) (fun g hg=>hb g (by simp [hg])) f hf
theorem zbdK {a b:yD} (ha:MF a) (hb:MF b):MF (zbN a b):=⟨zbcB ha.1 hb.1,zbcK ha.2 hb.2⟩
def EqS (n m:Nat):Prop:=n=m∨(1152921504606846976≤n∧1152921504606846976≤m)
theorem EqS.refl (n:Nat):EqS n n:=.inl rfl
theorem EqS.symm {n m:Nat} (h:EqS n m):EqS m n:=by unfold EqS at *; omega
theorem EqS.trans {n m k:Nat} (h:EqS n m) (h':EqS m k):EqS n k:=by unfold EqS at *; omega
theorem EqS.add {n m n' m':Nat} (h:EqS n n') (h':EqS m m'):EqS (n+m) (n'+m'):=by unfold EqS at *; omega
theorem EqS.mul1 {n n':Nat} (k:Nat) (h:EqS n n'):EqS (n*k) (n'*k):=by
 rcases h with rfl | ⟨h1,h2⟩
 ·exact .refl _
 ·rcases Nat.eq_zero_or_pos k with rfl | hk
  ·exact .inl (by simp)
  ·exact .inr ⟨Nat.le_trans h1 (Nat.le_mul_of_pos_right n hk),Nat.le_trans h2 (Nat.le_mul_of_pos_right n' hk)⟩
theorem EqS.mul {n m n' m':Nat} (h:EqS n n') (h':EqS m m'):EqS (n*m) (n'*m'):=by
 refine (h.mul1 m).trans ?_;rw [Nat.mul_comm n' m,Nat.mul_comm n' m'];exact h'.mul1 n'
def PA (a:yC):Prop:=Srs a∧∀ t∈a,cOK t∧MF t.Factors
theorem PA.c {a:yC} (h:PA a):∀ t∈a,cOK t:=fun t ht=>(h.2 t ht).1
theorem zbfa {a b:yC} (ha:PA a) (hb:PA b):PA (sumA a b):=⟨zPu _ _ ha.1,fun t ht=>⟨zbax b ha.c hb.c t ht,by
 obtain ⟨x,hx,e⟩:=zKq b a ha.1 ht;rw [e];rcases hx with hx | hx
 ·exact (ha.2 x hx).2
 ·exact (hb.2 x hx).2⟩⟩
theorem PA.nil:PA []:=⟨List.Pairwise.nil,fun t ht=>by cases ht⟩
theorem zbaB {c:Int} (h:c≤1152921504606846976):zzL c 1=c:=by
 unfold zzL;rw [if_neg (by rw [Int.tdiv_one]; omega)]; omega
theorem zKO {τ:Type} [Inhabited τ] {R:τ→τ→Prop}:∀ {l:List τ},l.Pairwise R→∀ k,0<k→k<l.length→R (l.getD (k - 1) default) (l.getD k default)
 | [],_,k,_,h=>by simp at h
 | x::r,h,0,h0,_=>by omega
 | x::r,h,1,_,h1=>(qi.1 h).1 _ (zt (by simpa using h1))
 | x::r,h,k+2,_,h1=>zKO (qi.1 h).2 (k+1) (by omega) (by simp only [qf] at h1; omega)
def OKF (vat:Atom→Bool) (fs:yD):Prop:=Srf fs∧∀ f∈fs,(1≤f.Exp∧(f.Atom.Kind=3∨f.Atom.Kind=4→f.Exp=1))∧vat f.Atom=true
theorem z9i {vat:Atom→Bool} {fs:yD}:okF vat fs=true↔OKF vat fs:=by
 constructor
 ·intro h;refine ⟨zvy (R:=fun x y=>cF x y<0) (fun x y z h1 h2=>zFd h1 h2) _ fun k hk hl=> ?_,fun f hf=>zpE h hf⟩
  have:=zeu.1 h k (by omega) (by omega)
  simp only [chkF,qc,Bool.or_eq_true,qe] at this;rcases this.1.2 with e | e
  ·omega
  ·exact e
 ·intro h;refine zeu.2 fun k _ hk=> ?_
  have hm:=h.2 _ (zt (l:=fs) (i:=k) (by omega))
  simp only [chkF,qc,Bool.or_eq_true,qe,Bool.not_eq_true',Bool.and_eq_false_iff];refine ⟨⟨⟨hm.1.1, ?_⟩, ?_⟩,hm.2⟩
  ·by_cases hk:(fs.getD k default).Atom.Kind=3∨(fs.getD k default).Atom.Kind=4
   ·right; rw [hm.1.2 hk]; rfl
   ·left
    rw [Bool.or_eq_false_iff];constructor
    ·simpa using fun e=>hk (.inl e)
    ·simpa using fun e=>hk (.inr e)
  ·by_cases h0:k=0
   ·exact .inl h0
   ·exact .inr (zKO h.1 k (by omega) (by omega))
theorem zSg {vat:Atom→Bool} {a:yC}:vAnn vat a=true↔zeW a=true∧Srs a∧∀ t∈a,cOK t∧OKF vat t.Factors:=by
 constructor
 ·intro h;have hall:=h;simp only [vAnn,qc] at hall;refine ⟨hall.1,zvy (R:=fun x y=>cT x y<0) (fun x y z h1 h2=>zFw h1 h2) a fun k hk hl=> ?_,fun t ht=>⟨(zwv h ht).1,z9i.1 (zwv h ht).2⟩⟩
  have:=zeu.1 hall.2 k (by omega) (by omega)
  simp only [chkT,qc,Bool.or_eq_true,qe] at this;rcases this.1.2 with e | e
  ·omega
  ·exact e
 ·rintro ⟨h1,h2,h3⟩
  simp only [vAnn,qc];refine ⟨h1,zeu.2 fun k _ hk=> ?_⟩
  have hm:=h3 _ (zt (l:=a) (i:=k) (by omega))
  simp only [chkT,qc,Bool.or_eq_true,qe];refine ⟨⟨⟨hm.1.1,hm.1.2⟩, ?_⟩,z9i.2 hm.2⟩;by_cases h0:k=0
  ·exact .inl h0
  ·exact .inr (zKO h2 k (by omega) (by omega))
def QA (a:yC):Prop:=Srs a∧∀ t∈a,cOK t∧OKF vatA t.Factors
theorem zpR {a:yC}:zC a=true↔zeW a=true∧QA a:=by rw [z3m]; exact zSg
theorem OKF.mf {fs:yD} (h:OKF vatA fs):MF fs:=⟨h.1,fun f hf=>⟨⟨zDF (h.2 f hf).2,(h.2 f hf).1.2⟩,(h.2 f hf).1.1⟩⟩
theorem QA.pa {a:yC} (h:QA a):PA a:=⟨h.1,fun t ht=>⟨(h.2 t ht).1,(h.2 t ht).2.mf⟩⟩
theorem zFo {a:yC} (h:zC a=true):QA a:=(zpR.1 h).2
theorem zxe {a:yC} (h:zC a=true):PA a:=(zFo h).pa
theorem zbal {a:yC} (h:zC a=true):zeW a=true:=(zpR.1 h).1
theorem MF.okf {fs:yD} (h:MF fs) (hv:∀ f∈fs,vatA f.Atom=true):OKF vatA fs:=⟨h.1,fun f hf=>⟨⟨(h.2 f hf).2,(h.2 f hf).1.2⟩,hv f hf⟩⟩
theorem OKF.join {a b:yD} (ha:OKF vatA a) (hb:OKF vatA b):OKF vatA (zbN a b):=(zbdK ha.mf hb.mf).okf fun f hf=>by
 obtain ⟨y,hy,e⟩:=zuj hf;rw [e];rcases hy with hy | hy
 ·exact (ha.2 y hy).2
 ·exact (hb.2 y hy).2
theorem zbff {a b:yC} (ha:QA a) (hb:QA b):QA (sumA a b):=⟨zPu _ _ ha.1,fun t ht=>⟨zbax b ha.pa.c hb.pa.c t ht,by
 obtain ⟨x,hx,e⟩:=zKq b a ha.1 ht;rw [e];rcases hx with hx | hx
 ·exact (ha.2 x hx).2
 ·exact (hb.2 x hx).2⟩⟩
theorem QA.nil:QA []:=⟨List.Pairwise.nil,fun t ht=>by cases ht⟩
theorem zbew {x:Atom} (h:vatA x=true):QA (oneA x):=⟨by simp [oneA],fun t ht=>by
 simp only [oneA,qh] at ht; subst ht;refine ⟨⟨by simp,by simp⟩,by simp,fun f hf=> ?_⟩
 rw [qh] at hf; subst hf;exact ⟨⟨by simp,fun _=>rfl⟩,h⟩⟩
theorem zbeZ {a:yC} (h:(fitR a).2=0):zeW a=true∧fitR a=(a,0):=by
 unfold fitR at *;cases hw:zeW a with
 | true=>exact ⟨rfl,rfl⟩
 | false=>rw [hw] at h; simp at h
theorem zbfR {ok:Bool} {r:yC×Int} (h:(opR ok r).2=0):ok=true∧opR ok r=r:=by
 cases ok with
 | true=>exact ⟨rfl,rfl⟩
 | false=>simp [opR] at h
theorem zbfN {a b:yC} (h:(addR a b).2=0):(zC a=true∧zC b=true∧zC (sumA a b)=true)∧addR a b=(sumA a b,0):=by
 obtain ⟨h1,h2⟩:=zbfR h;rw [qc] at h1;unfold addR at h;rw [h2] at h;obtain ⟨h3,h4⟩:=zbeZ h;exact ⟨⟨h1.1,h1.2,zpR.2 ⟨h3,zbff (zFo h1.1) (zFo h1.2)⟩⟩,h2.trans h4⟩
theorem zKt {a:yC} (h:zeW a=true):fitR a=(a,0):=by unfold fitR; rw [h]; rfl
theorem zbeh {a b:yC} (ha:zC a=true) (hb:zC b=true) (h:zeW (sumA a b)=true):addR a b=(sumA a b,0):=by
 unfold addR; rw [ha,hb,zKt h]; rfl
theorem z9M {a b:yC} (ha:zC a=true) (hb:zC b=true) (h:zeW (zuV a b)=true):mulR a b=(zuV a b,0):=by
 unfold mulR; rw [ha,hb,zKt h]; rfl
theorem zR0 {x:Atom}:vatA x=true↔VA zC x:=zdG
theorem zba2 {x:Atom} (h:vatA x=true) (hw:zeW (oneA x)=true):zC (oneA x)=true:=zpR.2 ⟨hw,zbew h⟩
def sbd {α β:Type} (x:Int⊕α) (k:α→Int⊕β):Int⊕β:=match x with
 | .inl e=>.inl e
 | .inr a=>k a
theorem zCT {α β:Type} (e:Int) (k:α→Int⊕β):sbd (.inl e) k=.inl e:=rfl
theorem zb5 {α β:Type} (a:α) (k:α→Int⊕β):sbd (.inr a) k=k a:=rfl
def opS (r:yC×Int):Int⊕yC:=if r.2=0 then .inr r.1 else .inl r.2
def ofS:Int⊕yC→yC×Int
 | .inl e=>([],e)
 | .inr a=>(a,0)
theorem zCQ {r:yC×Int} (h:r.2=0∨r.1=[]):ofS (opS r)=r:=by
 obtain ⟨a,e⟩:=r;simp only at h;unfold opS;by_cases he:e=0
 ·subst he; simp [ofS]
 ·rw [if_neg he];rcases h with h | h
  ·exact absurd h he
  ·subst h; rfl
theorem z7S {a:yC}:opS (a,0)=.inr a:=rfl
def powS (b:yC):Nat→yC→Int⊕yC
 | 0,p=>.inr p
 | n+1,p=>sbd (opS (mulR p b)) (powS b n)
mutual
def zeG (to:RowID→yC):Atom→Int⊕yC
 | ⟨k,r,a,f,i,o,b⟩=>if k=0 then .inr (to r) else
  sbd (ziW to a) fun xs=>if k=1 then opS (monR (xs.getD 0 default) (xs.getD 1 default)) else if k=2 then opS (delR (xs.getD 0 default)) else if k=3 then opS (absR (xs.getD 0 default)) else
   sbd (zfB to i) fun is=>opS (zyR f is o b)
def zdD (to:RowID→yC):yD→yC→Int⊕yC
 | [],p=>.inr p
 | ⟨x,e⟩::r,p=>sbd (zeG to x) fun b=>sbd (powS b e.toNat p) fun q=>zdD to r q
def zck (to:RowID→yC):yC→yC→Int⊕yC
 | [],s=>.inr s
 | ⟨c,fs⟩::r,s=>sbd (zdD to fs (cstA c)) fun p=>sbd (opS (addR s p)) fun q=>zck to r q
def ziW (to:RowID→yC):yA→Int⊕yA
 | []=>.inr []
 | a::r=>sbd (zck to a []) fun b=>sbd (ziW to r) fun l=>.inr (b::l)
def zfB (to:RowID→yC):yE→Int⊕yE
 | []=>.inr []
 | ⟨v,a⟩::r=>sbd (zck to a []) fun b=>sbd (zfB to r) fun l=>.inr (⟨v,b⟩::l)
end
variable (to:RowID→yC)
theorem zH3 (p:yC):zdD to [] p=.inr p:=by rw [zdD]
theorem zFm (f:Factor) (r:yD) (p:yC):zdD to (f::r) p=sbd (zeG to f.Atom) fun b=>sbd (powS b f.Exp.toNat p) fun q=>zdD to r q:=by cases f; rw [zdD]
theorem zUY (s:yC):zck to [] s=.inr s:=by rw [zck]
theorem zRE (t:Term) (r s:yC):zck to (t::r) s=sbd (zdD to t.Factors (cstA t.Coeff)) fun p=>sbd (opS (addR s p)) fun q=>zck to r q:=by cases t; rw [zck]
theorem zAH:ziW to []=.inr []:=by rw [ziW]
theorem zye (a:yC) (r:yA):ziW to (a::r)=sbd (zck to a []) fun b=>sbd (ziW to r) fun l=>.inr (b::l):=by rw [ziW]
theorem zGm:zfB to []=.inr []:=by rw [zfB]
theorem zLm (w:Weighted) (r:yE):zfB to (w::r)=sbd (zck to w.Ann []) fun b=>sbd (zfB to r) fun l=>.inr (⟨w.Value,b⟩::l):=by cases w; rw [zfB]
theorem zWi (x:Atom):zeG to x=if x.Kind=0 then .inr (to x.Row) else
  sbd (ziW to x.Args) fun xs=>if x.Kind=1 then opS (monR (xs.getD 0 default) (xs.getD 1 default)) else if x.Kind=2 then opS (delR (xs.getD 0 default)) else if x.Kind=3 then opS (absR (xs.getD 0 default)) else
   sbd (zfB to x.Items) fun is=>opS (zyR x.Func is x.Op x.Bound):=by cases x; rw [zeG]
def GE {α:Type} (P:α→Prop):Int⊕α→Prop
 | .inl e=>e≠0
 | .inr a=>P a
abbrev GS:Int⊕yC→Prop:=GE okA
theorem zNy {r:yC×Int} (h:okR r):GS (opS r):=by
 unfold opS;by_cases he:r.2=0
 ·rw [if_pos he]; exact h.1
 ·rw [if_neg he]; exact he
theorem zNs {α β:Type} {P:α→Prop} {Q:β→Prop} {x:Int⊕α} {k:α→Int⊕β} (hx:GE P x) (hk:∀ a,P a→GE Q (k a)):GE Q (sbd x k):=by
 cases x with
 | inl e=>exact hx
 | inr a=>exact hk a hx
theorem z27 {b:yC} (hb:okA b):∀ (n:Nat) (p:yC),okA p→GS (powS b n p)
 | 0,p,hp=>hp
 | n+1,p,hp=>zNs (zNy (z3Q hp hb)) fun q hq=>z27 hb n q hq
abbrev GL (n:Nat):Int⊕yA→Prop:=GE fun l=>l.length=n∧∀ a∈l,okA a
abbrev GI (i:yE):Int⊕yE→Prop:=GE fun l=>l.length=i.length∧∀ w∈l,okA w.Ann∧∃ v∈i,v.Value=w.Value
theorem zbah (w:Weighted):zHe w↔wf65 w.Value∧zgr w.Ann∧w.Ann.length≤roomLen:=by cases w; unfold zHe; exact Iff.rfl
theorem zbbW {k f o:Int} {r:RowID} {a:yA} {i:yE} {b:Value} (h1:wf3 k) (h2:wf49 r) (h3:zxS a∧a.length≤roomLen) (h4:wf3 f) (h5:zs9 i∧i.length≤roomLen) (h6:wf3 o) (h7:wf65 b):zgn ⟨k,r,a,f,i,o,b⟩:=by
 unfold zgn; exact ⟨h1,h2,h3,h4,h5,h6,h7⟩
theorem zWY {f o:Int} {l:yE} {b:Value} (hl:l.length≤1000000) (h:∀ w∈l,okA w.Ann∧wf65 w.Value) (hf:wf3 f) (ho:wf3 o) (hb:wf65 b):okR (zyR f l o b):=by
 unfold zyR;cases hk:fitK f l o b with
 | false=>exact ⟨zj8,.inr rfl⟩
 | true=>
  cases hv:l.all fun w=>zC w.Ann with
  | false=>exact ⟨zj8,.inr rfl⟩
  | true=>
   simp only [Bool.and_self,Bool.not_true,cond_false];cases decide (0<(zd5 l).length) with
   | true=>
    obtain ⟨tf,ts⟩:=zLM hl hk hv;have hr:roomLen=140737488351232:=rfl;have hlen:(zd5 l).length≤1000000:=by rw [z1s]; exact Nat.le_trans (List.length_filter_le _ _) hl
    refine zKp ⟨⟨tf.mono (by omega),ts⟩,zFC _ fun t ht=> ?_,by simp [oneA,roomLen]⟩
    simp only [oneA,qh] at ht;subst ht;refine zVj ⟨by simp,by simp⟩ (fun g hg=> ?_) (by simp)
    simp only [qh] at hg;subst hg;refine ⟨zbbW (zWI (zWa (by omega))) ⟨zqm,zqm⟩ ⟨by unfold zxS; trivial,by simp⟩ hf ⟨zRp _ fun w hw=> ?_,by omega⟩ ho hb,⟨by simp,by simp⟩⟩
    have hm:=h w (zJ4 hw).1;exact (zbah w).2 ⟨hm.2,hm.1.2⟩
   | false=>
    cases f==0&&mats o (cmpI 0 b.Int) with
    | true=>exact ⟨zXy 1 (by omega),.inl rfl⟩
    | false=>exact ⟨zj8,.inl rfl⟩
theorem zFU {l:yA} (h:∀ a∈l,okA a) (i:Nat):okA (l.getD i default):=by
 by_cases hi:i<l.length
 ·exact h _ (zt hi)
 ·rw [List.getD_eq_getElem?_getD,List.getElem?_eq_none (by omega)]; exact zj8
def okT (to:RowID→yC):Prop:=∀ r,wf49 r→okA (to r)
variable {to}
mutual
theorem z5n (ht:okT to):∀ (x:Atom) (d:Nat),zgn x→zcV (zo d) x→GS (zeG to x)
 | ⟨k,r,a,f,i,o,b⟩=>fun d hw hi=>by
  have hw':=zpN hw;simp only at hw';obtain ⟨⟨ha,hal⟩,⟨hit,hil⟩,hb,hk,hr,hf,ho⟩:=hw';obtain ⟨⟨l1,l2,_⟩,f1,f2⟩:=hi;simp only at l1 l2 f1 f2;rw [zeG];by_cases hk0:k=0
  ·rw [if_pos hk0]; exact ht r hr
  ·rw [if_neg hk0];have hA:=zVc ht a d (fun x hx=>(zjV ha x hx).1) f1
   refine zNs hA fun xs has=> ?_
   have h0:=zFU has.2 0;have h1:=zFU has.2 1;split
   ·exact zNy (z3A h0 h1)
   ·split
    ·exact zNy (z3G h0)
    ·split
     ·exact zNy (z4m h0)
     ·have hI:=zRm ht i d (fun x hx=>(zh4 hit x hx).2.1) fun w hw=>(f2 w hw).2
      refine zNs hI fun is his=> ?_
      refine zNy (zWY (by omega) (fun w hw=>⟨(his.2 w hw).1, ?_⟩) hf ho hb)
      obtain ⟨v,hv,e⟩:=(his.2 w hw).2;rw [← e]; exact (zh4 hit v hv).1
theorem zLX (ht:okT to):∀ (l:yD) (d:Nat),(∀ f∈l,zgn f.Atom∧zcV (zo d) f.Atom)→∀ p,okA p→GS (zdD to l p)
 | [],_,_,p,hp=>by rw [zdD]; exact hp
 | ⟨x,e⟩::r,d,h,p,hp=>by
  rw [zdD];have hx:=z5n ht x d (h ⟨x,e⟩ (by simp)).1 (h ⟨x,e⟩ (by simp)).2
  refine zNs hx fun b hb=>zNs (z27 hb _ p hp) fun q hq=> ?_
  exact zLX ht r d (fun f hf=>h f (by simp [hf])) q hq
theorem zRt (ht:okT to):∀ (a:yC) (d:Nat),zgr a→(∀ t∈a,∀ f∈t.Factors,zcV (zo d) f.Atom)→∀ s,okA s→GS (zck to a s)
 | [],_,_,_,s,hs=>by rw [zck]; exact hs
 | ⟨c,fs⟩::r,d,hw,hi,s,hs=>by
  rw [zck];have hwt:=ztS hw ⟨c,fs⟩ (by simp)
  have hp:=zLX ht fs d (fun f hf=>⟨(zrz (zom (zwH hwt).2.1 f hf)).1,hi ⟨c,fs⟩ (by simp) f hf⟩) (cstA c) (z8z c)
  refine zNs hp fun p hp=>zNs (zNy (zXM hs hp)) fun q hq=> ?_
  exact zRt ht r d (zFC _ fun t ht=>ztS hw t (by simp [ht])) (fun t ht=>hi t (by simp [ht])) q hq
theorem zVc (ht:okT to):∀ (l:yA) (d:Nat),(∀ a∈l,zgr a)→(∀ a∈l,zo d a)→GL l.length (ziW to l)
 | [],_,_,_=>by rw [ziW]; exact ⟨rfl,fun a ha=>by cases ha⟩
 | a::r,d,h,hi=>by
  rw [ziW];have hf:=hi a (by simp)
  have h1:GS (zck to a []):=by
   cases d with
   | zero=>exact hf.elim
   | succ d=>exact zRt ht a d (h a (by simp)) (fun t ht f hf'=>(hf.2 t ht).2 f hf') [] zj8
  have h2:=zVc ht r d (fun b hb=>h b (by simp [hb])) (fun b hb=>hi b (by simp [hb]))
  revert h1 h2;cases zck to a [] with
  | inl e=>exact fun h _=>h
  | inr b=>
   cases ziW to r with
   | inl e=>exact fun _ h=>h
   | inr l=>
    intro h1 h2;refine ⟨by simp [h2.1],fun x hx=> ?_⟩
    rcases qd.1 hx with rfl | hx
    ·exact h1
    ·exact h2.2 x hx
theorem zRm (ht:okT to):∀ (l:yE) (d:Nat),(∀ w∈l,zgr w.Ann)→(∀ w∈l,zo d w.Ann)→GI l (zfB to l)
 | [],_,_,_=>by rw [zfB]; exact ⟨rfl,fun a ha=>by cases ha⟩
 | ⟨v,a⟩::r,d,h,hi=>by
  rw [zfB];have hf:zo d a:=hi ⟨v,a⟩ (by simp)
  have h1:GS (zck to a []):=by
   cases d with
   | zero=>exact hf.elim
   | succ d=>exact zRt ht a d (h ⟨v,a⟩ (by simp)) (fun t ht f hf'=>(hf.2 t ht).2 f hf') [] zj8
  have h2:=zRm ht r d (fun b hb=>h b (by simp [hb])) (fun b hb=>hi b (by simp [hb]))
  revert h1 h2;cases zck to a [] with
  | inl e=>exact fun h _=>h
  | inr b=>
   cases zfB to r with
   | inl e=>exact fun _ h=>h
   | inr l=>
    intro h1 h2;refine ⟨by simp [h2.1],fun x hx=> ?_⟩
    rcases qd.1 hx with rfl | hx
    ·exact ⟨h1,⟨v,a⟩,by simp,rfl⟩
    ·obtain ⟨h3,w,hw,e⟩:=h2.2 x hx;exact ⟨h3,w,by simp [hw],e⟩
end
abbrev zFO:=yG×Unit×Int×Unit
abbrev zGf:=(yC×Bool)⊕Unit
def zFp (l:yG) (i:Int) (id:RowID):Wy zFO (RowID×Unit) zGf:=.i (decide (i<Int.ofNat l.length)) (.i (decide (0≤i)&&decide (i<Int.ofNat l.length)) (.i ((l.getD i.toNat default).Row.Table==id.Table&&((l.getD i.toNat default).Row.Seq==id.Seq&&true)) (.i (decide (0≤i)&&decide (i<Int.ofNat l.length)) (.k (.inl ((l.getD i.toNat default).To,true))) .d) (.h (l,(),(IntKind.i64.wrap (i+1)),()) (id,()))) .d) (.k (.inr ()))
def z3X (x:zFO) (y:RowID×Unit):Wy zFO (RowID×Unit) zGf:=zFp x.1 x.2.2.1 y.1
def zFc (n:Nat) (l:yG) (i:Int) (id:RowID):Bool×zGf:=zF (z3X) (.inl default) n (l,(),i,()) (id,())
def zS3 (l:yG) (id:RowID):Wy0 (yC×Bool):=.bn (zFc (l.length+Int.toNat 0+1) l 0 id) fun r0=>.i (isL r0) (.k ((getL r0).1,(getL r0).2)) (.k ([],false))
def zOV (l:yG) (id:RowID):Bool×(yC×Bool):=(zS3 l id).fin default
abbrev zIj:=yG×Unit×Unit×Int×Unit
abbrev zIu:=Atom×yA×Unit
abbrev zIE:=Int⊕(yG×Atom×yA)
abbrev zHV:=yG×Unit×Unit×Unit×Int×Unit
abbrev zIO:=Atom×yA×yE×Unit
abbrev zH7:=Int⊕(Atom×yA×yE)
def zD9 (zcJ:yC→yG→Bool×(yC×Int)) (l:yG) (i:Int) (x_:Atom) (args:yA):Wy zIj zIu zIE:=.i (decide (i<Int.ofNat x_.Args.length)) (.i (decide (0≤i)&&decide (i<Int.ofNat x_.Args.length)) (.bn (zcJ (x_.Args.getD i.toNat default) l) fun r0=>.i (r0.2 != 0) (.k (.inl (r0.2))) (.i (decide ((args.length+[r0.1].length)*24≤reach)) (.h (l,(),(),(IntKind.i64.wrap (i+1)),()) (x_,(args++[r0.1]),())) .d)) .d) (.k (.inr (l,x_,args)))
def z2C (zcJ:yC→yG→Bool×(yC×Int)) (x:zIj) (y:zIu):Wy zIj zIu zIE:=zD9 zcJ x.1 x.2.2.2.1 y.1 y.2.1
def zDH (zcJ:yC→yG→Bool×(yC×Int)) (n:Nat) (l:yG) (i:Int) (x_:Atom) (args:yA):Bool×zIE:=zF (z2C zcJ) (.inl default) n (l,(),(),i,()) (x_,args,())
def zCq (zcJ:yC→yG→Bool×(yC×Int)) (l:yG) (i:Int) (x_:Atom) (args:yA) (items:yE):Wy zHV zIO zH7:=.i (decide (i<Int.ofNat x_.Items.length)) (.i (decide (0≤i)&&decide (i<Int.ofNat x_.Items.length)) (.bn (zcJ (x_.Items.getD i.toNat default).Ann l) fun r2=>.i (r2.2 != 0) (.k (.inl (r2.2))) (.i (decide (0≤i)&&decide (i<Int.ofNat x_.Items.length)) (.i (decide ((items.length+[WeightedOf.mk (x_.Items.getD i.toNat default).Value r2.1].length)*56≤reach)) (.h (l,(),(),(),(IntKind.i64.wrap (i+1)),()) (x_,args,(items++[WeightedOf.mk (x_.Items.getD i.toNat default).Value r2.1]),())) .d) .d)) .d) (.k (.inr (x_,args,items)))
def z0m (zcJ:yC→yG→Bool×(yC×Int)) (x:zHV) (y:zIO):Wy zHV zIO zH7:=zCq zcJ x.1 x.2.2.2.2.1 y.1 y.2.1 y.2.2.1
def zCj (zcJ:yC→yG→Bool×(yC×Int)) (n:Nat) (l:yG) (i:Int) (x_:Atom) (args:yA) (items:yE):Bool×zH7:=zF (z0m zcJ) (.inl default) n (l,(),(),(),i,()) (x_,args,items,())
def zQA (zcJ:yC→yG→Bool×(yC×Int)) (x_:Atom) (l:yG):Wy0 (yC×Int):=.i (x_.Kind==0) (.bn (zOV l x_.Row) fun r5=>.i (r5.2) (.k (r5.1,0)) (.bn (zC6 x_.Row) fun r4=>.k (r4,0))) (.bn (zDH zcJ (l.length+Int.toNat 0+x_.Args.length+x_.Items.length+0+1) l 0 (Atom.mk x_.Kind x_.Row x_.Args x_.Func x_.Items x_.Op x_.Bound) []) fun r11=>.i (isL r11) (.k ([],getL r11)) (.bn (zCj zcJ ((getR r11).1.length+Int.toNat 0+(getR r11).2.1.Args.length+(getR r11).2.1.Items.length+(getR r11).2.2.length+0+1) (getR r11).1 0 (Atom.mk (getR r11).2.1.Kind (getR r11).2.1.Row (getR r11).2.1.Args (getR r11).2.1.Func (getR r11).2.1.Items (getR r11).2.1.Op (getR r11).2.1.Bound) (getR r11).2.2 []) fun r10=>.i (isL r10) (.k ([],getL r10)) (.i ((getR r10).1.Kind==1) (.i (decide ((0:Int)≤(0:Int))&&decide (0<Int.ofNat (getR r10).2.1.length)) (.i (decide ((0:Int)≤(1:Int))&&decide (1<Int.ofNat (getR r10).2.1.length)) (.bn (zPn ((getR r10).2.1.getD (Int.toNat 0) default) ((getR r10).2.1.getD (Int.toNat 1) default)) fun r6=>.k (r6.1,r6.2)) .d) .d) (.i ((getR r10).1.Kind==2) (.i (decide ((0:Int)≤(0:Int))&&decide (0<Int.ofNat (getR r10).2.1.length)) (.bn (zBD ((getR r10).2.1.getD (Int.toNat 0) default)) fun r7=>.k (r7.1,r7.2)) .d) (.i ((getR r10).1.Kind==3) (.i (decide ((0:Int)≤(0:Int))&&decide (0<Int.ofNat (getR r10).2.1.length)) (.bn (zLc ((getR r10).2.1.getD (Int.toNat 0) default)) fun r8=>.k (r8.1,r8.2)) .d) (.bn (zJ2 (getR r10).1.Func (getR r10).2.2 (getR r10).1.Op (getR r10).1.Bound) fun r9=>.k (r9.1,r9.2)))))))
def zEa (zcJ:yC→yG→Bool×(yC×Int)) (x_:Atom) (l:yG):Bool×(yC×Int):=(zQA zcJ x_ l).fin default
abbrev zCx:=yC×yG×yC×Int×yC×Int×yC×Int×Int×Unit
abbrev zCn:=yC×yG×yC×Int×yC×Int×Int
abbrev zCA:=yC×yG×yC×Int×yC×Int×Unit
abbrev zCy:=Int⊕(yC×yG×yC×Int×yC)
abbrev zCm:=yC×yG×yC×Int×Unit
abbrev zCr:=Int⊕yC
def zym (zcz:Atom→yG→Bool×(yC×Int)) (a:yC) (l:yG) (out_:yC) (i:Int) (t:yC) (k:Int) (x_:yC) (e:Int) (n_:Int):Wy zCx (Unit) zCn:=.i (decide (0≤i)&&decide (i<Int.ofNat a.length)) (.i (decide (0≤k)&&decide (k<Int.ofNat (a.getD i.toNat default).Factors.length)) (.i (decide (n_<((a.getD i.toNat default).Factors.getD k.toNat default).Exp)) (.i (e==0) (.bn (zVy t x_) fun r8=>.h (a,l,out_,i,(r8.1),k,x_,(r8.2),(IntKind.i64.wrap (n_+1)),()) ()) (.k (a,l,out_,i,t,k,e))) (.k (a,l,out_,i,t,k,e))) .d) .d
def zTQ (zcz:Atom→yG→Bool×(yC×Int)) (x:zCx) (y:Unit):Wy zCx (Unit) zCn:=zym zcz x.1 x.2.1 x.2.2.1 x.2.2.2.1 x.2.2.2.2.1 x.2.2.2.2.2.1 x.2.2.2.2.2.2.1 x.2.2.2.2.2.2.2.1 x.2.2.2.2.2.2.2.2.1
def zyx (zcz:Atom→yG→Bool×(yC×Int)) (n:Nat) (a:yC) (l:yG) (out_:yC) (i:Int) (t:yC) (k:Int) (x_:yC) (e:Int) (n_:Int):Bool×zCn:=zF (zTQ zcz) default n (a,l,out_,i,t,k,x_,e,n_,()) ()
def zAo (zcz:Atom→yG→Bool×(yC×Int)) (a:yC) (l:yG) (out_:yC) (i:Int) (t:yC) (k:Int):Wy zCA (Unit) zCy:=.i (decide (0≤i)&&decide (i<Int.ofNat a.length)) (.i (decide (k<Int.ofNat (a.getD i.toNat default).Factors.length)) (.i (decide (0≤i)&&decide (i<Int.ofNat a.length)) (.i (decide (0≤k)&&decide (k<Int.ofNat (a.getD i.toNat default).Factors.length)) (.bn (zcz (Atom.mk ((a.getD i.toNat default).Factors.getD k.toNat default).Atom.Kind ((a.getD i.toNat default).Factors.getD k.toNat default).Atom.Row ((a.getD i.toNat default).Factors.getD k.toNat default).Atom.Args ((a.getD i.toNat default).Factors.getD k.toNat default).Atom.Func ((a.getD i.toNat default).Factors.getD k.toNat default).Atom.Items ((a.getD i.toNat default).Factors.getD k.toNat default).Atom.Op ((a.getD i.toNat default).Factors.getD k.toNat default).Atom.Bound) l) fun r11=>.bn (zyx zcz ((a.length+l.length+out_.length+i.toNat +t.length+k.toNat +r11.1.length+r11.2.toNat +Int.toNat 0+1)+szTs a+szTs out_+szTs t+szTs r11.1) a l out_ i t k r11.1 r11.2 0) fun r10=>.i (r10.2.2.2.2.2.2 != 0) (.k (.inl (r10.2.2.2.2.2.2))) (.h ((r10.1),(r10.2.1),(r10.2.2.1),(r10.2.2.2.1),(r10.2.2.2.2.1),(IntKind.i64.wrap (r10.2.2.2.2.2.1+1)),()) ())) .d) .d) (.k (.inr (a,l,out_,i,t)))) .d
def zWE (zcz:Atom→yG→Bool×(yC×Int)) (x:zCA) (y:Unit):Wy zCA (Unit) zCy:=zAo zcz x.1 x.2.1 x.2.2.1 x.2.2.2.1 x.2.2.2.2.1 x.2.2.2.2.2.1
def zAc (zcz:Atom→yG→Bool×(yC×Int)) (n:Nat) (a:yC) (l:yG) (out_:yC) (i:Int) (t:yC) (k:Int):Bool×zCy:=zF (zWE zcz) (.inl default) n (a,l,out_,i,t,k,()) ()
def zAn (zcz:Atom→yG→Bool×(yC×Int)) (a:yC) (l:yG) (out_:yC) (i:Int):Wy zCm (Unit) zCr:=.i (decide (i<Int.ofNat a.length)) (.i (decide (0≤i)&&decide (i<Int.ofNat a.length)) (.bn (zBE (a.getD i.toNat default).Coeff) fun r16=>.bn (zAc zcz ((a.length+l.length+out_.length+i.toNat +r16.length+Int.toNat 0+1)+szTs a+szTs out_+szTs r16) a l out_ i r16 0) fun r15=>.i (isL r15) (.k (.inl (getL r15))) (.bn (zWR (getR r15).2.2.1 (getR r15).2.2.2.2) fun r14=>.i (r14.2 != 0) (.k (.inl (r14.2))) (.h ((getR r15).1,(getR r15).2.1,(r14.1),(IntKind.i64.wrap ((getR r15).2.2.2.1+1)),()) ()))) .d) (.k (.inr out_))
def zVN (zcz:Atom→yG→Bool×(yC×Int)) (x:zCm) (y:Unit):Wy zCm (Unit) zCr:=zAn zcz x.1 x.2.1 x.2.2.1 x.2.2.2.1
def zzT (zcz:Atom→yG→Bool×(yC×Int)) (n:Nat) (a:yC) (l:yG) (out_:yC) (i:Int):Bool×zCr:=zF (zVN zcz) (.inl default) n (a,l,out_,i,()) ()
def zIZ (zcz:Atom→yG→Bool×(yC×Int)) (a:yC) (l:yG):Wy0 (yC×Int):=.bn (zzT zcz ((a.length+l.length+0+Int.toNat 0+1)+szTs a+szTs []) a l [] 0) fun r20=>.i (isL r20) (.k ([],getL r20)) (.k (getR r20,0))
def zyM (zcz:Atom→yG→Bool×(yC×Int)) (a:yC) (l:yG):Bool×(yC×Int):=(zIZ zcz a l).fin default
def zEr:Nat→(yC→yG→Bool×(yC×Int))×(Atom→yG→Bool×(yC×Int))
 | 0=>(fun _ _=>(false,default),fun _ _=>(false,default))
 | n+1=>(zyM ((zEr n).2),zEa ((zEr n).1))
def zyU (n:Nat):yC→yG→Bool×(yC×Int):=(zEr n).1
def zD1 (n:Nat):Atom→yG→Bool×(yC×Int):=(zEr n).2
theorem zW6 (n:Nat):zyU (n+1)=zyM (zD1 n):=rfl
theorem z10 (n:Nat):zD1 (n+1)=zEa (zyU n):=rfl
def zTb:yC→yG→Bool×(yC×Int):=zyU 1000
abbrev zyA:=yC×yG×Int×Unit
abbrev zyB:=Int⊕(yC×yG)
def zyk (a:yC) (l:yG) (i:Int):Wy zyA (Unit) zyB:=.i (decide (i<Int.ofNat l.length)) (.i (decide (0≤i)&&decide (i<Int.ofNat l.length)) (.bn (zeP (l.getD i.toNat default).To) fun r0=>.i (!r0) (.k (.inl 1)) (.h (a,l,(IntKind.i64.wrap (i+1)),()) ())) .d) (.k (.inr (a,l)))
def zT9 (x:zyA) (y:Unit):Wy zyA (Unit) zyB:=zyk x.1 x.2.1 x.2.2.1
def zys (n:Nat) (a:yC) (l:yG) (i:Int):Bool×zyB:=zF (zT9) (.inl default) n (a,l,i,()) ()
def zHG (a:yC) (l:yG):Wy0 (yC×Int):=.bn (zeP a) fun r4=>.i (!r4) (.k ([],1)) (.bn (zys (a.length+l.length+Int.toNat 0+1) a l 0) fun r3=>.i (isL r3) (.k ([],getL r3)) (.bn (zTb (getR r3).1 (getR r3).2) fun r2=>.k (r2.1,r2.2)))
def zKD (a:yC) (l:yG):Bool×(yC×Int):=(zHG a l).fin default
def toA:yG→RowID→yC
 | [],r=>varA r
 | b::l,r=>if b.Row=r then b.To else toA l r
def okB (l:yG):Prop:=l.length≤1000∧∀ b∈l,okA b.To
theorem zbcb:∀ {l:yG},(∀ b∈l,okA b.To)→okT (toA l)
 | [],_,r,hr=>by rw [toA]; exact zbfM hr
 | b::l,h,r,hr=>by
  rw [toA];split
  ·exact h b (by simp)
  ·exact zbcb (fun c hc=>h c (by simp [hc])) r hr
theorem z9w (a b:RowID):(a.Table==b.Table&&(a.Seq==b.Seq&&true))=decide (a=b):=by
 obtain ⟨t,s⟩:=a; obtain ⟨t',s'⟩:=b;rw [Bool.and_true,beqd,beqd, ← Bool.decide_and];congr 1;simp
theorem zbcA (a b:RowID):(a.Table==b.Table&&a.Seq==b.Seq)=decide (a=b):=by rw [← z9w,Bool.and_true]
theorem z9q:∀ (l:yG) (r:RowID) (i:Nat),(ixf (fun b=>decide (b.Row=r)) l i= -1∧toA l r=varA r)∨∃ j,j<l.length∧ixf (fun b=>decide (b.Row=r)) l i=((i+j:Nat):Int)∧toA l r=(l.getD j default).To
 | [],r,i=>.inl ⟨rfl,rfl⟩
 | b::l,r,i=>by
  rw [ixf,toA];by_cases h:b.Row=r
  ·rw [decide_eq_true h,cond_true,if_pos h];exact .inr ⟨0,by simp,rfl,rfl⟩
  ·rw [decide_eq_false h,cond_false,if_neg h];rcases z9q l r (i+1) with ⟨h1,h2⟩ | ⟨j,h1,h2,h3⟩
   ·exact .inl ⟨h1,h2⟩
   ·exact .inr ⟨j+1,by simp; omega,by rw [h2]; congr 1; omega,h3⟩
theorem zbf5 {l:yG} (h:okB l) (r:RowID):zhV r l=(true,toA l r):=by
 unfold zhV zxr
 have hi:zcv l r=(true,ixf (fun b=>decide (b.Row=r)) l 0):=by
  have e:zcv l r=IH (fun (g:RowID×Unit) x=>zfX x g.1) (l.length+(Int.ofNat l.length).toNat +Int.toNat (0:Int)+(1:Nat)) (r,()) l:=rfl
  rw [e]
  exact zbdu _ _ _ _ _ (by have:=h.1; omega) (fun x _=>by
   unfold zfX zuI;rw [Wy.fin_k,z9w]) (by omega)
 rw [Wy.fin_bn,hi];rcases z9q l r 0 with ⟨h1,h2⟩ | ⟨j,h1,h2,h3⟩
 ·rw [h1,h2];simp only [cond_true,Wy.fin_i,Wy.fin_bn,Wy.fin_k,(zbbS r).1];rfl
 ·rw [Nat.zero_add] at h2;rw [h2,h3];have hm:=h.2 _ (zt h1);have e1:decide ((j:Int)≥(0:Int))=true:=by simp
  simp only [cond_true,Wy.fin_i,Wy.fin_bn,Wy.fin_k,e1,tT,h1,zG7 hm.1.1 (show (12:Nat)≤100 by omega)]
theorem zbc9 {l:yG} (h:okB l) (r:RowID):∃ b q,zOV l r=(true,(b,q))∧((q=true∧b=toA l r)∨(q=false∧toA l r=varA r)):=by
 have key:∀ (n i:Nat),l.length<i+n→i≤l.length→∃ x,zFc n l i r=(true,x)∧((x=.inl (toA (l.drop i) r,true))∨(x=.inr ()∧toA (l.drop i) r=varA r)):=by
  intro n;induction n with
  | zero=>intro i h1 h2; omega
  | succ n ih=>
   intro i h1 h2;have hlen:=h.1;show ∃ x,(zFp l i r).ev (fun x y=>zFc n x.1 x.2.2.1 y.1) (fun r=>(true,r)) (false,.inl default)=(true,x)∧_
   unfold zFp;by_cases hi:i<l.length
   ·simp only [Wy.ev_i,Wy.ev_k,Wy.ev_h,Wy.ev_bn,Wy.ev_d,tT,hi,zbcA];rw [zbs hi,toA];by_cases hr:(l.getD i default).Row=r
    ·rw [decide_eq_true hr,if_pos hr,cond_true];exact ⟨_,rfl,.inl rfl⟩
    ·rw [decide_eq_false hr,if_neg hr,cond_false,zQ (by omega)]
     exact ih (i+1) (by omega) (by omega)
   ·simp only [Wy.ev_i,Wy.ev_k,Wy.ev_h,Wy.ev_bn,Wy.ev_d,tT,hi];rw [zcs hi];exact ⟨_,rfl,.inr ⟨rfl,rfl⟩⟩
 obtain ⟨x,h1,h2⟩:=key (l.length+Int.toNat (0:Int)+(1:Nat)) 0 (by omega) (by omega)
 unfold zOV zS3;rw [show ((0:Nat):Int)=(0:Int) from rfl] at h1
 rw [Wy.fin_bn,h1];rw [List.drop_zero] at h2;rcases h2 with rfl | ⟨rfl,h2⟩
 ·exact ⟨_,_,rfl,.inl ⟨rfl,rfl⟩⟩
 ·exact ⟨_,_,rfl,.inr ⟨rfl,h2⟩⟩
def RS (s:Int⊕yC) (e:Int) (p:yC):Prop:=match s with
 | .inl x=>e=x∧x≠0
 | .inr q=>e=0∧p=q
theorem zbdw (r:yC×Int):RS (opS r) r.2 r.1:=by
 unfold opS;by_cases h:r.2=0
 ·rw [if_pos h]; exact ⟨h,rfl⟩
 ·rw [if_neg h]; exact ⟨rfl,h⟩
theorem z7s (b:yC) (s:Int⊕yC):sbd s (powS b 0)=s:=by cases s <;>rfl
section
variable (g:Atom→yG→Bool×(yC×Int)) (to:yG)
theorem z92 (b:yC) (hb:okA b) (t16:yC) (t17 t18:Int) (t26:yD) (t27 t28:Int) (N:Nat) (hN:N≤1000000) (sum:yC):
  ∀ (n i:Nat) (e:Int) (p:yC) (s:Int⊕yC),N<i+n→i≤N→GS s→RS s e p→∃ e' p',zrA g n to b e t16 t17 t18 t26 t27 t28 N i sum p=(true,(to,e',t16,t17,t18,t26,t27,t28,sum,p'))∧RS (sbd s (powS b (N - i))) e' p'
 | 0,i,e,p,s,h1,h2,_,_=>by omega
 | n+1,i,e,p,s,h1,h2,hs,hr=>by
  show ∃ e' p',(zrw g to b e t16 t17 t18 t26 t27 t28 N i sum p).ev (fun x y=>zrA g n x.1.1.1 x.2.2.2.1 x.2.2.2.2.1 x.2.2.2.2.2.1 x.2.2.2.2.2.2.1 x.2.2.2.2.2.2.2.1 x.2.2.2.2.2.2.2.2.1 x.2.2.2.2.2.2.2.2.2.1 x.2.2.2.2.2.2.2.2.2.2.1 x.2.2.2.2.2.2.2.2.2.2.2.1 x.2.2.2.2.2.2.2.2.2.2.2.2.1 y.1 y.2.1) (fun r=>(true,r)) (false,default)=_∧_
  unfold zrw;by_cases hi:i<N
  ·have hk:N - i=(N - (i+1))+1:=by omega
   cases s with
   | inl x=>
    obtain ⟨rfl,hx⟩:=hr;have he:(e==(0:Int))=false:=by simp [hx]
    simp only [Wy.ev_i,Wy.ev_k,Wy.ev_h,Wy.ev_bn,Wy.ev_d,zBO,hi,decide_true,cond_true,he,cond_false,zQ (show i<4611686018427387904 by omega)]
    exact z92 b hb t16 t17 t18 t26 t27 t28 N hN sum n (i+1) e p (.inl e) (by omega) (by omega) hs ⟨rfl,hx⟩
   | inr q=>
    obtain ⟨rfl,rfl⟩:=hr;have hp:okA p:=hs;simp only [Wy.ev_i,Wy.ev_k,Wy.ev_h,Wy.ev_bn,Wy.ev_d,zBO,hi,decide_true,cond_true,(zbbX hp hb).1,zQ (show i<4611686018427387904 by omega),show ((0:Int)==0)=true from rfl]
    rw [hk];exact z92 b hb t16 t17 t18 t26 t27 t28 N hN sum n (i+1) (mulR p b).2 (mulR p b).1 (opS (mulR p b)) (by omega) (by omega) (zNy (z3Q hp hb)) (zbdw _)
  ·have hk:N - i=0:=by omega
   simp only [Wy.ev_i,Wy.ev_k,zBO,hi,decide_false,cond_false];rw [hk,z7s];exact ⟨e,p,rfl,hr⟩
def AG (l:yD):Prop:=∀ f∈l,(g f.Atom to=(true,ofS (zeG (toA to) f.Atom))∧GS (zeG (toA to) f.Atom))∧0≤f.Exp∧f.Exp≤1000000
theorem zbbC {s:Int⊕yC} (h:GS s):okA (ofS s).1:=by
 cases s with
 | inl e=>exact zj8
 | inr a=>exact h
theorem z7r {s:Int⊕yC} (h:GS s) (p:yC):RS (sbd s fun _=>.inr p) (ofS s).2 p:=by
 cases s with
 | inl e=>exact ⟨rfl,h⟩
 | inr a=>exact ⟨rfl,rfl⟩
theorem z78 {s:Int⊕yC} (h:GS s) {p:yC} (hp:okA p):GS (sbd s fun _=>.inr p):=zNs h fun _ _=>hp
theorem z44 {s:Int⊕yC} (p:yC) (N:Nat):sbd (sbd s fun _=>.inr p) (powS (ofS s).1 N)=sbd s fun b=>powS b N p:=by
 cases s <;>rfl
theorem rp_7 (l:yD) (hl:l.length≤1000000) (hg:AG g to l) (t16:yC) (t17 t18:Int) (sum:yC):
  ∀ (n i:Nat) (p:yC),l.length<i+n→i≤l.length→okA p→zs5 g n to t16 t17 t18 l l.length i sum p=(true,match zdD (toA to) (l.drop i) p with
   | .inl e=>.inl e
   | .inr q=>.inr (to,t16,t17,t18,sum,q))
 | 0,i,p,h1,h2,_=>by omega
 | n+1,i,p,h1,h2,hp=>by
  show (zsQ g to t16 t17 t18 l l.length i sum p).ev (fun x y=>zs5 g n x.1.1.1 x.2.2.2.1 x.2.2.2.2.1 x.2.2.2.2.2.1 x.2.2.2.2.2.2.1 x.2.2.2.2.2.2.2.1 x.2.2.2.2.2.2.2.2.1 y.1 y.2.1) (fun r=>(true,r)) (false,.inl default)=_
  unfold zsQ;by_cases hi:i<l.length
  ·obtain ⟨⟨hf,hG⟩,e0,e1⟩:=hg _ (zt hi);obtain ⟨N,hN⟩:∃ N:Nat,(l.getD i default).Exp=(N:Int):=⟨_,(Int.toNat_of_nonneg e0).symm⟩
   obtain ⟨e',p',h11,hrs⟩:=z92 g to (ofS (zeG (toA to) (l.getD i default).Atom)).1 (zbbC hG) t16 t17 t18 l l.length i N (by omega) sum
    (to.length+(ofS (zeG (toA to) (l.getD i default).Atom)).1.length+(ofS (zeG (toA to) (l.getD i default).Atom)).2.toNat +t16.length+t17.toNat +t18.toNat +l.length+(l.length:Int).toNat +(i:Int).toNat +(N:Int).toNat +Int.toNat (0:Int)+sum.length+p.length+(1:Nat)) 0 _ p _ (by omega) (by omega) (z78 hG hp) (z7r hG p)
   rw [z44,Nat.sub_zero] at hrs;rw [show ((0:Nat):Int)=(0:Int) from rfl] at h11
   rw [zbs hi,zFm,hN,Int.toNat_natCast];simp only [Wy.ev_i,Wy.ev_k,Wy.ev_h,Wy.ev_bn,Wy.ev_d,tT,hi,Atom.eta,hf,hN,bne0];rw [show Int.toNat (l.length:Int)=l.length from Int.toNat_natCast _,show Int.toNat (i:Int)=i from Int.toNat_natCast _,show Int.toNat (N:Int)=N from Int.toNat_natCast _] at h11
   rw [h11];have hS:=hG;revert hrs hS;cases zeG (toA to) (l.getD i default).Atom with
   | inl x=>
    rintro ⟨rfl,hx⟩ _
    simp [hx,zCT]
   | inr b=>
    intro hrs hb;simp only [zb5] at hrs ⊢;have hq:=z27 (b:=b) hb N p hp;revert hrs hq;cases powS b N p with
    | inl x=>
     rintro ⟨rfl,hx⟩ _
     simp [hx,zCT]
    | inr q=>
     rintro ⟨rfl,rfl⟩ hq
     simp only [zb5,decide_true,Bool.not_true,cond_true,cond_false,zQ (show i<4611686018427387904 by omega)]
     exact rp_7 l hl hg t16 t17 t18 sum n (i+1) p' (by omega) (by omega) hq
  ·simp only [Wy.ev_i,Wy.ev_k,Wy.ev_h,Wy.ev_bn,Wy.ev_d,tT,hi];rw [zcs hi,zH3]
theorem rp_3 (l:yC) (hl:l.length≤1000000) (hg:∀ t∈l,t.Factors.length≤1000000∧AG g to t.Factors) (hok:∀ t∈l,∀ p,okA p→GS (zdD (toA to) t.Factors p)):
  ∀ (n i:Nat) (s:yC),l.length<i+n→i≤l.length→okA s→zsy g n to l l.length i s=(true,zck (toA to) (l.drop i) s)
 | 0,i,s,h1,h2,_=>by omega
 | n+1,i,s,h1,h2,hs=>by
  show (zsR g to l l.length i s).ev (fun x y=>zsy g n x.1.1.1 x.2.2.1 x.2.2.2.1 x.2.2.2.2.1 y.1) (fun r=>(true,r)) (false,.inl default)=_
  unfold zsR;by_cases hi:i<l.length
  ·have ht:=hg _ (zt hi);have hc:=z8z (l.getD i default).Coeff;have h7:=rp_7 g to (l.getD i default).Factors ht.1 ht.2 l l.length i s (to.length+l.length+(l.length:Int).toNat +(i:Int).toNat +(l.getD i default).Factors.length+((l.getD i default).Factors.length:Int).toNat +Int.toNat (0:Int)+s.length+(cstA (l.getD i default).Coeff).length+(1:Nat)) 0 (cstA (l.getD i default).Coeff) (by omega) (by omega) hc
   rw [show ((0:Nat):Int)=(0:Int) from rfl,List.drop_zero] at h7
   simp only [Int.toNat_natCast] at h7;rw [zbs hi,zRE];simp only [Wy.ev_i,Wy.ev_k,Wy.ev_h,Wy.ev_bn,Wy.ev_d,tT,hi,(z6P _).1];rw [h7];have hS:=hok _ (zt hi) _ hc;revert hS;cases zdD (toA to) (l.getD i default).Factors (cstA (l.getD i default).Coeff) with
   | inl e=>intro _; rfl
   | inr p=>
    intro hp;have hp:okA p:=hp;simp only [zb5,isL,getR,cond_true,cond_false,(z7p hs hp).1,bne0];have hG:=zXM hs hp;unfold opS;by_cases he:(addR s p).2=0
    ·rw [if_pos he,decide_eq_true he,zb5,zQ (show i<4611686018427387904 by omega)]
     exact rp_3 l hl hg hok n (i+1) _ (by omega) (by omega) hG.1
    ·rw [if_neg he,decide_eq_false he]; rfl
  ·simp only [Wy.ev_i,Wy.ev_k,Wy.ev_h,Wy.ev_bn,Wy.ev_d,tT,hi];rw [zcs hi,zUY]
theorem rp_b (a:yC) (hl:a.length≤1000000) (hg:∀ t∈a,t.Factors.length≤1000000∧AG g to t.Factors) (hok:∀ t∈a,∀ p,okA p→GS (zdD (toA to) t.Factors p)):zk5 g a to=(true,ofS (zck (toA to) a [])):=by
 unfold zk5 zB5;have h3:=rp_3 g to a hl hg hok (to.length+a.length+(Int.ofNat a.length).toNat +Int.toNat (0:Int)+(0:Nat)+(1:Nat)) 0 [] (by omega) (by omega) zj8
 rw [show ((0:Nat):Int)=(0:Int) from rfl,List.drop_zero] at h3
 rw [Wy.fin_bn,show Int.ofNat a.length=(a.length:Int) from rfl] at *
 rw [h3];cases zck (toA to) a [] <;>rfl
end
section
variable (g:yC→yG→Bool×(yC×Int)) (to:yG)
theorem rp_5 (x:Atom) (l:yA) (hl:l.length≤1000000) (hg:∀ a∈l,g a to=(true,ofS (zck (toA to) a []))∧GS (zck (toA to) a [])):
  ∀ (n i:Nat) (xs:yA),l.length<i+n→i≤l.length→xs.length≤i→zjg g n to l l.length i x xs=(true,match ziW (toA to) (l.drop i) with
   | .inl e=>.inl e
   | .inr ys=>.inr (to,x,xs++ys))
 | 0,i,xs,h1,h2,_=>by omega
 | n+1,i,xs,h1,h2,hx=>by
  have hreach:reach=70368744177664:=rfl;show (znq g to l l.length i x xs).ev (fun x y=>zjg g n x.1.1.1 x.2.2.2.1 x.2.2.2.2.1 x.2.2.2.2.2.1 y.1 y.2.1) (fun r=>(true,r)) (false,.inl default)=_
  unfold znq;by_cases hi:i<l.length
  ·obtain ⟨hf,hG⟩:=hg _ (zt hi);have hb:decide ((xs.length+1)*24≤reach)=true:=by simp only [qe]; omega
   rw [zbs hi,zye];simp only [Wy.ev_i,Wy.ev_k,Wy.ev_h,Wy.ev_bn,Wy.ev_d,tT,hi,hf,bne0,List.length_singleton,hb];revert hG;cases zck (toA to) (l.getD i default) [] with
   | inl e=>intro he; simp [ofS,show e≠0 from he,zCT]
   | inr b=>
    intro _;simp only [ofS,decide_true,Bool.not_true,cond_false,zb5,zQ (show i<4611686018427387904 by omega)]
    rw [rp_5 x l hl hg n (i+1) (xs++[b]) (by omega) (by omega) (by simp; omega)]
    cases ziW (toA to) (l.drop (i+1)) with
    | inl e=>rfl
    | inr ys=>simp [zb5]
  ·simp only [Wy.ev_i,Wy.ev_k,Wy.ev_h,Wy.ev_bn,Wy.ev_d,tT,hi];rw [zcs hi,zAH]; simp
theorem zbdr (x:Atom) (l:yE) (hl:l.length≤1000000) (hg:∀ w∈l,g w.Ann to=(true,ofS (zck (toA to) w.Ann []))∧GS (zck (toA to) w.Ann [])):
  ∀ (n i:Nat) (xs:yE),l.length<i+n→i≤l.length→xs.length≤i→zis g n to l l.length i x xs=(true,match zfB (toA to) (l.drop i) with
   | .inl e=>.inl e
   | .inr ys=>.inr (x,xs++ys))
 | 0,i,xs,h1,h2,_=>by omega
 | n+1,i,xs,h1,h2,hx=>by
  have hreach:reach=70368744177664:=rfl;show (zmz g to l l.length i x xs).ev (fun x y=>zis g n x.1.1.1 x.2.2.2.1 x.2.2.2.2.1 x.2.2.2.2.2.1 y.1 y.2.1) (fun r=>(true,r)) (false,.inl default)=_
  unfold zmz;by_cases hi:i<l.length
  ·obtain ⟨hf,hG⟩:=hg _ (zt hi);have hb:decide ((xs.length+1)*56≤reach)=true:=by simp only [qe]; omega
   rw [zbs hi,zLm];simp only [Wy.ev_i,Wy.ev_k,Wy.ev_h,Wy.ev_bn,Wy.ev_d,tT,hi,hf,bne0,List.length_singleton,hb];revert hG;cases zck (toA to) (l.getD i default).Ann [] with
   | inl e=>intro he; simp [ofS,show e≠0 from he,zCT]
   | inr b=>
    intro _;simp only [ofS,decide_true,Bool.not_true,cond_false,zb5,zQ (show i<4611686018427387904 by omega)]
    rw [zbdr x l hl hg n (i+1) (xs++[WeightedOf.mk (l.getD i default).Value b]) (by omega) (by omega) (by simp; omega)]
    cases zfB (toA to) (l.drop (i+1)) with
    | inl e=>rfl
    | inr ys=>simp [zb5]
  ·simp only [Wy.ev_i,Wy.ev_k,Wy.ev_h,Wy.ev_bn,Wy.ev_d,tT,hi];rw [zcs hi,zGm]; simp
structure XG (x:Atom):Prop where
 va:vatA x=true
 lens:x.Args.length≤1000000∧x.Items.length<20
 ga:∀ a∈x.Args,g a to=(true,ofS (zck (toA to) a []))∧GS (zck (toA to) a [])
 gi:∀ w∈x.Items,g w.Ann to=(true,ofS (zck (toA to) w.Ann []))∧GS (zck (toA to) w.Ann [])
 sa:GL x.Args.length (ziW (toA to) x.Args)
 si:GI x.Items (zfB (toA to) x.Items)
 wf:zgn x
theorem z9N {f o:Int} {i l:yE} {b:Value} (h20:i.length<20) (hl:l.length=i.length∧∀ w∈l,okA w.Ann∧∃ v∈i,v.Value=w.Value):znV f l o b=(true,zyR f l o b)∧zJ2 f l o b=(true,zyR f l o b):=by
 have h1:∀ w∈l,zo 12 w.Ann∧zM w.Ann≤4611686018427387904:=fun w hw=>(hl.2 w hw).1.1
 have h2:(l.filter hasA).length<20:=Nat.lt_of_le_of_lt (List.length_filter_le _ _) (by omega)
 exact ⟨zbdH f l o b (by omega) h1 (by omega) h2,zbc8 f l o b (by omega) h1 (by omega)⟩
theorem z47 {x:Atom} (h:vatA x=true):(x.Kind=1→x.Args.length=2)∧(x.Kind=2∨x.Kind=3→x.Args.length=1):=by
 cases zR0.1 h <;>simp
theorem zbd6 (hto:okB to) (x:Atom) (h:XG g to x):zhJ g x to=(true,ofS (zeG (toA to) x)):=by
 unfold zhJ zxC;have h5:=rp_5 g to x x.Args h.lens.1 h.ga (to.length+x.Args.length+(Int.ofNat x.Args.length).toNat +Int.toNat (0:Int)+x.Args.length+x.Items.length+(0:Nat)+(1:Nat)) 0 [] (by omega) (by omega) (by simp)
 rw [show ((0:Nat):Int)=(0:Int) from rfl,List.drop_zero] at h5
 have h5':zjg g (to.length+x.Args.length+(Int.ofNat x.Args.length).toNat +Int.toNat (0:Int)+x.Args.length+x.Items.length+(0:Nat)+(1:Nat)) to x.Args (Int.ofNat x.Args.length) 0 x []=_:=h5;have h21:=zbdr g to x x.Items (by have:=h.lens.2; omega) h.gi (to.length+x.Items.length+(Int.ofNat x.Items.length).toNat +Int.toNat (0:Int)+x.Args.length+x.Items.length+(0:Nat)+(1:Nat)) 0 [] (by omega) (by omega) (by simp)
 rw [show ((0:Nat):Int)=(0:Int) from rfl,List.drop_zero] at h21
 have h21':zis g (to.length+x.Items.length+(Int.ofNat x.Items.length).toNat +Int.toNat (0:Int)+x.Args.length+x.Items.length+(0:Nat)+(1:Nat)) to x.Items (Int.ofNat x.Items.length) 0 x []=_:=h21;rw [Atom.eta,zWi];have b0:=beqd x.Kind 0;have b1:=beqd x.Kind 1;have b2:=beqd x.Kind 2;have b3:=beqd x.Kind 3;simp only [Wy.fin_i,Wy.fin_bn,Wy.fin_k,zbf5 hto,cond_true,h5',List.nil_append];by_cases hk0:x.Kind=0
 ·rw [b0,decide_eq_true hk0,if_pos hk0]; rfl
 ·rw [b0,decide_eq_false hk0,if_neg hk0,cond_false];have hA:=h.sa;have hlen:=z47 h.va;revert hA;cases ziW (toA to) x.Args with
  | inl e=>intro _; rfl
  | inr xs=>
   intro hxs;have hxl:xs.length=x.Args.length∧∀ a∈xs,okA a:=hxs;have o0:=zFU hxl.2 0;have o1:=zFU hxl.2 1;simp only [isL,getR,cond_false,zb5];by_cases hk1:x.Kind=1
   ·have:=hlen.1 hk1;rw [b1,decide_eq_true hk1,if_pos hk1];simp only [cond_true,show Int.toNat (0:Int)=0 from rfl,show Int.toNat (1:Int)=1 from rfl,(z7w o0 o1).1,zCQ (z3A o0 o1).2]
    simp [hxl.1,this]
   ·rw [b1,decide_eq_false hk1,if_neg hk1,cond_false];by_cases hk2:x.Kind=2
    ·have:=hlen.2 (.inl hk2);rw [b2,decide_eq_true hk2,if_pos hk2];simp only [cond_true,show Int.toNat (0:Int)=0 from rfl,show Int.toNat (1:Int)=1 from rfl,(z8d o0).1,zCQ (z3G o0).2]
     simp [hxl.1,this]
    ·rw [b2,decide_eq_false hk2,if_neg hk2,cond_false];by_cases hk3:x.Kind=3
     ·have:=hlen.2 (.inr hk3);rw [b3,decide_eq_true hk3,if_pos hk3];simp only [cond_true,show Int.toNat (0:Int)=0 from rfl,show Int.toNat (1:Int)=1 from rfl,(z5e o0).1,zCQ (z4m o0).2]
      simp [hxl.1,this]
     ·rw [b3,decide_eq_false hk3,if_neg hk3,cond_false,Atom.eta,h21'];have hI:=h.si;revert hI;cases zfB (toA to) x.Items with
      | inl e=>intro _; rfl
      | inr is=>
       intro his;have ht:=z9N (f:=x.Func) (o:=x.Op) (b:=x.Bound) h.lens.2 his;simp only [cond_true,cond_false,List.nil_append,ht.1,zb5];have hw:=zpN h.wf;have hl:is.length=x.Items.length∧∀ w∈is,okA w.Ann∧∃ v∈x.Items,v.Value=w.Value:=his
       rw [zCQ (zWY (by have:=h.lens.2; omega) (fun w hw'=>⟨(hl.2 w hw').1,by
        obtain ⟨v,hv,e⟩:=(hl.2 w hw').2;rw [← e]; exact (zh4 hw.2.1.1 v hv).1⟩) hw.2.2.2.2.2.1 hw.2.2.2.2.2.2 hw.2.2.1).2]
end
theorem z7V:∀ (l:yD) (k:Nat),k<l.length→(l.getD k default).Exp.toNat≤szFs l
 | [],k,h=>by simp at h
 | f::r,0,_=>by show f.Exp.toNat≤_; rw [szFs]; omega
 | f::r,k+1,h=>by
  have:=z7V r k (by simpa using h)
  show (r.getD k default).Exp.toNat≤_;rw [szFs]; omega
theorem z7B:∀ (l:yC) (k:Nat),k<l.length→szFs (l.getD k default).Factors≤szTs l
 | [],k,h=>by simp at h
 | f::r,0,_=>by show szFs f.Factors≤_; rw [szTs]; omega
 | f::r,k+1,h=>by
  have:=z7B r k (by simpa using h)
  show szFs (r.getD k default).Factors≤_;rw [szTs]; omega
section
variable (g:Atom→yG→Bool×(yC×Int)) (l:yG)
theorem zbdz (a:yC) (i k:Nat) (hi:i<a.length) (hk:k<(a.getD i default).Factors.length) (out b:yC) (hb:okA b) (N:Nat) (hN:((a.getD i default).Factors.getD k default).Exp=N) (hN':N≤1000000):
  ∀ (n j:Nat) (e:Int) (p:yC) (s:Int⊕yC),N<j+n→j≤N→GS s→RS s e p→∃ e' p',zyx g n a l out i p k b e j=(true,(a,l,out,(i:Int),p',(k:Int),e'))∧RS (sbd s (powS b (N - j))) e' p'
 | 0,j,e,p,s,h1,h2,_,_=>by omega
 | n+1,j,e,p,s,h1,h2,hs,hr=>by
  show ∃ e' p',(zym g a l out i p k b e j).ev (fun x y=>zyx g n x.1 x.2.1 x.2.2.1 x.2.2.2.1 x.2.2.2.2.1 x.2.2.2.2.2.1 x.2.2.2.2.2.2.1 x.2.2.2.2.2.2.2.1 x.2.2.2.2.2.2.2.2.1) (fun r=>(true,r)) (false,default)=_∧_
  unfold zym;simp only [Wy.ev_i,Wy.ev_k,Wy.ev_h,Wy.ev_bn,Wy.ev_d,tT,hi,hk,hN];by_cases hj:j<N
  ·have hk:N - j=(N - (j+1))+1:=by omega
   cases s with
   | inl x=>
    obtain ⟨rfl,hx⟩:=hr;have he:(e==(0:Int))=false:=by simp [hx]
    simp only [hj,decide_true,cond_true,he,cond_false];exact ⟨e,p,rfl,rfl,hx⟩
   | inr q=>
    obtain ⟨rfl,rfl⟩:=hr;have hp:okA p:=hs;simp only [hj,decide_true,cond_true,(zbbX hp hb).2,zQ (show j<4611686018427387904 by omega),show ((0:Int)==0)=true from rfl]
    rw [hk];exact zbdz a i _ hi (by assumption) out b hb N hN hN' n (j+1) (mulR p b).2 (mulR p b).1 (opS (mulR p b)) (by omega) (by omega) (zNy (z3Q hp hb)) (zbdw _)
  ·have hk:N - j=0:=by omega
   simp only [hj,decide_false,cond_false];rw [hk,z7s];exact ⟨e,p,rfl,hr⟩
theorem rr_7 (a:yC) (hal:a.length≤1000000) (i:Nat) (hi:i<a.length) (hl:(a.getD i default).Factors.length≤1000000) (hg:AG g l (a.getD i default).Factors) (out:yC):
  ∀ (n k:Nat) (p:yC),(a.getD i default).Factors.length<k+n→k≤(a.getD i default).Factors.length→okA p→zAc g n a l out i p k=(true,match zdD (toA l) ((a.getD i default).Factors.drop k) p with
   | .inl e=>.inl e
   | .inr q=>.inr (a,l,out,(i:Int),q))
 | 0,k,p,h1,h2,_=>by omega
 | n+1,k,p,h1,h2,hp=>by
  show (zAo g a l out i p k).ev (fun x y=>zAc g n x.1 x.2.1 x.2.2.1 x.2.2.2.1 x.2.2.2.2.1 x.2.2.2.2.2.1) (fun r=>(true,r)) (false,.inl default)=_
  unfold zAo;by_cases hk:k<(a.getD i default).Factors.length
  ·obtain ⟨⟨hf,hG⟩,e0,e1⟩:=hg _ (zt hk);obtain ⟨N,hN⟩:∃ N:Nat,((a.getD i default).Factors.getD k default).Exp=(N:Int):=⟨_,(Int.toNat_of_nonneg e0).symm⟩;have hsz:=Nat.le_trans (z7V _ k hk) (z7B a i hi);rw [hN,Int.toNat_natCast] at hsz
   obtain ⟨e',p',h11,hrs⟩:=zbdz g l a i k hi hk out (ofS (zeG (toA l) ((a.getD i default).Factors.getD k default).Atom)).1 (zbbC hG) N hN (by omega)
    ((a.length+l.length+out.length+(i:Int).toNat +p.length+(k:Int).toNat +(ofS (zeG (toA l) ((a.getD i default).Factors.getD k default).Atom)).1.length+(ofS (zeG (toA l) ((a.getD i default).Factors.getD k default).Atom)).2.toNat +Int.toNat (0:Int)+(1:Nat))+szTs a+szTs out+szTs p+szTs (ofS (zeG (toA l) ((a.getD i default).Factors.getD k default).Atom)).1) 0 _ p _ (by omega) (by omega) (z78 hG hp) (z7r hG p)
   rw [z44,Nat.sub_zero] at hrs;rw [show ((0:Nat):Int)=(0:Int) from rfl] at h11
   rw [zbs hk,zFm,hN,Int.toNat_natCast];simp only [Wy.ev_i,Wy.ev_k,Wy.ev_h,Wy.ev_bn,Wy.ev_d,tT,hi,hk,Atom.eta,hf,bne0];simp only [Int.toNat_natCast] at h11;rw [h11];have hS:=hG;revert hrs hS;cases zeG (toA l) ((a.getD i default).Factors.getD k default).Atom with
   | inl x=>
    rintro ⟨rfl,hx⟩ _
    simp [hx,zCT]
   | inr b=>
    intro hrs hb;simp only [zb5] at hrs ⊢;have hq:=z27 (b:=b) hb N p hp;revert hrs hq;cases powS b N p with
    | inl x=>
     rintro ⟨rfl,hx⟩ _
     simp [hx,zCT]
    | inr q=>
     rintro ⟨rfl,rfl⟩ hq
     simp only [zb5,decide_true,Bool.not_true,cond_true,cond_false,zQ (show k<4611686018427387904 by omega)]
     exact rr_7 a hal i hi hl hg out n (k+1) p' (by omega) (by omega) hq
  ·simp only [Wy.ev_i,Wy.ev_k,Wy.ev_h,Wy.ev_bn,Wy.ev_d,tT,hi,hk];rw [zcs hk,zH3]
theorem rr_3 (a:yC) (hal:a.length≤1000000) (hg:∀ t∈a,t.Factors.length≤1000000∧AG g l t.Factors) (hok:∀ t∈a,∀ p,okA p→GS (zdD (toA l) t.Factors p)):
  ∀ (n i:Nat) (s:yC),a.length<i+n→i≤a.length→okA s→zzT g n a l s i=(true,zck (toA l) (a.drop i) s)
 | 0,i,s,h1,h2,_=>by omega
 | n+1,i,s,h1,h2,hs=>by
  show (zAn g a l s i).ev (fun x y=>zzT g n x.1 x.2.1 x.2.2.1 x.2.2.2.1) (fun r=>(true,r)) (false,.inl default)=_
  unfold zAn;by_cases hi:i<a.length
  ·have ht:=hg _ (zt hi);have hc:=z8z (a.getD i default).Coeff;have hsz:=szTs_get' a i hi;have h7:=rr_7 g l a hal i hi ht.1 ht.2 s ((a.length+l.length+s.length+(i:Int).toNat +(cstA (a.getD i default).Coeff).length+Int.toNat (0:Int)+(1:Nat))+szTs a+szTs s+szTs (cstA (a.getD i default).Coeff)) 0 (cstA (a.getD i default).Coeff) (by omega) (by omega) hc
   rw [show ((0:Nat):Int)=(0:Int) from rfl,List.drop_zero] at h7
   simp only [Int.toNat_natCast] at h7;rw [zbs hi,zRE];simp only [Wy.ev_i,Wy.ev_k,Wy.ev_h,Wy.ev_bn,Wy.ev_d,tT,hi,(z6P _).2];rw [h7];have hS:=hok _ (zt hi) _ hc;revert hS;cases zdD (toA l) (a.getD i default).Factors (cstA (a.getD i default).Coeff) with
   | inl e=>intro _; rfl
   | inr p=>
    intro hp;have hp:okA p:=hp;simp only [zb5,isL,getR,cond_true,cond_false,(z7p hs hp).2,bne0];have hG:=zXM hs hp;unfold opS;by_cases he:(addR s p).2=0
    ·rw [if_pos he,decide_eq_true he,zb5,zQ (show i<4611686018427387904 by omega)]
     exact rr_3 a hal hg hok n (i+1) _ (by omega) (by omega) hG.1
    ·rw [if_neg he,decide_eq_false he]; rfl
  ·simp only [Wy.ev_i,Wy.ev_k,Wy.ev_h,Wy.ev_bn,Wy.ev_d,tT,hi];rw [zcs hi,zUY]
theorem rr_b (a:yC) (hal:a.length≤1000000) (hg:∀ t∈a,t.Factors.length≤1000000∧AG g l t.Factors) (hok:∀ t∈a,∀ p,okA p→GS (zdD (toA l) t.Factors p)):zyM g a l=(true,ofS (zck (toA l) a [])):=by
 unfold zyM zIZ;have h3:=rr_3 g l a hal hg hok ((a.length+l.length+(0:Nat)+Int.toNat (0:Int)+(1:Nat))+szTs a+szTs []) 0 [] (by omega) (by omega) zj8
 rw [show ((0:Nat):Int)=(0:Int) from rfl,List.drop_zero] at h3
 rw [Wy.fin_bn,h3];cases zck (toA l) a [] <;>rfl
end
section
variable (g:yC→yG→Bool×(yC×Int)) (l:yG)
theorem rr_8 (x:Atom) (hl:x.Args.length≤1000000) (hg:∀ a∈x.Args,g a l=(true,ofS (zck (toA l) a []))∧GS (zck (toA l) a [])):
  ∀ (n i:Nat) (xs:yA),x.Args.length<i+n→i≤x.Args.length→xs.length≤i→zDH g n l i x xs=(true,match ziW (toA l) (x.Args.drop i) with
   | .inl e=>.inl e
   | .inr ys=>.inr (l,x,xs++ys))
 | 0,i,xs,h1,h2,_=>by omega
 | n+1,i,xs,h1,h2,hx=>by
  have hreach:reach=70368744177664:=rfl;show (zD9 g l i x xs).ev (fun x y=>zDH g n x.1 x.2.2.2.1 y.1 y.2.1) (fun r=>(true,r)) (false,.inl default)=_
  unfold zD9;by_cases hi:i<x.Args.length
  ·obtain ⟨hf,hG⟩:=hg _ (zt hi);have hb:decide ((xs.length+1)*24≤reach)=true:=by simp only [qe]; omega
   rw [zbs hi,zye];simp only [Wy.ev_i,Wy.ev_k,Wy.ev_h,Wy.ev_bn,Wy.ev_d,tT,hi,hf,bne0,List.length_singleton,hb];revert hG;cases zck (toA l) (x.Args.getD i default) [] with
   | inl e=>intro he; simp [ofS,show e≠0 from he,zCT]
   | inr b=>
    intro _;simp only [ofS,decide_true,Bool.not_true,cond_false,zb5,zQ (show i<4611686018427387904 by omega)]
    rw [rr_8 x hl hg n (i+1) (xs++[b]) (by omega) (by omega) (by simp; omega)]
    cases ziW (toA l) (x.Args.drop (i+1)) with
    | inl e=>rfl
    | inr ys=>simp [zb5]
  ·simp only [Wy.ev_i,Wy.ev_k,Wy.ev_h,Wy.ev_bn,Wy.ev_d,tT,hi];rw [zcs hi,zAH]; simp
theorem zbdh (x:Atom) (as_:yA) (hl:x.Items.length≤1000000) (hg:∀ w∈x.Items,g w.Ann l=(true,ofS (zck (toA l) w.Ann []))∧GS (zck (toA l) w.Ann [])):
  ∀ (n i:Nat) (xs:yE),x.Items.length<i+n→i≤x.Items.length→xs.length≤i→zCj g n l i x as_ xs=(true,match zfB (toA l) (x.Items.drop i) with
   | .inl e=>.inl e
   | .inr ys=>.inr (x,as_,xs++ys))
 | 0,i,xs,h1,h2,_=>by omega
 | n+1,i,xs,h1,h2,hx=>by
  have hreach:reach=70368744177664:=rfl;show (zCq g l i x as_ xs).ev (fun x y=>zCj g n x.1 x.2.2.2.2.1 y.1 y.2.1 y.2.2.1) (fun r=>(true,r)) (false,.inl default)=_
  unfold zCq;by_cases hi:i<x.Items.length
  ·obtain ⟨hf,hG⟩:=hg _ (zt hi);have hb:decide ((xs.length+1)*56≤reach)=true:=by simp only [qe]; omega
   rw [zbs hi,zLm];simp only [Wy.ev_i,Wy.ev_k,Wy.ev_h,Wy.ev_bn,Wy.ev_d,tT,hi,hf,bne0,List.length_singleton,hb];revert hG;cases zck (toA l) (x.Items.getD i default).Ann [] with
   | inl e=>intro he; simp [ofS,show e≠0 from he,zCT]
   | inr b=>
    intro _;simp only [ofS,decide_true,Bool.not_true,cond_false,zb5,zQ (show i<4611686018427387904 by omega)]
    rw [zbdh x as_ hl hg n (i+1) (xs++[WeightedOf.mk (x.Items.getD i default).Value b]) (by omega) (by omega) (by simp; omega)]
    cases zfB (toA l) (x.Items.drop (i+1)) with
    | inl e=>rfl
    | inr ys=>simp [zb5]
  ·simp only [Wy.ev_i,Wy.ev_k,Wy.ev_h,Wy.ev_bn,Wy.ev_d,tT,hi];rw [zcs hi,zGm]; simp
theorem zbcC {x:Atom} (h:vatA x=true) (hk:x.Kind=1∨x.Kind=2∨x.Kind=3):x.Items=[]:=by
 cases zR0.1 h <;>simp_all
theorem zbem (hto:okB l) (x:Atom) (h:XG g l x):zEa g x l=(true,ofS (zeG (toA l) x)):=by
 unfold zEa zQA;have h8:=rr_8 g l x h.lens.1 h.ga (l.length+Int.toNat (0:Int)+x.Args.length+x.Items.length+(0:Nat)+(1:Nat)) 0 [] (by omega) (by omega) (by simp)
 rw [show ((0:Nat):Int)=(0:Int) from rfl,List.drop_zero] at h8
 have h16:=fun xs:yA=>zbdh g l x xs (by have:=h.lens.2; omega) h.gi (l.length+Int.toNat (0:Int)+x.Args.length+x.Items.length+xs.length+(0:Nat)+(1:Nat)) 0 [] (by omega) (by omega) (by simp)
 simp only [show ((0:Nat):Int)=(0:Int) from rfl,List.drop_zero,List.nil_append] at h16
 have b0:=beqd x.Kind 0;have b1:=beqd x.Kind 1;have b2:=beqd x.Kind 2;have b3:=beqd x.Kind 3;rw [Atom.eta,zWi];simp only [Wy.fin_i,Wy.fin_bn,Wy.fin_k,cond_true,h8,List.nil_append];by_cases hk0:x.Kind=0
 ·rw [b0,decide_eq_true hk0,if_pos hk0];obtain ⟨b,q,h1,h2⟩:=zbc9 hto x.Row;simp only [cond_true,h1];rcases h2 with ⟨rfl,rfl⟩ | ⟨rfl,h2⟩
  ·rfl
  ·rw [h2]; simp only [cond_false,(zbbS x.Row).2]; rfl
 ·rw [b0,decide_eq_false hk0,if_neg hk0,cond_false];have hA:=h.sa;have hlen:=z47 h.va;revert hA;cases ziW (toA l) x.Args with
  | inl e=>intro _; rfl
  | inr xs=>
   intro hxs;have hxl:xs.length=x.Args.length∧∀ a∈xs,okA a:=hxs;have o0:=zFU hxl.2 0;have o1:=zFU hxl.2 1;simp only [isL,getR,cond_false,zb5,Atom.eta,h16];by_cases hk:x.Kind=1∨x.Kind=2∨x.Kind=3
   ·rw [zbcC h.va hk,zGm];simp only [cond_true,cond_false,isL,getR];rcases hk with hk1 | hk2 | hk3
    ·have:=hlen.1 hk1;rw [b1,decide_eq_true hk1,if_pos hk1];simp only [cond_true,show Int.toNat (0:Int)=0 from rfl,show Int.toNat (1:Int)=1 from rfl,(z7w o0 o1).2,zCQ (z3A o0 o1).2]
     simp [hxl.1,this]
    ·have:=hlen.2 (.inl hk2);have n1:¬ x.Kind=1:=by omega
     rw [b1,decide_eq_false n1,if_neg n1,cond_false,b2,decide_eq_true hk2,if_pos hk2];simp only [cond_true,show Int.toNat (0:Int)=0 from rfl,(z8d o0).2,zCQ (z3G o0).2]
     simp [hxl.1,this]
    ·have:=hlen.2 (.inr hk3);have n1:¬ x.Kind=1:=by omega
     have n2:¬ x.Kind=2:=by omega
     rw [b1,decide_eq_false n1,if_neg n1,cond_false,b2,decide_eq_false n2,if_neg n2,cond_false,b3,decide_eq_true hk3,if_pos hk3];simp only [cond_true,show Int.toNat (0:Int)=0 from rfl,(z5e o0).2,zCQ (z4m o0).2]
     simp [hxl.1,this]
   ·have n1:¬ x.Kind=1:=fun e=>hk (.inl e)
    have n2:¬ x.Kind=2:=fun e=>hk (.inr (.inl e))
    have n3:¬ x.Kind=3:=fun e=>hk (.inr (.inr e))
    rw [if_neg n1,if_neg n2,if_neg n3];have hI:=h.si;revert hI;cases zfB (toA l) x.Items with
    | inl e=>intro _; rfl
    | inr is=>
     intro his;have ht:=z9N (f:=x.Func) (o:=x.Op) (b:=x.Bound) h.lens.2 his;simp only [cond_true,cond_false,isL,getR,b1,b2,b3,decide_eq_false n1,decide_eq_false n2,decide_eq_false n3,ht.2,zb5];have hw:=zpN h.wf;have hl:is.length=x.Items.length∧∀ w∈is,okA w.Ann∧∃ v∈x.Items,v.Value=w.Value:=his
     rw [zCQ (zWY (by have:=h.lens.2; omega) (fun w hw'=>⟨(hl.2 w hw').1,by
      obtain ⟨v,hv,e⟩:=(hl.2 w hw').2;rw [← e]; exact (zh4 hw.2.1.1 v hv).1⟩) hw.2.2.2.2.2.1 hw.2.2.2.2.2.2 hw.2.2.1).2]
end
theorem zZm:∀ {l:yA} {a:yC},a∈l→zen a≤zp8 l
 | [],_,h=>by cases h
 | x::r,a,h=>by
  rw [zUJ];rcases qd.1 h with rfl | h
  ·omega
  ·have:=zZm h; omega
theorem zWA:∀ {l:yE} {w:Weighted},w∈l→zen w.Ann≤zls l
 | [],_,h=>by cases h
 | x::r,a,h=>by
  rw [zH5];rcases qd.1 h with rfl | h
  ·omega
  ·have:=zWA h; omega
theorem zQa:∀ {l:yD} {f:Factor},f∈l→zFz f.Atom≤zgX l
 | [],_,h=>by cases h
 | x::r,a,h=>by
  rw [zN3];rcases qd.1 h with rfl | h
  ·omega
  ·have:=zQa h; omega
theorem z1D:∀ {l:yC} {t:Term},t∈l→zgX t.Factors≤zen l
 | [],_,h=>by cases h
 | x::r,a,h=>by
  rw [zOa];rcases qd.1 h with rfl | h
  ·omega
  ·have:=z1D h; omega
theorem zWz:∀ {l:yE},(∀ w∈l,w.Ann≠[])→l.length≤zls l
 | [],_=>by simp
 | x::r,h=>by
  rw [zH5];have:=zWz (l:=r) fun w hw=>h w (by simp [hw])
  have h1:1≤zen x.Ann:=by
   have:=h x (by simp)
   cases hx:x.Ann with
   | nil=>exact absurd hx this
   | cons t r=>rw [zOa]; omega
  simp only [qf];omega
mutual
def zz6:Atom→Prop
 | ⟨_,_,a,_,i,_,_⟩=>i.length<20∧zPO a∧zKr i
def zCJ:yD→Prop
 | []=>True
 | ⟨x,_⟩::r=>zz6 x∧zCJ r
def zbL:yC→Prop
 | []=>True
 | ⟨_,fs⟩::r=>zCJ fs∧zbL r
def zPO:yA→Prop
 | []=>True
 | a::r=>zbL a∧zPO r
def zKr:yE→Prop
 | []=>True
 | ⟨_,a⟩::r=>zbL a∧zKr r
end
theorem zDN (x:Atom):zz6 x↔x.Items.length<20∧zPO x.Args∧zKr x.Items:=by cases x; rw [zz6]
theorem zxq:∀ {l:yD},zCJ l↔∀ f∈l,zz6 f.Atom
 | []=>by rw [zCJ]; simp
 | ⟨x,e⟩::r=>by rw [zCJ,zxq (l:=r)]; simp
theorem zHk:∀ {l:yC},zbL l↔∀ t∈l,zCJ t.Factors
 | []=>by rw [zbL]; simp
 | ⟨x,e⟩::r=>by rw [zbL,zHk (l:=r)]; simp
theorem zAE:∀ {l:yA},zPO l↔∀ a∈l,zbL a
 | []=>by rw [zPO]; simp
 | a::r=>by rw [zPO,zAE (l:=r)]; simp
theorem zya:∀ {l:yE},zKr l↔∀ w∈l,zbL w.Ann
 | []=>by rw [zKr]; simp
 | ⟨x,e⟩::r=>by rw [zKr,zya (l:=r)]; simp
theorem z5o {m:Nat} {a:yC} (h:zbB (m+1) a=true):zeW a=true∧∀ t∈a,t.Factors.length≤64∧∀ f∈t.Factors,(1≤f.Exp∧f.Exp≤64)∧f.Atom.Items.length≤1024∧zej (zbB m) f.Atom=true:=by
 have hw:=zG9 h;refine ⟨hw,fun t ht=> ?_⟩
 obtain ⟨l1,l2⟩:=(zwz hw).2.2.2 t ht;refine ⟨l1,fun f hf=> ?_⟩
 obtain ⟨⟨e1,_⟩,hv⟩:=zpE (zwv h ht).2 hf;exact ⟨⟨e1,(l2 f hf).1⟩,(l2 f hf).2,hv⟩
theorem zZB:∀ (m:Nat) (a:yC),zbB m a=true→zbB (m+1) a=true
 | 0,_,h=>by cases h
 | m+1,a,h=>by
  have h':vAnn (zej (zbB m)) a=true:=h;obtain ⟨h1,h2,h3⟩:=zSg.1 h';refine (zSg (vat:=zej (zbB (m+1)))).2 ⟨h1,h2,fun t ht=>⟨(h3 t ht).1,(h3 t ht).2.1,fun f hf=>⟨((h3 t ht).2.2 f hf).1, ?_⟩⟩⟩
  exact zdG.2 ((zdG.1 ((h3 t ht).2.2 f hf).2).imp (zZB m))
theorem zzD:∀ {m:Nat} {a:yC},zbB m a=true→zC a=true:=by
 intro m a h
 have key:∀ k,zbB (m+k) a=true:=fun k=>by
  induction k with
  | zero=>exact h
  | succ k ih=>exact zZB _ _ ih
 exact z8f (key 9) (by omega)
theorem zbcn {m:Nat} {x:Atom} (h:zej (zbB m) x=true) (hm:m≤99):vatA x=true:=by
 refine zR0.2 ((zdG.1 h).imp fun a ha=> ?_)
 exact zzD ha
theorem zZw {V:yC→Bool} {x:Atom} (h:zej V x=true):(∀ a∈x.Args,V a=true)∧∀ w∈x.Items,V w.Ann=true∧w.Ann≠[]:=by
 constructor
 ·cases zdG.1 h <;>simp_all
 ·cases zdG.1 h <;>simp_all
theorem z1l:∀ (m:Nat) (a:yC),zbB m a=true→zen a≤38→zbL a
 | 0,_,h,_=>by cases h
 | m+1,a,h,hs=>by
  obtain ⟨_,w2⟩:=z5o h;refine zHk.2 fun t ht=>zxq.2 fun f hf=>(zDN _).2 ?_
  have hv:=((w2 t ht).2 f hf).2.2;have h1:=zQa hf;have h2:=z1D ht;have h3:=z1C f.Atom;obtain ⟨hargs,hitems⟩:=zZw hv;refine ⟨by have:=zWz fun w hw=>(hitems w hw).2; omega,zAE.2 fun b hb=>z1l m b (hargs b hb) (by have:=zZm hb; omega),zya.2 fun w hw=>z1l m w.Ann (hitems w hw).1 (by have:=zWA hw; omega)⟩
theorem z9r {l:yG} (hl:okB l):∀ n,
  (∀ m a,zbB m a=true→m≤99→zgr a→zbL a→2*m≤n→(zld n a l=(true,ofS (zck (toA l) a []))∧zyU n a l=(true,ofS (zck (toA l) a [])))∧GS (zck (toA l) a []))∧
  (∀ m x,zej (zbB m) x=true→m≤99→zgn x→x.Items.length≤1024→zz6 x→2*m+1≤n→(zhy n x l=(true,ofS (zeG (toA l) x))∧zD1 n x l=(true,ofS (zeG (toA l) x)))∧GS (zeG (toA l) x))
 | 0=>by
  refine ⟨fun m a h _ _ _ hm=> ?_,fun m x _ _ _ _ _ hm=>by omega⟩
  have:m=0:=by omega
  subst this; cases h
 | n+1=>by
  obtain ⟨h1,h2⟩:=z9r hl n;have ht:okT (toA l):=zbcb hl.2;refine ⟨fun m a h h99 hw hs hm=> ?_,fun m x h h99 hw hi hs hm=> ?_⟩
  ·cases m with
   | zero=>cases h
   | succ m=>
    obtain ⟨w1,w2⟩:=z5o h;obtain ⟨a1,a2,a3,a4⟩:=zwz w1;have hwt:=fun t (ht:t∈a)=>zwH (ztS hw t ht)
    have hwf:=fun t (ht:t∈a) f (hf:f∈t.Factors)=>(zrz (zom (hwt t ht).2.1 f hf)).1
    have hA:∀ t∈a,∀ f∈t.Factors,((zhy n f.Atom l=(true,ofS (zeG (toA l) f.Atom))∧zD1 n f.Atom l=(true,ofS (zeG (toA l) f.Atom)))∧GS (zeG (toA l) f.Atom)):=fun t ht f hf=>
     h2 m f.Atom ((w2 t ht).2 f hf).2.2 (by omega) (hwf t ht f hf) ((w2 t ht).2 f hf).2.1 (zxq.1 (zHk.1 hs t ht) f hf) (by omega)
    have hE:=fun t (ht:t∈a) f (hf:f∈t.Factors)=>((w2 t ht).2 f hf).1
    have hok:∀ t∈a,∀ p,okA p→GS (zdD (toA l) t.Factors p):=fun t ht' p hp=>zLX ht t.Factors 9 (fun f hf=>⟨hwf t ht' f hf,zxf ((w2 t ht').2 f hf).2.2 ((w2 t ht').2 f hf).2.1⟩) p hp
    have hG:GS (zck (toA l) a []):=zRt ht a 9 hw (fun t ht f hf=>zxf ((w2 t ht).2 f hf).2.2 ((w2 t ht).2 f hf).2.1) [] zj8
    refine ⟨⟨?_, ?_⟩,hG⟩
    ·rw [zM8];exact rp_b _ l a (by omega) (fun t ht=>⟨by have:=(w2 t ht).1; omega,fun f hf=>⟨⟨(hA t ht f hf).1.1,(hA t ht f hf).2⟩,by have:=(hE t ht f hf).1; omega,by have:=(hE t ht f hf).2; omega⟩⟩) hok
    ·rw [zW6];exact rr_b _ l a (by omega) (fun t ht=>⟨by have:=(w2 t ht).1; omega,fun f hf=>⟨⟨(hA t ht f hf).1.2,(hA t ht f hf).2⟩,by have:=(hE t ht f hf).1; omega,by have:=(hE t ht f hf).2; omega⟩⟩) hok
  ·have hf:=zxf h hi;have hw':=zpN hw;have hv:=zbcn h h99;obtain ⟨h20,s1,s2⟩:=(zDN x).1 hs;obtain ⟨hargs,hitems⟩:=zZw h;have ga:=fun a (ha:a∈x.Args)=>h1 m a (hargs a ha) h99 (zjV hw'.1.1 a ha).1 (zAE.1 s1 a ha) (by omega)
   have gi:=fun w (hw:w∈x.Items)=>h1 m w.Ann (hitems w hw).1 h99 (zh4 hw'.2.1.1 w hw).2.1 (zya.1 s2 w hw) (by omega)
   have sa:=zVc ht x.Args 9 (fun a ha=>(zjV hw'.1.1 a ha).1) hf.2.1
   have si:=zRm ht x.Items 9 (fun w hw=>(zh4 hw'.2.1.1 w hw).2.1) fun w hw=>(hf.2.2 w hw).2
   refine ⟨⟨?_, ?_⟩,z5n ht x 9 hw hf⟩
   ·rw [zGC];exact zbd6 _ l hl x ⟨hv,⟨hf.1.1,h20⟩,fun a ha=>⟨(ga a ha).1.1,(ga a ha).2⟩,fun w hw=>⟨(gi w hw).1.1,(gi w hw).2⟩,sa,si,hw⟩
   ·rw [z10];exact zbem _ l hl x ⟨hv,⟨hf.1.1,h20⟩,fun a ha=>⟨(ga a ha).1.2,(ga a ha).2⟩,fun w hw=>⟨(gi w hw).1.2,(gi w hw).2⟩,sa,si,hw⟩
def monU (a b:yC):yC:=if b=[] then a else if a=[]∨a=b then [] else oneA (monA a b)
def delU (a:yC):yC:=if a=[]∨isU a=true then a else if isC a=true then [⟨1,[]⟩] else oneA (delA a)
def absU (a:yC):yC:=if a=[] then [⟨1,[]⟩] else if hasC a=true then [] else oneA (absA a)
def tstU (f:Int) (l:yE) (o:Int) (b:Value):yC:=
 if 0<(zd5 l).length then oneA (tstA f (zd5 l) o b) else if (f==0&&mats o (cmpI 0 b.Int))=true then [⟨1,[]⟩] else []
def IdP (a:yC):Prop:=a=[]∨a=[⟨1,[]⟩]∨∃ x:Atom,(x.Kind=3∨x.Kind=4)∧a=oneA x
def powA (b:yC):Nat→yC
 | 0=>[⟨1,[]⟩]
 | n+1=>zuV b (powA b n)
section
variable (σ:Atom→yC)
def SG (x:Atom):Prop:=PA (σ x)∧(x.Kind=3∨x.Kind=4→IdP (σ x))
variable {σ}
def EA (σ:Atom→yC) (a:yC):Prop:=PA a∧∀ t∈a,∀ f∈t.Factors,SG σ f.Atom
theorem EA.p {a:yC} (h:EA σ a):∀ t∈a,cOK t∧∀ f∈t.Factors,SG σ f.Atom:=fun t ht=>⟨h.1.c t ht,h.2 t ht⟩
theorem EA.sum {a b:yC} (ha:EA σ a) (hb:EA σ b):EA σ (sumA a b):=⟨zbfa ha.1 hb.1,fun t ht f hf=>by
 obtain ⟨x,hx,e⟩:=zKq b a ha.1.1 ht;rw [e] at hf;rcases hx with hx | hx
 ·exact ha.2 x hx f hf
 ·exact hb.2 x hx f hf⟩
end
end Go.Proofs.YtljlfiomikifjaaGreatDoor
end
