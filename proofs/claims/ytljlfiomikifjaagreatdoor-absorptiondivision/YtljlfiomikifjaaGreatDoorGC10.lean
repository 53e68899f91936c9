/- Texts of this claim, joined (the program, its functions in plain words, and what they compute). -/
import Derived.Test.YtljlfiomikifjaaGreatDoorGC9
set_option autoImplicit false
set_option linter.unusedVariables false
set_option linter.unusedSectionVars false
set_option linter.unusedSimpArgs false
set_option maxRecDepth 1000000
set_option maxHeartbeats 0
/- Results may be handed over again. -/
noncomputable section
namespace Go.Proofs.YtljlfiomikifjaaGreatDoor
open Go Go.Ab
theorem zRw {n:Int} (h:rng n):wf3 n:=by
 show (Lit.int .i64 n).wf=true;have:IntKind.i64.min≤n∧n≤IntKind.i64.max:=⟨h.1,h.2⟩
 simpa [Lit.wf] using this
theorem zSe {t:Term} (hc:rng t.Coeff) (hf:∀ f∈t.Factors,zjl f.Atom∧rng f.Exp) (hl:t.Factors.length≤1000000):zzh t:=by
 obtain ⟨c,fs⟩:=t;unfold zzh;refine ⟨zRw hc,zIp fs fun f h=> ?_,by have:roomLen=140737488351232:=rfl; simp only at hl; omega⟩
 obtain ⟨x,e⟩:=f;unfold zuO;exact ⟨(hf _ h).1,zRw (hf _ h).2⟩
def okR (r:yC×Int):Prop:=okA r.1∧(r.2=0∨r.1=[])
theorem zs5:okA []:=⟨⟨z7P 11,by rw [zG3]; omega⟩,by unfold zhx; trivial,by simp⟩
theorem zHz {a:yC} (h:okA a):okR (fitR a):=by
 unfold fitR;cases zlI a with
 | true=>exact ⟨h,.inl rfl⟩
 | false=>exact ⟨zs5,.inr rfl⟩
theorem zTt {ok:Bool} {r:yC×Int} (h:ok=true→okR r):okR (opR ok r):=by
 unfold opR;cases ok with
 | true=>exact h rfl
 | false=>exact ⟨zs5,.inr rfl⟩
theorem zZY {l:yC} (hl:l.length≤1000000) (h:∀ t∈l,GT t):okA l:=by
 obtain ⟨h1,h2⟩:=z93 hl h;refine ⟨⟨h1.mono (by omega),h2⟩,zDb l fun t ht=> ?_,by have:roomLen=140737488351232:=rfl; omega⟩
 have hg:=h t ht;exact zSe ⟨by have:=hg.1.1; omega,by have:=hg.1.2; omega⟩ (fun f hf=>⟨(hg.2.2 f hf).1.2.1,(hg.2.2 f hf).gF.2.2⟩) (by have:=hg.2.1; omega)
theorem z8P {a b:yC} (ha:okA a) (hb:okA b):okR (addR a b):=zTt fun hv=>by
 rw [qc] at hv;obtain ⟨sa,la,ta⟩:=zHJ hv.1 ha.2.1;obtain ⟨sb,lb,tb⟩:=zHJ hv.2 hb.2.1;exact zHz (zZY (by have:=zUd b a; omega) (zYH b a sa (fun t ht=>(ta t ht).1) fun t ht=>(tb t ht).1))
theorem z8H {a b:yC} (ha:okA a) (hb:okA b):okR (mulR a b):=zTt fun hv=>by
 rw [qc] at hv;obtain ⟨sa,la,ta⟩:=zHJ hv.1 ha.2.1;obtain ⟨sb,lb,tb⟩:=zHJ hv.2 hb.2.1;have hpl:(zvq a b).length≤1000000:=by rw [z60]; have:=Nat.mul_le_mul la lb; omega
 exact zHz (zZY (by have:=zUd (zvq a b) []; simp at this; exact Nat.le_trans this hpl) (zYH (zvq a b) [] .nil (fun t ht=>by cases ht) (z7S ta tb)))
theorem z7w {x:Atom} (hf:zds (zA 9) x) (hs:zT (oneA x)≤4611686018427387904) (hw:zjl x):okA (oneA x):=by
 refine ⟨⟨(zKu hf).mono (by omega),hs⟩,zDb _ fun t ht=> ?_,by simp [oneA,roomLen]⟩
 simp only [oneA,qh] at ht;subst ht;refine zSe ⟨by simp,by simp⟩ (fun f hf=> ?_) (by simp)
 simp only [qh] at hf;subst hf;exact ⟨hw,⟨by simp,by simp⟩⟩
theorem zS7 {n:Int} (h: -1000≤n∧n≤1000):rng n:=⟨by omega,by omega⟩
theorem zAA:wf3 0:=zRw (zS7 (by omega))
theorem zTq {l:yA} {k:Int} (hk:0≤k∧k≤4) (hl:l.length≤2) (h:∀ a∈l,zd3 a=true) (hw:∀ a∈l,okA a):okA (oneA ⟨k,⟨0,0⟩,l,0,[],0,⟨0,0,ByteArray.mk #[]⟩⟩):=by
 refine z7w ⟨⟨by simp only; omega,by simp,by show (ByteArray.mk #[]).size≤_; decide⟩,fun a ha=>(zgH (h a ha)).1,fun w hw=>(by cases hw)⟩ (z8f hl h).2 ?_
 unfold zjl;have hr:roomLen=140737488351232:=rfl;refine ⟨zRw (zS7 (by omega)),⟨zAA,zAA⟩,⟨zSa l fun a ha=>⟨(hw a ha).2.1,(hw a ha).2.2⟩,by omega⟩,zAA,⟨by unfold ztP; trivial,by simp⟩,zAA,⟨zAA,zAA, ?_⟩⟩
 show (ByteArray.mk #[]).size≤roomLen;rw [hr]; decide
theorem z8W {a b:yC} (ha:okA a) (hb:okA b):okR (monR a b):=zTt fun hv=>by
 rw [qc] at hv;split
 ·exact ⟨ha,.inl rfl⟩
 ·split
  ·exact ⟨zs5,.inl rfl⟩
  ·refine zHz (zTq (by omega) (by simp) (fun x hx=> ?_) fun x hx=> ?_)
   ·simp only [qd,List.not_mem_nil,or_false] at hx;rcases hx with rfl | rfl
    ·exact hv.1
    ·exact hv.2
   ·simp only [qd,List.not_mem_nil,or_false] at hx;rcases hx with rfl | rfl
    ·exact ha
    ·exact hb
theorem zT1 (c:Int) (hc:1≤c∧c≤1152921504606846976):okA [⟨c,[]⟩]:=zZY (by simp) fun t ht=>by
 rw [qh] at ht; subst ht;exact ⟨hc,by simp,fun f hf=>by cases hf⟩
theorem z80 {a:yC} (ha:okA a):okR (delR a):=zTt fun hv=>by
 split
 ·exact ⟨ha,.inl rfl⟩
 ·split
  ·exact ⟨zT1 1 (by omega),.inl rfl⟩
  ·exact zHz (zTq (by omega) (by simp) (fun x hx=>by rw [qh] at hx; subst hx; exact hv) fun x hx=>by rw [qh] at hx; subst hx; exact ha)
theorem z8O {a:yC} (ha:okA a):okR (absR a):=zTt fun hv=>by
 split
 ·exact ⟨zT1 1 (by omega),.inl rfl⟩
 ·split
  ·exact ⟨zs5,.inl rfl⟩
  ·exact zHz (zTq (by omega) (by simp) (fun x hx=>by rw [qh] at hx; subst hx; exact hv) fun x hx=>by rw [qh] at hx; subst hx; exact ha)
def cstA (n:Int):yC:=if n<1 then [] else [⟨if 1152921504606846976<n then 1152921504606846976 else n,[]⟩]
def varA (id:RowID):yC:=bif zHu id then oneA ⟨0,id,[],0,[],0,⟨0,0,ByteArray.mk #[]⟩⟩ else []
theorem z9I (n:Int):okA (cstA n):=by
 unfold cstA;split
 ·exact zs5
 ·refine zT1 _ ?_;split <;>omega
theorem z4Z {a:yC} {n:Nat} (hn:n≤1000) (h:zA 12 a∧zfl a≤n) (hw:wf23 a):okA a:=⟨⟨h.1,by have:=zHt a; omega⟩,hw.1,hw.2⟩
theorem z4O {α:Type} {R:α→α→Prop} (ir:∀ x,¬ R x x) (asy:∀ x y,R x y→¬ R y x):∀ (a b:List α),a.Pairwise R→b.Pairwise R→(∀ x,x∈a↔x∈b)→a=b
 | [],[],_,_,_=>rfl
 | [],y::b,_,_,h=>by have:=(h y).2 (by simp); cases this
 | x::a,[],_,_,h=>by have:=(h x).1 (by simp); cases this
 | x::a,y::b,ha,hb,h=>by
  have ca:=qi.1 ha;have cb:=qi.1 hb
  have e:x=y:=by
   rcases qd.1 ((h x).1 (by simp)) with e | hx
   ·exact e
   ·rcases qd.1 ((h y).2 (by simp)) with e | hy
    ·exact e.symm
    ·exact absurd (cb.1 x hx) (asy _ _ (ca.1 y hy))
  subst e;rw [z4O ir asy a b ca.2 cb.2 fun z=>⟨fun hz=> ?_,fun hz=> ?_⟩]
  ·rcases qd.1 ((h z).1 (by simp [hz])) with rfl | h1
   ·exact absurd (ca.1 z hz) (ir z)
   ·exact h1
  ·rcases qd.1 ((h z).2 (by simp [hz])) with rfl | h1
   ·exact absurd (cb.1 z hz) (ir z)
   ·exact h1
def exA (x:Atom):yD→Int
 | []=>0
 | f::r=>(if f.Atom=x then f.Exp else 0)+exA x r
theorem zzQ (x:Atom) (f:Factor) (r:yD):exA x (f::r)=(if f.Atom=x then f.Exp else 0)+exA x r:=rfl
def MF (l:yD):Prop:=Srf l∧∀ f∈l,eOK f∧1≤f.Exp
theorem MF.tail {f:Factor} {l:yD} (h:MF (f::l)):MF l:=⟨(qi.1 h.1).2,fun g hg=>h.2 g (by simp [hg])⟩
theorem MF.nil:MF []:=⟨List.Pairwise.nil,fun f hf=>by cases hf⟩
theorem zXw {x:Atom}:∀ {l:yD},(∀ f∈l,f.Atom≠x)→exA x l=0
 | [],_=>rfl
 | f::r,h=>by rw [exA,if_neg (h f (by simp)),zXw fun g hg=>h g (by simp [hg])]; rfl
theorem cF_self' {x y:Factor} (h:x.Atom=y.Atom):cF x y=0:=by unfold cF; rw [h]; exact zKz _
theorem MF.ne {f:Factor} {l:yD} (h:MF (f::l)):∀ g∈l,g.Atom≠f.Atom:=fun g hg e=>by
 have:=(qi.1 h.1).1 g hg;rw [cF_self' e.symm] at this; omega
theorem zAe {f:Factor}:∀ {l:yD},MF l→f∈l→exA f.Atom l=f.Exp
 | [],_,h=>by cases h
 | g::r,h,hf=>by
  rw [exA];rcases qd.1 hf with rfl | hf
  ·rw [if_pos rfl,zXw h.ne]; omega
  ·rw [if_neg (fun e=>h.ne f hf e.symm),zAe h.tail hf]; omega
theorem zyg {x:Atom}:∀ {l:yD},MF l→(0≤exA x l∧(exA x l≠0→∃ f∈l,f.Atom=x))
 | [],_=>⟨Int.le_refl _,fun h=>absurd rfl h⟩
 | g::r,h=>by
  rw [exA];have:=zyg (x:=x) h.tail;have:=(h.2 g (by simp)).2
  by_cases e:g.Atom=x
  ·rw [if_pos e];exact ⟨by omega,fun _=>⟨g,by simp,e⟩⟩
  ·rw [if_neg e];refine ⟨by omega,fun h1=> ?_⟩
   obtain ⟨f,hf,e⟩:=(zyg (x:=x) h.tail).2 (by omega)
   exact ⟨f,by simp [hf],e⟩
theorem z26 {x:Atom} {l:yD} (h:MF l) (hx:x.Kind=3∨x.Kind=4):exA x l=0∨exA x l=1:=by
 by_cases h0:exA x l=0
 ·exact .inl h0
 ·obtain ⟨f,hf,rfl⟩:=(zyg h).2 h0;rw [zAe h hf];exact .inr ((h.2 f hf).1.2 hx)
theorem z6H {x y:Factor} (h1:x.Atom=y.Atom) (h2:x.Exp=y.Exp):x=y:=by cases x; cases y; simp_all
theorem z9B {a b:yD} (ha:MF a) (hb:MF b) (h:∀ x,exA x a=exA x b):a=b:=by
 refine z4O (R:=fun x y=>cF x y<0) (fun x=>by rw [cF_self' rfl]; omega) (fun x y h=>by rw [zZQ x y]; omega) a b ha.1 hb.1 fun f=> ?_
 have key:∀ {a b:yD},MF a→MF b→(∀ x,exA x a=exA x b)→f∈a→f∈b:=fun {a b} ha hb h hf=>by
  have e:=h f.Atom;rw [zAe ha hf] at e;have h1:=(ha.2 f hf).2;obtain ⟨g,hg,e2⟩:=(zyg (x:=f.Atom) hb).2 (by omega)
  rw [← e2,zAe hb hg] at e;rw [z6H e2.symm e]; exact hg
 exact ⟨key ha hb h,key hb ha fun x=>(h x).symm⟩
def cbE (x:Atom) (m n:Int):Int:=if x.Kind=3∨x.Kind=4 then (if m=0 then n else m) else m+n
theorem z79 {a b:yD}:Srf a→Srf b→Srf (zbM a b):=by
 induction a,b using zbM.induct with
 | case1 b=>intro _ hb; rw [zbM]; exact hb
 | case2 x a=>intro ha _; rw [zbM]; exact ha
 | case3 x a y b h ih=>
  intro ha hb;have ca:=qi.1 ha;rw [zbM,if_pos h];refine qi.2 ⟨fun z hz=> ?_,ih ca.2 hb⟩
  obtain ⟨w,hw,e⟩:=zsk hz;have:cF x z=cF x w:=by unfold cF; rw [e]
  rw [this];rcases hw with hw | hw
  ·exact ca.1 w hw
  ·rcases qd.1 hw with rfl | hw
   ·exact h
   ·exact zxh h ((qi.1 hb).1 w hw)
 | case4 x a y b h h2 ih=>
  intro ha hb;have cb:=qi.1 hb;rw [zbM,if_neg h,if_pos h2];have h3:cF y x<0:=by rw [zZQ x y]; omega
  refine qi.2 ⟨fun z hz=> ?_,ih ha cb.2⟩
  obtain ⟨w,hw,e⟩:=zsk hz;have:cF y z=cF y w:=by unfold cF; rw [e]
  rw [this];rcases hw with hw | hw
  ·rcases qd.1 hw with rfl | hw
   ·exact h3
   ·exact zxh h3 ((qi.1 ha).1 w hw)
  ·exact cb.1 w hw
 | case5 x a y b h h2 ih=>
  intro ha hb;have ca:=qi.1 ha;have cb:=qi.1 hb;have h0:x.Atom=y.Atom:=z0t (by omega)
  rw [zbM,if_neg h,if_neg h2];have hA:(if x.Atom.Kind=3∨x.Atom.Kind=4 then x else ⟨x.Atom,x.Exp+y.Exp⟩:Factor).Atom=x.Atom:=by split <;>rfl
  refine qi.2 ⟨fun z hz=> ?_,ih ca.2 cb.2⟩
  obtain ⟨w,hw,e⟩:=zsk hz;have:cF (if x.Atom.Kind=3∨x.Atom.Kind=4 then x else ⟨x.Atom,x.Exp+y.Exp⟩:Factor) z=cF x w:=by unfold cF; rw [e,hA]
  rw [this];rcases hw with hw | hw
  ·exact ca.1 w hw
  ·have:cF x w=cF y w:=by unfold cF; rw [h0]
   rw [this]; exact cb.1 w hw
theorem z7E {a b:yD}:(∀ f∈a,eOK f∧1≤f.Exp)→(∀ f∈b,eOK f∧1≤f.Exp)→∀ f∈zbM a b,eOK f∧1≤f.Exp:=by
 induction a,b using zbM.induct with
 | case1 b=>intro _ hb; rw [zbM]; exact hb
 | case2 x a=>intro ha _; rw [zbM]; exact ha
 | case3 x a y b h ih=>
  intro ha hb f hf;rw [zbM,if_pos h] at hf;rcases qd.1 hf with rfl | hf
  ·exact ha _ (by simp)
  ·exact ih (fun g hg=>ha g (by simp [hg])) hb f hf
 | case4 x a y b h h2 ih=>
  intro ha hb f hf;rw [zbM,if_neg h,if_pos h2] at hf;rcases qd.1 hf with rfl | hf
  ·exact hb _ (by simp)
  ·exact ih ha (fun g hg=>hb g (by simp [hg])) f hf
 | case5 x a y b h h2 ih=>
  intro ha hb f hf;rw [zbM,if_neg h,if_neg h2] at hf;rcases qd.1 hf with rfl | hf
  ·have h1:=ha x (by simp)
   have h2:=hb y (by simp)
   split
   ·exact h1
   ·rename_i hk;exact ⟨⟨h1.1.1,fun h=>absurd h hk⟩,by show 1≤x.Exp+y.Exp; omega⟩
  ·exact ih (fun g hg=>ha g (by simp [hg])) (fun g hg=>hb g (by simp [hg])) f hf
theorem zT5 {a b:yD} (ha:MF a) (hb:MF b):MF (zbM a b):=⟨z79 ha.1 hb.1,z7E ha.2 hb.2⟩
theorem z5V (x:Atom) (n:Int):cbE x 0 n=n:=by unfold cbE; split <;>simp
theorem cbE_0' (x:Atom) (n:Int):cbE x n 0=n:=by unfold cbE; split <;>simp; omega
theorem zNy {x:Factor} {l:yD} (h:∀ z∈l,cF x z<0):exA x.Atom l=0:=zXw fun f hf e=>by
 have:=h f hf; rw [cF_self' e.symm] at this; omega
theorem zZ6 (x:Atom) {a b:yD}:MF a→MF b→exA x (zbM a b)=cbE x (exA x a) (exA x b):=by
 induction a,b using zbM.induct with
 | case1 b=>intro _ hb; rw [zbM,exA,z5V]
 | case2 y a=>intro ha _; rw [zbM,show exA x []=0 from rfl,cbE_0']
 | case3 u a y b h ih=>
  intro ha hb;rw [zbM,if_pos h,zzQ,zzQ x u a,ih ha.tail hb];by_cases e:u.Atom=x
  ·subst e;have h1:exA u.Atom a=0:=zNy (qi.1 ha.1).1
   have h2:exA u.Atom (y::b)=0:=zNy fun z hz=>by
    rcases qd.1 hz with rfl | hz
    ·exact h
    ·exact zxh h ((qi.1 hb.1).1 z hz)
   rw [h1,h2,cbE_0',cbE_0']
  ·rw [if_neg e,Int.zero_add,Int.zero_add]
 | case4 u a y b h h2 ih=>
  intro ha hb;have h3:cF y u<0:=by rw [zZQ u y]; omega
  rw [zbM,if_neg h,if_pos h2,zzQ,zzQ x y b,ih ha hb.tail];by_cases e:y.Atom=x
  ·subst e;have h1:exA y.Atom b=0:=zNy (qi.1 hb.1).1
   have h2:exA y.Atom (u::a)=0:=zNy fun z hz=>by
    rcases qd.1 hz with rfl | hz
    ·exact h3
    ·exact zxh h3 ((qi.1 ha.1).1 z hz)
   rw [h1,h2,z5V,z5V]
  ·rw [if_neg e,Int.zero_add,Int.zero_add]
 | case5 u a y b h h2 ih=>
  intro ha hb;have h0:u.Atom=y.Atom:=z0t (by omega)
  rw [zbM,if_neg h,if_neg h2,zzQ,zzQ x u a,zzQ x y b,ih ha.tail hb.tail];have h1:=ha.2 u (by simp)
  by_cases e:u.Atom=x
  ·subst e;have z1:exA u.Atom a=0:=zNy (qi.1 ha.1).1;have z2:exA u.Atom b=0:=by rw [h0]; exact zNy (qi.1 hb.1).1
   rw [z1,z2,if_pos rfl,if_pos h0.symm];by_cases hk:u.Atom.Kind=3∨u.Atom.Kind=4
   ·have n0:¬ u.Exp+0=0:=by omega
    simp only [cbE,if_pos hk,if_neg n0,if_true]
   ·simp only [cbE,if_neg hk,if_true];omega
  ·have e':¬ y.Atom=x:=fun h=>e (h0.trans h)
   have hA:(if u.Atom.Kind=3∨u.Atom.Kind=4 then u else ⟨u.Atom,u.Exp+y.Exp⟩:Factor).Atom=u.Atom:=by split <;>rfl
   simp only [hA,e,e',if_false,Int.zero_add]
theorem z68 {a b:yD} (ha:MF a) (hb:MF b):zbM a b=zbM b a:=z9B (zT5 ha hb) (zT5 hb ha) fun x=>by
 rw [zZ6 x ha hb,zZ6 x hb ha];unfold cbE;split
 ·rename_i hk;rcases z26 ha hk with e | e <;>rcases z26 hb hk with e' | e' <;>simp [e,e']
 ·omega
def EqS (n m:Nat):Prop:=n=m∨(1152921504606846976≤n∧1152921504606846976≤m)
theorem EqS.refl (n:Nat):EqS n n:=.inl rfl
theorem EqS.symm {n m:Nat} (h:EqS n m):EqS m n:=by unfold EqS at *; omega
theorem EqS.trans {n m k:Nat} (h:EqS n m) (h':EqS m k):EqS n k:=by unfold EqS at *; omega
theorem EqS.add {n m n' m':Nat} (h:EqS n n') (h':EqS m m'):EqS (n+m) (n'+m'):=by unfold EqS at *; omega
theorem EqS.mul1 {n n':Nat} (k:Nat) (h:EqS n n'):EqS (n*k) (n'*k):=by
 rcases h with rfl | ⟨h1,h2⟩
 ·exact .refl _
 ·rcases Nat.eq_zero_or_pos k with rfl | hk
  ·exact .inl (by simp)
  ·exact .inr ⟨Nat.le_trans h1 (Nat.le_mul_of_pos_right n hk),Nat.le_trans h2 (Nat.le_mul_of_pos_right n' hk)⟩
theorem EqS.mul {n m n' m':Nat} (h:EqS n n') (h':EqS m m'):EqS (n*m) (n'*m'):=by
 refine (h.mul1 m).trans ?_;rw [Nat.mul_comm n' m,Nat.mul_comm n' m'];exact h'.mul1 n'
def PA (a:yC):Prop:=Srs a∧∀ t∈a,cOK t∧MF t.Factors
theorem PA.c {a:yC} (h:PA a):∀ t∈a,cOK t:=fun t ht=>(h.2 t ht).1
theorem z9H {a b:yC} (ha:PA a) (hb:PA b):PA (sumA a b):=⟨z0y _ _ ha.1,fun t ht=>⟨z8k b ha.c hb.c t ht,by
 obtain ⟨x,hx,e⟩:=zMC b a ha.1 ht;rw [e];rcases hx with hx | hx
 ·exact (ha.2 x hx).2
 ·exact (hb.2 x hx).2⟩⟩
theorem PA.nil:PA []:=⟨List.Pairwise.nil,fun t ht=>by cases ht⟩
theorem zI1 {τ:Type} [Inhabited τ] {R:τ→τ→Prop}:∀ {l:List τ},l.Pairwise R→∀ k,0<k→k<l.length→R (l.getD (k - 1) default) (l.getD k default)
 | [],_,k,_,h=>by simp at h
 | x::r,h,0,h0,_=>by omega
 | x::r,h,1,_,h1=>(qi.1 h).1 _ (zS (by simpa using h1))
 | x::r,h,k+2,_,h1=>zI1 (qi.1 h).2 (k+1) (by omega) (by simp only [qf] at h1; omega)
def OKF (vat:Atom→Bool) (fs:yD):Prop:=Srf fs∧∀ f∈fs,(1≤f.Exp∧(f.Atom.Kind=3∨f.Atom.Kind=4→f.Exp=1))∧vat f.Atom=true
theorem z4w {vat:Atom→Bool} {fs:yD}:okF vat fs=true↔OKF vat fs:=by
 constructor
 ·intro h;refine ⟨zxs (R:=fun x y=>cF x y<0) (fun x y z h1 h2=>zxh h1 h2) _ fun k hk hl=> ?_,fun f hf=>zAO h hf⟩
  have:=zm2.1 h k (by omega) (by omega)
  simp only [chkF,qc,Bool.or_eq_true,qe] at this;rcases this.1.2 with e | e
  ·omega
  ·exact e
 ·intro h;refine zm2.2 fun k _ hk=> ?_
  have hm:=h.2 _ (zS (l:=fs) (i:=k) (by omega))
  simp only [chkF,qc,Bool.or_eq_true,qe,Bool.not_eq_true',Bool.and_eq_false_iff];refine ⟨⟨⟨hm.1.1, ?_⟩, ?_⟩,hm.2⟩
  ·by_cases hk:(fs.getD k default).Atom.Kind=3∨(fs.getD k default).Atom.Kind=4
   ·right; rw [hm.1.2 hk]; rfl
   ·left
    rw [Bool.or_eq_false_iff];constructor
    ·simpa using fun e=>hk (.inl e)
    ·simpa using fun e=>hk (.inr e)
  ·by_cases h0:k=0
   ·exact .inl h0
   ·exact .inr (zI1 h.1 k (by omega) (by omega))
theorem z7s {vat:Atom→Bool} {a:yC}:vAnn vat a=true↔zlI a=true∧Srs a∧∀ t∈a,cOK t∧OKF vat t.Factors:=by
 constructor
 ·intro h;have hall:=h;simp only [vAnn,qc] at hall;refine ⟨hall.1,zxs (R:=fun x y=>cT x y<0) (fun x y z h1 h2=>zOg h1 h2) a fun k hk hl=> ?_,fun t ht=>⟨(zES h ht).1,z4w.1 (zES h ht).2⟩⟩
  have:=zm2.1 hall.2 k (by omega) (by omega)
  simp only [chkT,qc,Bool.or_eq_true,qe] at this;rcases this.1.2 with e | e
  ·omega
  ·exact e
 ·rintro ⟨h1,h2,h3⟩
  simp only [vAnn,qc];refine ⟨h1,zm2.2 fun k _ hk=> ?_⟩
  have hm:=h3 _ (zS (l:=a) (i:=k) (by omega))
  simp only [chkT,qc,Bool.or_eq_true,qe];refine ⟨⟨⟨hm.1.1,hm.1.2⟩, ?_⟩,z4w.2 hm.2⟩;by_cases h0:k=0
  ·exact .inl h0
  ·exact .inr (zI1 h2 k (by omega) (by omega))
def QA (a:yC):Prop:=Srs a∧∀ t∈a,cOK t∧OKF vatA t.Factors
theorem z6x {a:yC}:zd3 a=true↔zlI a=true∧QA a:=by rw [zZu]; exact z7s
theorem OKF.mf {fs:yD} (h:OKF vatA fs):MF fs:=⟨h.1,fun f hf=>⟨⟨zBu (h.2 f hf).2,(h.2 f hf).1.2⟩,(h.2 f hf).1.1⟩⟩
theorem QA.pa {a:yC} (h:QA a):PA a:=⟨h.1,fun t ht=>⟨(h.2 t ht).1,(h.2 t ht).2.mf⟩⟩
theorem z8h {a:yC} (h:zd3 a=true):QA a:=(z6x.1 h).2
theorem zXp {a:yC} (h:zd3 a=true):PA a:=(z8h h).pa
theorem MF.okf {fs:yD} (h:MF fs) (hv:∀ f∈fs,vatA f.Atom=true):OKF vatA fs:=⟨h.1,fun f hf=>⟨⟨(h.2 f hf).2,(h.2 f hf).1.2⟩,hv f hf⟩⟩
theorem OKF.join {a b:yD} (ha:OKF vatA a) (hb:OKF vatA b):OKF vatA (zbM a b):=(zT5 ha.mf hb.mf).okf fun f hf=>by
 obtain ⟨y,hy,e⟩:=zsk hf;rw [e];rcases hy with hy | hy
 ·exact (ha.2 y hy).2
 ·exact (hb.2 y hy).2
theorem QA.nil:QA []:=⟨List.Pairwise.nil,fun t ht=>by cases ht⟩
def sbd {α β:Type} (x:Int⊕α) (k:α→Int⊕β):Int⊕β:=match x with
 | .inl e=>.inl e
 | .inr a=>k a
def opS (r:yC×Int):Int⊕yC:=if r.2=0 then .inr r.1 else .inl r.2
def ofS:Int⊕yC→yC×Int
 | .inl e=>([],e)
 | .inr a=>(a,0)
def powS (b:yC):Nat→yC→Int⊕yC
 | 0,p=>.inr p
 | n+1,p=>sbd (opS (mulR p b)) (powS b n)
mutual
def zR5 (to:RowID→yC):Atom→Int⊕yC
 | ⟨k,r,a,f,i,o,b⟩=>if k=0 then .inr (to r) else
  sbd (zzv to a) fun xs=>if k=1 then opS (monR (xs.getD 0 default) (xs.getD 1 default)) else if k=2 then opS (delR (xs.getD 0 default)) else if k=3 then opS (absR (xs.getD 0 default)) else
   sbd (zv8 to i) fun is=>opS (zYk f is o b)
def zup (to:RowID→yC):yD→yC→Int⊕yC
 | [],p=>.inr p
 | ⟨x,e⟩::r,p=>sbd (zR5 to x) fun b=>sbd (powS b e.toNat p) fun q=>zup to r q
def zrt (to:RowID→yC):yC→yC→Int⊕yC
 | [],s=>.inr s
 | ⟨c,fs⟩::r,s=>sbd (zup to fs (cstA c)) fun p=>sbd (opS (addR s p)) fun q=>zrt to r q
def zzv (to:RowID→yC):yA→Int⊕yA
 | []=>.inr []
 | a::r=>sbd (zrt to a []) fun b=>sbd (zzv to r) fun l=>.inr (b::l)
def zv8 (to:RowID→yC):yE→Int⊕yE
 | []=>.inr []
 | ⟨v,a⟩::r=>sbd (zrt to a []) fun b=>sbd (zv8 to r) fun l=>.inr (⟨v,b⟩::l)
end
variable (to:RowID→yC)
def GE {α:Type} (P:α→Prop):Int⊕α→Prop
 | .inl e=>e≠0
 | .inr a=>P a
abbrev GS:Int⊕yC→Prop:=GE okA
theorem zT6 {r:yC×Int} (h:okR r):GS (opS r):=by
 unfold opS;by_cases he:r.2=0
 ·rw [if_pos he]; exact h.1
 ·rw [if_neg he]; exact he
theorem zON {α β:Type} {P:α→Prop} {Q:β→Prop} {x:Int⊕α} {k:α→Int⊕β} (hx:GE P x) (hk:∀ a,P a→GE Q (k a)):GE Q (sbd x k):=by
 cases x with
 | inl e=>exact hx
 | inr a=>exact hk a hx
theorem z6W {b:yC} (hb:okA b):∀ (n:Nat) (p:yC),okA p→GS (powS b n p)
 | 0,p,hp=>hp
 | n+1,p,hp=>zON (zT6 (z8H hp hb)) fun q hq=>z6W hb n q hq
abbrev GL (n:Nat):Int⊕yA→Prop:=GE fun l=>l.length=n∧∀ a∈l,okA a
abbrev GI (i:yE):Int⊕yE→Prop:=GE fun l=>l.length=i.length∧∀ w∈l,okA w.Ann∧∃ v∈i,v.Value=w.Value
theorem z5S (w:Weighted):zDU w↔wf65 w.Value∧zhx w.Ann∧w.Ann.length≤roomLen:=by cases w; unfold zDU; exact Iff.rfl
theorem z6V {k f o:Int} {r:RowID} {a:yA} {i:yE} {b:Value} (h1:wf3 k) (h2:wf49 r) (h3:zxD a∧a.length≤roomLen) (h4:wf3 f) (h5:ztP i∧i.length≤roomLen) (h6:wf3 o) (h7:wf65 b):zjl ⟨k,r,a,f,i,o,b⟩:=by
 unfold zjl; exact ⟨h1,h2,h3,h4,h5,h6,h7⟩
theorem z63 {f o:Int} {l:yE} {b:Value} (hl:l.length≤1000000) (h:∀ w∈l,okA w.Ann∧wf65 w.Value) (hf:wf3 f) (ho:wf3 o) (hb:wf65 b):okR (zYk f l o b):=by
 unfold zYk;cases hk:fitK f l o b with
 | false=>exact ⟨zs5,.inr rfl⟩
 | true=>
  cases hv:l.all fun w=>zd3 w.Ann with
  | false=>exact ⟨zs5,.inr rfl⟩
  | true=>
   simp only [Bool.and_self,Bool.not_true,cond_false];cases decide (0<(zmn l).length) with
   | true=>
    obtain ⟨tf,ts⟩:=z7C hl hk hv;have hr:roomLen=140737488351232:=rfl;have hlen:(zmn l).length≤1000000:=by rw [zXT]; exact Nat.le_trans (List.length_filter_le _ _) hl
    refine zHz ⟨⟨tf.mono (by omega),ts⟩,zDb _ fun t ht=> ?_,by simp [oneA,roomLen]⟩
    simp only [oneA,qh] at ht;subst ht;refine zSe ⟨by simp,by simp⟩ (fun g hg=> ?_) (by simp)
    simp only [qh] at hg;subst hg;refine ⟨z6V (zRw (zS7 (by omega))) ⟨zAA,zAA⟩ ⟨by unfold zxD; trivial,by simp⟩ hf ⟨zPy _ fun w hw=> ?_,by omega⟩ ho hb,⟨by simp,by simp⟩⟩
    have hm:=h w (zHb hw).1;exact (z5S w).2 ⟨hm.2,hm.1.2⟩
   | false=>
    cases f==0&&mats o (cmpI 0 b.Int) with
    | true=>exact ⟨zT1 1 (by omega),.inl rfl⟩
    | false=>exact ⟨zs5,.inl rfl⟩
theorem z2M {l:yA} (h:∀ a∈l,okA a) (i:Nat):okA (l.getD i default):=by
 by_cases hi:i<l.length
 ·exact h _ (zS hi)
 ·rw [List.getD_eq_getElem?_getD,List.getElem?_eq_none (by omega)]; exact zs5
def okT (to:RowID→yC):Prop:=∀ r,wf49 r→okA (to r)
variable {to}
mutual
theorem z6n (ht:okT to):∀ (x:Atom) (d:Nat),zjl x→zds (zA d) x→GS (zR5 to x)
 | ⟨k,r,a,f,i,o,b⟩=>fun d hw hi=>by
  have hw':=zGT hw;simp only at hw';obtain ⟨⟨ha,hal⟩,⟨hit,hil⟩,hb,hk,hr,hf,ho⟩:=hw';obtain ⟨⟨l1,l2,_⟩,f1,f2⟩:=hi;simp only at l1 l2 f1 f2;rw [zR5];by_cases hk0:k=0
  ·rw [if_pos hk0]; exact ht r hr
  ·rw [if_neg hk0];have hA:=z0S ht a d (fun x hx=>(znP ha x hx).1) f1
   refine zON hA fun xs has=> ?_
   have h0:=z2M has.2 0;have h1:=z2M has.2 1;split
   ·exact zT6 (z8W h0 h1)
   ·split
    ·exact zT6 (z80 h0)
    ·split
     ·exact zT6 (z8O h0)
     ·have hI:=zZj ht i d (fun x hx=>(zwa hit x hx).2.1) fun w hw=>(f2 w hw).2
      refine zON hI fun is his=> ?_
      refine zT6 (z63 (by omega) (fun w hw=>⟨(his.2 w hw).1, ?_⟩) hf ho hb)
      obtain ⟨v,hv,e⟩:=(his.2 w hw).2;rw [← e]; exact (zwa hit v hv).1
theorem zTc (ht:okT to):∀ (l:yD) (d:Nat),(∀ f∈l,zjl f.Atom∧zds (zA d) f.Atom)→∀ p,okA p→GS (zup to l p)
 | [],_,_,p,hp=>by rw [zup]; exact hp
 | ⟨x,e⟩::r,d,h,p,hp=>by
  rw [zup];have hx:=z6n ht x d (h ⟨x,e⟩ (by simp)).1 (h ⟨x,e⟩ (by simp)).2
  refine zON hx fun b hb=>zON (z6W hb _ p hp) fun q hq=> ?_
  exact zTc ht r d (fun f hf=>h f (by simp [hf])) q hq
theorem zWt (ht:okT to):∀ (a:yC) (d:Nat),zhx a→(∀ t∈a,∀ f∈t.Factors,zds (zA d) f.Atom)→∀ s,okA s→GS (zrt to a s)
 | [],_,_,_,s,hs=>by rw [zrt]; exact hs
 | ⟨c,fs⟩::r,d,hw,hi,s,hs=>by
  rw [zrt];have hwt:=zxZ hw ⟨c,fs⟩ (by simp)
  have hp:=zTc ht fs d (fun f hf=>⟨(zx4 (zvE (zA3 hwt).2.1 f hf)).1,hi ⟨c,fs⟩ (by simp) f hf⟩) (cstA c) (z9I c)
  refine zON hp fun p hp=>zON (zT6 (z8P hs hp)) fun q hq=> ?_
  exact zWt ht r d (zDb _ fun t ht=>zxZ hw t (by simp [ht])) (fun t ht=>hi t (by simp [ht])) q hq
theorem z0S (ht:okT to):∀ (l:yA) (d:Nat),(∀ a∈l,zhx a)→(∀ a∈l,zA d a)→GL l.length (zzv to l)
 | [],_,_,_=>by rw [zzv]; exact ⟨rfl,fun a ha=>by cases ha⟩
 | a::r,d,h,hi=>by
  rw [zzv];have hf:=hi a (by simp)
  have h1:GS (zrt to a []):=by
   cases d with
   | zero=>exact hf.elim
   | succ d=>exact zWt ht a d (h a (by simp)) (fun t ht f hf'=>(hf.2 t ht).2 f hf') [] zs5
  have h2:=z0S ht r d (fun b hb=>h b (by simp [hb])) (fun b hb=>hi b (by simp [hb]))
  revert h1 h2;cases zrt to a [] with
  | inl e=>exact fun h _=>h
  | inr b=>
   cases zzv to r with
   | inl e=>exact fun _ h=>h
   | inr l=>
    intro h1 h2;refine ⟨by simp [h2.1],fun x hx=> ?_⟩
    rcases qd.1 hx with rfl | hx
    ·exact h1
    ·exact h2.2 x hx
theorem zZj (ht:okT to):∀ (l:yE) (d:Nat),(∀ w∈l,zhx w.Ann)→(∀ w∈l,zA d w.Ann)→GI l (zv8 to l)
 | [],_,_,_=>by rw [zv8]; exact ⟨rfl,fun a ha=>by cases ha⟩
 | ⟨v,a⟩::r,d,h,hi=>by
  rw [zv8];have hf:zA d a:=hi ⟨v,a⟩ (by simp)
  have h1:GS (zrt to a []):=by
   cases d with
   | zero=>exact hf.elim
   | succ d=>exact zWt ht a d (h ⟨v,a⟩ (by simp)) (fun t ht f hf'=>(hf.2 t ht).2 f hf') [] zs5
  have h2:=zZj ht r d (fun b hb=>h b (by simp [hb])) (fun b hb=>hi b (by simp [hb]))
  revert h1 h2;cases zrt to a [] with
  | inl e=>exact fun h _=>h
  | inr b=>
   cases zv8 to r with
   | inl e=>exact fun _ h=>h
   | inr l=>
    intro h1 h2;refine ⟨by simp [h2.1],fun x hx=> ?_⟩
    rcases qd.1 hx with rfl | hx
    ·exact ⟨h1,⟨v,a⟩,by simp,rfl⟩
    ·obtain ⟨h3,w,hw,e⟩:=h2.2 x hx;exact ⟨h3,w,by simp [hw],e⟩
end
end Go.Proofs.YtljlfiomikifjaaGreatDoor
namespace Go.Proofs.YtljlfiomikifjaaGreatDoor
open Go Go.Ab
end Go.Proofs.YtljlfiomikifjaaGreatDoor
/- Substitution: both sides compute the same. -/
namespace Go.Proofs.YtljlfiomikifjaaGreatDoor
open Go Go.Ab
def toA:yG→RowID→yC
 | [],r=>varA r
 | b::l,r=>if b.Row=r then b.To else toA l r
section
variable (g:Atom→yG→Bool×(yC×Int)) (to:yG)
end
section
variable (g:yC→yG→Bool×(yC×Int)) (to:yG)
structure XG (x:Atom):Prop where
 va:vatA x=true
 lens:x.Args.length≤1000000∧x.Items.length<20
 ga:∀ a∈x.Args,g a to=(true,ofS (zrt (toA to) a []))∧GS (zrt (toA to) a [])
 gi:∀ w∈x.Items,g w.Ann to=(true,ofS (zrt (toA to) w.Ann []))∧GS (zrt (toA to) w.Ann [])
 sa:GL x.Args.length (zzv (toA to) x.Args)
 si:GI x.Items (zv8 (toA to) x.Items)
 wf:zjl x
end
section
variable (g:Atom→yG→Bool×(yC×Int)) (l:yG)
end
section
variable (g:yC→yG→Bool×(yC×Int)) (l:yG)
end
mutual
def zzq:Atom→Prop
 | ⟨_,_,a,_,i,_,_⟩=>i.length<20∧zNz a∧zHA i
def zAq:yD→Prop
 | []=>True
 | ⟨x,_⟩::r=>zzq x∧zAq r
def zb9:yC→Prop
 | []=>True
 | ⟨_,fs⟩::r=>zAq fs∧zb9 r
def zNz:yA→Prop
 | []=>True
 | a::r=>zb9 a∧zNz r
def zHA:yE→Prop
 | []=>True
 | ⟨_,a⟩::r=>zb9 a∧zHA r
end
theorem zOD (x:Atom):zzq x↔x.Items.length<20∧zNz x.Args∧zHA x.Items:=by cases x; rw [zzq]
theorem zFO:∀ {l:yD},zAq l↔∀ f∈l,zzq f.Atom
 | []=>by rw [zAq]; simp
 | ⟨x,e⟩::r=>by rw [zAq,zFO (l:=r)]; simp
theorem zTD:∀ {l:yC},zb9 l↔∀ t∈l,zAq t.Factors
 | []=>by rw [zb9]; simp
 | ⟨x,e⟩::r=>by rw [zb9,zTD (l:=r)]; simp
theorem zGC:∀ {l:yA},zNz l↔∀ a∈l,zb9 a
 | []=>by rw [zNz]; simp
 | a::r=>by rw [zNz,zGC (l:=r)]; simp
theorem zDJ:∀ {l:yE},zHA l↔∀ w∈l,zb9 w.Ann
 | []=>by rw [zHA]; simp
 | ⟨x,e⟩::r=>by rw [zHA,zDJ (l:=r)]; simp
def monU (a b:yC):yC:=if b=[] then a else if a=[]∨a=b then [] else oneA (monA a b)
def delU (a:yC):yC:=if a=[]∨isU a=true then a else if isC a=true then [⟨1,[]⟩] else oneA (delA a)
def absU (a:yC):yC:=if a=[] then [⟨1,[]⟩] else if hasC a=true then [] else oneA (absA a)
def tstU (f:Int) (l:yE) (o:Int) (b:Value):yC:=
 if 0<(zmn l).length then oneA (tstA f (zmn l) o b) else if (f==0&&mats o (cmpI 0 b.Int))=true then [⟨1,[]⟩] else []
def IdP (a:yC):Prop:=a=[]∨a=[⟨1,[]⟩]∨∃ x:Atom,(x.Kind=3∨x.Kind=4)∧a=oneA x
def powA (b:yC):Nat→yC
 | 0=>[⟨1,[]⟩]
 | n+1=>zKQ b (powA b n)
section
variable (σ:Atom→yC)
def SG (x:Atom):Prop:=PA (σ x)∧(x.Kind=3∨x.Kind=4→IdP (σ x))
variable {σ}
def EA (σ:Atom→yC) (a:yC):Prop:=PA a∧∀ t∈a,∀ f∈t.Factors,SG σ f.Atom
theorem EA.p {a:yC} (h:EA σ a):∀ t∈a,cOK t∧∀ f∈t.Factors,SG σ f.Atom:=fun t ht=>⟨h.1.c t ht,h.2 t ht⟩
theorem EA.sum {a b:yC} (ha:EA σ a) (hb:EA σ b):EA σ (sumA a b):=⟨z9H ha.1 hb.1,fun t ht f hf=>by
 obtain ⟨x,hx,e⟩:=zMC b a ha.1.1 ht;rw [e] at hf;rcases hx with hx | hx
 ·exact ha.2 x hx f hf
 ·exact hb.2 x hx f hf⟩
end
end Go.Proofs.YtljlfiomikifjaaGreatDoor
end
