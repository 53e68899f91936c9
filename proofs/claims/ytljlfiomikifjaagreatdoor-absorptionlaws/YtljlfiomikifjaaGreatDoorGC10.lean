/- Texts of this claim, joined (the program, its functions in plain words, and what they compute). -/
import Derived.Test.YtljlfiomikifjaaGreatDoorGC9
set_option autoImplicit false
set_option linter.unusedVariables false
set_option linter.unusedSectionVars false
set_option linter.unusedSimpArgs false
set_option maxRecDepth 1000000
set_option maxHeartbeats 0
/- Results may be handed over again. -/
noncomputable section
namespace Go.Proofs.YtljlfiomikifjaaGreatDoor
open Go Go.Ab
theorem zW5 {n:Int} (h:rng n):wf3 n:=by
 show (Lit.int .i64 n).wf=true;have:IntKind.i64.min≤n∧n≤IntKind.i64.max:=⟨h.1,h.2⟩
 simpa [Lit.wf] using this
theorem zYX {t:Term} (hc:rng t.Cf) (hf:∀ f∈t.Fs,zgr f.At∧rng f.Exp) (hl:t.Fs.length≤1000000):zCl t:=by
 obtain ⟨c,fs⟩:=t;unfold zCl;refine ⟨zW5 hc,zMd fs fun f h=> ?_,by have:zbk=140737488351232:=rfl; simp only at hl; omega⟩
 obtain ⟨x,e⟩:=f;unfold zwU;exact ⟨(hf _ h).1,zW5 (hf _ h).2⟩
def okR (r:yC×Int):Prop:=okA r.1∧(r.2=0∨r.1=[])
theorem zkg:okA []:=⟨⟨zbe7 11,by rw [zty]; omega⟩,by unfold zgA; trivial,by simp⟩
theorem zK0 {a:yC} (h:okA a):okR (znm a):=by
 unfold znm;cases zeD a with
 | true=>exact ⟨h,.inl rfl⟩
 | false=>exact ⟨zkg,.inr rfl⟩
theorem zW1 {ok:Bool} {r:yC×Int} (h:ok=true→okR r):okR (opR ok r):=by
 unfold opR;cases ok with
 | true=>exact h rfl
 | false=>exact ⟨zkg,.inr rfl⟩
theorem zY3 {l:yC} (hl:l.length≤1000000) (h:∀ t∈l,GT t):okA l:=by
 obtain ⟨h1,h2⟩:=zbal hl h;refine ⟨⟨h1.mono (by omega),h2⟩,zGc l fun t ht=> ?_,by have:zbk=140737488351232:=rfl; omega⟩
 have hg:=h t ht;exact zYX ⟨by have:=hg.1.1; omega,by have:=hg.1.2; omega⟩ (fun f hf=>⟨(hg.2.2 f hf).1.2.1,(hg.2.2 f hf).gF.2.2⟩) (by have:=hg.2.1; omega)
theorem zDb {a b:yC} (ha:okA a) (hb:okA b):okR (ze5 a b):=zW1 fun hv=>by
 rw [qc] at hv;obtain ⟨sa,la,ta⟩:=zxh hv.1 ha.2.1;obtain ⟨sb,lb,tb⟩:=zxh hv.2 hb.2.1;exact zK0 (zY3 (by have:=zKW b a; omega) (zQR b a sa (fun t ht=>(ta t ht).1) fun t ht=>(tb t ht).1))
theorem zRV {a b:yC} (ha:okA a) (hb:okA b):okR (ze1 a b):=zW1 fun hv=>by
 rw [qc] at hv;obtain ⟨sa,la,ta⟩:=zxh hv.1 ha.2.1;obtain ⟨sb,lb,tb⟩:=zxh hv.2 hb.2.1;have hpl:(zeX a b).length≤1000000:=by rw [zYp]; have:=Nat.mul_le_mul la lb; omega
 exact zK0 (zY3 (by have:=zKW (zeX a b) []; simp at this; exact Nat.le_trans this hpl) (zQR (zeX a b) [] .nil (fun t ht=>by cases ht) (z2k ta tb)))
theorem z8L {x:At} (hf:zcY (zp 9) x) (hs:zN (zcy x)≤4611686018427387904) (hw:zgr x):okA (zcy x):=by
 refine ⟨⟨(zOu hf).mono (by omega),hs⟩,zGc _ fun t ht=> ?_,by simp [zcy,zbk]⟩
 simp only [zcy,qh] at ht;subst ht;refine zYX ⟨by simp,by simp⟩ (fun f hf=> ?_) (by simp)
 simp only [qh] at hf;subst hf;exact ⟨hw,⟨by simp,by simp⟩⟩
theorem zYm {n:Int} (h: -1000≤n∧n≤1000):rng n:=⟨by omega,by omega⟩
theorem zp2:wf3 0:=zW5 (zYm (by omega))
theorem zYg {l:yA} {k:Int} (hk:0≤k∧k≤4) (hl:l.length≤2) (h:∀ a∈l,zQ a=true) (hw:∀ a∈l,okA a):okA (zcy ⟨k,⟨0,0⟩,l,0,[],0,⟨0,0,ByteArray.mk #[]⟩⟩):=by
 refine z8L ⟨⟨by simp only; omega,by simp,by show (ByteArray.mk #[]).size≤_; decide⟩,fun a ha=>(ze8 (h a ha)).1,fun w hw=>(by cases hw)⟩ (zTh hl h).2 ?_
 unfold zgr;have hr:zbk=140737488351232:=rfl;refine ⟨zW5 (zYm (by omega)),⟨zp2,zp2⟩,⟨zXM l fun a ha=>⟨(hw a ha).2.1,(hw a ha).2.2⟩,by omega⟩,zp2,⟨by unfold ztb; trivial,by simp⟩,zp2,⟨zp2,zp2, ?_⟩⟩
 show (ByteArray.mk #[]).size≤zbk;rw [hr]; decide
theorem z6h {a b:yC} (ha:okA a) (hb:okA b):okR (zT9 a b):=zW1 fun hv=>by
 rw [qc] at hv;split
 ·exact ⟨ha,.inl rfl⟩
 ·split
  ·exact ⟨zkg,.inl rfl⟩
  ·refine zK0 (zYg (by omega) (by simp) (fun x hx=> ?_) fun x hx=> ?_)
   ·simp only [qd,List.not_mem_nil,or_false] at hx;rcases hx with rfl | rfl
    ·exact hv.1
    ·exact hv.2
   ·simp only [qd,List.not_mem_nil,or_false] at hx;rcases hx with rfl | rfl
    ·exact ha
    ·exact hb
theorem zQS (c:Int) (hc:1≤c∧c≤1152921504606846976):okA [⟨c,[]⟩]:=zY3 (by simp) fun t ht=>by
 rw [qh] at ht; subst ht;exact ⟨hc,by simp,fun f hf=>by cases hf⟩
theorem z5C {a:yC} (ha:okA a):okR (zUp a):=zW1 fun hv=>by
 split
 ·exact ⟨ha,.inl rfl⟩
 ·split
  ·exact ⟨zQS 1 (by omega),.inl rfl⟩
  ·exact zK0 (zYg (by omega) (by simp) (fun x hx=>by rw [qh] at hx; subst hx; exact hv) fun x hx=>by rw [qh] at hx; subst hx; exact ha)
theorem z5M {a:yC} (ha:okA a):okR (zUl a):=zW1 fun hv=>by
 split
 ·exact ⟨zQS 1 (by omega),.inl rfl⟩
 ·split
  ·exact ⟨zkg,.inl rfl⟩
  ·exact zK0 (zYg (by omega) (by simp) (fun x hx=>by rw [qh] at hx; subst hx; exact hv) fun x hx=>by rw [qh] at hx; subst hx; exact ha)
def zxs (n:Int):yC:=if n<1 then [] else [⟨if 1152921504606846976<n then 1152921504606846976 else n,[]⟩]
def zub (id:RowID):yC:=bif zAK id then zcy ⟨0,id,[],0,[],0,⟨0,0,ByteArray.mk #[]⟩⟩ else []
theorem z8v (n:Int):zrz n=(true,zxs n)∧zB9 n=(true,zxs n):=by
 unfold zrz zIa zB9 zUY zxs;by_cases h:n<1
 ·simp only [Wy.fin_i,Wy.fin_k,h,decide_true,cond_true,if_true]; exact ⟨trivial,trivial⟩
 ·simp only [Wy.fin_i,Wy.fin_k,h,decide_false,cond_false,if_false]; exact ⟨trivial,trivial⟩
theorem zbdh (id:RowID):zvw id=(true,zub id)∧zDe id=(true,zub id):=by
 unfold zvw zL7 zDe z09 zub zAK;simp only [Wy.fin_i,Wy.fin_bn,Wy.fin_k,zEM,zIl,zSb,cond_true];unfold zAK
 have e1:decide (id.Table<1)= !decide (id.Table≥1):=by
  by_cases h:id.Table<1
  ·have:¬ id.Table≥1:=by omega
   simp only [h,this,decide_true,decide_false,Bool.not_false]
  ·have:id.Table≥1:=by omega
   simp only [h,this,decide_true,decide_false,Bool.not_true]
 have e2:decide (id.Seq<1)= !decide (id.Seq≥1):=by
  by_cases h:id.Seq<1
  ·have:¬ id.Seq≥1:=by omega
   simp only [h,this,decide_true,decide_false,Bool.not_false]
  ·have:id.Seq≥1:=by omega
   simp only [h,this,decide_true,decide_false,Bool.not_true]
 rw [e1,e2];cases decide (id.Table≥1) <;>cases decide (id.Seq≥1) <;>exact ⟨rfl,rfl⟩
theorem zbaq (n:Int):okA (zxs n):=by
 unfold zxs;split
 ·exact zkg
 ·refine zQS _ ?_;split <;>omega
theorem zbhd {id:RowID} (h:zWk id):okA (zub id):=by
 unfold zub;cases hr:zAK id with
 | false=>exact zkg
 | true=>
  refine z8L ⟨⟨by simp,by simp,by show (ByteArray.mk #[]).size≤_; decide⟩,fun a ha=>(by cases ha),fun w hw=>(by cases hw)⟩ (by rw [z1w,zhd,zgF,zfG]; omega) ?_
  unfold zgr;refine ⟨zp2,h,⟨by unfold zxB; trivial,by simp⟩,zp2,⟨by unfold ztb; trivial,by simp⟩,zp2,⟨zp2,zp2, ?_⟩⟩
  show (ByteArray.mk #[]).size≤zbk;have hr:zbk=140737488351232:=rfl;rw [hr]; decide
theorem zbbL {a:yC} {n:Nat} (hn:n≤1000) (h:zp 12 a∧zes a≤n) (hw:z1B a):okA a:=⟨⟨h.1,by have:=zJT a; omega⟩,hw.1,hw.2⟩
def exA (x:At):yD→Int
 | []=>0
 | f::r=>(if f.At=x then f.Exp else 0)+exA x r
theorem zCO (x:At) (f:Fc) (r:yD):exA x (f::r)=(if f.At=x then f.Exp else 0)+exA x r:=rfl
def MF (l:yD):Prop:=Srf l∧∀ f∈l,eOK f∧1≤f.Exp
theorem MF.tail {f:Fc} {l:yD} (h:MF (f::l)):MF l:=⟨(qi.1 h.1).2,fun g hg=>h.2 g (by simp [hg])⟩
theorem MF.nil:MF []:=⟨List.Pairwise.nil,fun f hf=>by cases hf⟩
theorem z17 {x:At}:∀ {l:yD},(∀ f∈l,f.At≠x)→exA x l=0
 | [],_=>rfl
 | f::r,h=>by rw [exA,if_neg (h f (by simp)),z17 fun g hg=>h g (by simp [hg])]; rfl
theorem cF_self' {x y:Fc} (h:x.At=y.At):cF x y=0:=by unfold cF; rw [h]; exact zHV _
theorem MF.ne {f:Fc} {l:yD} (h:MF (f::l)):∀ g∈l,g.At≠f.At:=fun g hg e=>by
 have:=(qi.1 h.1).1 g hg;rw [cF_self' e.symm] at this; omega
theorem zKZ {f:Fc}:∀ {l:yD},MF l→f∈l→exA f.At l=f.Exp
 | [],_,h=>by cases h
 | g::r,h,hf=>by
  rw [exA];rcases qd.1 hf with rfl | hf
  ·rw [if_pos rfl,z17 h.ne]; omega
  ·rw [if_neg (fun e=>h.ne f hf e.symm),zKZ h.tail hf]; omega
theorem zyo {x:At}:∀ {l:yD},MF l→(0≤exA x l∧(exA x l≠0→∃ f∈l,f.At=x))
 | [],_=>⟨Int.le_refl _,fun h=>absurd rfl h⟩
 | g::r,h=>by
  rw [exA];have:=zyo (x:=x) h.tail;have:=(h.2 g (by simp)).2
  by_cases e:g.At=x
  ·rw [if_pos e];exact ⟨by omega,fun _=>⟨g,by simp,e⟩⟩
  ·rw [if_neg e];refine ⟨by omega,fun h1=> ?_⟩
   obtain ⟨f,hf,e⟩:=(zyo (x:=x) h.tail).2 (by omega)
   exact ⟨f,by simp [hf],e⟩
theorem zUh {x:At} {l:yD} (h:MF l) (hx:x.Kind=3∨x.Kind=4):exA x l=0∨exA x l=1:=by
 by_cases h0:exA x l=0
 ·exact .inl h0
 ·obtain ⟨f,hf,rfl⟩:=(zyo h).2 h0;rw [zKZ h hf];exact .inr ((h.2 f hf).1.2 hx)
def cbE (x:At) (m n:Int):Int:=if x.Kind=3∨x.Kind=4 then (if m=0 then n else m) else m+n
theorem zbfj {a b:yD}:Srf a→Srf b→Srf (zbt a b):=by
 induction a,b using zbt.induct with
 | case1 b=>intro _ hb; rw [zbt]; exact hb
 | case2 x a=>intro ha _; rw [zbt]; exact ha
 | case3 x a y b h ih=>
  intro ha hb;have ca:=qi.1 ha;rw [zbt,if_pos h];refine qi.2 ⟨fun z hz=> ?_,ih ca.2 hb⟩
  obtain ⟨w,hw,e⟩:=zut hz;have:cF x z=cF x w:=by unfold cF; rw [e]
  rw [this];rcases hw with hw | hw
  ·exact ca.1 w hw
  ·rcases qd.1 hw with rfl | hw
   ·exact h
   ·exact zAo h ((qi.1 hb).1 w hw)
 | case4 x a y b h h2 ih=>
  intro ha hb;have cb:=qi.1 hb;rw [zbt,if_neg h,if_pos h2];have h3:cF y x<0:=by rw [zba1 x y]; omega
  refine qi.2 ⟨fun z hz=> ?_,ih ha cb.2⟩
  obtain ⟨w,hw,e⟩:=zut hz;have:cF y z=cF y w:=by unfold cF; rw [e]
  rw [this];rcases hw with hw | hw
  ·rcases qd.1 hw with rfl | hw
   ·exact h3
   ·exact zAo h3 ((qi.1 ha).1 w hw)
  ·exact cb.1 w hw
 | case5 x a y b h h2 ih=>
  intro ha hb;have ca:=qi.1 ha;have cb:=qi.1 hb;have h0:x.At=y.At:=z5w (by omega)
  rw [zbt,if_neg h,if_neg h2];have hA:(if x.At.Kind=3∨x.At.Kind=4 then x else ⟨x.At,x.Exp+y.Exp⟩:Fc).At=x.At:=by split <;>rfl
  refine qi.2 ⟨fun z hz=> ?_,ih ca.2 cb.2⟩
  obtain ⟨w,hw,e⟩:=zut hz;have:cF (if x.At.Kind=3∨x.At.Kind=4 then x else ⟨x.At,x.Exp+y.Exp⟩:Fc) z=cF x w:=by unfold cF; rw [e,hA]
  rw [this];rcases hw with hw | hw
  ·exact ca.1 w hw
  ·have:cF x w=cF y w:=by unfold cF; rw [h0]
   rw [this]; exact cb.1 w hw
theorem zbes {a b:yD}:(∀ f∈a,eOK f∧1≤f.Exp)→(∀ f∈b,eOK f∧1≤f.Exp)→∀ f∈zbt a b,eOK f∧1≤f.Exp:=by
 induction a,b using zbt.induct with
 | case1 b=>intro _ hb; rw [zbt]; exact hb
 | case2 x a=>intro ha _; rw [zbt]; exact ha
 | case3 x a y b h ih=>
  intro ha hb f hf;rw [zbt,if_pos h] at hf;rcases qd.1 hf with rfl | hf
  ·exact ha _ (by simp)
  ·exact ih (fun g hg=>ha g (by simp [hg])) hb f hf
 | case4 x a y b h h2 ih=>
  intro ha hb f hf;rw [zbt,if_neg h,if_pos h2] at hf;rcases qd.1 hf with rfl | hf
  ·exact hb _ (by simp)
  ·exact ih ha (fun g hg=>hb g (by simp [hg])) f hf
 | case5 x a y b h h2 ih=>
  intro ha hb f hf;rw [zbt,if_neg h,if_neg h2] at hf;rcases qd.1 hf with rfl | hf
  ·have h1:=ha x (by simp)
   have h2:=hb y (by simp)
   split
   ·exact h1
   ·rename_i hk;exact ⟨⟨h1.1.1,fun h=>absurd h hk⟩,by show 1≤x.Exp+y.Exp; omega⟩
  ·exact ih (fun g hg=>ha g (by simp [hg])) (fun g hg=>hb g (by simp [hg])) f hf
theorem zQP {a b:yD} (ha:MF a) (hb:MF b):MF (zbt a b):=⟨zbfj ha.1 hb.1,zbes ha.2 hb.2⟩
theorem zbch (x:At) (n:Int):cbE x 0 n=n:=by unfold cbE; split <;>simp
theorem cbE_0' (x:At) (n:Int):cbE x n 0=n:=by unfold cbE; split <;>simp; omega
theorem zRO {x:Fc} {l:yD} (h:∀ z∈l,cF x z<0):exA x.At l=0:=z17 fun f hf e=>by
 have:=h f hf; rw [cF_self' e.symm] at this; omega
theorem z6r (x:At) {a b:yD}:MF a→MF b→exA x (zbt a b)=cbE x (exA x a) (exA x b):=by
 induction a,b using zbt.induct with
 | case1 b=>intro _ hb; rw [zbt,exA,zbch]
 | case2 y a=>intro ha _; rw [zbt,show exA x []=0 from rfl,cbE_0']
 | case3 u a y b h ih=>
  intro ha hb;rw [zbt,if_pos h,zCO,zCO x u a,ih ha.tail hb];by_cases e:u.At=x
  ·subst e;have h1:exA u.At a=0:=zRO (qi.1 ha.1).1
   have h2:exA u.At (y::b)=0:=zRO fun z hz=>by
    rcases qd.1 hz with rfl | hz
    ·exact h
    ·exact zAo h ((qi.1 hb.1).1 z hz)
   rw [h1,h2,cbE_0',cbE_0']
  ·rw [if_neg e,Int.zero_add,Int.zero_add]
 | case4 u a y b h h2 ih=>
  intro ha hb;have h3:cF y u<0:=by rw [zba1 u y]; omega
  rw [zbt,if_neg h,if_pos h2,zCO,zCO x y b,ih ha hb.tail];by_cases e:y.At=x
  ·subst e;have h1:exA y.At b=0:=zRO (qi.1 hb.1).1
   have h2:exA y.At (u::a)=0:=zRO fun z hz=>by
    rcases qd.1 hz with rfl | hz
    ·exact h3
    ·exact zAo h3 ((qi.1 ha.1).1 z hz)
   rw [h1,h2,zbch,zbch]
  ·rw [if_neg e,Int.zero_add,Int.zero_add]
 | case5 u a y b h h2 ih=>
  intro ha hb;have h0:u.At=y.At:=z5w (by omega)
  rw [zbt,if_neg h,if_neg h2,zCO,zCO x u a,zCO x y b,ih ha.tail hb.tail];have h1:=ha.2 u (by simp)
  by_cases e:u.At=x
  ·subst e;have z1:exA u.At a=0:=zRO (qi.1 ha.1).1;have z2:exA u.At b=0:=by rw [h0]; exact zRO (qi.1 hb.1).1
   rw [z1,z2,if_pos rfl,if_pos h0.symm];by_cases hk:u.At.Kind=3∨u.At.Kind=4
   ·have n0:¬ u.Exp+0=0:=by omega
    simp only [cbE,if_pos hk,if_neg n0,if_true]
   ·simp only [cbE,if_neg hk,if_true];omega
  ·have e':¬ y.At=x:=fun h=>e (h0.trans h)
   have hA:(if u.At.Kind=3∨u.At.Kind=4 then u else ⟨u.At,u.Exp+y.Exp⟩:Fc).At=u.At:=by split <;>rfl
   simp only [hA,e,e',if_false,Int.zero_add]
def EqS (n m:Nat):Prop:=n=m∨(1152921504606846976≤n∧1152921504606846976≤m)
theorem EqS.refl (n:Nat):EqS n n:=.inl rfl
theorem EqS.symm {n m:Nat} (h:EqS n m):EqS m n:=by unfold EqS at *; omega
theorem EqS.trans {n m k:Nat} (h:EqS n m) (h':EqS m k):EqS n k:=by unfold EqS at *; omega
theorem EqS.add {n m n' m':Nat} (h:EqS n n') (h':EqS m m'):EqS (n+m) (n'+m'):=by unfold EqS at *; omega
theorem EqS.mul1 {n n':Nat} (k:Nat) (h:EqS n n'):EqS (n*k) (n'*k):=by
 rcases h with rfl | ⟨h1,h2⟩
 ·exact .refl _
 ·rcases Nat.eq_zero_or_pos k with rfl | hk
  ·exact .inl (by simp)
  ·exact .inr ⟨Nat.le_trans h1 (Nat.le_mul_of_pos_right n hk),Nat.le_trans h2 (Nat.le_mul_of_pos_right n' hk)⟩
theorem EqS.mul {n m n' m':Nat} (h:EqS n n') (h':EqS m m'):EqS (n*m) (n'*m'):=by
 refine (h.mul1 m).trans ?_;rw [Nat.mul_comm n' m,Nat.mul_comm n' m'];exact h'.mul1 n'
theorem zbfZ {a b:yC} (ha:∀ x∈a,cOK x) (hb:∀ x∈b,cOK x):∀ t∈zeX a b,cOK t:=fun t ht=>by
 obtain ⟨x,hx,y,hy,rfl⟩:=zDl ht;exact (zTW (ha x hx) (hb y hy)).1
theorem zbdi {a b:yC} (ha:∀ x∈a,cOK x) (hb:∀ x∈b,cOK x):∀ t∈zgi a b,cOK t:=z8h _ (fun _ h=>by cases h) (zbfZ ha hb)
theorem z9X (a b:yC):Srs (zgi a b):=zKX _ _ List.Pairwise.nil
def PA (a:yC):Prop:=Srs a∧∀ t∈a,cOK t∧MF t.Fs
theorem PA.c {a:yC} (h:PA a):∀ t∈a,cOK t:=fun t ht=>(h.2 t ht).1
theorem zbdC {a b:yC} (ha:PA a) (hb:PA b):PA (zeo a b):=⟨zKX _ _ ha.1,fun t ht=>⟨z8h b ha.c hb.c t ht,by
 obtain ⟨x,hx,e⟩:=zC0 b a ha.1 ht;rw [e];rcases hx with hx | hx
 ·exact (ha.2 x hx).2
 ·exact (hb.2 x hx).2⟩⟩
theorem zbgE {a b:yC} (ha:PA a) (hb:PA b):PA (zgi a b):=⟨z9X _ _,fun t ht=>⟨zbdi ha.c hb.c t ht,by
 obtain ⟨x,hx,e⟩:=zC0 (zeX a b) [] List.Pairwise.nil ht;rw [e];rcases hx with hx | hx
 ·cases hx
 ·obtain ⟨u,hu,v,hv,rfl⟩:=zDl hx;exact zQP (ha.2 u hu).2 (hb.2 v hv).2⟩⟩
theorem PA.nil:PA []:=⟨List.Pairwise.nil,fun t ht=>by cases ht⟩
theorem zbb7 {c:Int} (h:c≤1152921504606846976):zAu c 1=c:=by
 unfold zAu;rw [if_neg (by rw [Int.tdiv_one]; omega)]; omega
theorem zM4 {τ:Type} [Inhabited τ] {R:τ→τ→Prop}:∀ {l:List τ},l.Pairwise R→∀ k,0<k→k<l.length→R (l.getD (k - 1) default) (l.getD k default)
 | [],_,k,_,h=>by simp at h
 | x::r,h,0,h0,_=>by omega
 | x::r,h,1,_,h1=>(qi.1 h).1 _ (zu (by simpa using h1))
 | x::r,h,k+2,_,h1=>zM4 (qi.1 h).2 (k+1) (by omega) (by simp only [qf] at h1; omega)
def OKF (vat:At→Bool) (fs:yD):Prop:=Srf fs∧∀ f∈fs,(1≤f.Exp∧(f.At.Kind=3∨f.At.Kind=4→f.Exp=1))∧vat f.At=true
theorem zbbG {vat:At→Bool} {fs:yD}:okF vat fs=true↔OKF vat fs:=by
 constructor
 ·intro h;refine ⟨zvS (R:=fun x y=>cF x y<0) (fun x y z h1 h2=>zAo h1 h2) _ fun k hk hl=> ?_,fun f hf=>zpd h hf⟩
  have:=zem.1 h k (by omega) (by omega)
  simp only [zPO,qc,Bool.or_eq_true,qe] at this;rcases this.1.2 with e | e
  ·omega
  ·exact e
 ·intro h;refine zem.2 fun k _ hk=> ?_
  have hm:=h.2 _ (zu (l:=fs) (i:=k) (by omega))
  simp only [zPO,qc,Bool.or_eq_true,qe,Bool.not_eq_true',Bool.and_eq_false_iff];refine ⟨⟨⟨hm.1.1, ?_⟩, ?_⟩,hm.2⟩
  ·by_cases hk:(fs.getD k default).At.Kind=3∨(fs.getD k default).At.Kind=4
   ·right; rw [hm.1.2 hk]; rfl
   ·left
    rw [Bool.or_eq_false_iff];constructor
    ·simpa using fun e=>hk (.inl e)
    ·simpa using fun e=>hk (.inr e)
  ·by_cases h0:k=0
   ·exact .inl h0
   ·exact .inr (zM4 h.1 k (by omega) (by omega))
theorem zTi {vat:At→Bool} {a:yC}:zyz vat a=true↔zeD a=true∧Srs a∧∀ t∈a,cOK t∧OKF vat t.Fs:=by
 constructor
 ·intro h;have hall:=h;simp only [zyz,qc] at hall;refine ⟨hall.1,zvS (R:=fun x y=>cT x y<0) (fun x y z h1 h2=>zGn h1 h2) a fun k hk hl=> ?_,fun t ht=>⟨(zwu h ht).1,zbbG.1 (zwu h ht).2⟩⟩
  have:=zem.1 hall.2 k (by omega) (by omega)
  simp only [zEJ,qc,Bool.or_eq_true,qe] at this;rcases this.1.2 with e | e
  ·omega
  ·exact e
 ·rintro ⟨h1,h2,h3⟩
  simp only [zyz,qc];refine ⟨h1,zem.2 fun k _ hk=> ?_⟩
  have hm:=h3 _ (zu (l:=a) (i:=k) (by omega))
  simp only [zEJ,qc,Bool.or_eq_true,qe];refine ⟨⟨⟨hm.1.1,hm.1.2⟩, ?_⟩,zbbG.2 hm.2⟩;by_cases h0:k=0
  ·exact .inl h0
  ·exact .inr (zM4 h2 k (by omega) (by omega))
def QA (a:yC):Prop:=Srs a∧∀ t∈a,cOK t∧OKF zos t.Fs
theorem zkm {a:yC}:zQ a=true↔zeD a=true∧QA a:=by rw [z3b]; exact zTi
theorem OKF.mf {fs:yD} (h:OKF zos fs):MF fs:=⟨h.1,fun f hf=>⟨⟨zEO (h.2 f hf).2,(h.2 f hf).1.2⟩,(h.2 f hf).1.1⟩⟩
theorem QA.pa {a:yC} (h:QA a):PA a:=⟨h.1,fun t ht=>⟨(h.2 t ht).1,(h.2 t ht).2.mf⟩⟩
theorem zok {a:yC} (h:zQ a=true):QA a:=(zkm.1 h).2
theorem zcg {a:yC} (h:zQ a=true):PA a:=(zok h).pa
theorem zS6 {a:yC} (h:zQ a=true):zeD a=true:=(zkm.1 h).1
theorem MF.okf {fs:yD} (h:MF fs) (hv:∀ f∈fs,zos f.At=true):OKF zos fs:=⟨h.1,fun f hf=>⟨⟨(h.2 f hf).2,(h.2 f hf).1.2⟩,hv f hf⟩⟩
theorem OKF.join {a b:yD} (ha:OKF zos a) (hb:OKF zos b):OKF zos (zbt a b):=(zQP ha.mf hb.mf).okf fun f hf=>by
 obtain ⟨y,hy,e⟩:=zut hf;rw [e];rcases hy with hy | hy
 ·exact (ha.2 y hy).2
 ·exact (hb.2 y hy).2
theorem zbds {a b:yC} (ha:QA a) (hb:QA b):QA (zeo a b):=⟨zKX _ _ ha.1,fun t ht=>⟨z8h b ha.pa.c hb.pa.c t ht,by
 obtain ⟨x,hx,e⟩:=zC0 b a ha.1 ht;rw [e];rcases hx with hx | hx
 ·exact (ha.2 x hx).2
 ·exact (hb.2 x hx).2⟩⟩
theorem zbbI {a b:yC} (ha:QA a) (hb:QA b):QA (zgi a b):=⟨z9X _ _,fun t ht=>⟨zbdi ha.pa.c hb.pa.c t ht,by
 obtain ⟨x,hx,e⟩:=zC0 (zeX a b) [] List.Pairwise.nil ht;rw [e];rcases hx with hx | hx
 ·cases hx
 ·obtain ⟨u,hu,v,hv,rfl⟩:=zDl hx;exact (ha.2 u hu).2.join (hb.2 v hv).2⟩⟩
theorem QA.nil:QA []:=⟨List.Pairwise.nil,fun t ht=>by cases ht⟩
theorem zbgS {x:At} (h:zos x=true):QA (zcy x):=⟨by simp [zcy],fun t ht=>by
 simp only [zcy,qh] at ht; subst ht;refine ⟨⟨by simp,by simp⟩,by simp,fun f hf=> ?_⟩
 rw [qh] at hf; subst hf;exact ⟨⟨by simp,fun _=>rfl⟩,h⟩⟩
theorem zbdQ {a:yC} (h:(znm a).2=0):zeD a=true∧znm a=(a,0):=by
 unfold znm at *;cases hw:zeD a with
 | true=>exact ⟨rfl,rfl⟩
 | false=>rw [hw] at h; simp at h
theorem zbfo {ok:Bool} {r:yC×Int} (h:(opR ok r).2=0):ok=true∧opR ok r=r:=by
 cases ok with
 | true=>exact ⟨rfl,rfl⟩
 | false=>simp [opR] at h
theorem z3L {a b:yC} (h:(ze5 a b).2=0):(zQ a=true∧zQ b=true∧zQ (zeo a b)=true)∧ze5 a b=(zeo a b,0):=by
 obtain ⟨h1,h2⟩:=zbfo h;rw [qc] at h1;unfold ze5 at h;rw [h2] at h;obtain ⟨h3,h4⟩:=zbdQ h;exact ⟨⟨h1.1,h1.2,zkm.2 ⟨h3,zbds (zok h1.1) (zok h1.2)⟩⟩,h2.trans h4⟩
theorem zbc2 {a b:yC} (h:(ze1 a b).2=0):(zQ a=true∧zQ b=true∧zQ (zgi a b)=true)∧ze1 a b=(zgi a b,0):=by
 obtain ⟨h1,h2⟩:=zbfo h;rw [qc] at h1;unfold ze1 at h;rw [h2] at h;obtain ⟨h3,h4⟩:=zbdQ h;exact ⟨⟨h1.1,h1.2,zkm.2 ⟨h3,zbbI (zok h1.1) (zok h1.2)⟩⟩,h2.trans h4⟩
theorem zKV {a:yC} (h:zeD a=true):znm a=(a,0):=by unfold znm; rw [h]; rfl
theorem zbba {a b:yC} (ha:zQ a=true) (hb:zQ b=true) (h:zeD (zeo a b)=true):ze5 a b=(zeo a b,0):=by
 unfold ze5; rw [ha,hb,zKV h]; rfl
theorem z5c {a b:yC} (ha:zQ a=true) (hb:zQ b=true) (h:zeD (zgi a b)=true):ze1 a b=(zgi a b,0):=by
 unfold ze1; rw [ha,hb,zKV h]; rfl
theorem zSO {x:At}:zos x=true↔VA zQ x:=zdv
theorem zbcf {x:At} (h:zos x=true) (hw:zeD (zcy x)=true):zQ (zcy x)=true:=zkm.2 ⟨hw,zbgS h⟩
def sbd {α β:Type} (x:Int⊕α) (k:α→Int⊕β):Int⊕β:=match x with
 | .inl e=>.inl e
 | .inr a=>k a
theorem zC3 {α β:Type} (e:Int) (k:α→Int⊕β):sbd (.inl e) k=.inl e:=rfl
theorem zcc {α β:Type} (a:α) (k:α→Int⊕β):sbd (.inr a) k=k a:=rfl
def opS (r:yC×Int):Int⊕yC:=if r.2=0 then .inr r.1 else .inl r.2
def ofS:Int⊕yC→yC×Int
 | .inl e=>([],e)
 | .inr a=>(a,0)
theorem zDy {r:yC×Int} (h:r.2=0∨r.1=[]):ofS (opS r)=r:=by
 obtain ⟨a,e⟩:=r;simp only at h;unfold opS;by_cases he:e=0
 ·subst he; simp [ofS]
 ·rw [if_neg he];rcases h with h | h
  ·exact absurd h he
  ·subst h; rfl
theorem z99 {a:yC}:opS (a,0)=.inr a:=rfl
def zzY (b:yC):Nat→yC→Int⊕yC
 | 0,p=>.inr p
 | n+1,p=>sbd (opS (ze1 p b)) (zzY b n)
mutual
def zeA (to:RowID→yC):At→Int⊕yC
 | ⟨k,r,a,f,i,o,b⟩=>if k=0 then .inr (to r) else
  sbd (zi0 to a) fun xs=>if k=1 then opS (zT9 (xs.getD 0 default) (xs.getD 1 default)) else if k=2 then opS (zUp (xs.getD 0 default)) else if k=3 then opS (zUl (xs.getD 0 default)) else
   sbd (zfB to i) fun is=>opS (zzp f is o b)
def zdr (to:RowID→yC):yD→yC→Int⊕yC
 | [],p=>.inr p
 | ⟨x,e⟩::r,p=>sbd (zeA to x) fun b=>sbd (zzY b e.toNat p) fun q=>zdr to r q
def zcr (to:RowID→yC):yC→yC→Int⊕yC
 | [],s=>.inr s
 | ⟨c,fs⟩::r,s=>sbd (zdr to fs (zxs c)) fun p=>sbd (opS (ze5 s p)) fun q=>zcr to r q
def zi0 (to:RowID→yC):yA→Int⊕yA
 | []=>.inr []
 | a::r=>sbd (zcr to a []) fun b=>sbd (zi0 to r) fun l=>.inr (b::l)
def zfB (to:RowID→yC):yE→Int⊕yE
 | []=>.inr []
 | ⟨v,a⟩::r=>sbd (zcr to a []) fun b=>sbd (zfB to r) fun l=>.inr (⟨v,b⟩::l)
end
variable (to:RowID→yC)
theorem zIz (p:yC):zdr to [] p=.inr p:=by rw [zdr]
theorem zFO (f:Fc) (r:yD) (p:yC):zdr to (f::r) p=sbd (zeA to f.At) fun b=>sbd (zzY b f.Exp.toNat p) fun q=>zdr to r q:=by cases f; rw [zdr]
theorem zXI (s:yC):zcr to [] s=.inr s:=by rw [zcr]
theorem zSz (t:Term) (r s:yC):zcr to (t::r) s=sbd (zdr to t.Fs (zxs t.Cf)) fun p=>sbd (opS (ze5 s p)) fun q=>zcr to r q:=by cases t; rw [zcr]
theorem zA8:zi0 to []=.inr []:=by rw [zi0]
theorem zyl (a:yC) (r:yA):zi0 to (a::r)=sbd (zcr to a []) fun b=>sbd (zi0 to r) fun l=>.inr (b::l):=by rw [zi0]
theorem zGP:zfB to []=.inr []:=by rw [zfB]
theorem zMm (w:Wd) (r:yE):zfB to (w::r)=sbd (zcr to w.Ann []) fun b=>sbd (zfB to r) fun l=>.inr (⟨w.Value,b⟩::l):=by cases w; rw [zfB]
theorem zW6 (x:At):zeA to x=if x.Kind=0 then .inr (to x.Row) else
  sbd (zi0 to x.Ag) fun xs=>if x.Kind=1 then opS (zT9 (xs.getD 0 default) (xs.getD 1 default)) else if x.Kind=2 then opS (zUp (xs.getD 0 default)) else if x.Kind=3 then opS (zUl (xs.getD 0 default)) else
   sbd (zfB to x.Items) fun is=>opS (zzp x.Func is x.Op x.Bd):=by cases x; rw [zeA]
def GE {α:Type} (P:α→Prop):Int⊕α→Prop
 | .inl e=>e≠0
 | .inr a=>P a
abbrev GS:Int⊕yC→Prop:=GE okA
theorem zOi {r:yC×Int} (h:okR r):GS (opS r):=by
 unfold opS;by_cases he:r.2=0
 ·rw [if_pos he]; exact h.1
 ·rw [if_neg he]; exact he
theorem zON {α β:Type} {P:α→Prop} {Q:β→Prop} {x:Int⊕α} {k:α→Int⊕β} (hx:GE P x) (hk:∀ a,P a→GE Q (k a)):GE Q (sbd x k):=by
 cases x with
 | inl e=>exact hx
 | inr a=>exact hk a hx
theorem z4B {b:yC} (hb:okA b):∀ (n:Nat) (p:yC),okA p→GS (zzY b n p)
 | 0,p,hp=>hp
 | n+1,p,hp=>zON (zOi (zRV hp hb)) fun q hq=>z4B hb n q hq
abbrev GL (n:Nat):Int⊕yA→Prop:=GE fun l=>l.length=n∧∀ a∈l,okA a
abbrev GI (i:yE):Int⊕yE→Prop:=GE fun l=>l.length=i.length∧∀ w∈l,okA w.Ann∧∃ v∈i,v.Value=w.Value
theorem zbbR (w:Wd):zHo w↔zTk w.Value∧zgA w.Ann∧w.Ann.length≤zbk:=by cases w; unfold zHo; exact Iff.rfl
theorem zbd5 {k f o:Int} {r:RowID} {a:yA} {i:yE} {b:Value} (h1:wf3 k) (h2:zWk r) (h3:zxB a∧a.length≤zbk) (h4:wf3 f) (h5:ztb i∧i.length≤zbk) (h6:wf3 o) (h7:zTk b):zgr ⟨k,r,a,f,i,o,b⟩:=by
 unfold zgr; exact ⟨h1,h2,h3,h4,h5,h6,h7⟩
theorem zWK {f o:Int} {l:yE} {b:Value} (hl:l.length≤1000000) (h:∀ w∈l,okA w.Ann∧zTk w.Value) (hf:wf3 f) (ho:wf3 o) (hb:zTk b):okR (zzp f l o b):=by
 unfold zzp;cases hk:zBE f l o b with
 | false=>exact ⟨zkg,.inr rfl⟩
 | true=>
  cases hv:l.all fun w=>zQ w.Ann with
  | false=>exact ⟨zkg,.inr rfl⟩
  | true=>
   simp only [Bool.and_self,Bool.not_true,cond_false];cases decide (0<(zdW l).length) with
   | true=>
    obtain ⟨tf,ts⟩:=zK3 hl hk hv;have hr:zbk=140737488351232:=rfl;have hlen:(zdW l).length≤1000000:=by rw [z3P]; exact Nat.le_trans (List.length_filter_le _ _) hl
    refine zK0 ⟨⟨tf.mono (by omega),ts⟩,zGc _ fun t ht=> ?_,by simp [zcy,zbk]⟩
    simp only [zcy,qh] at ht;subst ht;refine zYX ⟨by simp,by simp⟩ (fun g hg=> ?_) (by simp)
    simp only [qh] at hg;subst hg;refine ⟨zbd5 (zW5 (zYm (by omega))) ⟨zp2,zp2⟩ ⟨by unfold zxB; trivial,by simp⟩ hf ⟨zSX _ fun w hw=> ?_,by omega⟩ ho hb,⟨by simp,by simp⟩⟩
    have hm:=h w (zKI hw).1;exact (zbbR w).2 ⟨hm.2,hm.1.2⟩
   | false=>
    cases f==0&&zP2 o (zee 0 b.Int) with
    | true=>exact ⟨zQS 1 (by omega),.inl rfl⟩
    | false=>exact ⟨zkg,.inl rfl⟩
theorem zF0 {l:yA} (h:∀ a∈l,okA a) (i:Nat):okA (l.getD i default):=by
 by_cases hi:i<l.length
 ·exact h _ (zu hi)
 ·rw [List.getD_eq_getElem?_getD,List.getElem?_eq_none (by omega)]; exact zkg
def okT (to:RowID→yC):Prop:=∀ r,zWk r→okA (to r)
variable {to}
mutual
theorem z6x (ht:okT to):∀ (x:At) (d:Nat),zgr x→zcY (zp d) x→GS (zeA to x)
 | ⟨k,r,a,f,i,o,b⟩=>fun d hw hi=>by
  have hw':=zpC hw;simp only at hw';obtain ⟨⟨ha,hal⟩,⟨hit,hil⟩,hb,hk,hr,hf,ho⟩:=hw';obtain ⟨⟨l1,l2,_⟩,f1,f2⟩:=hi;simp only at l1 l2 f1 f2;rw [zeA];by_cases hk0:k=0
  ·rw [if_pos hk0]; exact ht r hr
  ·rw [if_neg hk0];have hA:=zXO ht a d (fun x hx=>(zj1 ha x hx).1) f1
   refine zON hA fun xs has=> ?_
   have h0:=zF0 has.2 0;have h1:=zF0 has.2 1;split
   ·exact zOi (z6h h0 h1)
   ·split
    ·exact zOi (z5C h0)
    ·split
     ·exact zOi (z5M h0)
     ·have hI:=zSF ht i d (fun x hx=>(zid hit x hx).2.1) fun w hw=>(f2 w hw).2
      refine zON hI fun is his=> ?_
      refine zOi (zWK (by omega) (fun w hw=>⟨(his.2 w hw).1, ?_⟩) hf ho hb)
      obtain ⟨v,hv,e⟩:=(his.2 w hw).2;rw [← e]; exact (zid hit v hv).1
theorem zMX (ht:okT to):∀ (l:yD) (d:Nat),(∀ f∈l,zgr f.At∧zcY (zp d) f.At)→∀ p,okA p→GS (zdr to l p)
 | [],_,_,p,hp=>by rw [zdr]; exact hp
 | ⟨x,e⟩::r,d,h,p,hp=>by
  rw [zdr];have hx:=z6x ht x d (h ⟨x,e⟩ (by simp)).1 (h ⟨x,e⟩ (by simp)).2
  refine zON hx fun b hb=>zON (z4B hb _ p hp) fun q hq=> ?_
  exact zMX ht r d (fun f hf=>h f (by simp [hf])) q hq
theorem zT7 (ht:okT to):∀ (a:yC) (d:Nat),zgA a→(∀ t∈a,∀ f∈t.Fs,zcY (zp d) f.At)→∀ s,okA s→GS (zcr to a s)
 | [],_,_,_,s,hs=>by rw [zcr]; exact hs
 | ⟨c,fs⟩::r,d,hw,hi,s,hs=>by
  rw [zcr];have hwt:=ztX hw ⟨c,fs⟩ (by simp)
  have hp:=zMX ht fs d (fun f hf=>⟨(zru (zoA (zwY hwt).2.1 f hf)).1,hi ⟨c,fs⟩ (by simp) f hf⟩) (zxs c) (zbaq c)
  refine zON hp fun p hp=>zON (zOi (zDb hs hp)) fun q hq=> ?_
  exact zT7 ht r d (zGc _ fun t ht=>ztX hw t (by simp [ht])) (fun t ht=>hi t (by simp [ht])) q hq
theorem zXO (ht:okT to):∀ (l:yA) (d:Nat),(∀ a∈l,zgA a)→(∀ a∈l,zp d a)→GL l.length (zi0 to l)
 | [],_,_,_=>by rw [zi0]; exact ⟨rfl,fun a ha=>by cases ha⟩
 | a::r,d,h,hi=>by
  rw [zi0];have hf:=hi a (by simp)
  have h1:GS (zcr to a []):=by
   cases d with
   | zero=>exact hf.elim
   | succ d=>exact zT7 ht a d (h a (by simp)) (fun t ht f hf'=>(hf.2 t ht).2 f hf') [] zkg
  have h2:=zXO ht r d (fun b hb=>h b (by simp [hb])) (fun b hb=>hi b (by simp [hb]))
  revert h1 h2;cases zcr to a [] with
  | inl e=>exact fun h _=>h
  | inr b=>
   cases zi0 to r with
   | inl e=>exact fun _ h=>h
   | inr l=>
    intro h1 h2;refine ⟨by simp [h2.1],fun x hx=> ?_⟩
    rcases qd.1 hx with rfl | hx
    ·exact h1
    ·exact h2.2 x hx
theorem zSF (ht:okT to):∀ (l:yE) (d:Nat),(∀ w∈l,zgA w.Ann)→(∀ w∈l,zp d w.Ann)→GI l (zfB to l)
 | [],_,_,_=>by rw [zfB]; exact ⟨rfl,fun a ha=>by cases ha⟩
 | ⟨v,a⟩::r,d,h,hi=>by
  rw [zfB];have hf:zp d a:=hi ⟨v,a⟩ (by simp)
  have h1:GS (zcr to a []):=by
   cases d with
   | zero=>exact hf.elim
   | succ d=>exact zT7 ht a d (h ⟨v,a⟩ (by simp)) (fun t ht f hf'=>(hf.2 t ht).2 f hf') [] zkg
  have h2:=zSF ht r d (fun b hb=>h b (by simp [hb])) (fun b hb=>hi b (by simp [hb]))
  revert h1 h2;cases zcr to a [] with
  | inl e=>exact fun h _=>h
  | inr b=>
   cases zfB to r with
   | inl e=>exact fun _ h=>h
   | inr l=>
    intro h1 h2;refine ⟨by simp [h2.1],fun x hx=> ?_⟩
    rcases qd.1 hx with rfl | hx
    ·exact ⟨h1,⟨v,a⟩,by simp,rfl⟩
    ·obtain ⟨h3,w,hw,e⟩:=h2.2 x hx;exact ⟨h3,w,by simp [hw],e⟩
end
abbrev zQ5:=yG×Unit×Int×Unit
abbrev z5l:=(yC×Bool)⊕Unit
def zGL (l:yG) (i:Int) (id:RowID):Wy zQ5 (RowID×Unit) z5l:=.i (decide (i<Int.ofNat l.length)) (.i (decide (0≤i)&&decide (i<Int.ofNat l.length)) (.i ((l.getD i.toNat default).Row.Table==id.Table&&((l.getD i.toNat default).Row.Seq==id.Seq&&true)) (.i (decide (0≤i)&&decide (i<Int.ofNat l.length)) (.k (.inl ((l.getD i.toNat default).To,true))) .d) (.h (l,(),(IntKind.i64.wrap (i+1)),()) (id,()))) .d) (.k (.inr ()))
def z56 (x:zQ5) (y:RowID×Unit):=zGL x.1 x.2.2.1 y.1
def zFN (n:Nat) (l:yG) (i:Int) (id:RowID):=zH (z56) (.inl default) n (l,(),i,()) (id,())
def zU6 (l:yG) (id:RowID):Wy0 (yC×Bool):=.bn (zFN (l.length+Int.toNat 0+1) l 0 id) fun r0=>.i (isL r0) (.k ((getL r0).1,(getL r0).2)) (.k ([],false))
def zPa (l:yG) (id:RowID):=(zU6 l id).fin default
abbrev zUv:=yG×Unit×Unit×Int×Unit
abbrev zUs:=At×yA×Unit
abbrev z7q:=Int⊕(yG×At×yA)
abbrev zUQ:=yG×Unit×Unit×Unit×Int×Unit
abbrev zUR:=At×yA×yE×Unit
abbrev z7C:=Int⊕(At×yA×yE)
def zEy (zcJ:yC→yG→Bool×(yC×Int)) (l:yG) (i:Int) (x_:At) (args:yA):Wy zUv zUs z7q:=.i (decide (i<Int.ofNat x_.Ag.length)) (.i (decide (0≤i)&&decide (i<Int.ofNat x_.Ag.length)) (.bn (zcJ (x_.Ag.getD i.toNat default) l) fun r0=>.i (r0.2 != 0) (.k (.inl (r0.2))) (.i (decide ((args.length+[r0.1].length)*24≤zK)) (.h (l,(),(),(IntKind.i64.wrap (i+1)),()) (x_,(args++[r0.1]),())) .d)) .d) (.k (.inr (l,x_,args)))
def z33 (zcJ:yC→yG→Bool×(yC×Int)) (x:zUv) (y:zUs):=zEy zcJ x.1 x.2.2.2.1 y.1 y.2.1
def zEb (zcJ:yC→yG→Bool×(yC×Int)) (n:Nat) (l:yG) (i:Int) (x_:At) (args:yA):=zH (z33 zcJ) (.inl default) n (l,(),(),i,()) (x_,args,())
def zCL (zcJ:yC→yG→Bool×(yC×Int)) (l:yG) (i:Int) (x_:At) (args:yA) (items:yE):Wy zUQ zUR z7C:=.i (decide (i<Int.ofNat x_.Items.length)) (.i (decide (0≤i)&&decide (i<Int.ofNat x_.Items.length)) (.bn (zcJ (x_.Items.getD i.toNat default).Ann l) fun r2=>.i (r2.2 != 0) (.k (.inl (r2.2))) (.i (decide (0≤i)&&decide (i<Int.ofNat x_.Items.length)) (.i (decide ((items.length+[WO.mk (x_.Items.getD i.toNat default).Value r2.1].length)*56≤zK)) (.h (l,(),(),(),(IntKind.i64.wrap (i+1)),()) (x_,args,(items++[WO.mk (x_.Items.getD i.toNat default).Value r2.1]),())) .d) .d)) .d) (.k (.inr (x_,args,items)))
def z1R (zcJ:yC→yG→Bool×(yC×Int)) (x:zUQ) (y:zUR):=zCL zcJ x.1 x.2.2.2.2.1 y.1 y.2.1 y.2.2.1
def zCU (zcJ:yC→yG→Bool×(yC×Int)) (n:Nat) (l:yG) (i:Int) (x_:At) (args:yA) (items:yE):=zH (z1R zcJ) (.inl default) n (l,(),(),(),i,()) (x_,args,items,())
def zR9 (zcJ:yC→yG→Bool×(yC×Int)) (x_:At) (l:yG):Wy0 (yC×Int):=.i (x_.Kind==0) (.bn (zPa l x_.Row) fun r5=>.i (r5.2) (.k (r5.1,0)) (.bn (zDe x_.Row) fun r4=>.k (r4,0))) (.bn (zEb zcJ (l.length+Int.toNat 0+x_.Ag.length+x_.Items.length+0+1) l 0 (At.mk x_.Kind x_.Row x_.Ag x_.Func x_.Items x_.Op x_.Bd) []) fun r11=>.i (isL r11) (.k ([],getL r11)) (.bn (zCU zcJ ((getR r11).1.length+Int.toNat 0+(getR r11).2.1.Ag.length+(getR r11).2.1.Items.length+(getR r11).2.2.length+0+1) (getR r11).1 0 (At.mk (getR r11).2.1.Kind (getR r11).2.1.Row (getR r11).2.1.Ag (getR r11).2.1.Func (getR r11).2.1.Items (getR r11).2.1.Op (getR r11).2.1.Bd) (getR r11).2.2 []) fun r10=>.i (isL r10) (.k ([],getL r10)) (.i ((getR r10).1.Kind==1) (.i (decide ((0:Int)≤(0:Int))&&decide (0<Int.ofNat (getR r10).2.1.length)) (.i (decide ((0:Int)≤(1:Int))&&decide (1<Int.ofNat (getR r10).2.1.length)) (.bn (zPT ((getR r10).2.1.getD (Int.toNat 0) default) ((getR r10).2.1.getD (Int.toNat 1) default)) fun r6=>.k (r6.1,r6.2)) .d) .d) (.i ((getR r10).1.Kind==2) (.i (decide ((0:Int)≤(0:Int))&&decide (0<Int.ofNat (getR r10).2.1.length)) (.bn (zB2 ((getR r10).2.1.getD (Int.toNat 0) default)) fun r7=>.k (r7.1,r7.2)) .d) (.i ((getR r10).1.Kind==3) (.i (decide ((0:Int)≤(0:Int))&&decide (0<Int.ofNat (getR r10).2.1.length)) (.bn (zMq ((getR r10).2.1.getD (Int.toNat 0) default)) fun r8=>.k (r8.1,r8.2)) .d) (.bn (zKd (getR r10).1.Func (getR r10).2.2 (getR r10).1.Op (getR r10).1.Bd) fun r9=>.k (r9.1,r9.2)))))))
def zEX (zcJ:yC→yG→Bool×(yC×Int)) (x_:At) (l:yG):=(zR9 zcJ x_ l).fin default
abbrev zLQ:=yC×yG×yC×Int×yC×Int×yC×Int×Int×Unit
abbrev z1U:=yC×yG×yC×Int×yC×Int×Int
abbrev zMI:=yC×yG×yC×Int×yC×Int×Unit
abbrev z1C:=Int⊕(yC×yG×yC×Int×yC)
abbrev zLW:=yC×yG×yC×Int×Unit
abbrev z2e:=Int⊕yC
def zyK (zcD:At→yG→Bool×(yC×Int)) (a:yC) (l:yG) (out_:yC) (i:Int) (t:yC) (k:Int) (x_:yC) (e:Int) (n_:Int):Wy zLQ (Unit) z1U:=.i (decide (0≤i)&&decide (i<Int.ofNat a.length)) (.i (decide (0≤k)&&decide (k<Int.ofNat (a.getD i.toNat default).Fs.length)) (.i (decide (n_<((a.getD i.toNat default).Fs.getD k.toNat default).Exp)) (.i (e==0) (.bn (zXK t x_) fun r8=>.h (a,l,out_,i,(r8.1),k,x_,(r8.2),(IntKind.i64.wrap (n_+1)),()) ()) (.k (a,l,out_,i,t,k,e))) (.k (a,l,out_,i,t,k,e))) .d) .d
def zVs (zcD:At→yG→Bool×(yC×Int)) (x:zLQ) (y:Unit):=zyK zcD x.1 x.2.1 x.2.2.1 x.2.2.2.1 x.2.2.2.2.1 x.2.2.2.2.2.1 x.2.2.2.2.2.2.1 x.2.2.2.2.2.2.2.1 x.2.2.2.2.2.2.2.2.1
def zyM (zcD:At→yG→Bool×(yC×Int)) (n:Nat) (a:yC) (l:yG) (out_:yC) (i:Int) (t:yC) (k:Int) (x_:yC) (e:Int) (n_:Int):=zH (zVs zcD) default n (a,l,out_,i,t,k,x_,e,n_,()) ()
def zAE (zcD:At→yG→Bool×(yC×Int)) (a:yC) (l:yG) (out_:yC) (i:Int) (t:yC) (k:Int):Wy zMI (Unit) z1C:=.i (decide (0≤i)&&decide (i<Int.ofNat a.length)) (.i (decide (k<Int.ofNat (a.getD i.toNat default).Fs.length)) (.i (decide (0≤i)&&decide (i<Int.ofNat a.length)) (.i (decide (0≤k)&&decide (k<Int.ofNat (a.getD i.toNat default).Fs.length)) (.bn (zcD (At.mk ((a.getD i.toNat default).Fs.getD k.toNat default).At.Kind ((a.getD i.toNat default).Fs.getD k.toNat default).At.Row ((a.getD i.toNat default).Fs.getD k.toNat default).At.Ag ((a.getD i.toNat default).Fs.getD k.toNat default).At.Func ((a.getD i.toNat default).Fs.getD k.toNat default).At.Items ((a.getD i.toNat default).Fs.getD k.toNat default).At.Op ((a.getD i.toNat default).Fs.getD k.toNat default).At.Bd) l) fun r11=>.bn (zyM zcD ((a.length+l.length+out_.length+i.toNat +t.length+k.toNat +r11.1.length+r11.2.toNat +Int.toNat 0+1)+zb2 a+zb2 out_+zb2 t+zb2 r11.1) a l out_ i t k r11.1 r11.2 0) fun r10=>.i (r10.2.2.2.2.2.2 != 0) (.k (.inl (r10.2.2.2.2.2.2))) (.h ((r10.1),(r10.2.1),(r10.2.2.1),(r10.2.2.2.1),(r10.2.2.2.2.1),(IntKind.i64.wrap (r10.2.2.2.2.2.1+1)),()) ())) .d) .d) (.k (.inr (a,l,out_,i,t)))) .d
def zYs (zcD:At→yG→Bool×(yC×Int)) (x:zMI) (y:Unit):=zAE zcD x.1 x.2.1 x.2.2.1 x.2.2.2.1 x.2.2.2.2.1 x.2.2.2.2.2.1
def zAa (zcD:At→yG→Bool×(yC×Int)) (n:Nat) (a:yC) (l:yG) (out_:yC) (i:Int) (t:yC) (k:Int):=zH (zYs zcD) (.inl default) n (a,l,out_,i,t,k,()) ()
def zAC (zcD:At→yG→Bool×(yC×Int)) (a:yC) (l:yG) (out_:yC) (i:Int):Wy zLW (Unit) z2e:=.i (decide (i<Int.ofNat a.length)) (.i (decide (0≤i)&&decide (i<Int.ofNat a.length)) (.bn (zB9 (a.getD i.toNat default).Cf) fun r16=>.bn (zAa zcD ((a.length+l.length+out_.length+i.toNat +r16.length+Int.toNat 0+1)+zb2 a+zb2 out_+zb2 r16) a l out_ i r16 0) fun r15=>.i (isL r15) (.k (.inl (getL r15))) (.bn (zXo (getR r15).2.2.1 (getR r15).2.2.2.2) fun r14=>.i (r14.2 != 0) (.k (.inl (r14.2))) (.h ((getR r15).1,(getR r15).2.1,(r14.1),(IntKind.i64.wrap ((getR r15).2.2.2.1+1)),()) ()))) .d) (.k (.inr out_))
def zWl (zcD:At→yG→Bool×(yC×Int)) (x:zLW) (y:Unit):=zAC zcD x.1 x.2.1 x.2.2.1 x.2.2.2.1
def zAp (zcD:At→yG→Bool×(yC×Int)) (n:Nat) (a:yC) (l:yG) (out_:yC) (i:Int):=zH (zWl zcD) (.inl default) n (a,l,out_,i,()) ()
def zJL (zcD:At→yG→Bool×(yC×Int)) (a:yC) (l:yG):Wy0 (yC×Int):=.bn (zAp zcD ((a.length+l.length+0+Int.toNat 0+1)+zb2 a+zb2 []) a l [] 0) fun r20=>.i (isL r20) (.k ([],getL r20)) (.k (getR r20,0))
def zyV (zcD:At→yG→Bool×(yC×Int)) (a:yC) (l:yG):=(zJL zcD a l).fin default
def zD5:Nat→(yC→yG→Bool×(yC×Int))×(At→yG→Bool×(yC×Int))
 | 0=>(fun _ _=>(false,default),fun _ _=>(false,default))
 | n+1=>(zyV ((zD5 n).2),zEX ((zD5 n).1))
def zza (n:Nat):yC→yG→Bool×(yC×Int):=(zD5 n).1
def zEd (n:Nat):At→yG→Bool×(yC×Int):=(zD5 n).2
theorem zWD (n:Nat):zza (n+1)=zyV (zEd n):=rfl
theorem z3I (n:Nat):zEd (n+1)=zEX (zza n):=rfl
def zU1:yC→yG→Bool×(yC×Int):=zza 1000
abbrev zFI:=yC×yG×Int×Unit
abbrev zVH:=Int⊕(yC×yG)
def zyy (a:yC) (l:yG) (i:Int):Wy zFI (Unit) zVH:=.i (decide (i<Int.ofNat l.length)) (.i (decide (0≤i)&&decide (i<Int.ofNat l.length)) (.bn (zfS (l.getD i.toNat default).To) fun r0=>.i (!r0) (.k (.inl 1)) (.h (a,l,(IntKind.i64.wrap (i+1)),()) ())) .d) (.k (.inr (a,l)))
def zV3 (x:zFI) (y:Unit):=zyy x.1 x.2.1 x.2.2.1
def zyP (n:Nat) (a:yC) (l:yG) (i:Int):=zH (zV3) (.inl default) n (a,l,i,()) ()
def zH8 (a:yC) (l:yG):Wy0 (yC×Int):=.bn (zfS a) fun r4=>.i (!r4) (.k ([],1)) (.bn (zyP (a.length+l.length+Int.toNat 0+1) a l 0) fun r3=>.i (isL r3) (.k ([],getL r3)) (.bn (zU1 (getR r3).1 (getR r3).2) fun r2=>.k (r2.1,r2.2)))
def zM9 (a:yC) (l:yG):=(zH8 a l).fin default
def toA:yG→RowID→yC
 | [],r=>zub r
 | b::l,r=>if b.Row=r then b.To else toA l r
def okB (l:yG):Prop:=l.length≤1000∧∀ b∈l,okA b.To
theorem zbdZ:∀ {l:yG},(∀ b∈l,okA b.To)→okT (toA l)
 | [],_,r,hr=>by rw [toA]; exact zbhd hr
 | b::l,h,r,hr=>by
  rw [toA];split
  ·exact h b (by simp)
  ·exact zbdZ (fun c hc=>h c (by simp [hc])) r hr
theorem zbbN (a b:RowID):(a.Table==b.Table&&(a.Seq==b.Seq&&true))=decide (a=b):=by
 obtain ⟨t,s⟩:=a; obtain ⟨t',s'⟩:=b;rw [Bool.and_true,zgv,zgv, ← Bool.decide_and];congr 1;simp
theorem zbfh (a b:RowID):(a.Table==b.Table&&a.Seq==b.Seq)=decide (a=b):=by rw [← zbbN,Bool.and_true]
theorem zbbt:∀ (l:yG) (r:RowID) (i:Nat),(ixf (fun b=>decide (b.Row=r)) l i= -1∧toA l r=zub r)∨∃ j,j<l.length∧ixf (fun b=>decide (b.Row=r)) l i=((i+j:Nat):Int)∧toA l r=(l.getD j default).To
 | [],r,i=>.inl ⟨rfl,rfl⟩
 | b::l,r,i=>by
  rw [ixf,toA];by_cases h:b.Row=r
  ·rw [decide_eq_true h,cond_true,if_pos h];exact .inr ⟨0,by simp,rfl,rfl⟩
  ·rw [decide_eq_false h,cond_false,if_neg h];rcases zbbt l r (i+1) with ⟨h1,h2⟩ | ⟨j,h1,h2,h3⟩
   ·exact .inl ⟨h1,h2⟩
   ·exact .inr ⟨j+1,by simp; omega,by rw [h2]; congr 1; omega,h3⟩
theorem zbil {l:yG} (h:okB l) (r:RowID):zhW r l=(true,toA l r):=by
 unfold zhW zxV
 have hi:zcz l r=(true,ixf (fun b=>decide (b.Row=r)) l 0):=by
  have e:zcz l r=IH (fun (g:RowID×Unit) x=>zf5 x g.1) (l.length+(Int.ofNat l.length).toNat +Int.toNat (0:Int)+(1:Nat)) (r,()) l:=rfl
  rw [e]
  exact zbfr _ _ _ _ _ (by have:=h.1; omega) (fun x _=>by
   unfold zf5 zuL;rw [Wy.fin_k,zbbN]) (by omega)
 rw [Wy.fin_bn,hi];rcases zbbt l r 0 with ⟨h1,h2⟩ | ⟨j,h1,h2,h3⟩
 ·rw [h1,h2];simp only [cond_true,Wy.fin_i,Wy.fin_bn,Wy.fin_k,(zbdh r).1];rfl
 ·rw [Nat.zero_add] at h2;rw [h2,h3];have hm:=h.2 _ (zu h1);have e1:decide ((j:Int)≥(0:Int))=true:=by simp
  simp only [cond_true,Wy.fin_i,Wy.fin_bn,Wy.fin_k,e1,tT,h1,zHb hm.1.1 (show (12:Nat)≤100 by omega)]
theorem zbfm {l:yG} (h:okB l) (r:RowID):∃ b q,zPa l r=(true,(b,q))∧((q=true∧b=toA l r)∨(q=false∧toA l r=zub r)):=by
 have key:∀ (n i:Nat),l.length<i+n→i≤l.length→∃ x,zFN n l i r=(true,x)∧((x=.inl (toA (l.drop i) r,true))∨(x=.inr ()∧toA (l.drop i) r=zub r)):=by
  intro n;induction n with
  | zero=>intro i h1 h2; omega
  | succ n ih=>
   intro i h1 h2;have hlen:=h.1;show ∃ x,(zGL l i r).ev (fun x y=>zFN n x.1 x.2.2.1 y.1) (fun r=>(true,r)) (false,.inl default)=(true,x)∧_
   unfold zGL;by_cases hi:i<l.length
   ·simp only [Wy.ev_i,Wy.ev_k,Wy.ev_h,Wy.ev_bn,Wy.ev_d,tT,hi,zbfh];rw [zbG hi,toA];by_cases hr:(l.getD i default).Row=r
    ·rw [decide_eq_true hr,if_pos hr,cond_true];exact ⟨_,rfl,.inl rfl⟩
    ·rw [decide_eq_false hr,if_neg hr,cond_false,zV (by omega)]
     exact ih (i+1) (by omega) (by omega)
   ·simp only [Wy.ev_i,Wy.ev_k,Wy.ev_h,Wy.ev_bn,Wy.ev_d,tT,hi];rw [zdd hi];exact ⟨_,rfl,.inr ⟨rfl,rfl⟩⟩
 obtain ⟨x,h1,h2⟩:=key (l.length+Int.toNat (0:Int)+(1:Nat)) 0 (by omega) (by omega)
 unfold zPa zU6;rw [show ((0:Nat):Int)=(0:Int) from rfl] at h1
 rw [Wy.fin_bn,h1];rw [List.drop_zero] at h2;rcases h2 with rfl | ⟨rfl,h2⟩
 ·exact ⟨_,_,rfl,.inl ⟨rfl,rfl⟩⟩
 ·exact ⟨_,_,rfl,.inr ⟨rfl,h2⟩⟩
def RS (s:Int⊕yC) (e:Int) (p:yC):Prop:=match s with
 | .inl x=>e=x∧x≠0
 | .inr q=>e=0∧p=q
theorem zbfD (r:yC×Int):RS (opS r) r.2 r.1:=by
 unfold opS;by_cases h:r.2=0
 ·rw [if_pos h]; exact ⟨h,rfl⟩
 ·rw [if_neg h]; exact ⟨rfl,h⟩
theorem z82 (b:yC) (s:Int⊕yC):sbd s (zzY b 0)=s:=by cases s <;>rfl
section
variable (g:At→yG→Bool×(yC×Int)) (to:yG)
theorem zbcQ (b:yC) (hb:okA b) (t16:yC) (t17 t18:Int) (t26:yD) (t27 t28:Int) (N:Nat) (hN:N≤1000000) (sum:yC):
  ∀ (n i:Nat) (e:Int) (p:yC) (s:Int⊕yC),N<i+n→i≤N→GS s→RS s e p→∃ e' p',zqK g n to b e t16 t17 t18 t26 t27 t28 N i sum p=(true,(to,e',t16,t17,t18,t26,t27,t28,sum,p'))∧RS (sbd s (zzY b (N - i))) e' p'
 | 0,i,e,p,s,h1,h2,_,_=>by omega
 | n+1,i,e,p,s,h1,h2,hs,hr=>by
  show ∃ e' p',(zqI g to b e t16 t17 t18 t26 t27 t28 N i sum p).ev (fun x y=>zqK g n x.1.1.1 x.2.2.2.1 x.2.2.2.2.1 x.2.2.2.2.2.1 x.2.2.2.2.2.2.1 x.2.2.2.2.2.2.2.1 x.2.2.2.2.2.2.2.2.1 x.2.2.2.2.2.2.2.2.2.1 x.2.2.2.2.2.2.2.2.2.2.1 x.2.2.2.2.2.2.2.2.2.2.2.1 x.2.2.2.2.2.2.2.2.2.2.2.2.1 y.1 y.2.1) (fun r=>(true,r)) (false,default)=_∧_
  unfold zqI;by_cases hi:i<N
  ·have hk:N - i=(N - (i+1))+1:=by omega
   cases s with
   | inl x=>
    obtain ⟨rfl,hx⟩:=hr;have he:(e==(0:Int))=false:=by simp [hx]
    simp only [Wy.ev_i,Wy.ev_k,Wy.ev_h,Wy.ev_bn,Wy.ev_d,zB8,hi,decide_true,cond_true,he,cond_false,zV (show i<4611686018427387904 by omega)]
    exact zbcQ b hb t16 t17 t18 t26 t27 t28 N hN sum n (i+1) e p (.inl e) (by omega) (by omega) hs ⟨rfl,hx⟩
   | inr q=>
    obtain ⟨rfl,rfl⟩:=hr;have hp:okA p:=hs;simp only [Wy.ev_i,Wy.ev_k,Wy.ev_h,Wy.ev_bn,Wy.ev_d,zB8,hi,decide_true,cond_true,(zbap hp hb).1,zV (show i<4611686018427387904 by omega),show ((0:Int)==0)=true from rfl]
    rw [hk];exact zbcQ b hb t16 t17 t18 t26 t27 t28 N hN sum n (i+1) (ze1 p b).2 (ze1 p b).1 (opS (ze1 p b)) (by omega) (by omega) (zOi (zRV hp hb)) (zbfD _)
  ·have hk:N - i=0:=by omega
   simp only [Wy.ev_i,Wy.ev_k,zB8,hi,decide_false,cond_false];rw [hk,z82];exact ⟨e,p,rfl,hr⟩
def AG (l:yD):Prop:=∀ f∈l,(g f.At to=(true,ofS (zeA (toA to) f.At))∧GS (zeA (toA to) f.At))∧0≤f.Exp∧f.Exp≤1000000
theorem zbda {s:Int⊕yC} (h:GS s):okA (ofS s).1:=by
 cases s with
 | inl e=>exact zkg
 | inr a=>exact h
theorem z96 {s:Int⊕yC} (h:GS s) (p:yC):RS (sbd s fun _=>.inr p) (ofS s).2 p:=by
 cases s with
 | inl e=>exact ⟨rfl,h⟩
 | inr a=>exact ⟨rfl,rfl⟩
theorem zbad {s:Int⊕yC} (h:GS s) {p:yC} (hp:okA p):GS (sbd s fun _=>.inr p):=zON h fun _ _=>hp
theorem z6N {s:Int⊕yC} (p:yC) (N:Nat):sbd (sbd s fun _=>.inr p) (zzY (ofS s).1 N)=sbd s fun b=>zzY b N p:=by
 cases s <;>rfl
theorem zbhX (l:yD) (hl:l.length≤1000000) (hg:AG g to l) (t16:yC) (t17 t18:Int) (sum:yC):
  ∀ (n i:Nat) (p:yC),l.length<i+n→i≤l.length→okA p→zst g n to t16 t17 t18 l l.length i sum p=(true,match zdr (toA to) (l.drop i) p with
   | .inl e=>.inl e
   | .inr q=>.inr (to,t16,t17,t18,sum,q))
 | 0,i,p,h1,h2,_=>by omega
 | n+1,i,p,h1,h2,hp=>by
  show (zsy g to t16 t17 t18 l l.length i sum p).ev (fun x y=>zst g n x.1.1.1 x.2.2.2.1 x.2.2.2.2.1 x.2.2.2.2.2.1 x.2.2.2.2.2.2.1 x.2.2.2.2.2.2.2.1 x.2.2.2.2.2.2.2.2.1 y.1 y.2.1) (fun r=>(true,r)) (false,.inl default)=_
  unfold zsy;by_cases hi:i<l.length
  ·obtain ⟨⟨hf,hG⟩,e0,e1⟩:=hg _ (zu hi);obtain ⟨N,hN⟩:∃ N:Nat,(l.getD i default).Exp=(N:Int):=⟨_,(Int.toNat_of_nonneg e0).symm⟩
   obtain ⟨e',p',h11,hrs⟩:=zbcQ g to (ofS (zeA (toA to) (l.getD i default).At)).1 (zbda hG) t16 t17 t18 l l.length i N (by omega) sum
    (to.length+(ofS (zeA (toA to) (l.getD i default).At)).1.length+(ofS (zeA (toA to) (l.getD i default).At)).2.toNat +t16.length+t17.toNat +t18.toNat +l.length+(l.length:Int).toNat +(i:Int).toNat +(N:Int).toNat +Int.toNat (0:Int)+sum.length+p.length+(1:Nat)) 0 _ p _ (by omega) (by omega) (zbad hG hp) (z96 hG p)
   rw [z6N,Nat.sub_zero] at hrs;rw [show ((0:Nat):Int)=(0:Int) from rfl] at h11
   rw [zbG hi,zFO,hN,Int.toNat_natCast];simp only [Wy.ev_i,Wy.ev_k,Wy.ev_h,Wy.ev_bn,Wy.ev_d,tT,hi,At.eta,hf,hN,zvI];rw [show Int.toNat (l.length:Int)=l.length from Int.toNat_natCast _,show Int.toNat (i:Int)=i from Int.toNat_natCast _,show Int.toNat (N:Int)=N from Int.toNat_natCast _] at h11
   rw [h11];have hS:=hG;revert hrs hS;cases zeA (toA to) (l.getD i default).At with
   | inl x=>
    rintro ⟨rfl,hx⟩ _
    simp [hx,zC3]
   | inr b=>
    intro hrs hb;simp only [zcc] at hrs ⊢;have hq:=z4B (b:=b) hb N p hp;revert hrs hq;cases zzY b N p with
    | inl x=>
     rintro ⟨rfl,hx⟩ _
     simp [hx,zC3]
    | inr q=>
     rintro ⟨rfl,rfl⟩ hq
     simp only [zcc,decide_true,Bool.not_true,cond_true,cond_false,zV (show i<4611686018427387904 by omega)]
     exact zbhX l hl hg t16 t17 t18 sum n (i+1) p' (by omega) (by omega) hq
  ·simp only [Wy.ev_i,Wy.ev_k,Wy.ev_h,Wy.ev_bn,Wy.ev_d,tT,hi];rw [zdd hi,zIz]
theorem zbhU (l:yC) (hl:l.length≤1000000) (hg:∀ t∈l,t.Fs.length≤1000000∧AG g to t.Fs) (hok:∀ t∈l,∀ p,okA p→GS (zdr (toA to) t.Fs p)):
  ∀ (n i:Nat) (s:yC),l.length<i+n→i≤l.length→okA s→zsW g n to l l.length i s=(true,zcr (toA to) (l.drop i) s)
 | 0,i,s,h1,h2,_=>by omega
 | n+1,i,s,h1,h2,hs=>by
  show (zs6 g to l l.length i s).ev (fun x y=>zsW g n x.1.1.1 x.2.2.1 x.2.2.2.1 x.2.2.2.2.1 y.1) (fun r=>(true,r)) (false,.inl default)=_
  unfold zs6;by_cases hi:i<l.length
  ·have ht:=hg _ (zu hi);have hc:=zbaq (l.getD i default).Cf;have h7:=zbhX g to (l.getD i default).Fs ht.1 ht.2 l l.length i s (to.length+l.length+(l.length:Int).toNat +(i:Int).toNat +(l.getD i default).Fs.length+((l.getD i default).Fs.length:Int).toNat +Int.toNat (0:Int)+s.length+(zxs (l.getD i default).Cf).length+(1:Nat)) 0 (zxs (l.getD i default).Cf) (by omega) (by omega) hc
   rw [show ((0:Nat):Int)=(0:Int) from rfl,List.drop_zero] at h7
   simp only [Int.toNat_natCast] at h7;rw [zbG hi,zSz];simp only [Wy.ev_i,Wy.ev_k,Wy.ev_h,Wy.ev_bn,Wy.ev_d,tT,hi,(z8v _).1];rw [h7];have hS:=hok _ (zu hi) _ hc;revert hS;cases zdr (toA to) (l.getD i default).Fs (zxs (l.getD i default).Cf) with
   | inl e=>intro _; rfl
   | inr p=>
    intro hp;have hp:okA p:=hp;simp only [zcc,isL,getR,cond_true,cond_false,(z9s hs hp).1,zvI];have hG:=zDb hs hp;unfold opS;by_cases he:(ze5 s p).2=0
    ·rw [if_pos he,decide_eq_true he,zcc,zV (show i<4611686018427387904 by omega)]
     exact zbhU l hl hg hok n (i+1) _ (by omega) (by omega) hG.1
    ·rw [if_neg he,decide_eq_false he]; rfl
  ·simp only [Wy.ev_i,Wy.ev_k,Wy.ev_h,Wy.ev_bn,Wy.ev_d,tT,hi];rw [zdd hi,zXI]
theorem zbiL (a:yC) (hl:a.length≤1000000) (hg:∀ t∈a,t.Fs.length≤1000000∧AG g to t.Fs) (hok:∀ t∈a,∀ p,okA p→GS (zdr (toA to) t.Fs p)):zlw g a to=(true,ofS (zcr (toA to) a [])):=by
 unfold zlw zB7;have h3:=zbhU g to a hl hg hok (to.length+a.length+(Int.ofNat a.length).toNat +Int.toNat (0:Int)+(0:Nat)+(1:Nat)) 0 [] (by omega) (by omega) zkg
 rw [show ((0:Nat):Int)=(0:Int) from rfl,List.drop_zero] at h3
 rw [Wy.fin_bn,show Int.ofNat a.length=(a.length:Int) from rfl] at *
 rw [h3];cases zcr (toA to) a [] <;>rfl
end
section
variable (g:yC→yG→Bool×(yC×Int)) (to:yG)
theorem zbhj (x:At) (l:yA) (hl:l.length≤1000000) (hg:∀ a∈l,g a to=(true,ofS (zcr (toA to) a []))∧GS (zcr (toA to) a [])):
  ∀ (n i:Nat) (xs:yA),l.length<i+n→i≤l.length→xs.length≤i→zjv g n to l l.length i x xs=(true,match zi0 (toA to) (l.drop i) with
   | .inl e=>.inl e
   | .inr ys=>.inr (to,x,xs++ys))
 | 0,i,xs,h1,h2,_=>by omega
 | n+1,i,xs,h1,h2,hx=>by
  have hreach:zK=70368744177664:=rfl;show (znd g to l l.length i x xs).ev (fun x y=>zjv g n x.1.1.1 x.2.2.2.1 x.2.2.2.2.1 x.2.2.2.2.2.1 y.1 y.2.1) (fun r=>(true,r)) (false,.inl default)=_
  unfold znd;by_cases hi:i<l.length
  ·obtain ⟨hf,hG⟩:=hg _ (zu hi);have hb:decide ((xs.length+1)*24≤zK)=true:=by simp only [qe]; omega
   rw [zbG hi,zyl];simp only [Wy.ev_i,Wy.ev_k,Wy.ev_h,Wy.ev_bn,Wy.ev_d,tT,hi,hf,zvI,List.length_singleton,hb];revert hG;cases zcr (toA to) (l.getD i default) [] with
   | inl e=>intro he; simp [ofS,show e≠0 from he,zC3]
   | inr b=>
    intro _;simp only [ofS,decide_true,Bool.not_true,cond_false,zcc,zV (show i<4611686018427387904 by omega)]
    rw [zbhj x l hl hg n (i+1) (xs++[b]) (by omega) (by omega) (by simp; omega)]
    cases zi0 (toA to) (l.drop (i+1)) with
    | inl e=>rfl
    | inr ys=>simp [zcc]
  ·simp only [Wy.ev_i,Wy.ev_k,Wy.ev_h,Wy.ev_bn,Wy.ev_d,tT,hi];rw [zdd hi,zA8]; simp
theorem zbfp (x:At) (l:yE) (hl:l.length≤1000000) (hg:∀ w∈l,g w.Ann to=(true,ofS (zcr (toA to) w.Ann []))∧GS (zcr (toA to) w.Ann [])):
  ∀ (n i:Nat) (xs:yE),l.length<i+n→i≤l.length→xs.length≤i→ziB g n to l l.length i x xs=(true,match zfB (toA to) (l.drop i) with
   | .inl e=>.inl e
   | .inr ys=>.inr (x,xs++ys))
 | 0,i,xs,h1,h2,_=>by omega
 | n+1,i,xs,h1,h2,hx=>by
  have hreach:zK=70368744177664:=rfl;show (zmK g to l l.length i x xs).ev (fun x y=>ziB g n x.1.1.1 x.2.2.2.1 x.2.2.2.2.1 x.2.2.2.2.2.1 y.1 y.2.1) (fun r=>(true,r)) (false,.inl default)=_
  unfold zmK;by_cases hi:i<l.length
  ·obtain ⟨hf,hG⟩:=hg _ (zu hi);have hb:decide ((xs.length+1)*56≤zK)=true:=by simp only [qe]; omega
   rw [zbG hi,zMm];simp only [Wy.ev_i,Wy.ev_k,Wy.ev_h,Wy.ev_bn,Wy.ev_d,tT,hi,hf,zvI,List.length_singleton,hb];revert hG;cases zcr (toA to) (l.getD i default).Ann [] with
   | inl e=>intro he; simp [ofS,show e≠0 from he,zC3]
   | inr b=>
    intro _;simp only [ofS,decide_true,Bool.not_true,cond_false,zcc,zV (show i<4611686018427387904 by omega)]
    rw [zbfp x l hl hg n (i+1) (xs++[WO.mk (l.getD i default).Value b]) (by omega) (by omega) (by simp; omega)]
    cases zfB (toA to) (l.drop (i+1)) with
    | inl e=>rfl
    | inr ys=>simp [zcc]
  ·simp only [Wy.ev_i,Wy.ev_k,Wy.ev_h,Wy.ev_bn,Wy.ev_d,tT,hi];rw [zdd hi,zGP]; simp
structure XG (x:At):Prop where
 va:zos x=true
 lens:x.Ag.length≤1000000∧x.Items.length<20
 ga:∀ a∈x.Ag,g a to=(true,ofS (zcr (toA to) a []))∧GS (zcr (toA to) a [])
 gi:∀ w∈x.Items,g w.Ann to=(true,ofS (zcr (toA to) w.Ann []))∧GS (zcr (toA to) w.Ann [])
 sa:GL x.Ag.length (zi0 (toA to) x.Ag)
 si:GI x.Items (zfB (toA to) x.Items)
 wf:zgr x
theorem zba0 {f o:Int} {i l:yE} {b:Value} (h20:i.length<20) (hl:l.length=i.length∧∀ w∈l,okA w.Ann∧∃ v∈i,v.Value=w.Value):znV f l o b=(true,zzp f l o b)∧zKd f l o b=(true,zzp f l o b):=by
 have h1:∀ w∈l,zp 12 w.Ann∧zN w.Ann≤4611686018427387904:=fun w hw=>(hl.2 w hw).1.1
 have h2:(l.filter zlT).length<20:=Nat.lt_of_le_of_lt (List.length_filter_le _ _) (by omega)
 exact ⟨zbfL f l o b (by omega) h1 (by omega) h2,zbeT f l o b (by omega) h1 (by omega)⟩
theorem z6G {x:At} (h:zos x=true):(x.Kind=1→x.Ag.length=2)∧(x.Kind=2∨x.Kind=3→x.Ag.length=1):=by
 cases zSO.1 h <;>simp
theorem zbfY (hto:okB to) (x:At) (h:XG g to x):zhY g x to=(true,ofS (zeA (toA to) x)):=by
 unfold zhY zxM;have h5:=zbhj g to x x.Ag h.lens.1 h.ga (to.length+x.Ag.length+(Int.ofNat x.Ag.length).toNat +Int.toNat (0:Int)+x.Ag.length+x.Items.length+(0:Nat)+(1:Nat)) 0 [] (by omega) (by omega) (by simp)
 rw [show ((0:Nat):Int)=(0:Int) from rfl,List.drop_zero] at h5
 have h5':zjv g (to.length+x.Ag.length+(Int.ofNat x.Ag.length).toNat +Int.toNat (0:Int)+x.Ag.length+x.Items.length+(0:Nat)+(1:Nat)) to x.Ag (Int.ofNat x.Ag.length) 0 x []=_:=h5;have h21:=zbfp g to x x.Items (by have:=h.lens.2; omega) h.gi (to.length+x.Items.length+(Int.ofNat x.Items.length).toNat +Int.toNat (0:Int)+x.Ag.length+x.Items.length+(0:Nat)+(1:Nat)) 0 [] (by omega) (by omega) (by simp)
 rw [show ((0:Nat):Int)=(0:Int) from rfl,List.drop_zero] at h21
 have h21':ziB g (to.length+x.Items.length+(Int.ofNat x.Items.length).toNat +Int.toNat (0:Int)+x.Ag.length+x.Items.length+(0:Nat)+(1:Nat)) to x.Items (Int.ofNat x.Items.length) 0 x []=_:=h21;rw [At.eta,zW6];have b0:=zgv x.Kind 0;have b1:=zgv x.Kind 1;have b2:=zgv x.Kind 2;have b3:=zgv x.Kind 3;simp only [Wy.fin_i,Wy.fin_bn,Wy.fin_k,zbil hto,cond_true,h5',List.nil_append];by_cases hk0:x.Kind=0
 ·rw [b0,decide_eq_true hk0,if_pos hk0]; rfl
 ·rw [b0,decide_eq_false hk0,if_neg hk0,cond_false];have hA:=h.sa;have hlen:=z6G h.va;revert hA;cases zi0 (toA to) x.Ag with
  | inl e=>intro _; rfl
  | inr xs=>
   intro hxs;have hxl:xs.length=x.Ag.length∧∀ a∈xs,okA a:=hxs;have o0:=zF0 hxl.2 0;have o1:=zF0 hxl.2 1;simp only [isL,getR,cond_false,zcc];by_cases hk1:x.Kind=1
   ·have:=hlen.1 hk1;rw [b1,decide_eq_true hk1,if_pos hk1];simp only [cond_true,show Int.toNat (0:Int)=0 from rfl,show Int.toNat (1:Int)=1 from rfl,(z9l o0 o1).1,zDy (z6h o0 o1).2]
    simp [hxl.1,this]
   ·rw [b1,decide_eq_false hk1,if_neg hk1,cond_false];by_cases hk2:x.Kind=2
    ·have:=hlen.2 (.inl hk2);rw [b2,decide_eq_true hk2,if_pos hk2];simp only [cond_true,show Int.toNat (0:Int)=0 from rfl,show Int.toNat (1:Int)=1 from rfl,(z8x o0).1,zDy (z5C o0).2]
     simp [hxl.1,this]
    ·rw [b2,decide_eq_false hk2,if_neg hk2,cond_false];by_cases hk3:x.Kind=3
     ·have:=hlen.2 (.inr hk3);rw [b3,decide_eq_true hk3,if_pos hk3];simp only [cond_true,show Int.toNat (0:Int)=0 from rfl,show Int.toNat (1:Int)=1 from rfl,(z6v o0).1,zDy (z5M o0).2]
      simp [hxl.1,this]
     ·rw [b3,decide_eq_false hk3,if_neg hk3,cond_false,At.eta,h21'];have hI:=h.si;revert hI;cases zfB (toA to) x.Items with
      | inl e=>intro _; rfl
      | inr is=>
       intro his;have ht:=zba0 (f:=x.Func) (o:=x.Op) (b:=x.Bd) h.lens.2 his;simp only [cond_true,cond_false,List.nil_append,ht.1,zcc];have hw:=zpC h.wf;have hl:is.length=x.Items.length∧∀ w∈is,okA w.Ann∧∃ v∈x.Items,v.Value=w.Value:=his
       rw [zDy (zWK (by have:=h.lens.2; omega) (fun w hw'=>⟨(hl.2 w hw').1,by
        obtain ⟨v,hv,e⟩:=(hl.2 w hw').2;rw [← e]; exact (zid hw.2.1.1 v hv).1⟩) hw.2.2.2.2.2.1 hw.2.2.2.2.2.2 hw.2.2.1).2]
end
theorem z9U:∀ (l:yD) (k:Nat),k<l.length→(l.getD k default).Exp.toNat≤zIq l
 | [],k,h=>by simp at h
 | f::r,0,_=>by show f.Exp.toNat≤_; rw [zIq]; omega
 | f::r,k+1,h=>by
  have:=z9U r k (by simpa using h)
  show (r.getD k default).Exp.toNat≤_;rw [zIq]; omega
theorem z88:∀ (l:yC) (k:Nat),k<l.length→zIq (l.getD k default).Fs≤zb2 l
 | [],k,h=>by simp at h
 | f::r,0,_=>by show zIq f.Fs≤_; rw [zb2]; omega
 | f::r,k+1,h=>by
  have:=z88 r k (by simpa using h)
  show zIq (r.getD k default).Fs≤_;rw [zb2]; omega
section
variable (g:At→yG→Bool×(yC×Int)) (l:yG)
theorem zbfx (a:yC) (i k:Nat) (hi:i<a.length) (hk:k<(a.getD i default).Fs.length) (out b:yC) (hb:okA b) (N:Nat) (hN:((a.getD i default).Fs.getD k default).Exp=N) (hN':N≤1000000):
  ∀ (n j:Nat) (e:Int) (p:yC) (s:Int⊕yC),N<j+n→j≤N→GS s→RS s e p→∃ e' p',zyM g n a l out i p k b e j=(true,(a,l,out,(i:Int),p',(k:Int),e'))∧RS (sbd s (zzY b (N - j))) e' p'
 | 0,j,e,p,s,h1,h2,_,_=>by omega
 | n+1,j,e,p,s,h1,h2,hs,hr=>by
  show ∃ e' p',(zyK g a l out i p k b e j).ev (fun x y=>zyM g n x.1 x.2.1 x.2.2.1 x.2.2.2.1 x.2.2.2.2.1 x.2.2.2.2.2.1 x.2.2.2.2.2.2.1 x.2.2.2.2.2.2.2.1 x.2.2.2.2.2.2.2.2.1) (fun r=>(true,r)) (false,default)=_∧_
  unfold zyK;simp only [Wy.ev_i,Wy.ev_k,Wy.ev_h,Wy.ev_bn,Wy.ev_d,tT,hi,hk,hN];by_cases hj:j<N
  ·have hk:N - j=(N - (j+1))+1:=by omega
   cases s with
   | inl x=>
    obtain ⟨rfl,hx⟩:=hr;have he:(e==(0:Int))=false:=by simp [hx]
    simp only [hj,decide_true,cond_true,he,cond_false];exact ⟨e,p,rfl,rfl,hx⟩
   | inr q=>
    obtain ⟨rfl,rfl⟩:=hr;have hp:okA p:=hs;simp only [hj,decide_true,cond_true,(zbap hp hb).2,zV (show j<4611686018427387904 by omega),show ((0:Int)==0)=true from rfl]
    rw [hk];exact zbfx a i _ hi (by assumption) out b hb N hN hN' n (j+1) (ze1 p b).2 (ze1 p b).1 (opS (ze1 p b)) (by omega) (by omega) (zOi (zRV hp hb)) (zbfD _)
  ·have hk:N - j=0:=by omega
   simp only [hj,decide_false,cond_false];rw [hk,z82];exact ⟨e,p,rfl,hr⟩
theorem zbh4 (a:yC) (hal:a.length≤1000000) (i:Nat) (hi:i<a.length) (hl:(a.getD i default).Fs.length≤1000000) (hg:AG g l (a.getD i default).Fs) (out:yC):
  ∀ (n k:Nat) (p:yC),(a.getD i default).Fs.length<k+n→k≤(a.getD i default).Fs.length→okA p→zAa g n a l out i p k=(true,match zdr (toA l) ((a.getD i default).Fs.drop k) p with
   | .inl e=>.inl e
   | .inr q=>.inr (a,l,out,(i:Int),q))
 | 0,k,p,h1,h2,_=>by omega
 | n+1,k,p,h1,h2,hp=>by
  show (zAE g a l out i p k).ev (fun x y=>zAa g n x.1 x.2.1 x.2.2.1 x.2.2.2.1 x.2.2.2.2.1 x.2.2.2.2.2.1) (fun r=>(true,r)) (false,.inl default)=_
  unfold zAE;by_cases hk:k<(a.getD i default).Fs.length
  ·obtain ⟨⟨hf,hG⟩,e0,e1⟩:=hg _ (zu hk);obtain ⟨N,hN⟩:∃ N:Nat,((a.getD i default).Fs.getD k default).Exp=(N:Int):=⟨_,(Int.toNat_of_nonneg e0).symm⟩;have hsz:=Nat.le_trans (z9U _ k hk) (z88 a i hi);rw [hN,Int.toNat_natCast] at hsz
   obtain ⟨e',p',h11,hrs⟩:=zbfx g l a i k hi hk out (ofS (zeA (toA l) ((a.getD i default).Fs.getD k default).At)).1 (zbda hG) N hN (by omega)
    ((a.length+l.length+out.length+(i:Int).toNat +p.length+(k:Int).toNat +(ofS (zeA (toA l) ((a.getD i default).Fs.getD k default).At)).1.length+(ofS (zeA (toA l) ((a.getD i default).Fs.getD k default).At)).2.toNat +Int.toNat (0:Int)+(1:Nat))+zb2 a+zb2 out+zb2 p+zb2 (ofS (zeA (toA l) ((a.getD i default).Fs.getD k default).At)).1) 0 _ p _ (by omega) (by omega) (zbad hG hp) (z96 hG p)
   rw [z6N,Nat.sub_zero] at hrs;rw [show ((0:Nat):Int)=(0:Int) from rfl] at h11
   rw [zbG hk,zFO,hN,Int.toNat_natCast];simp only [Wy.ev_i,Wy.ev_k,Wy.ev_h,Wy.ev_bn,Wy.ev_d,tT,hi,hk,At.eta,hf,zvI];simp only [Int.toNat_natCast] at h11;rw [h11];have hS:=hG;revert hrs hS;cases zeA (toA l) ((a.getD i default).Fs.getD k default).At with
   | inl x=>
    rintro ⟨rfl,hx⟩ _
    simp [hx,zC3]
   | inr b=>
    intro hrs hb;simp only [zcc] at hrs ⊢;have hq:=z4B (b:=b) hb N p hp;revert hrs hq;cases zzY b N p with
    | inl x=>
     rintro ⟨rfl,hx⟩ _
     simp [hx,zC3]
    | inr q=>
     rintro ⟨rfl,rfl⟩ hq
     simp only [zcc,decide_true,Bool.not_true,cond_true,cond_false,zV (show k<4611686018427387904 by omega)]
     exact zbh4 a hal i hi hl hg out n (k+1) p' (by omega) (by omega) hq
  ·simp only [Wy.ev_i,Wy.ev_k,Wy.ev_h,Wy.ev_bn,Wy.ev_d,tT,hi,hk];rw [zdd hk,zIz]
theorem zbg1 (a:yC) (hal:a.length≤1000000) (hg:∀ t∈a,t.Fs.length≤1000000∧AG g l t.Fs) (hok:∀ t∈a,∀ p,okA p→GS (zdr (toA l) t.Fs p)):
  ∀ (n i:Nat) (s:yC),a.length<i+n→i≤a.length→okA s→zAp g n a l s i=(true,zcr (toA l) (a.drop i) s)
 | 0,i,s,h1,h2,_=>by omega
 | n+1,i,s,h1,h2,hs=>by
  show (zAC g a l s i).ev (fun x y=>zAp g n x.1 x.2.1 x.2.2.1 x.2.2.2.1) (fun r=>(true,r)) (false,.inl default)=_
  unfold zAC;by_cases hi:i<a.length
  ·have ht:=hg _ (zu hi);have hc:=zbaq (a.getD i default).Cf;have hsz:=szTs_get' a i hi;have h7:=zbh4 g l a hal i hi ht.1 ht.2 s ((a.length+l.length+s.length+(i:Int).toNat +(zxs (a.getD i default).Cf).length+Int.toNat (0:Int)+(1:Nat))+zb2 a+zb2 s+zb2 (zxs (a.getD i default).Cf)) 0 (zxs (a.getD i default).Cf) (by omega) (by omega) hc
   rw [show ((0:Nat):Int)=(0:Int) from rfl,List.drop_zero] at h7
   simp only [Int.toNat_natCast] at h7;rw [zbG hi,zSz];simp only [Wy.ev_i,Wy.ev_k,Wy.ev_h,Wy.ev_bn,Wy.ev_d,tT,hi,(z8v _).2];rw [h7];have hS:=hok _ (zu hi) _ hc;revert hS;cases zdr (toA l) (a.getD i default).Fs (zxs (a.getD i default).Cf) with
   | inl e=>intro _; rfl
   | inr p=>
    intro hp;have hp:okA p:=hp;simp only [zcc,isL,getR,cond_true,cond_false,(z9s hs hp).2,zvI];have hG:=zDb hs hp;unfold opS;by_cases he:(ze5 s p).2=0
    ·rw [if_pos he,decide_eq_true he,zcc,zV (show i<4611686018427387904 by omega)]
     exact zbg1 a hal hg hok n (i+1) _ (by omega) (by omega) hG.1
    ·rw [if_neg he,decide_eq_false he]; rfl
  ·simp only [Wy.ev_i,Wy.ev_k,Wy.ev_h,Wy.ev_bn,Wy.ev_d,tT,hi];rw [zdd hi,zXI]
theorem zbiE (a:yC) (hal:a.length≤1000000) (hg:∀ t∈a,t.Fs.length≤1000000∧AG g l t.Fs) (hok:∀ t∈a,∀ p,okA p→GS (zdr (toA l) t.Fs p)):zyV g a l=(true,ofS (zcr (toA l) a [])):=by
 unfold zyV zJL;have h3:=zbg1 g l a hal hg hok ((a.length+l.length+(0:Nat)+Int.toNat (0:Int)+(1:Nat))+zb2 a+zb2 []) 0 [] (by omega) (by omega) zkg
 rw [show ((0:Nat):Int)=(0:Int) from rfl,List.drop_zero] at h3
 rw [Wy.fin_bn,h3];cases zcr (toA l) a [] <;>rfl
end
section
variable (g:yC→yG→Bool×(yC×Int)) (l:yG)
theorem zbhJ (x:At) (hl:x.Ag.length≤1000000) (hg:∀ a∈x.Ag,g a l=(true,ofS (zcr (toA l) a []))∧GS (zcr (toA l) a [])):
  ∀ (n i:Nat) (xs:yA),x.Ag.length<i+n→i≤x.Ag.length→xs.length≤i→zEb g n l i x xs=(true,match zi0 (toA l) (x.Ag.drop i) with
   | .inl e=>.inl e
   | .inr ys=>.inr (l,x,xs++ys))
 | 0,i,xs,h1,h2,_=>by omega
 | n+1,i,xs,h1,h2,hx=>by
  have hreach:zK=70368744177664:=rfl;show (zEy g l i x xs).ev (fun x y=>zEb g n x.1 x.2.2.2.1 y.1 y.2.1) (fun r=>(true,r)) (false,.inl default)=_
  unfold zEy;by_cases hi:i<x.Ag.length
  ·obtain ⟨hf,hG⟩:=hg _ (zu hi);have hb:decide ((xs.length+1)*24≤zK)=true:=by simp only [qe]; omega
   rw [zbG hi,zyl];simp only [Wy.ev_i,Wy.ev_k,Wy.ev_h,Wy.ev_bn,Wy.ev_d,tT,hi,hf,zvI,List.length_singleton,hb];revert hG;cases zcr (toA l) (x.Ag.getD i default) [] with
   | inl e=>intro he; simp [ofS,show e≠0 from he,zC3]
   | inr b=>
    intro _;simp only [ofS,decide_true,Bool.not_true,cond_false,zcc,zV (show i<4611686018427387904 by omega)]
    rw [zbhJ x hl hg n (i+1) (xs++[b]) (by omega) (by omega) (by simp; omega)]
    cases zi0 (toA l) (x.Ag.drop (i+1)) with
    | inl e=>rfl
    | inr ys=>simp [zcc]
  ·simp only [Wy.ev_i,Wy.ev_k,Wy.ev_h,Wy.ev_bn,Wy.ev_d,tT,hi];rw [zdd hi,zA8]; simp
theorem zbfw (x:At) (as_:yA) (hl:x.Items.length≤1000000) (hg:∀ w∈x.Items,g w.Ann l=(true,ofS (zcr (toA l) w.Ann []))∧GS (zcr (toA l) w.Ann [])):
  ∀ (n i:Nat) (xs:yE),x.Items.length<i+n→i≤x.Items.length→xs.length≤i→zCU g n l i x as_ xs=(true,match zfB (toA l) (x.Items.drop i) with
   | .inl e=>.inl e
   | .inr ys=>.inr (x,as_,xs++ys))
 | 0,i,xs,h1,h2,_=>by omega
 | n+1,i,xs,h1,h2,hx=>by
  have hreach:zK=70368744177664:=rfl;show (zCL g l i x as_ xs).ev (fun x y=>zCU g n x.1 x.2.2.2.2.1 y.1 y.2.1 y.2.2.1) (fun r=>(true,r)) (false,.inl default)=_
  unfold zCL;by_cases hi:i<x.Items.length
  ·obtain ⟨hf,hG⟩:=hg _ (zu hi);have hb:decide ((xs.length+1)*56≤zK)=true:=by simp only [qe]; omega
   rw [zbG hi,zMm];simp only [Wy.ev_i,Wy.ev_k,Wy.ev_h,Wy.ev_bn,Wy.ev_d,tT,hi,hf,zvI,List.length_singleton,hb];revert hG;cases zcr (toA l) (x.Items.getD i default).Ann [] with
   | inl e=>intro he; simp [ofS,show e≠0 from he,zC3]
   | inr b=>
    intro _;simp only [ofS,decide_true,Bool.not_true,cond_false,zcc,zV (show i<4611686018427387904 by omega)]
    rw [zbfw x as_ hl hg n (i+1) (xs++[WO.mk (x.Items.getD i default).Value b]) (by omega) (by omega) (by simp; omega)]
    cases zfB (toA l) (x.Items.drop (i+1)) with
    | inl e=>rfl
    | inr ys=>simp [zcc]
  ·simp only [Wy.ev_i,Wy.ev_k,Wy.ev_h,Wy.ev_bn,Wy.ev_d,tT,hi];rw [zdd hi,zGP]; simp
theorem zbeP {x:At} (h:zos x=true) (hk:x.Kind=1∨x.Kind=2∨x.Kind=3):x.Items=[]:=by
 cases zSO.1 h <;>simp_all
theorem zbgz (hto:okB l) (x:At) (h:XG g l x):zEX g x l=(true,ofS (zeA (toA l) x)):=by
 unfold zEX zR9;have h8:=zbhJ g l x h.lens.1 h.ga (l.length+Int.toNat (0:Int)+x.Ag.length+x.Items.length+(0:Nat)+(1:Nat)) 0 [] (by omega) (by omega) (by simp)
 rw [show ((0:Nat):Int)=(0:Int) from rfl,List.drop_zero] at h8
 have h16:=fun xs:yA=>zbfw g l x xs (by have:=h.lens.2; omega) h.gi (l.length+Int.toNat (0:Int)+x.Ag.length+x.Items.length+xs.length+(0:Nat)+(1:Nat)) 0 [] (by omega) (by omega) (by simp)
 simp only [show ((0:Nat):Int)=(0:Int) from rfl,List.drop_zero,List.nil_append] at h16
 have b0:=zgv x.Kind 0;have b1:=zgv x.Kind 1;have b2:=zgv x.Kind 2;have b3:=zgv x.Kind 3;rw [At.eta,zW6];simp only [Wy.fin_i,Wy.fin_bn,Wy.fin_k,cond_true,h8,List.nil_append];by_cases hk0:x.Kind=0
 ·rw [b0,decide_eq_true hk0,if_pos hk0];obtain ⟨b,q,h1,h2⟩:=zbfm hto x.Row;simp only [cond_true,h1];rcases h2 with ⟨rfl,rfl⟩ | ⟨rfl,h2⟩
  ·rfl
  ·rw [h2]; simp only [cond_false,(zbdh x.Row).2]; rfl
 ·rw [b0,decide_eq_false hk0,if_neg hk0,cond_false];have hA:=h.sa;have hlen:=z6G h.va;revert hA;cases zi0 (toA l) x.Ag with
  | inl e=>intro _; rfl
  | inr xs=>
   intro hxs;have hxl:xs.length=x.Ag.length∧∀ a∈xs,okA a:=hxs;have o0:=zF0 hxl.2 0;have o1:=zF0 hxl.2 1;simp only [isL,getR,cond_false,zcc,At.eta,h16];by_cases hk:x.Kind=1∨x.Kind=2∨x.Kind=3
   ·rw [zbeP h.va hk,zGP];simp only [cond_true,cond_false,isL,getR];rcases hk with hk1 | hk2 | hk3
    ·have:=hlen.1 hk1;rw [b1,decide_eq_true hk1,if_pos hk1];simp only [cond_true,show Int.toNat (0:Int)=0 from rfl,show Int.toNat (1:Int)=1 from rfl,(z9l o0 o1).2,zDy (z6h o0 o1).2]
     simp [hxl.1,this]
    ·have:=hlen.2 (.inl hk2);have n1:¬ x.Kind=1:=by omega
     rw [b1,decide_eq_false n1,if_neg n1,cond_false,b2,decide_eq_true hk2,if_pos hk2];simp only [cond_true,show Int.toNat (0:Int)=0 from rfl,(z8x o0).2,zDy (z5C o0).2]
     simp [hxl.1,this]
    ·have:=hlen.2 (.inr hk3);have n1:¬ x.Kind=1:=by omega
     have n2:¬ x.Kind=2:=by omega
     rw [b1,decide_eq_false n1,if_neg n1,cond_false,b2,decide_eq_false n2,if_neg n2,cond_false,b3,decide_eq_true hk3,if_pos hk3];simp only [cond_true,show Int.toNat (0:Int)=0 from rfl,(z6v o0).2,zDy (z5M o0).2]
     simp [hxl.1,this]
   ·have n1:¬ x.Kind=1:=fun e=>hk (.inl e)
    have n2:¬ x.Kind=2:=fun e=>hk (.inr (.inl e))
    have n3:¬ x.Kind=3:=fun e=>hk (.inr (.inr e))
    rw [if_neg n1,if_neg n2,if_neg n3];have hI:=h.si;revert hI;cases zfB (toA l) x.Items with
    | inl e=>intro _; rfl
    | inr is=>
     intro his;have ht:=zba0 (f:=x.Func) (o:=x.Op) (b:=x.Bd) h.lens.2 his;simp only [cond_true,cond_false,isL,getR,b1,b2,b3,decide_eq_false n1,decide_eq_false n2,decide_eq_false n3,ht.2,zcc];have hw:=zpC h.wf;have hl:is.length=x.Items.length∧∀ w∈is,okA w.Ann∧∃ v∈x.Items,v.Value=w.Value:=his
     rw [zDy (zWK (by have:=h.lens.2; omega) (fun w hw'=>⟨(hl.2 w hw').1,by
      obtain ⟨v,hv,e⟩:=(hl.2 w hw').2;rw [← e]; exact (zid hw.2.1.1 v hv).1⟩) hw.2.2.2.2.2.1 hw.2.2.2.2.2.2 hw.2.2.1).2]
end
theorem z1g:∀ {l:yA} {a:yC},a∈l→zes a≤zp4 l
 | [],_,h=>by cases h
 | x::r,a,h=>by
  rw [zWv];rcases qd.1 h with rfl | h
  ·omega
  ·have:=z1g h; omega
theorem zXE:∀ {l:yE} {w:Wd},w∈l→zes w.Ann≤zk1 l
 | [],_,h=>by cases h
 | x::r,a,h=>by
  rw [zIK];rcases qd.1 h with rfl | h
  ·omega
  ·have:=zXE h; omega
theorem zRT:∀ {l:yD} {f:Fc},f∈l→zF2 f.At≤zhf l
 | [],_,h=>by cases h
 | x::r,a,h=>by
  rw [zOo];rcases qd.1 h with rfl | h
  ·omega
  ·have:=zRT h; omega
theorem z4q:∀ {l:yC} {t:Term},t∈l→zhf t.Fs≤zes l
 | [],_,h=>by cases h
 | x::r,a,h=>by
  rw [zPE];rcases qd.1 h with rfl | h
  ·omega
  ·have:=z4q h; omega
theorem zXB:∀ {l:yE},(∀ w∈l,w.Ann≠[])→l.length≤zk1 l
 | [],_=>by simp
 | x::r,h=>by
  rw [zIK];have:=zXB (l:=r) fun w hw=>h w (by simp [hw])
  have h1:1≤zes x.Ann:=by
   have:=h x (by simp)
   cases hx:x.Ann with
   | nil=>exact absurd hx this
   | cons t r=>rw [zPE]; omega
  simp only [qf];omega
mutual
def zAB:At→Prop
 | ⟨_,_,a,_,i,_,_⟩=>i.length<20∧zRy a∧zKY i
def zC7:yD→Prop
 | []=>True
 | ⟨x,_⟩::r=>zAB x∧zC7 r
def zbC:yC→Prop
 | []=>True
 | ⟨_,fs⟩::r=>zC7 fs∧zbC r
def zRy:yA→Prop
 | []=>True
 | a::r=>zbC a∧zRy r
def zKY:yE→Prop
 | []=>True
 | ⟨_,a⟩::r=>zbC a∧zKY r
end
theorem zDX (x:At):zAB x↔x.Items.length<20∧zRy x.Ag∧zKY x.Items:=by cases x; rw [zAB]
theorem zx8:∀ {l:yD},zC7 l↔∀ f∈l,zAB f.At
 | []=>by rw [zC7]; simp
 | ⟨x,e⟩::r=>by rw [zC7,zx8 (l:=r)]; simp
theorem zHY:∀ {l:yC},zbC l↔∀ t∈l,zC7 t.Fs
 | []=>by rw [zbC]; simp
 | ⟨x,e⟩::r=>by rw [zbC,zHY (l:=r)]; simp
theorem zAZ:∀ {l:yA},zRy l↔∀ a∈l,zbC a
 | []=>by rw [zRy]; simp
 | a::r=>by rw [zRy,zAZ (l:=r)]; simp
theorem zyi:∀ {l:yE},zKY l↔∀ w∈l,zbC w.Ann
 | []=>by rw [zKY]; simp
 | ⟨x,e⟩::r=>by rw [zKY,zyi (l:=r)]; simp
theorem z7c {m:Nat} {a:yC} (h:zbF (m+1) a=true):zeD a=true∧∀ t∈a,t.Fs.length≤64∧∀ f∈t.Fs,(1≤f.Exp∧f.Exp≤64)∧f.At.Items.length≤1024∧zd9 (zbF m) f.At=true:=by
 have hw:=zHZ h;refine ⟨hw,fun t ht=> ?_⟩
 obtain ⟨l1,l2⟩:=(zw0 hw).2.2.2 t ht;refine ⟨l1,fun f hf=> ?_⟩
 obtain ⟨⟨e1,_⟩,hv⟩:=zpd (zwu h ht).2 hf;exact ⟨⟨e1,(l2 f hf).1⟩,(l2 f hf).2,hv⟩
theorem z1p:∀ (m:Nat) (a:yC),zbF m a=true→zbF (m+1) a=true
 | 0,_,h=>by cases h
 | m+1,a,h=>by
  have h':zyz (zd9 (zbF m)) a=true:=h;obtain ⟨h1,h2,h3⟩:=zTi.1 h';refine (zTi (vat:=zd9 (zbF (m+1)))).2 ⟨h1,h2,fun t ht=>⟨(h3 t ht).1,(h3 t ht).2.1,fun f hf=>⟨((h3 t ht).2.2 f hf).1, ?_⟩⟩⟩
  exact zdv.2 ((zdv.1 ((h3 t ht).2.2 f hf).2).imp (z1p m))
theorem zAe:∀ {m:Nat} {a:yC},zbF m a=true→zQ a=true:=by
 intro m a h
 have key:∀ k,zbF (m+k) a=true:=fun k=>by
  induction k with
  | zero=>exact h
  | succ k ih=>exact z1p _ _ ih
 exact z9A (key 9) (by omega)
theorem zbe8 {m:Nat} {x:At} (h:zd9 (zbF m) x=true) (hm:m≤99):zos x=true:=by
 refine zSO.2 ((zdv.1 h).imp fun a ha=> ?_)
 exact zAe ha
theorem z04 {V:yC→Bool} {x:At} (h:zd9 V x=true):(∀ a∈x.Ag,V a=true)∧∀ w∈x.Items,V w.Ann=true∧w.Ann≠[]:=by
 constructor
 ·cases zdv.1 h <;>simp_all
 ·cases zdv.1 h <;>simp_all
theorem z1W:∀ (m:Nat) (a:yC),zbF m a=true→zes a≤38→zbC a
 | 0,_,h,_=>by cases h
 | m+1,a,h,hs=>by
  obtain ⟨_,w2⟩:=z7c h;refine zHY.2 fun t ht=>zx8.2 fun f hf=>(zDX _).2 ?_
  have hv:=((w2 t ht).2 f hf).2.2;have h1:=zRT hf;have h2:=z4q ht;have h3:=z35 f.At;obtain ⟨hargs,hitems⟩:=z04 hv;refine ⟨by have:=zXB fun w hw=>(hitems w hw).2; omega,zAZ.2 fun b hb=>z1W m b (hargs b hb) (by have:=z1g hb; omega),zyi.2 fun w hw=>z1W m w.Ann (hitems w hw).1 (by have:=zXE hw; omega)⟩
theorem zbbA {l:yG} (hl:okB l):∀ n,
  (∀ m a,zbF m a=true→m≤99→zgA a→zbC a→2*m≤n→(zlr n a l=(true,ofS (zcr (toA l) a []))∧zza n a l=(true,ofS (zcr (toA l) a [])))∧GS (zcr (toA l) a []))∧
  (∀ m x,zd9 (zbF m) x=true→m≤99→zgr x→x.Items.length≤1024→zAB x→2*m+1≤n→(zh4 n x l=(true,ofS (zeA (toA l) x))∧zEd n x l=(true,ofS (zeA (toA l) x)))∧GS (zeA (toA l) x))
 | 0=>by
  refine ⟨fun m a h _ _ _ hm=> ?_,fun m x _ _ _ _ _ hm=>by omega⟩
  have:m=0:=by omega
  subst this; cases h
 | n+1=>by
  obtain ⟨h1,h2⟩:=zbbA hl n;have ht:okT (toA l):=zbdZ hl.2;refine ⟨fun m a h h99 hw hs hm=> ?_,fun m x h h99 hw hi hs hm=> ?_⟩
  ·cases m with
   | zero=>cases h
   | succ m=>
    obtain ⟨w1,w2⟩:=z7c h;obtain ⟨a1,a2,a3,a4⟩:=zw0 w1;have hwt:=fun t (ht:t∈a)=>zwY (ztX hw t ht)
    have hwf:=fun t (ht:t∈a) f (hf:f∈t.Fs)=>(zru (zoA (hwt t ht).2.1 f hf)).1
    have hA:∀ t∈a,∀ f∈t.Fs,((zh4 n f.At l=(true,ofS (zeA (toA l) f.At))∧zEd n f.At l=(true,ofS (zeA (toA l) f.At)))∧GS (zeA (toA l) f.At)):=fun t ht f hf=>
     h2 m f.At ((w2 t ht).2 f hf).2.2 (by omega) (hwf t ht f hf) ((w2 t ht).2 f hf).2.1 (zx8.1 (zHY.1 hs t ht) f hf) (by omega)
    have hE:=fun t (ht:t∈a) f (hf:f∈t.Fs)=>((w2 t ht).2 f hf).1
    have hok:∀ t∈a,∀ p,okA p→GS (zdr (toA l) t.Fs p):=fun t ht' p hp=>zMX ht t.Fs 9 (fun f hf=>⟨hwf t ht' f hf,zwJ ((w2 t ht').2 f hf).2.2 ((w2 t ht').2 f hf).2.1⟩) p hp
    have hG:GS (zcr (toA l) a []):=zT7 ht a 9 hw (fun t ht f hf=>zwJ ((w2 t ht).2 f hf).2.2 ((w2 t ht).2 f hf).2.1) [] zkg
    refine ⟨⟨?_, ?_⟩,hG⟩
    ·rw [zNV];exact zbiL _ l a (by omega) (fun t ht=>⟨by have:=(w2 t ht).1; omega,fun f hf=>⟨⟨(hA t ht f hf).1.1,(hA t ht f hf).2⟩,by have:=(hE t ht f hf).1; omega,by have:=(hE t ht f hf).2; omega⟩⟩) hok
    ·rw [zWD];exact zbiE _ l a (by omega) (fun t ht=>⟨by have:=(w2 t ht).1; omega,fun f hf=>⟨⟨(hA t ht f hf).1.2,(hA t ht f hf).2⟩,by have:=(hE t ht f hf).1; omega,by have:=(hE t ht f hf).2; omega⟩⟩) hok
  ·have hf:=zwJ h hi;have hw':=zpC hw;have hv:=zbe8 h h99;obtain ⟨h20,s1,s2⟩:=(zDX x).1 hs;obtain ⟨hargs,hitems⟩:=z04 h;have ga:=fun a (ha:a∈x.Ag)=>h1 m a (hargs a ha) h99 (zj1 hw'.1.1 a ha).1 (zAZ.1 s1 a ha) (by omega)
   have gi:=fun w (hw:w∈x.Items)=>h1 m w.Ann (hitems w hw).1 h99 (zid hw'.2.1.1 w hw).2.1 (zyi.1 s2 w hw) (by omega)
   have sa:=zXO ht x.Ag 9 (fun a ha=>(zj1 hw'.1.1 a ha).1) hf.2.1
   have si:=zSF ht x.Items 9 (fun w hw=>(zid hw'.2.1.1 w hw).2.1) fun w hw=>(hf.2.2 w hw).2
   refine ⟨⟨?_, ?_⟩,z6x ht x 9 hw hf⟩
   ·rw [zG0];exact zbfY _ l hl x ⟨hv,⟨hf.1.1,h20⟩,fun a ha=>⟨(ga a ha).1.1,(ga a ha).2⟩,fun w hw=>⟨(gi w hw).1.1,(gi w hw).2⟩,sa,si,hw⟩
   ·rw [z3I];exact zbgz _ l hl x ⟨hv,⟨hf.1.1,h20⟩,fun a ha=>⟨(ga a ha).1.2,(ga a ha).2⟩,fun w hw=>⟨(gi w hw).1.2,(gi w hw).2⟩,sa,si,hw⟩
def zbiO (a b:yC):yC:=if b=[] then a else if a=[]∨a=b then [] else zcy (zbcA a b)
def zbiw (a:yC):yC:=if a=[]∨isU a=true then a else if isC a=true then [⟨1,[]⟩] else zcy (z6p a)
def zbiD (a:yC):yC:=if a=[] then [⟨1,[]⟩] else if zyE a=true then [] else zcy (zbbS a)
def zbiv (f:Int) (l:yE) (o:Int) (b:Value):yC:=
 if 0<(zdW l).length then zcy (zPv f (zdW l) o b) else if (f==0&&zP2 o (zee 0 b.Int))=true then [⟨1,[]⟩] else []
def IdP (a:yC):Prop:=a=[]∨a=[⟨1,[]⟩]∨∃ x:At,(x.Kind=3∨x.Kind=4)∧a=zcy x
def zbha (b:yC):Nat→yC
 | 0=>[⟨1,[]⟩]
 | n+1=>zgi b (zbha b n)
section
variable (σ:At→yC)
def SG (x:At):Prop:=PA (σ x)∧(x.Kind=3∨x.Kind=4→IdP (σ x))
variable {σ}
def EA (σ:At→yC) (a:yC):Prop:=PA a∧∀ t∈a,∀ f∈t.Fs,SG σ f.At
theorem EA.p {a:yC} (h:EA σ a):∀ t∈a,cOK t∧∀ f∈t.Fs,SG σ f.At:=fun t ht=>⟨h.1.c t ht,h.2 t ht⟩
theorem EA.sum {a b:yC} (ha:EA σ a) (hb:EA σ b):EA σ (zeo a b):=⟨zbdC ha.1 hb.1,fun t ht f hf=>by
 obtain ⟨x,hx,e⟩:=zC0 b a ha.1.1 ht;rw [e] at hf;rcases hx with hx | hx
 ·exact ha.2 x hx f hf
 ·exact hb.2 x hx f hf⟩
end
end Go.Proofs.YtljlfiomikifjaaGreatDoor
end
