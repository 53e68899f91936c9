/- Texts of this claim, joined (the program, its functions in plain words, and what they compute). -/
import Derived.Test.YtoknknbmfmddbaaGreatDoorGC10
set_option autoImplicit false
set_option linter.unusedVariables false
set_option linter.unusedSectionVars false
set_option linter.unusedSimpArgs false
set_option maxRecDepth 1000000
set_option maxHeartbeats 0
/- Relations: values and rows compared, columns, fitting rows: the program and the reference. -/
set_option maxRecDepth 100000
noncomputable section
namespace Go.Proofs.YtoknknbmfmddbaaGreatDoor
open Go Go.Ab
def z2s (a b:Value):Int:=zbE (trV a) (trV b)
theorem ref01_Compare_eq' (a b:Value):ziu a b=(true,z2s a b):=zyO a b
theorem zXT (l:yH) (m:Int) (hl:l.length<=zZ):∀ (n i:Nat),l.length<i+n->i<=l.length->∃ r,zCS n l m i=(true,r)/\(r=.inl false\/(r=.inr (l,m)/\∀ x∈l.drop i,x.Text.size<=300))
 | 0,i,h,h2=>by omega
 | n+1,i,h,h2=>by
  show ∃ r,(zCr l m i).ev (λx y=>zCS n x.1 x.2.1 x.2.2.1) (λr=>(true,r)) (false,.inl default)=(true,r)/\_
  unfold zCr;by_cases hi:i<l.length
  ·have hw:i<4611686018427387904:=by
    have:zZ<4611686018427387904:=by decide
    omega
   have hs:decide (((l.getD i default).Text.size:Int)>(300:Int))=decide ((l.getD i default).Text.size>300):=zyg _ 300;simp only [Wy.ev_i,Wy.ev_k,Wy.ev_h,Wy.ev_bn,Wy.ev_d,tT,hi];rw [hs];by_cases h3:(l.getD i default).Text.size>300
   ·rw [decide_eq_true h3];exact ⟨_,rfl,.inl rfl⟩
   ·rw [decide_eq_false h3,cond_false,zbe hw];obtain ⟨r,h4,h5⟩:=zXT l m hl n (i+1) (by omega) (by omega)
    refine ⟨r,h4, ?_⟩;rcases h5 with h5 | ⟨h5,h6⟩
    ·exact .inl h5
    ·refine .inr ⟨h5,λx hx=> ?_⟩
     rw [z6 hi] at hx;rcases qd.1 hx with rfl | hx
     ·omega
     ·exact h6 x hx
  ·simp only [Wy.ev_i,Wy.ev_k,Wy.ev_h,Wy.ev_bn,Wy.ev_d,tT,hi];exact ⟨_,rfl,.inr ⟨rfl,λx hx=>by rw [zc9 hi] at hx; cases hx⟩⟩
theorem z1b (l:yH) (m:Nat) (hl:l.length<=zZ):∃ b,zn8 l m=(true,b)/\(b=true->l.length<=m/\∀ x∈l,x.Text.size<=300):=by
 unfold zn8 zPT;obtain ⟨r,h1,h2⟩:=zXT l m hl (l.length+(m:Int).toNat +Int.toNat (0:Int)+(1:Nat)) 0 (by omega) (by omega)
 rw [show ((0:Nat):Int)=(0:Int) from rfl] at h1
 rw [Wy.fin_bn,h1];rcases h2 with rfl | ⟨rfl,h2⟩
 ·exact ⟨false,rfl,λh=>by cases h⟩
 ·refine ⟨decide (l.length<=m), ?_,λh=>⟨of_decide_eq_true h,h2⟩⟩
  show (true,decide (Int.ofNat l.length<=(m:Int)))=_;rw [show decide (Int.ofNat l.length<=(m:Int))=decide (l.length<=m) from zuC _ _]
theorem z7K (a b:Nat):decide (Int.ofNat a=Int.ofNat b)=decide (a=b):=by
 by_cases h:a=b
 ·rw [h]; simp
 ·rw [decide_eq_false h,decide_eq_false]; intro e; exact h (Int.ofNat.inj e)
def zr0 (l:yH):List TT:=l.map trV
theorem z1I:∀ {a b:yH},zr0 a=zr0 b->a=b
 | [],[],_=>rfl
 | [],_::_,h=>by cases h
 | _::_,[],h=>by cases h
 | x::a,y::b,h=>by
  have h':trV x::zr0 a=trV y::zr0 b:=h;injection h' with h1 h2
  rw [zZB h1,z1I h2]
def zO5 (a b:yH):Int:=zbE (.l (zr0 a)) (.l (zr0 b))
theorem z2r (a b:yH):zO5 a b=zbw (zr0 a) (zr0 b):=by unfold zO5; rw [zbE]
theorem zW7 (a b:yH):zO5 a b=0↔a=b:=⟨λh=>z1I (TT.l.inj (zzm _ _ h)),λh=>by subst h; exact zR0 _⟩
theorem zPu (a b:yH) (ha:a.length<=1000000):zj3 a b=(true,zO5 a b):=by
 unfold zj3 zBX;have e:zbX=CF zin:=rfl;rw [e,Wy.fin_bn,zMw trV zin a b ha (λx _ y _=>zy5 x y),z2r]; rfl
theorem z1Y (a b:yH) (ha:a.length<=1000000):∀ (n i:Nat),a.length<i+n->i<=a.length->i<=b.length->
  ∃ r,ztE n a b i=(true,r)/\((r=.inr (a,b)/\zbw (zr0 (a.drop i)) (zr0 (b.drop i))=if a.length=b.length then 0 else if a.length<b.length then -1 else 1)\/r=.inl (zbw (zr0 (a.drop i)) (zr0 (b.drop i))))
 | 0,i,h,h2,h3=>by omega
 | n+1,i,h,h2,h3=>by
  show ∃ r,(ztQ a b i).ev (λx y=>ztE n x.1 x.2.1 x.2.2.1) (λr=>(true,r)) (false,.inl default)=(true,r)/\_
  unfold ztQ;by_cases hi:i<a.length
  ·by_cases hj:i<b.length
   ·simp only [Wy.ev_i,Wy.ev_k,Wy.ev_h,Wy.ev_bn,Wy.ev_d,tT,hi,hj,ref01_Compare_eq'];rw [z6 hi,z6 hj]
    have ec:zbw (zr0 (a.getD i default::a.drop (i+1))) (zr0 (b.getD i default::b.drop (i+1)))=if z2s (a.getD i default) (b.getD i default)=0 then zbw (zr0 (a.drop (i+1))) (zr0 (b.drop (i+1))) else z2s (a.getD i default) (b.getD i default):=by
     unfold zr0 z2s; rw [List.map_cons,List.map_cons,zbw]
    rw [ec,zWj,zbe (by omega)]
    by_cases e:z2s (a.getD i default) (b.getD i default)=0
    ·rw [if_pos e,decide_eq_true e,Bool.not_true,cond_false];exact z1Y a b ha n (i+1) (by omega) (by omega) (by omega)
    ·rw [if_neg e,decide_eq_false e,Bool.not_false,cond_true];exact ⟨_,rfl,.inr rfl⟩
   ·simp only [Wy.ev_i,Wy.ev_k,Wy.ev_h,Wy.ev_bn,Wy.ev_d,tT,hi,hj];refine ⟨_,rfl,.inl ⟨rfl, ?_⟩⟩;rw [z6 hi,zc9 hj,if_neg (by omega),if_neg (by omega)]
    unfold zr0; rw [List.map_cons,List.map_nil,zbw]
  ·simp only [Wy.ev_i,Wy.ev_k,Wy.ev_h,Wy.ev_bn,Wy.ev_d,tT,hi];refine ⟨_,rfl,.inl ⟨rfl, ?_⟩⟩;rw [zc9 hi];by_cases hj:i<b.length
   ·rw [z6 hj,if_neg (by omega),if_pos (by omega)]
    unfold zr0; rw [List.map_cons,List.map_nil,zbw]
   ·rw [zc9 hj,if_pos (by omega)]
    unfold zr0; rw [List.map_nil,zbw]
theorem zN9 (a b:yH) (ha:a.length<=1000000):znu a b=(true,zO5 a b):=by
 obtain ⟨r,h1,h2⟩:=z1Y a b ha (a.length+b.length+Int.toNat (0:Int)+(1:Nat)) 0 (by omega) (by omega) (by omega)
 rw [show ((0:Nat):Int)=(0:Int) from rfl] at h1
 rw [List.drop_zero,List.drop_zero, <- z2r] at h2;unfold znu zBL;rw [Wy.fin_bn,h1,cond_true];have hs:∀ b:Bool,zqp b=(true,bif b then -1 else 1):=λb=>by cases b <;>rfl
 rcases h2 with ⟨rfl,h2⟩ | rfl
 ·have hb:(Int.ofNat a.length==Int.ofNat b.length)=decide (a.length=b.length):=by rw [zLD,z7K]
  have hl':decide (Int.ofNat a.length<Int.ofNat b.length)=decide (a.length<b.length):=by simp
  simp only [Wy.fin_i,Wy.fin_k,Wy.fin_bn,isL,getR,cond_false,hb,hs,cond_true];rw [h2];by_cases e:a.length=b.length
  ·rw [decide_eq_true e,if_pos e]; rfl
  ·rw [decide_eq_false e,if_neg e,cond_false];by_cases e2:a.length<b.length
   ·rw [if_pos e2];show (true,bif decide (Int.ofNat a.length<Int.ofNat b.length) then (-1:Int) else 1)=_
    rw [hl',decide_eq_true e2]; rfl
   ·rw [if_neg e2];show (true,bif decide (Int.ofNat a.length<Int.ofNat b.length) then (-1:Int) else 1)=_
    rw [hl',decide_eq_false e2]; rfl
 ·rfl
theorem z0q (a b:yH) (ha:a.length<=1000000):zAK a b=(true,decide (a=b)):=by
 unfold zAK zRW;rw [Wy.fin_bn,zN9 a b ha,cond_true,Wy.fin_k,zLD];congr 1;rw [decide_eq_decide]; exact zW7 a b
theorem zSz {n:Int} (h:rng n):wf3 n:=by
 show (Lit.int .i64 n).wf=true;have:IntKind.i64.min<=n/\n<=IntKind.i64.max:=⟨h.1,h.2⟩
 simpa [Lit.wf] using this
theorem zRD {t:Term} (hc:rng t.Cf) (hf:∀ f∈t.Fs,ziG f.At/\rng f.Exp) (hl:t.Fs.length<=1000000):zxQ t:=by
 obtain ⟨c,fs⟩:=t;unfold zxQ;refine ⟨zSz hc,zG3 fs λf h=> ?_,by have:zZ=140737488351232:=rfl; simp only at hl; omega⟩
 obtain ⟨x,e⟩:=f;unfold ztB;exact ⟨(hf _ h).1,zSz (hf _ h).2⟩
def okR (r:yB×Int):Prop:=okA r.1/\(r.2=0\/r.1=[])
theorem zqh:okA []:=⟨⟨z6I 11,by rw [zGn]; omega⟩,by unfold zhr; trivial,by simp⟩
theorem zGK {a:yB} (h:okA a):okR (zKP a):=by
 unfold zKP;cases zrZ a with
 | true=>exact ⟨h,.inl rfl⟩
 | false=>exact ⟨zqh,.inr rfl⟩
theorem zR4 {ok:Bool} {r:yB×Int} (h:ok=true->okR r):okR (opR ok r):=by
 unfold opR;cases ok with
 | true=>exact h rfl
 | false=>exact ⟨zqh,.inr rfl⟩
theorem zZm {l:yB} (hl:l.length<=1000000) (h:∀ t∈l,GT t):okA l:=by
 obtain ⟨h1,h2⟩:=z9P hl h;refine ⟨⟨h1.mono (by omega),h2⟩,zCs l λt ht=> ?_,by have:zZ=140737488351232:=rfl; omega⟩
 have hg:=h t ht;exact zRD ⟨by have:=hg.1.1; omega,by have:=hg.1.2; omega⟩ (λf hf=>⟨(hg.2.2 f hf).1.2.1,(hg.2.2 f hf).gF.2.2⟩) (by have:=hg.2.1; omega)
theorem z8U {a b:yB} (ha:okA a) (hb:okA b):okR (z7g a b):=zR4 λhv=>by
 rw [qc] at hv;obtain ⟨sa,la,ta⟩:=zOs hv.1 ha.2.1;obtain ⟨sb,lb,tb⟩:=zOs hv.2 hb.2.1;exact zGK (zZm (by have:=zY0 b a; omega) (z2P b a sa (λt ht=>(ta t ht).1) λt ht=>(tb t ht).1))
theorem z8G {a b:yB} (ha:okA a) (hb:okA b):okR (z7k a b):=zR4 λhv=>by
 rw [qc] at hv;obtain ⟨sa,la,ta⟩:=zOs hv.1 ha.2.1;obtain ⟨sb,lb,tb⟩:=zOs hv.2 hb.2.1;have hpl:(zv8 a b).length<=1000000:=by rw [z6s]; have:=Nat.mul_le_mul la lb; omega
 exact zGK (zZm (by have:=zY0 (zv8 a b) []; simp at this; exact Nat.le_trans this hpl) (z2P (zv8 a b) [] .nil (λt ht=>by cases ht) (z6Y ta tb)))
theorem z65 {x:At} (hf:zgK (zK 9) x) (hs:zW (ziD x)<=4611686018427387904) (hw:ziG x):okA (ziD x):=by
 refine ⟨⟨(zSc hf).mono (by omega),hs⟩,zCs _ λt ht=> ?_,by simp [ziD,zZ]⟩
 simp only [ziD,qh] at ht;subst ht;refine zRD ⟨by simp,by simp⟩ (λf hf=> ?_) (by simp)
 simp only [qh] at hf;subst hf;exact ⟨hw,⟨by simp,by simp⟩⟩
theorem zSw {n:Int} (h: -1000<=n/\n<=1000):rng n:=⟨by omega,by omega⟩
theorem zzf:wf3 0:=zSz (zSw (by omega))
theorem zRF {l:yA} {k:Int} (hk:0<=k/\k<=4) (hl:l.length<=2) (h:∀ a∈l,ze7 a=true) (hw:∀ a∈l,okA a):okA (ziD ⟨k,⟨0,0⟩,l,0,[],0,⟨0,0,ByteArray.mk #[]⟩⟩):=by
 refine z65 ⟨⟨by simp only; omega,by simp,by show (ByteArray.mk #[]).size<=_; decide⟩,λa ha=>(zgH (h a ha)).1,λw hw=>(by cases hw)⟩ (z6S hl h).2 ?_
 unfold ziG;have hr:zZ=140737488351232:=rfl;refine ⟨zSz (zSw (by omega)),⟨zzf,zzf⟩,⟨zTF l λa ha=>⟨(hw a ha).2.1,(hw a ha).2.2⟩,by omega⟩,zzf,⟨by unfold zr1; trivial,by simp⟩,zzf,⟨zzf,zzf, ?_⟩⟩
 show (ByteArray.mk #[]).size<=zZ;rw [hr]; decide
theorem z8Q {a b:yB} (ha:okA a) (hb:okA b):okR (z7O a b):=zR4 λhv=>by
 rw [qc] at hv;split
 ·exact ⟨ha,.inl rfl⟩
 ·split
  ·exact ⟨zqh,.inl rfl⟩
  ·refine zGK (zRF (by omega) (by simp) (λx hx=> ?_) λx hx=> ?_)
   ·simp only [qd,List.not_mem_nil,or_false] at hx;rcases hx with rfl | rfl
    ·exact hv.1
    ·exact hv.2
   ·simp only [qd,List.not_mem_nil,or_false] at hx;rcases hx with rfl | rfl
    ·exact ha
    ·exact hb
theorem zTY (c:Int) (hc:1<=c/\c<=1152921504606846976):okA [⟨c,[]⟩]:=zZm (by simp) λt ht=>by
 rw [qh] at ht; subst ht;exact ⟨hc,by simp,λf hf=>by cases hf⟩
theorem z9e {a:yB} (ha:okA a):okR (z7q a):=zR4 λhv=>by
 split
 ·exact ⟨ha,.inl rfl⟩
 ·split
  ·exact ⟨zTY 1 (by omega),.inl rfl⟩
  ·exact zGK (zRF (by omega) (by simp) (λx hx=>by rw [qh] at hx; subst hx; exact hv) λx hx=>by rw [qh] at hx; subst hx; exact ha)
theorem z8v {a:yB} (ha:okA a):okR (z7u a):=zR4 λhv=>by
 split
 ·exact ⟨zTY 1 (by omega),.inl rfl⟩
 ·split
  ·exact ⟨zqh,.inl rfl⟩
  ·exact zGK (zRF (by omega) (by simp) (λx hx=>by rw [qh] at hx; subst hx; exact hv) λx hx=>by rw [qh] at hx; subst hx; exact ha)
def zZh (n:Int):yB:=if n<1 then [] else [⟨if 1152921504606846976<n then 1152921504606846976 else n,[]⟩]
def zbbj (id:RowID):yB:=bif zJN id then ziD ⟨0,id,[],0,[],0,⟨0,0,ByteArray.mk #[]⟩⟩ else []
theorem z9I (n:Int):okA (zZh n):=by
 unfold zZh;split
 ·exact zqh
 ·refine zTY _ ?_;split <;>omega
theorem z8p {a:yB} {n:Nat} (hn:n<=1000) (h:zK 12 a/\zbq a<=n) (hw:z1T a):okA a:=⟨⟨h.1,by have:=zFV a; omega⟩,hw.1,hw.2⟩
def MF (l:yC):Prop:=Srf l/\∀ f∈l,eOK f/\1<=f.Exp
theorem MF.tail {f:Fc} {l:yC} (h:MF (f::l)):MF l:=⟨(qi.1 h.1).2,λg hg=>h.2 g (by simp [hg])⟩
theorem MF.nil:MF []:=⟨List.Pairwise.nil,λf hf=>by cases hf⟩
theorem cF_self' {x y:Fc} (h:x.At=y.At):cF x y=0:=by unfold cF; rw [h]; exact zR0 _
theorem MF.ne {f:Fc} {l:yC} (h:MF (f::l)):∀ g∈l,g.At≠f.At:=λg hg e=>by
 have:=(qi.1 h.1).1 g hg;rw [cF_self' e.symm] at this; omega
theorem z67 {a b:yC}:Srf a->Srf b->Srf (zdK a b):=by
 induction a,b using zdK.induct with
 | case1 b=>intro _ hb; rw [zdK]; exact hb
 | case2 x a=>intro ha _; rw [zdK]; exact ha
 | case3 x a y b h ih=>
  intro ha hb;have ca:=qi.1 ha;rw [zdK,if_pos h];refine qi.2 ⟨λz hz=> ?_,ih ca.2 hb⟩
  obtain ⟨w,hw,e⟩:=ztA hz;have:cF x z=cF x w:=by unfold cF; rw [e]
  rw [this];rcases hw with hw | hw
  ·exact ca.1 w hw
  ·rcases qd.1 hw with rfl | hw
   ·exact h
   ·exact zPz h ((qi.1 hb).1 w hw)
 | case4 x a y b h h2 ih=>
  intro ha hb;have cb:=qi.1 hb;rw [zdK,if_neg h,if_pos h2];have h3:cF y x<0:=by rw [z9l x y]; omega
  refine qi.2 ⟨λz hz=> ?_,ih ha cb.2⟩
  obtain ⟨w,hw,e⟩:=ztA hz;have:cF y z=cF y w:=by unfold cF; rw [e]
  rw [this];rcases hw with hw | hw
  ·rcases qd.1 hw with rfl | hw
   ·exact h3
   ·exact zPz h3 ((qi.1 ha).1 w hw)
  ·exact cb.1 w hw
 | case5 x a y b h h2 ih=>
  intro ha hb;have ca:=qi.1 ha;have cb:=qi.1 hb;have h0:x.At=y.At:=z8O (by omega)
  rw [zdK,if_neg h,if_neg h2];have hA:(if x.At.Kind=3\/x.At.Kind=4 then x else ⟨x.At,x.Exp+y.Exp⟩:Fc).At=x.At:=by split <;>rfl
  refine qi.2 ⟨λz hz=> ?_,ih ca.2 cb.2⟩
  obtain ⟨w,hw,e⟩:=ztA hz;have:cF (if x.At.Kind=3\/x.At.Kind=4 then x else ⟨x.At,x.Exp+y.Exp⟩:Fc) z=cF x w:=by unfold cF; rw [e,hA]
  rw [this];rcases hw with hw | hw
  ·exact ca.1 w hw
  ·have:cF x w=cF y w:=by unfold cF; rw [h0]
   rw [this]; exact cb.1 w hw
theorem z7z {a b:yC}:(∀ f∈a,eOK f/\1<=f.Exp)->(∀ f∈b,eOK f/\1<=f.Exp)->∀ f∈zdK a b,eOK f/\1<=f.Exp:=by
 induction a,b using zdK.induct with
 | case1 b=>intro _ hb; rw [zdK]; exact hb
 | case2 x a=>intro ha _; rw [zdK]; exact ha
 | case3 x a y b h ih=>
  intro ha hb f hf;rw [zdK,if_pos h] at hf;rcases qd.1 hf with rfl | hf
  ·exact ha _ (by simp)
  ·exact ih (λg hg=>ha g (by simp [hg])) hb f hf
 | case4 x a y b h h2 ih=>
  intro ha hb f hf;rw [zdK,if_neg h,if_pos h2] at hf;rcases qd.1 hf with rfl | hf
  ·exact hb _ (by simp)
  ·exact ih ha (λg hg=>hb g (by simp [hg])) f hf
 | case5 x a y b h h2 ih=>
  intro ha hb f hf;rw [zdK,if_neg h,if_neg h2] at hf;rcases qd.1 hf with rfl | hf
  ·have h1:=ha x (by simp)
   have h2:=hb y (by simp)
   split
   ·exact h1
   ·rename_i hk;exact ⟨⟨h1.1.1,λh=>absurd h hk⟩,by show 1<=x.Exp+y.Exp; omega⟩
  ·exact ih (λg hg=>ha g (by simp [hg])) (λg hg=>hb g (by simp [hg])) f hf
theorem z8c {a b:yC} (ha:MF a) (hb:MF b):MF (zdK a b):=⟨z67 ha.1 hb.1,z7z ha.2 hb.2⟩
def EqS (n m:Nat):Prop:=n=m\/(1152921504606846976<=n/\1152921504606846976<=m)
theorem EqS.refl (n:Nat):EqS n n:=.inl rfl
theorem EqS.symm {n m:Nat} (h:EqS n m):EqS m n:=by unfold EqS at *; omega
theorem EqS.trans {n m k:Nat} (h:EqS n m) (h':EqS m k):EqS n k:=by unfold EqS at *; omega
theorem EqS.add {n m n' m':Nat} (h:EqS n n') (h':EqS m m'):EqS (n+m) (n'+m'):=by unfold EqS at *; omega
theorem EqS.mul1 {n n':Nat} (k:Nat) (h:EqS n n'):EqS (n*k) (n'*k):=by
 rcases h with rfl | ⟨h1,h2⟩
 ·exact .refl _
 ·rcases Nat.eq_zero_or_pos k with rfl | hk
  ·exact .inl (by simp)
  ·exact .inr ⟨Nat.le_trans h1 (Nat.le_mul_of_pos_right n hk),Nat.le_trans h2 (Nat.le_mul_of_pos_right n' hk)⟩
theorem EqS.mul {n m n' m':Nat} (h:EqS n n') (h':EqS m m'):EqS (n*m) (n'*m'):=by
 refine (h.mul1 m).trans ?_;rw [Nat.mul_comm n' m,Nat.mul_comm n' m'];exact h'.mul1 n'
def PA (a:yB):Prop:=Srs a/\∀ t∈a,cOK t/\MF t.Fs
theorem PA.c {a:yB} (h:PA a):∀ t∈a,cOK t:=λt ht=>(h.2 t ht).1
theorem zbat {a b:yB} (ha:PA a) (hb:PA b):PA (ztO a b):=⟨z3R _ _ ha.1,λt ht=>⟨z7Z b ha.c hb.c t ht,by
 obtain ⟨x,hx,e⟩:=zMz b a ha.1 ht;rw [e];rcases hx with hx | hx
 ·exact (ha.2 x hx).2
 ·exact (hb.2 x hx).2⟩⟩
theorem PA.nil:PA []:=⟨List.Pairwise.nil,λt ht=>by cases ht⟩
theorem zXA {c:Int} (h:c<=1152921504606846976):zMN c 1=c:=by
 unfold zMN;rw [if_neg (by rw [Int.tdiv_one]; omega)]; omega
theorem z6n {a:yB} (ha:∀ t∈a,cOK t):zv8 a [⟨1,[]⟩]=a:=by
 induction a with
 | nil=>rfl
 | cons x a ih=>
  show zPJ x ⟨1,[]⟩::zv8 a [⟨1,[]⟩]=_;rw [ih λt ht=>ha t (by simp [ht])]
  congr 1;unfold zPJ;rw [zXA (ha x (by simp)).2,z5P]
theorem z64 {a:yB} (ha:PA a):zF8 a [⟨1,[]⟩]=a:=by
 unfold zF8;rw [z6n ha.c,z9j ha.1]
theorem zbae:PA [⟨1,[]⟩]:=⟨by simp,λt ht=>by
 rw [qh] at ht; subst ht;exact ⟨⟨by decide,by decide⟩,MF.nil⟩⟩
theorem zHG {τ:Type} [Inhabited τ] {R:τ->τ->Prop}:∀ {l:List τ},l.Pairwise R->∀ k,0<k->k<l.length->R (l.getD (k - 1) default) (l.getD k default)
 | [],_,k,_,h=>by simp at h
 | x::r,h,0,h0,_=>by omega
 | x::r,h,1,_,h1=>(qi.1 h).1 _ (zT (by simpa using h1))
 | x::r,h,k+2,_,h1=>zHG (qi.1 h).2 (k+1) (by omega) (by simp only [qf] at h1; omega)
def OKF (vat:At->Bool) (fs:yC):Prop:=Srf fs/\∀ f∈fs,(1<=f.Exp/\(f.At.Kind=3\/f.At.Kind=4->f.Exp=1))/\vat f.At=true
theorem z4f {vat:At->Bool} {fs:yC}:okF vat fs=true↔OKF vat fs:=by
 constructor
 ·intro h;refine ⟨zwK (R:=λx y=>cF x y<0) (λx y z h1 h2=>zPz h1 h2) _ λk hk hl=> ?_,λf hf=>zw2 h hf⟩
  have:=zrr.1 h k (by omega) (by omega)
  simp only [zV5,qc,Bool.or_eq_true,qe] at this;rcases this.1.2 with e | e
  ·omega
  ·exact e
 ·intro h;refine zrr.2 λk _ hk=> ?_
  have hm:=h.2 _ (zT (l:=fs) (i:=k) (by omega))
  simp only [zV5,qc,Bool.or_eq_true,qe,Bool.not_eq_true',Bool.and_eq_false_iff];refine ⟨⟨⟨hm.1.1, ?_⟩, ?_⟩,hm.2⟩
  ·by_cases hk:(fs.getD k default).At.Kind=3\/(fs.getD k default).At.Kind=4
   ·right; rw [hm.1.2 hk]; rfl
   ·left
    rw [Bool.or_eq_false_iff];constructor
    ·simpa using λe=>hk (.inl e)
    ·simpa using λe=>hk (.inr e)
  ·by_cases h0:k=0
   ·exact .inl h0
   ·exact .inr (zHG h.1 k (by omega) (by omega))
theorem z7c {vat:At->Bool} {a:yB}:zCx vat a=true↔zrZ a=true/\Srs a/\∀ t∈a,cOK t/\OKF vat t.Fs:=by
 constructor
 ·intro h;have hall:=h;simp only [zCx,qc] at hall;refine ⟨hall.1,zwK (R:=λx y=>cT x y<0) (λx y z h1 h2=>zOk h1 h2) a λk hk hl=> ?_,λt ht=>⟨(zzt h ht).1,z4f.1 (zzt h ht).2⟩⟩
  have:=zrr.1 hall.2 k (by omega) (by omega)
  simp only [zOc,qc,Bool.or_eq_true,qe] at this;rcases this.1.2 with e | e
  ·omega
  ·exact e
 ·rintro ⟨h1,h2,h3⟩
  simp only [zCx,qc];refine ⟨h1,zrr.2 λk _ hk=> ?_⟩
  have hm:=h3 _ (zT (l:=a) (i:=k) (by omega))
  simp only [zOc,qc,Bool.or_eq_true,qe];refine ⟨⟨⟨hm.1.1,hm.1.2⟩, ?_⟩,z4f.2 hm.2⟩;by_cases h0:k=0
  ·exact .inl h0
  ·exact .inr (zHG h2 k (by omega) (by omega))
def QA (a:yB):Prop:=Srs a/\∀ t∈a,cOK t/\OKF zAr t.Fs
theorem z6i {a:yB}:ze7 a=true↔zrZ a=true/\QA a:=by rw [zXl]; exact z7c
theorem OKF.mf {fs:yC} (h:OKF zAr fs):MF fs:=⟨h.1,λf hf=>⟨⟨zO1 (h.2 f hf).2,(h.2 f hf).1.2⟩,(h.2 f hf).1.1⟩⟩
theorem QA.pa {a:yB} (h:QA a):PA a:=⟨h.1,λt ht=>⟨(h.2 t ht).1,(h.2 t ht).2.mf⟩⟩
theorem z6L {a:yB} (h:ze7 a=true):QA a:=(z6i.1 h).2
theorem z6E {a:yB} (h:ze7 a=true):PA a:=(z6L h).pa
theorem MF.okf {fs:yC} (h:MF fs) (hv:∀ f∈fs,zAr f.At=true):OKF zAr fs:=⟨h.1,λf hf=>⟨⟨(h.2 f hf).2,(h.2 f hf).1.2⟩,hv f hf⟩⟩
theorem OKF.join {a b:yC} (ha:OKF zAr a) (hb:OKF zAr b):OKF zAr (zdK a b):=(z8c ha.mf hb.mf).okf λf hf=>by
 obtain ⟨y,hy,e⟩:=ztA hf;rw [e];rcases hy with hy | hy
 ·exact (ha.2 y hy).2
 ·exact (hb.2 y hy).2
theorem QA.nil:QA []:=⟨List.Pairwise.nil,λt ht=>by cases ht⟩
theorem z9h {x:At} (h:x.Kind=3\/x.Kind=4):zF8 (ziD x) (ziD x)=ziD x:=by
 have e:cF ⟨x,1⟩ ⟨x,1⟩=0:=cF_self' rfl;show ztO [] [zPJ ⟨1,[⟨x,1⟩]⟩ ⟨1,[⟨x,1⟩]⟩]=_
 have:zdK [⟨x,1⟩] [⟨x,1⟩]=[⟨x,1⟩]:=by
  rw [zdK,e,if_neg (by omega),if_neg (by omega),if_pos h,zdK]
 unfold zPJ;simp only [this,zXA (show (1:Int)<=1152921504606846976 by omega)]
 rfl
def sbd {α β:Type} (x:Int⊕α) (k:α->Int⊕β):Int⊕β:=match x with
 | .inl e=>.inl e
 | .inr a=>k a
def opS (r:yB×Int):Int⊕yB:=if r.2=0 then .inr r.1 else .inl r.2
def ofS:Int⊕yB->yB×Int
 | .inl e=>([],e)
 | .inr a=>(a,0)
def z4u (b:yB):Nat->yB->Int⊕yB
 | 0,p=>.inr p
 | n+1,p=>sbd (opS (z7k p b)) (z4u b n)
mutual
def zRR (to:RowID->yB):At->Int⊕yB
 | ⟨k,r,a,f,i,o,b⟩=>if k=0 then .inr (to r) else
  sbd (zxX to a) λxs=>if k=1 then opS (z7O (xs.getD 0 default) (xs.getD 1 default)) else if k=2 then opS (z7q (xs.getD 0 default)) else if k=3 then opS (z7u (xs.getD 0 default)) else
   sbd (zuQ to i) λis=>opS (zXo f is o b)
def zta (to:RowID->yB):yC->yB->Int⊕yB
 | [],p=>.inr p
 | ⟨x,e⟩::r,p=>sbd (zRR to x) λb=>sbd (z4u b e.toNat p) λq=>zta to r q
def zq6 (to:RowID->yB):yB->yB->Int⊕yB
 | [],s=>.inr s
 | ⟨c,fs⟩::r,s=>sbd (zta to fs (zZh c)) λp=>sbd (opS (z7g s p)) λq=>zq6 to r q
def zxX (to:RowID->yB):yA->Int⊕yA
 | []=>.inr []
 | a::r=>sbd (zq6 to a []) λb=>sbd (zxX to r) λl=>.inr (b::l)
def zuQ (to:RowID->yB):yD->Int⊕yD
 | []=>.inr []
 | ⟨v,a⟩::r=>sbd (zq6 to a []) λb=>sbd (zuQ to r) λl=>.inr (⟨v,b⟩::l)
end
variable (to:RowID->yB)
def GE {α:Type} (P:α->Prop):Int⊕α->Prop
 | .inl e=>e≠0
 | .inr a=>P a
abbrev GS:Int⊕yB->Prop:=GE okA
theorem zT6 {r:yB×Int} (h:okR r):GS (opS r):=by
 unfold opS;by_cases he:r.2=0
 ·rw [if_pos he]; exact h.1
 ·rw [if_neg he]; exact he
theorem zPG {α β:Type} {P:α->Prop} {Q:β->Prop} {x:Int⊕α} {k:α->Int⊕β} (hx:GE P x) (hk:∀ a,P a->GE Q (k a)):GE Q (sbd x k):=by
 cases x with
 | inl e=>exact hx
 | inr a=>exact hk a hx
theorem z6a {b:yB} (hb:okA b):∀ (n:Nat) (p:yB),okA p->GS (z4u b n p)
 | 0,p,hp=>hp
 | n+1,p,hp=>zPG (zT6 (z8G hp hb)) λq hq=>z6a hb n q hq
abbrev GL (n:Nat):Int⊕yA->Prop:=GE λl=>l.length=n/\∀ a∈l,okA a
abbrev GI (i:yD):Int⊕yD->Prop:=GE λl=>l.length=i.length/\∀ w∈l,okA w.Ann/\∃ v∈i,v.Value=w.Value
theorem z4q (w:Wd):zDW w↔zLs w.Value/\zhr w.Ann/\w.Ann.length<=zZ:=by cases w; unfold zDW; exact Iff.rfl
theorem z6v {k f o:Int} {r:RowID} {a:yA} {i:yD} {b:Value} (h1:wf3 k) (h2:zZp r) (h3:zwr a/\a.length<=zZ) (h4:wf3 f) (h5:zr1 i/\i.length<=zZ) (h6:wf3 o) (h7:zLs b):ziG ⟨k,r,a,f,i,o,b⟩:=by
 unfold ziG; exact ⟨h1,h2,h3,h4,h5,h6,h7⟩
theorem z5E {f o:Int} {l:yD} {b:Value} (hl:l.length<=1000000) (h:∀ w∈l,okA w.Ann/\zLs w.Value) (hf:wf3 f) (ho:wf3 o) (hb:zLs b):okR (zXo f l o b):=by
 unfold zXo;cases hk:zIa f l o b with
 | false=>exact ⟨zqh,.inr rfl⟩
 | true=>
  cases hv:l.all λw=>ze7 w.Ann with
  | false=>exact ⟨zqh,.inr rfl⟩
  | true=>
   simp only [Bool.and_self,Bool.not_true,cond_false];cases decide (0<(zlp l).length) with
   | true=>
    obtain ⟨tf,ts⟩:=z61 hl hk hv;have hr:zZ=140737488351232:=rfl;have hlen:(zlp l).length<=1000000:=by rw [zXr]; exact Nat.le_trans (List.length_filter_le _ _) hl
    refine zGK ⟨⟨tf.mono (by omega),ts⟩,zCs _ λt ht=> ?_,by simp [ziD,zZ]⟩
    simp only [ziD,qh] at ht;subst ht;refine zRD ⟨by simp,by simp⟩ (λg hg=> ?_) (by simp)
    simp only [qh] at hg;subst hg;refine ⟨z6v (zSz (zSw (by omega))) ⟨zzf,zzf⟩ ⟨by unfold zwr; trivial,by simp⟩ hf ⟨zOr _ λw hw=> ?_,by omega⟩ ho hb,⟨by simp,by simp⟩⟩
    have hm:=h w (zGf hw).1;exact (z4q w).2 ⟨hm.2,hm.1.2⟩
   | false=>
    cases f==0&&z5h o (zdc 0 b.Int) with
    | true=>exact ⟨zTY 1 (by omega),.inl rfl⟩
    | false=>exact ⟨zqh,.inl rfl⟩
theorem z2v {l:yA} (h:∀ a∈l,okA a) (i:Nat):okA (l.getD i default):=by
 by_cases hi:i<l.length
 ·exact h _ (zT hi)
 ·rw [List.getD_eq_getElem?_getD,List.getElem?_eq_none (by omega)]; exact zqh
def okT (to:RowID->yB):Prop:=∀ r,zZp r->okA (to r)
variable {to}
mutual
theorem z59 (ht:okT to):∀ (x:At) (d:Nat),ziG x->zgK (zK d) x->GS (zRR to x)
 | ⟨k,r,a,f,i,o,b⟩=>λd hw hi=>by
  have hw':=zGb hw;simp only at hw';obtain ⟨⟨ha,hal⟩,⟨hit,hil⟩,hb,hk,hr,hf,ho⟩:=hw';obtain ⟨⟨l1,l2,_⟩,f1,f2⟩:=hi;simp only at l1 l2 f1 f2;rw [zRR];by_cases hk0:k=0
  ·rw [if_pos hk0]; exact ht r hr
  ·rw [if_neg hk0];have hA:=zZR ht a d (λx hx=>(zn4 ha x hx).1) f1
   refine zPG hA λxs has=> ?_
   have h0:=z2v has.2 0;have h1:=z2v has.2 1;split
   ·exact zT6 (z8Q h0 h1)
   ·split
    ·exact zT6 (z9e h0)
    ·split
     ·exact zT6 (z8v h0)
     ·have hI:=zWZ ht i d (λx hx=>(zuR hit x hx).2.1) λw hw=>(f2 w hw).2
      refine zPG hI λis his=> ?_
      refine zT6 (z5E (by omega) (λw hw=>⟨(his.2 w hw).1, ?_⟩) hf ho hb)
      obtain ⟨v,hv,e⟩:=(his.2 w hw).2;rw [<- e]; exact (zuR hit v hv).1
theorem zTt (ht:okT to):∀ (l:yC) (d:Nat),(∀ f∈l,ziG f.At/\zgK (zK d) f.At)->∀ p,okA p->GS (zta to l p)
 | [],_,_,p,hp=>by rw [zta]; exact hp
 | ⟨x,e⟩::r,d,h,p,hp=>by
  rw [zta];have hx:=z59 ht x d (h ⟨x,e⟩ (by simp)).1 (h ⟨x,e⟩ (by simp)).2
  refine zPG hx λb hb=>zPG (z6a hb _ p hp) λq hq=> ?_
  exact zTt ht r d (λf hf=>h f (by simp [hf])) q hq
theorem zVP (ht:okT to):∀ (a:yB) (d:Nat),zhr a->(∀ t∈a,∀ f∈t.Fs,zgK (zK d) f.At)->∀ s,okA s->GS (zq6 to a s)
 | [],_,_,_,s,hs=>by rw [zq6]; exact hs
 | ⟨c,fs⟩::r,d,hw,hi,s,hs=>by
  rw [zq6];have hwt:=zwA hw ⟨c,fs⟩ (by simp)
  have hp:=zTt ht fs d (λf hf=>⟨(zv7 (zug (zAO hwt).2.1 f hf)).1,hi ⟨c,fs⟩ (by simp) f hf⟩) (zZh c) (z9I c)
  refine zPG hp λp hp=>zPG (zT6 (z8U hs hp)) λq hq=> ?_
  exact zVP ht r d (zCs _ λt ht=>zwA hw t (by simp [ht])) (λt ht=>hi t (by simp [ht])) q hq
theorem zZR (ht:okT to):∀ (l:yA) (d:Nat),(∀ a∈l,zhr a)->(∀ a∈l,zK d a)->GL l.length (zxX to l)
 | [],_,_,_=>by rw [zxX]; exact ⟨rfl,λa ha=>by cases ha⟩
 | a::r,d,h,hi=>by
  rw [zxX];have hf:=hi a (by simp)
  have h1:GS (zq6 to a []):=by
   cases d with
   | zero=>exact hf.elim
   | succ d=>exact zVP ht a d (h a (by simp)) (λt ht f hf'=>(hf.2 t ht).2 f hf') [] zqh
  have h2:=zZR ht r d (λb hb=>h b (by simp [hb])) (λb hb=>hi b (by simp [hb]))
  revert h1 h2;cases zq6 to a [] with
  | inl e=>exact λh _=>h
  | inr b=>
   cases zxX to r with
   | inl e=>exact λ_ h=>h
   | inr l=>
    intro h1 h2;refine ⟨by simp [h2.1],λx hx=> ?_⟩
    rcases qd.1 hx with rfl | hx
    ·exact h1
    ·exact h2.2 x hx
theorem zWZ (ht:okT to):∀ (l:yD) (d:Nat),(∀ w∈l,zhr w.Ann)->(∀ w∈l,zK d w.Ann)->GI l (zuQ to l)
 | [],_,_,_=>by rw [zuQ]; exact ⟨rfl,λa ha=>by cases ha⟩
 | ⟨v,a⟩::r,d,h,hi=>by
  rw [zuQ];have hf:zK d a:=hi ⟨v,a⟩ (by simp)
  have h1:GS (zq6 to a []):=by
   cases d with
   | zero=>exact hf.elim
   | succ d=>exact zVP ht a d (h ⟨v,a⟩ (by simp)) (λt ht f hf'=>(hf.2 t ht).2 f hf') [] zqh
  have h2:=zWZ ht r d (λb hb=>h b (by simp [hb])) (λb hb=>hi b (by simp [hb]))
  revert h1 h2;cases zq6 to a [] with
  | inl e=>exact λh _=>h
  | inr b=>
   cases zuQ to r with
   | inl e=>exact λ_ h=>h
   | inr l=>
    intro h1 h2;refine ⟨by simp [h2.1],λx hx=> ?_⟩
    rcases qd.1 hx with rfl | hx
    ·exact ⟨h1,⟨v,a⟩,by simp,rfl⟩
    ·obtain ⟨h3,w,hw,e⟩:=h2.2 x hx;exact ⟨h3,w,by simp [hw],e⟩
end
end Go.Proofs.YtoknknbmfmddbaaGreatDoor
namespace Go.Proofs.YtoknknbmfmddbaaGreatDoor
open Go Go.Ab
end Go.Proofs.YtoknknbmfmddbaaGreatDoor
/- Substitution: both sides compute the same. -/
namespace Go.Proofs.YtoknknbmfmddbaaGreatDoor
open Go Go.Ab
def toA:yF->RowID->yB
 | [],r=>zbbj r
 | b::l,r=>if b.Row=r then b.To else toA l r
section
variable (g:At->yF->Bool×(yB×Int)) (to:yF)
end
section
variable (g:yB->yF->Bool×(yB×Int)) (to:yF)
structure XG (x:At):Prop where
 va:zAr x=true
 lens:x.Ag.length<=1000000/\x.Items.length<20
 ga:∀ a∈x.Ag,g a to=(true,ofS (zq6 (toA to) a []))/\GS (zq6 (toA to) a [])
 gi:∀ w∈x.Items,g w.Ann to=(true,ofS (zq6 (toA to) w.Ann []))/\GS (zq6 (toA to) w.Ann [])
 sa:GL x.Ag.length (zxX (toA to) x.Ag)
 si:GI x.Items (zuQ (toA to) x.Items)
 wf:ziG x
end
end Go.Proofs.YtoknknbmfmddbaaGreatDoor
end
