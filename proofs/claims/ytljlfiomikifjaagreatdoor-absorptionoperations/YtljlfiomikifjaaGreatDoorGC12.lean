/- Texts of this claim, joined (the program, its functions in plain words, and what they compute). -/
import Derived.Test.YtljlfiomikifjaaGreatDoorGC11
set_option autoImplicit false
set_option linter.unusedVariables false
set_option linter.unusedSectionVars false
set_option linter.unusedSimpArgs false
set_option maxRecDepth 1000000
set_option maxHeartbeats 0
/- Absorption: what the reference and the program compute. -/
noncomputable section
namespace Go.Proofs.YtljlfiomikifjaaGreatDoor
open Go Go.Ab
theorem zbkD (x y:At):(zba (zdm x) (zdm y)==(0:Int))=decide (x=y):=by
 rw [zhe,decide_eq_decide];exact ⟨λh=>zVT _ _ (ztQ _ _ h),λh=>by rw [h,zFq]⟩
theorem zblf {d:Nat} (s t:Term) (i:Nat) (hi:i<s.Fs.length) (hs:zbO (zm d) s.Fs) (hd:d<=99) (ht:t.Fs.length<=1000000):
  ∀ (n k:Nat) (found:Bool),t.Fs.length<k+n->k<=t.Fs.length->zEJ n i found k s t=(true,((i:Int),(found||(t.Fs.drop k).any λg=>decide ((s.Fs.getD i default).Exp<=g.Exp)&&decide ((s.Fs.getD i default).At=g.At)),s,t))
 | 0,k,found,h,h2=>by omega
 | n+1,k,found,h,h2=>by
  show (zEN i found k s t).ev (λx y=>zEJ n x.2.2.1 x.2.2.2.1 x.2.2.2.2.1 y.1 y.2.1) (λr=>(true,r)) (false,default)=_
  unfold zEN;have hf:=hs.2 _ (zr hi);by_cases hk:k<t.Fs.length
  ·have key:=λf'=>zblf s t i hi hs hd ht n (k+1) f' (by omega) (by omega)
   simp only [Wy.ev_i,Wy.ev_k,Wy.ev_h,Wy.ev_bn,Wy.ev_d,tT,hk,hi,At.eta,zpS hf hd,zbkD,zN (show k<4611686018427387904 by omega),key]
   rw [zbx hk,List.any_cons];cases found with
   | true=>simp
   | false=>
    rw [cond_false];by_cases hx:(s.Fs.getD i default).At=(t.Fs.getD k default).At
    ·rw [decide_eq_true hx]; simp
    ·rw [decide_eq_false hx]; simp
  ·simp only [Wy.ev_i,Wy.ev_k,Wy.ev_h,Wy.ev_bn,Wy.ev_d,tT,hk,zcO hk];simp
theorem zblp {d:Nat} (s t:Term) (hs:zbO (zm d) s.Fs) (hd:d<=99) (ht:t.Fs.length<=1000000):
  ∀ (n i:Nat),s.Fs.length<i+n->i<=s.Fs.length->zET n i s t=(true,bif (s.Fs.drop i).all (λf=>t.Fs.any λg=>decide (f.Exp<=g.Exp)&&decide (f.At=g.At)) then .inr () else .inl false)
 | 0,i,h,h2=>by omega
 | n+1,i,h,h2=>by
  show (zEO i s t).ev (λx y=>zET n x.2.2.1 y.1 y.2.1) (λr=>(true,r)) (false,.inl default)=_
  unfold zEO;have hl:=hs.1;by_cases hi:i<s.Fs.length
  ·have e6:=zblf s t i hi hs hd ht (i+Int.toNat (0:Int)+s.Fs.length+t.Fs.length+1000) 0 false (by omega) (by omega)
   rw [show ((0:Nat):Int)=(0:Int) from rfl,List.drop_zero,Bool.false_or] at e6
   simp only [Wy.ev_i,Wy.ev_k,Wy.ev_h,Wy.ev_bn,Wy.ev_d,tT,hi,e6,zN (show i<4611686018427387904 by omega)]
   rw [zbx hi,List.all_cons];cases t.Fs.any λg=>decide ((s.Fs.getD i default).Exp<=g.Exp)&&decide ((s.Fs.getD i default).At=g.At) with
   | false=>rfl
   | true=>
    rw [Bool.not_true,cond_false,Bool.true_and];exact zblp s t hs hd ht n (i+1) (by omega) (by omega)
  ·simp only [Wy.ev_i,Wy.ev_k,Wy.ev_h,Wy.ev_bn,Wy.ev_d,tT,hi,zcO hi];rfl
theorem zbf4 {d:Nat} {s:Term} (hs:zbO (zm d) s.Fs) (hd:d<=99) {t:Term} (ht:t.Fs.length<=1000000):zzB s t=(true,dvF s.Fs t.Fs):=by
 unfold zzB zRY;have e:=zblp s t hs hd ht (Int.toNat (0:Int)+s.Fs.length+t.Fs.length+1000) 0 (by omega) (by omega)
 rw [show ((0:Nat):Int)=(0:Int) from rfl,List.drop_zero] at e
 rw [Wy.fin_bn,e,cond_true];unfold dvF;cases s.Fs.all λf=>t.Fs.any λg=>decide (f.Exp<=g.Exp)&&decide (f.At=g.At) <;>rfl
theorem okA.fine {a:yC} (oa:okA a):zm (11+1) a:=oa.1.1
theorem okA.fac {a:yC} (oa:okA a):∀ t∈a,zbO (zm 11) t.Fs:=λt ht=>oa.fine.2 t ht
theorem okA.len {a:yC} (oa:okA a):a.length<=1000000:=oa.fine.1
theorem okA.flen {a:yC} (oa:okA a):∀ t∈a,t.Fs.length<=1000000:=λt ht=>(oa.fac t ht).1
theorem zbmH (c:Nat->Bool) (n:Nat):zek c n 0=(List.range n).all c:=by
 rw [Bool.eq_iff_iff,zdV,List.all_eq_true];constructor
 ·intro h k hk; exact h k (by omega) (by have:=List.mem_range.1 hk; omega)
 ·intro h k _ hk; exact h k (List.mem_range.2 (by omega))
def kpP (a:yC) (i:Nat) (t:Term) (k:Nat):Bool:= !(decide (k≠i)&&dvF (a.getD k default).Fs t.Fs&&(!dvF t.Fs (a.getD k default).Fs||decide (k<i)))
theorem zblt (a:yC) (ha:∀ t∈a,zbO (zm 11) t.Fs) (hl:a.length<=1000000) (i:Nat) (hi:i<a.length) (o:yC) (t:Term) (ht:zbO (zm 11) t.Fs):
  ∀ (n k m:Nat),m=a.length - k->a.length<k+n->k<=a.length->zwp n a i a (a.length:Int) i a (a.length:Int) k o t=(true,bif zek (kpP a i t) m k then .inr (a,a,(a.length:Int),(i:Int),o,t) else .inl (a,a,(a.length:Int),(i:Int),o))
 | 0,k,m,hm,h,h2=>by omega
 | n+1,k,m,hm,h,h2=>by
  show (zwZ a i a (a.length:Int) i a (a.length:Int) k o t).ev (λx y=>zwp n x.1 x.2.2.1 x.2.2.2.2.1 x.2.2.2.2.2.1 x.2.2.2.2.2.2.1 x.2.2.2.2.2.2.2.1 x.2.2.2.2.2.2.2.2.1 x.2.2.2.2.2.2.2.2.2.1 y.1 y.2.1) (λr=>(true,r)) (false,.inl default)=_
  unfold zwZ;by_cases hk:k<a.length
  ·obtain ⟨m',rfl⟩:∃ m',m=m'+1:=⟨m - 1,by omega⟩
   have key:=zblt a ha hl i hi o t ht n (k+1) m' (by omega) (by omega) (by omega)
   have hu:=ha _ (zr hk);simp only [Wy.ev_i,Wy.ev_k,Wy.ev_h,Wy.ev_bn,Wy.ev_d,tT,hk,zbmy,z8K hu (by omega) ht.1,z8K ht (by omega) hu.1,zN (show k<4611686018427387904 by omega),key]
   have e:zek (kpP a i t) (m'+1) k=(kpP a i t k&&zek (kpP a i t) m' (k+1)):=rfl;rw [e];unfold kpP;by_cases hki:k≠i
   ·rw [decide_eq_true hki];cases dvF (a.getD k default).Fs t.Fs with
    | false=>rfl
    | true=>
     cases dvF t.Fs (a.getD k default).Fs with
     | false=>rfl
     | true=>
      by_cases hlt:k<i
      ·rw [decide_eq_true hlt]; rfl
      ·rw [decide_eq_false hlt]; rfl
   ·rw [decide_eq_false hki]; rfl
  ·have hm0:m=0:=by omega
   subst hm0;simp only [Wy.ev_i,Wy.ev_k,Wy.ev_h,Wy.ev_bn,Wy.ev_d,tT,hk];rfl
theorem zbhW (a:yC) (i:Nat):zGO a i=zek (kpP a i (a.getD i default)) a.length 0:=(zbmH _ _).symm
theorem zbhN {n i:Nat} (h:i<n):(List.range n).getD i default=i:=by
 rw [List.getD_eq_getElem?_getD,List.getElem?_range h]; rfl
theorem zbhV {n i:Nat} (h:i<n):(List.range n).drop i=i::(List.range n).drop (i+1):=by
 have:=zbx (l:=List.range n) (i:=i) (by simpa using h)
 rwa [zbhN h] at this
def zWF (keep:Nat->Bool) (a:yC) (i:Nat):yC:=(((List.range a.length).drop i).filter keep).map λi=>⟨1,(a.getD i default).Fs⟩
theorem zbg2 {keep:Nat->Bool} {a:yC} {i:Nat} (h:i<a.length):zWF keep a i=(if keep i=true then [⟨1,(a.getD i default).Fs⟩] else [])++zWF keep a (i+1):=by
 unfold zWF;rw [zbhV h,List.filter_cons];split <;>rfl
theorem zbhb {keep:Nat->Bool} {a:yC} {i:Nat} (h:¬ i<a.length):zWF keep a i=[]:=by
 unfold zWF;rw [zcO (by simpa using h)]; rfl
theorem zbis (a:yC) (ha:∀ t∈a,zbO (zm 11) t.Fs) (hl:a.length<=1000000):
  ∀ (n i:Nat) (o:yC),a.length<i+n->i<=a.length->o.length<=i->zxk n a a (a.length:Int) i o=(true,o++zWF (zGO a) a i)
 | 0,i,o,h,h2,h3=>by omega
 | n+1,i,o,h,h2,h3=>by
  show (zwF a a (a.length:Int) i o).ev (λx y=>zxk n x.1 x.2.2.1 x.2.2.2.1 x.2.2.2.2.1 y.1) (λr=>(true,r)) (false,default)=_
  unfold zwF;by_cases hi:i<a.length
  ·have e6:=zblt a ha hl i hi o (a.getD i default) (ha _ (zr hi)) (a.length+i+a.length+a.length+i+a.length+a.length+Int.toNat (0:Int)+o.length+(a.getD i default).Fs.length+1000) 0 a.length (by omega) (by omega) (by omega)
   rw [show ((0:Nat):Int)=(0:Int) from rfl, <- zbhW] at e6
   simp only [Wy.ev_i,Wy.ev_k,Wy.ev_h,Wy.ev_bn,Wy.ev_d,tT,hi,e6];rw [zbg2 hi];cases zGO a i with
   | true=>
    have r1:decide ((o.length+([TO.mk (1:Int) (a.getD i default).Fs]:yC).length)*32<=zG)=true:=decide_eq_true (z5L (by simp; omega) (by omega))
    simp only [isL,getR,cond_true,cond_false,r1,zN (show i<4611686018427387904 by omega)]
    rw [zbis a ha hl n (i+1) _ (by omega) (by omega) (by simp; omega)]
    have r2:(o.length+1)*32<=zG:=z5L (by omega) (by omega)
    simp [r2]
   | false=>
    simp only [isL,getL,cond_true,cond_false,zN (show i<4611686018427387904 by omega)]
    rw [zbis a ha hl n (i+1) _ (by omega) (by omega) (by omega)]
    simp
  ·simp only [Wy.ev_i,Wy.ev_k,Wy.ev_h,Wy.ev_bn,Wy.ev_d,tT,hi,zbhb hi];simp
theorem zbi3 (a:yC):zWF (zGO a) a 0=zAk a:=rfl
theorem z9p {a:yC} (ha:∀ t∈a,zbO (zm 11) t.Fs) (hl:a.length<=1000000):zkK a=(true,zAk a):=by
 unfold zkK zHo;have e:=zbis a ha hl (a.length+a.length+a.length+Int.toNat (0:Int)+0+1000) 0 [] (by omega) (by omega) (by simp)
 rw [show ((0:Nat):Int)=(0:Int) from rfl,List.nil_append,zbi3] at e
 rw [Wy.fin_bn];simp only [tT,e,Wy.fin_k]
def kpR (a:yC) (i k:Nat):Bool:=decide (k=i)|| !dvF (a.getD k default).Fs (a.getD i default).Fs
theorem zblu (a:yC) (ha:∀ t∈a,zbO (zm 11) t.Fs) (hl:a.length<=1000000) (i:Nat) (hi:i<a.length) (o:yC):
  ∀ (n k m:Nat) (kp:Bool),m=a.length - k->a.length<k+n->k<=a.length->zAw n a i kp k o=(true,(a,(i:Int),(kp&&zek (kpR a i) m k),o))
 | 0,k,m,kp,hm,h,h2=>by omega
 | n+1,k,m,kp,hm,h,h2=>by
  show (zHm a i kp k o).ev (λx y=>zAw n x.1 x.2.2.1 x.2.2.2.1 x.2.2.2.2.1 y.1) (λr=>(true,r)) (false,default)=_
  unfold zHm;by_cases hk:k<a.length
  ·obtain ⟨m',rfl⟩:∃ m',m=m'+1:=⟨m - 1,by omega⟩
   have key:=λf'=>zblu a ha hl i hi o n (k+1) m' f' (by omega) (by omega) (by omega)
   simp only [Wy.ev_i,Wy.ev_k,Wy.ev_h,Wy.ev_bn,Wy.ev_d,tT,hk,hi,zbmz,zbf4 (ha _ (zr hk)) (by omega:11<=99) (ha _ (zr hi)).1,zN (show k<4611686018427387904 by omega),key]
   have e:zek (kpR a i) (m'+1) k=(kpR a i k&&zek (kpR a i) m' (k+1)):=rfl;rw [e];unfold kpR;cases kp with
   | false=>rfl
   | true=>
    by_cases hki:k=i
    ·rw [decide_eq_true hki]; rfl
    ·rw [decide_eq_false hki]; rfl
  ·have hm0:m=0:=by omega
   subst hm0;simp only [Wy.ev_i,Wy.ev_k,Wy.ev_h,Wy.ev_bn,Wy.ev_d,tT,hk];show (true,(a,(i:Int),kp,o))=_;rw [show zek (kpR a i) 0 k=true from rfl,Bool.and_true]
def z27 (a:yC) (i:Nat):Bool:=zek (kpR a i) a.length 0
theorem zbhR (a:yC) (ha:∀ t∈a,zbO (zm 11) t.Fs) (hl:a.length<=1000000):
  ∀ (n i:Nat) (o:yC),a.length<i+n->i<=a.length->o.length<=i->zG4 n a i o=(true,o++zWF (z27 a) a i)
 | 0,i,o,h,h2,h3=>by omega
 | n+1,i,o,h,h2,h3=>by
  show (zGz a i o).ev (λx y=>zG4 n x.1 x.2.2.1 y.1) (λr=>(true,r)) (false,default)=_
  unfold zGz;by_cases hi:i<a.length
  ·have e7:=zblu a ha hl i hi o (a.length+i+Int.toNat (0:Int)+o.length+1000) 0 a.length true (by omega) (by omega) (by omega)
   rw [show ((0:Nat):Int)=(0:Int) from rfl,Bool.true_and] at e7
   replace e7:zAw (a.length+i+Int.toNat (0:Int)+o.length+1000) a i true 0 o=(true,(a,(i:Int),z27 a i,o)):=e7;simp only [Wy.ev_i,Wy.ev_k,Wy.ev_h,Wy.ev_bn,Wy.ev_d,tT,hi,e7];rw [zbg2 hi];have r1:decide ((o.length+([TO.mk (1:Int) (a.getD i default).Fs]:yC).length)*32<=zG)=true:=decide_eq_true (z5L (by simp; omega) (by omega))
   cases z27 a i with
   | true=>
    simp only [cond_true,cond_false,r1,zN (show i<4611686018427387904 by omega)]
    rw [zbhR a ha hl n (i+1) _ (by omega) (by omega) (by simp; omega)]
    simp
   | false=>
    simp only [cond_true,cond_false,zN (show i<4611686018427387904 by omega)]
    rw [zbhR a ha hl n (i+1) _ (by omega) (by omega) (by omega)]
    simp
  ·simp only [Wy.ev_i,Wy.ev_k,Wy.ev_h,Wy.ev_bn,Wy.ev_d,tT,hi,zbhb hi];simp
theorem zbjs {a:yC} (h:Canon a) {i:Nat} (hi:i<a.length):z27 a i=zTg a (a.getD i default):=by
 unfold z27;rw [Bool.eq_iff_iff,zdV,zWs];unfold kpR;constructor
 ·intro hk u hu hd;obtain ⟨k,hkl,rfl⟩:=zzR hu;by_cases e:k=i
  ·rw [e]
  ·have:=hk k (by omega) (by omega)
   rw [hd,decide_eq_false e] at this; cases this
 ·intro hm k _ hk;by_cases e:k=i
  ·rw [decide_eq_true e]; rfl
  ·rw [decide_eq_false e,Bool.false_or];cases hd:dvF (a.getD k default).Fs (a.getD i default).Fs with
   | false=>rfl
   | true=>
    have:=hm _ (zr (by omega:k<a.length)) hd
    exact absurd (zbd9 h.dst (by omega) hi this) e
theorem zbcd {a:yC} (ha:∀ t∈a,zbO (zm 11) t.Fs) (hl:a.length<=1000000) (hc:Canon a):zxd a=(true,zx4 a):=by
 unfold zxd zVh;have e:=zbhR a ha hl (a.length+Int.toNat (0:Int)+0+1000) 0 [] (by omega) (by omega) (by simp)
 rw [show ((0:Nat):Int)=(0:Int) from rfl,List.nil_append] at e
 rw [Wy.fin_bn,e,cond_true,Wy.fin_k];congr 1;unfold zWF zx4;rw [List.drop_zero, <- zMU (zTg a) a,List.map_map]
 have:(List.range a.length).filter (z27 a)=(List.range a.length).filter λi=>zTg a (a.getD i default):=by
  refine List.filter_congr λi hi=> ?_
  exact zbjs hc (List.mem_range.1 hi)
 rw [this]; rfl
section
variable {α β ρ σ τ:Type} [Inhabited τ]
def z8u (f:σ->τ->σ⊕ρ):List τ->σ->σ⊕ρ
 | [],s=>.inl s
 | x::r,s=>match f s x with
  | .inl u=>z8u f r u
  | .inr v=>.inr v
def zbk3 (res:σ->ρ):σ⊕ρ->ρ
 | .inl s=>res s
 | .inr v=>v
theorem z8G {W:α->β->Wy α β ρ} {z:ρ} (l:List τ) (ex:Nat->σ->α) (ey:Nat->σ->β) (f:σ->τ->σ⊕ρ) (res:σ->ρ) (I:Nat->σ->Prop)
  (h:∀ i s,i<l.length->I i s->(∀ u,f s (l.getD i default)=.inl u->I (i+1) u)/\∀ (H:α->β->Bool×ρ) K D,(W (ex i s) (ey i s)).ev H K D=match f s (l.getD i default) with | .inl u=>H (ex (i+1) u) (ey (i+1) u) | .inr v=>K v)
  (he:∀ s,I l.length s->∀ (H:α->β->Bool×ρ) K D,(W (ex l.length s) (ey l.length s)).ev H K D=K (res s)):
  ∀ n i s,l.length<i+n->i<=l.length->I i s->zy W z n (ex i s) (ey i s)=(true,zbk3 res (z8u f (l.drop i) s))
 | 0,i,s,h1,h2,_=>by omega
 | n+1,i,s,h1,h2,hI=>by
  show (W (ex i s) (ey i s)).ev (zy W z n) (λr=>(true,r)) (false,z)=_
  by_cases hi:i<l.length
  ·obtain ⟨a1,a2⟩:=h i s hi hI;rw [a2,zbx hi];show _=(true,zbk3 res (match f s (l.getD i default) with | .inl u=>z8u f (l.drop (i+1)) u | .inr v=>.inr v))
   cases hf:f s (l.getD i default) with
   | inl u=>exact z8G l ex ey f res I h he n (i+1) u (by omega) (by omega) (a1 u hf)
   | inr v=>rfl
  ·have:i=l.length:=by omega
   subst this;rw [he s hI,zcO hi]; rfl
theorem zbgg {W:α->β->Wy α β ρ} {z:ρ} (l:List τ) (ex:Nat->σ->α) (ey:Nat->σ->β) (f:σ->τ->σ⊕ρ) (res:σ->ρ) (I:Nat->σ->Prop)
  (h:∀ i s,i<l.length->I i s->(∀ u,f s (l.getD i default)=.inl u->I (i+1) u)/\∀ (H:α->β->Bool×ρ) K D,(W (ex i s) (ey i s)).ev H K D=match f s (l.getD i default) with | .inl u=>H (ex (i+1) u) (ey (i+1) u) | .inr v=>K v)
  (he:∀ s,I l.length s->∀ (H:α->β->Bool×ρ) K D,(W (ex l.length s) (ey l.length s)).ev H K D=K (res s)) (n:Nat) (s:σ) (hn:l.length<n) (h0:I 0 s):
  zy W z n (ex 0 s) (ey 0 s)=(true,zbk3 res (z8u f l s)):=by
 have:=z8G (z:=z) l ex ey f res I h he n 0 s (by omega) (by omega) h0
 simpa using this
theorem zD7 {W:α->β->Wy α β ρ} {z:ρ} (l:List τ) (ex:Nat->σ->α) (ey:Nat->σ->β) (f:σ->τ->σ) (res:σ->ρ) (I:Nat->σ->Prop)
  (h:∀ i s,i<l.length->I i s->I (i+1) (f s (l.getD i default))/\∀ (H:α->β->Bool×ρ) K D,(W (ex i s) (ey i s)).ev H K D=H (ex (i+1) (f s (l.getD i default))) (ey (i+1) (f s (l.getD i default))))
  (he:∀ s,I l.length s->∀ (H:α->β->Bool×ρ) K D,(W (ex l.length s) (ey l.length s)).ev H K D=K (res s)) (n:Nat) (s:σ) (hn:l.length<n) (h0:I 0 s):
  zy W z n (ex 0 s) (ey 0 s)=(true,res (l.foldl f s)):=by
 have e:=zbgg (z:=z) l ex ey (λs x=>(.inl (f s x):σ⊕ρ)) res I (λi s hi hs=>⟨λu hu=>by rw [Sum.inl.injEq] at hu; rw [<- hu]; exact (h i s hi hs).1,(h i s hi hs).2⟩) he n s hn h0
 rw [e]
 have k:∀ (l:List τ) (s:σ),z8u (λs x=>(.inl (f s x):σ⊕ρ)) l s=.inl (l.foldl f s):=by
  intro l;induction l with
  | nil=>intro s; rfl
  | cons x r ih=>intro s; exact ih _
 rw [k]; rfl
end
def zbfC (s:yF) (st:Bool×yB) (y:yF):Bool×yB:=
 if sub s y=true then st else if st.1=false/\cS s y<0 then (true,st.2++[s]++[y]) else (st.1,st.2++[y])
theorem zbgC (a:yC):(zx4 a).length<=a.length:=by
 unfold zx4;rw [List.length_map]; exact List.length_filter_le _ _
theorem zbgZ {a:yC} (oa:okA a) (hv:zF a=true):okA (zx4 a):=by
 obtain ⟨_,hl,ht⟩:=zkr hv oa.2.1;refine zTR (by have:=zbgC a; omega) λt h=> ?_
 obtain ⟨u,hu,_,rfl⟩:=zEY.1 h;have g:=(ht u hu).1;exact ⟨⟨by show (1:Int)<=1; omega,by show (1:Int)<=1152921504606846976; omega⟩,g.2.1,g.2.2⟩
theorem zbnC {a:yC} (h:zbt a):zbt (zx4 a):=zuv.2 λt ht f hf=>by
 obtain ⟨u,hu,_,rfl⟩:=zEY.1 ht;exact zuv.1 h u hu f hf
theorem zbmu {a:yC} (hv:zF a=true):zLE a []=(a,0):=by
 unfold zLE opR;rw [hv];show ofS (zck (toA []) a [])=_;rw [show toA []=zvA from rfl,zbnd hv]; rfl
theorem zbcj {a:yC} (oa:okA a) (hv:zF a=true) (hs:zbt a):zl1 a=(true,a):=by
 unfold zl1 zHV;rw [Wy.fin_bn,(zLQ oa (λ_=>hs) ⟨by simp,λb hb=>by cases hb⟩).1,cond_true,Wy.fin_k,zbmu hv]
theorem z98 {a:yC} (h:zF a=false):nfA a=[]:=by unfold nfA; rw [h]; rfl
theorem zbjv {a:yC} (oa:okA a):okA (nfA a):=by
 cases hv:zF a with
 | false=>rw [z98 hv]; exact zhB
 | true=>rw [zbfc hv]; exact zbgZ oa hv
theorem zbcg {a:yC} (oa:okA a) (hs:zF a=true->zbt a):zjl a=(true,nfA a):=by
 unfold zjl zH2;rw [Wy.fin_bn,oa.valid,cond_true,Wy.fin_i];cases hv:zF a with
 | false=>rw [z98 hv]; rfl
 | true=>
  rw [Bool.not_true,cond_false,Wy.fin_bn,z9p oa.fac oa.len,cond_true,zbh2 (zEB hv).canon,Wy.fin_bn,zbcj (zbgZ oa hv) (zbiZ hv) (zbnC (hs hv)),cond_true,Wy.fin_k,zbfc hv]
theorem z7A {a:yC} (oa:okA a):zws a=(true,nfA a):=by
 unfold zws zVq;rw [Wy.fin_bn,oa.rvalid,cond_true,Wy.fin_i];cases hv:zF a with
 | false=>rw [z98 hv]; rfl
 | true=>rw [Bool.not_true,cond_false,Wy.fin_bn,zbcd oa.fac oa.len (zEB hv).canon,cond_true,Wy.fin_k,zbfc hv]
theorem zbmF {a b:yC} (ha:zF a=true->zbt a) (hb:zF b=true->zbt b):zbt (zxm a b).1:=zWy λhv=>by
 rw [qc] at hv;exact zKh (zbiA (zEB hv.1).1 (ha hv.1) (hb hv.2))
theorem zblE {a b:yC} (ha:zF a=true->zbt a) (hb:zF b=true->zbt b):zbt (zu2 a b).1:=zWy λhv=>by
 rw [qc] at hv;exact zKh (zbgL (ha hv.1) (hb hv.2))
theorem zblP {a b:yC} (oa:okA a) (ob:okA b) (ha:zF a=true->zbt a) (hb:zF b=true->zbt b):zxg a b=(true,(nfA (zxm a b).1,(zxm a b).2)):=by
 unfold zxg zOo;rw [Wy.fin_bn,(zbfb oa ob).1,cond_true,Wy.fin_bn,zbcg (zN5 oa ob).1 (λ_=>zbmF ha hb),cond_true,Wy.fin_k]
theorem zbl9 {a b:yC} (oa:okA a) (ob:okA b) (ha:zF a=true->zbt a) (hb:zF b=true->zbt b):zwy a b=(true,(nfA (zu2 a b).1,(zu2 a b).2)):=by
 unfold zwy zOx;rw [Wy.fin_bn,(zbdK oa ob).1,cond_true,Wy.fin_bn,zbcg (zN8 oa ob).1 (λ_=>zblE ha hb),cond_true,Wy.fin_k]
theorem zbkI {a b:yC} (oa:okA a) (ob:okA b):zK8 a b=(true,(nfA (zxm a b).1,(zxm a b).2)):=by
 unfold zK8 z5r;rw [Wy.fin_bn,(zbfb oa ob).2,cond_true,Wy.fin_bn,z7A (zN5 oa ob).1,cond_true,Wy.fin_k]
theorem zbkm {a b:yC} (oa:okA a) (ob:okA b):zJP a b=(true,(nfA (zu2 a b).1,(zu2 a b).2)):=by
 unfold zJP z44;rw [Wy.fin_bn,(zbdK oa ob).2,cond_true,Wy.fin_bn,z7A (zN8 oa ob).1,cond_true,Wy.fin_k]
theorem zbdk {a:yC} (oa:okA a) (b:yC):ziN a b=(true,decide (a=b)):=zEo oa.1.1 (by omega) b
theorem zboJ {n:Nat} (hn:n<=1000) {a b:yC} (ha:z6m a) (hb:z6m b):∃ q,zBI (n:Int) [a,b]=(true,q)/\(q=true->(okA a/\zez a<=n)/\okA b/\zez b<=n):=by
 obtain ⟨q,h1,h2⟩:=zbnM n hn [a,b] (by simp) (λx hx=>by
  simp only [qd,List.not_mem_nil,or_false] at hx;rcases hx with rfl | rfl
  ·exact ha
  ·exact hb)
 exact ⟨q,h1,λh=>⟨⟨zbgP hn (h2 h a (by simp)) ha,(h2 h a (by simp)).2⟩,zbgP hn (h2 h b (by simp)) hb,(h2 h b (by simp)).2⟩⟩
def zym (t:Term):Term:=⟨t.Cf,ziW t.Fs⟩
def zk7 (t:Term):Term:=⟨1,ziW t.Fs⟩
def zIK (a:yC):yC:=zx4 (zdS [] (a.map zk7))
theorem zyR (l:yD):(ziW l).length=l.length:=by unfold ziW; rw [List.length_map]
theorem zbez:∀ l:yD,zby (ziW l)=zby l
 | []=>rfl
 | f::r=>by
  show zby (⟨f.At,1⟩::ziW r)=_;rw [zcC,zcC,zbez r]
theorem zbeB:∀ l:yD,zcF (ziW l)=zcF l
 | []=>rfl
 | f::r=>by
  show zcF (⟨f.At,1⟩::ziW r)=_;rw [zf0,zf0,zbeB r]
theorem zbeL (t:Term):∀ l:yC,zK (ze6 t l)<=zK l+(1+t.Fs.length+zby t.Fs)/\zbh (ze6 t l)<=max (zbh l) (zcF t.Fs)
 | []=>by
  unfold ze6;rw [zcp,zex];exact ⟨by omega,by omega⟩
 | x::r=>by
  obtain ⟨h1,h2⟩:=zbeL t r;unfold ze6;split
  ·rw [zcp,zcp,zex,zex];exact ⟨by omega,by omega⟩
  ·split
   ·rw [zcp,zcp,zex,zex];exact ⟨by simp only; omega,by simp only; omega⟩
   ·rw [zcp,zcp x r,zex,zex x r];exact ⟨by omega,by omega⟩
theorem zbgx:∀ (a o:yC),zK (zdS o (a.map zk7))<=zK o+zK a/\zbh (zdS o (a.map zk7))<=max (zbh o) (zbh a)
 | [],o=>by
  show zK o<=_/\zbh o<=_;exact ⟨by omega,by omega⟩
 | t::r,o=>by
  obtain ⟨h1,h2⟩:=zbgx r (ze6 (zk7 t) o);obtain ⟨h3,h4⟩:=zbeL (zk7 t) o;rw [show (zk7 t).Fs=ziW t.Fs from rfl,zbez,zbeB,zyR] at *
  show zK (zdS (ze6 (zk7 t) o) (r.map zk7))<=_/\zbh (zdS (ze6 (zk7 t) o) (r.map zk7))<=_;rw [zcp,zex];exact ⟨by omega,by omega⟩
theorem z2Z (a:yC) (L:yD):(∃ t∈zdS [] (a.map zk7),t.Fs=L)↔∃ t∈a,ziW t.Fs=L:=by
 rw [zbhh (a.map zk7) [] .nil];simp only [List.not_mem_nil,false_and,exists_false,false_or,List.mem_map];constructor
 ·rintro ⟨x,⟨t,ht,rfl⟩,e⟩; exact ⟨t,ht,e⟩
 ·rintro ⟨t,ht,e⟩; exact ⟨zk7 t,⟨t,ht,rfl⟩,e⟩
theorem z1U {a:yC} (h:Canon a):Canon (zdS [] (a.map zk7)):=by
 refine ⟨(zIN (a.map zk7) [] .nil).imp λ{x y} hxy=>by rw [zbdm]; exact hxy,λt ht=> ?_⟩
 obtain ⟨u,hu,e⟩:=(z2Z a _).1 ⟨t,ht,rfl⟩;rw [<- e]; exact zbfg (h.fac u hu)
theorem z9w (t:Term):cOK (zk7 t):=⟨by show (1:Int)<=1; omega,by show (1:Int)<=1152921504606846976; omega⟩
theorem zWN {a:yC} {t:Term} (h:t∈zIK a):∃ u∈a,t=⟨1,ziW u.Fs⟩:=by
 obtain ⟨u,hu,_,rfl⟩:=zEY.1 h;obtain ⟨v,hv,e⟩:=(z2Z a _).1 ⟨u,hu,rfl⟩;exact ⟨v,hv,by rw [e]⟩
theorem zbdN {a:yC} (oa:okA a) (hv:zF a=true):okA (zIK a):=by
 obtain ⟨_,hl,ht⟩:=zkr hv oa.2.1;refine zTR ?_ λt h=> ?_
 ·have h1:=zbgC (zdS [] (a.map zk7));have h2:=zwn (a.map zk7) [];rw [List.length_map] at h2;unfold zIK;simp only [List.length_nil] at h2; omega
 ·obtain ⟨u,hu,rfl⟩:=zWN h;have g:=(ht u hu).1;refine ⟨z9w u,by show (ziW u.Fs).length<=1000; rw [zyR]; exact g.2.1,λf hf=> ?_⟩
  obtain ⟨x,hx,rfl⟩:=List.mem_map.1 hf;exact ⟨(g.2.2 x hx).1,by show (1:Int)<=1; omega,by show (1:Int)<=1000000; omega⟩
theorem zbmt {a:yC} (h:zbt a):zbt (zIK a):=zuv.2 λt ht f hf=>by
 obtain ⟨u,hu,rfl⟩:=zWN ht;obtain ⟨x,hx,rfl⟩:=List.mem_map.1 hf;exact zuv.1 h u hu x hx
theorem zbhM {a:yC} (hv:zF a=true):zF (zIK a)=true:=by
 have q:=zPu hv;obtain ⟨w1,w2,w3,w4⟩:=zuS.1 (z9y hv);have hc:=z1U q.pa.canon;have hr:=zWJ hc;have hsr:Srs (zIK a):=hr.asc.imp λ{x y} hxy=>by rw [zbdm] at hxy; exact hxy
 obtain ⟨s1,s2,s3⟩:=zRr _ _ (zIN (a.map zk7) [] .nil) hsr (zbg8 (zdS [] (a.map zk7)));obtain ⟨z1,z2⟩:=zbgx a [];rw [zqd] at z1;rw [zCL] at z2;have h2:=zwn (a.map zk7) [];rw [List.length_map] at h2;simp only [List.length_nil] at h2;have s1':(zIK a).length<=_:=s1;have s2':zK (zIK a)<=_:=s2;have s3':zbh (zIK a)<=_:=s3;refine zqs.2 ⟨zuS.2 ⟨by omega,by omega,by omega,λt ht=> ?_⟩,hsr,λt ht=> ?_⟩
 ·obtain ⟨u,hu,rfl⟩:=zWN ht;obtain ⟨v1,v2⟩:=w4 u hu;refine ⟨by show (ziW u.Fs).length<=64; rw [zyR]; exact v1,λf hf=> ?_⟩
  obtain ⟨x,hx,rfl⟩:=List.mem_map.1 hf;exact ⟨by show (1:Int)<=64; omega,(v2 x hx).2⟩
 ·obtain ⟨u,hu,rfl⟩:=zWN ht;refine ⟨z9w u, ?_,λf hf=> ?_⟩
  ·have:=(q.2 u hu).2.1;show Srf (ziW u.Fs);unfold ziW Srf;rw [List.pairwise_map]; exact this
  ·obtain ⟨x,hx,rfl⟩:=List.mem_map.1 hf;exact ⟨⟨by show (1:Int)<=1; omega,λ_=>rfl⟩,((q.2 u hu).2.2 x hx).2⟩
theorem zbjF (fs:yD) {i:Nat} (h:i<fs.length):(ziW (fs.take i)++fs.drop i).getD i default=fs.getD i default:=by
 rw [zbx h,List.getD_eq_getElem?_getD,List.getElem?_append_right (by rw [zyR,List.length_take]; omega)]
 rw [zyR,List.length_take,show i - min i fs.length=0 by omega]; rfl
theorem zbjR (fs:yD) {i:Nat} (h:i<fs.length):(ziW (fs.take i)++fs.drop i).set i ⟨(fs.getD i default).At,1⟩=ziW (fs.take (i+1))++fs.drop (i+1):=by
 rw [zbx h,List.set_append_right _ _ (by rw [zyR,List.length_take]; omega),zyR,List.length_take,show i - min i fs.length=0 by omega,ziL h]
 unfold ziW;rw [List.map_append]; simp
theorem zboi (t11:yC) (t12 t13:Int) (fs:yD) (flat:yC) (c:Int) (hl:fs.length<=1000000) (n:Nat) (hn:fs.length<n):zw4 n t11 t12 t13 fs.length 0 flat c fs=(true,(t11,t12,t13,flat,c,ziW fs)):=by
 have h:=zdW (W:=zw2) (z:=default) fs.length (λi=>((),(),t11,t12,t13,(fs.length:Int),(i:Int),())) (λi=>(flat,(c,(),()),ziW (fs.take i)++fs.drop i,())) (λ_=>true) default (t11,t12,t13,flat,c,ziW fs)
  (λi hi H K D=>by
   show (zkA t11 t12 t13 fs.length i flat c (ziW (fs.take i)++fs.drop i)).ev H K D=_;unfold zkA;have hlen:(ziW (fs.take i)++fs.drop i).length=fs.length:=by rw [qg,zyR,List.length_take,List.length_drop]; omega
   simp only [Wy.ev_i,Wy.ev_k,Wy.ev_h,Wy.ev_bn,Wy.ev_d,tT,hlen,hi,At.eta,zbjF fs hi];rw [zN (by omega),zbjR fs hi])
  (λH K D=>by
   show (zkA t11 t12 t13 fs.length fs.length flat c (ziW (fs.take fs.length)++fs.drop fs.length)).ev H K D=_;unfold zkA;simp only [Wy.ev_i,Wy.ev_k,tT,Nat.lt_irrefl,List.take_length,List.drop_length,List.append_nil]) n hn
 rw [show zek (λ_=>true) fs.length 0=true from zdV.2 λ_ _ _=>rfl] at h
 have h:zw4 n t11 t12 t13 fs.length 0 flat c (ziW (fs.take 0)++fs.drop 0)=_:=h;rw [List.take_zero,List.drop_zero] at h;exact h
theorem zbow (a:yC) (hl:a.length<=1000000) (hf:∀ t∈a,t.Fs.length<=1000000) (n:Nat) (hn:a.length<n):zww n a a.length 0 []=(true,a.map zym):=by
 have hreach:zG=70368744177664:=rfl
 have h:=zD7 (W:=zwC) (z:=default) a (λi _=>((),a,(a.length:Int),(i:Int),())) (λ_ s=>(s,())) (λs t=>s++[zym t]) id (λi s=>s.length=i)
  (λi s hi hI=>by
   refine ⟨by simp [hI],λH K D=> ?_⟩
   show (zkJ a a.length i s).ev H K D=_;unfold zkJ zc7;have hm:=hf _ (zr hi);have e9:=zboi a (a.length:Int) (i:Int) (a.getD i default).Fs s (a.getD i default).Cf hm;have gb:∀ x:Term,decide ((s.length+[x].length)*32<=zG)=true:=λx=>by rw [qe,List.length_singleton]; omega
   have gb2:decide ((a.getD i default).Fs.length*128<=zG)=true:=by rw [qe]; omega
   simp only [Wy.ev_i,Wy.ev_k,Wy.ev_h,Wy.ev_bn,Wy.ev_d,tT,hi];rw [e9 _ (by omega)]
   simp only [cond_true,gb,gb2];rw [zN (by omega)]; rfl)
  (λs hI H K D=>by
   show (zkJ a a.length a.length s).ev H K D=_;unfold zkJ;simp only [Wy.ev_i,Wy.ev_k,tT,Nat.lt_irrefl]; rfl) n [] hn rfl
 have h:zww n a a.length 0 []=_:=h;rw [h]
 have k:∀ (l s:yC),l.foldl (λs t=>s++[zym t]) s=s++l.map zym:=by
  intro l;induction l with
  | nil=>intro s; simp
  | cons t r ih=>intro s; rw [List.foldl_cons,ih]; simp
 rw [k]; rfl
def cO (x y:Term):Int:=zba (.l (zcQ [x])) (.l (zcQ [y]))
theorem zRv (x:Term):zcQ [x]=[zt5 x]:=by rw [zcQ,zcQ]
theorem zboT:Ord3 cO:=zXd (λa=>.l (zcQ [a])) λa b h=>by
 have:=TT.l.inj h;rw [zRv,zRv,qj] at this;exact z8T _ _ this.1
theorem zbn9 (c:Int) (F G:yD):cO ⟨c,F⟩ ⟨c,G⟩=cL F G:=by
 unfold cO cL;rw [zRv,zRv,zt5,zt5,zba,zbK,zbK,zba,zbK];by_cases h:zba (TT.l (zbD F)) (TT.l (zbD G))=0
 ·rw [if_pos h,zbK,zba,zbiK,zbK,h]; rfl
 ·rw [if_neg h,if_neg h]
theorem zbol {d:Nat} {t:Term} (h:zbO (zm d) t.Fs):zm (d+1) [t]:=⟨by simp,λu hu=>by rw [qh.1 hu]; exact h⟩
theorem zbjb {d:Nat} (hd:d<=99) {t:Term} (h:zbO (zm d) t.Fs) (u:Term):zbX t u=(true,cO t u):=by
 unfold zbX zCT;rw [Wy.fin_bn,zFy (zbol h) (by omega)]
 show _=(true,zba _ _);rw [zba]; rfl
theorem z5U {a:yC} {d:Nat} (h:∀ t∈a,zbO (zm d) t.Fs):∀ t∈a.map zym,zbO (zm d) t.Fs:=λt ht=>by
 obtain ⟨u,hu,rfl⟩:=List.mem_map.1 ht;refine ⟨by show (ziW u.Fs).length<=1000000; rw [zyR]; exact (h u hu).1,λf hf=> ?_⟩
 obtain ⟨x,hx,rfl⟩:=List.mem_map.1 hf;exact (h u hu).2 x hx
theorem zbiw {a:yC} (oa:okA a) (hs:zF a=true->zbt a):zod a=(true,if zF a=true then (zIK a,0) else ([],1)):=by
 unfold zod zGs;rw [Wy.fin_bn,oa.valid,cond_true,Wy.fin_i];cases hv:zF a with
 | false=>rfl
 | true=>
  have hsf:=z5U oa.fac;have hlm:(a.map zym).length<=1000000:=by rw [List.length_map]; exact oa.len
  have e5:=zbow a oa.len oa.flen (a.length+(Int.ofNat a.length).toNat +Int.toNat (0:Int)+(0:Nat)+(1000:Nat)) (by omega)
  rw [show Int.ofNat a.length=(a.length:Int) from rfl] at e5
  rw [Bool.not_true,cond_false,if_pos rfl,Wy.fin_bn,show Int.ofNat a.length=(a.length:Int) from rfl,e5,cond_true,Wy.fin_bn,z9p hsf hlm,cond_true,Wy.fin_bn]
  have hgf:∀ t∈zAk (a.map zym),zbO (zm 11) t.Fs/\∃ F,t=⟨1,F⟩:=λt ht=>by
   obtain ⟨i,hi,_,rfl⟩:=zbdM.1 ht;exact ⟨hsf ((a.map zym).getD i default) (zr hi),_,rfl⟩
  have hgl:=zbj4 (a.map zym);have ok:SortOK zbX (zAk (a.map zym)):=zbiL zboT (by omega) λx hx y hy=>zbjb (by omega) (hgf x hx).1 y
  have hsort:zbv (zAk (a.map zym))=(true,zhp zbX (zAk (a.map zym))):=by
   unfold zbv zu7;rw [decide_eq_true ok]
  rw [hsort,cond_true];have hperm:=zkg zbX (zAk (a.map zym));have hasc:=z1Z ok.ntrans ok.asymm (zAk (a.map zym)) λ_ h=>h
  have key:zhp zbX (zAk (a.map zym))=zIK a:=by
   refine zbmN (a:=a.map zym) (λt ht=> ?_) hperm ?_ (z1U (zEB hv).canon) λL=> ?_
   ·obtain ⟨u,hu,rfl⟩:=List.mem_map.1 ht;exact zbfg ((zEB hv).canon.fac u hu)
   ·refine List.Pairwise.imp_of_mem (λ{t u} ht hu h=> ?_) hasc
    obtain ⟨fu,U,rfl⟩:=hgf u (hperm.mem_iff.1 hu);obtain ⟨ft,T,rfl⟩:=hgf t (hperm.mem_iff.1 ht);rw [zbjb (by omega) fu] at h
    simp only [zbn9] at h;exact h
   ·rw [z2Z];constructor
    ·rintro ⟨t,ht,e⟩; exact ⟨zym t,List.mem_map.2 ⟨t,ht,rfl⟩,e⟩
    ·rintro ⟨t,ht,e⟩
     obtain ⟨u,hu,rfl⟩:=List.mem_map.1 ht;exact ⟨u,hu,e⟩
  rw [key,Wy.fin_bn,zbcj (zbdN oa hv) (zbhM hv) (zbmt (hs hv)),cond_true,Wy.fin_k]
theorem zbn2 (a:yC) (i:Nat) (hi:i<a.length) (out:yC) (c:Int) (hl:(a.getD i default).Fs.length<=1000000) (n:Nat) (hn:(a.getD i default).Fs.length<n):zEz n a i 0 out c []=(true,(a,(i:Int),out,c,ziW (a.getD i default).Fs)):=by
 have hreach:zG=70368744177664:=rfl
 have h:=zD7 (W:=zEW) (z:=default) (a.getD i default).Fs (λk _=>(a,(),(i:Int),(),(k:Int),())) (λ_ s=>(out,(c,(),()),s,())) (λs f=>s++[⟨f.At,1⟩]) (λs=>(a,(i:Int),out,c,s)) (λk s=>s.length=k)
  (λk s hk hI=>by
   refine ⟨by simp [hI],λH K D=> ?_⟩
   show (zrc a i k out c s).ev H K D=_;unfold zrc;have gb:∀ x:Fc,decide ((s.length+[x].length)*128<=zG)=true:=λx=>by rw [qe,List.length_singleton]; omega
   simp only [Wy.ev_i,Wy.ev_k,Wy.ev_h,Wy.ev_bn,Wy.ev_d,tT,hi,hk,At.eta,gb];rw [zN (by omega)])
  (λs hI H K D=>by
   show (zrc a i (a.getD i default).Fs.length out c s).ev H K D=_;unfold zrc;simp only [Wy.ev_i,Wy.ev_k,tT,hi,Nat.lt_irrefl]) n [] hn rfl
 have h:zEz n a i 0 out c []=_:=h;rw [h]
 have k:∀ (l s:yD),l.foldl (λs f=>s++[⟨f.At,1⟩]) s=s++ziW l:=by
  intro l;induction l with
  | nil=>intro s; simp [ziW]
  | cons t r ih=>intro s; rw [List.foldl_cons,ih]; simp [ziW]
 rw [k]; rfl
theorem zbm5 {a:yC} (oa:okA a) (hF:∀ t∈a,t.Fs.length<=1000) (hl:a.length<=500000) (n:Nat) (hn:a.length<n):zEF n a 0 []=(true,zdS [] (a.map zk7)):=by
 have h:=zD7 (W:=zER) (z:=default) a (λi _=>(a,(),(i:Int),())) (λ_ s=>(s,())) (λs t=>ze6 (zk7 t) s) id
  (λi s=>s.length<=i/\(∀ x∈s,zbO (zm 11) x.Fs)/\(∀ x∈s,cOK x)/\Srs s)
  (λi s hi hI=>by
   have hm:=zr hi
   have hff:zbO (zm 11) (zk7 (a.getD i default)).Fs:=by
    have:=z5U (a:=[a.getD i default]) (λt ht=>by rw [qh.1 ht]; exact oa.fac _ hm) (zym (a.getD i default)) (by simp)
    exact this
   refine ⟨⟨by have:=zTW (t:=zk7 (a.getD i default)) s; omega,λx hx=> ?_,zbdo (z9w _) hI.2.2.1,zzS hI.2.2.2⟩,λH K D=> ?_⟩
   ·rcases (zbhj hI.2.2.2 x.Fs).1 ⟨x,hx,rfl⟩ with ⟨y,hy,e⟩ | e
    ·rw [<- e]; exact hI.2.1 y hy
    ·rw [<- e]; exact hff
   ·show (zrb a i s).ev H K D=_;unfold zrb;have e9:=zbn2 a i hi s 1 (oa.flen _ hm);have hF9:=hF _ hm;have e5:zxM s (zk7 (a.getD i default))=(true,ze6 (zk7 (a.getD i default)) s):=zbbq s _ (by omega) hI.2.1 (by omega) hI.2.2.1 (z9w _)
    simp only [Wy.ev_i,Wy.ev_k,Wy.ev_h,Wy.ev_bn,Wy.ev_d,tT,hi];rw [e9 _ (by omega)]
    simp only [cond_true];rw [show (⟨1,ziW (a.getD i default).Fs⟩:Term)=zk7 (a.getD i default) from rfl,e5]
    simp only [cond_true];rw [zN (by omega)])
  (λs hI H K D=>by
   show (zrb a a.length s).ev H K D=_;unfold zrb;simp only [Wy.ev_i,Wy.ev_k,tT,Nat.lt_irrefl]; rfl) n [] hn ⟨by simp,λx hx=>(by cases hx),λx hx=>(by cases hx),.nil⟩
 have h:zEF n a 0 []=_:=h;rw [h];unfold zdS;rw [List.foldl_map]; rfl
theorem zbfR {a:yC} (oa:okA a):zy7 a=(true,if zF a=true then (zIK a,0) else ([],1)):=by
 unfold zy7 zR3;rw [Wy.fin_bn,oa.rvalid,cond_true,Wy.fin_i];cases hv:zF a with
 | false=>rfl
 | true=>
  obtain ⟨_,hl,ht⟩:=zkr hv oa.2.1;have e5:=zbm5 oa (λt h=>(ht t h).1.2.1) (by omega) (a.length+Int.toNat (0:Int)+(0:Nat)+(1000:Nat)) (by omega)
  have h2:=zwn (a.map zk7) [];rw [List.length_map] at h2;simp only [List.length_nil] at h2
  have hff:∀ t∈zdS [] (a.map zk7),zbO (zm 11) t.Fs:=λt h=>by
   obtain ⟨u,hu,e⟩:=(z2Z a _).1 ⟨t,h,rfl⟩;rw [<- e];exact z5U (a:=[u]) (λt ht=>by rw [qh.1 ht]; exact oa.fac _ hu) (zym u) (by simp)
  rw [Bool.not_true,cond_false,if_pos rfl,Wy.fin_bn,e5,cond_true,Wy.fin_bn,zbcd hff (by omega) (z1U (zEB hv).canon),cond_true,Wy.fin_k]
  rfl
def zEs (l:yF):yG:=l.map λid=>⟨id,[⟨1,[]⟩]⟩
theorem zbgm {a:yC} (oa:okA a) (ha:zF a=true->zbt a) (l:yF) (hl:l.length<=1000) (hb:okB (zEs l)):zmN a l=(true,zLE a (zEs l))/\zwJ a l=(true,zLE a (zEs l)):=by
 have hreach:zG=70368744177664:=rfl
 have k:∀ (l:yF) (s:yG),l.foldl (λs id=>s++[⟨id,[⟨1,[]⟩]⟩]) s=s++zEs l:=by
  intro l;induction l with
  | nil=>intro s; simp [zEs]
  | cons t r ih=>intro s; rw [List.foldl_cons,ih]; simp [zEs]
 have e1:zkQ.snd=[⟨1,[]⟩]:=rfl;have e2:zxR.snd=[⟨1,[]⟩]:=rfl;constructor
 ·unfold zmN zFn
  have h:=zD7 (W:=zu4) (z:=default) l (λi _=>(a,(),l,(l.length:Int),(i:Int),())) (λ_ s=>(s,())) (λs id=>s++[⟨id,[⟨1,[]⟩]⟩]) (λs=>(a,s)) (λi s=>s.length=i)
   (λi s hi hI=>by
    refine ⟨by simp [hI],λH K D=> ?_⟩
    show (zjY a l l.length i s).ev H K D=_;unfold zjY;have gb:∀ x:Bg,decide ((s.length+[x].length)*40<=zG)=true:=λx=>by rw [qe,List.length_singleton]; omega
    simp only [Wy.ev_i,Wy.ev_k,Wy.ev_h,Wy.ev_bn,Wy.ev_d,tT,hi,gb,e1];rw [zN (by omega)])
   (λs hI H K D=>by
    show (zjY a l l.length l.length s).ev H K D=_;unfold zjY;simp only [Wy.ev_i,Wy.ev_k,tT,Nat.lt_irrefl]) (a.length+l.length+(Int.ofNat l.length).toNat +Int.toNat (0:Int)+(0:Nat)+(1000:Nat)) [] (by omega) rfl
  have h:zDU (a.length+l.length+(Int.ofNat l.length).toNat +Int.toNat (0:Int)+(0:Nat)+(1000:Nat)) a l (Int.ofNat l.length) 0 []=_:=h;rw [Wy.fin_bn,h,k,List.nil_append];show (Wy.bn (zeO a (zEs l)) λr0=>.k (r0.fst,r0.snd):Wy0 (yC×Int)).fin default=_
  rw [(zLQ oa ha hb).1]; rfl
 ·unfold zwJ zPK
  have h:=zD7 (W:=zDu) (z:=default) l (λi _=>(a,l,(),(i:Int),())) (λ_ s=>(s,())) (λs id=>s++[⟨id,[⟨1,[]⟩]⟩]) (λs=>(a,s)) (λi s=>s.length=i)
   (λi s hi hI=>by
    refine ⟨by simp [hI],λH K D=> ?_⟩
    show (zpv a l i s).ev H K D=_;unfold zpv;have gb:∀ x:Bg,decide ((s.length+[x].length)*40<=zG)=true:=λx=>by rw [qe,List.length_singleton]; omega
    simp only [Wy.ev_i,Wy.ev_k,Wy.ev_h,Wy.ev_bn,Wy.ev_d,tT,hi,gb,e2];rw [zN (by omega)])
   (λs hI H K D=>by
    show (zpv a l l.length s).ev H K D=_;unfold zpv;simp only [Wy.ev_i,Wy.ev_k,tT,Nat.lt_irrefl]) (a.length+l.length+Int.toNat (0:Int)+(0:Nat)+(1000:Nat)) [] (by omega) rfl
  have h:zMQ (a.length+l.length+Int.toNat (0:Int)+(0:Nat)+(1000:Nat)) a l 0 []=_:=h;rw [Wy.fin_bn,h,k,List.nil_append];show (Wy.bn (zkt a (zEs l)) λr0=>.k (r0.fst,r0.snd):Wy0 (yC×Int)).fin default=_
  rw [(zLQ oa ha hb).2]; rfl
end Go.Proofs.YtljlfiomikifjaaGreatDoor
/- The law of the order. -/
set_option maxRecDepth 100000
namespace Go.Proofs.YtljlfiomikifjaaGreatDoor
open Go Go.Ab
theorem zbiJ {a:yC} {n:Nat} (h:zez a<=n) (hn:n<=38):zF a=true->zbt a:=λhv=>z5Z 100 a hv (by omega)
end Go.Proofs.YtljlfiomikifjaaGreatDoor
/- The law of the operations. -/
set_option maxRecDepth 100000
namespace Go.Proofs.YtljlfiomikifjaaGreatDoor
open Go Go.Ab
theorem zbiV {l:yF} (hl:l.length<=1000):okB (zEs l):=⟨by unfold zEs; rw [List.length_map]; exact hl,λb hb=>by
 obtain ⟨x,hx,rfl⟩:=List.mem_map.1 hb;exact zVj 1 (by omega)⟩
theorem z5O (a b:yC) (l:yF) (ha:z6m a) (hb:z6m b) (hl:zbj9 l):zeY a b l=(true,true):=by
 obtain ⟨q,q1,q2⟩:=zboJ (n:=30) (by omega) ha hb
 have l17:okA a->(zF a=true->zbt a)->l.length<=4->zua 1 a l=(true,true):=λoa sa h4=>by
  show (zlQ a l).ev (zy zlM default 0) (λr=>(true,r)) (false,default)=_
  unfold zlQ;have hbo:okB (zEs l):=zbiV (by omega)
  have hr:=zbgm oa sa l (by omega) hbo
  have ok:okA (zLE a (zEs l)).1:=(zbmf oa sa hbo).1;simp only [Wy.ev_i,Wy.ev_bn,Wy.ev_k,hr.1,hr.2,zbdk ok,cond_true,beq_self_eq_true,decide_true]
 have l13:okA a->(zF a=true->zbt a)->l.length<=4->zuM 1 a l=(true,true):=λoa sa h4=>by
  show (zlX a l).ev (zy zlt default 0) (λr=>(true,r)) (false,default)=_
  unfold zlX
  have ok:okA (if zF a=true then (zIK a,(0:Int)) else ([],1)).1:=by
   cases hv:zF a with
   | true=>rw [if_pos rfl]; exact zbdN oa hv
   | false=>rw [if_neg (by simp)]; exact zhB
  simp only [Wy.ev_i,Wy.ev_bn,Wy.ev_k,zbiw oa sa,zbfR oa,zbdk ok,l17 oa sa h4,cond_true,bne_self_eq_false,cond_false,decide_true,Bool.not_true]
 have l9:okA a->okA b->(zF a=true->zbt a)->(zF b=true->zbt b)->l.length<=4->zvH 1 a b l=(true,true):=λoa ob sa sb h4=>by
  show (zmd a b l).ev (zy zmm default 0) (λr=>(true,r)) (false,default)=_
  unfold zmd;simp only [Wy.ev_i,Wy.ev_bn,Wy.ev_k,zbl9 oa ob sa sb,zbkm oa ob,zbdk (zbjv (zN8 oa ob).1),l13 oa sa h4,cond_true,bne_self_eq_false,cond_false,decide_true,Bool.not_true]
 have l5:okA a->okA b->(zF a=true->zbt a)->(zF b=true->zbt b)->l.length<=4->zvG 1 a b l=(true,true):=λoa ob sa sb h4=>by
  show (zmb a b l).ev (zy zmk default 0) (λr=>(true,r)) (false,default)=_
  unfold zmb;simp only [Wy.ev_i,Wy.ev_bn,Wy.ev_k,zblP oa ob sa sb,zbkI oa ob,zbdk (zbjv (zN5 oa ob).1),l9 oa ob sa sb h4,cond_true,bne_self_eq_false,cond_false,decide_true,Bool.not_true]
 have l3:zvJ 1 a b l=(true,true):=by
  show (zmj a b l).ev (zy zmi default 0) (λr=>(true,r)) (false,default)=_
  unfold zmj;replace q1:zBI (30:Int) [a,b]=(true,q):=q1;simp only [Wy.ev_i,Wy.ev_bn,Wy.ev_k,q1,cond_true];cases q with
  | false=>rfl
  | true=>
   obtain ⟨⟨oa,wa⟩,ob,wb⟩:=q2 rfl;by_cases h4:l.length<=4
   ·have e:decide (Int.ofNat l.length>4)=false:=by rw [decide_eq_false_iff_not,Int.ofNat_eq_natCast]; omega
    rw [l5 oa ob (zbiJ wa (by omega)) (zbiJ wb (by omega)) h4,e]; rfl
   ·have e:decide (Int.ofNat l.length>4)=true:=by rw [qe,Int.ofNat_eq_natCast]; omega
    rw [e]; rfl
 unfold zeY zxn;rw [Wy.fin_bn,l3]; rfl
end Go.Proofs.YtljlfiomikifjaaGreatDoor
end
