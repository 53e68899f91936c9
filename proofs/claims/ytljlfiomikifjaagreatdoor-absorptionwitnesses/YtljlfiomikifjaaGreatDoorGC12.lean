/- Texts of this claim, joined (the program, its functions in plain words, and what they compute). -/
import Derived.Test.YtljlfiomikifjaaGreatDoorGC11
set_option autoImplicit false
set_option linter.unusedVariables false
set_option linter.unusedSectionVars false
set_option linter.unusedSimpArgs false
set_option maxRecDepth 1000000
set_option maxHeartbeats 0
/- Substitution keeps lists of items short; absorbing before a substitution. -/
noncomputable section
namespace Go.Proofs.YtljlfiomikifjaaGreatDoor
open Go Go.Ab
def GP {α:Type} (P:α->Prop):Int⊕α->Prop
 | .inl _=>True
 | .inr a=>P a
theorem zDd {α β:Type} {P:α->Prop} {Q:β->Prop} {x:Int⊕α} {k:α->Int⊕β} (hx:GP P x) (hk:∀ a,P a->GP Q (k a)):GP Q (sbd x k):=by
 cases x with
 | inl e=>exact trivial
 | inr a=>exact hk a hx
theorem zYY {P:yC->Prop} {r:yC×Int} (h:P r.1):GP P (opS r):=by
 unfold opS;split
 ·exact h
 ·exact trivial
theorem zBt {a:yC}:zco a↔∀ t∈a,∀ f∈t.Fs,zBj f.At:=by
 rw [zYc];exact ⟨λh t ht=>zH1.1 (h t ht),λh t ht=>zH1.2 (h t ht)⟩
theorem zBh:zco []:=zYc.2 λt ht=>by cases ht
theorem zSi (c:Int):zco [⟨c,[]⟩]:=zBt.2 λt ht f hf=>by
 rw [qh] at ht; subst ht; cases hf
theorem zYP {x:At} (h:zBj x):zco (zlo x):=zBt.2 λt ht f hf=>by
 simp only [zlo,qh] at ht; subst ht;rw [qh] at hf; subst hf; exact h
theorem zQ0 {a:yC} (h:zco a):zco (zOQ a).1:=by
 unfold zOQ;cases zmq a with
 | true=>exact h
 | false=>exact zBh
theorem z4T {ok:Bool} {r:yC×Int} (h:ok=true->zco r.1):zco (opR ok r).1:=by
 cases ok with
 | true=>exact h rfl
 | false=>exact zBh
theorem zbhs {a b:yC} (hs:Srs a) (ha:zco a) (hb:zco b):zco (zFc a b):=zBt.2 λt ht f hf=>by
 obtain ⟨x,hx,e⟩:=zFX b a hs ht;rw [e] at hf;rcases hx with hx | hx
 ·exact zBt.1 ha x hx f hf
 ·exact zBt.1 hb x hx f hf
theorem zbfC {a b:yC} (ha:zco a) (hb:zco b):zco (zJW a b):=zBt.2 λt ht f hf=>by
 obtain ⟨x,hx,e⟩:=zFX (zw1 a b) [] List.Pairwise.nil ht;rw [e] at hf;rcases hx with hx | hx
 ·cases hx
 ·obtain ⟨u,hu,v,hv,rfl⟩:=zHx hx;obtain ⟨y,hy,e⟩:=ztr hf;rw [e];rcases hy with hy | hy
  ·exact zBt.1 ha u hu y hy
  ·exact zBt.1 hb v hv y hy
theorem zbg8 {a b:yC} (ha:zco a) (hb:zco b):zco (zbel a b).1:=z4T λhv=>by
 rw [qc] at hv;exact zQ0 (zbhs (zbd9 hv.1).1 ha hb)
theorem zbhr {a b:yC} (ha:zco a) (hb:zco b):zco (zbe0 a b).1:=z4T λ_=>zQ0 (zbfC ha hb)
theorem z2s {k:Int} {l:yA} (h:∀ a∈l,zco a):zBj ⟨k,⟨0,0⟩,l,0,[],0,⟨0,0,ByteArray.mk #[]⟩⟩:=(zRF _).2 ⟨by simp,zJy.2 h,zGk.2 λw hw=>by cases hw⟩
theorem zbhn {a b:yC} (ha:zco a) (hb:zco b):zco (zbez a b).1:=z4T λ_=>by
 split
 ·exact ha
 ·split
  ·exact zBh
  ·refine zQ0 (zYP (z2s λx hx=> ?_))
   simp only [qd,List.not_mem_nil,or_false] at hx;rcases hx with rfl | rfl
   ·exact ha
   ·exact hb
theorem zbgS {a:yC} (ha:zco a):zco (zbed a).1:=z4T λ_=>by
 split
 ·exact ha
 ·split
  ·exact zSi 1
  ·refine zQ0 (zYP (z2s λx hx=> ?_))
   rw [qh] at hx; subst hx; exact ha
theorem zbgR {a:yC} (ha:zco a):zco (zbeS a).1:=z4T λ_=>by
 split
 ·exact zSi 1
 ·split
  ·exact zBh
  ·refine zQ0 (zYP (z2s λx hx=> ?_))
   rw [qh] at hx; subst hx; exact ha
theorem zbfA {f o:Int} {l:yE} {b:Value} (hl:l.length<20) (h:∀ w∈l,zco w.Ann):zco (z3R f l o b).1:=by
 unfold z3R;cases (!(zEd f l o b&&l.all λw=>zdM w.Ann)) with
 | true=>exact zBh
 | false=>
  cases decide (0<(zmz l).length) with
  | true=>
   refine zQ0 (zYP ((zRF _).2 ⟨?_,zJy.2 λa ha=>(by cases ha),zGk.2 λw hw=>h w (zJR hw).1⟩))
   have h1:(zmz l).length=(l.filter zbam).length:=(zge _ _).length_eq;have h2:=List.length_filter_le zbam l;show (zmz l).length<20;omega
  | false=>
   cases (f==0&&zbcS o (zdJ 0 b.Int)) with
   | true=>exact zSi 1
   | false=>exact zBh
theorem zbdR {b:yC} (hb:zco b):∀ (n:Nat) (p:yC),zco p->GP zco (zbcf b n p)
 | 0,p,hp=>hp
 | n+1,p,hp=>zDd (zYY (zbhr hp hb)) λq hq=>zbdR hb n q hq
theorem zbhk (n:Int):zco (z6x n):=by
 unfold z6x;split
 ·exact zBh
 ·exact zSi _
theorem zbbK {l:yA} (h:∀ a∈l,zco a) (i:Nat):zco (l.getD i default):=by
 by_cases hi:i<l.length
 ·exact h _ (zR hi)
 ·rw [List.getD_eq_getElem?_getD,List.getElem?_eq_none (by omega)]; exact zBh
section
variable {to:RowID->yC} (ht:∀ r,zco (to r))
include ht
mutual
theorem zbcB:∀ x:At,zBj x->GP zco (zVJ to x)
 | ⟨k,r,a,f,i,o,b⟩=>λh=>by
  obtain ⟨h1,h2,h3⟩:=(zRF _).1 h;rw [zVJ];split
  ·exact ht r
  ·refine zDd (z3z a (zJy.1 h2)) λxs hxs=> ?_
   have g0:=zbbK hxs 0;have g1:=zbbK hxs 1;split
   ·exact zYY (zbhn g0 g1)
   ·split
    ·exact zYY (zbgS g0)
    ·split
     ·exact zYY (zbgR g0)
     ·refine zDd (z1g i (zGk.1 h3)) λis his=>zYY (zbfA ?_ his.2)
      rw [his.1]; exact h1
theorem zT9:∀ l:yD,(∀ f∈l,zBj f.At)->∀ p,zco p->GP zco (zvP to l p)
 | [],_,p,hp=>by rw [zvP]; exact hp
 | ⟨x,e⟩::r,h,p,hp=>by
  rw [zvP];exact zDd (zbcB x (h ⟨x,e⟩ (by simp))) λb hb=>zDd (zbdR hb _ p hp) λq hq=>zT9 r (λf hf=>h f (by simp [hf])) q hq
theorem zXy:∀ a:yC,(∀ t∈a,∀ f∈t.Fs,zBj f.At)->∀ s,zco s->GP zco (zsn to a s)
 | [],_,s,hs=>by rw [zsn]; exact hs
 | ⟨c,fs⟩::r,h,s,hs=>by
  rw [zsn];exact zDd (zT9 fs (h ⟨c,fs⟩ (by simp)) _ (zbhk c)) λp hp=>zDd (zYY (zbg8 hs hp)) λq hq=>zXy r (λt ht=>h t (by simp [ht])) q hq
theorem z3z:∀ l:yA,(∀ a∈l,zco a)->GP (λr:yA=>∀ a∈r,zco a) (zA6 to l)
 | [],_=>by rw [zA6]; exact λa ha=>by cases ha
 | a::r,h=>by
  rw [zA6];refine zDd (zXy a (zBt.1 (h a (by simp))) [] zBh) λb hb=>zDd (z3z r λc hc=>h c (by simp [hc])) λl hl=> ?_
  intro x hx;rcases qd.1 hx with rfl | hx
  ·exact hb
  ·exact hl x hx
theorem z1g:∀ l:yE,(∀ w∈l,zco w.Ann)->GP (λr:yE=>r.length=l.length/\∀ w∈r,zco w.Ann) (zxA to l)
 | [],_=>by rw [zxA]; exact ⟨rfl,λa ha=>by cases ha⟩
 | ⟨v,a⟩::r,h=>by
  rw [zxA];refine zDd (zXy a (zBt.1 (h ⟨v,a⟩ (by simp))) [] zBh) λb hb=>zDd (z1g r λc hc=>h c (by simp [hc])) λl hl=> ?_
  refine ⟨by simp [hl.1],λx hx=> ?_⟩
  rcases qd.1 hx with rfl | hx
  ·exact hb
  ·exact hl.2 x hx
end
end
section
variable {σ:At->yC}
end
theorem Canon.dst {a:yC} (h:Canon a):a.Pairwise λx y=>x.Fs≠y.Fs:=h.asc.imp λ{x y} hxy e=>by rw [e,zbid.refl] at hxy; omega
theorem okA.fine {a:yC} (oa:okA a):zF (11+1) a:=oa.1.1
theorem okA.fac {a:yC} (oa:okA a):∀ t∈a,zgv (zF 11) t.Fs:=λt ht=>oa.fine.2 t ht
theorem okA.len {a:yC} (oa:okA a):a.length<=1000000:=oa.fine.1
section
variable {α β ρ σ τ:Type} [Inhabited τ]
def zBz (f:σ->τ->σ⊕ρ):List τ->σ->σ⊕ρ
 | [],s=>.inl s
 | x::r,s=>match f s x with
  | .inl u=>zBz f r u
  | .inr v=>.inr v
def zbe9 (res:σ->ρ):σ⊕ρ->ρ
 | .inl s=>res s
 | .inr v=>v
theorem z4M {W:α->β->Wy α β ρ} {z:ρ} (l:List τ) (ex:Nat->σ->α) (ey:Nat->σ->β) (f:σ->τ->σ⊕ρ) (res:σ->ρ) (I:Nat->σ->Prop)
  (h:∀ i s,i<l.length->I i s->(∀ u,f s (l.getD i default)=.inl u->I (i+1) u)/\∀ (H:α->β->Bool×ρ) K D,(W (ex i s) (ey i s)).ev H K D=match f s (l.getD i default) with | .inl u=>H (ex (i+1) u) (ey (i+1) u) | .inr v=>K v)
  (he:∀ s,I l.length s->∀ (H:α->β->Bool×ρ) K D,(W (ex l.length s) (ey l.length s)).ev H K D=K (res s)):
  ∀ n i s,l.length<i+n->i<=l.length->I i s->zH W z n (ex i s) (ey i s)=(true,zbe9 res (zBz f (l.drop i) s))
 | 0,i,s,h1,h2,_=>by omega
 | n+1,i,s,h1,h2,hI=>by
  show (W (ex i s) (ey i s)).ev (zH W z n) (λr=>(true,r)) (false,z)=_
  by_cases hi:i<l.length
  ·obtain ⟨a1,a2⟩:=h i s hi hI;rw [a2,zZ hi];show _=(true,zbe9 res (match f s (l.getD i default) with | .inl u=>zBz f (l.drop (i+1)) u | .inr v=>.inr v))
   cases hf:f s (l.getD i default) with
   | inl u=>exact z4M l ex ey f res I h he n (i+1) u (by omega) (by omega) (a1 u hf)
   | inr v=>rfl
  ·have:i=l.length:=by omega
   subst this;rw [he s hI,zci hi]; rfl
theorem zOw {W:α->β->Wy α β ρ} {z:ρ} (l:List τ) (ex:Nat->σ->α) (ey:Nat->σ->β) (f:σ->τ->σ⊕ρ) (res:σ->ρ) (I:Nat->σ->Prop)
  (h:∀ i s,i<l.length->I i s->(∀ u,f s (l.getD i default)=.inl u->I (i+1) u)/\∀ (H:α->β->Bool×ρ) K D,(W (ex i s) (ey i s)).ev H K D=match f s (l.getD i default) with | .inl u=>H (ex (i+1) u) (ey (i+1) u) | .inr v=>K v)
  (he:∀ s,I l.length s->∀ (H:α->β->Bool×ρ) K D,(W (ex l.length s) (ey l.length s)).ev H K D=K (res s)) (n:Nat) (s:σ) (hn:l.length<n) (h0:I 0 s):
  zH W z n (ex 0 s) (ey 0 s)=(true,zbe9 res (zBz f l s)):=by
 have:=z4M (z:=z) l ex ey f res I h he n 0 s (by omega) (by omega) h0
 simpa using this
theorem zpe {W:α->β->Wy α β ρ} {z:ρ} (l:List τ) (ex:Nat->σ->α) (ey:Nat->σ->β) (f:σ->τ->σ) (res:σ->ρ) (I:Nat->σ->Prop)
  (h:∀ i s,i<l.length->I i s->I (i+1) (f s (l.getD i default))/\∀ (H:α->β->Bool×ρ) K D,(W (ex i s) (ey i s)).ev H K D=H (ex (i+1) (f s (l.getD i default))) (ey (i+1) (f s (l.getD i default))))
  (he:∀ s,I l.length s->∀ (H:α->β->Bool×ρ) K D,(W (ex l.length s) (ey l.length s)).ev H K D=K (res s)) (n:Nat) (s:σ) (hn:l.length<n) (h0:I 0 s):
  zH W z n (ex 0 s) (ey 0 s)=(true,res (l.foldl f s)):=by
 have e:=zOw (z:=z) l ex ey (λs x=>(.inl (f s x):σ⊕ρ)) res I (λi s hi hs=>⟨λu hu=>by rw [Sum.inl.injEq] at hu; rw [<- hu]; exact (h i s hi hs).1,(h i s hi hs).2⟩) he n s hn h0
 rw [e]
 have k:∀ (l:List τ) (s:σ),zBz (λs x=>(.inl (f s x):σ⊕ρ)) l s=.inl (l.foldl f s):=by
  intro l;induction l with
  | nil=>intro s; rfl
  | cons x r ih=>intro s; exact ih _
 rw [k]; rfl
end
theorem z9q {τ:Type} (p:τ->Bool):∀ (l:List τ) (b:Bool),l.foldl (λf y=>f||p y) b=(b||l.any p)
 | [],b=>by simp
 | x::r,b=>by rw [List.foldl_cons,z9q p r,List.any_cons,Bool.or_assoc]
theorem zbgs (x y:RowID):(if zdJ x.Table y.Table=0 then zdJ x.Seq y.Seq else zdJ x.Table y.Table)=cR x y:=by
 unfold zdJ cR;by_cases h1:x.Table<y.Table
 ·simp [h1]
 ·by_cases h2:y.Table<x.Table
  ·simp [h1,h2]
  ·simp [h1,h2]
theorem zQS (x y:RowID):zhW x y=(true,cR x y):=by rw [zET,zbgs]
theorem zbhR (a b:yF) (i:Nat) (hi:i<a.length) (hb:b.length<=1000000) (n:Nat) (hn:b.length<n):zEj n a b i false 0=(true,(a,b,(i:Int),decide (a.getD i default∈b))):=by
 have h:=zpe (W:=zEa) (z:=default) b (λk f=>(a,b,(i:Int),f,(k:Int),())) (λ_ _=>()) (λf y=>f||decide (a.getD i default=y)) (λf=>(a,b,(i:Int),f)) (λ_ _=>True)
  (λk f hk _=>⟨trivial,λH K D=>by
   show (zsW a b i f k).ev H K D=_;unfold zsW;simp only [Wy.ev_i,Wy.ev_k,Wy.ev_h,Wy.ev_bn,Wy.ev_d,Int.ofNat_eq_natCast,zbM,zbf,decide_true,decide_false,Bool.and_self,Bool.true_and,Bool.and_true,cond_true,cond_false,Int.toNat_natCast,eqR,eqR',Bool.not_true,Bool.not_false,bnd,hi,hk];rw [zV (by omega)]
   cases f with
   | true=>rfl
   | false=>rw [cond_false,Bool.false_or]⟩)
  (λf _ H K D=>by
   show (zsW a b i f b.length).ev H K D=_;unfold zsW;simp only [Wy.ev_i,Wy.ev_k,Int.ofNat_eq_natCast,zbM,zbf,decide_true,decide_false,Bool.and_self,Bool.true_and,Bool.and_true,cond_true,cond_false,Int.toNat_natCast,eqR,eqR',Bool.not_true,Bool.not_false,bnd,Nat.lt_irrefl]) n false hn trivial
 have h:zEj n a b i false 0=_:=h;rw [h,z9q,Bool.false_or];congr 4;rw [Bool.eq_iff_iff,List.any_eq_true,qe];exact ⟨λ⟨y,hy,e⟩=>(of_decide_eq_true e) ▸ hy,λh=>⟨_,h,decide_eq_true rfl⟩⟩
theorem z4l (a b:yF) (ha:a.length<=1000000) (hb:b.length<=1000000):zuN a b=(true,sub a b):=by
 unfold zuN zQZ
 have h:=zj2 (W:=zDX) (z:=.inl default) a.length (λi=>(a,b,(i:Int),())) (λ_=>()) (λi=>decide (a.getD i default∈b)) (.inl false) (.inr ())
  (λi hi H K D=>by
   show (zsX a b i).ev H K D=_;unfold zsX;simp only [Wy.ev_i,Wy.ev_k,Wy.ev_h,Wy.ev_bn,Wy.ev_d,Int.ofNat_eq_natCast,zbM,zbf,decide_true,decide_false,Bool.and_self,Bool.true_and,Bool.and_true,cond_true,cond_false,Int.toNat_natCast,eqR,eqR',Bool.not_true,Bool.not_false,bnd,hi,zbhR a b i hi hb (a.length+b.length+i+Int.toNat (0:Int)+1000) (by omega)]
   rw [zV (by omega)]
   cases decide (a.getD i default∈b) <;>rfl)
  (λH K D=>by
   show (zsX a b a.length).ev H K D=_;unfold zsX;simp only [Wy.ev_i,Wy.ev_k,Int.ofNat_eq_natCast,zbM,zbf,decide_true,decide_false,Bool.and_self,Bool.true_and,Bool.and_true,cond_true,cond_false,Int.toNat_natCast,eqR,eqR',Bool.not_true,Bool.not_false,bnd,Nat.lt_irrefl]) (a.length+b.length+Int.toNat (0:Int)+1000) (by omega)
 have h:zNz (a.length+b.length+Int.toNat (0:Int)+1000) a b 0=_:=h;rw [Wy.fin_bn,h,zvT (λx=>decide (x∈b)) a]
 show _=(true,a.all λx=>decide (x∈b))
 cases a.all λx=>decide (x∈b) <;>rfl
theorem zI9 (a b:yF) (ha:a.length<=1000000) (hb:b.length<=1000000):∀ (n i:Nat),a.length<i+n->i<=a.length->i<=b.length->
  ∃ r,zv5 n a b i=(true,r)/\((r=.inl (cS (a.drop i) (b.drop i)))\/(r=.inr (a,b)/\cS (a.drop i) (b.drop i)=if a.length<b.length then -1 else if b.length<a.length then 1 else 0))
 | 0,i,h,h2,h3=>by omega
 | n+1,i,h,h2,h3=>by
  show ∃ r,(zwA a b i).ev (λx y=>zv5 n x.1 x.2.1 x.2.2.1) (λr=>(true,r)) (false,.inl default)=_/\_
  unfold zwA;by_cases hi:i<a.length
  ·by_cases hi':i<b.length
   ·simp only [Wy.ev_i,Wy.ev_k,Wy.ev_h,Wy.ev_bn,Wy.ev_d,Int.ofNat_eq_natCast,zbM,zbf,decide_true,decide_false,Bool.and_self,Bool.true_and,Bool.and_true,cond_true,cond_false,Int.toNat_natCast,eqR,eqR',Bool.not_true,Bool.not_false,bnd,hi,hi',zQS];rw [zZ hi,zZ hi',zV (by omega)]
    generalize a.getD i default=x;generalize b.getD i default=y;by_cases hx:cR x y=0
    ·have e:(cR x y != 0)=false:=by simp [hx]
     simp only [e,cond_false,zv9,hx,if_true];exact zI9 a b ha hb n (i+1) (by omega) (by omega) (by omega)
    ·have e:(cR x y != 0)=true:=by simp [hx]
     simp only [e,cond_true,zv9,hx,if_false];exact ⟨_,rfl,.inl rfl⟩
   ·simp only [Wy.ev_i,Wy.ev_k,Wy.ev_h,Wy.ev_bn,Wy.ev_d,Int.ofNat_eq_natCast,zbM,zbf,decide_true,decide_false,Bool.and_self,Bool.true_and,Bool.and_true,cond_true,cond_false,Int.toNat_natCast,eqR,eqR',Bool.not_true,Bool.not_false,bnd,hi,hi'];refine ⟨_,rfl,.inr ⟨rfl, ?_⟩⟩;rw [zZ hi,zci hi',if_neg (by omega),if_pos (by omega)]; rfl
  ·simp only [Wy.ev_i,Wy.ev_k,Wy.ev_h,Wy.ev_bn,Wy.ev_d,Int.ofNat_eq_natCast,zbM,zbf,decide_true,decide_false,Bool.and_self,Bool.true_and,Bool.and_true,cond_true,cond_false,Int.toNat_natCast,eqR,eqR',Bool.not_true,Bool.not_false,bnd,hi];refine ⟨_,rfl,.inr ⟨rfl, ?_⟩⟩;rw [zci hi];by_cases hi':i<b.length
   ·rw [zZ hi',if_pos (by omega)]; rfl
   ·rw [zci hi',if_neg (by omega),if_neg (by omega)]; rfl
theorem zOa (a b:yF) (ha:a.length<=1000000) (hb:b.length<=1000000):zk9 a b=(true,cS a b):=by
 unfold zk9 zEL;obtain ⟨r,h1,h2⟩:=zI9 a b ha hb (a.length+b.length+Int.toNat (0:Int)+1000) 0 (by omega) (by omega) (by omega)
 rw [show ((0:Nat):Int)=(0:Int) from rfl] at h1
 rw [Wy.fin_bn,h1];simp only [List.drop_zero] at h2;rcases h2 with rfl | ⟨rfl,h2⟩
 ·rfl
 ·rw [h2];simp only [Wy.fin_i,Wy.fin_k,Int.ofNat_eq_natCast,zbM,zbf,decide_true,decide_false,Bool.and_self,Bool.true_and,Bool.and_true,cond_true,cond_false,Int.toNat_natCast,eqR,eqR',Bool.not_true,Bool.not_false,bnd,isL,getR,zbbm];by_cases h3:a.length<b.length
  ·have:¬ a.length=b.length:=by omega
   simp [h3,this]
  ·by_cases h4:b.length<a.length
   ·have:¬ a.length=b.length:=by omega
    simp [h3,h4,this]
   ·have:a.length=b.length:=by omega
    simp [h3,h4,this]
theorem zbeq (a b:yB) (ha:a.length<=1000000) (hae:∀ s∈a,s.length<=1000000) (hbe:∀ s∈b,s.length<=1000000):zz9 a b=(true,decide (a=b)):=by
 unfold zz9 zXq;by_cases hab:a.length=b.length
 ·have h:=zj2 (W:=zHX) (z:=.inl default) a.length (λi=>(a,b,(i:Int),())) (λ_=>()) (λi=>decide (a.getD i default=b.getD i default)) (.inl false) (.inr ())
   (λi hi H K D=>by
    show (zw9 a b i).ev H K D=_;unfold zw9;have hi':i<b.length:=by omega
    simp only [Wy.ev_i,Wy.ev_k,Wy.ev_h,Wy.ev_bn,Wy.ev_d,Int.ofNat_eq_natCast,zbM,zbf,decide_true,decide_false,Bool.and_self,Bool.true_and,Bool.and_true,cond_true,cond_false,Int.toNat_natCast,eqR,eqR',Bool.not_true,Bool.not_false,bnd,hi,hi',zOa _ _ (hae _ (zR hi)) (hbe _ (zR hi'))];rw [zV (by omega)]
    by_cases e:a.getD i default=b.getD i default
    ·rw [decide_eq_true e,(zpL.eq _ _).2 e]; rfl
    ·have:(cS (a.getD i default) (b.getD i default) != 0)=true:=by rw [bne_iff_ne]; exact λh=>e ((zpL.eq _ _).1 h)
     rw [decide_eq_false e,this]; rfl)
   (λH K D=>by
    show (zw9 a b a.length).ev H K D=_;unfold zw9;simp only [Wy.ev_i,Wy.ev_k,Int.ofNat_eq_natCast,zbM,zbf,decide_true,decide_false,Bool.and_self,Bool.true_and,Bool.and_true,cond_true,cond_false,Int.toNat_natCast,eqR,eqR',Bool.not_true,Bool.not_false,bnd,Nat.lt_irrefl]) (a.length+b.length+Int.toNat (0:Int)+1000) (by omega)
  have h:zTQ (a.length+b.length+Int.toNat (0:Int)+1000) a b 0=_:=h;have e0:(Int.ofNat a.length != Int.ofNat b.length)=false:=by rw [hab]; simp
  rw [Wy.fin_i,e0,cond_false,Wy.fin_bn,h];by_cases e:a=b
  ·subst e;have:zjI (λi=>decide (a.getD i default=a.getD i default)) a.length 0=true:=zl7.2 λ_ _ _=>decide_eq_true rfl
   rw [this,decide_eq_true rfl]; rfl
  ·have:zjI (λi=>decide (a.getD i default=b.getD i default)) a.length 0=false:=by
    cases hq:zjI (λi=>decide (a.getD i default=b.getD i default)) a.length 0 with
    | false=>rfl
    | true=>
     refine absurd (List.ext_getElem hab λi h1 h2=> ?_) e
     have:=of_decide_eq_true (zl7.1 hq i (Nat.zero_le i) (by omega))
     rw [List.getD_eq_getElem?_getD,List.getD_eq_getElem?_getD,List.getElem?_eq_getElem h1,List.getElem?_eq_getElem h2] at this;exact this
   rw [this,decide_eq_false e]; rfl
 ·have e0:(Int.ofNat a.length != Int.ofNat b.length)=true:=by rw [Int.ofNat_eq_natCast,Int.ofNat_eq_natCast,z5W]; simp [hab]
  rw [Wy.fin_i,e0,cond_true,Wy.fin_k,decide_eq_false (λe=>hab (by rw [e]))]
def zwi (s:yF) (st:Bool×yB) (y:yF):Bool×yB:=
 if sub s y=true then st else if st.1=false/\cS s y<0 then (true,st.2++[s]++[y]) else (st.1,st.2++[y])
theorem zXm (s:yF):∀ (l:yB) (o:yB),l.foldl (zwi s) (true,o)=(true,o++l.filter λx=> !sub s x)
 | [],o=>by simp
 | y::r,o=>by
  rw [List.foldl_cons,List.filter_cons];unfold zwi;cases h:sub s y with
  | true=>rw [if_pos rfl]; simp only [Bool.not_true,Bool.false_eq_true,if_false]; exact zXm s r o
  | false=>
   rw [if_neg (by simp),if_neg (by simp)]
   simp only [Bool.not_false,if_true];have:=zXm s r (o++[y]);rw [List.append_assoc] at this;exact this
theorem zbeG (s:yF):sub s s=true:=zzP.2 λ_ h=>h
theorem zS0 (s:yF):∀ (l:yB) (o:yB),(bif (l.foldl (zwi s) (false,o)).1 then (l.foldl (zwi s) (false,o)).2 else (l.foldl (zwi s) (false,o)).2++[s])=o++zmU cS s (l.filter λx=> !sub s x)
 | [],o=>by simp [zmU]
 | y::r,o=>by
  rw [List.foldl_cons,List.filter_cons];unfold zwi;cases h:sub s y with
  | true=>rw [if_pos rfl]; simp only [Bool.not_true,Bool.false_eq_true,if_false]; exact zS0 s r o
  | false=>
   rw [if_neg (by simp)]
   simp only [Bool.not_false,if_true,true_and,zmU];by_cases hc:cS s y<0
   ·rw [if_pos hc,if_pos hc];have:=zXm s r (o++[s]++[y]);unfold zwi at this;rw [this];simp
   ·rw [if_neg hc,if_neg hc,if_neg (λe=>by rw [(zpL.eq _ _).1 e,zbeG] at h; cases h)]
    have:=zS0 s r (o++[y]);rw [List.append_assoc] at this;exact this
theorem zQw (s:yF):∀ (l:yB) (st:Bool×yB),(l.foldl (zwi s) st).2.length+(if (l.foldl (zwi s) st).1 then 0 else 1)<=st.2.length+l.length+(if st.1 then 0 else 1)
 | [],st=>Nat.le_refl _
 | y::r,st=>by
  rw [List.foldl_cons,qf];refine Nat.le_trans (zQw s r _) ?_;unfold zwi;split
  ·split <;>omega
  ·split
   ·rename_i h1 h2;simp only [qg,List.length_singleton,h2.1,if_true,Bool.false_eq_true,if_false]; omega
   ·simp only [qg,List.length_singleton]; omega
theorem z3T (l:yB) (s:yF) (hl:l.length<=10000000) (hs:s.length<=1000000) (hle:∀ x∈l,x.length<=1000000):zuI l s=(true,znD l s):=by
 have hreach:z7=70368744177664:=rfl;unfold zuI zQt
 have h:=zj2 (W:=zDt) (z:=.inl default) l.length (λi=>(l,s,(),(i:Int),())) (λ_=>([],())) (λi=> !sub (l.getD i default) s) (.inl l) (.inr (l,s,[]))
  (λi hi H K D=>by
   show (zsz l s i []).ev H K D=_;unfold zsz;simp only [Wy.ev_i,Wy.ev_k,Wy.ev_h,Wy.ev_bn,Wy.ev_d,Int.ofNat_eq_natCast,zbM,zbf,decide_true,decide_false,Bool.and_self,Bool.true_and,Bool.and_true,cond_true,cond_false,Int.toNat_natCast,eqR,eqR',Bool.not_true,Bool.not_false,bnd,hi,z4l _ _ (hle _ (zR hi)) hs];rw [zV (by omega)]
   cases sub (l.getD i default) s <;>rfl)
  (λH K D=>by
   show (zsz l s l.length []).ev H K D=_;unfold zsz;simp only [Wy.ev_i,Wy.ev_k,Int.ofNat_eq_natCast,zbM,zbf,decide_true,decide_false,Bool.and_self,Bool.true_and,Bool.and_true,cond_true,cond_false,Int.toNat_natCast,eqR,eqR',Bool.not_true,Bool.not_false,bnd,Nat.lt_irrefl]) (l.length+s.length+Int.toNat (0:Int)+(0:Nat)+(1000:Nat)) (by omega)
 have h:zOb (l.length+s.length+Int.toNat (0:Int)+(0:Nat)+(1000:Nat)) l s 0 []=_:=h;rw [Wy.fin_bn,h,zvT (λx=> !sub x s) l]
 have e:(l.all λx=> !sub x s)= !(l.any λx=>sub x s):=by rw [List.not_any_eq_all_not]
 unfold znD;rw [e];cases hq:l.any λx=>sub x s with
 | true=>rfl
 | false=>
  rw [if_neg (by simp)]
  simp only [Bool.not_false,cond_true,Wy.fin_i,isL,cond_false,getR,List.length_nil]
  have h9:=zpe (W:=zDo) (z:=default) l (λi st=>(l,s,(),st.1,(i:Int),())) (λi st=>(st.2,())) (zwi s) (λst=>(s,st.1,st.2)) (λi st=>st.2.length<=2*i)
   (λi st hi hI=>⟨by
    unfold zwi;split
    ·omega
    ·split <;>simp only [qg,List.length_singleton] <;>omega,λH K D=>by
    show (zso l s st.1 i st.2).ev H K D=_;unfold zso;have g1:∀ x:yF,decide ((st.2.length+[x].length)*24<=z7)=true:=λx=>by rw [qe,List.length_singleton]; omega
    have g2:∀ x y:yF,decide (((st.2++[x]).length+[y].length)*24<=z7)=true:=λx y=>by rw [qe,qg,List.length_singleton,List.length_singleton]; omega
    simp only [Wy.ev_i,Wy.ev_k,Wy.ev_h,Wy.ev_bn,Wy.ev_d,Int.ofNat_eq_natCast,zbM,zbf,decide_true,decide_false,Bool.and_self,Bool.true_and,Bool.and_true,cond_true,cond_false,Int.toNat_natCast,eqR,eqR',Bool.not_true,Bool.not_false,bnd,hi,z4l _ _ hs (hle _ (zR hi)),zOa _ _ hs (hle _ (zR hi)),g1,g2];rw [zV (by omega)]
    obtain ⟨d,o⟩:=st;unfold zwi;cases hsub:sub s (l.getD i default) with
    | true=>rfl
    | false=>
     cases d with
     | true=>rfl
     | false=>
      by_cases hc:cS s (l.getD i default)<0
      ·simp only [hc,decide_true,cond_true,cond_false,Bool.not_false,Bool.false_eq_true,if_false,true_and,if_true]
      ·simp only [hc,decide_false,cond_true,cond_false,Bool.not_false,Bool.false_eq_true,if_false,and_false]⟩)
   (λst hI H K D=>by
    show (zso l s st.1 l.length st.2).ev H K D=_;unfold zso;simp only [Wy.ev_i,Wy.ev_k,Int.ofNat_eq_natCast,zbM,zbf,decide_true,decide_false,Bool.and_self,Bool.true_and,Bool.and_true,cond_true,cond_false,Int.toNat_natCast,eqR,eqR',Bool.not_true,Bool.not_false,bnd,Nat.lt_irrefl]) (l.length+s.length+Int.toNat (0:Int)+(0:Nat)+(1000:Nat)) (false,[]) (by omega) (by simp)
  have h9:zN9 (l.length+s.length+Int.toNat (0:Int)+(0:Nat)+(1000:Nat)) l s false 0 []=_:=h9;rw [Wy.fin_bn,h9];have hlen:=zQw s l (false,[]);have hfin:=zS0 s l [];generalize l.foldl (zwi s) (false,[])=st at hlen hfin ⊢;obtain ⟨d,o⟩:=st;rw [List.nil_append] at hfin;rw [<- hfin];cases d with
  | true=>rfl
  | false=>
   simp only [List.length_nil,Nat.zero_add,Bool.false_eq_true,if_false] at hlen;have g1:decide ((o.length+[s].length)*24<=z7)=true:=by rw [qe,List.length_singleton]; omega
   simp only [Wy.fin_i,Wy.fin_k,Bool.not_false,cond_true,cond_false,g1]
def zbcE (x:RowID):yF->yF
 | []=>[x]
 | y::r=>if cR x y=0 then y::r else x::y::r
theorem zbdf (x y:RowID) (r:yF):zbcE x (y::r)=if cR x y=0 then y::r else x::y::r:=rfl
theorem z9v (x:RowID):∀ l:yF,zmU cR x l=l.takeWhile (λy=>decide (cR y x<0))++zbcE x (l.dropWhile (λy=>decide (cR y x<0)))
 | []=>rfl
 | y::r=>by
  rw [List.takeWhile_cons,List.dropWhile_cons];unfold zmU;by_cases h:cR y x<0
  ·have h0:¬ cR x y<0:=ziE.asymm h;have h1:¬ cR x y=0:=λe=>by have:=(ziE.swap y x).1 h; omega
   simp only [h,h0,h1,if_true,if_false,decide_true,List.cons_append];rw [z9v x r]
  ·simp only [h,if_false,decide_false,Bool.false_eq_true,List.nil_append,zbcE];by_cases h2:cR x y=0
   ·have:¬ cR x y<0:=by omega
    simp [h2,this]
   ·have:cR x y<0:=Classical.byContradiction λh3=>h2 ((ziE.eq _ _).2 (ziE.conn h3 h))
    simp [h2,this]
theorem zbcH (l:yF) (id:RowID) (hl:l.length<=1000000):zyR l id=(true,zmU cR id l):=by
 have hreach:z7=70368744177664:=rfl;unfold zyR zQ1
 have hL:=zbcO (W:=zDe) (z:=default) l (λx=>decide (cR x id<0)) (λk=>(l,(),(k:Int),())) (λ_=>(id,())) (λk=>(l,(k:Int),id))
  (λk hk H K D=>by
   show (zsj l k id).ev H K D=_;unfold zsj;simp only [Wy.ev_i,Wy.ev_k,Wy.ev_h,Wy.ev_bn,Wy.ev_d,Int.ofNat_eq_natCast,zbM,zbf,decide_true,decide_false,Bool.and_self,Bool.true_and,Bool.and_true,cond_true,cond_false,Int.toNat_natCast,eqR,eqR',Bool.not_true,Bool.not_false,bnd,hk,zQS];rw [zV (by omega)])
  (λH K D=>by
   show (zsj l l.length id).ev H K D=_;unfold zsj;simp only [Wy.ev_i,Wy.ev_k,Int.ofNat_eq_natCast,zbM,zbf,decide_true,decide_false,Bool.and_self,Bool.true_and,Bool.and_true,cond_true,cond_false,Int.toNat_natCast,eqR,eqR',Bool.not_true,Bool.not_false,bnd,Nat.lt_irrefl]) (l.length+Int.toNat (0:Int)+(1:Nat)) (by omega)
 have hL:zNs (l.length+Int.toNat (0:Int)+(1:Nat)) l 0 id=_:=hL;rw [hL,zbbM,z9v];have q1:=zbgQ l (λx=>decide (cR x id<0))
 have q2:=zbbe (λx=>decide (cR x id<0)) l
 have q3:=zbbF (λx=>decide (cR x id<0)) l
 generalize (l.takeWhile λx=>decide (cR x id<0)).length=k at q1 q2 q3 ⊢
 rw [<- q2, <- q3];have g2:decide ((0+(l.take k).length)*16<=z7)=true:=by simp only [qe,List.length_take]; omega
 have gk':decide ((k:Int)<=Int.ofNat l.length)=true:=by simp only [qe,Int.ofNat_eq_natCast]; omega
 have gb:∀ x:RowID,decide (((l.take k).length+[x].length)*16<=z7)=true:=λx=>by simp only [qe,List.length_take,List.length_singleton]; omega
 have gc:∀ (x:RowID) (m:Nat),decide (((l.take k++[x]).length+(l.drop m).length)*16<=z7)=true:=λx m=>by simp only [qe,List.length_take,List.length_drop,qg,List.length_singleton]; omega
 have g1:(decide ((0:Int)<=(0:Int))&&decide ((0:Int)<=(k:Int))&&decide ((k:Int)<=Int.ofNat l.length))=true:=by simp only [qc,qe,Int.ofNat_eq_natCast]; omega
 have g3:(decide ((0:Int)<=(k:Int))&&decide ((k:Int)<=Int.ofNat l.length)&&decide (Int.ofNat l.length<=Int.ofNat l.length))=true:=by simp only [qc,qe,Int.ofNat_eq_natCast]; omega
 simp only [Wy.fin_i,Wy.fin_k,Wy.fin_bn,List.nil_append,Int.toNat_natCast,zbgd,zbfU,g1,g2,g3,gb,gc,cond_true];by_cases hk:k<l.length
 ·have g4:decide ((k:Int)<Int.ofNat l.length)=true:=by simp [hk]
  have g5:(decide ((0:Int)<=(k:Int))&&decide ((k:Int)<Int.ofNat l.length))=true:=by rw [g4]; simp
  simp only [g4,g5,zbf,Bool.and_self,cond_true,eqR];rw [zZ hk,zbdf];by_cases e:l.getD k default=id
  ·have e2:cR id (l.getD k default)=0:=(ziE.eq _ _).2 e.symm;rw [decide_eq_true e,if_pos e2,cond_true, <- zZ hk,List.take_append_drop]
  ·have e2:¬ cR id (l.getD k default)=0:=λh=>e ((ziE.eq _ _).1 h).symm
   rw [decide_eq_false e,if_neg e2,cond_false];simp
 ·have g4:decide ((k:Int)<Int.ofNat l.length)=false:=by simp [hk]
  simp only [g4,zbf,Bool.true_and,gk',Int.le_refl,decide_true,Bool.and_self,gb,gc,cond_true,cond_false];rw [zci hk];simp [zbcE]
theorem zbdN (x:RowID) (l:yF):(zmU cR x l).length<=l.length+1:=by
 induction l with
 | nil=>simp [zmU]
 | cons y r ih=>
  unfold zmU;split
  ·simp
  ·split
   ·simp
   ·simp only [qf]; omega
theorem zbeU (a b:yF) (ha:a.length<=400000) (hb:b.length<=400000):zzW a b=(true,b.foldl (λo x=>zmU cR x o) a):=by
 unfold zzW zYh
 have h:=zpe (W:=zIL) (z:=default) b (λi st=>(st,b,(i:Int),())) (λ_ _=>()) (λo x=>zmU cR x o) id (λi st=>st.length<=a.length+i)
  (λi st hi hI=>⟨by
   have:=zbdN (b.getD i default) st;omega,λH K D=>by
   show (zxs st b i).ev H K D=_;unfold zxs;simp only [Wy.ev_i,Wy.ev_k,Wy.ev_h,Wy.ev_bn,Wy.ev_d,Int.ofNat_eq_natCast,zbM,zbf,decide_true,decide_false,Bool.and_self,Bool.true_and,Bool.and_true,cond_true,cond_false,Int.toNat_natCast,eqR,eqR',Bool.not_true,Bool.not_false,bnd,hi,zbcH st (b.getD i default) (by omega)]
   rw [zV (by omega)]⟩)
  (λst hI H K D=>by
   show (zxs st b b.length).ev H K D=_;unfold zxs;simp only [Wy.ev_i,Wy.ev_k,Int.ofNat_eq_natCast,zbM,zbf,decide_true,decide_false,Bool.and_self,Bool.true_and,Bool.and_true,cond_true,cond_false,Int.toNat_natCast,eqR,eqR',Bool.not_true,Bool.not_false,bnd,Nat.lt_irrefl]; rfl) (a.length+b.length+Int.toNat (0:Int)+1) a (by omega) (by simp)
 have h:zTS (a.length+b.length+Int.toNat (0:Int)+1) a b 0=_:=h;rw [Wy.fin_bn,h]; rfl
theorem zbgo {a:yF} (ha:zhU cR a) (b:yF):b.foldl (λo x=>zmU cR x o) a=nR (a++b):=by
 show _=zEb cR (a++b);unfold zEb;rw [List.foldl_append];congr 1;exact (zSt ziE ha).symm
theorem zbie {n:Nat} (hn:n<=1000) {a:yC} (ha:z9S a):∃ q,zzC (n:Int) [a]=(true,q)/\(q=true->okA a/\zb4 a<=n):=by
 obtain ⟨q,h1,h2⟩:=zbhu n hn [a] (by simp) (λx hx=>by rw [qh] at hx; subst hx; exact ha)
 exact ⟨q,h1,λh=>⟨zbgk hn (h2 h a (by simp)) ha,(h2 h a (by simp)).2⟩⟩
end Go.Proofs.YtljlfiomikifjaaGreatDoor
/- One step of the functions on sets of row identifiers. -/
set_option maxRecDepth 100000
namespace Go.Proofs.YtljlfiomikifjaaGreatDoor
open Go Go.Ab
theorem zjq (n:Nat) (s1:yF) (s2:yF) (t11:yF) (t12:Int) (t13:Int):zbE (n+1) s1 s2 t11 t12 t13=(zcP s1 s2 t11 t12 t13).ev (λx y=>zbE n x.1 x.2.1 x.2.2.2.1 x.2.2.2.2.1 x.2.2.2.2.2.1) (λr=>(true,r)) (false,.inl default):=rfl
theorem zxx (n:Nat) (s1:yF) (s2:yF) (t12:Int) (t13:Int):zdL (n+1) s1 s2 t12 t13=(zhB s1 s2 t12 t13).ev (λx y=>zdL n x.1 x.2.1 x.2.2.1 x.2.2.2.1) (λr=>(true,r)) (false,.inl default):=rfl
theorem zwP (n:Nat) (s:yF) (t7:Int) (t8:Int) (v:RowID):zdK (n+1) s t7 t8 v=(zhV s t7 t8 v).ev (λx y=>zdK n x.1 x.2.2.1 x.2.2.2.1 y.1) (λr=>(true,r)) (false,.inl default):=rfl
theorem zt1 (n:Nat) (s:yF) (f:yF) (t7:Int) (t8:Int):zc5 (n+1) s f t7 t8=(zf8 s f t7 t8).ev (λx y=>zc5 n x.1 x.2.1.1.1 x.2.2.1 x.2.2.2.1) (λr=>(true,r)) (false,.inl default):=rfl
theorem ztz (n:Nat) (del:yF) (i:Int) (j:Int) (s:yF):zcX (n+1) del i j s=(zfR del i j s).ev (λx y=>zcX n x.2.1.1.1 x.2.2.1 x.2.2.2.1 y.1) (λr=>(true,r)) (false,default):=rfl
theorem zvl (n:Nat) (k:Int) (s2_0:Nat) (s2_1:Nat) (k2:Int) (s:yF):zem (n+1) k s2_0 s2_1 k2 s=(zgR k s2_0 s2_1 k2 s).ev (λx y=>zem n x.2.1 x.2.2.1.1 x.2.2.1.2 x.2.2.2.1 y.1) (λr=>(true,r)) (false,default):=rfl
theorem zvr (n:Nat) (k:Int) (s:yF):zdo (n+1) k s=(zgV k s).ev (λx y=>zdo n x.2.1 y.1) (λr=>(true,r)) (false,.inl default):=rfl
theorem zq5 (n:Nat) (k:Int) (s2_0:Nat) (s2_1:Nat) (k2:Int) (s:yB):zdG (n+1) k s2_0 s2_1 k2 s=(zeV k s2_0 s2_1 k2 s).ev (λx y=>zdG n x.2.2.1 x.2.2.2.1.1 x.2.2.2.1.2 x.2.2.2.2.1 y.1) (λr=>(true,r)) (false,default):=rfl
theorem zqW (n:Nat) (k:Int) (s:yB):zcz (n+1) k s=(zeW k s).ev (λx y=>zcz n x.2.2.1 y.1) (λr=>(true,r)) (false,.inl default):=rfl
theorem zUL (n:Nat) (t6:yB) (t7:Int) (t8:Int) (out_:yB):zqx (n+1) t6 t7 t8 out_=(zBR t6 t7 t8 out_).ev (λx y=>zqx n x.2.1 x.2.2.1 x.2.2.2.1 y.1) (λr=>(true,r)) (false,default):=rfl
theorem zSs (n:Nat) (t8:Int) (t9:Int) (out_:List Int):zn3 (n+1) t8 t9 out_=(zAX t8 t9 out_).ev (λx y=>zn3 n x.2.1 x.2.2.1 y.1) (λr=>(true,r)) (false,default):=rfl
theorem zCT (n:Nat) (s:List Int) (f_0:Int) (f_1:yB) (f_2:yF) (t7:Int) (t8:Int):zfJ (n+1) s f_0 f_1 f_2 t7 t8=(zlW s f_0 f_1 f_2 t7 t8).ev (λx y=>zfJ n x.1 x.2.1.1.1 x.2.1.2.1.1 x.2.1.2.2.1.1 x.2.2.1 x.2.2.2.1) (λr=>(true,r)) (false,.inl default):=rfl
theorem zTy (n:Nat) (t11:Int) (t12:Int) (out_:yB) (t10:yB):zoa (n+1) t11 t12 out_ t10=(zAC t11 t12 out_ t10).ev (λx y=>zoa n x.2.2.2.1 x.2.2.2.2.1 y.2.1 y.2.2.1) (λr=>(true,r)) (false,default):=rfl
theorem zSb (n:Nat) (b:yB) (x_:yF) (t10:yB) (t11:Int) (t12:Int) (t16:yB) (t17:Int) (t18:Int) (out_:yB):zue (n+1) b x_ t10 t11 t12 t16 t17 t18 out_=(zAB b x_ t10 t11 t12 t16 t17 t18 out_).ev (λx y=>zue n x.1 x.2.2.1 x.2.2.2.1 x.2.2.2.2.1 x.2.2.2.2.2.1 x.2.2.2.2.2.2.1 x.2.2.2.2.2.2.2.1 x.2.2.2.2.2.2.2.2.1 y.1) (λr=>(true,r)) (false,default):=rfl
theorem zRy (n:Nat) (b:yB) (t10:yB) (t11:Int) (t12:Int) (out_:yB):znZ (n+1) b t10 t11 t12 out_=(zAG b t10 t11 t12 out_).ev (λx y=>znZ n x.1 x.2.2.1 x.2.2.2.1 x.2.2.2.2.1 y.1) (λr=>(true,r)) (false,default):=rfl
theorem z0d (a:RowID) (b:RowID):zeD a b=bnd (zc1 a.Table b.Table) (λr2=>bnd (zc1 a.Seq b.Seq) (λr1=>bnd (zkO [r2,r1]) (λr0=>(true,r0)) (false,default)) (false,default)) (false,default):=rfl
theorem zjW (s1:yF) (s2:yF):zbr s1 s2=bnd (zbE (s1.length+s2.length+s1.length+(Int.ofNat s1.length).toNat +Int.toNat (0:Int)+(1:Nat)) s1 s2 s1 (Int.ofNat s1.length) (0:Int)) (λr2=>bif isL r2 then (true,getL r2) else bif decide (Int.ofNat (getR r2).fst.length<Int.ofNat (getR r2).snd.length) then (true,(-1:Int)) else (true,(0:Int))) (false,default):=rfl
theorem zPO (a:yF) (b:yF):zee a b=bnd (zbr a b) (λr0=>(true,r0)) (false,default):=rfl
theorem zyO (s1:yF) (s2:yF):zdi s1 s2=bif Int.ofNat s1.length != Int.ofNat s2.length then (true,false) else bnd (zdL (s1.length+s2.length+(Int.ofNat s1.length).toNat +Int.toNat (0:Int)+(1:Nat)) s1 s2 (Int.ofNat s1.length) (0:Int)) (λr0=>bif isL r0 then (true,getL r0) else (true,true)) (false,default):=rfl
theorem zzf (s:yF) (v:RowID):zdg s v=bnd (zdK (s.length+(Int.ofNat s.length).toNat +Int.toNat (0:Int)+(1:Nat)) s (Int.ofNat s.length) (0:Int) v) (λr0=>bif isL r0 then (true,getL r0) else (true,(-1:Int))) (false,default):=rfl
theorem zxk (s:yF) (v:RowID):zcO s v=bnd (zdg s v) (λr0=>(true,decide (r0≥(0:Int)))) (false,default):=rfl
theorem zWB (id:RowID) (p1:yF):znu id p1=bnd (zcO p1 id) (λr0=>(true,r0)) (false,default):=rfl
theorem zwr (s:yF) (f:yF):zca s f=bnd (zc5 (s.length+f.length+(Int.ofNat s.length).toNat +Int.toNat (0:Int)+(1:Nat)) s f (Int.ofNat s.length) (0:Int)) (λr2=>bif isL r2 then (true,getL r2) else (true,(-1:Int))) (false,default):=rfl
theorem zvj (s:yF) (del:yF):zcv s del=bnd (zca s del) (λr3=>bif r3==(-1:Int) then (true,s) else bnd (zcX (del.length+r3.toNat +(IntKind.i64.wrap (r3+(1:Int))).toNat +s.length+(1:Nat)) del r3 (IntKind.i64.wrap (r3+(1:Int))) s) (λr2=>bif decide ((0:Int)<=r2.fst)&&decide (r2.fst<=Int.ofNat r2.snd.length)&&decide (Int.ofNat r2.snd.length<=Int.ofNat r2.snd.length) then bif decide (r2.fst.toNat +((Int.ofNat r2.snd.length).toNat - r2.fst.toNat)<=r2.snd.length) then bif decide ((0:Int)<=(0:Int))&&decide ((0:Int)<=r2.fst)&&decide (r2.fst<=Int.ofNat (List.take r2.fst.toNat r2.snd++List.replicate ((Int.ofNat r2.snd.length).toNat - r2.fst.toNat) (RowID.mk (0:Int) (0:Int))++List.drop (r2.fst.toNat +((Int.ofNat r2.snd.length).toNat - r2.fst.toNat)) r2.snd).length) then (true,List.take (r2.fst.toNat - Int.toNat (0:Int)) (List.take r2.fst.toNat r2.snd++List.replicate ((Int.ofNat r2.snd.length).toNat - r2.fst.toNat) (RowID.mk (0:Int) (0:Int))++List.drop (r2.fst.toNat +((Int.ofNat r2.snd.length).toNat - r2.fst.toNat)) r2.snd)) else (false,default) else (false,default) else (false,default)) (false,default)) (false,default):=rfl
theorem zx2 (s:yF):zcY s=bif decide (Int.ofNat s.length<(2:Int)) then (true,s) else bnd (zdo (Int.toNat (1:Int)+s.length+(1:Nat)) (1:Int) s) (λr2=>bif isL r2 then (true,List.take (getL r2).fst (getL r2).snd) else (true,getR r2)) (false,default):=rfl
theorem zVA (a:yF) (b:yF):zlX a b=bnd (zdi a b) (λr0=>(true,r0)) (false,default):=rfl
theorem zty (s:yB):zcd s=bif decide (Int.ofNat s.length<(2:Int)) then (true,s) else bnd (zcz (Int.toNat (1:Int)+s.length+(1:Nat)) (1:Int) s) (λr6=>bif isL r6 then (true,List.take (getL r6).fst (getL r6).snd) else (true,getR r6)) (false,default):=rfl
theorem zUt (l:yF):zga l=bnd (zb8 l) (λr2=>bnd (zcN r2) (λr1=>bnd (zcY r1) (λr0=>(true,r0)) (false,default)) (false,default)) (false,default):=rfl
theorem z4X (a:yF) (b:yF):zyP a b=bnd (zb8 a) (λr1=>bif decide ((r1.length+b.length)*(16:Nat)<=z7) then bnd (zga (r1++b)) (λr0=>(true,r0)) (false,default) else (false,default)) (false,default):=rfl
theorem z5g (a:yF) (b:yF):zuz a b=bnd (zga a) (λr1=>bnd (zcv r1 b) (λr0=>(true,r0)) (false,default)) (false,default):=rfl
theorem z1U (a:yF) (b:yF):zsa a b=bnd (zuz a b) (λr0=>(true,Int.ofNat r0.length==(0:Int))) (false,default):=rfl
theorem z27 (l:yB):zli l=bnd (zqx (l.length+(Int.ofNat l.length).toNat +Int.toNat (0:Int)+(0:Nat)+(1:Nat)) l (Int.ofNat l.length) (0:Int) []) (λr4=>bnd (zcw r4) (λr3=>bnd (zcd r3) (λr2=>(true,r2)) (false,default)) (false,default)) (false,default):=rfl
theorem zZN (n_:Int):zur n_=bif decide ((0:Int)<=n_)&&decide (n_<=n_)&&decide (n_*Int.ofNat (8:Nat)<=Int.ofNat z7)&&decide (n_<=Int.ofNat z7) then bnd (zn3 ((Int.ofNat (List.replicate n_.toNat (0:Int)).length).toNat +Int.toNat (0:Int)+(List.replicate n_.toNat (0:Int)).length+(1:Nat)) (Int.ofNat (List.replicate n_.toNat (0:Int)).length) (0:Int) (List.replicate n_.toNat (0:Int))) (λr0=>(true,r0)) (false,default) else (false,default):=rfl
theorem zSm (k:Int) (p1:Int) (p2:yB) (p3:yF):zoi k p1 p2 p3=bif k != p1 then bif decide ((0:Int)<=k)&&decide (k<Int.ofNat p2.length) then bnd (zsa (p2.getD k.toNat default) p3) (λr0=>(true,r0)) (false,default) else (false,default) else (true,false):=rfl
theorem zFI (s:List Int) (f_0:Int) (f_1:yB) (f_2:yF):zff s f_0 f_1 f_2=bnd (zfJ (s.length+f_0.toNat +f_1.length+f_2.length+(Int.ofNat s.length).toNat +Int.toNat (0:Int)+(1:Nat)) s f_0 f_1 f_2 (Int.ofNat s.length) (0:Int)) (λr2=>bif isL r2 then (true,getL r2) else (true,(-1:Int))) (false,default):=rfl
theorem zCK (s:List Int) (f_0:Int) (f_1:yB) (f_2:yF):zfw s f_0 f_1 f_2=bnd (zff s f_0 f_1 f_2) (λr0=>(true,decide (r0≥(0:Int)))) (false,default):=rfl
theorem zZu (l:yB):zgw l=bnd (zli l) (λr5=>bnd (zoa ((Int.ofNat r5.length).toNat +Int.toNat (0:Int)+(0:Nat)+r5.length+(1:Nat)) (Int.ofNat r5.length) (0:Int) [] r5) (λr4=>(true,r4)) (false,default)) (false,default):=rfl
theorem zZW (a:yB) (b:yB):zmc a b=bnd (znZ (b.length+a.length+(Int.ofNat a.length).toNat +Int.toNat (0:Int)+(0:Nat)+(1:Nat)) b a (Int.ofNat a.length) (0:Int) []) (λr7=>bnd (zli r7) (λr6=>(true,r6)) (false,default)) (false,default):=rfl
end Go.Proofs.YtljlfiomikifjaaGreatDoor
/- What the printed functions compute: the program's functions on sets of row identifiers. -/
namespace Go.Proofs.YtljlfiomikifjaaGreatDoor
open Go Go.Ab
theorem zAD (a b:RowID):zeD a b=(true,cR a b):=by
 rw [z0d];simp only [zsg,bnd,cond_true];rw [zr5 _ (by simp)]
 simp only [cond_true,cR,zr4,zdJ];congr 1
 repeat' split
 all_goals first | rfl | omega
theorem zLn (a b:yF) (ha:a.length<=1000000) (hb:b.length<=1000000):∀ (n i:Nat),a.length<i+n->i<=a.length->i<=b.length->
  ∃ r,zbE n a b a a.length i=(true,r)/\((r=.inl (cS (a.drop i) (b.drop i)))\/(r=.inr (a,b)/\cS (a.drop i) (b.drop i)=if a.length<b.length then -1 else 0))
 | 0,i,h,h2,h3=>by omega
 | n+1,i,h,h2,h3=>by
  rw [zjq];unfold zcP;by_cases hi:i<a.length
  ·by_cases hi':i<b.length
   ·have hg:¬ b.length<=i:=by omega
    simp only [Wy.ev_i,Wy.ev_k,Wy.ev_h,Wy.ev_bn,Wy.ev_d,Int.ofNat_eq_natCast,zbM,zbf,decide_true,decide_false,Bool.and_self,Bool.true_and,Bool.and_true,cond_true,cond_false,Int.toNat_natCast,eqR,eqR',Bool.not_true,Bool.not_false,bnd,hi,hi',z4i,hg,zAD];rw [zZ hi,zZ hi',zV (by omega)]
    generalize a.getD i default=x;generalize b.getD i default=y;by_cases hx:cR x y=0
    ·have e:(cR x y != 0)=false:=by simp [hx]
     simp only [e,cond_false,zv9,hx,if_true];exact zLn a b ha hb n (i+1) (by omega) (by omega) (by omega)
    ·have e:(cR x y != 0)=true:=by simp [hx]
     simp only [e,cond_true,zv9,hx,if_false];exact ⟨_,rfl,.inl rfl⟩
   ·have hg:b.length<=i:=by omega
    simp only [Wy.ev_i,Wy.ev_k,Wy.ev_h,Wy.ev_bn,Wy.ev_d,Int.ofNat_eq_natCast,zbM,zbf,decide_true,decide_false,Bool.and_self,Bool.true_and,Bool.and_true,cond_true,cond_false,Int.toNat_natCast,eqR,eqR',Bool.not_true,Bool.not_false,bnd,hi,z4i,hg];refine ⟨_,rfl,.inl ?_⟩;rw [zZ hi,zci hi']; rfl
  ·simp only [Wy.ev_i,Wy.ev_k,Wy.ev_h,Wy.ev_bn,Wy.ev_d,Int.ofNat_eq_natCast,zbM,zbf,decide_true,decide_false,Bool.and_self,Bool.true_and,Bool.and_true,cond_true,cond_false,Int.toNat_natCast,eqR,eqR',Bool.not_true,Bool.not_false,bnd,hi];refine ⟨_,rfl,.inr ⟨rfl, ?_⟩⟩;rw [zci hi];by_cases hi':i<b.length
   ·rw [zZ hi',if_pos (by omega)]; rfl
   ·rw [zci hi',if_neg (by omega)]; rfl
theorem zCG (a b:yF) (ha:a.length<=1000000) (hb:b.length<=1000000):zee a b=(true,cS a b):=by
 rw [zPO]
 have h:zbr a b=(true,cS a b):=by
  rw [zjW];obtain ⟨r,h1,h2⟩:=zLn a b ha hb (a.length+b.length+a.length+(Int.ofNat a.length).toNat +Int.toNat 0+1) 0 (by simp; omega) (by omega) (by omega)
  rw [show (0:Int)=((0:Nat):Int) from rfl] at *
  rw [show Int.ofNat a.length=(a.length:Int) from rfl] at *
  rw [h1];simp only [List.drop_zero] at h2;rcases h2 with rfl | ⟨rfl,h2⟩
  ·rfl
  ·rw [h2];simp only [Wy.ev_i,Wy.ev_k,Wy.ev_h,Wy.ev_bn,Wy.ev_d,Int.ofNat_eq_natCast,zbM,zbf,decide_true,decide_false,Bool.and_self,Bool.true_and,Bool.and_true,cond_true,cond_false,Int.toNat_natCast,eqR,eqR',Bool.not_true,Bool.not_false,bnd,isL,getR];by_cases h3:a.length<b.length <;>simp [h3]
 rw [h]; rfl
theorem z35 (a b:yF) (ha:a.length<=1000000) (hab:a.length=b.length):∀ (n i:Nat),a.length<i+n->i<=a.length->zdL n a b a.length i=(true,if a.drop i=b.drop i then .inr () else .inl false)
 | 0,i,h,h2=>by omega
 | n+1,i,h,h2=>by
  rw [zxx];unfold zhB;by_cases hi:i<a.length
  ·have hi':i<b.length:=by omega
   simp only [Wy.ev_i,Wy.ev_k,Wy.ev_h,Wy.ev_bn,Wy.ev_d,Int.ofNat_eq_natCast,zbM,zbf,decide_true,decide_false,Bool.and_self,Bool.true_and,Bool.and_true,cond_true,cond_false,Int.toNat_natCast,eqR,eqR',Bool.not_true,Bool.not_false,bnd,hi,hi'];rw [zZ hi,zZ hi',zV (by omega),z35 a b ha hab n (i+1) (by omega) (by omega)]
   generalize a.getD i default=x;generalize b.getD i default=y;by_cases hx:x=y <;>simp [hx]
  ·have hi':¬ i<b.length:=by omega
   simp only [Wy.ev_i,Wy.ev_k,Wy.ev_h,Wy.ev_bn,Wy.ev_d,Int.ofNat_eq_natCast,zbM,zbf,decide_true,decide_false,Bool.and_self,Bool.true_and,Bool.and_true,cond_true,cond_false,Int.toNat_natCast,eqR,eqR',Bool.not_true,Bool.not_false,bnd,hi,zci hi,zci hi']; simp
theorem z5e (a b:yF) (ha:a.length<=1000000):zdi a b=(true,decide (a=b)):=by
 rw [zyO];simp only [Int.ofNat_eq_natCast,z5W];by_cases hab:a.length=b.length
 ·simp only [hab,ne_eq,not_true_eq_false,decide_false,cond_false];rw [show (0:Int)=((0:Nat):Int) from rfl, <- hab,z35 a b ha hab _ 0 (by simp; omega) (by omega)]
  by_cases h:a=b <;>simp [h,isL,getL,bnd]
 ·have:a≠b:=λe=>hab (by rw [e])
  simp [hab,this]
theorem zE4 (a b:yF) (ha:a.length<=1000000):zlX a b=(true,decide (a=b)):=by
 rw [zVA];rw [z5e a b ha]; rfl
theorem z3d (l:yF) (v:RowID) (hl:l.length<=1000000):∀ (n i:Nat),l.length<i+n->i<=l.length->∃ r,zdK n l l.length i v=(true,r)/\((v∈l.drop i/\∃ j:Nat,r=.inl (j:Int))\/(v∉l.drop i/\r=.inr ()))
 | 0,i,h,h2=>by omega
 | n+1,i,h,h2=>by
  rw [zwP];unfold zhV;by_cases hi:i<l.length
  ·simp only [Wy.ev_i,Wy.ev_k,Wy.ev_h,Wy.ev_bn,Wy.ev_d,Int.ofNat_eq_natCast,zbM,zbf,decide_true,decide_false,Bool.and_self,Bool.true_and,Bool.and_true,cond_true,cond_false,Int.toNat_natCast,eqR,eqR',Bool.not_true,Bool.not_false,bnd,hi];obtain ⟨r,h1,h3⟩:=z3d l v hl n (i+1) (by omega) (by omega)
   rw [zZ hi,zV (by omega),h1]
   generalize l.getD i default=x;by_cases hx:v=x
   ·subst hx;exact ⟨.inl (i:Int),by simp,.inl ⟨by simp,i,rfl⟩⟩
   ·refine ⟨r,by simp [hx], ?_⟩
    simpa [hx] using h3
  ·simp only [Wy.ev_i,Wy.ev_k,Wy.ev_h,Wy.ev_bn,Wy.ev_d,Int.ofNat_eq_natCast,zbM,zbf,decide_true,decide_false,Bool.and_self,Bool.true_and,Bool.and_true,cond_true,cond_false,Int.toNat_natCast,eqR,eqR',Bool.not_true,Bool.not_false,bnd,hi,zci hi];exact ⟨_,rfl,.inr ⟨by simp,rfl⟩⟩
theorem zWI (l:yF) (v:RowID) (hl:l.length<=1000000):zcO l v=(true,decide (v∈l)):=by
 have h:∃ k:Int,zdg l v=(true,k)/\(0<=k↔v∈l):=by
  rw [zzf];obtain ⟨r,h1,h2⟩:=z3d l v hl (l.length+(Int.ofNat l.length).toNat +Int.toNat 0+1) 0 (by simp; omega) (by omega)
  rw [show (0:Int)=((0:Nat):Int) from rfl] at *
  rw [show Int.ofNat l.length=(l.length:Int) from rfl] at *
  rw [h1];rw [List.drop_zero] at h2;rcases h2 with ⟨h2,j,rfl⟩ | ⟨h2,rfl⟩
  ·exact ⟨(j:Int),rfl,by simp [h2]⟩
  ·exact ⟨-1,rfl,by simp [h2]⟩
 obtain ⟨k,h1,h2⟩:=h;rw [zxk];rw [h1];simp only [bnd,cond_true];by_cases h3:v∈l
 ·have:=h2.2 h3; simp [h3,this]
 ·have:¬ 0<=k:=λh=>h3 (h2.1 h)
  simp [h3]; omega
theorem zGZ (x:RowID) (b:yF) (hb:b.length<=1000000):znu x b=(true,decide (x∈b)):=by
 rw [zWB];rw [zWI b x hb]; rfl
theorem zRp (l b:yF) (hl:l.length<=1000000) (hb:b.length<=1000000):∀ (n i:Nat),l.length<i+n->i<=l.length->
  ∃ r,zc5 n l b l.length i=(true,r)/\((∃ j:Nat,r=.inl (j:Int)/\i<=j/\j<l.length/\l.getD j default∈b/\l.drop i=(l.take j).drop i++l.drop j/\∀ x∈(l.take j).drop i,x∉b)\/(r=.inr ()/\∀ x∈l.drop i,x∉b))
 | 0,i,h,h2=>by omega
 | n+1,i,h,h2=>by
  rw [zt1];unfold zf8;by_cases hi:i<l.length
  ·simp only [Wy.ev_i,Wy.ev_k,Wy.ev_h,Wy.ev_bn,Wy.ev_d,Int.ofNat_eq_natCast,zbM,zbf,decide_true,decide_false,Bool.and_self,Bool.true_and,Bool.and_true,cond_true,cond_false,Int.toNat_natCast,eqR,eqR',Bool.not_true,Bool.not_false,bnd,hi,zGZ _ b hb];obtain ⟨r,h1,h3⟩:=zRp l b hl hb n (i+1) (by omega) (by omega)
   rw [zV (by omega),h1]
   by_cases hx:l.getD i default∈b
   ·refine ⟨.inl (i:Int),by simp only [hx,decide_true,cond_true],.inl ⟨i,rfl,Nat.le_refl _,hi,hx, ?_, ?_⟩⟩
    ·rw [List.drop_take,Nat.sub_self]; simp
    ·rw [List.drop_take,Nat.sub_self]; simp
   ·refine ⟨r,by simp only [hx,decide_false,cond_false], ?_⟩
    rcases h3 with ⟨j,rfl,h4,h5,h6,h7,h8⟩ | ⟨rfl,h4⟩
    ·have e:(l.take j).drop i=l.getD i default::(l.take j).drop (i+1):=by
      rw [List.drop_take,List.drop_take,zZ hi,show j - i=(j - (i+1))+1 by omega,List.take_succ_cons]
     refine .inl ⟨j,rfl,by omega,h5,h6, ?_, ?_⟩
     ·rw [zZ hi,h7,e]; rfl
     ·rw [e];intro x hx';rcases qd.1 hx' with rfl | hx'
      ·exact hx
      ·exact h8 x hx'
    ·refine .inr ⟨rfl, ?_⟩;rw [zZ hi];intro x hx';rcases qd.1 hx' with rfl | hx'
     ·exact hx
     ·exact h4 x hx'
  ·simp only [Wy.ev_i,Wy.ev_k,Wy.ev_h,Wy.ev_bn,Wy.ev_d,Int.ofNat_eq_natCast,zbM,zbf,decide_true,decide_false,Bool.and_self,Bool.true_and,Bool.and_true,cond_true,cond_false,Int.toNat_natCast,eqR,eqR',Bool.not_true,Bool.not_false,bnd,hi];exact ⟨_,rfl,.inr ⟨rfl,by rw [zci hi]; simp⟩⟩
theorem zUQ (l b:yF) (hl:l.length<=1000000) (hb:b.length<=1000000):
  (∃ j:Nat,zca l b=(true,(j:Int))/\j<l.length/\l.getD j default∈b/\∀ x∈l.take j,x∉b)\/(zca l b=(true, -1)/\∀ x∈l,x∉b):=by
 rw [zwr];obtain ⟨r,h1,h2⟩:=zRp l b hl hb (l.length+b.length+(Int.ofNat l.length).toNat +Int.toNat 0+1) 0 (by simp; omega) (by omega)
 rw [show (0:Int)=((0:Nat):Int) from rfl] at *
 rw [show Int.ofNat l.length=(l.length:Int) from rfl] at *
 rw [h1];simp only [List.drop_zero] at h2;rcases h2 with ⟨j,rfl,_,h3,h4,_,h5⟩ | ⟨rfl,h3⟩
 ·exact .inl ⟨j,rfl,h3,h4,h5⟩
 ·exact .inr ⟨rfl,h3⟩
theorem zDQ (b:yF) (hb:b.length<=1000000):∀ (n i j:Nat) (s:yF),s.length<=1000000->s.length<j+n->j<=s.length->i<=j->
  ∃ (i':Nat) (s':yF),zcX n b i j s=(true,((i':Int),s'))/\s'.length=s.length/\i'<=s.length/\s'.take i'=s.take i++(s.drop j).filter λx=> !decide (x∈b)
 | 0,i,j,s,hs,h,h2,h3=>by omega
 | n+1,i,j,s,hs,h,h2,h3=>by
  rw [ztz];unfold zfR;by_cases hj:j<s.length
  ·have hi:i<s.length:=by omega
   simp only [Wy.ev_i,Wy.ev_k,Wy.ev_h,Wy.ev_bn,Wy.ev_d,Int.ofNat_eq_natCast,zbM,zbf,decide_true,decide_false,Bool.and_self,Bool.true_and,Bool.and_true,cond_true,cond_false,Int.toNat_natCast,eqR,eqR',Bool.not_true,Bool.not_false,bnd,hj,hi,zGZ _ b hb];rw [zZ hj];by_cases hx:s.getD j default∈b
   ·simp only [Wy.ev_i,Wy.ev_k,Wy.ev_h,Wy.ev_bn,Wy.ev_d,Int.ofNat_eq_natCast,zbM,zbf,decide_true,decide_false,Bool.and_self,Bool.true_and,Bool.and_true,cond_true,cond_false,Int.toNat_natCast,eqR,eqR',Bool.not_true,Bool.not_false,bnd,hx,List.filter_cons,Bool.false_eq_true,if_false];rw [zV (by omega)]
    exact zDQ b hb n i (j+1) s hs (by omega) (by omega) (by omega)
   ·simp only [Wy.ev_i,Wy.ev_k,Wy.ev_h,Wy.ev_bn,Wy.ev_d,Int.ofNat_eq_natCast,zbM,zbf,decide_true,decide_false,Bool.and_self,Bool.true_and,Bool.and_true,cond_true,cond_false,Int.toNat_natCast,eqR,eqR',Bool.not_true,Bool.not_false,bnd,hx,List.filter_cons,if_true];rw [zV (by omega),zV (by omega)]
    obtain ⟨i',s',h4,h5,h6,h7⟩:=zDQ b hb n (i+1) (j+1) (s.set i (s.getD j default)) (by simpa using hs) (by simp; omega) (by simp; omega) (by omega)
    refine ⟨i',s',h4,by simpa using h5,by simpa using h6, ?_⟩
    rw [h7,zBE _ hi,zOj _ (by omega)]
    simp
  ·simp only [Wy.ev_i,Wy.ev_k,Wy.ev_h,Wy.ev_bn,Wy.ev_d,Int.ofNat_eq_natCast,zbM,zbf,decide_true,decide_false,Bool.and_self,Bool.true_and,Bool.and_true,cond_true,cond_false,Int.toNat_natCast,eqR,eqR',Bool.not_true,Bool.not_false,bnd,hj];exact ⟨i,s,rfl,rfl,by omega,by rw [zci hj]; simp⟩
theorem zRY (s b:yF) (hs:s.length<=1000000) (hb:b.length<=1000000):zcv s b=(true,s.filter λx=> !decide (x∈b)):=by
 rw [zvj];rcases zUQ s b hs hb with ⟨j,h1,h2,h3,h4⟩ | ⟨h1,h2⟩
 ·rw [h1];have e:((j:Int)== -1)=false:=by simp
  simp only [bnd,cond_true,e,cond_false];rw [zV (by omega)]
  obtain ⟨i',s',h5,h6,h7,h8⟩:=zDQ b hb (b.length+(j:Int).toNat +((j+1:Nat):Int).toNat +s.length+1) j (j+1) s hs (by simp; omega) (by omega) (by omega)
  rw [h5];have h7':i'<=s'.length:=by omega
  have e2:i'+(s'.length - i')<=s'.length:=by omega
  have e3:i'<=(List.take i' s'++List.replicate (s'.length - i') (RowID.mk 0 0)++List.drop (i'+(s'.length - i')) s').length:=by simp; omega
  simp only [Int.ofNat_eq_natCast,Int.toNat_natCast,zbf,zp2,h7',e2,e3,Nat.le_refl,decide_true,Bool.and_self,cond_true,Int.le_refl,Int.toNat_zero,Nat.sub_zero];rw [zTH _ h7',h8];congr 1
  conv=>rhs; rw [<- List.take_append_drop j s,List.filter_append,zZ h2,List.filter_cons]
  simp only [h3,decide_true,Bool.not_true,Bool.false_eq_true,if_false];congr 1;refine (List.filter_eq_self.2 λx hx=> ?_).symm
  simp [h4 x hx]
 ·rw [h1];simp only [bnd,cond_true];have:s.filter (λx=> !decide (x∈b))=s:=List.filter_eq_self.2 λx hx=>by simp [h2 x hx]
  rw [this]; rfl
abbrev pR (x y:RowID):Bool:=decide (x=y)
theorem zRT:∀ (n k k0 m k2:Nat) (s:yF) (x:RowID) (rest:yF),s.length<=1000000->k0+m=s.length->1<=k2->k2<=m->k<=k0+k2 - 1->s.drop (k0+k2 - 1)=x::rest->m<k2+n->
  ∃ (k':Nat) (s':yF),zem n k k0 m k2 s=(true,((k':Int),s'))/\s'.length=s.length/\k'<=s.length/\s'.take k'=s.take k++zd5 pR x rest
 | 0,k,k0,m,k2,s,x,rest,hs,hm,h1,h2,h3,hd,h4=>by omega
 | n+1,k,k0,m,k2,s,x,rest,hs,hm,h1,h2,h3,hd,h4=>by
  rw [zvl];unfold zgR;by_cases hk:k2<m
  ·have hk1:k2 - 1<m:=by omega
   have hkl:k<s.length:=by omega
   rw [zm3 (by omega) (by omega)]
   simp only [Wy.ev_i,Wy.ev_k,Wy.ev_h,Wy.ev_bn,Wy.ev_d,Int.ofNat_eq_natCast,zbM,zbf,decide_true,decide_false,Bool.and_self,Bool.true_and,Bool.and_true,cond_true,cond_false,Int.toNat_natCast,eqR,eqR',Bool.not_true,Bool.not_false,bnd,hk,hk1,hkl];have e1:k0+k2 - 1<s.length:=by omega
   have e2:k0+k2<s.length:=by omega
   have e3:k0+(k2 - 1)=k0+k2 - 1:=by omega
   rw [zZ e1,show k0+k2 - 1+1=k0+k2 by omega] at hd
   obtain ⟨hx,hr⟩:=List.cons.inj hd;rw [e3,hx, <- hr,zZ e2];generalize hy:s.getD (k0+k2) default=y;by_cases hxy:y=x
   ·subst hxy;simp only [decide_true,Bool.not_true,cond_false,zd5,pR,cond_true];rw [zV (by omega)]
    exact zRT n k k0 m (k2+1) s y _ hs hm (by omega) (by omega) (by omega) (by rw [show k0+(k2+1) - 1=k0+k2 by omega,zZ e2,hy]) (by omega)
   ·simp only [hxy,decide_false,Bool.not_false,cond_true,zd5,pR,cond_false];rw [zV (by omega),zV (by omega)]
    obtain ⟨k',s',h5,h6,h7,h8⟩:=zRT n (k+1) k0 m (k2+1) (s.set k y) y (s.drop (k0+k2+1)) (by simpa using hs) (by simpa using hm) (by omega) (by omega) (by omega)
     (by rw [show k0+(k2+1) - 1=k0+k2 by omega,zOj _ (by omega),zZ e2,hy]) (by omega)
    refine ⟨k',s',h5,by simpa using h6,by simpa using h7, ?_⟩
    rw [h8,zBE _ hkl]; simp
  ·simp only [Wy.ev_i,Wy.ev_k,Wy.ev_h,Wy.ev_bn,Wy.ev_d,Int.ofNat_eq_natCast,zbM,zbf,decide_true,decide_false,Bool.and_self,Bool.true_and,Bool.and_true,cond_true,cond_false,Int.toNat_natCast,eqR,eqR',Bool.not_true,Bool.not_false,bnd,hk];refine ⟨k,s,rfl,rfl,by omega, ?_⟩
   have:rest=[]:=by
    have h5:=congrArg List.length hd;simp at h5;exact List.eq_nil_of_length_eq_zero (by omega)
   rw [this]; simp [zd5]
theorem z0J:∀ (n k:Nat) (s:yF),s.length<=1000000->1<=k->k<=s.length->s.length<k+n->adj pR s=s.take k++zd5 pR (s.getD (k - 1) default) (s.drop k)->
  ∃ r,zdo n k s=(true,r)/\((∃ (m:Nat) (s':yF),r=.inl (m,s')/\s'.take m=adj pR s)\/(r=.inr s/\adj pR s=s))
 | 0,k,s,hs,h1,h2,h3,ha=>by omega
 | n+1,k,s,hs,h1,h2,h3,ha=>by
  rw [zvr];unfold zgV;by_cases hk:k<s.length
  ·have hk1:k - 1<s.length:=by omega
   have hkl:k<=s.length:=by omega
   rw [zm3 (by omega) (by omega)]
   simp only [Wy.ev_i,Wy.ev_k,Wy.ev_h,Wy.ev_bn,Wy.ev_d,Int.ofNat_eq_natCast,zbM,zp2,zbf,hk,hk1,hkl,Nat.le_refl,decide_true,Bool.and_self,cond_true,Int.toNat_natCast,eqR];rw [zZ hk] at ha;by_cases hxy:s.getD k default=s.getD (k - 1) default
   ·simp only [hxy,decide_true,cond_true]
    obtain ⟨k',s',h5,h6,h7,h8⟩:=zRT (k+k+(s.length - k)+Int.toNat 1+s.length+1) k k (s.length - k) 1 s (s.getD k default) (s.drop (k+1)) hs (by omega) (by omega) (by omega) (by omega)
     (by rw [show k+1 - 1=k by omega,zZ hk]) (by omega)
    rw [show (1:Int)=((1:Nat):Int) from rfl] at *
    rw [h5];have h7':k'<=s'.length:=by omega
    have e2:k'+(s'.length - k')<=s'.length:=by omega
    have e3:k'<=(List.take k' s'++List.replicate (s'.length - k') (RowID.mk 0 0)++List.drop (k'+(s'.length - k')) s').length:=by simp; omega
    simp only [Wy.ev_i,Wy.ev_k,Wy.ev_h,Wy.ev_bn,Wy.ev_d,bnd,Int.ofNat_eq_natCast,Int.toNat_natCast,zbf,zp2,h7',e2,e3,Nat.le_refl,decide_true,Bool.and_self,cond_true,Int.le_refl,Int.toNat_zero,Nat.sub_zero];refine ⟨_,rfl,.inl ⟨_,_,rfl, ?_⟩⟩;rw [zTH _ h7',h8,ha];simp only [zd5,pR,hxy,decide_true,cond_true]
   ·simp only [hxy,decide_false,cond_false];rw [zV (by omega)]
    refine z0J n (k+1) s hs (by omega) (by omega) (by omega) ?_
    rw [ha,zzQ hk];simp only [zd5,pR,hxy,decide_false,cond_false,Nat.add_sub_cancel];simp
  ·simp only [Wy.ev_i,Wy.ev_k,Wy.ev_h,Wy.ev_bn,Wy.ev_d,Int.ofNat_eq_natCast,zbM,zbf,decide_true,decide_false,Bool.and_self,Bool.true_and,Bool.and_true,cond_true,cond_false,Int.toNat_natCast,eqR,eqR',Bool.not_true,Bool.not_false,bnd,hk];refine ⟨_,rfl,.inr ⟨rfl, ?_⟩⟩;rw [ha,zci hk,List.take_of_length_le (by omega)]
   simp [zd5]
theorem z0p (s:yF) (hs:s.length<=1000000):zcY s=(true,adj pR s):=by
 rw [zx2];have h2:decide (Int.ofNat s.length<2)=decide (s.length<2):=by simp; omega
 rw [h2];by_cases h:s.length<2
 ·simp only [h,decide_true,cond_true]
  match s,h with
  | [],_=>rfl
  | [x],_=>rfl
  | _::_::_,h=>simp at h; omega
 ·simp only [h,decide_false,cond_false]
  have ha:adj pR s=s.take 1++zd5 pR (s.getD (1 - 1) default) (s.drop 1):=by
   cases s with
   | nil=>simp at h
   | cons x r=>simp [adj]
  obtain ⟨r,h3,h4⟩:=z0J (Int.toNat 1+s.length+1) 1 s hs (by omega) (by omega) (by simp; omega) ha
  rw [show (1:Int)=((1:Nat):Int) from rfl] at *
  rw [h3];rcases h4 with ⟨m,s',rfl,h4⟩ | ⟨rfl,h4⟩
  ·simp only [bnd,cond_true,isL,getL]; rw [h4]
  ·simp only [bnd,cond_true,isL,getR,cond_false]; rw [h4]
abbrev pS (x y:yF):Bool:=decide (x=y)
theorem zFD:∀ (n k k0 m k2:Nat) (s:yB) (x:yF) (rest:yB),(∀ z∈s,z.length<=1000000)->s.length<=1000000->k0+m=s.length->1<=k2->k2<=m->k<=k0+k2 - 1->s.drop (k0+k2 - 1)=x::rest->m<k2+n->
  ∃ (k':Nat) (s':yB),zdG n k k0 m k2 s=(true,((k':Int),s'))/\s'.length=s.length/\k'<=s.length/\s'.take k'=s.take k++zd5 pS x rest
 | 0,k,k0,m,k2,s,x,rest,hz,hs,hm,h1,h2,h3,hd,h4=>by omega
 | n+1,k,k0,m,k2,s,x,rest,hz,hs,hm,h1,h2,h3,hd,h4=>by
  rw [zq5];unfold zeV;by_cases hk:k2<m
  ·have hk1:k2 - 1<m:=by omega
   have hkl:k<s.length:=by omega
   have e1:k0+k2 - 1<s.length:=by omega
   have e2:k0+k2<s.length:=by omega
   have e3:k0+(k2 - 1)=k0+k2 - 1:=by omega
   rw [zm3 (by omega) (by omega)]
   simp only [Wy.ev_i,Wy.ev_k,Wy.ev_h,Wy.ev_bn,Wy.ev_d,Int.ofNat_eq_natCast,zbM,zbf,decide_true,decide_false,Bool.and_self,Bool.true_and,Bool.and_true,cond_true,cond_false,Int.toNat_natCast,eqR,eqR',Bool.not_true,Bool.not_false,bnd,hk,hk1,hkl,zE4 _ _ (hz _ (zR e2))];rw [zZ e1,show k0+k2 - 1+1=k0+k2 by omega] at hd
   obtain ⟨hx,hr⟩:=List.cons.inj hd;have hym:=hz _ (zR e2);rw [e3,hx, <- hr,zZ e2];generalize hy:s.getD (k0+k2) default=y at hym;by_cases hxy:y=x
   ·subst hxy;simp only [decide_true,Bool.not_true,cond_false,zd5,pS,cond_true];rw [zV (by omega)]
    exact zFD n k k0 m (k2+1) s y _ hz hs hm (by omega) (by omega) (by omega) (by rw [show k0+(k2+1) - 1=k0+k2 by omega,zZ e2,hy]) (by omega)
   ·simp only [hxy,decide_false,Bool.not_false,cond_true,zd5,pS,cond_false];rw [zV (by omega),zV (by omega)]
    obtain ⟨k',s',h5,h6,h7,h8⟩:=zFD n (k+1) k0 m (k2+1) (s.set k y) y (s.drop (k0+k2+1))
     (λz hz'=>by
      rcases List.mem_or_eq_of_mem_set hz' with h | h
      ·exact hz z h
      ·subst h; exact hym) (by simpa using hs) (by simpa using hm) (by omega) (by omega) (by omega)
     (by rw [show k0+(k2+1) - 1=k0+k2 by omega,zOj _ (by omega),zZ e2,hy]) (by omega)
    refine ⟨k',s',h5,by simpa using h6,by simpa using h7, ?_⟩
    rw [h8,zBE _ hkl]; simp
  ·simp only [Wy.ev_i,Wy.ev_k,Wy.ev_h,Wy.ev_bn,Wy.ev_d,Int.ofNat_eq_natCast,zbM,zbf,decide_true,decide_false,Bool.and_self,Bool.true_and,Bool.and_true,cond_true,cond_false,Int.toNat_natCast,eqR,eqR',Bool.not_true,Bool.not_false,bnd,hk];refine ⟨k,s,rfl,rfl,by omega, ?_⟩
   have:rest=[]:=by
    have h5:=congrArg List.length hd;simp at h5;exact List.eq_nil_of_length_eq_zero (by omega)
   rw [this]; simp [zd5]
theorem zNn:∀ (n k:Nat) (s:yB),(∀ z∈s,z.length<=1000000)->s.length<=1000000->1<=k->k<=s.length->s.length<k+n->adj pS s=s.take k++zd5 pS (s.getD (k - 1) default) (s.drop k)->
  ∃ r,zcz n k s=(true,r)/\((∃ (m:Nat) (s':yB),r=.inl (m,s')/\s'.take m=adj pS s)\/(r=.inr s/\adj pS s=s))
 | 0,k,s,hz,hs,h1,h2,h3,ha=>by omega
 | n+1,k,s,hz,hs,h1,h2,h3,ha=>by
  rw [zqW];unfold zeW;by_cases hk:k<s.length
  ·have hk1:k - 1<s.length:=by omega
   have hkl:k<=s.length:=by omega
   rw [zm3 (by omega) (by omega)]
   simp only [Wy.ev_i,Wy.ev_k,Wy.ev_h,Wy.ev_bn,Wy.ev_d,Int.ofNat_eq_natCast,zbM,zp2,zbf,hk,hk1,hkl,Nat.le_refl,decide_true,Bool.and_self,cond_true,Int.toNat_natCast,zE4 _ _ (hz _ (zR hk))];rw [zZ hk] at ha;by_cases hxy:s.getD k default=s.getD (k - 1) default
   ·simp only [hxy,decide_true,cond_true,bnd]
    obtain ⟨k',s',h5,h6,h7,h8⟩:=zFD (k+k+(s.length - k)+Int.toNat 1+s.length+1) k k (s.length - k) 1 s (s.getD k default) (s.drop (k+1)) hz hs (by omega) (by omega) (by omega) (by omega)
     (by rw [show k+1 - 1=k by omega,zZ hk]) (by omega)
    rw [show (1:Int)=((1:Nat):Int) from rfl] at *
    rw [h5];have h7':k'<=s'.length:=by omega
    have e2:k'+(s'.length - k')<=s'.length:=by omega
    have e3:k'<=(List.take k' s'++List.replicate (s'.length - k') []++List.drop (k'+(s'.length - k')) s').length:=by simp; omega
    simp only [Wy.ev_i,Wy.ev_k,Wy.ev_h,Wy.ev_bn,Wy.ev_d,bnd,Int.ofNat_eq_natCast,Int.toNat_natCast,zbf,zp2,h7',e2,e3,Nat.le_refl,decide_true,Bool.and_self,cond_true,Int.le_refl,Int.toNat_zero,Nat.sub_zero];refine ⟨_,rfl,.inl ⟨_,_,rfl, ?_⟩⟩;rw [zTH _ h7',h8,ha];simp only [zd5,pS,hxy,decide_true,cond_true]
   ·simp only [hxy,decide_false,cond_false,bnd,cond_true];rw [zV (by omega)]
    refine zNn n (k+1) s hz hs (by omega) (by omega) (by omega) ?_
    rw [ha,zzQ hk];simp only [zd5,pS,hxy,decide_false,cond_false,Nat.add_sub_cancel];simp
  ·simp only [Wy.ev_i,Wy.ev_k,Wy.ev_h,Wy.ev_bn,Wy.ev_d,Int.ofNat_eq_natCast,zbM,zbf,decide_true,decide_false,Bool.and_self,Bool.true_and,Bool.and_true,cond_true,cond_false,Int.toNat_natCast,eqR,eqR',Bool.not_true,Bool.not_false,bnd,hk];refine ⟨_,rfl,.inr ⟨rfl, ?_⟩⟩;rw [ha,zci hk,List.take_of_length_le (by omega)]
   simp [zd5]
theorem zRe (s:yB) (hz:∀ z∈s,z.length<=1000000) (hs:s.length<=1000000):zcd s=(true,adj pS s):=by
 rw [zty];have h2:decide (Int.ofNat s.length<2)=decide (s.length<2):=by simp; omega
 rw [h2];by_cases h:s.length<2
 ·simp only [h,decide_true,cond_true]
  match s,h with
  | [],_=>rfl
  | [x],_=>rfl
  | _::_::_,h=>simp at h; omega
 ·simp only [h,decide_false,cond_false]
  have ha:adj pS s=s.take 1++zd5 pS (s.getD (1 - 1) default) (s.drop 1):=by
   cases s with
   | nil=>simp at h
   | cons x r=>simp [adj]
  obtain ⟨r,h3,h4⟩:=zNn (Int.toNat 1+s.length+1) 1 s hz hs (by omega) (by omega) (by simp; omega) ha
  rw [show (1:Int)=((1:Nat):Int) from rfl] at *
  rw [h3];rcases h4 with ⟨m,s',rfl,h4⟩ | ⟨rfl,h4⟩
  ·simp only [bnd,cond_true,isL,getL]; rw [h4]
  ·simp only [bnd,cond_true,isL,getR,cond_false]; rw [h4]
theorem zU1 (l:yF) (hl:l.length<=1000000):∃ ok:SortOK (λa b=>zeD a b) l,zcN l=(true,zfo (λa b=>zeD a b) l):=by
 have ok:SortOK (λa b=>zeD a b) l:=z7v ziE (by omega) λx _ y _=>zAD x y
 refine ⟨ok, ?_⟩;unfold zcN zwH;rw [decide_eq_true ok]
theorem zx0 (l:yF) (hl:l.length<=1000000):zga l=(true,nR l):=by
 rw [zUt];unfold zb8;have e1:l.length*16<=z7:=zBW (by omega) (by omega)
 obtain ⟨ok,h⟩:=zU1 l hl;simp only [e1,decide_true,bnd,cond_true,h];rw [z0p _ (by rw [(zge _ l).length_eq]; exact hl)]
 simp only [cond_true];rw [z68 ziE (λx y=>by simp) ok λx _ y _=>by rw [zAD]]
theorem z4Z (a b:yF) (h:a.length+b.length<=1000000):zyP a b=(true,nR (a++b)):=by
 rw [z4X];unfold zb8;have e1:a.length*16<=z7:=zBW (by omega) (by omega)
 have e2:(a.length+b.length)*16<=z7:=zBW (by omega) (by omega)
 simp only [e1,e2,decide_true,bnd,cond_true];rw [zx0 (a++b) (by simp; omega)]; rfl
theorem z47 (a b:yF) (ha:a.length<=1000000) (hb:b.length<=1000000):zuz a b=(true,(nR a).filter λx=> !decide (x∈b)):=by
 rw [z5g];have h1:(nR a).length<=a.length:=zKI ziE a;rw [zx0 a ha];simp only [bnd,cond_true];rw [zRY _ _ (by omega) hb]; rfl
theorem z2p (a b:yF) (ha:a.length<=1000000) (hb:b.length<=1000000):zsa a b=(true,a.all λx=>decide (x∈b)):=by
 rw [z1U];rw [z47 a b ha hb];simp only [bnd,cond_true];congr 1;have:(Int.ofNat ((nR a).filter λx=> !decide (x∈b)).length==(0:Int))=decide (((nR a).filter λx=> !decide (x∈b)).length=0):=zbbm _ 0
 rw [this,Bool.eq_iff_iff,qe,List.length_eq_zero_iff,List.filter_eq_nil_iff,List.all_eq_true];constructor
 ·intro h x hx;have:=h x ((zCo ziE a x).2 hx)
  simpa using this
 ·intro h x hx;have:=h x ((zCo ziE a x).1 hx)
  simpa using this
end Go.Proofs.YtljlfiomikifjaaGreatDoor
end
