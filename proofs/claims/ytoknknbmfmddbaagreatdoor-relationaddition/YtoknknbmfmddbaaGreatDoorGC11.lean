/- Texts of this claim, joined (the program, its functions in plain words, and what they compute). -/
import Derived.Test.YtoknknbmfmddbaaGreatDoorGC10
set_option autoImplicit false
set_option linter.unusedVariables false
set_option linter.unusedSectionVars false
set_option linter.unusedSimpArgs false
set_option maxRecDepth 1000000
set_option maxHeartbeats 0
/- Substitution as a plain function; its results may be handed over again. -/
noncomputable section
namespace Go.Proofs.YtoknknbmfmddbaaGreatDoor
open Go Go.Ab
def sbd {α β:Type} (x:Int⊕α) (k:α->Int⊕β):Int⊕β:=match x with
 | .inl e=>.inl e
 | .inr a=>k a
theorem zU1 {α β:Type} (e:Int) (k:α->Int⊕β):sbd (.inl e) k=.inl e:=rfl
theorem zdA {α β:Type} (a:α) (k:α->Int⊕β):sbd (.inr a) k=k a:=rfl
def opS (r:yB×Int):Int⊕yB:=if r.2=0 then .inr r.1 else .inl r.2
def ofS:Int⊕yB->yB×Int
 | .inl e=>([],e)
 | .inr a=>(a,0)
theorem zVp {r:yB×Int} (h:r.2=0\/r.1=[]):ofS (opS r)=r:=by
 obtain ⟨a,e⟩:=r;simp only at h;unfold opS;by_cases he:e=0
 ·subst he; simp [ofS]
 ·rw [if_neg he];rcases h with h | h
  ·exact absurd h he
  ·subst h; rfl
theorem z3J {a:yB}:opS (a,0)=.inr a:=rfl
def zBC (b:yB):Nat->yB->Int⊕yB
 | 0,p=>.inr p
 | n+1,p=>sbd (opS (zKH p b)) (zBC b n)
mutual
def ziD (to:RowID->yB):At->Int⊕yB
 | ⟨k,r,a,f,i,o,b⟩=>if k=0 then .inr (to r) else
  sbd (zlC to a) λxs=>if k=1 then opS (zQj (xs.getD 0 default) (xs.getD 1 default)) else if k=2 then opS (zQt (xs.getD 0 default)) else if k=3 then opS (zQb (xs.getD 0 default)) else
   sbd (zhZ to i) λis=>opS (zxX f is o b)
def zeR (to:RowID->yB):yC->yB->Int⊕yB
 | [],p=>.inr p
 | ⟨x,e⟩::r,p=>sbd (ziD to x) λb=>sbd (zBC b e.toNat p) λq=>zeR to r q
def zdL (to:RowID->yB):yB->yB->Int⊕yB
 | [],s=>.inr s
 | ⟨c,fs⟩::r,s=>sbd (zeR to fs (zBr c)) λp=>sbd (opS (zi9 s p)) λq=>zdL to r q
def zlC (to:RowID->yB):yA->Int⊕yA
 | []=>.inr []
 | a::r=>sbd (zdL to a []) λb=>sbd (zlC to r) λl=>.inr (b::l)
def zhZ (to:RowID->yB):yD->Int⊕yD
 | []=>.inr []
 | ⟨v,a⟩::r=>sbd (zdL to a []) λb=>sbd (zhZ to r) λl=>.inr (⟨v,b⟩::l)
end
variable (to:RowID->yB)
theorem zRe (p:yB):zeR to [] p=.inr p:=by rw [zeR]
theorem zOA (f:Fc) (r:yC) (p:yB):zeR to (f::r) p=sbd (ziD to f.At) λb=>sbd (zBC b f.Exp.toNat p) λq=>zeR to r q:=by cases f; rw [zeR]
theorem z1I (s:yB):zdL to [] s=.inr s:=by rw [zdL]
theorem zYe (t:Term) (r s:yB):zdL to (t::r) s=sbd (zeR to t.Fs (zBr t.Cf)) λp=>sbd (opS (zi9 s p)) λq=>zdL to r q:=by cases t; rw [zdL]
theorem zDE:zlC to []=.inr []:=by rw [zlC]
theorem zA0 (a:yB) (r:yA):zlC to (a::r)=sbd (zdL to a []) λb=>sbd (zlC to r) λl=>.inr (b::l):=by rw [zlC]
theorem zWK:zhZ to []=.inr []:=by rw [zhZ]
theorem zTf (w:Wd) (r:yD):zhZ to (w::r)=sbd (zdL to w.Ann []) λb=>sbd (zhZ to r) λl=>.inr (⟨w.Value,b⟩::l):=by cases w; rw [zhZ]
theorem z1a (x:At):ziD to x=if x.Kind=0 then .inr (to x.Row) else
  sbd (zlC to x.Ag) λxs=>if x.Kind=1 then opS (zQj (xs.getD 0 default) (xs.getD 1 default)) else if x.Kind=2 then opS (zQt (xs.getD 0 default)) else if x.Kind=3 then opS (zQb (xs.getD 0 default)) else
   sbd (zhZ to x.Items) λis=>opS (zxX x.Func is x.Op x.Bd):=by cases x; rw [ziD]
def GE {α:Type} (P:α->Prop):Int⊕α->Prop
 | .inl e=>e≠0
 | .inr a=>P a
abbrev GS:Int⊕yB->Prop:=GE okA
theorem zPl {r:yB×Int} (h:okR r):GS (opS r):=by
 unfold opS;by_cases he:r.2=0
 ·rw [if_pos he]; exact h.1
 ·rw [if_neg he]; exact he
theorem zLx {α β:Type} {P:α->Prop} {Q:β->Prop} {x:Int⊕α} {k:α->Int⊕β} (hx:GE P x) (hk:∀ a,P a->GE Q (k a)):GE Q (sbd x k):=by
 cases x with
 | inl e=>exact hx
 | inr a=>exact hk a hx
theorem z2R {b:yB} (hb:okA b):∀ (n:Nat) (p:yB),okA p->GS (zBC b n p)
 | 0,p,hp=>hp
 | n+1,p,hp=>zLx (zPl (z5H hp hb)) λq hq=>z2R hb n q hq
abbrev GL (n:Nat):Int⊕yA->Prop:=GE λl=>l.length=n/\∀ a∈l,okA a
abbrev GI (i:yD):Int⊕yD->Prop:=GE λl=>l.length=i.length/\∀ w∈l,okA w.Ann/\∃ v∈i,v.Value=w.Value
theorem z7d (w:Wd):zGH w↔zNc w.Value/\zg5 w.Ann/\w.Ann.length<=zW:=by cases w; unfold zGH; exact Iff.rfl
theorem z79 {k f o:Int} {r:RowID} {a:yA} {i:yD} {b:Value} (h1:wf3 k) (h2:zXc r) (h3:zwT a/\a.length<=zW) (h4:wf3 f) (h5:zsM i/\i.length<=zW) (h6:wf3 o) (h7:zNc b):zgS ⟨k,r,a,f,i,o,b⟩:=by
 unfold zgS; exact ⟨h1,h2,h3,h4,h5,h6,h7⟩
theorem z0T {f o:Int} {l:yD} {b:Value} (hl:l.length<=1000000) (h:∀ w∈l,okA w.Ann/\zNc w.Value) (hf:wf3 f) (ho:wf3 o) (hb:zNc b):okR (zxX f l o b):=by
 unfold zxX;cases hk:zAj f l o b with
 | false=>exact ⟨zmH,.inr rfl⟩
 | true=>
  cases hv:l.all λw=>zR w.Ann with
  | false=>exact ⟨zmH,.inr rfl⟩
  | true=>
   simp only [Bool.and_self,Bool.not_true,cond_false];cases decide (0<(zd9 l).length) with
   | true=>
    obtain ⟨tf,ts⟩:=zJ2 hl hk hv;have hr:zW=140737488351232:=rfl;have hlen:(zd9 l).length<=1000000:=by rw [zZe]; exact Nat.le_trans (List.length_filter_le _ _) hl
    refine zIN ⟨⟨tf.mono (by omega),ts⟩,zEl _ λt ht=> ?_,by simp [zcW,zW]⟩
    simp only [zcW,qh] at ht;subst ht;refine zSJ ⟨by simp,by simp⟩ (λg hg=> ?_) (by simp)
    simp only [qh] at hg;subst hg;refine ⟨z79 (zUk (zUB (by omega))) ⟨zqt,zqt⟩ ⟨by unfold zwT; trivial,by simp⟩ hf ⟨zPS _ λw hw=> ?_,by omega⟩ ho hb,⟨by simp,by simp⟩⟩
    have hm:=h w (zH9 hw).1;exact (z7d w).2 ⟨hm.2,hm.1.2⟩
   | false=>
    cases f==0&&zMX o (zen 0 b.Int) with
    | true=>exact ⟨zVn 1 (by omega),.inl rfl⟩
    | false=>exact ⟨zmH,.inl rfl⟩
theorem zQe {l:yA} (h:∀ a∈l,okA a) (i:Nat):okA (l.getD i default):=by
 by_cases hi:i<l.length
 ·exact h _ (zl hi)
 ·rw [List.getD_eq_getElem?_getD,List.getElem?_eq_none (by omega)]; exact zmH
def okT (to:RowID->yB):Prop:=∀ r,zXc r->okA (to r)
variable {to}
mutual
theorem z1v (ht:okT to):∀ (x:At) (d:Nat),zgS x->zdb (zo d) x->GS (ziD to x)
 | ⟨k,r,a,f,i,o,b⟩=>λd hw hi=>by
  have hw':=ztz hw;simp only at hw';obtain ⟨⟨ha,hal⟩,⟨hit,hil⟩,hb,hk,hr,hf,ho⟩:=hw';obtain ⟨⟨l1,l2,_⟩,f1,f2⟩:=hi;simp only at l1 l2 f1 f2;rw [ziD];by_cases hk0:k=0
  ·rw [if_pos hk0]; exact ht r hr
  ·rw [if_neg hk0];have hA:=zSK ht a d (λx hx=>(zkl ha x hx).1) f1
   refine zLx hA λxs has=> ?_
   have h0:=zQe has.2 0;have h1:=zQe has.2 1;split
   ·exact zPl (z6d h0 h1)
   ·split
    ·exact zPl (z5F h0)
    ·split
     ·exact zPl (z5K h0)
     ·have hI:=zQO ht i d (λx hx=>(zkc hit x hx).2.1) λw hw=>(f2 w hw).2
      refine zLx hI λis his=> ?_
      refine zPl (z0T (by omega) (λw hw=>⟨(his.2 w hw).1, ?_⟩) hf ho hb)
      obtain ⟨v,hv,e⟩:=(his.2 w hw).2;rw [<- e]; exact (zkc hit v hv).1
theorem zKD (ht:okT to):∀ (l:yC) (d:Nat),(∀ f∈l,zgS f.At/\zdb (zo d) f.At)->∀ p,okA p->GS (zeR to l p)
 | [],_,_,p,hp=>by rw [zeR]; exact hp
 | ⟨x,e⟩::r,d,h,p,hp=>by
  rw [zeR];have hx:=z1v ht x d (h ⟨x,e⟩ (by simp)).1 (h ⟨x,e⟩ (by simp)).2
  refine zLx hx λb hb=>zLx (z2R hb _ p hp) λq hq=> ?_
  exact zKD ht r d (λf hf=>h f (by simp [hf])) q hq
theorem zQX (ht:okT to):∀ (a:yB) (d:Nat),zg5 a->(∀ t∈a,∀ f∈t.Fs,zdb (zo d) f.At)->∀ s,okA s->GS (zdL to a s)
 | [],_,_,_,s,hs=>by rw [zdL]; exact hs
 | ⟨c,fs⟩::r,d,hw,hi,s,hs=>by
  rw [zdL];have hwt:=zs8 hw ⟨c,fs⟩ (by simp)
  have hp:=zKD ht fs d (λf hf=>⟨(zrm (zoC (zvJ hwt).2.1 f hf)).1,hi ⟨c,fs⟩ (by simp) f hf⟩) (zBr c) (z8A c)
  refine zLx hp λp hp=>zLx (zPl (zZL hs hp)) λq hq=> ?_
  exact zQX ht r d (zEl _ λt ht=>zs8 hw t (by simp [ht])) (λt ht=>hi t (by simp [ht])) q hq
theorem zSK (ht:okT to):∀ (l:yA) (d:Nat),(∀ a∈l,zg5 a)->(∀ a∈l,zo d a)->GL l.length (zlC to l)
 | [],_,_,_=>by rw [zlC]; exact ⟨rfl,λa ha=>by cases ha⟩
 | a::r,d,h,hi=>by
  rw [zlC];have hf:=hi a (by simp)
  have h1:GS (zdL to a []):=by
   cases d with
   | zero=>exact hf.elim
   | succ d=>exact zQX ht a d (h a (by simp)) (λt ht f hf'=>(hf.2 t ht).2 f hf') [] zmH
  have h2:=zSK ht r d (λb hb=>h b (by simp [hb])) (λb hb=>hi b (by simp [hb]))
  revert h1 h2;cases zdL to a [] with
  | inl e=>exact λh _=>h
  | inr b=>
   cases zlC to r with
   | inl e=>exact λ_ h=>h
   | inr l=>
    intro h1 h2;refine ⟨by simp [h2.1],λx hx=> ?_⟩
    rcases qd.1 hx with rfl | hx
    ·exact h1
    ·exact h2.2 x hx
theorem zQO (ht:okT to):∀ (l:yD) (d:Nat),(∀ w∈l,zg5 w.Ann)->(∀ w∈l,zo d w.Ann)->GI l (zhZ to l)
 | [],_,_,_=>by rw [zhZ]; exact ⟨rfl,λa ha=>by cases ha⟩
 | ⟨v,a⟩::r,d,h,hi=>by
  rw [zhZ];have hf:zo d a:=hi ⟨v,a⟩ (by simp)
  have h1:GS (zdL to a []):=by
   cases d with
   | zero=>exact hf.elim
   | succ d=>exact zQX ht a d (h ⟨v,a⟩ (by simp)) (λt ht f hf'=>(hf.2 t ht).2 f hf') [] zmH
  have h2:=zQO ht r d (λb hb=>h b (by simp [hb])) (λb hb=>hi b (by simp [hb]))
  revert h1 h2;cases zdL to a [] with
  | inl e=>exact λh _=>h
  | inr b=>
   cases zhZ to r with
   | inl e=>exact λ_ h=>h
   | inr l=>
    intro h1 h2;refine ⟨by simp [h2.1],λx hx=> ?_⟩
    rcases qd.1 hx with rfl | hx
    ·exact ⟨h1,⟨v,a⟩,by simp,rfl⟩
    ·obtain ⟨h3,w,hw,e⟩:=h2.2 x hx;exact ⟨h3,w,by simp [hw],e⟩
end
end Go.Proofs.YtoknknbmfmddbaaGreatDoor
namespace Go.Proofs.YtoknknbmfmddbaaGreatDoor
open Go Go.Ab
end Go.Proofs.YtoknknbmfmddbaaGreatDoor
/- Substitution: both sides compute the same. -/
namespace Go.Proofs.YtoknknbmfmddbaaGreatDoor
open Go Go.Ab
def toA:yE->RowID->yB
 | [],r=>zvL r
 | b::l,r=>if b.Row=r then b.To else toA l r
def okB (l:yE):Prop:=l.length<=1000/\∀ b∈l,okA b.To
theorem z8e:∀ {l:yE},(∀ b∈l,okA b.To)->okT (toA l)
 | [],_,r,hr=>by rw [toA]; exact zbcD hr
 | b::l,h,r,hr=>by
  rw [toA];split
  ·exact h b (by simp)
  ·exact z8e (λc hc=>h c (by simp [hc])) r hr
theorem zbbk (a b:RowID):(a.Table==b.Table&&(a.Seq==b.Seq&&true))=decide (a=b):=by
 obtain ⟨t,s⟩:=a; obtain ⟨t',s'⟩:=b;rw [Bool.and_true,zhD,zhD, <- Bool.decide_and];congr 1;simp
theorem z5n:∀ (l:yE) (r:RowID) (i:Nat),(ixf (λb=>decide (b.Row=r)) l i= -1/\toA l r=zvL r)\/∃ j,j<l.length/\ixf (λb=>decide (b.Row=r)) l i=((i+j:Nat):Int)/\toA l r=(l.getD j default).To
 | [],r,i=>.inl ⟨rfl,rfl⟩
 | b::l,r,i=>by
  rw [ixf,toA];by_cases h:b.Row=r
  ·rw [decide_eq_true h,cond_true,if_pos h];exact .inr ⟨0,by simp,rfl,rfl⟩
  ·rw [decide_eq_false h,cond_false,if_neg h];rcases z5n l r (i+1) with ⟨h1,h2⟩ | ⟨j,h1,h2,h3⟩
   ·exact .inl ⟨h1,h2⟩
   ·exact .inr ⟨j+1,by simp; omega,by rw [h2]; congr 1; omega,h3⟩
theorem zbdM {l:yE} (h:okB l) (r:RowID):ziy r l=(true,toA l r):=by
 unfold ziy zwQ
 have hi:zcv l r=(true,ixf (λb=>decide (b.Row=r)) l 0):=by
  have e:zcv l r=IH (λ(g:RowID×Unit) x=>zgl x g.1) (l.length+(Int.ofNat l.length).toNat +Int.toNat (0:Int)+(1:Nat)) (r,()) l:=rfl
  rw [e]
  exact z6k _ _ _ _ _ (by have:=h.1; omega) (λx _=>by
   unfold zgl zt6;rw [Wy.fin_k,zbbk]) (by omega)
 rw [Wy.fin_bn,hi];rcases z5n l r 0 with ⟨h1,h2⟩ | ⟨j,h1,h2,h3⟩
 ·rw [h1,h2];simp only [cond_true,Wy.fin_i,Wy.fin_bn,Wy.fin_k,(zbcm r).1];rfl
 ·rw [Nat.zero_add] at h2;rw [h2,h3];have hm:=h.2 _ (zl h1);have e1:decide ((j:Int)≥(0:Int))=true:=by simp
  simp only [cond_true,Wy.fin_i,Wy.fin_bn,Wy.fin_k,e1,tT,h1,zFu hm.1.1 (show (12:Nat)<=100 by omega)]
def RS (s:Int⊕yB) (e:Int) (p:yB):Prop:=match s with
 | .inl x=>e=x/\x≠0
 | .inr q=>e=0/\p=q
theorem zbdu (r:yB×Int):RS (opS r) r.2 r.1:=by
 unfold opS;by_cases h:r.2=0
 ·rw [if_pos h]; exact ⟨h,rfl⟩
 ·rw [if_neg h]; exact ⟨rfl,h⟩
theorem z8Q (b:yB) (s:Int⊕yB):sbd s (zBC b 0)=s:=by cases s <;>rfl
section
variable (g:At->yE->Bool×(yB×Int)) (to:yE)
theorem z7t (b:yB) (hb:okA b) (t16:yB) (t17 t18:Int) (t26:yC) (t27 t28:Int) (N:Nat) (hN:N<=1000000) (sum:yB):
  ∀ (n i:Nat) (e:Int) (p:yB) (s:Int⊕yB),N<i+n->i<=N->GS s->RS s e p->∃ e' p',zq6 g n to b e t16 t17 t18 t26 t27 t28 N i sum p=(true,(to,e',t16,t17,t18,t26,t27,t28,sum,p'))/\RS (sbd s (zBC b (N - i))) e' p'
 | 0,i,e,p,s,h1,h2,_,_=>by omega
 | n+1,i,e,p,s,h1,h2,hs,hr=>by
  show ∃ e' p',(zqW g to b e t16 t17 t18 t26 t27 t28 N i sum p).ev (λx y=>zq6 g n x.1.1.1 x.2.2.2.1 x.2.2.2.2.1 x.2.2.2.2.2.1 x.2.2.2.2.2.2.1 x.2.2.2.2.2.2.2.1 x.2.2.2.2.2.2.2.2.1 x.2.2.2.2.2.2.2.2.2.1 x.2.2.2.2.2.2.2.2.2.2.1 x.2.2.2.2.2.2.2.2.2.2.2.1 x.2.2.2.2.2.2.2.2.2.2.2.2.1 y.1 y.2.1) (λr=>(true,r)) (false,default)=_/\_
  unfold zqW;by_cases hi:i<N
  ·have hk:N - i=(N - (i+1))+1:=by omega
   cases s with
   | inl x=>
    obtain ⟨rfl,hx⟩:=hr;have he:(e==(0:Int))=false:=by simp [hx]
    simp only [Wy.ev_i,Wy.ev_k,Wy.ev_h,Wy.ev_bn,Wy.ev_d,zAP,hi,decide_true,cond_true,he,cond_false,zB (show i<4611686018427387904 by omega)]
    exact z7t b hb t16 t17 t18 t26 t27 t28 N hN sum n (i+1) e p (.inl e) (by omega) (by omega) hs ⟨rfl,hx⟩
   | inr q=>
    obtain ⟨rfl,rfl⟩:=hr;have hp:okA p:=hs;simp only [Wy.ev_i,Wy.ev_k,Wy.ev_h,Wy.ev_bn,Wy.ev_d,zAP,hi,decide_true,cond_true,(zbcG hp hb).1,zB (show i<4611686018427387904 by omega),show ((0:Int)==0)=true from rfl]
    rw [hk];exact z7t b hb t16 t17 t18 t26 t27 t28 N hN sum n (i+1) (zKH p b).2 (zKH p b).1 (opS (zKH p b)) (by omega) (by omega) (zPl (z5H hp hb)) (zbdu _)
  ·have hk:N - i=0:=by omega
   simp only [Wy.ev_i,Wy.ev_k,zAP,hi,decide_false,cond_false];rw [hk,z8Q];exact ⟨e,p,rfl,hr⟩
def AG (l:yC):Prop:=∀ f∈l,(g f.At to=(true,ofS (ziD (toA to) f.At))/\GS (ziD (toA to) f.At))/\0<=f.Exp/\f.Exp<=1000000
theorem zbcx {s:Int⊕yB} (h:GS s):okA (ofS s).1:=by
 cases s with
 | inl e=>exact zmH
 | inr a=>exact h
theorem z8N {s:Int⊕yB} (h:GS s) (p:yB):RS (sbd s λ_=>.inr p) (ofS s).2 p:=by
 cases s with
 | inl e=>exact ⟨rfl,h⟩
 | inr a=>exact ⟨rfl,rfl⟩
theorem z9w {s:Int⊕yB} (h:GS s) {p:yB} (hp:okA p):GS (sbd s λ_=>.inr p):=zLx h λ_ _=>hp
theorem z7v {s:Int⊕yB} (p:yB) (N:Nat):sbd (sbd s λ_=>.inr p) (zBC (ofS s).1 N)=sbd s λb=>zBC b N p:=by
 cases s <;>rfl
theorem zbb9 (l:yC) (hl:l.length<=1000000) (hg:AG g to l) (t16:yB) (t17 t18:Int) (sum:yB):
  ∀ (n i:Nat) (p:yB),l.length<i+n->i<=l.length->okA p->zse g n to t16 t17 t18 l l.length i sum p=(true,match zeR (toA to) (l.drop i) p with
   | .inl e=>.inl e
   | .inr q=>.inr (to,t16,t17,t18,sum,q))
 | 0,i,p,h1,h2,_=>by omega
 | n+1,i,p,h1,h2,hp=>by
  show (zst g to t16 t17 t18 l l.length i sum p).ev (λx y=>zse g n x.1.1.1 x.2.2.2.1 x.2.2.2.2.1 x.2.2.2.2.2.1 x.2.2.2.2.2.2.1 x.2.2.2.2.2.2.2.1 x.2.2.2.2.2.2.2.2.1 y.1 y.2.1) (λr=>(true,r)) (false,.inl default)=_
  unfold zst;by_cases hi:i<l.length
  ·obtain ⟨⟨hf,hG⟩,e0,e1⟩:=hg _ (zl hi);obtain ⟨N,hN⟩:∃ N:Nat,(l.getD i default).Exp=(N:Int):=⟨_,(Int.toNat_of_nonneg e0).symm⟩
   obtain ⟨e',p',h11,hrs⟩:=z7t g to (ofS (ziD (toA to) (l.getD i default).At)).1 (zbcx hG) t16 t17 t18 l l.length i N (by omega) sum
    (to.length+(ofS (ziD (toA to) (l.getD i default).At)).1.length+(ofS (ziD (toA to) (l.getD i default).At)).2.toNat +t16.length+t17.toNat +t18.toNat +l.length+(l.length:Int).toNat +(i:Int).toNat +(N:Int).toNat +Int.toNat (0:Int)+sum.length+p.length+(1:Nat)) 0 _ p _ (by omega) (by omega) (z9w hG hp) (z8N hG p)
   rw [z7v,Nat.sub_zero] at hrs;rw [show ((0:Nat):Int)=(0:Int) from rfl] at h11
   rw [zbl hi,zOA,hN,Int.toNat_natCast];simp only [Wy.ev_i,Wy.ev_k,Wy.ev_h,Wy.ev_bn,Wy.ev_d,tT,hi,At.eta,hf,hN,zsD];rw [show Int.toNat (l.length:Int)=l.length from Int.toNat_natCast _,show Int.toNat (i:Int)=i from Int.toNat_natCast _,show Int.toNat (N:Int)=N from Int.toNat_natCast _] at h11
   rw [h11];have hS:=hG;revert hrs hS;cases ziD (toA to) (l.getD i default).At with
   | inl x=>
    rintro ⟨rfl,hx⟩ _
    simp [hx,zU1]
   | inr b=>
    intro hrs hb;simp only [zdA] at hrs ⊢;have hq:=z2R (b:=b) hb N p hp;revert hrs hq;cases zBC b N p with
    | inl x=>
     rintro ⟨rfl,hx⟩ _
     simp [hx,zU1]
    | inr q=>
     rintro ⟨rfl,rfl⟩ hq
     simp only [zdA,decide_true,Bool.not_true,cond_true,cond_false,zB (show i<4611686018427387904 by omega)]
     exact zbb9 l hl hg t16 t17 t18 sum n (i+1) p' (by omega) (by omega) hq
  ·simp only [Wy.ev_i,Wy.ev_k,Wy.ev_h,Wy.ev_bn,Wy.ev_d,tT,hi];rw [zdc hi,zRe]
theorem zbcO (l:yB) (hl:l.length<=1000000) (hg:∀ t∈l,t.Fs.length<=1000000/\AG g to t.Fs) (hok:∀ t∈l,∀ p,okA p->GS (zeR (toA to) t.Fs p)):
  ∀ (n i:Nat) (s:yB),l.length<i+n->i<=l.length->okA s->zsw g n to l l.length i s=(true,zdL (toA to) (l.drop i) s)
 | 0,i,s,h1,h2,_=>by omega
 | n+1,i,s,h1,h2,hs=>by
  show (zsj g to l l.length i s).ev (λx y=>zsw g n x.1.1.1 x.2.2.1 x.2.2.2.1 x.2.2.2.2.1 y.1) (λr=>(true,r)) (false,.inl default)=_
  unfold zsj;by_cases hi:i<l.length
  ·have ht:=hg _ (zl hi);have hc:=z8A (l.getD i default).Cf;have h7:=zbb9 g to (l.getD i default).Fs ht.1 ht.2 l l.length i s (to.length+l.length+(l.length:Int).toNat +(i:Int).toNat +(l.getD i default).Fs.length+((l.getD i default).Fs.length:Int).toNat +Int.toNat (0:Int)+s.length+(zBr (l.getD i default).Cf).length+(1:Nat)) 0 (zBr (l.getD i default).Cf) (by omega) (by omega) hc
   rw [show ((0:Nat):Int)=(0:Int) from rfl,List.drop_zero] at h7
   simp only [Int.toNat_natCast] at h7;rw [zbl hi,zYe];simp only [Wy.ev_i,Wy.ev_k,Wy.ev_h,Wy.ev_bn,Wy.ev_d,tT,hi,(z9r _).1];rw [h7];have hS:=hok _ (zl hi) _ hc;revert hS;cases zeR (toA to) (l.getD i default).Fs (zBr (l.getD i default).Cf) with
   | inl e=>intro _; rfl
   | inr p=>
    intro hp;have hp:okA p:=hp;simp only [zdA,isL,getR,cond_true,cond_false,(z7y hs hp).1,zsD];have hG:=zZL hs hp;unfold opS;by_cases he:(zi9 s p).2=0
    ·rw [if_pos he,decide_eq_true he,zdA,zB (show i<4611686018427387904 by omega)]
     exact zbcO l hl hg hok n (i+1) _ (by omega) (by omega) hG.1
    ·rw [if_neg he,decide_eq_false he]; rfl
  ·simp only [Wy.ev_i,Wy.ev_k,Wy.ev_h,Wy.ev_bn,Wy.ev_d,tT,hi];rw [zdc hi,z1I]
theorem zbel (a:yB) (hl:a.length<=1000000) (hg:∀ t∈a,t.Fs.length<=1000000/\AG g to t.Fs) (hok:∀ t∈a,∀ p,okA p->GS (zeR (toA to) t.Fs p)):zlu g a to=(true,ofS (zdL (toA to) a [])):=by
 unfold zlu zAW;have h3:=zbcO g to a hl hg hok (to.length+a.length+(Int.ofNat a.length).toNat +Int.toNat (0:Int)+(0:Nat)+(1:Nat)) 0 [] (by omega) (by omega) zmH
 rw [show ((0:Nat):Int)=(0:Int) from rfl,List.drop_zero] at h3
 rw [Wy.fin_bn,show Int.ofNat a.length=(a.length:Int) from rfl] at *
 rw [h3];cases zdL (toA to) a [] <;>rfl
end
section
variable (g:yB->yE->Bool×(yB×Int)) (to:yE)
theorem zbcF (x:At) (l:yA) (hl:l.length<=1000000) (hg:∀ a∈l,g a to=(true,ofS (zdL (toA to) a []))/\GS (zdL (toA to) a [])):
  ∀ (n i:Nat) (xs:yA),l.length<i+n->i<=l.length->xs.length<=i->zjV g n to l l.length i x xs=(true,match zlC (toA to) (l.drop i) with
   | .inl e=>.inl e
   | .inr ys=>.inr (to,x,xs++ys))
 | 0,i,xs,h1,h2,_=>by omega
 | n+1,i,xs,h1,h2,hx=>by
  have hreach:zG=70368744177664:=rfl;show (znK g to l l.length i x xs).ev (λx y=>zjV g n x.1.1.1 x.2.2.2.1 x.2.2.2.2.1 x.2.2.2.2.2.1 y.1 y.2.1) (λr=>(true,r)) (false,.inl default)=_
  unfold znK;by_cases hi:i<l.length
  ·obtain ⟨hf,hG⟩:=hg _ (zl hi);have hb:decide ((xs.length+1)*24<=zG)=true:=by simp only [qe]; omega
   rw [zbl hi,zA0];simp only [Wy.ev_i,Wy.ev_k,Wy.ev_h,Wy.ev_bn,Wy.ev_d,tT,hi,hf,zsD,List.length_singleton,hb];revert hG;cases zdL (toA to) (l.getD i default) [] with
   | inl e=>intro he; simp [ofS,show e≠0 from he,zU1]
   | inr b=>
    intro _;simp only [ofS,decide_true,Bool.not_true,cond_false,zdA,zB (show i<4611686018427387904 by omega)]
    rw [zbcF x l hl hg n (i+1) (xs++[b]) (by omega) (by omega) (by simp; omega)]
    cases zlC (toA to) (l.drop (i+1)) with
    | inl e=>rfl
    | inr ys=>simp [zdA]
  ·simp only [Wy.ev_i,Wy.ev_k,Wy.ev_h,Wy.ev_bn,Wy.ev_d,tT,hi];rw [zdc hi,zDE]; simp
theorem zbap (x:At) (l:yD) (hl:l.length<=1000000) (hg:∀ w∈l,g w.Ann to=(true,ofS (zdL (toA to) w.Ann []))/\GS (zdL (toA to) w.Ann [])):
  ∀ (n i:Nat) (xs:yD),l.length<i+n->i<=l.length->xs.length<=i->zjk g n to l l.length i x xs=(true,match zhZ (toA to) (l.drop i) with
   | .inl e=>.inl e
   | .inr ys=>.inr (x,xs++ys))
 | 0,i,xs,h1,h2,_=>by omega
 | n+1,i,xs,h1,h2,hx=>by
  have hreach:zG=70368744177664:=rfl;show (zmD g to l l.length i x xs).ev (λx y=>zjk g n x.1.1.1 x.2.2.2.1 x.2.2.2.2.1 x.2.2.2.2.2.1 y.1 y.2.1) (λr=>(true,r)) (false,.inl default)=_
  unfold zmD;by_cases hi:i<l.length
  ·obtain ⟨hf,hG⟩:=hg _ (zl hi);have hb:decide ((xs.length+1)*56<=zG)=true:=by simp only [qe]; omega
   rw [zbl hi,zTf];simp only [Wy.ev_i,Wy.ev_k,Wy.ev_h,Wy.ev_bn,Wy.ev_d,tT,hi,hf,zsD,List.length_singleton,hb];revert hG;cases zdL (toA to) (l.getD i default).Ann [] with
   | inl e=>intro he; simp [ofS,show e≠0 from he,zU1]
   | inr b=>
    intro _;simp only [ofS,decide_true,Bool.not_true,cond_false,zdA,zB (show i<4611686018427387904 by omega)]
    rw [zbap x l hl hg n (i+1) (xs++[WO.mk (l.getD i default).Value b]) (by omega) (by omega) (by simp; omega)]
    cases zhZ (toA to) (l.drop (i+1)) with
    | inl e=>rfl
    | inr ys=>simp [zdA]
  ·simp only [Wy.ev_i,Wy.ev_k,Wy.ev_h,Wy.ev_bn,Wy.ev_d,tT,hi];rw [zdc hi,zWK]; simp
structure XG (x:At):Prop where
 va:zpw x=true
 lens:x.Ag.length<=1000000/\x.Items.length<20
 ga:∀ a∈x.Ag,g a to=(true,ofS (zdL (toA to) a []))/\GS (zdL (toA to) a [])
 gi:∀ w∈x.Items,g w.Ann to=(true,ofS (zdL (toA to) w.Ann []))/\GS (zdL (toA to) w.Ann [])
 sa:GL x.Ag.length (zlC (toA to) x.Ag)
 si:GI x.Items (zhZ (toA to) x.Items)
 wf:zgS x
theorem zbaE {f o:Int} {i l:yD} {b:Value} (h20:i.length<20) (hl:l.length=i.length/\∀ w∈l,okA w.Ann/\∃ v∈i,v.Value=w.Value):zol f l o b=(true,zxX f l o b)/\zQs f l o b=(true,zxX f l o b):=by
 have h1:∀ w∈l,zo 12 w.Ann/\zM w.Ann<=4611686018427387904:=λw hw=>(hl.2 w hw).1.1
 have h2:(l.filter zmG).length<20:=Nat.lt_of_le_of_lt (List.length_filter_le _ _) (by omega)
 exact ⟨zba7 f l o b (by omega) h1 (by omega) h2,z9a f l o b (by omega) h1 (by omega)⟩
theorem z8r {x:At} (h:zpw x=true):(x.Kind=1->x.Ag.length=2)/\(x.Kind=2\/x.Kind=3->x.Ag.length=1):=by
 cases zWO.1 h <;>simp
theorem zbaB (hto:okB to) (x:At) (h:XG g to x):zix g x to=(true,ofS (ziD (toA to) x)):=by
 unfold zix zwK;have h5:=zbcF g to x x.Ag h.lens.1 h.ga (to.length+x.Ag.length+(Int.ofNat x.Ag.length).toNat +Int.toNat (0:Int)+x.Ag.length+x.Items.length+(0:Nat)+(1:Nat)) 0 [] (by omega) (by omega) (by simp)
 rw [show ((0:Nat):Int)=(0:Int) from rfl,List.drop_zero] at h5
 have h5':zjV g (to.length+x.Ag.length+(Int.ofNat x.Ag.length).toNat +Int.toNat (0:Int)+x.Ag.length+x.Items.length+(0:Nat)+(1:Nat)) to x.Ag (Int.ofNat x.Ag.length) 0 x []=_:=h5;have h21:=zbap g to x x.Items (by have:=h.lens.2; omega) h.gi (to.length+x.Items.length+(Int.ofNat x.Items.length).toNat +Int.toNat (0:Int)+x.Ag.length+x.Items.length+(0:Nat)+(1:Nat)) 0 [] (by omega) (by omega) (by simp)
 rw [show ((0:Nat):Int)=(0:Int) from rfl,List.drop_zero] at h21
 have h21':zjk g (to.length+x.Items.length+(Int.ofNat x.Items.length).toNat +Int.toNat (0:Int)+x.Ag.length+x.Items.length+(0:Nat)+(1:Nat)) to x.Items (Int.ofNat x.Items.length) 0 x []=_:=h21;rw [At.eta,z1a];have b0:=zhD x.Kind 0;have b1:=zhD x.Kind 1;have b2:=zhD x.Kind 2;have b3:=zhD x.Kind 3;simp only [Wy.fin_i,Wy.fin_bn,Wy.fin_k,zbdM hto,cond_true,h5',List.nil_append];by_cases hk0:x.Kind=0
 ·rw [b0,decide_eq_true hk0,if_pos hk0]; rfl
 ·rw [b0,decide_eq_false hk0,if_neg hk0,cond_false];have hA:=h.sa;have hlen:=z8r h.va;revert hA;cases zlC (toA to) x.Ag with
  | inl e=>intro _; rfl
  | inr xs=>
   intro hxs;have hxl:xs.length=x.Ag.length/\∀ a∈xs,okA a:=hxs;have o0:=zQe hxl.2 0;have o1:=zQe hxl.2 1;simp only [isL,getR,cond_false,zdA];by_cases hk1:x.Kind=1
   ·have:=hlen.1 hk1;rw [b1,decide_eq_true hk1,if_pos hk1];simp only [cond_true,show Int.toNat (0:Int)=0 from rfl,show Int.toNat (1:Int)=1 from rfl,(z9e o0 o1).1,zVp (z6d o0 o1).2]
    simp [hxl.1,this]
   ·rw [b1,decide_eq_false hk1,if_neg hk1,cond_false];by_cases hk2:x.Kind=2
    ·have:=hlen.2 (.inl hk2);rw [b2,decide_eq_true hk2,if_pos hk2];simp only [cond_true,show Int.toNat (0:Int)=0 from rfl,show Int.toNat (1:Int)=1 from rfl,(z8X o0).1,zVp (z5F o0).2]
     simp [hxl.1,this]
    ·rw [b2,decide_eq_false hk2,if_neg hk2,cond_false];by_cases hk3:x.Kind=3
     ·have:=hlen.2 (.inr hk3);rw [b3,decide_eq_true hk3,if_pos hk3];simp only [cond_true,show Int.toNat (0:Int)=0 from rfl,show Int.toNat (1:Int)=1 from rfl,(z7S o0).1,zVp (z5K o0).2]
      simp [hxl.1,this]
     ·rw [b3,decide_eq_false hk3,if_neg hk3,cond_false,At.eta,h21'];have hI:=h.si;revert hI;cases zhZ (toA to) x.Items with
      | inl e=>intro _; rfl
      | inr is=>
       intro his;have ht:=zbaE (f:=x.Func) (o:=x.Op) (b:=x.Bd) h.lens.2 his;simp only [cond_true,cond_false,List.nil_append,ht.1,zdA];have hw:=ztz h.wf;have hl:is.length=x.Items.length/\∀ w∈is,okA w.Ann/\∃ v∈x.Items,v.Value=w.Value:=his
       rw [zVp (z0T (by have:=h.lens.2; omega) (λw hw'=>⟨(hl.2 w hw').1,by
        obtain ⟨v,hv,e⟩:=(hl.2 w hw').2;rw [<- e]; exact (zkc hw.2.1.1 v hv).1⟩) hw.2.2.2.2.2.1 hw.2.2.2.2.2.2 hw.2.2.1).2]
end
section
variable (g:At->yE->Bool×(yB×Int)) (l:yE)
end
section
variable (g:yB->yE->Bool×(yB×Int)) (l:yE)
end
theorem zWo:∀ {l:yA} {a:yB},a∈l->zex a<=zqI l
 | [],_,h=>by cases h
 | x::r,a,h=>by
  rw [zUG];rcases qd.1 h with rfl | h
  ·omega
  ·have:=zWo h; omega
theorem zUH:∀ {l:yD} {w:Wd},w∈l->zex w.Ann<=zln l
 | [],_,h=>by cases h
 | x::r,a,h=>by
  rw [zHt];rcases qd.1 h with rfl | h
  ·omega
  ·have:=zUH h; omega
theorem zPa:∀ {l:yC} {f:Fc},f∈l->zEW f.At<=zhL l
 | [],_,h=>by cases h
 | x::r,a,h=>by
  rw [zLA];rcases qd.1 h with rfl | h
  ·omega
  ·have:=zPa h; omega
theorem zY3:∀ {l:yB} {t:Term},t∈l->zhL t.Fs<=zex l
 | [],_,h=>by cases h
 | x::r,a,h=>by
  rw [zMN];rcases qd.1 h with rfl | h
  ·omega
  ·have:=zY3 h; omega
theorem zUO:∀ {l:yD},(∀ w∈l,w.Ann≠[])->l.length<=zln l
 | [],_=>by simp
 | x::r,h=>by
  rw [zHt];have:=zUO (l:=r) λw hw=>h w (by simp [hw])
  have h1:1<=zex x.Ann:=by
   have:=h x (by simp)
   cases hx:x.Ann with
   | nil=>exact absurd hx this
   | cons t r=>rw [zMN]; omega
  simp only [qf];omega
mutual
def zy7:At->Prop
 | ⟨_,_,a,_,i,_,_⟩=>i.length<20/\zOX a/\zIT i
def zBO:yC->Prop
 | []=>True
 | ⟨x,_⟩::r=>zy7 x/\zBO r
def zbH:yB->Prop
 | []=>True
 | ⟨_,fs⟩::r=>zBO fs/\zbH r
def zOX:yA->Prop
 | []=>True
 | a::r=>zbH a/\zOX r
def zIT:yD->Prop
 | []=>True
 | ⟨_,a⟩::r=>zbH a/\zIT r
end
theorem zDt (x:At):zy7 x↔x.Items.length<20/\zOX x.Ag/\zIT x.Items:=by cases x; rw [zy7]
theorem zwF:∀ {l:yC},zBO l↔∀ f∈l,zy7 f.At
 | []=>by rw [zBO]; simp
 | ⟨x,e⟩::r=>by rw [zBO,zwF (l:=r)]; simp
theorem zFl:∀ {l:yB},zbH l↔∀ t∈l,zBO t.Fs
 | []=>by rw [zbH]; simp
 | ⟨x,e⟩::r=>by rw [zbH,zFl (l:=r)]; simp
theorem zzN:∀ {l:yA},zOX l↔∀ a∈l,zbH a
 | []=>by rw [zOX]; simp
 | a::r=>by rw [zOX,zzN (l:=r)]; simp
theorem zw9:∀ {l:yD},zIT l↔∀ w∈l,zbH w.Ann
 | []=>by rw [zIT]; simp
 | ⟨x,e⟩::r=>by rw [zIT,zw9 (l:=r)]; simp
theorem z1b {m:Nat} {a:yB} (h:zbr (m+1) a=true):zfx a=true/\∀ t∈a,t.Fs.length<=64/\∀ f∈t.Fs,(1<=f.Exp/\f.Exp<=64)/\f.At.Items.length<=1024/\zef (zbr m) f.At=true:=by
 have hw:=zGt h;refine ⟨hw,λt ht=> ?_⟩
 obtain ⟨l1,l2⟩:=(zvI hw).2.2.2 t ht;refine ⟨l1,λf hf=> ?_⟩
 obtain ⟨⟨e1,_⟩,hv⟩:=zpH (zvt h ht).2 hf;exact ⟨⟨e1,(l2 f hf).1⟩,(l2 f hf).2,hv⟩
theorem zWj:∀ (m:Nat) (a:yB),zbr m a=true->zbr (m+1) a=true
 | 0,_,h=>by cases h
 | m+1,a,h=>by
  have h':zxp (zef (zbr m)) a=true:=h;obtain ⟨h1,h2,h3⟩:=zPW.1 h';refine (zPW (vat:=zef (zbr (m+1)))).2 ⟨h1,h2,λt ht=>⟨(h3 t ht).1,(h3 t ht).2.1,λf hf=>⟨((h3 t ht).2.2 f hf).1, ?_⟩⟩⟩
  exact zdz.2 ((zdz.1 ((h3 t ht).2.2 f hf).2).imp (zWj m))
theorem zy9:∀ {m:Nat} {a:yB},zbr m a=true->zR a=true:=by
 intro m a h
 have key:∀ k,zbr (m+k) a=true:=λk=>by
  induction k with
  | zero=>exact h
  | succ k ih=>exact zWj _ _ ih
 exact z26 (key 9) (by omega)
theorem zbac {m:Nat} {x:At} (h:zef (zbr m) x=true) (hm:m<=99):zpw x=true:=by
 refine zWO.2 ((zdz.1 h).imp λa ha=> ?_)
 exact zy9 ha
theorem zWI {V:yB->Bool} {x:At} (h:zef V x=true):(∀ a∈x.Ag,V a=true)/\∀ w∈x.Items,V w.Ann=true/\w.Ann≠[]:=by
 constructor
 ·cases zdz.1 h <;>simp_all
 ·cases zdz.1 h <;>simp_all
theorem zWR:∀ (m:Nat) (a:yB),zbr m a=true->zex a<=38->zbH a
 | 0,_,h,_=>by cases h
 | m+1,a,h,hs=>by
  obtain ⟨_,w2⟩:=z1b h;refine zFl.2 λt ht=>zwF.2 λf hf=>(zDt _).2 ?_
  have hv:=((w2 t ht).2 f hf).2.2;have h1:=zPa hf;have h2:=zY3 ht;have h3:=zZc f.At;obtain ⟨hargs,hitems⟩:=zWI hv;refine ⟨by have:=zUO λw hw=>(hitems w hw).2; omega,zzN.2 λb hb=>zWR m b (hargs b hb) (by have:=zWo hb; omega),zw9.2 λw hw=>zWR m w.Ann (hitems w hw).1 (by have:=zUH hw; omega)⟩
theorem z56 {l:yE} (hl:okB l):∀ n,
  (∀ m a,zbr m a=true->m<=99->zg5 a->zbH a->2*m<=n->zlh n a l=(true,ofS (zdL (toA l) a []))/\GS (zdL (toA l) a []))/\
  (∀ m x,zef (zbr m) x=true->m<=99->zgS x->x.Items.length<=1024->zy7 x->2*m+1<=n->ziz n x l=(true,ofS (ziD (toA l) x))/\GS (ziD (toA l) x))
 | 0=>by
  refine ⟨λm a h _ _ _ hm=> ?_,λm x _ _ _ _ _ hm=>by omega⟩
  have:m=0:=by omega
  subst this; cases h
 | n+1=>by
  obtain ⟨h1,h2⟩:=z56 hl n;have ht:okT (toA l):=z8e hl.2;refine ⟨λm a h h99 hw hs hm=> ?_,λm x h h99 hw hi hs hm=> ?_⟩
  ·cases m with
   | zero=>cases h
   | succ m=>
    obtain ⟨w1,w2⟩:=z1b h;obtain ⟨a1,a2,a3,a4⟩:=zvI w1;have hwt:=λt (ht:t∈a)=>zvJ (zs8 hw t ht)
    have hwf:=λt (ht:t∈a) f (hf:f∈t.Fs)=>(zrm (zoC (hwt t ht).2.1 f hf)).1
    have hA:∀ t∈a,∀ f∈t.Fs,(ziz n f.At l=(true,ofS (ziD (toA l) f.At))/\GS (ziD (toA l) f.At)):=λt ht f hf=>
     h2 m f.At ((w2 t ht).2 f hf).2.2 (by omega) (hwf t ht f hf) ((w2 t ht).2 f hf).2.1 (zwF.1 (zFl.1 hs t ht) f hf) (by omega)
    have hE:=λt (ht:t∈a) f (hf:f∈t.Fs)=>((w2 t ht).2 f hf).1
    have hok:∀ t∈a,∀ p,okA p->GS (zeR (toA l) t.Fs p):=λt ht' p hp=>zKD ht t.Fs 9 (λf hf=>⟨hwf t ht' f hf,zvS ((w2 t ht').2 f hf).2.2 ((w2 t ht').2 f hf).2.1⟩) p hp
    have hG:GS (zdL (toA l) a []):=zQX ht a 9 hw (λt ht f hf=>zvS ((w2 t ht).2 f hf).2.2 ((w2 t ht).2 f hf).2.1) [] zmH
    refine ⟨?_,hG⟩
    ·rw [zLi];exact zbel _ l a (by omega) (λt ht=>⟨by have:=(w2 t ht).1; omega,λf hf=>⟨⟨(hA t ht f hf).1,(hA t ht f hf).2⟩,by have:=(hE t ht f hf).1; omega,by have:=(hE t ht f hf).2; omega⟩⟩) hok
  ·have hf:=zvS h hi;have hw':=ztz hw;have hv:=zbac h h99;obtain ⟨h20,s1,s2⟩:=(zDt x).1 hs;obtain ⟨hargs,hitems⟩:=zWI h;have ga:=λa (ha:a∈x.Ag)=>h1 m a (hargs a ha) h99 (zkl hw'.1.1 a ha).1 (zzN.1 s1 a ha) (by omega)
   have gi:=λw (hw:w∈x.Items)=>h1 m w.Ann (hitems w hw).1 h99 (zkc hw'.2.1.1 w hw).2.1 (zw9.1 s2 w hw) (by omega)
   have sa:=zSK ht x.Ag 9 (λa ha=>(zkl hw'.1.1 a ha).1) hf.2.1
   have si:=zQO ht x.Items 9 (λw hw=>(zkc hw'.2.1.1 w hw).2.1) λw hw=>(hf.2.2 w hw).2
   refine ⟨?_,z1v ht x 9 hw hf⟩
   ·rw [zGg];exact zbaB _ l hl x ⟨hv,⟨hf.1.1,h20⟩,λa ha=>⟨(ga a ha).1,(ga a ha).2⟩,λw hw=>⟨(gi w hw).1,(gi w hw).2⟩,sa,si,hw⟩
def z9t (a:yB) (l:yE):yB×Int:=opR (zR a&&l.all λb=>zR b.To) (ofS (zdL (toA l) a []))
theorem zbdW {l:yE} (h:okB l):zcd l=(true, !l.all λb=>zR b.To):=by
 unfold zcd zh0;have:zdH l=IG (λ(_:Unit) x=>ziQ x) (l.length+(Int.ofNat l.length).toNat +Int.toNat (0:Int)+(1:Nat)) () l:=rfl
 rw [zla (P:=λb=> !zR b.To) (this.trans (zIj _ _ _ _ _ (by have:=h.1; omega) (λx hx=>by
  unfold ziQ zwo;rw [Wy.fin_bn,(h.2 x hx).valid]; rfl) (by omega)))]
 simp [List.all_eq_not_any_not]
theorem zZZ {a:yB} {l:yE} (oa:okA a) (ha:zR a=true->zbH a) (h:okB l):zkG a l=(true,z9t a l):=by
 have key:zR a=true->zyL a l=(true,ofS (zdL (toA l) a [])):=λhv=>((z56 h 1000).1 9 a (zXn hv (Nat.le_refl 9)) (by omega) oa.2.1 (ha hv) (by omega)).1
 unfold zkG zzR z9t;simp only [Wy.fin_i,Wy.fin_bn,Wy.fin_k,oa.valid,cond_true,zbdW h];cases hv:zR a with
 | false=>rfl
 | true=>
  cases (l.all λb=>zR b.To) with
  | false=>rfl
  | true=>
   simp only [Bool.not_true,cond_false,key hv,cond_true];rfl
def zbea (a b:yB):yB:=if b=[] then a else if a=[]\/a=b then [] else zcW (z6u a b)
def zbd9 (a:yB):yB:=if a=[]\/isU a=true then a else if isC a=true then [⟨1,[]⟩] else zcW (zZP a)
def zbec (a:yB):yB:=if a=[] then [⟨1,[]⟩] else if zxC a=true then [] else zcW (z6C a)
def zbd8 (f:Int) (l:yD) (o:Int) (b:Value):yB:=
 if 0<(zd9 l).length then zcW (zM2 f (zd9 l) o b) else if (f==0&&zMX o (zen 0 b.Int))=true then [⟨1,[]⟩] else []
def IdP (a:yB):Prop:=a=[]\/a=[⟨1,[]⟩]\/∃ x:At,(x.Kind=3\/x.Kind=4)/\a=zcW x
def zbca (b:yB):Nat->yB
 | 0=>[⟨1,[]⟩]
 | n+1=>zuo b (zbca b n)
section
variable (σ:At->yB)
def SG (x:At):Prop:=PA (σ x)/\(x.Kind=3\/x.Kind=4->IdP (σ x))
variable {σ}
def EA (σ:At->yB) (a:yB):Prop:=PA a/\∀ t∈a,∀ f∈t.Fs,SG σ f.At
theorem EA.p {a:yB} (h:EA σ a):∀ t∈a,cOK t/\∀ f∈t.Fs,SG σ f.At:=λt ht=>⟨h.1.c t ht,h.2 t ht⟩
theorem EA.sum {a b:yB} (ha:EA σ a) (hb:EA σ b):EA σ (zcJ a b):=⟨zqT ha.1 hb.1,λt ht f hf=>by
 obtain ⟨x,hx,e⟩:=zIU b a ha.1.1 ht;rw [e] at hf;rcases hx with hx | hx
 ·exact ha.2 x hx f hf
 ·exact hb.2 x hx f hf⟩
end
mutual
def zbcP (to:RowID->yB):At->yB
 | ⟨k,r,a,f,i,o,b⟩=>if k=0 then to r else if k=1 then zbea ((zTC to a).getD 0 default) ((zTC to a).getD 1 default) else if k=2 then zbd9 ((zTC to a).getD 0 default)
  else if k=3 then zbec ((zTC to a).getD 0 default) else zbd8 f (z5q to i) o b
def z8v (to:RowID->yB):yC->yB
 | []=>[⟨1,[]⟩]
 | ⟨x,e⟩::r=>zuo (zbca (zbcP to x) e.toNat) (z8v to r)
def z62 (to:RowID->yB):yB->yB->yB
 | [],s=>s
 | ⟨c,fs⟩::r,s=>z62 to r (zcJ s (zuo [⟨c,[]⟩] (z8v to fs)))
def zTC (to:RowID->yB):yA->yA
 | []=>[]
 | a::r=>z62 to a []::zTC to r
def z5q (to:RowID->yB):yD->yD
 | []=>[]
 | ⟨v,a⟩::r=>⟨v,z62 to a []⟩::z5q to r
end
section
variable (to:RowID->yB)
variable {to} (hto:∀ r,PA (to r))
include hto
omit hto in
theorem zbbM {c:Int} (h:1<=c/\c<=1152921504606846976):zBr c=[⟨c,[]⟩]:=by
 unfold zBr; rw [if_neg (by omega),if_neg (by omega)]
end
theorem zFW {a:yB}:zfx a=true↔a.length<=512/\zbj a<=8/\zM a<=4096/\∀ t∈a,t.Fs.length<=64/\∀ f∈t.Fs,f.Exp<=64/\f.At.Items.length<=1024:=by
 refine ⟨zvI,λ⟨h1,h2,h3,h4⟩=> ?_⟩
 unfold zfx;simp only [qc,qe];refine ⟨⟨⟨h1,h2⟩,h3⟩,List.all_eq_true.2 λt ht=> ?_⟩
 obtain ⟨h5,h6⟩:=h4 t ht;unfold zA7;rw [Bool.not_eq_true',Bool.or_eq_false_iff];refine ⟨by simp; omega, ?_⟩
 rw [List.any_eq_false];intro f hf;obtain ⟨h7,h8⟩:=h6 f hf;simp;exact ⟨h7,h8⟩
theorem zZo:∀ a b:yB,zM (a++b)=zM a+zM b
 | [],b=>by rw [zv6]; simp
 | t::r,b=>by rw [List.cons_append,zgb,zgb,zZo r b]; omega
theorem zYy:∀ a b:yB,zbj (a++b)=max (zbj a) (zbj b)
 | [],b=>by rw [zIc]; simp
 | t::r,b=>by rw [List.cons_append,zxd,zxd,zYy r b]; omega
theorem zFf:∀ a b:yC,zbz (a++b)=zbz a+zbz b
 | [],b=>by rw [zjf]; simp
 | t::r,b=>by rw [List.cons_append,zc5,zc5,zFf r b]; omega
theorem zE5:∀ a b:yC,zdl (a++b)=max (zdl a) (zdl b)
 | [],b=>by rw [zqR]; simp
 | t::r,b=>by rw [List.cons_append,zjO,zjO,zE5 r b]; omega
structure FB (l:yC):Prop where
 len:l.length<=64
 nes:zdl l<=8
 siz:1+l.length+zbz l<=4096
 fs:∀ f∈l,f.Exp<=64/\f.At.Items.length<=1024
theorem FB.wi {l:yC} (h:FB l) (c:Int):zfx [⟨c,l⟩]=true:=zFW.2 ⟨by simp,by rw [zxd,zIc]; have:=h.nes; simp only; omega,by rw [zgb,zv6]; have:=h.siz; simp only; omega,λt ht=>by
 rw [qh] at ht; subst ht; exact ⟨h.len,h.fs⟩⟩
theorem FB.of {a:yB} (h:zfx a=true) {t:Term} (ht:t∈a):FB t.Fs:=by
 obtain ⟨h1,h2,h3,h4⟩:=zFW.1 h;obtain ⟨h5,h6⟩:=h4 t ht;refine ⟨h5,Nat.le_trans (zZq ht) h2, ?_,h6⟩
 have key:∀ {a:yB},t∈a->1+t.Fs.length+zbz t.Fs<=zM a:=by
  intro a;induction a with
  | nil=>intro h; cases h
  | cons u r ih=>
   intro h;rw [zgb];rcases qd.1 h with rfl | h
   ·omega
   ·have:=ih h; omega
 have:=key ht;omega
theorem FB.app {a b:yC} (h:FB (a++b)):FB a/\FB b:=by
 obtain ⟨h1,h2,h3,h4⟩:=h;rw [qg] at h1 h3;rw [zE5] at h2;rw [zFf] at h3;exact ⟨⟨by omega,by omega,by omega,λf hf=>h4 f (by simp [hf])⟩,⟨by omega,by omega,by omega,λf hf=>h4 f (by simp [hf])⟩⟩
theorem FB.exp {P:yC} {x:At} {e j:Int} (h:FB (P++[⟨x,e⟩])) (hj:j<=64):FB (P++[⟨x,j⟩]):=by
 obtain ⟨h1,h2,h3,h4⟩:=h;rw [qg] at h1 h3;rw [zE5,zjO,zqR] at h2;rw [zFf,zc5,zjf] at h3;refine ⟨by rw [qg]; exact h1,by rw [zE5,zjO,zqR]; exact h2,by rw [qg,zFf,zc5,zjf]; exact h3,λf hf=> ?_⟩
 rcases List.mem_append.1 hf with hf | hf
 ·exact h4 f (by simp [hf])
 ·rw [qh] at hf; subst hf;exact ⟨hj,(h4 ⟨x,e⟩ (by simp)).2⟩
theorem OKF.app {a b:yC} (h:OKF zpw (a++b)):OKF zpw a/\OKF zpw b:=⟨⟨(List.pairwise_append.1 h.1).1,λf hf=>h.2 f (by simp [hf])⟩,⟨(List.pairwise_append.1 h.1).2.1,λf hf=>h.2 f (by simp [hf])⟩⟩
theorem OKF.exp {P:yC} {x:At} {e j:Int} (h:OKF zpw (P++[⟨x,e⟩])) (h1:1<=j) (h2:j<=e):OKF zpw (P++[⟨x,j⟩]):=by
 have hx:=h.2 ⟨x,e⟩ (by simp)
 refine ⟨List.pairwise_append.2 ⟨(List.pairwise_append.1 h.1).1,by simp,λa ha b hb=> ?_⟩,λf hf=> ?_⟩
 ·rw [qh] at hb; subst hb;exact (List.pairwise_append.1 h.1).2.2 a ha ⟨x,e⟩ (by simp)
 ·rcases List.mem_append.1 hf with hf | hf
  ·exact h.2 f (by simp [hf])
  ·rw [qh] at hf; subst hf;refine ⟨⟨h1,λhk=> ?_⟩,hx.2⟩
   have:=hx.1.2 hk;have h3:e=1:=this;show j=1;omega
theorem zYr {c:Int} {F:yC} (hc:1<=c/\c<=1152921504606846976) (hF:OKF zpw F) (hb:FB F):zR [⟨c,F⟩]=true:=zqr.2 ⟨hb.wi c,by simp,λt ht=>by
 rw [qh] at ht; subst ht; exact ⟨hc,hF⟩⟩
theorem z09 {y:Fc}:∀ {P:yC},(∀ z∈P,cF z y<0)->zbB P [y]=P++[y]
 | [],_=>by rw [zbB]; rfl
 | z::r,h=>by rw [zbB,if_pos (h z (by simp)),z09 λw hw=>h w (by simp [hw])]; rfl
theorem zSE {x:At} {j:Int} (hk:¬ (x.Kind=3\/x.Kind=4)):∀ {P:yC},(∀ z∈P,cF z ⟨x,1⟩<0)->zbB (P++[⟨x,j⟩]) [⟨x,1⟩]=P++[⟨x,j+1⟩]
 | [],_=>by
  have e:cF ⟨x,j⟩ ⟨x,1⟩=0:=cF_self' rfl;show zbB [⟨x,j⟩] [⟨x,1⟩]=[⟨x,j+1⟩];rw [zbB,e,if_neg (by omega),if_neg (by omega),if_neg hk,zbB]
 | z::r,h=>by
  show zbB (z::(r++[⟨x,j⟩])) [⟨x,1⟩]=_;rw [zbB,if_pos (h z (by simp)),zSE hk λw hw=>h w (by simp [hw])]; rfl
theorem z1G {c:Int} (hc:1<=c/\c<=1152921504606846976) (M:yC) (x:At):zuo [⟨c,M⟩] (zcW x)=[⟨c,zbB M [⟨x,1⟩]⟩]:=by
 show zcJ [] [zl3 ⟨c,M⟩ ⟨1,[⟨x,1⟩]⟩]=_;unfold zl3;simp only [z7k hc.2];rfl
section
variable {c:Int} (hc:1<=c/\c<=1152921504606846976)
include hc
theorem z3B {P:yC} {x:At} {e:Int} (hF:OKF zpw (P++[⟨x,e⟩])) (hb:FB (P++[⟨x,e⟩])) (hv:zR (zcW x)=true):
  ∀ (n j:Nat),1<=j->(j+n:Int)=e->zBC (zcW x) n [⟨c,P++[⟨x,(j:Int)⟩]⟩]=.inr [⟨c,P++[⟨x,e⟩]⟩]
 | 0,j,_,h=>by rw [show (j:Int)=e from by omega]; rfl
 | n+1,j,h1,h=>by
  have he:=(hF.2 ⟨x,e⟩ (by simp)).1
  have he64:=(hb.fs ⟨x,e⟩ (by simp)).1
  have hk:¬ (x.Kind=3\/x.Kind=4):=λhk=>by
   have:e=1:=he.2 hk;omega
  have he64:e<=64:=he64;have hj:=zYr hc (hF.exp (j:=(j:Int)) (by omega) (by omega)) (hb.exp (j:=(j:Int)) (by omega))
  have hlt:∀ z∈P,cF z ⟨x,1⟩<0:=λz hz=>(List.pairwise_append.1 hF.1).2.2 z hz ⟨x,e⟩ (by simp)
  have hp:zuo [⟨c,P++[⟨x,(j:Int)⟩]⟩] (zcW x)=[⟨c,P++[⟨x,((j+1:Nat):Int)⟩]⟩]:=by
   rw [z1G hc,zSE hk hlt]; rfl
  unfold zBC;rw [z5k hj hv (by rw [hp]; exact (hb.exp (by omega)).wi c),hp,z3J,zdA]
  exact z3B hF hb hv n (j+1) (by omega) (by omega)
theorem z2I:∀ {l:yC} {P:yC},OKF zpw (P++l)->FB (P++l)->(∀ f∈l,ziD zvL f.At=.inr (zcW f.At)/\zR (zcW f.At)=true)->zeR zvL l [⟨c,P⟩]=.inr [⟨c,P++l⟩]
 | [],P,_,_,_=>by rw [zRe,List.append_nil]
 | ⟨x,e⟩::r,P,hF,hb,h=>by
  have hx:=h ⟨x,e⟩ (by simp)
  have e2:P++⟨x,e⟩::r=(P++[⟨x,e⟩])++r:=by simp
  rw [e2] at hF hb ⊢;have hF1:=hF.app.1;have hb1:=hb.app.1;have he:=(hF1.2 ⟨x,e⟩ (by simp)).1.1
  have he:1<=e:=he;have he64:e<=64:=(hb1.fs ⟨x,e⟩ (by simp)).1
  rw [zOA,show ziD zvL (⟨x,e⟩:Fc).At=.inr (zcW x) from hx.1,zdA]
  have hp:zBC (zcW x) (⟨x,e⟩:Fc).Exp.toNat [⟨c,P⟩]=.inr [⟨c,P++[⟨x,e⟩]⟩]:=by
   obtain ⟨n,hn⟩:∃ n:Nat,e=n+1:=⟨(e - 1).toNat,by omega⟩
   show zBC (zcW x) e.toNat [⟨c,P⟩]=_;rw [show e.toNat=n+1 from by omega]
   have hv0:zR [⟨c,P⟩]=true:=zYr hc hF1.app.1 hb1.app.1;have hlt:∀ z∈P,cF z ⟨x,1⟩<0:=λz hz=>(List.pairwise_append.1 hF1.1).2.2 z hz ⟨x,e⟩ (by simp)
   have hp:zuo [⟨c,P⟩] (zcW x)=[⟨c,P++[⟨x,1⟩]⟩]:=by rw [z1G hc,z09 hlt]
   unfold zBC;rw [z5k hv0 hx.2 (by rw [hp]; exact (hb1.exp (by omega)).wi c),hp,z3J,zdA]
   exact z3B hc hF1 hb1 hx.2 n 1 (by omega) (by omega)
  rw [hp,zdA];exact z2I hF hb λf hf=>h f (by simp [hf])
end
theorem zGo {s r:yB} (h:zR (s++r)=true):zR s=true/\zR r=true:=by
 obtain ⟨h1,h2,h3⟩:=zqr.1 h;obtain ⟨w1,w2,w3,w4⟩:=zFW.1 h1;rw [qg] at w1;rw [zYy] at w2;rw [zZo] at w3
 exact ⟨zqr.2 ⟨zFW.2 ⟨by omega,by omega,by omega,λt ht=>w4 t (by simp [ht])⟩,(List.pairwise_append.1 h2).1,λt ht=>h3 t (by simp [ht])⟩,
  zqr.2 ⟨zFW.2 ⟨by omega,by omega,by omega,λt ht=>w4 t (by simp [ht])⟩,(List.pairwise_append.1 h2).2.1,λt ht=>h3 t (by simp [ht])⟩⟩
theorem z4b:∀ {r s:yB},zR (s++r)=true->(∀ t∈r,∀ f∈t.Fs,ziD zvL f.At=.inr (zcW f.At)/\zR (zcW f.At)=true)->zdL zvL r s=.inr (s++r)
 | [],s,_,_=>by rw [z1I,List.append_nil]
 | t::r,s,hv,h=>by
  have e2:s++t::r=(s++[t])++r:=by simp
  rw [e2] at hv ⊢;obtain ⟨h1,h2⟩:=zqr.1 (zGo hv).1;have ht:=h2.2 t (by simp)
  have hb:FB t.Fs:=FB.of h1 (by simp)
  have hf:=z2I ht.1 (l:=t.Fs) (P:=[]) ht.2 hb (h t (by simp))
  have hadd:zi9 s [t]=(s++[t],0):=by
   have e:zcJ s [t]=s++[t]:=zZ6 _ _ h2.1;rw [z5l (zGo (zGo hv).1).1 (zGo (zGo hv).1).2 (by rw [e]; exact h1),e]
  rw [zYe,zbbM ht.1,hf,zdA];show sbd (opS (zi9 s [t])) _=_;rw [hadd,z3J,zdA];exact z4b hv λu hu=>h u (by simp [hu])
theorem z8W {d:Nat} {l:yD} (hl:l.length<=1000000) (h:∀ w∈l,zo d w.Ann/\w.Ann≠[]) (hd:d<=99) (hs:zUx l=true):zd9 l=l:=by
 have e:l.filter zmG=l:=List.filter_eq_self.2 λw hw=>by
  have:=(h w hw).2;unfold zmG;cases hx:w.Ann with
  | nil=>exact absurd hx this
  | cons x r=>simp
 unfold zd9;rw [e]
 have hp:l.Pairwise λx y=>z8 (z7 x) (z7 y)<=0:=zu6 (R:=λx y=>z8 (z7 x) (z7 y)<=0) (λx y z h1 h2=>ztB _ _ _ h1 h2) l λk hk hl'=>by
  have:=zdB.1 hs k (by omega) (by omega)
  unfold zPI at this;rw [Bool.or_eq_true,qe,qe] at this;rcases this with e | e
  ·omega
  ·exact e
 refine ((zJm hl (λw hw=>(h w hw).1) hd).unique (.refl _) ?_).symm
 refine hp.imp_of_mem λ{x y} hx hy hxy=> ?_
 rw [zkn (h y hy).1 hd,zgm (z7 x) (z7 y)];simp only; omega
def AB (x:At):Prop:=zoo x<=8/\zfq x+2<=4096/\x.Items.length<=1024
theorem AB.wi {x:At} (h:AB x):zfx (zcW x)=true:=(FB.wi (l:=[⟨x,1⟩]) ⟨by simp,by rw [zjO,zqR]; have:=h.1; simp only; omega,by rw [zc5,zjf]; have:=h.2.1; simp only [List.length_singleton]; omega,λf hf=>by
 rw [qh] at hf; subst hf; exact ⟨by simp,h.2.2⟩⟩ 1)
theorem AB.of {l:yC} (h:FB l) {f:Fc} (hf:f∈l):AB f.At:=by
 refine ⟨Nat.le_trans (zO7 hf) h.nes, ?_,(h.fs f hf).2⟩;have h1:=zOi hf
 have h2:1<=l.length:=by cases l with
  | nil=>cases hf
  | cons a r=>simp
 have:=h.siz;omega
theorem zbbf {m:Nat} (hA:∀ a,zbr m a=true->zdL zvL a []=.inr a) (x:At) (h:zef (zbr m) x=true) (hx:AB x):ziD zvL x=.inr (zcW x):=by
 have hw:=hx.wi;rw [z1a];cases zdz.1 h with
 | var r hr=>
  simp only [if_true];unfold zvL; rw [hr]; rfl
 | mon a b ha hb ha0 hb0 hab=>
  simp only [show ¬ (1:Int)=0 from by omega,if_false,if_true]
  rw [zA0,hA a ha,zdA,zA0,hA b hb,zdA,zDE,zdA,zdA,zdA];show opS (zQj a b)=_;unfold zQj opR;rw [zy9 ha,zy9 hb,if_neg hb0,if_neg (by simp [ha0,hab])]
  show opS (zmu (zcW (z6u a b)))=_;rw [zIP (a:=zcW (z6u a b)) hw]; rfl
 | del a ha ha0 hc hu=>
  simp only [show ¬ (2:Int)=0 from by omega,show ¬ (2:Int)=1 from by omega,if_false,if_true]
  rw [zA0,hA a ha,zdA,zDE,zdA,zdA];show opS (zQt a)=_;unfold zQt opR;rw [zy9 ha,if_neg (by simp [ha0,hu]),if_neg (by simp [hc])]
  show opS (zmu (zcW (zZP a)))=_;rw [zIP (a:=zcW (zZP a)) hw]; rfl
 | abs a ha ha0 hc=>
  simp only [show ¬ (3:Int)=0 from by omega,show ¬ (3:Int)=1 from by omega,show ¬ (3:Int)=2 from by omega,if_false,if_true]
  rw [zA0,hA a ha,zdA,zDE,zdA,zdA];show opS (zQb a)=_;unfold zQb opR;rw [zy9 ha,if_neg ha0,if_neg (by simp [hc])]
  show opS (zmu (zcW (z6C a)))=_;rw [zIP (a:=zcW (z6C a)) hw]; rfl
 | tst f l o b hl hi hs hf=>
  simp only [show ¬ (4:Int)=0 from by omega,show ¬ (4:Int)=1 from by omega,show ¬ (4:Int)=2 from by omega,show ¬ (4:Int)=3 from by omega,if_false]
  have key:∀ l:yD,(∀ w∈l,zbr m w.Ann=true)->zhZ zvL l=.inr l:=by
   intro l;induction l with
   | nil=>intro _; rw [zWK]
   | cons w r ih=>
    intro hm;rw [zTf,hA w.Ann (hm w (by simp)),zdA,ih λv hv=>hm v (by simp [hv]),zdA]
  have hlen:l.length<=1024:=hx.2.2;have hs':=z8W (d:=9) (l:=l) (by omega) (λw hw=>⟨(zfk (hi w hw).1).1,(hi w hw).2⟩) (by omega) hs
  rw [zDE,zdA,key l λw hw=>(hi w hw).1,zdA]
  show opS (zxX f l o b)=_;unfold zxX;have hall:(l.all λw=>zR w.Ann)=true:=List.all_eq_true.2 λw hw=>zy9 (hi w hw).1
  have hpos:0<l.length:=by cases l with
   | nil=>exact absurd rfl hl
   | cons a r=>simp
  rw [hf,hall,hs',decide_eq_true hpos];show opS (zmu (zcW (zM2 f l o b)))=_;rw [zIP (a:=zcW (zM2 f l o b)) hw]; rfl
theorem z7L:∀ m,∀ a,zbr m a=true->zdL zvL a []=.inr a
 | 0,a,h=>by cases h
 | m+1,a,h=>by
  obtain ⟨h1,_,h3⟩:=zPW.1 (show zxp (zef (zbr m)) a=true from h)
  exact z4b (s:=[]) (zy9 h) λt ht f hf=>by
   have hb:=AB.of (FB.of h1 ht) hf;have hv:=((h3 t ht).2.2 f hf).2;exact ⟨zbbf (z7L m) f.At hv hb,z6o (zWO.2 ((zdz.1 hv).imp λa ha=>zy9 ha)) hb.wi⟩
theorem zbcZ {a:yB} (h:zR a=true):zdL zvL a []=.inr a:=z7L 100 a h
end Go.Proofs.YtoknknbmfmddbaaGreatDoor
end
