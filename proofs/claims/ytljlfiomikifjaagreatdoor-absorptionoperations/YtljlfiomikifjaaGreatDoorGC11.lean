/- Texts of this claim, joined (the program, its functions in plain words, and what they compute). -/
import Derived.Test.YtljlfiomikifjaaGreatDoorGC10
set_option autoImplicit false
set_option linter.unusedVariables false
set_option linter.unusedSectionVars false
set_option linter.unusedSimpArgs false
set_option maxRecDepth 1000000
set_option maxHeartbeats 0
/- Substitution: both sides compute the same. -/
noncomputable section
namespace Go.Proofs.YtljlfiomikifjaaGreatDoor
open Go Go.Ab
def toA:yG->RowID->yC
 | [],r=>zvA r
 | b::l,r=>if b.Row=r then b.To else toA l r
def okB (l:yG):Prop:=l.length<=1000/\∀ b∈l,okA b.To
theorem zbe5:∀ {l:yG},(∀ b∈l,okA b.To)->okT (toA l)
 | [],_,r,hr=>by rw [toA]; exact zbnX hr
 | b::l,h,r,hr=>by
  rw [toA];split
  ·exact h b (by simp)
  ·exact zbe5 (λc hc=>h c (by simp [hc])) r hr
theorem zbg7 (a b:RowID):(a.Table==b.Table&&(a.Seq==b.Seq&&true))=decide (a=b):=by
 obtain ⟨t,s⟩:=a; obtain ⟨t',s'⟩:=b;rw [Bool.and_true,zhe,zhe, <- Bool.decide_and];congr 1;simp
theorem zbkA (a b:RowID):(a.Table==b.Table&&a.Seq==b.Seq)=decide (a=b):=by rw [<- zbg7,Bool.and_true]
theorem zbg6:∀ (l:yG) (r:RowID) (i:Nat),(ixf (λb=>decide (b.Row=r)) l i= -1/\toA l r=zvA r)\/∃ j,j<l.length/\ixf (λb=>decide (b.Row=r)) l i=((i+j:Nat):Int)/\toA l r=(l.getD j default).To
 | [],r,i=>.inl ⟨rfl,rfl⟩
 | b::l,r,i=>by
  rw [ixf,toA];by_cases h:b.Row=r
  ·rw [decide_eq_true h,cond_true,if_pos h];exact .inr ⟨0,by simp,rfl,rfl⟩
  ·rw [decide_eq_false h,cond_false,if_neg h];rcases zbg6 l r (i+1) with ⟨h1,h2⟩ | ⟨j,h1,h2,h3⟩
   ·exact .inl ⟨h1,h2⟩
   ·exact .inr ⟨j+1,by simp; omega,by rw [h2]; congr 1; omega,h3⟩
theorem zboh {l:yG} (h:okB l) (r:RowID):zii r l=(true,toA l r):=by
 unfold zii zzu
 have hi:zcG l r=(true,ixf (λb=>decide (b.Row=r)) l 0):=by
  have e:zcG l r=IH (λ(g:RowID×Unit) x=>zf7 x g.1) (l.length+(Int.ofNat l.length).toNat +Int.toNat (0:Int)+(1:Nat)) (r,()) l:=rfl
  rw [e]
  exact zblv _ _ _ _ _ (by have:=h.1; omega) (λx _=>by
   unfold zf7 zvF;rw [Wy.fin_k,zbg7]) (by omega)
 rw [Wy.fin_bn,hi];rcases zbg6 l r 0 with ⟨h1,h2⟩ | ⟨j,h1,h2,h3⟩
 ·rw [h1,h2];simp only [cond_true,Wy.fin_i,Wy.fin_bn,Wy.fin_k,(zbjj r).1];rfl
 ·rw [Nat.zero_add] at h2;rw [h2,h3];have hm:=h.2 _ (zr h1);have e1:decide ((j:Int)≥(0:Int))=true:=by simp
  simp only [cond_true,Wy.fin_i,Wy.fin_bn,Wy.fin_k,e1,tT,h1,zK3 hm.1.1 (show (12:Nat)<=100 by omega)]
theorem zbkw {l:yG} (h:okB l) (r:RowID):∃ b q,zD6 l r=(true,(b,q))/\((q=true/\b=toA l r)\/(q=false/\toA l r=zvA r)):=by
 have key:∀ (n i:Nat),l.length<i+n->i<=l.length->∃ x,zIL n l i r=(true,x)/\((x=.inl (toA (l.drop i) r,true))\/(x=.inr ()/\toA (l.drop i) r=zvA r)):=by
  intro n;induction n with
  | zero=>intro i h1 h2; omega
  | succ n ih=>
   intro i h1 h2;have hlen:=h.1;show ∃ x,(zJv l i r).ev (λx y=>zIL n x.1 x.2.2.1 y.1) (λr=>(true,r)) (false,.inl default)=(true,x)/\_
   unfold zJv;by_cases hi:i<l.length
   ·simp only [Wy.ev_i,Wy.ev_k,Wy.ev_h,Wy.ev_bn,Wy.ev_d,tT,hi,zbkA];rw [zbx hi,toA];by_cases hr:(l.getD i default).Row=r
    ·rw [decide_eq_true hr,if_pos hr,cond_true];exact ⟨_,rfl,.inl rfl⟩
    ·rw [decide_eq_false hr,if_neg hr,cond_false,zN (by omega)]
     exact ih (i+1) (by omega) (by omega)
   ·simp only [Wy.ev_i,Wy.ev_k,Wy.ev_h,Wy.ev_bn,Wy.ev_d,tT,hi];rw [zcO hi];exact ⟨_,rfl,.inr ⟨rfl,rfl⟩⟩
 obtain ⟨x,h1,h2⟩:=key (l.length+Int.toNat (0:Int)+(1:Nat)) 0 (by omega) (by omega)
 unfold zD6 zX7;rw [show ((0:Nat):Int)=(0:Int) from rfl] at h1
 rw [Wy.fin_bn,h1];rw [List.drop_zero] at h2;rcases h2 with rfl | ⟨rfl,h2⟩
 ·exact ⟨_,_,rfl,.inl ⟨rfl,rfl⟩⟩
 ·exact ⟨_,_,rfl,.inr ⟨rfl,h2⟩⟩
def RS (s:Int⊕yC) (e:Int) (p:yC):Prop:=match s with
 | .inl x=>e=x/\x≠0
 | .inr q=>e=0/\p=q
theorem zbld (r:yC×Int):RS (opS r) r.2 r.1:=by
 unfold opS;by_cases h:r.2=0
 ·rw [if_pos h]; exact ⟨h,rfl⟩
 ·rw [if_neg h]; exact ⟨rfl,h⟩
theorem zbd2 (b:yC) (s:Int⊕yC):sbd s (zBm b 0)=s:=by cases s <;>rfl
section
variable (g:At->yG->Bool×(yC×Int)) (to:yG)
theorem zbhw (b:yC) (hb:okA b) (t16:yC) (t17 t18:Int) (t26:yD) (t27 t28:Int) (N:Nat) (hN:N<=1000000) (sum:yC):
  ∀ (n i:Nat) (e:Int) (p:yC) (s:Int⊕yC),N<i+n->i<=N->GS s->RS s e p->∃ e' p',zrB g n to b e t16 t17 t18 t26 t27 t28 N i sum p=(true,(to,e',t16,t17,t18,t26,t27,t28,sum,p'))/\RS (sbd s (zBm b (N - i))) e' p'
 | 0,i,e,p,s,h1,h2,_,_=>by omega
 | n+1,i,e,p,s,h1,h2,hs,hr=>by
  show ∃ e' p',(zsd g to b e t16 t17 t18 t26 t27 t28 N i sum p).ev (λx y=>zrB g n x.1.1.1 x.2.2.2.1 x.2.2.2.2.1 x.2.2.2.2.2.1 x.2.2.2.2.2.2.1 x.2.2.2.2.2.2.2.1 x.2.2.2.2.2.2.2.2.1 x.2.2.2.2.2.2.2.2.2.1 x.2.2.2.2.2.2.2.2.2.2.1 x.2.2.2.2.2.2.2.2.2.2.2.1 x.2.2.2.2.2.2.2.2.2.2.2.2.1 y.1 y.2.1) (λr=>(true,r)) (false,default)=_/\_
  unfold zsd;by_cases hi:i<N
  ·have hk:N - i=(N - (i+1))+1:=by omega
   cases s with
   | inl x=>
    obtain ⟨rfl,hx⟩:=hr;have he:(e==(0:Int))=false:=by simp [hx]
    simp only [Wy.ev_i,Wy.ev_k,Wy.ev_h,Wy.ev_bn,Wy.ev_d,zDV,hi,decide_true,cond_true,he,cond_false,zN (show i<4611686018427387904 by omega)]
    exact zbhw b hb t16 t17 t18 t26 t27 t28 N hN sum n (i+1) e p (.inl e) (by omega) (by omega) hs ⟨rfl,hx⟩
   | inr q=>
    obtain ⟨rfl,rfl⟩:=hr;have hp:okA p:=hs;simp only [Wy.ev_i,Wy.ev_k,Wy.ev_h,Wy.ev_bn,Wy.ev_d,zDV,hi,decide_true,cond_true,(zbdK hp hb).1,zN (show i<4611686018427387904 by omega),show ((0:Int)==0)=true from rfl]
    rw [hk];exact zbhw b hb t16 t17 t18 t26 t27 t28 N hN sum n (i+1) (zu2 p b).2 (zu2 p b).1 (opS (zu2 p b)) (by omega) (by omega) (zRZ (zN8 hp hb)) (zbld _)
  ·have hk:N - i=0:=by omega
   simp only [Wy.ev_i,Wy.ev_k,zDV,hi,decide_false,cond_false];rw [hk,zbd2];exact ⟨e,p,rfl,hr⟩
def AG (l:yD):Prop:=∀ f∈l,(g f.At to=(true,ofS (zel (toA to) f.At))/\GS (zel (toA to) f.At))/\0<=f.Exp/\f.Exp<=1000000
theorem zbi7 {s:Int⊕yC} (h:GS s):okA (ofS s).1:=by
 cases s with
 | inl e=>exact zhB
 | inr a=>exact h
theorem zbeu {s:Int⊕yC} (h:GS s) (p:yC):RS (sbd s λ_=>.inr p) (ofS s).2 p:=by
 cases s with
 | inl e=>exact ⟨rfl,h⟩
 | inr a=>exact ⟨rfl,rfl⟩
theorem zbdX {s:Int⊕yC} (h:GS s) {p:yC} (hp:okA p):GS (sbd s λ_=>.inr p):=zRM h λ_ _=>hp
theorem zbbO {s:Int⊕yC} (p:yC) (N:Nat):sbd (sbd s λ_=>.inr p) (zBm (ofS s).1 N)=sbd s λb=>zBm b N p:=by
 cases s <;>rfl
theorem zbna (l:yD) (hl:l.length<=1000000) (hg:AG g to l) (t16:yC) (t17 t18:Int) (sum:yC):
  ∀ (n i:Nat) (p:yC),l.length<i+n->i<=l.length->okA p->ztr g n to t16 t17 t18 l l.length i sum p=(true,match zdn (toA to) (l.drop i) p with
   | .inl e=>.inl e
   | .inr q=>.inr (to,t16,t17,t18,sum,q))
 | 0,i,p,h1,h2,_=>by omega
 | n+1,i,p,h1,h2,hp=>by
  show (ztc g to t16 t17 t18 l l.length i sum p).ev (λx y=>ztr g n x.1.1.1 x.2.2.2.1 x.2.2.2.2.1 x.2.2.2.2.2.1 x.2.2.2.2.2.2.1 x.2.2.2.2.2.2.2.1 x.2.2.2.2.2.2.2.2.1 y.1 y.2.1) (λr=>(true,r)) (false,.inl default)=_
  unfold ztc;by_cases hi:i<l.length
  ·obtain ⟨⟨hf,hG⟩,e0,e1⟩:=hg _ (zr hi);obtain ⟨N,hN⟩:∃ N:Nat,(l.getD i default).Exp=(N:Int):=⟨_,(Int.toNat_of_nonneg e0).symm⟩
   obtain ⟨e',p',h11,hrs⟩:=zbhw g to (ofS (zel (toA to) (l.getD i default).At)).1 (zbi7 hG) t16 t17 t18 l l.length i N (by omega) sum
    (to.length+(ofS (zel (toA to) (l.getD i default).At)).1.length+(ofS (zel (toA to) (l.getD i default).At)).2.toNat +t16.length+t17.toNat +t18.toNat +l.length+(l.length:Int).toNat +(i:Int).toNat +(N:Int).toNat +Int.toNat (0:Int)+sum.length+p.length+(1:Nat)) 0 _ p _ (by omega) (by omega) (zbdX hG hp) (zbeu hG p)
   rw [zbbO,Nat.sub_zero] at hrs;rw [show ((0:Nat):Int)=(0:Int) from rfl] at h11
   rw [zbx hi,zIE,hN,Int.toNat_natCast];simp only [Wy.ev_i,Wy.ev_k,Wy.ev_h,Wy.ev_bn,Wy.ev_d,tT,hi,At.eta,hf,hN,zAg];rw [show Int.toNat (l.length:Int)=l.length from Int.toNat_natCast _,show Int.toNat (i:Int)=i from Int.toNat_natCast _,show Int.toNat (N:Int)=N from Int.toNat_natCast _] at h11
   rw [h11];have hS:=hG;revert hrs hS;cases zel (toA to) (l.getD i default).At with
   | inl x=>
    rintro ⟨rfl,hx⟩ _
    simp [hx,zE6]
   | inr b=>
    intro hrs hb;simp only [zci] at hrs ⊢;have hq:=z7y (b:=b) hb N p hp;revert hrs hq;cases zBm b N p with
    | inl x=>
     rintro ⟨rfl,hx⟩ _
     simp [hx,zE6]
    | inr q=>
     rintro ⟨rfl,rfl⟩ hq
     simp only [zci,decide_true,Bool.not_true,cond_true,cond_false,zN (show i<4611686018427387904 by omega)]
     exact zbna l hl hg t16 t17 t18 sum n (i+1) p' (by omega) (by omega) hq
  ·simp only [Wy.ev_i,Wy.ev_k,Wy.ev_h,Wy.ev_bn,Wy.ev_d,tT,hi];rw [zcO hi,zLM]
theorem zbm3 (l:yC) (hl:l.length<=1000000) (hg:∀ t∈l,t.Fs.length<=1000000/\AG g to t.Fs) (hok:∀ t∈l,∀ p,okA p->GS (zdn (toA to) t.Fs p)):
  ∀ (n i:Nat) (s:yC),l.length<i+n->i<=l.length->okA s->ztv g n to l l.length i s=(true,zck (toA to) (l.drop i) s)
 | 0,i,s,h1,h2,_=>by omega
 | n+1,i,s,h1,h2,hs=>by
  show (zs4 g to l l.length i s).ev (λx y=>ztv g n x.1.1.1 x.2.2.1 x.2.2.2.1 x.2.2.2.2.1 y.1) (λr=>(true,r)) (false,.inl default)=_
  unfold zs4;by_cases hi:i<l.length
  ·have ht:=hg _ (zr hi);have hc:=zbdJ (l.getD i default).Cf;have h7:=zbna g to (l.getD i default).Fs ht.1 ht.2 l l.length i s (to.length+l.length+(l.length:Int).toNat +(i:Int).toNat +(l.getD i default).Fs.length+((l.getD i default).Fs.length:Int).toNat +Int.toNat (0:Int)+s.length+(zuZ (l.getD i default).Cf).length+(1:Nat)) 0 (zuZ (l.getD i default).Cf) (by omega) (by omega) hc
   rw [show ((0:Nat):Int)=(0:Int) from rfl,List.drop_zero] at h7
   simp only [Int.toNat_natCast] at h7;rw [zbx hi,zV9];simp only [Wy.ev_i,Wy.ev_k,Wy.ev_h,Wy.ev_bn,Wy.ev_d,tT,hi,(zbkQ _).1];rw [h7];have hS:=hok _ (zr hi) _ hc;revert hS;cases zdn (toA to) (l.getD i default).Fs (zuZ (l.getD i default).Cf) with
   | inl e=>intro _; rfl
   | inr p=>
    intro hp;have hp:okA p:=hp;simp only [zci,isL,getR,cond_true,cond_false,(zbfb hs hp).1,zAg];have hG:=zN5 hs hp;unfold opS;by_cases he:(zxm s p).2=0
    ·rw [if_pos he,decide_eq_true he,zci,zN (show i<4611686018427387904 by omega)]
     exact zbm3 l hl hg hok n (i+1) _ (by omega) (by omega) hG.1
    ·rw [if_neg he,decide_eq_false he]; rfl
  ·simp only [Wy.ev_i,Wy.ev_k,Wy.ev_h,Wy.ev_bn,Wy.ev_d,tT,hi];rw [zcO hi,z0E]
theorem zboR (a:yC) (hl:a.length<=1000000) (hg:∀ t∈a,t.Fs.length<=1000000/\AG g to t.Fs) (hok:∀ t∈a,∀ p,okA p->GS (zdn (toA to) t.Fs p)):zlm g a to=(true,ofS (zck (toA to) a [])):=by
 unfold zlm zD5;have h3:=zbm3 g to a hl hg hok (to.length+a.length+(Int.ofNat a.length).toNat +Int.toNat (0:Int)+(0:Nat)+(1:Nat)) 0 [] (by omega) (by omega) zhB
 rw [show ((0:Nat):Int)=(0:Int) from rfl,List.drop_zero] at h3
 rw [Wy.fin_bn,show Int.ofNat a.length=(a.length:Int) from rfl] at *
 rw [h3];cases zck (toA to) a [] <;>rfl
end
section
variable (g:yC->yG->Bool×(yC×Int)) (to:yG)
theorem zbnU (x:At) (l:yA) (hl:l.length<=1000000) (hg:∀ a∈l,g a to=(true,ofS (zck (toA to) a []))/\GS (zck (toA to) a [])):
  ∀ (n i:Nat) (xs:yA),l.length<i+n->i<=l.length->xs.length<=i->zjF g n to l l.length i x xs=(true,match zjd (toA to) (l.drop i) with
   | .inl e=>.inl e
   | .inr ys=>.inr (to,x,xs++ys))
 | 0,i,xs,h1,h2,_=>by omega
 | n+1,i,xs,h1,h2,hx=>by
  have hreach:zG=70368744177664:=rfl;show (znN g to l l.length i x xs).ev (λx y=>zjF g n x.1.1.1 x.2.2.2.1 x.2.2.2.2.1 x.2.2.2.2.2.1 y.1 y.2.1) (λr=>(true,r)) (false,.inl default)=_
  unfold znN;by_cases hi:i<l.length
  ·obtain ⟨hf,hG⟩:=hg _ (zr hi);have hb:decide ((xs.length+1)*24<=zG)=true:=by simp only [qe]; omega
   rw [zbx hi,zzW];simp only [Wy.ev_i,Wy.ev_k,Wy.ev_h,Wy.ev_bn,Wy.ev_d,tT,hi,hf,zAg,List.length_singleton,hb];revert hG;cases zck (toA to) (l.getD i default) [] with
   | inl e=>intro he; simp [ofS,show e≠0 from he,zE6]
   | inr b=>
    intro _;simp only [ofS,decide_true,Bool.not_true,cond_false,zci,zN (show i<4611686018427387904 by omega)]
    rw [zbnU x l hl hg n (i+1) (xs++[b]) (by omega) (by omega) (by simp; omega)]
    cases zjd (toA to) (l.drop (i+1)) with
    | inl e=>rfl
    | inr ys=>simp [zci]
  ·simp only [Wy.ev_i,Wy.ev_k,Wy.ev_h,Wy.ev_bn,Wy.ev_d,tT,hi];rw [zcO hi,zCs]; simp
theorem zbll (x:At) (l:yE) (hl:l.length<=1000000) (hg:∀ w∈l,g w.Ann to=(true,ofS (zck (toA to) w.Ann []))/\GS (zck (toA to) w.Ann [])):
  ∀ (n i:Nat) (xs:yE),l.length<i+n->i<=l.length->xs.length<=i->ziO g n to l l.length i x xs=(true,match zfI (toA to) (l.drop i) with
   | .inl e=>.inl e
   | .inr ys=>.inr (x,xs++ys))
 | 0,i,xs,h1,h2,_=>by omega
 | n+1,i,xs,h1,h2,hx=>by
  have hreach:zG=70368744177664:=rfl;show (zm4 g to l l.length i x xs).ev (λx y=>ziO g n x.1.1.1 x.2.2.2.1 x.2.2.2.2.1 x.2.2.2.2.2.1 y.1 y.2.1) (λr=>(true,r)) (false,.inl default)=_
  unfold zm4;by_cases hi:i<l.length
  ·obtain ⟨hf,hG⟩:=hg _ (zr hi);have hb:decide ((xs.length+1)*56<=zG)=true:=by simp only [qe]; omega
   rw [zbx hi,zP8];simp only [Wy.ev_i,Wy.ev_k,Wy.ev_h,Wy.ev_bn,Wy.ev_d,tT,hi,hf,zAg,List.length_singleton,hb];revert hG;cases zck (toA to) (l.getD i default).Ann [] with
   | inl e=>intro he; simp [ofS,show e≠0 from he,zE6]
   | inr b=>
    intro _;simp only [ofS,decide_true,Bool.not_true,cond_false,zci,zN (show i<4611686018427387904 by omega)]
    rw [zbll x l hl hg n (i+1) (xs++[WO.mk (l.getD i default).Value b]) (by omega) (by omega) (by simp; omega)]
    cases zfI (toA to) (l.drop (i+1)) with
    | inl e=>rfl
    | inr ys=>simp [zci]
  ·simp only [Wy.ev_i,Wy.ev_k,Wy.ev_h,Wy.ev_bn,Wy.ev_d,tT,hi];rw [zcO hi,zJL]; simp
structure XG (x:At):Prop where
 va:zoO x=true
 lens:x.Ag.length<=1000000/\x.Items.length<20
 ga:∀ a∈x.Ag,g a to=(true,ofS (zck (toA to) a []))/\GS (zck (toA to) a [])
 gi:∀ w∈x.Items,g w.Ann to=(true,ofS (zck (toA to) w.Ann []))/\GS (zck (toA to) w.Ann [])
 sa:GL x.Ag.length (zjd (toA to) x.Ag)
 si:GI x.Items (zfI (toA to) x.Items)
 wf:zf9 x
theorem zbmk {f o:Int} {i l:yE} {b:Value} (h20:i.length<20) (hl:l.length=i.length/\∀ w∈l,okA w.Ann/\∃ v∈i,v.Value=w.Value):zoD f l o b=(true,zy3 f l o b)/\zyD f l o b=(true,zy3 f l o b):=by
 have h1:∀ w∈l,zm 12 w.Ann/\zK w.Ann<=4611686018427387904:=λw hw=>(hl.2 w hw).1.1
 have h2:(l.filter zma).length<20:=Nat.lt_of_le_of_lt (List.length_filter_le _ _) (by omega)
 exact ⟨zbmI f l o b (by omega) h1 (by omega) h2,zbdE f l o b (by omega) h1 (by omega)⟩
theorem zbbZ {x:At} (h:zoO x=true):(x.Kind=1->x.Ag.length=2)/\(x.Kind=2\/x.Kind=3->x.Ag.length=1):=by
 cases zXQ.1 h <;>simp
theorem zbmj (hto:okB to) (x:At) (h:XG g to x):zhW g x to=(true,ofS (zel (toA to) x)):=by
 unfold zhW zzL;have h5:=zbnU g to x x.Ag h.lens.1 h.ga (to.length+x.Ag.length+(Int.ofNat x.Ag.length).toNat +Int.toNat (0:Int)+x.Ag.length+x.Items.length+(0:Nat)+(1:Nat)) 0 [] (by omega) (by omega) (by simp)
 rw [show ((0:Nat):Int)=(0:Int) from rfl,List.drop_zero] at h5
 have h5':zjF g (to.length+x.Ag.length+(Int.ofNat x.Ag.length).toNat +Int.toNat (0:Int)+x.Ag.length+x.Items.length+(0:Nat)+(1:Nat)) to x.Ag (Int.ofNat x.Ag.length) 0 x []=_:=h5;have h21:=zbll g to x x.Items (by have:=h.lens.2; omega) h.gi (to.length+x.Items.length+(Int.ofNat x.Items.length).toNat +Int.toNat (0:Int)+x.Ag.length+x.Items.length+(0:Nat)+(1:Nat)) 0 [] (by omega) (by omega) (by simp)
 rw [show ((0:Nat):Int)=(0:Int) from rfl,List.drop_zero] at h21
 have h21':ziO g (to.length+x.Items.length+(Int.ofNat x.Items.length).toNat +Int.toNat (0:Int)+x.Ag.length+x.Items.length+(0:Nat)+(1:Nat)) to x.Items (Int.ofNat x.Items.length) 0 x []=_:=h21;rw [At.eta,z2i];have b0:=zhe x.Kind 0;have b1:=zhe x.Kind 1;have b2:=zhe x.Kind 2;have b3:=zhe x.Kind 3;simp only [Wy.fin_i,Wy.fin_bn,Wy.fin_k,zboh hto,cond_true,h5',List.nil_append];by_cases hk0:x.Kind=0
 ·rw [b0,decide_eq_true hk0,if_pos hk0]; rfl
 ·rw [b0,decide_eq_false hk0,if_neg hk0,cond_false];have hA:=h.sa;have hlen:=zbbZ h.va;revert hA;cases zjd (toA to) x.Ag with
  | inl e=>intro _; rfl
  | inr xs=>
   intro hxs;have hxl:xs.length=x.Ag.length/\∀ a∈xs,okA a:=hxs;have o0:=zJB hxl.2 0;have o1:=zJB hxl.2 1;simp only [isL,getR,cond_false,zci];by_cases hk1:x.Kind=1
   ·have:=hlen.1 hk1;rw [b1,decide_eq_true hk1,if_pos hk1];simp only [cond_true,show Int.toNat (0:Int)=0 from rfl,show Int.toNat (1:Int)=1 from rfl,(zbkv o0 o1).1,zFs (zba5 o0 o1).2]
    simp [hxl.1,this]
   ·rw [b1,decide_eq_false hk1,if_neg hk1,cond_false];by_cases hk2:x.Kind=2
    ·have:=hlen.2 (.inl hk2);rw [b2,decide_eq_true hk2,if_pos hk2];simp only [cond_true,show Int.toNat (0:Int)=0 from rfl,show Int.toNat (1:Int)=1 from rfl,(zbkL o0).1,zFs (zbbu o0).2]
     simp [hxl.1,this]
    ·rw [b2,decide_eq_false hk2,if_neg hk2,cond_false];by_cases hk3:x.Kind=3
     ·have:=hlen.2 (.inr hk3);rw [b3,decide_eq_true hk3,if_pos hk3];simp only [cond_true,show Int.toNat (0:Int)=0 from rfl,show Int.toNat (1:Int)=1 from rfl,(zbjD o0).1,zFs (z95 o0).2]
      simp [hxl.1,this]
     ·rw [b3,decide_eq_false hk3,if_neg hk3,cond_false,At.eta,h21'];have hI:=h.si;revert hI;cases zfI (toA to) x.Items with
      | inl e=>intro _; rfl
      | inr is=>
       intro his;have ht:=zbmk (f:=x.Func) (o:=x.Op) (b:=x.Bd) h.lens.2 his;simp only [cond_true,cond_false,List.nil_append,ht.1,zci];have hw:=znt h.wf;have hl:is.length=x.Items.length/\∀ w∈is,okA w.Ann/\∃ v∈x.Items,v.Value=w.Value:=his
       rw [zFs (z2z (by have:=h.lens.2; omega) (λw hw'=>⟨(hl.2 w hw').1,by
        obtain ⟨v,hv,e⟩:=(hl.2 w hw').2;rw [<- e]; exact (zfX hw.2.1.1 v hv).1⟩) hw.2.2.2.2.2.1 hw.2.2.2.2.2.2 hw.2.2.1).2]
end
theorem zbks {a b:yC} (ha:okA a) (hb:okA b):zxT a b=(true,zxm a b):=by
 unfold zxT zTq zxm;simp only [Wy.fin_bn,Wy.fin_i,Wy.fin_k,ha.rvalid,hb.rvalid,cond_true];cases va:zF a with
 | false=>first | trivial | rfl
 | true=>
  cases vb:zF b with
  | false=>first | trivial | rfl
  | true=>
   obtain ⟨sa,la,ta⟩:=zkr va ha.2.1;obtain ⟨sb,lb,tb⟩:=zkr vb hb.2.1;have ga:∀ t∈a,GT t:=λt ht=>(ta t ht).1
   have gb:∀ t∈b,GT t:=λt ht=>(tb t ht).1
   have hsl:(zdS a b).length<=1000000:=by have:=zwn b a; omega
   obtain ⟨f1,f2⟩:=z0Y hsl (zKQ b a sa ga gb);simp only [Bool.not_true,cond_false,Bool.and_self,zbgY a b ga gb sa la lb,zBn f1 (by omega:10<=100) f2,cond_true] <;>first | trivial | rfl
theorem zbjU {a b:yC} (ha:okA a) (hb:okA b):zxX a b=(true,zu2 a b):=by
 unfold zxX zSp zu2;simp only [Wy.fin_bn,Wy.fin_i,Wy.fin_k,ha.rvalid,hb.rvalid,cond_true];cases va:zF a with
 | false=>first | trivial | rfl
 | true=>
  cases vb:zF b with
  | false=>first | trivial | rfl
  | true=>
   obtain ⟨sa,la,ta⟩:=zkr va ha.2.1;obtain ⟨sb,lb,tb⟩:=zkr vb hb.2.1;have hpl:(zey a b).length<=1000000:=by rw [zRX]; have:=Nat.mul_le_mul la lb; omega
   have hsl:(zlH a b).length<=1000000:=by have:=zwn (zey a b) []; simp at this; exact Nat.le_trans this hpl
   obtain ⟨f1,f2⟩:=z0Y hsl (zKQ (zey a b) [] .nil (λt ht=>by cases ht) (zWW ta tb))
   have f1:zm 10 (zlH a b):=f1;have f2:zK (zlH a b)<=4611686018427387904:=f2;simp only [Bool.not_true,cond_false,Bool.and_self,zbdL a b ta tb la lb,zBn f1 (by omega:10<=100) f2,cond_true] <;>first | trivial | rfl
theorem zbhS {a b:yC} (ha:okA a) (hb:okA b):zvk a b=(true,zQd a b):=by
 unfold zvk zMr zQd;simp only [Wy.fin_bn,Wy.fin_i,Wy.fin_k,ha.rvalid,hb.rvalid,cond_true];cases va:zF a with
 | false=>first | trivial | rfl
 | true=>
  cases vb:zF b with
  | false=>first | trivial | rfl
  | true=>
   obtain ⟨f1,f2⟩:=zEA (l:=[a,b]) (k:=1) (by simp) (λx hx=>by
    simp only [qd,List.not_mem_nil,or_false] at hx;rcases hx with rfl | rfl
    ·exact va
    ·exact vb)
   simp only [Bool.not_true,cond_false,Bool.and_self,zN6,zEo ha.1.1 (by omega:12<=100),zFM,zBn f1 (by omega:10<=100) f2,cond_true,opR]
   by_cases hb0:b=[]
   ·simp only [hb0,decide_true,cond_true,if_true] <;>trivial
   ·by_cases ha0:a=[]
    ·simp only [hb0,ha0,decide_true,decide_false,cond_true,cond_false,if_true,if_false,true_or] <;>trivial
    ·by_cases hab:a=b
     ·simp only [hb0,ha0,hab,decide_true,decide_false,cond_true,cond_false,if_true,if_false,or_true] <;>trivial
     ·simp only [hb0,ha0,hab,decide_false,cond_false,if_false,or_self] <;>first | trivial | rfl
theorem zbhu {a:yC} (ha:okA a):zvm a=(true,zPP a):=by
 unfold zvm zLF zPP;simp only [Wy.fin_bn,Wy.fin_i,Wy.fin_k,ha.rvalid,cond_true];cases va:zF a with
 | false=>first | trivial | rfl
 | true=>
  obtain ⟨f1,f2⟩:=zEA (l:=[a]) (k:=2) (by simp) (λx hx=>by rw [qh] at hx; subst hx; exact va)
  have hla:a.length<=1000000000:=by have:=(zeJ va).2.2; omega
  have hbu:isB a=isU a:=zPU va;simp only [Bool.not_true,cond_false,zN6,zHd,zpc a hla,zFM,zBn f1 (by omega:10<=100) f2,cond_true,opR,hbu]
  rw [show znT (zcu ⟨2,⟨0,0⟩,[a],0,[],0,⟨0,0,ByteArray.mk #[]⟩⟩)=znT (zcu (z1y a)) from rfl]
  clear f1 f2;generalize znT (zcu (z1y a))=R;by_cases h0:a=[]
  ·simp only [h0,decide_true,cond_true,if_true,true_or] <;>trivial
  ·cases hu:isU a with
   | true=>simp only [h0,decide_false,cond_false,cond_true,if_true,or_true] <;>trivial
   | false=>
    simp only [h0,decide_false,cond_false,if_false,or_self,Bool.false_eq_true]
    match a,h0 with
    | [t],_=>
     have e1:zu5 [t]=(t.Fs.length==0):=by simp [zu5]
     have e2:isC [t]=(t.Fs.length==0):=rfl;rw [e1,e2];cases (t.Fs.length==0) with
     | true=>simp only [cond_true,if_true] <;>first | trivial | rfl
     | false=>simp only [cond_false,cond_true,Bool.false_eq_true,if_false] <;>first | trivial | rfl
    | t::s::r,_=>
     have e2:isC (t::s::r)=false:=rfl;simp only [zPk,e2,cond_false,cond_true,Bool.false_eq_true,if_false]
theorem zbfP {a:yC} (ha:okA a):zri a=(true,zPt a):=by
 unfold zri zIZ zPt;simp only [Wy.fin_bn,Wy.fin_i,Wy.fin_k,ha.rvalid,cond_true];cases va:zF a with
 | false=>first | trivial | rfl
 | true=>
  obtain ⟨f1,f2⟩:=zEA (l:=[a]) (k:=3) (by simp) (λx hx=>by rw [qh] at hx; subst hx; exact va)
  have hla:a.length<=1000000000:=by have:=(zeJ va).2.2; omega
  simp only [Bool.not_true,cond_false,zN6,zpc a hla,zFM,zBn f1 (by omega:10<=100) f2,cond_true,opR]
  by_cases h0:a=[]
  ·simp only [h0,decide_true,cond_true,if_true] <;>first | trivial | rfl
  ·cases hu:zu5 a with
   | true=>simp only [h0,decide_false,cond_false,cond_true,if_true,if_false] <;>trivial
   | false=>simp only [h0,decide_false,cond_false,if_false,Bool.false_eq_true] <;>first | trivial | rfl
theorem zbig (n:Int):zvq n=(true,zuZ n):=by
 unfold zvq zMj zuZ;by_cases h:n<1
 ·simp only [Wy.fin_i,Wy.fin_k,h,decide_true,cond_true,if_true]
 ·simp only [Wy.fin_i,Wy.fin_k,h,decide_false,cond_false,if_false]
theorem zbkz {f o:Int} {i l:yE} {b:Value} (h20:i.length<=1000000) (hl:l.length=i.length/\∀ w∈l,okA w.Ann/\∃ v∈i,v.Value=w.Value):zyD f l o b=(true,zy3 f l o b):=by
 have h1:∀ w∈l,zm 12 w.Ann/\zK w.Ann<=4611686018427387904:=λw hw=>(hl.2 w hw).1.1
 exact zbdE f l o b (by omega) h1 (by omega)
theorem zbeK:∀ (l:yD) (k:Nat),k<l.length->(l.getD k default).Exp.toNat<=zLq l
 | [],k,h=>by simp at h
 | f::r,0,_=>by show f.Exp.toNat<=_; rw [zLq]; omega
 | f::r,k+1,h=>by
  have:=zbeK r k (by simpa using h)
  show (r.getD k default).Exp.toNat<=_;rw [zLq]; omega
theorem zbfw:∀ (l:yC) (k:Nat),k<l.length->zLq (l.getD k default).Fs<=zbV l
 | [],k,h=>by simp at h
 | f::r,0,_=>by show zLq f.Fs<=_; rw [zbV]; omega
 | f::r,k+1,h=>by
  have:=zbfw r k (by simpa using h)
  show zLq (r.getD k default).Fs<=_;rw [zbV]; omega
section
variable (g:At->yG->Bool×(yC×Int)) (l:yG)
theorem zbk9 (a:yC) (i k:Nat) (hi:i<a.length) (hk:k<(a.getD i default).Fs.length) (out b:yC) (hb:okA b) (N:Nat) (hN:((a.getD i default).Fs.getD k default).Exp=N) (hN':N<=1000000):
  ∀ (n j:Nat) (e:Int) (p:yC) (s:Int⊕yC),N<j+n->j<=N->GS s->RS s e p->∃ e' p',zAn g n a l out i p k b e j=(true,(a,l,out,(i:Int),p',(k:Int),e'))/\RS (sbd s (zBm b (N - j))) e' p'
 | 0,j,e,p,s,h1,h2,_,_=>by omega
 | n+1,j,e,p,s,h1,h2,hs,hr=>by
  show ∃ e' p',(zAr g a l out i p k b e j).ev (λx y=>zAn g n x.1 x.2.1 x.2.2.1 x.2.2.2.1 x.2.2.2.2.1 x.2.2.2.2.2.1 x.2.2.2.2.2.2.1 x.2.2.2.2.2.2.2.1 x.2.2.2.2.2.2.2.2.1) (λr=>(true,r)) (false,default)=_/\_
  unfold zAr;simp only [Wy.ev_i,Wy.ev_k,Wy.ev_h,Wy.ev_bn,Wy.ev_d,tT,hi,hk,hN];by_cases hj:j<N
  ·have hk:N - j=(N - (j+1))+1:=by omega
   cases s with
   | inl x=>
    obtain ⟨rfl,hx⟩:=hr;have he:(e==(0:Int))=false:=by simp [hx]
    simp only [hj,decide_true,cond_true,he,cond_false];exact ⟨e,p,rfl,rfl,hx⟩
   | inr q=>
    obtain ⟨rfl,rfl⟩:=hr;have hp:okA p:=hs;simp only [hj,decide_true,cond_true,zbjU hp hb,zN (show j<4611686018427387904 by omega),show ((0:Int)==0)=true from rfl]
    rw [hk];exact zbk9 a i _ hi (by assumption) out b hb N hN hN' n (j+1) (zu2 p b).2 (zu2 p b).1 (opS (zu2 p b)) (by omega) (by omega) (zRZ (zN8 hp hb)) (zbld _)
  ·have hk:N - j=0:=by omega
   simp only [hj,decide_false,cond_false];rw [hk,zbd2];exact ⟨e,p,rfl,hr⟩
theorem zbn1 (a:yC) (hal:a.length<=1000000) (i:Nat) (hi:i<a.length) (hl:(a.getD i default).Fs.length<=1000000) (hg:AG g l (a.getD i default).Fs) (out:yC):
  ∀ (n k:Nat) (p:yC),(a.getD i default).Fs.length<k+n->k<=(a.getD i default).Fs.length->okA p->zBh g n a l out i p k=(true,match zdn (toA l) ((a.getD i default).Fs.drop k) p with
   | .inl e=>.inl e
   | .inr q=>.inr (a,l,out,(i:Int),q))
 | 0,k,p,h1,h2,_=>by omega
 | n+1,k,p,h1,h2,hp=>by
  show (zBN g a l out i p k).ev (λx y=>zBh g n x.1 x.2.1 x.2.2.1 x.2.2.2.1 x.2.2.2.2.1 x.2.2.2.2.2.1) (λr=>(true,r)) (false,.inl default)=_
  unfold zBN;by_cases hk:k<(a.getD i default).Fs.length
  ·obtain ⟨⟨hf,hG⟩,e0,e1⟩:=hg _ (zr hk);obtain ⟨N,hN⟩:∃ N:Nat,((a.getD i default).Fs.getD k default).Exp=(N:Int):=⟨_,(Int.toNat_of_nonneg e0).symm⟩;have hsz:=Nat.le_trans (zbeK _ k hk) (zbfw a i hi);rw [hN,Int.toNat_natCast] at hsz
   obtain ⟨e',p',h11,hrs⟩:=zbk9 g l a i k hi hk out (ofS (zel (toA l) ((a.getD i default).Fs.getD k default).At)).1 (zbi7 hG) N hN (by omega)
    ((a.length+l.length+out.length+(i:Int).toNat +p.length+(k:Int).toNat +(ofS (zel (toA l) ((a.getD i default).Fs.getD k default).At)).1.length+(ofS (zel (toA l) ((a.getD i default).Fs.getD k default).At)).2.toNat +Int.toNat (0:Int)+(1:Nat))+zbV a+zbV out+zbV p+zbV (ofS (zel (toA l) ((a.getD i default).Fs.getD k default).At)).1) 0 _ p _ (by omega) (by omega) (zbdX hG hp) (zbeu hG p)
   rw [zbbO,Nat.sub_zero] at hrs;rw [show ((0:Nat):Int)=(0:Int) from rfl] at h11
   rw [zbx hk,zIE,hN,Int.toNat_natCast];simp only [Wy.ev_i,Wy.ev_k,Wy.ev_h,Wy.ev_bn,Wy.ev_d,tT,hi,hk,At.eta,hf,zAg];simp only [Int.toNat_natCast] at h11;rw [h11];have hS:=hG;revert hrs hS;cases zel (toA l) ((a.getD i default).Fs.getD k default).At with
   | inl x=>
    rintro ⟨rfl,hx⟩ _
    simp [hx,zE6]
   | inr b=>
    intro hrs hb;simp only [zci] at hrs ⊢;have hq:=z7y (b:=b) hb N p hp;revert hrs hq;cases zBm b N p with
    | inl x=>
     rintro ⟨rfl,hx⟩ _
     simp [hx,zE6]
    | inr q=>
     rintro ⟨rfl,rfl⟩ hq
     simp only [zci,decide_true,Bool.not_true,cond_true,cond_false,zN (show k<4611686018427387904 by omega)]
     exact zbn1 a hal i hi hl hg out n (k+1) p' (by omega) (by omega) hq
  ·simp only [Wy.ev_i,Wy.ev_k,Wy.ev_h,Wy.ev_bn,Wy.ev_d,tT,hi,hk];rw [zcO hk,zLM]
theorem zbny (a:yC) (hal:a.length<=1000000) (hg:∀ t∈a,t.Fs.length<=1000000/\AG g l t.Fs) (hok:∀ t∈a,∀ p,okA p->GS (zdn (toA l) t.Fs p)):
  ∀ (n i:Nat) (s:yC),a.length<i+n->i<=a.length->okA s->zBO g n a l s i=(true,zck (toA l) (a.drop i) s)
 | 0,i,s,h1,h2,_=>by omega
 | n+1,i,s,h1,h2,hs=>by
  show (zB0 g a l s i).ev (λx y=>zBO g n x.1 x.2.1 x.2.2.1 x.2.2.2.1) (λr=>(true,r)) (false,.inl default)=_
  unfold zB0;by_cases hi:i<a.length
  ·have ht:=hg _ (zr hi);have hc:=zbdJ (a.getD i default).Cf;have hsz:=szTs_get' a i hi;have h7:=zbn1 g l a hal i hi ht.1 ht.2 s ((a.length+l.length+s.length+(i:Int).toNat +(zuZ (a.getD i default).Cf).length+Int.toNat (0:Int)+(1:Nat))+zbV a+zbV s+zbV (zuZ (a.getD i default).Cf)) 0 (zuZ (a.getD i default).Cf) (by omega) (by omega) hc
   rw [show ((0:Nat):Int)=(0:Int) from rfl,List.drop_zero] at h7
   simp only [Int.toNat_natCast] at h7;rw [zbx hi,zV9];simp only [Wy.ev_i,Wy.ev_k,Wy.ev_h,Wy.ev_bn,Wy.ev_d,tT,hi,zbig _];rw [h7];have hS:=hok _ (zr hi) _ hc;revert hS;cases zdn (toA l) (a.getD i default).Fs (zuZ (a.getD i default).Cf) with
   | inl e=>intro _; rfl
   | inr p=>
    intro hp;have hp:okA p:=hp;simp only [zci,isL,getR,cond_true,cond_false,zbks hs hp,zAg];have hG:=zN5 hs hp;unfold opS;by_cases he:(zxm s p).2=0
    ·rw [if_pos he,decide_eq_true he,zci,zN (show i<4611686018427387904 by omega)]
     exact zbny a hal hg hok n (i+1) _ (by omega) (by omega) hG.1
    ·rw [if_neg he,decide_eq_false he]; rfl
  ·simp only [Wy.ev_i,Wy.ev_k,Wy.ev_h,Wy.ev_bn,Wy.ev_d,tT,hi];rw [zcO hi,z0E]
theorem zboG (a:yC) (hal:a.length<=1000000) (hg:∀ t∈a,t.Fs.length<=1000000/\AG g l t.Fs) (hok:∀ t∈a,∀ p,okA p->GS (zdn (toA l) t.Fs p)):zud g a l=(true,ofS (zck (toA l) a [])):=by
 unfold zud zMH;have h3:=zbny g l a hal hg hok ((a.length+l.length+(0:Nat)+Int.toNat (0:Int)+(1:Nat))+zbV a+zbV []) 0 [] (by omega) (by omega) zhB
 rw [show ((0:Nat):Int)=(0:Int) from rfl,List.drop_zero] at h3
 rw [Wy.fin_bn,h3];cases zck (toA l) a [] <;>rfl
end
section
variable (g:yC->yG->Bool×(yC×Int)) (l:yG)
theorem zbnY (x:At) (hl:x.Ag.length<=1000000) (hg:∀ a∈x.Ag,g a l=(true,ofS (zck (toA l) a []))/\GS (zck (toA l) a [])):
  ∀ (n i:Nat) (xs:yA),x.Ag.length<i+n->i<=x.Ag.length->xs.length<=i->zGp g n l i x xs=(true,match zjd (toA l) (x.Ag.drop i) with
   | .inl e=>.inl e
   | .inr ys=>.inr (l,x,xs++ys))
 | 0,i,xs,h1,h2,_=>by omega
 | n+1,i,xs,h1,h2,hx=>by
  have hreach:zG=70368744177664:=rfl;show (zGC g l i x xs).ev (λx y=>zGp g n x.1 x.2.2.2.1 y.1 y.2.1) (λr=>(true,r)) (false,.inl default)=_
  unfold zGC;by_cases hi:i<x.Ag.length
  ·obtain ⟨hf,hG⟩:=hg _ (zr hi);have hb:decide ((xs.length+1)*24<=zG)=true:=by simp only [qe]; omega
   rw [zbx hi,zzW];simp only [Wy.ev_i,Wy.ev_k,Wy.ev_h,Wy.ev_bn,Wy.ev_d,tT,hi,hf,zAg,List.length_singleton,hb];revert hG;cases zck (toA l) (x.Ag.getD i default) [] with
   | inl e=>intro he; simp [ofS,show e≠0 from he,zE6]
   | inr b=>
    intro _;simp only [ofS,decide_true,Bool.not_true,cond_false,zci,zN (show i<4611686018427387904 by omega)]
    rw [zbnY x hl hg n (i+1) (xs++[b]) (by omega) (by omega) (by simp; omega)]
    cases zjd (toA l) (x.Ag.drop (i+1)) with
    | inl e=>rfl
    | inr ys=>simp [zci]
  ·simp only [Wy.ev_i,Wy.ev_k,Wy.ev_h,Wy.ev_bn,Wy.ev_d,tT,hi];rw [zcO hi,zCs]; simp
theorem zbls (x:At) (as_:yA) (hl:x.Items.length<=1000000) (hg:∀ w∈x.Items,g w.Ann l=(true,ofS (zck (toA l) w.Ann []))/\GS (zck (toA l) w.Ann [])):
  ∀ (n i:Nat) (xs:yE),x.Items.length<i+n->i<=x.Items.length->xs.length<=i->zEE g n l i x as_ xs=(true,match zfI (toA l) (x.Items.drop i) with
   | .inl e=>.inl e
   | .inr ys=>.inr (x,as_,xs++ys))
 | 0,i,xs,h1,h2,_=>by omega
 | n+1,i,xs,h1,h2,hx=>by
  have hreach:zG=70368744177664:=rfl;show (zEU g l i x as_ xs).ev (λx y=>zEE g n x.1 x.2.2.2.2.1 y.1 y.2.1 y.2.2.1) (λr=>(true,r)) (false,.inl default)=_
  unfold zEU;by_cases hi:i<x.Items.length
  ·obtain ⟨hf,hG⟩:=hg _ (zr hi);have hb:decide ((xs.length+1)*56<=zG)=true:=by simp only [qe]; omega
   rw [zbx hi,zP8];simp only [Wy.ev_i,Wy.ev_k,Wy.ev_h,Wy.ev_bn,Wy.ev_d,tT,hi,hf,zAg,List.length_singleton,hb];revert hG;cases zck (toA l) (x.Items.getD i default).Ann [] with
   | inl e=>intro he; simp [ofS,show e≠0 from he,zE6]
   | inr b=>
    intro _;simp only [ofS,decide_true,Bool.not_true,cond_false,zci,zN (show i<4611686018427387904 by omega)]
    rw [zbls x as_ hl hg n (i+1) (xs++[WO.mk (x.Items.getD i default).Value b]) (by omega) (by omega) (by simp; omega)]
    cases zfI (toA l) (x.Items.drop (i+1)) with
    | inl e=>rfl
    | inr ys=>simp [zci]
  ·simp only [Wy.ev_i,Wy.ev_k,Wy.ev_h,Wy.ev_bn,Wy.ev_d,tT,hi];rw [zcO hi,zJL]; simp
theorem zbk1 {x:At} (h:zoO x=true) (hk:x.Kind=1\/x.Kind=2\/x.Kind=3):x.Items=[]:=by
 cases zXQ.1 h <;>simp_all
theorem zbmo (hto:okB l) (x:At) (h:XG g l x):zBP g x l=(true,ofS (zel (toA l) x)):=by
 unfold zBP zU2;have h8:=zbnY g l x h.lens.1 h.ga (l.length+Int.toNat (0:Int)+x.Ag.length+x.Items.length+(0:Nat)+(1:Nat)) 0 [] (by omega) (by omega) (by simp)
 rw [show ((0:Nat):Int)=(0:Int) from rfl,List.drop_zero] at h8
 have h16:=λxs:yA=>zbls g l x xs (by have:=h.lens.2; omega) h.gi (l.length+Int.toNat (0:Int)+x.Ag.length+x.Items.length+xs.length+(0:Nat)+(1:Nat)) 0 [] (by omega) (by omega) (by simp)
 simp only [show ((0:Nat):Int)=(0:Int) from rfl,List.drop_zero,List.nil_append] at h16
 have b0:=zhe x.Kind 0;have b1:=zhe x.Kind 1;have b2:=zhe x.Kind 2;have b3:=zhe x.Kind 3;rw [At.eta,z2i];simp only [Wy.fin_i,Wy.fin_bn,Wy.fin_k,cond_true,h8,List.nil_append];by_cases hk0:x.Kind=0
 ·rw [b0,decide_eq_true hk0,if_pos hk0];obtain ⟨b,q,h1,h2⟩:=zbkw hto x.Row;simp only [cond_true,h1];rcases h2 with ⟨rfl,rfl⟩ | ⟨rfl,h2⟩
  ·rfl
  ·rw [h2]; simp only [cond_false,(zbjj x.Row).2]; rfl
 ·rw [b0,decide_eq_false hk0,if_neg hk0,cond_false];have hA:=h.sa;have hlen:=zbbZ h.va;revert hA;cases zjd (toA l) x.Ag with
  | inl e=>intro _; rfl
  | inr xs=>
   intro hxs;have hxl:xs.length=x.Ag.length/\∀ a∈xs,okA a:=hxs;have o0:=zJB hxl.2 0;have o1:=zJB hxl.2 1;simp only [isL,getR,cond_false,zci,At.eta,h16];by_cases hk:x.Kind=1\/x.Kind=2\/x.Kind=3
   ·rw [zbk1 h.va hk,zJL];simp only [cond_true,cond_false,isL,getR];rcases hk with hk1 | hk2 | hk3
    ·have:=hlen.1 hk1;rw [b1,decide_eq_true hk1,if_pos hk1];simp only [cond_true,show Int.toNat (0:Int)=0 from rfl,show Int.toNat (1:Int)=1 from rfl,zbhS o0 o1,zFs (zba5 o0 o1).2]
     simp [hxl.1,this]
    ·have:=hlen.2 (.inl hk2);have n1:¬ x.Kind=1:=by omega
     rw [b1,decide_eq_false n1,if_neg n1,cond_false,b2,decide_eq_true hk2,if_pos hk2];simp only [cond_true,show Int.toNat (0:Int)=0 from rfl,zbhu o0,zFs (zbbu o0).2]
     simp [hxl.1,this]
    ·have:=hlen.2 (.inr hk3);have n1:¬ x.Kind=1:=by omega
     have n2:¬ x.Kind=2:=by omega
     rw [b1,decide_eq_false n1,if_neg n1,cond_false,b2,decide_eq_false n2,if_neg n2,cond_false,b3,decide_eq_true hk3,if_pos hk3];simp only [cond_true,show Int.toNat (0:Int)=0 from rfl,zbfP o0,zFs (z95 o0).2]
     simp [hxl.1,this]
   ·have n1:¬ x.Kind=1:=λe=>hk (.inl e)
    have n2:¬ x.Kind=2:=λe=>hk (.inr (.inl e))
    have n3:¬ x.Kind=3:=λe=>hk (.inr (.inr e))
    rw [if_neg n1,if_neg n2,if_neg n3];have hI:=h.si;revert hI;cases zfI (toA l) x.Items with
    | inl e=>intro _; rfl
    | inr is=>
     intro his;have ht:=zbkz (f:=x.Func) (o:=x.Op) (b:=x.Bd) (by have:=h.lens.2; omega) his
     simp only [cond_true,cond_false,isL,getR,b1,b2,b3,decide_eq_false n1,decide_eq_false n2,decide_eq_false n3,ht,zci];have hw:=znt h.wf;have hl:is.length=x.Items.length/\∀ w∈is,okA w.Ann/\∃ v∈x.Items,v.Value=w.Value:=his
     rw [zFs (z2z (by have:=h.lens.2; omega) (λw hw'=>⟨(hl.2 w hw').1,by
      obtain ⟨v,hv,e⟩:=(hl.2 w hw').2;rw [<- e]; exact (zfX hw.2.1.1 v hv).1⟩) hw.2.2.2.2.2.1 hw.2.2.2.2.2.2 hw.2.2.1).2]
end
theorem z4U:∀ {l:yA} {a:yC},a∈l->zez a<=zq8 l
 | [],_,h=>by cases h
 | x::r,a,h=>by
  rw [z0D];rcases qd.1 h with rfl | h
  ·omega
  ·have:=z4U h; omega
theorem z1A:∀ {l:yE} {w:Wd},w∈l->zez w.Ann<=zlV l
 | [],_,h=>by cases h
 | x::r,a,h=>by
  rw [zMs];rcases qd.1 h with rfl | h
  ·omega
  ·have:=z1A h; omega
theorem zUY:∀ {l:yD} {f:Fc},f∈l->zJk f.At<=zhr l
 | [],_,h=>by cases h
 | x::r,a,h=>by
  rw [zRF];rcases qd.1 h with rfl | h
  ·omega
  ·have:=zUY h; omega
theorem z7J:∀ {l:yC} {t:Term},t∈l->zhr t.Fs<=zez l
 | [],_,h=>by cases h
 | x::r,a,h=>by
  rw [zTA];rcases qd.1 h with rfl | h
  ·omega
  ·have:=z7J h; omega
theorem zZ8:∀ {l:yE},(∀ w∈l,w.Ann≠[])->l.length<=zlV l
 | [],_=>by simp
 | x::r,h=>by
  rw [zMs];have:=zZ8 (l:=r) λw hw=>h w (by simp [hw])
  have h1:1<=zez x.Ann:=by
   have:=h x (by simp)
   cases hx:x.Ann with
   | nil=>exact absurd hx this
   | cons t r=>rw [zTA]; omega
  simp only [qf];omega
mutual
def zzh:At->Prop
 | ⟨_,_,a,_,i,_,_⟩=>i.length<20/\zVi a/\zN7 i
def zE2:yD->Prop
 | []=>True
 | ⟨x,_⟩::r=>zzh x/\zE2 r
def zbt:yC->Prop
 | []=>True
 | ⟨_,fs⟩::r=>zE2 fs/\zbt r
def zVi:yA->Prop
 | []=>True
 | a::r=>zbt a/\zVi r
def zN7:yE->Prop
 | []=>True
 | ⟨_,a⟩::r=>zbt a/\zN7 r
end
theorem zCt (x:At):zzh x↔x.Items.length<20/\zVi x.Ag/\zN7 x.Items:=by cases x; rw [zzh]
theorem ztL:∀ {l:yD},zE2 l↔∀ f∈l,zzh f.At
 | []=>by rw [zE2]; simp
 | ⟨x,e⟩::r=>by rw [zE2,ztL (l:=r)]; simp
theorem zFI:∀ {l:yC},zbt l↔∀ t∈l,zE2 t.Fs
 | []=>by rw [zbt]; simp
 | ⟨x,e⟩::r=>by rw [zbt,zFI (l:=r)]; simp
theorem zyM:∀ {l:yA},zVi l↔∀ a∈l,zbt a
 | []=>by rw [zVi]; simp
 | a::r=>by rw [zVi,zyM (l:=r)]; simp
theorem zvb:∀ {l:yE},zN7 l↔∀ w∈l,zbt w.Ann
 | []=>by rw [zN7]; simp
 | ⟨x,e⟩::r=>by rw [zN7,zvb (l:=r)]; simp
theorem z2o {m:Nat} {a:yC} (h:zbJ (m+1) a=true):zfB a=true/\∀ t∈a,t.Fs.length<=64/\∀ f∈t.Fs,(1<=f.Exp/\f.Exp<=64)/\f.At.Items.length<=1024/\zd8 (zbJ m) f.At=true:=by
 have hw:=zKw h;refine ⟨hw,λt ht=> ?_⟩
 obtain ⟨l1,l2⟩:=(zuc hw).2.2.2 t ht;refine ⟨l1,λf hf=> ?_⟩
 obtain ⟨⟨e1,_⟩,hv⟩:=zqg (zxN h ht).2 hf;exact ⟨⟨e1,(l2 f hf).1⟩,(l2 f hf).2,hv⟩
theorem z5a:∀ (m:Nat) (a:yC),zbJ m a=true->zbJ (m+1) a=true
 | 0,_,h=>by cases h
 | m+1,a,h=>by
  have h':zAb (zd8 (zbJ m)) a=true:=h;obtain ⟨h1,h2,h3⟩:=zXu.1 h';refine (zXu (vat:=zd8 (zbJ (m+1)))).2 ⟨h1,h2,λt ht=>⟨(h3 t ht).1,(h3 t ht).2.1,λf hf=>⟨((h3 t ht).2.2 f hf).1, ?_⟩⟩⟩
  exact zdD.2 ((zdD.1 ((h3 t ht).2.2 f hf).2).imp (z5a m))
theorem zCh:∀ {m:Nat} {a:yC},zbJ m a=true->zF a=true:=by
 intro m a h
 have key:∀ k,zbJ (m+k) a=true:=λk=>by
  induction k with
  | zero=>exact h
  | succ k ih=>exact z5a _ _ ih
 exact zbeD (key 9) (by omega)
theorem zbfz {m:Nat} {x:At} (h:zd8 (zbJ m) x=true) (hm:m<=99):zoO x=true:=by
 refine zXQ.2 ((zdD.1 h).imp λa ha=> ?_)
 exact zCh ha
theorem zTM {V:yC->Bool} {x:At} (h:zd8 V x=true):(∀ a∈x.Ag,V a=true)/\∀ w∈x.Items,V w.Ann=true/\w.Ann≠[]:=by
 constructor
 ·cases zdD.1 h <;>simp_all
 ·cases zdD.1 h <;>simp_all
theorem z5Z:∀ (m:Nat) (a:yC),zbJ m a=true->zez a<=38->zbt a
 | 0,_,h,_=>by cases h
 | m+1,a,h,hs=>by
  obtain ⟨_,w2⟩:=z2o h;refine zFI.2 λt ht=>ztL.2 λf hf=>(zCt _).2 ?_
  have hv:=((w2 t ht).2 f hf).2.2;have h1:=zUY hf;have h2:=z7J ht;have h3:=z8s f.At;obtain ⟨hargs,hitems⟩:=zTM hv;refine ⟨by have:=zZ8 λw hw=>(hitems w hw).2; omega,zyM.2 λb hb=>z5Z m b (hargs b hb) (by have:=z4U hb; omega),zvb.2 λw hw=>z5Z m w.Ann (hitems w hw).1 (by have:=z1A hw; omega)⟩
theorem z91 {l:yG} (hl:okB l):∀ n,
  (∀ m a,zbJ m a=true->m<=99->zgo a->zbt a->2*m<=n->zlr n a l=(true,ofS (zck (toA l) a []))/\GS (zck (toA l) a []))/\
  (∀ m x,zd8 (zbJ m) x=true->m<=99->zf9 x->x.Items.length<=1024->zzh x->2*m+1<=n->zhT n x l=(true,ofS (zel (toA l) x))/\GS (zel (toA l) x))
 | 0=>by
  refine ⟨λm a h _ _ _ hm=> ?_,λm x _ _ _ _ _ hm=>by omega⟩
  have:m=0:=by omega
  subst this; cases h
 | n+1=>by
  obtain ⟨h1,h2⟩:=z91 hl n;have ht:okT (toA l):=zbe5 hl.2;refine ⟨λm a h h99 hw hs hm=> ?_,λm x h h99 hw hi hs hm=> ?_⟩
  ·cases m with
   | zero=>cases h
   | succ m=>
    obtain ⟨w1,w2⟩:=z2o h;obtain ⟨a1,a2,a3,a4⟩:=zuc w1;have hwt:=λt (ht:t∈a)=>zux (zqr hw t ht)
    have hwf:=λt (ht:t∈a) f (hf:f∈t.Fs)=>(znM (zl7 (hwt t ht).2.1 f hf)).1
    have hA:∀ t∈a,∀ f∈t.Fs,(zhT n f.At l=(true,ofS (zel (toA l) f.At))/\GS (zel (toA l) f.At)):=λt ht f hf=>
     h2 m f.At ((w2 t ht).2 f hf).2.2 (by omega) (hwf t ht f hf) ((w2 t ht).2 f hf).2.1 (ztL.1 (zFI.1 hs t ht) f hf) (by omega)
    have hE:=λt (ht:t∈a) f (hf:f∈t.Fs)=>((w2 t ht).2 f hf).1
    have hok:∀ t∈a,∀ p,okA p->GS (zdn (toA l) t.Fs p):=λt ht' p hp=>zHw ht t.Fs 9 (λf hf=>⟨hwf t ht' f hf,znu ((w2 t ht').2 f hf).2.2 ((w2 t ht').2 f hf).2.1⟩) p hp
    have hG:GS (zck (toA l) a []):=zOe ht a 9 hw (λt ht f hf=>znu ((w2 t ht).2 f hf).2.2 ((w2 t ht).2 f hf).2.1) [] zhB
    refine ⟨?_,hG⟩
    ·rw [zQ4];exact zboR _ l a (by omega) (λt ht=>⟨by have:=(w2 t ht).1; omega,λf hf=>⟨⟨(hA t ht f hf).1,(hA t ht f hf).2⟩,by have:=(hE t ht f hf).1; omega,by have:=(hE t ht f hf).2; omega⟩⟩) hok
  ·have hf:=znu h hi;have hw':=znt hw;have hv:=zbfz h h99;obtain ⟨h20,s1,s2⟩:=(zCt x).1 hs;obtain ⟨hargs,hitems⟩:=zTM h;have ga:=λa (ha:a∈x.Ag)=>h1 m a (hargs a ha) h99 (zhv hw'.1.1 a ha).1 (zyM.1 s1 a ha) (by omega)
   have gi:=λw (hw:w∈x.Items)=>h1 m w.Ann (hitems w hw).1 h99 (zfX hw'.2.1.1 w hw).2.1 (zvb.1 s2 w hw) (by omega)
   have sa:=zRt ht x.Ag 9 (λa ha=>(zhv hw'.1.1 a ha).1) hf.2.1
   have si:=zNR ht x.Items 9 (λw hw=>(zfX hw'.2.1.1 w hw).2.1) λw hw=>(hf.2.2 w hw).2
   refine ⟨?_,z0W ht x 9 hw hf⟩
   ·rw [zLm];exact zbmj _ l hl x ⟨hv,⟨hf.1.1,h20⟩,λa ha=>⟨(ga a ha).1,(ga a ha).2⟩,λw hw=>⟨(gi w hw).1,(gi w hw).2⟩,sa,si,hw⟩
theorem zbe6 {l:yG} (hl:okB l):∀ n,
  (∀ m a,zbJ m a=true->m<=99->zgo a->zbt a->2*m<=n->zur n a l=(true,ofS (zck (toA l) a []))/\GS (zck (toA l) a []))/\
  (∀ m x,zd8 (zbJ m) x=true->m<=99->zf9 x->x.Items.length<=1024->zzh x->2*m+1<=n->zCb n x l=(true,ofS (zel (toA l) x))/\GS (zel (toA l) x))
 | 0=>by
  refine ⟨λm a h _ _ _ hm=> ?_,λm x _ _ _ _ _ hm=>by omega⟩
  have:m=0:=by omega
  subst this; cases h
 | n+1=>by
  obtain ⟨h1,h2⟩:=zbe6 hl n;have ht:okT (toA l):=zbe5 hl.2;refine ⟨λm a h h99 hw hs hm=> ?_,λm x h h99 hw hi hs hm=> ?_⟩
  ·cases m with
   | zero=>cases h
   | succ m=>
    obtain ⟨w1,w2⟩:=z2o h;obtain ⟨a1,a2,a3,a4⟩:=zuc w1;have hwt:=λt (ht:t∈a)=>zux (zqr hw t ht)
    have hwf:=λt (ht:t∈a) f (hf:f∈t.Fs)=>(znM (zl7 (hwt t ht).2.1 f hf)).1
    have hA:∀ t∈a,∀ f∈t.Fs,(zCb n f.At l=(true,ofS (zel (toA l) f.At))/\GS (zel (toA l) f.At)):=λt ht f hf=>
     h2 m f.At ((w2 t ht).2 f hf).2.2 (by omega) (hwf t ht f hf) ((w2 t ht).2 f hf).2.1 (ztL.1 (zFI.1 hs t ht) f hf) (by omega)
    have hE:=λt (ht:t∈a) f (hf:f∈t.Fs)=>((w2 t ht).2 f hf).1
    have hok:∀ t∈a,∀ p,okA p->GS (zdn (toA l) t.Fs p):=λt ht' p hp=>zHw ht t.Fs 9 (λf hf=>⟨hwf t ht' f hf,znu ((w2 t ht').2 f hf).2.2 ((w2 t ht').2 f hf).2.1⟩) p hp
    have hG:GS (zck (toA l) a []):=zOe ht a 9 hw (λt ht f hf=>znu ((w2 t ht).2 f hf).2.2 ((w2 t ht).2 f hf).2.1) [] zhB
    refine ⟨?_,hG⟩
    ·rw [z0s];exact zboG _ l a (by omega) (λt ht=>⟨by have:=(w2 t ht).1; omega,λf hf=>⟨⟨(hA t ht f hf).1,(hA t ht f hf).2⟩,by have:=(hE t ht f hf).1; omega,by have:=(hE t ht f hf).2; omega⟩⟩) hok
  ·have hf:=znu h hi;have hw':=znt hw;have hv:=zbfz h h99;obtain ⟨h20,s1,s2⟩:=(zCt x).1 hs;obtain ⟨hargs,hitems⟩:=zTM h;have ga:=λa (ha:a∈x.Ag)=>h1 m a (hargs a ha) h99 (zhv hw'.1.1 a ha).1 (zyM.1 s1 a ha) (by omega)
   have gi:=λw (hw:w∈x.Items)=>h1 m w.Ann (hitems w hw).1 h99 (zfX hw'.2.1.1 w hw).2.1 (zvb.1 s2 w hw) (by omega)
   have sa:=zRt ht x.Ag 9 (λa ha=>(zhv hw'.1.1 a ha).1) hf.2.1
   have si:=zNR ht x.Items 9 (λw hw=>(zfX hw'.2.1.1 w hw).2.1) λw hw=>(hf.2.2 w hw).2
   refine ⟨?_,z0W ht x 9 hw hf⟩
   ·rw [z8M];exact zbmo _ l hl x ⟨hv,⟨hf.1.1,h20⟩,λa ha=>⟨(ga a ha).1,(ga a ha).2⟩,λw hw=>⟨(gi w hw).1,(gi w hw).2⟩,sa,si,hw⟩
def zboC (a b:yC):yC:=if b=[] then a else if a=[]\/a=b then [] else zcu (zbii a b)
def zboO (a:yC):yC:=if a=[]\/isU a=true then a else if isC a=true then [⟨1,[]⟩] else zcu (z1y a)
def zboL (a:yC):yC:=if a=[] then [⟨1,[]⟩] else if zu5 a=true then [] else zcu (zbh1 a)
def zboP (f:Int) (l:yE) (o:Int) (b:Value):yC:=
 if 0<(zeb l).length then zcu (zTn f (zeb l) o b) else if (f==0&&zSG o (zd3 0 b.Int))=true then [⟨1,[]⟩] else []
def IdP (a:yC):Prop:=a=[]\/a=[⟨1,[]⟩]\/∃ x:At,(x.Kind=3\/x.Kind=4)/\a=zcu x
def zbm1 (b:yC):Nat->yC
 | 0=>[⟨1,[]⟩]
 | n+1=>zlH b (zbm1 b n)
section
variable (σ:At->yC)
def SG (x:At):Prop:=PA (σ x)/\(x.Kind=3\/x.Kind=4->IdP (σ x))
variable {σ}
def EA (σ:At->yC) (a:yC):Prop:=PA a/\∀ t∈a,∀ f∈t.Fs,SG σ f.At
theorem EA.p {a:yC} (h:EA σ a):∀ t∈a,cOK t/\∀ f∈t.Fs,SG σ f.At:=λt ht=>⟨h.1.c t ht,h.2 t ht⟩
theorem EA.sum {a b:yC} (ha:EA σ a) (hb:EA σ b):EA σ (zdS a b):=⟨zbnF ha.1 hb.1,λt ht f hf=>by
 obtain ⟨x,hx,e⟩:=zIU b a ha.1.1 ht;rw [e] at hf;rcases hx with hx | hx
 ·exact ha.2 x hx f hf
 ·exact hb.2 x hx f hf⟩
theorem EA.prod {a b:yC} (ha:EA σ a) (hb:EA σ b):EA σ (zlH a b):=⟨zbmp ha.1 hb.1,λt ht f hf=>by
 obtain ⟨x,hx,e⟩:=zIU (zey a b) [] List.Pairwise.nil ht;rw [e] at hf;rcases hx with hx | hx
 ·cases hx
 ·obtain ⟨u,hu,v,hv,rfl⟩:=zKE hx;obtain ⟨y,hy,e⟩:=zrJ hf;rw [e];rcases hy with hy | hy
  ·exact ha.2 u hu y hy
  ·exact hb.2 v hv y hy⟩
end
mutual
def zbnr (to:RowID->yC):At->yC
 | ⟨k,r,a,f,i,o,b⟩=>if k=0 then to r else if k=1 then zboC ((z0t to a).getD 0 default) ((z0t to a).getD 1 default) else if k=2 then zboO ((z0t to a).getD 0 default)
  else if k=3 then zboL ((z0t to a).getD 0 default) else zboP f (zbgQ to i) o b
def zbiz (to:RowID->yC):yD->yC
 | []=>[⟨1,[]⟩]
 | ⟨x,e⟩::r=>zlH (zbm1 (zbnr to x) e.toNat) (zbiz to r)
def zbhE (to:RowID->yC):yC->yC->yC
 | [],s=>s
 | ⟨c,fs⟩::r,s=>zbhE to r (zdS s (zlH [⟨c,[]⟩] (zbiz to fs)))
def z0t (to:RowID->yC):yA->yA
 | []=>[]
 | a::r=>zbhE to a []::z0t to r
def zbgQ (to:RowID->yC):yE->yE
 | []=>[]
 | ⟨v,a⟩::r=>⟨v,zbhE to a []⟩::zbgQ to r
end
section
variable (to:RowID->yC)
variable {to} (hto:∀ r,PA (to r))
include hto
omit hto in
theorem zblS {c:Int} (h:1<=c/\c<=1152921504606846976):zuZ c=[⟨c,[]⟩]:=by
 unfold zuZ; rw [if_neg (by omega),if_neg (by omega)]
end
theorem zuS {a:yC}:zfB a=true↔a.length<=512/\zbh a<=8/\zK a<=4096/\∀ t∈a,t.Fs.length<=64/\∀ f∈t.Fs,f.Exp<=64/\f.At.Items.length<=1024:=by
 refine ⟨zuc,λ⟨h1,h2,h3,h4⟩=> ?_⟩
 unfold zfB;simp only [qc,qe];refine ⟨⟨⟨h1,h2⟩,h3⟩,List.all_eq_true.2 λt ht=> ?_⟩
 obtain ⟨h5,h6⟩:=h4 t ht;unfold zEp;rw [Bool.not_eq_true',Bool.or_eq_false_iff];refine ⟨by simp; omega, ?_⟩
 rw [List.any_eq_false];intro f hf;obtain ⟨h7,h8⟩:=h6 f hf;simp;exact ⟨h7,h8⟩
theorem z7U:∀ a b:yC,zK (a++b)=zK a+zK b
 | [],b=>by rw [zqd]; simp
 | t::r,b=>by rw [List.cons_append,zcp,zcp,z7U r b]; omega
theorem z9c:∀ a b:yC,zbh (a++b)=max (zbh a) (zbh b)
 | [],b=>by rw [zCL]; simp
 | t::r,b=>by rw [List.cons_append,zex,zex,z9c r b]; omega
theorem zJO:∀ a b:yD,zby (a++b)=zby a+zby b
 | [],b=>by rw [ziK]; simp
 | t::r,b=>by rw [List.cons_append,zcC,zcC,zJO r b]; omega
theorem zJM:∀ a b:yD,zcF (a++b)=max (zcF a) (zcF b)
 | [],b=>by rw [zq0]; simp
 | t::r,b=>by rw [List.cons_append,zf0,zf0,zJM r b]; omega
structure FB (l:yD):Prop where
 len:l.length<=64
 nes:zcF l<=8
 siz:1+l.length+zby l<=4096
 fs:∀ f∈l,f.Exp<=64/\f.At.Items.length<=1024
theorem FB.wi {l:yD} (h:FB l) (c:Int):zfB [⟨c,l⟩]=true:=zuS.2 ⟨by simp,by rw [zex,zCL]; have:=h.nes; simp only; omega,by rw [zcp,zqd]; have:=h.siz; simp only; omega,λt ht=>by
 rw [qh] at ht; subst ht; exact ⟨h.len,h.fs⟩⟩
theorem FB.of {a:yC} (h:zfB a=true) {t:Term} (ht:t∈a):FB t.Fs:=by
 obtain ⟨h1,h2,h3,h4⟩:=zuS.1 h;obtain ⟨h5,h6⟩:=h4 t ht;refine ⟨h5,Nat.le_trans (z7T ht) h2, ?_,h6⟩
 have key:∀ {a:yC},t∈a->1+t.Fs.length+zby t.Fs<=zK a:=by
  intro a;induction a with
  | nil=>intro h; cases h
  | cons u r ih=>
   intro h;rw [zcp];rcases qd.1 h with rfl | h
   ·omega
   ·have:=ih h; omega
 have:=key ht;omega
theorem FB.app {a b:yD} (h:FB (a++b)):FB a/\FB b:=by
 obtain ⟨h1,h2,h3,h4⟩:=h;rw [qg] at h1 h3;rw [zJM] at h2;rw [zJO] at h3;exact ⟨⟨by omega,by omega,by omega,λf hf=>h4 f (by simp [hf])⟩,⟨by omega,by omega,by omega,λf hf=>h4 f (by simp [hf])⟩⟩
theorem FB.exp {P:yD} {x:At} {e j:Int} (h:FB (P++[⟨x,e⟩])) (hj:j<=64):FB (P++[⟨x,j⟩]):=by
 obtain ⟨h1,h2,h3,h4⟩:=h;rw [qg] at h1 h3;rw [zJM,zf0,zq0] at h2;rw [zJO,zcC,ziK] at h3;refine ⟨by rw [qg]; exact h1,by rw [zJM,zf0,zq0]; exact h2,by rw [qg,zJO,zcC,ziK]; exact h3,λf hf=> ?_⟩
 rcases List.mem_append.1 hf with hf | hf
 ·exact h4 f (by simp [hf])
 ·rw [qh] at hf; subst hf;exact ⟨hj,(h4 ⟨x,e⟩ (by simp)).2⟩
theorem OKF.app {a b:yD} (h:OKF zoO (a++b)):OKF zoO a/\OKF zoO b:=⟨⟨(List.pairwise_append.1 h.1).1,λf hf=>h.2 f (by simp [hf])⟩,⟨(List.pairwise_append.1 h.1).2.1,λf hf=>h.2 f (by simp [hf])⟩⟩
theorem OKF.exp {P:yD} {x:At} {e j:Int} (h:OKF zoO (P++[⟨x,e⟩])) (h1:1<=j) (h2:j<=e):OKF zoO (P++[⟨x,j⟩]):=by
 have hx:=h.2 ⟨x,e⟩ (by simp)
 refine ⟨List.pairwise_append.2 ⟨(List.pairwise_append.1 h.1).1,by simp,λa ha b hb=> ?_⟩,λf hf=> ?_⟩
 ·rw [qh] at hb; subst hb;exact (List.pairwise_append.1 h.1).2.2 a ha ⟨x,e⟩ (by simp)
 ·rcases List.mem_append.1 hf with hf | hf
  ·exact h.2 f (by simp [hf])
  ·rw [qh] at hf; subst hf;refine ⟨⟨h1,λhk=> ?_⟩,hx.2⟩
   have:=hx.1.2 hk;have h3:e=1:=this;show j=1;omega
theorem z8Y {c:Int} {F:yD} (hc:1<=c/\c<=1152921504606846976) (hF:OKF zoO F) (hb:FB F):zF [⟨c,F⟩]=true:=zqs.2 ⟨hb.wi c,by simp,λt ht=>by
 rw [qh] at ht; subst ht; exact ⟨hc,hF⟩⟩
theorem zbbA {y:Fc}:∀ {P:yD},(∀ z∈P,cF z y<0)->zbW P [y]=P++[y]
 | [],_=>by rw [zbW]; rfl
 | z::r,h=>by rw [zbW,if_pos (h z (by simp)),zbbA λw hw=>h w (by simp [hw])]; rfl
theorem z01 {x:At} {j:Int} (hk:¬ (x.Kind=3\/x.Kind=4)):∀ {P:yD},(∀ z∈P,cF z ⟨x,1⟩<0)->zbW (P++[⟨x,j⟩]) [⟨x,1⟩]=P++[⟨x,j+1⟩]
 | [],_=>by
  have e:cF ⟨x,j⟩ ⟨x,1⟩=0:=cF_self' rfl;show zbW [⟨x,j⟩] [⟨x,1⟩]=[⟨x,j+1⟩];rw [zbW,e,if_neg (by omega),if_neg (by omega),if_neg hk,zbW]
 | z::r,h=>by
  show zbW (z::(r++[⟨x,j⟩])) [⟨x,1⟩]=_;rw [zbW,if_pos (h z (by simp)),z01 hk λw hw=>h w (by simp [hw])]; rfl
theorem zbb7 {c:Int} (hc:1<=c/\c<=1152921504606846976) (M:yD) (x:At):zlH [⟨c,M⟩] (zcu x)=[⟨c,zbW M [⟨x,1⟩]⟩]:=by
 show zdS [] [zmy ⟨c,M⟩ ⟨1,[⟨x,1⟩]⟩]=_;unfold zmy;simp only [zbhL hc.2];rfl
section
variable {c:Int} (hc:1<=c/\c<=1152921504606846976)
include hc
theorem zbfp {P:yD} {x:At} {e:Int} (hF:OKF zoO (P++[⟨x,e⟩])) (hb:FB (P++[⟨x,e⟩])) (hv:zF (zcu x)=true):
  ∀ (n j:Nat),1<=j->(j+n:Int)=e->zBm (zcu x) n [⟨c,P++[⟨x,(j:Int)⟩]⟩]=.inr [⟨c,P++[⟨x,e⟩]⟩]
 | 0,j,_,h=>by rw [show (j:Int)=e from by omega]; rfl
 | n+1,j,h1,h=>by
  have he:=(hF.2 ⟨x,e⟩ (by simp)).1
  have he64:=(hb.fs ⟨x,e⟩ (by simp)).1
  have hk:¬ (x.Kind=3\/x.Kind=4):=λhk=>by
   have:e=1:=he.2 hk;omega
  have he64:e<=64:=he64;have hj:=z8Y hc (hF.exp (j:=(j:Int)) (by omega) (by omega)) (hb.exp (j:=(j:Int)) (by omega))
  have hlt:∀ z∈P,cF z ⟨x,1⟩<0:=λz hz=>(List.pairwise_append.1 hF.1).2.2 z hz ⟨x,e⟩ (by simp)
  have hp:zlH [⟨c,P++[⟨x,(j:Int)⟩]⟩] (zcu x)=[⟨c,P++[⟨x,((j+1:Nat):Int)⟩]⟩]:=by
   rw [zbb7 hc,z01 hk hlt]; rfl
  unfold zBm;rw [zbgq hj hv (by rw [hp]; exact (hb.exp (by omega)).wi c),hp,zbeA,zci]
  exact zbfp hF hb hv n (j+1) (by omega) (by omega)
theorem zbfa:∀ {l:yD} {P:yD},OKF zoO (P++l)->FB (P++l)->(∀ f∈l,zel zvA f.At=.inr (zcu f.At)/\zF (zcu f.At)=true)->zdn zvA l [⟨c,P⟩]=.inr [⟨c,P++l⟩]
 | [],P,_,_,_=>by rw [zLM,List.append_nil]
 | ⟨x,e⟩::r,P,hF,hb,h=>by
  have hx:=h ⟨x,e⟩ (by simp)
  have e2:P++⟨x,e⟩::r=(P++[⟨x,e⟩])++r:=by simp
  rw [e2] at hF hb ⊢;have hF1:=hF.app.1;have hb1:=hb.app.1;have he:=(hF1.2 ⟨x,e⟩ (by simp)).1.1
  have he:1<=e:=he;have he64:e<=64:=(hb1.fs ⟨x,e⟩ (by simp)).1
  rw [zIE,show zel zvA (⟨x,e⟩:Fc).At=.inr (zcu x) from hx.1,zci]
  have hp:zBm (zcu x) (⟨x,e⟩:Fc).Exp.toNat [⟨c,P⟩]=.inr [⟨c,P++[⟨x,e⟩]⟩]:=by
   obtain ⟨n,hn⟩:∃ n:Nat,e=n+1:=⟨(e - 1).toNat,by omega⟩
   show zBm (zcu x) e.toNat [⟨c,P⟩]=_;rw [show e.toNat=n+1 from by omega]
   have hv0:zF [⟨c,P⟩]=true:=z8Y hc hF1.app.1 hb1.app.1;have hlt:∀ z∈P,cF z ⟨x,1⟩<0:=λz hz=>(List.pairwise_append.1 hF1.1).2.2 z hz ⟨x,e⟩ (by simp)
   have hp:zlH [⟨c,P⟩] (zcu x)=[⟨c,P++[⟨x,1⟩]⟩]:=by rw [zbb7 hc,zbbA hlt]
   unfold zBm;rw [zbgq hv0 hx.2 (by rw [hp]; exact (hb1.exp (by omega)).wi c),hp,zbeA,zci]
   exact zbfp hc hF1 hb1 hx.2 n 1 (by omega) (by omega)
  rw [hp,zci];exact zbfa hF hb λf hf=>h f (by simp [hf])
end
theorem zJ8 {s r:yC} (h:zF (s++r)=true):zF s=true/\zF r=true:=by
 obtain ⟨h1,h2,h3⟩:=zqs.1 h;obtain ⟨w1,w2,w3,w4⟩:=zuS.1 h1;rw [qg] at w1;rw [z9c] at w2;rw [z7U] at w3
 exact ⟨zqs.2 ⟨zuS.2 ⟨by omega,by omega,by omega,λt ht=>w4 t (by simp [ht])⟩,(List.pairwise_append.1 h2).1,λt ht=>h3 t (by simp [ht])⟩,
  zqs.2 ⟨zuS.2 ⟨by omega,by omega,by omega,λt ht=>w4 t (by simp [ht])⟩,(List.pairwise_append.1 h2).2.1,λt ht=>h3 t (by simp [ht])⟩⟩
theorem zbeV:∀ {r s:yC},zF (s++r)=true->(∀ t∈r,∀ f∈t.Fs,zel zvA f.At=.inr (zcu f.At)/\zF (zcu f.At)=true)->zck zvA r s=.inr (s++r)
 | [],s,_,_=>by rw [z0E,List.append_nil]
 | t::r,s,hv,h=>by
  have e2:s++t::r=(s++[t])++r:=by simp
  rw [e2] at hv ⊢;obtain ⟨h1,h2⟩:=zqs.1 (zJ8 hv).1;have ht:=h2.2 t (by simp)
  have hb:FB t.Fs:=FB.of h1 (by simp)
  have hf:=zbfa ht.1 (l:=t.Fs) (P:=[]) ht.2 hb (h t (by simp))
  have hadd:zxm s [t]=(s++[t],0):=by
   have e:zdS s [t]=s++[t]:=zba6 _ _ h2.1;rw [zblC (zJ8 (zJ8 hv).1).1 (zJ8 (zJ8 hv).1).2 (by rw [e]; exact h1),e]
  rw [zV9,zblS ht.1,hf,zci];show sbd (opS (zxm s [t])) _=_;rw [hadd,zbeA,zci];exact zbeV hv λu hu=>h u (by simp [hu])
theorem zbkR {d:Nat} {l:yE} (hl:l.length<=1000000) (h:∀ w∈l,zm d w.Ann/\w.Ann≠[]) (hd:d<=99) (hs:zZ1 l=true):zeb l=l:=by
 have e:l.filter zma=l:=List.filter_eq_self.2 λw hw=>by
  have:=(h w hw).2;unfold zma;cases hx:w.Ann with
  | nil=>exact absurd hx this
  | cons x r=>simp
 unfold zeb;rw [e]
 have hp:l.Pairwise λx y=>zba (zbi x) (zbi y)<=0:=zwM (R:=λx y=>zba (zbi x) (zbi y)<=0) (λx y z h1 h2=>zyi _ _ _ h1 h2) l λk hk hl'=>by
  have:=zdV.1 hs k (by omega) (by omega)
  unfold zVN at this;rw [Bool.or_eq_true,qe,qe] at this;rcases this with e | e
  ·omega
  ·exact e
 refine ((zOR hl (λw hw=>(h w hw).1) hd).unique (.refl _) ?_).symm
 refine hp.imp_of_mem λ{x y} hx hy hxy=> ?_
 rw [zki (h y hy).1 hd,zg1 (zbi x) (zbi y)];simp only; omega
def AB (x:At):Prop:=zom x<=8/\zfm x+2<=4096/\x.Items.length<=1024
theorem AB.wi {x:At} (h:AB x):zfB (zcu x)=true:=(FB.wi (l:=[⟨x,1⟩]) ⟨by simp,by rw [zf0,zq0]; have:=h.1; simp only; omega,by rw [zcC,ziK]; have:=h.2.1; simp only [List.length_singleton]; omega,λf hf=>by
 rw [qh] at hf; subst hf; exact ⟨by simp,h.2.2⟩⟩ 1)
theorem AB.of {l:yD} (h:FB l) {f:Fc} (hf:f∈l):AB f.At:=by
 refine ⟨Nat.le_trans (zVy hf) h.nes, ?_,(h.fs f hf).2⟩;have h1:=zU8 hf
 have h2:1<=l.length:=by cases l with
  | nil=>cases hf
  | cons a r=>simp
 have:=h.siz;omega
theorem zbmx {m:Nat} (hA:∀ a,zbJ m a=true->zck zvA a []=.inr a) (x:At) (h:zd8 (zbJ m) x=true) (hx:AB x):zel zvA x=.inr (zcu x):=by
 have hw:=hx.wi;rw [z2i];cases zdD.1 h with
 | var r hr=>
  simp only [if_true];unfold zvA; rw [hr]; rfl
 | mon a b ha hb ha0 hb0 hab=>
  simp only [show ¬ (1:Int)=0 from by omega,if_false,if_true]
  rw [zzW,hA a ha,zci,zzW,hA b hb,zci,zCs,zci,zci,zci];show opS (zQd a b)=_;unfold zQd opR;rw [zCh ha,zCh hb,if_neg hb0,if_neg (by simp [ha0,hab])]
  show opS (znT (zcu (zbii a b)))=_;rw [zOa (a:=zcu (zbii a b)) hw]; rfl
 | del a ha ha0 hc hu=>
  simp only [show ¬ (2:Int)=0 from by omega,show ¬ (2:Int)=1 from by omega,if_false,if_true]
  rw [zzW,hA a ha,zci,zCs,zci,zci];show opS (zPP a)=_;unfold zPP opR;rw [zCh ha,if_neg (by simp [ha0,hu]),if_neg (by simp [hc])]
  show opS (znT (zcu (z1y a)))=_;rw [zOa (a:=zcu (z1y a)) hw]; rfl
 | abs a ha ha0 hc=>
  simp only [show ¬ (3:Int)=0 from by omega,show ¬ (3:Int)=1 from by omega,show ¬ (3:Int)=2 from by omega,if_false,if_true]
  rw [zzW,hA a ha,zci,zCs,zci,zci];show opS (zPt a)=_;unfold zPt opR;rw [zCh ha,if_neg ha0,if_neg (by simp [hc])]
  show opS (znT (zcu (zbh1 a)))=_;rw [zOa (a:=zcu (zbh1 a)) hw]; rfl
 | tst f l o b hl hi hs hf=>
  simp only [show ¬ (4:Int)=0 from by omega,show ¬ (4:Int)=1 from by omega,show ¬ (4:Int)=2 from by omega,show ¬ (4:Int)=3 from by omega,if_false]
  have key:∀ l:yE,(∀ w∈l,zbJ m w.Ann=true)->zfI zvA l=.inr l:=by
   intro l;induction l with
   | nil=>intro _; rw [zJL]
   | cons w r ih=>
    intro hm;rw [zP8,hA w.Ann (hm w (by simp)),zci,ih λv hv=>hm v (by simp [hv]),zci]
  have hlen:l.length<=1024:=hx.2.2;have hs':=zbkR (d:=9) (l:=l) (by omega) (λw hw=>⟨(zeJ (hi w hw).1).1,(hi w hw).2⟩) (by omega) hs
  rw [zCs,zci,key l λw hw=>(hi w hw).1,zci]
  show opS (zy3 f l o b)=_;unfold zy3;have hall:(l.all λw=>zF w.Ann)=true:=List.all_eq_true.2 λw hw=>zCh (hi w hw).1
  have hpos:0<l.length:=by cases l with
   | nil=>exact absurd rfl hl
   | cons a r=>simp
  rw [hf,hall,hs',decide_eq_true hpos];show opS (znT (zcu (zTn f l o b)))=_;rw [zOa (a:=zcu (zTn f l o b)) hw]; rfl
theorem zbjk:∀ m,∀ a,zbJ m a=true->zck zvA a []=.inr a
 | 0,a,h=>by cases h
 | m+1,a,h=>by
  obtain ⟨h1,_,h3⟩:=zXu.1 (show zAb (zd8 (zbJ m)) a=true from h)
  exact zbeV (s:=[]) (zCh h) λt ht f hf=>by
   have hb:=AB.of (FB.of h1 ht) hf;have hv:=((h3 t ht).2.2 f hf).2;exact ⟨zbmx (zbjk m) f.At hv hb,zbhG (zXQ.2 ((zdD.1 hv).imp λa ha=>zCh ha)) hb.wi⟩
theorem zbnd {a:yC} (h:zF a=true):zck zvA a []=.inr a:=zbjk 100 a h
theorem zbdm (a b:yD):cL a b=zbK (zbD a) (zbD b):=by unfold cL; rw [zba]
theorem PA.canon {a:yC} (h:PA a):Canon a:=⟨h.1.imp λ{x y} hxy=>by rw [zbdm]; exact hxy,λt ht=>(h.2 t ht).2.1⟩
theorem zbhj {t:Term} {l:yC} (h:Srs l) (L:yD):(∃ y∈ze6 t l,y.Fs=L)↔(∃ x∈l,x.Fs=L)\/t.Fs=L:=by
 constructor
 ·rintro ⟨y,hy,rfl⟩
  rcases (zCK h).1 hy with ⟨h1,_⟩ | ⟨h1,_⟩
  ·exact .inl ⟨y,h1,rfl⟩
  ·exact .inr h1.symm
 ·intro hh;by_cases e:t.Fs=L
  ·subst e;by_cases hx:∃ x∈l,x.Fs=t.Fs
   ·obtain ⟨x,hx,e⟩:=hx;exact ⟨⟨zAZ x.Cf t.Cf,t.Fs⟩,(zCK h).2 (.inr ⟨rfl,.inl ⟨x,hx,e,rfl⟩⟩),rfl⟩
   ·exact ⟨t,(zCK h).2 (.inr ⟨rfl,.inr ⟨λx hx' e=>hx ⟨x,hx',e⟩,rfl⟩⟩),rfl⟩
  ·rcases hh with ⟨x,hx,rfl⟩ | hh
   ·exact ⟨x,(zCK h).2 (.inl ⟨hx,λe'=>e e'.symm⟩),rfl⟩
   ·exact absurd hh e
theorem zbhh:∀ (b a:yC),Srs a->∀ L,(∃ y∈zdS a b,y.Fs=L)↔(∃ x∈a,x.Fs=L)\/∃ x∈b,x.Fs=L
 | [],a,h,L=>by
  show (∃ y∈a,y.Fs=L)↔_;simp
 | t::r,a,h,L=>by
  show (∃ y∈zdS (ze6 t a) r,y.Fs=L)↔_;rw [zbhh r _ (zzS h) L,zbhj h];simp only [qd,exists_eq_or_imp];constructor
  ·rintro ((h1 | h1) | h1)
   ·exact .inl h1
   ·exact .inr (.inl h1)
   ·exact .inr (.inr h1)
  ·rintro (h1 | h1 | h1)
   ·exact .inl (.inl h1)
   ·exact .inl (.inr h1)
   ·exact .inr h1
def zbej (s' s:yC):Prop:=∀ t∈s',∃ u∈s,u.Fs=t.Fs
theorem zRr:∀ (s s':yC),Srs s->Srs s'->zbej s' s->s'.length<=s.length/\zK s'<=zK s/\zbh s'<=zbh s
 | [],s',_,_,h=>by
  cases s' with
  | nil=>exact ⟨Nat.le_refl _,Nat.le_refl _,Nat.le_refl _⟩
  | cons y r=>obtain ⟨u,hu,_⟩:=h y (by simp); cases hu
 | x::r,s',hs,hs',h=>by
  have hc:=qi.1 hs;cases s' with
  | nil=>simp [zqd,zCL]
  | cons y r'=>
   have hc':=qi.1 hs';by_cases e:x.Fs=y.Fs
   ·have hsub:zbej r' r:=λt ht=>by
     obtain ⟨u,hu,eu⟩:=h t (by simp [ht])
     rcases qd.1 hu with rfl | hu
     ·have:=hc'.1 t ht;rw [zFA (e.symm.trans eu)] at this; omega
     ·exact ⟨u,hu,eu⟩
    obtain ⟨h1,h2,h3⟩:=zRr r r' hc.2 hc'.2 hsub;rw [zcp,zcp,zex,zex,e];simp only [qf];exact ⟨by omega,by omega,by omega⟩
   ·have hxy:cT x y<0:=by
     obtain ⟨u,hu,eu⟩:=h y (by simp)
     rcases qd.1 hu with rfl | hu
     ·exact absurd eu e
     ·have:=hc.1 u hu;unfold cT at this ⊢; rw [<- eu]; exact this
    have hsub:zbej (y::r') r:=λt ht=>by
     obtain ⟨u,hu,eu⟩:=h t ht;rcases qd.1 hu with rfl | hu
     ·have hut:cT u t<0:=by
       rcases qd.1 ht with rfl | ht
       ·exact hxy
       ·exact zI7 hxy (hc'.1 t ht)
      rw [zFA eu] at hut; omega
     ·exact ⟨u,hu,eu⟩
    obtain ⟨h1,h2,h3⟩:=zRr r (y::r') hc.2 hs' hsub;rw [zcp x r,zex x r];simp only [qf] at h1 ⊢;exact ⟨by omega,by omega,by omega⟩
theorem zbjV {s s':yC} (hs:Srs s) (hs':Srs s') (h:zbej s' s) (hw:zfB s=true):zfB s'=true:=by
 obtain ⟨w1,w2,w3,w4⟩:=zuS.1 hw;obtain ⟨h1,h2,h3⟩:=zRr s s' hs hs' h;refine zuS.2 ⟨by omega,by omega,by omega,λt ht=> ?_⟩
 obtain ⟨u,hu,e⟩:=h t ht;rw [<- e]; exact w4 u hu
theorem zbg8 (a:yC):zbej (zx4 a) a:=λt ht=>by
 obtain ⟨u,hu,_,rfl⟩:=zEY.1 ht;exact ⟨u,hu,rfl⟩
theorem zbju {a:yC} (h:QA a):QA (zx4 a):=⟨(zWJ h.pa.canon).asc.imp λ{x y} hxy=>by rw [zbdm] at hxy; exact hxy,λt ht=>by
 obtain ⟨u,hu,_,rfl⟩:=zEY.1 ht;exact ⟨by constructor <;>simp,(h.2 u hu).2⟩⟩
theorem zbiZ {a:yC} (h:zF a=true):zF (zx4 a)=true:=zqs.2 ⟨zbjV (zPu h).1 (zbju (zPu h)).1 (zbg8 a) (z9y h),zbju (zPu h)⟩
def nfA (a:yC):yC:=bif zF a then zx4 a else []
theorem zbfc {a:yC} (h:zF a=true):nfA a=zx4 a:=by unfold nfA; rw [h]; rfl
def zLE (a:yC) (l:yG):yC×Int:=opR (zF a&&l.all λb=>zF b.To) (ofS (zck (toA l) a []))
theorem zbod {l:yG} (h:okB l):zcq l=(true, !l.all λb=>zF b.To):=by
 unfold zcq zhA;have:zdN l=IG (λ(_:Unit) x=>zh4 x) (l.length+(Int.ofNat l.length).toNat +Int.toNat (0:Int)+(1:Nat)) () l:=rfl
 rw [zlh (P:=λb=> !zF b.To) (this.trans (zNh _ _ _ _ _ (by have:=h.1; omega) (λx hx=>by
  unfold zh4 zzM;rw [Wy.fin_bn,(h.2 x hx).valid]; rfl) (by omega)))]
 simp [List.all_eq_not_any_not]
theorem zblj {a:yC} {l:yG} (h:okB l):∀ (n i:Nat),l.length<i+n->i<=l.length->zAd n a l i=(true,if ((l.drop i).all λb=>zF b.To)=true then .inr (a,l) else .inl 1)
 | 0,i,h1,h2=>by omega
 | n+1,i,h1,h2=>by
  have hlen:=h.1;show (zAp a l i).ev (λx y=>zAd n x.1 x.2.1 x.2.2.1) (λr=>(true,r)) (false,.inl default)=_
  unfold zAp;by_cases hi:i<l.length
  ·have hb:=h.2 _ (zr hi);rw [zbx hi,List.all_cons];simp only [Wy.ev_i,Wy.ev_k,Wy.ev_h,Wy.ev_bn,Wy.ev_d,tT,hi,hb.rvalid];cases zF (l.getD i default).To with
   | false=>rfl
   | true=>
    simp only [Bool.not_true,cond_false,Bool.true_and,zN (show i<4611686018427387904 by omega)]
    exact zblj h n (i+1) (by omega) (by omega)
  ·simp only [Wy.ev_i,Wy.ev_k,Wy.ev_h,Wy.ev_bn,Wy.ev_d,tT,hi];rw [zcO hi]; rfl
theorem zbaN {a:yC} {l:yG} (oa:okA a) (ha:zF a=true->zbt a) (h:okB l):zeO a l=(true,zLE a l):=by
 have key:zF a=true->zBg a l=(true,ofS (zck (toA l) a [])):=λhv=>((z91 h 1000).1 9 a (zON hv (Nat.le_refl 9)) (by omega) oa.2.1 (ha hv) (by omega)).1
 unfold zeO zC5 zLE;simp only [Wy.fin_i,Wy.fin_bn,Wy.fin_k,oa.valid,cond_true,zbod h];cases hv:zF a with
 | false=>rfl
 | true=>
  cases (l.all λb=>zF b.To) with
  | false=>rfl
  | true=>
   simp only [Bool.not_true,cond_false,key hv,cond_true];rfl
theorem z90 {a:yC} {l:yG} (oa:okA a) (ha:zF a=true->zbt a) (h:okB l):zkt a l=(true,zLE a l):=by
 have key:zF a=true->zLB a l=(true,ofS (zck (toA l) a [])):=λhv=>((zbe6 h 1000).1 9 a (zON hv (Nat.le_refl 9)) (by omega) oa.2.1 (ha hv) (by omega)).1
 unfold zkt zKe zLE;have h4:=zblj (a:=a) h (a.length+l.length+Int.toNat (0:Int)+(1:Nat)) 0 (by omega) (by omega)
 rw [show ((0:Nat):Int)=(0:Int) from rfl,List.drop_zero] at h4
 simp only [Wy.fin_i,Wy.fin_bn,Wy.fin_k,oa.rvalid,cond_true,h4];cases hv:zF a with
 | false=>rfl
 | true=>
  cases (l.all λb=>zF b.To) with
  | false=>rfl
  | true=>
   simp only [if_true,isL,getR,Bool.not_true,cond_false,key hv,cond_true];rfl
theorem zLQ {a:yC} {l:yG} (oa:okA a) (ha:zF a=true->zbt a) (h:okB l):zeO a l=(true,zLE a l)/\zkt a l=(true,zLE a l):=⟨zbaN oa ha h,z90 oa ha h⟩
theorem zbmf {a:yC} {l:yG} (oa:okA a) (ha:zF a=true->zbt a) (h:okB l):okR (zLE a l):=zUi λhv=>by
 rw [qc] at hv;have hG:=((z91 h 1000).1 9 a (zON hv.1 (Nat.le_refl 9)) (by omega) oa.2.1 (ha hv.1) (by omega)).2
 revert hG;cases zck (toA l) a [] with
 | inl e=>exact λ_=>⟨zhB,.inr rfl⟩
 | inr b=>exact λhb=>⟨hb,.inl rfl⟩
def GP {α:Type} (P:α->Prop):Int⊕α->Prop
 | .inl _=>True
 | .inr a=>P a
theorem zGX {α β:Type} {P:α->Prop} {Q:β->Prop} {x:Int⊕α} {k:α->Int⊕β} (hx:GP P x) (hk:∀ a,P a->GP Q (k a)):GP Q (sbd x k):=by
 cases x with
 | inl e=>exact trivial
 | inr a=>exact hk a hx
theorem z2K {P:yC->Prop} {r:yC×Int} (h:P r.1):GP P (opS r):=by
 unfold opS;split
 ·exact h
 ·exact trivial
theorem zuv {a:yC}:zbt a↔∀ t∈a,∀ f∈t.Fs,zzh f.At:=by
 rw [zFI];exact ⟨λh t ht=>ztL.1 (h t ht),λh t ht=>ztL.2 (h t ht)⟩
theorem zDR:zbt []:=zFI.2 λt ht=>by cases ht
theorem zWz (c:Int):zbt [⟨c,[]⟩]:=zuv.2 λt ht f hf=>by
 rw [qh] at ht; subst ht; cases hf
theorem z2P {x:At} (h:zzh x):zbt (zcu x):=zuv.2 λt ht f hf=>by
 simp only [zcu,qh] at ht; subst ht;rw [qh] at hf; subst hf; exact h
theorem zKh {a:yC} (h:zbt a):zbt (znT a).1:=by
 unfold znT;cases zfB a with
 | true=>exact h
 | false=>exact zDR
theorem zWy {ok:Bool} {r:yC×Int} (h:ok=true->zbt r.1):zbt (opR ok r).1:=by
 cases ok with
 | true=>exact h rfl
 | false=>exact zDR
theorem zbiA {a b:yC} (hs:Srs a) (ha:zbt a) (hb:zbt b):zbt (zdS a b):=zuv.2 λt ht f hf=>by
 obtain ⟨x,hx,e⟩:=zIU b a hs ht;rw [e] at hf;rcases hx with hx | hx
 ·exact zuv.1 ha x hx f hf
 ·exact zuv.1 hb x hx f hf
theorem zbgL {a b:yC} (ha:zbt a) (hb:zbt b):zbt (zlH a b):=zuv.2 λt ht f hf=>by
 obtain ⟨x,hx,e⟩:=zIU (zey a b) [] List.Pairwise.nil ht;rw [e] at hf;rcases hx with hx | hx
 ·cases hx
 ·obtain ⟨u,hu,v,hv,rfl⟩:=zKE hx;obtain ⟨y,hy,e⟩:=zrJ hf;rw [e];rcases hy with hy | hy
  ·exact zuv.1 ha u hu y hy
  ·exact zuv.1 hb v hv y hy
theorem zbmT {a b:yC} (ha:zbt a) (hb:zbt b):zbt (zxm a b).1:=zWy λhv=>by
 rw [qc] at hv;exact zKh (zbiA (zEB hv.1).1 ha hb)
theorem zbn0 {a b:yC} (ha:zbt a) (hb:zbt b):zbt (zu2 a b).1:=zWy λ_=>zKh (zbgL ha hb)
theorem z61 {k:Int} {l:yA} (h:∀ a∈l,zbt a):zzh ⟨k,⟨0,0⟩,l,0,[],0,⟨0,0,ByteArray.mk #[]⟩⟩:=(zCt _).2 ⟨by simp,zyM.2 h,zvb.2 λw hw=>by cases hw⟩
theorem zbm7 {a b:yC} (ha:zbt a) (hb:zbt b):zbt (zQd a b).1:=zWy λ_=>by
 split
 ·exact ha
 ·split
  ·exact zDR
  ·refine zKh (z2P (z61 λx hx=> ?_))
   simp only [qd,List.not_mem_nil,or_false] at hx;rcases hx with rfl | rfl
   ·exact ha
   ·exact hb
theorem zbnq {a:yC} (ha:zbt a):zbt (zPP a).1:=zWy λ_=>by
 split
 ·exact ha
 ·split
  ·exact zWz 1
  ·refine zKh (z2P (z61 λx hx=> ?_))
   rw [qh] at hx; subst hx; exact ha
theorem zbmR {a:yC} (ha:zbt a):zbt (zPt a).1:=zWy λ_=>by
 split
 ·exact zWz 1
 ·split
  ·exact zDR
  ·refine zKh (z2P (z61 λx hx=> ?_))
   rw [qh] at hx; subst hx; exact ha
theorem zbl8 {f o:Int} {l:yE} {b:Value} (hl:l.length<20) (h:∀ w∈l,zbt w.Ann):zbt (zy3 f l o b).1:=by
 unfold zy3;cases (!(zDv f l o b&&l.all λw=>zF w.Ann)) with
 | true=>exact zDR
 | false=>
  cases decide (0<(zeb l).length) with
  | true=>
   refine zKh (z2P ((zCt _).2 ⟨?_,zyM.2 λa ha=>(by cases ha),zvb.2 λw hw=>h w (zNZ hw).1⟩))
   have h1:(zeb l).length=(l.filter zma).length:=(zkg _ _).length_eq;have h2:=List.length_filter_le zma l;show (zeb l).length<20;omega
  | false=>
   cases (f==0&&zSG o (zd3 0 b.Int)) with
   | true=>exact zWz 1
   | false=>exact zDR
theorem zbjf {b:yC} (hb:zbt b):∀ (n:Nat) (p:yC),zbt p->GP zbt (zBm b n p)
 | 0,p,hp=>hp
 | n+1,p,hp=>zGX (z2K (zbn0 hp hb)) λq hq=>zbjf hb n q hq
theorem zbnv (n:Int):zbt (zuZ n):=by
 unfold zuZ;split
 ·exact zDR
 ·exact zWz _
theorem zbhe {l:yA} (h:∀ a∈l,zbt a) (i:Nat):zbt (l.getD i default):=by
 by_cases hi:i<l.length
 ·exact h _ (zr hi)
 ·rw [List.getD_eq_getElem?_getD,List.getElem?_eq_none (by omega)]; exact zDR
section
variable {to:RowID->yC} (ht:∀ r,zbt (to r))
include ht
mutual
theorem zbir:∀ x:At,zzh x->GP zbt (zel to x)
 | ⟨k,r,a,f,i,o,b⟩=>λh=>by
  obtain ⟨h1,h2,h3⟩:=(zCt _).1 h;rw [zel];split
  ·exact ht r
  ·refine zGX (z8n a (zyM.1 h2)) λxs hxs=> ?_
   have g0:=zbhe hxs 0;have g1:=zbhe hxs 1;split
   ·exact z2K (zbm7 g0 g1)
   ·split
    ·exact z2K (zbnq g0)
    ·split
     ·exact z2K (zbmR g0)
     ·refine zGX (z5c i (zvb.1 h3)) λis his=>z2K (zbl8 ?_ his.2)
      rw [his.1]; exact h1
theorem zX4:∀ l:yD,(∀ f∈l,zzh f.At)->∀ p,zbt p->GP zbt (zdn to l p)
 | [],_,p,hp=>by rw [zdn]; exact hp
 | ⟨x,e⟩::r,h,p,hp=>by
  rw [zdn];exact zGX (zbir x (h ⟨x,e⟩ (by simp))) λb hb=>zGX (zbjf hb _ p hp) λq hq=>zX4 r (λf hf=>h f (by simp [hf])) q hq
theorem z13:∀ a:yC,(∀ t∈a,∀ f∈t.Fs,zzh f.At)->∀ s,zbt s->GP zbt (zck to a s)
 | [],_,s,hs=>by rw [zck]; exact hs
 | ⟨c,fs⟩::r,h,s,hs=>by
  rw [zck];exact zGX (zX4 fs (h ⟨c,fs⟩ (by simp)) _ (zbnv c)) λp hp=>zGX (z2K (zbmT hs hp)) λq hq=>z13 r (λt ht=>h t (by simp [ht])) q hq
theorem z8n:∀ l:yA,(∀ a∈l,zbt a)->GP (λr:yA=>∀ a∈r,zbt a) (zjd to l)
 | [],_=>by rw [zjd]; exact λa ha=>by cases ha
 | a::r,h=>by
  rw [zjd];refine zGX (z13 a (zuv.1 (h a (by simp))) [] zDR) λb hb=>zGX (z8n r λc hc=>h c (by simp [hc])) λl hl=> ?_
  intro x hx;rcases qd.1 hx with rfl | hx
  ·exact hb
  ·exact hl x hx
theorem z5c:∀ l:yE,(∀ w∈l,zbt w.Ann)->GP (λr:yE=>r.length=l.length/\∀ w∈r,zbt w.Ann) (zfI to l)
 | [],_=>by rw [zfI]; exact ⟨rfl,λa ha=>by cases ha⟩
 | ⟨v,a⟩::r,h=>by
  rw [zfI];refine zGX (z13 a (zuv.1 (h ⟨v,a⟩ (by simp))) [] zDR) λb hb=>zGX (z5c r λc hc=>h c (by simp [hc])) λl hl=> ?_
  refine ⟨by simp [hl.1],λx hx=> ?_⟩
  rcases qd.1 hx with rfl | hx
  ·exact hb
  ·exact hl.2 x hx
end
end
section
variable {σ:At->yC}
end
def zGO (a:yC) (i:Nat):Bool:=(List.range a.length).all λk=> !(decide (k≠i)&&dvF (a.getD k default).Fs (a.getD i default).Fs&&(!dvF (a.getD i default).Fs (a.getD k default).Fs||decide (k<i)))
def zAk (a:yC):yC:=((List.range a.length).filter (zGO a)).map λi=>⟨1,(a.getD i default).Fs⟩
theorem zSd {a:yC} {i:Nat}:zGO a i=true↔∀ k<a.length,k≠i->dvF (a.getD k default).Fs (a.getD i default).Fs=true->dvF (a.getD i default).Fs (a.getD k default).Fs=true/\i<=k:=by
 unfold zGO;simp only [List.all_eq_true,List.mem_range,Bool.not_eq_true',Bool.and_eq_false_iff,Bool.or_eq_false_iff,decide_eq_false_iff_not,Bool.not_eq_false',Nat.not_lt];constructor
 ·intro h k hk hne hd;rcases h k hk with (h1 | h1) | h1
  ·exact absurd hne h1
  ·rw [hd] at h1; cases h1
  ·exact ⟨h1.1,h1.2⟩
 ·intro h k hk;by_cases hne:k=i
  ·exact .inl (.inl λh=>h hne)
  ·cases hd:dvF (a.getD k default).Fs (a.getD i default).Fs with
   | false=>exact .inl (.inr rfl)
   | true=>exact .inr (h k hk hne hd)
theorem zbdM {a:yC} {t:Term}:t∈zAk a↔∃ i<a.length,zGO a i=true/\t=⟨1,(a.getD i default).Fs⟩:=by
 unfold zAk;simp only [List.mem_map,List.mem_filter,List.mem_range];constructor
 ·rintro ⟨i,⟨h1,h2⟩,rfl⟩; exact ⟨i,h1,h2,rfl⟩
 ·rintro ⟨i,h1,h2,rfl⟩; exact ⟨i,⟨h1,h2⟩,rfl⟩
theorem zbj4 (a:yC):(zAk a).length<=a.length:=by
 unfold zAk;rw [List.length_map];exact Nat.le_trans (List.length_filter_le _ _) (by rw [List.length_range]; exact Nat.le_refl _)
theorem zbkJ {a:yC}:(zAk a).Pairwise λx y=>x.Fs≠y.Fs:=by
 unfold zAk;rw [List.pairwise_map];refine List.Pairwise.imp_of_mem (R:=λi j=>i<j) (λ{i j} hi hj hij e=> ?_) ((List.pairwise_lt_range).filter _)
 simp only at e;have h1:=List.mem_filter.1 hi;have h2:=List.mem_filter.1 hj;have:=zSd.1 h2.2 i (List.mem_range.1 h1.1) (by omega) (by rw [e]; exact zbdC _)
 omega
theorem zMU {τ:Type} [Inhabited τ] (p:τ->Bool):∀ a:List τ,((List.range a.length).filter λi=>p (a.getD i default)).map (λi=>a.getD i default)=a.filter p:=by
 intro a;induction a with
 | nil=>rfl
 | cons x r ih=>
  rw [qf,List.range_succ_eq_map,List.filter_cons,List.filter_cons];have h0:(x::r).getD 0 default=x:=rfl;rw [h0,List.filter_map,];have h1:((λi=>p ((x::r).getD i default)) ∘ Nat.succ)=λi=>p (r.getD i default):=by funext i; rfl
  rw [h1];cases p x with
  | true=>
   simp only [if_true,List.map_cons,List.map_map];refine congrArg (x::·) ?_;exact ih
  | false=>
   simp only [Bool.false_eq_true,if_false,List.map_map];exact ih
theorem zbd9 {a:yC} (h:a.Pairwise λx y=>x.Fs≠y.Fs) {i k:Nat} (hi:i<a.length) (hk:k<a.length) (e:(a.getD i default).Fs=(a.getD k default).Fs):i=k:=by
 rcases Nat.lt_trichotomy i k with h1 | h1 | h1
 ·have:=List.pairwise_iff_getElem.1 h i k hi hk h1;rw [List.getD_eq_getElem?_getD,List.getD_eq_getElem?_getD,List.getElem?_eq_getElem hi,List.getElem?_eq_getElem hk] at e;exact absurd e this
 ·exact h1
 ·have:=List.pairwise_iff_getElem.1 h k i hk hi h1;rw [List.getD_eq_getElem?_getD,List.getD_eq_getElem?_getD,List.getElem?_eq_getElem hi,List.getElem?_eq_getElem hk] at e;exact absurd e.symm this
theorem Canon.dst {a:yC} (h:Canon a):a.Pairwise λx y=>x.Fs≠y.Fs:=h.asc.imp λ{x y} hxy e=>by rw [e,z9U.refl] at hxy; omega
theorem zbjX {a:yC} (h:Canon a) {i:Nat} (hi:i<a.length):zGO a i=zTg a (a.getD i default):=by
 rw [Bool.eq_iff_iff,zSd,zWs];constructor
 ·intro hk u hu hd;obtain ⟨k,hkl,rfl⟩:=zzR hu;by_cases e:k=i
  ·rw [e]
  ·have:=(hk k hkl e hd).1;exact zbdw (h.fac _ hu) (h.fac _ (zr hi)) hd this
 ·intro hm k hk hne hd;have e:=hm _ (zr hk) hd;exact absurd (zbd9 h.dst hk hi e) hne
theorem zbh2 {a:yC} (h:Canon a):zAk a=zx4 a:=by
 unfold zAk zx4;rw [<- zMU (zTg a) a,List.map_map]
 have:(List.range a.length).filter (zGO a)=(List.range a.length).filter λi=>zTg a (a.getD i default):=by
  refine List.filter_congr λi hi=> ?_
  exact zbjX h (List.mem_range.1 hi)
 rw [this]; rfl
def ziW (l:yD):yD:=l.map λf=>⟨f.At,1⟩
theorem zbfg {l:yD} (h:zI0 l):zI0 (ziW l):=by
 unfold ziW zI0;rw [List.pairwise_map]; exact h
theorem zbmN {a o s:yC} (hf:∀ t∈a,zI0 t.Fs) (hs:s.Perm (zAk a)) (hp:s.Pairwise λt u=>¬ cL u.Fs t.Fs<0) (ho:Canon o) (hm:∀ L,(∃ t∈o,t.Fs=L)↔∃ t∈a,t.Fs=L):s=zx4 o:=by
 have mem:∀ t,t∈s↔∃ i<a.length,zGO a i=true/\t=⟨1,(a.getD i default).Fs⟩:=λt=>by rw [hs.mem_iff,zbdM]
 have dst:s.Pairwise λx y=>x.Fs≠y.Fs:=by
  refine (hs.pairwise_iff ?_).2 zbkJ;intro x y h e; exact h e.symm
 have cs:Canon s:=by
  refine ⟨?_,λt ht=> ?_⟩
  ·have h2:=hp.and dst;refine h2.imp λ{t u} h=> ?_
   have:=z9U.conn (x:=t.Fs) (y:=u.Fs);refine Classical.byContradiction λhc=>h.2 (this hc h.1)
  ·obtain ⟨i,hi,_,rfl⟩:=(mem t).1 ht;exact hf (a.getD i default) (zr hi)
 -- the first of those with given factors
 have first:∀ (n i:Nat),i<=n->i<a.length->∃ j<a.length,(a.getD j default).Fs=(a.getD i default).Fs/\∀ k<a.length,(a.getD k default).Fs=(a.getD i default).Fs->j<=k:=by
  intro n;induction n with
  | zero=>intro i hi hl; exact ⟨i,hl,rfl,λk _ _=>by omega⟩
  | succ n ih=>
   intro i hi hl;by_cases h:∃ k<i,(a.getD k default).Fs=(a.getD i default).Fs
   ·obtain ⟨k,hk,e⟩:=h;obtain ⟨j,hj,e1,e2⟩:=ih k (by omega) (by omega)
    exact ⟨j,hj,e1.trans e,λk' hk' e'=>e2 k' hk' (e'.trans e.symm)⟩
   ·exact ⟨i,hl,rfl,λk hk e=>by
     refine Classical.byContradiction λhc=>h ⟨k,by omega,e⟩⟩
 refine zbjl cs (zWJ ho) λt=> ?_
 rw [mem,zEY];constructor
 ·rintro ⟨i,hi,hk,rfl⟩
  obtain ⟨u,hu,eu⟩:=(hm _).2 ⟨_,zr hi,rfl⟩;refine ⟨u,hu,zWs.2 λv hv hd=> ?_,by rw [eu]⟩
  obtain ⟨x,hx,ex⟩:=(hm _).1 ⟨v,hv,rfl⟩;obtain ⟨k,hkl,rfl⟩:=zzR hx;rw [<- ex,eu] at hd;rw [<- ex,eu];by_cases e:k=i
  ·rw [e]
  ·have h2:=(zSd.1 hk k hkl e hd).1;exact zbdw (hf _ (zr hkl)) (hf _ (zr hi)) hd h2
 ·rintro ⟨u,hu,hmin,rfl⟩
  obtain ⟨x,hx,ex⟩:=(hm _).1 ⟨u,hu,rfl⟩;obtain ⟨i,hi,rfl⟩:=zzR hx;obtain ⟨j,hj,e1,e2⟩:=first i i (Nat.le_refl _) hi
  refine ⟨j,hj,zSd.2 λk hk hne hd=> ?_,by rw [e1,ex]⟩
  obtain ⟨v,hv,ev⟩:=(hm _).2 ⟨_,zr hk,rfl⟩;have e3:=zWs.1 hmin v hv (by rw [ev, <- ex, <- e1]; exact hd)
  have e4:(a.getD k default).Fs=(a.getD i default).Fs:=by rw [<- ev,e3,ex]
  exact ⟨by rw [e1,e4]; exact zbdC _,e2 k hk e4⟩
end Go.Proofs.YtljlfiomikifjaaGreatDoor
end
