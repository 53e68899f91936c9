/- Texts of this claim, joined (the program, its functions in plain words, and what they compute). -/
import Derived.Test.YtljlfiomikifjaaGreatDoorGC10
set_option autoImplicit false
set_option linter.unusedVariables false
set_option linter.unusedSectionVars false
set_option linter.unusedSimpArgs false
set_option maxRecDepth 1000000
set_option maxHeartbeats 0
/- Substitution: both sides compute the same. -/
noncomputable section
namespace Go.Proofs.YtljlfiomikifjaaGreatDoor
open Go Go.Ab
def toA:yG->RowID->yC
 | [],r=>zWy r
 | b::l,r=>if b.Row=r then b.To else toA l r
def okB (l:yG):Prop:=l.length<=1000/\∀ b∈l,okA b.To
theorem zbfa:∀ {l:yG},(∀ b∈l,okA b.To)->okT (toA l)
 | [],_,r,hr=>by rw [toA]; exact zbn9 hr
 | b::l,h,r,hr=>by
  rw [toA];split
  ·exact h b (by simp)
  ·exact zbfa (λc hc=>h c (by simp [hc])) r hr
theorem zbmd (a b:RowID):(a.Table==b.Table&&(a.Seq==b.Seq&&true))=decide (a=b):=by
 obtain ⟨t,s⟩:=a; obtain ⟨t',s'⟩:=b;rw [Bool.and_true,zl2,zl2, <- Bool.decide_and];congr 1;simp
theorem zbkT (a b:RowID):(a.Table==b.Table&&a.Seq==b.Seq)=decide (a=b):=by rw [<- zbmd,Bool.and_true]
theorem zblu {l:yG} (h:okB l) (r:RowID):∃ b q,zC9 l r=(true,(b,q))/\((q=true/\b=toA l r)\/(q=false/\toA l r=zWy r)):=by
 have key:∀ (n i:Nat),l.length<i+n->i<=l.length->∃ x,zHA n l i r=(true,x)/\((x=.inl (toA (l.drop i) r,true))\/(x=.inr ()/\toA (l.drop i) r=zWy r)):=by
  intro n;induction n with
  | zero=>intro i h1 h2; omega
  | succ n ih=>
   intro i h1 h2;have hlen:=h.1;show ∃ x,(zIa l i r).ev (λx y=>zHA n x.1 x.2.2.1 y.1) (λr=>(true,r)) (false,.inl default)=(true,x)/\_
   unfold zIa;by_cases hi:i<l.length
   ·simp only [Wy.ev_i,Wy.ev_k,Wy.ev_h,Wy.ev_bn,Wy.ev_d,tT,hi,zbkT];rw [zY hi,toA];by_cases hr:(l.getD i default).Row=r
    ·rw [decide_eq_true hr,if_pos hr,cond_true];exact ⟨_,rfl,.inl rfl⟩
    ·rw [decide_eq_false hr,if_neg hr,cond_false,zJ (by omega)]
     exact ih (i+1) (by omega) (by omega)
   ·simp only [Wy.ev_i,Wy.ev_k,Wy.ev_h,Wy.ev_bn,Wy.ev_d,tT,hi];rw [zce hi];exact ⟨_,rfl,.inr ⟨rfl,rfl⟩⟩
 obtain ⟨x,h1,h2⟩:=key (l.length+Int.toNat (0:Int)+(1:Nat)) 0 (by omega) (by omega)
 unfold zC9 zYk;rw [show ((0:Nat):Int)=(0:Int) from rfl] at h1
 rw [Wy.fin_bn,h1];rw [List.drop_zero] at h2;rcases h2 with rfl | ⟨rfl,h2⟩
 ·exact ⟨_,_,rfl,.inl ⟨rfl,rfl⟩⟩
 ·exact ⟨_,_,rfl,.inr ⟨rfl,h2⟩⟩
def RS (s:Int⊕yC) (e:Int) (p:yC):Prop:=match s with
 | .inl x=>e=x/\x≠0
 | .inr q=>e=0/\p=q
theorem zbot (r:yC×Int):RS (opS r) r.2 r.1:=by
 unfold opS;by_cases h:r.2=0
 ·rw [if_pos h]; exact ⟨h,rfl⟩
 ·rw [if_neg h]; exact ⟨rfl,h⟩
theorem zbkC (b:yC) (s:Int⊕yC):sbd s (zKI b 0)=s:=by cases s <;>rfl
section
variable (g:At->yG->Bool×(yC×Int)) (to:yG)
def AG (l:yD):Prop:=∀ f∈l,(g f.At to=(true,ofS (zho (toA to) f.At))/\GS (zho (toA to) f.At))/\0<=f.Exp/\f.Exp<=1000000
theorem zbnU {s:Int⊕yC} (h:GS s):okA (ofS s).1:=by
 cases s with
 | inl e=>exact zkn
 | inr a=>exact h
theorem zbkX {s:Int⊕yC} (h:GS s) (p:yC):RS (sbd s λ_=>.inr p) (ofS s).2 p:=by
 cases s with
 | inl e=>exact ⟨rfl,h⟩
 | inr a=>exact ⟨rfl,rfl⟩
theorem zblo {s:Int⊕yC} (h:GS s) {p:yC} (hp:okA p):GS (sbd s λ_=>.inr p):=zRb h λ_ _=>hp
theorem zbjd {s:Int⊕yC} (p:yC) (N:Nat):sbd (sbd s λ_=>.inr p) (zKI (ofS s).1 N)=sbd s λb=>zKI b N p:=by
 cases s <;>rfl
end
section
variable (g:yC->yG->Bool×(yC×Int)) (to:yG)
structure XG (x:At):Prop where
 va:zuS x=true
 lens:x.Ag.length<=1000000/\x.Items.length<20
 ga:∀ a∈x.Ag,g a to=(true,ofS (zdv (toA to) a []))/\GS (zdv (toA to) a [])
 gi:∀ w∈x.Items,g w.Ann to=(true,ofS (zdv (toA to) w.Ann []))/\GS (zdv (toA to) w.Ann [])
 sa:GL x.Ag.length (zlI (toA to) x.Ag)
 si:GI x.Items (zhE (toA to) x.Items)
 wf:zjk x
theorem zbkm {x:At} (h:zuS x=true):(x.Kind=1->x.Ag.length=2)/\(x.Kind=2\/x.Kind=3->x.Ag.length=1):=by
 cases zIk.1 h <;>simp
end
theorem zbli {a b:yC} (ha:okA a) (hb:okA b):zJl a b=(true,zSS a b):=by
 unfold zJl z5r zSS;simp only [Wy.fin_bn,Wy.fin_i,Wy.fin_k,ha.rvalid,hb.rvalid,cond_true];cases va:zbe a with
 | false=>first | trivial | rfl
 | true=>
  cases vb:zbe b with
  | false=>first | trivial | rfl
  | true=>
   obtain ⟨sa,la,ta⟩:=zAx va ha.2.1;obtain ⟨sb,lb,tb⟩:=zAx vb hb.2.1;have ga:∀ t∈a,GT t:=λt ht=>(ta t ht).1
   have gb:∀ t∈b,GT t:=λt ht=>(tb t ht).1
   have hsl:(zgP a b).length<=1000000:=by have:=zNl b a; omega
   obtain ⟨f1,f2⟩:=zbeZ hsl (zTA b a sa ga gb);simp only [Bool.not_true,cond_false,Bool.and_self,zbmc a b ga gb sa la lb,zTz f1 (by omega:10<=100) f2,cond_true] <;>first | trivial | rfl
theorem zbkO {a b:yC} (ha:okA a) (hb:okA b):zIy a b=(true,zKx a b):=by
 unfold zIy z5F zKx;simp only [Wy.fin_bn,Wy.fin_i,Wy.fin_k,ha.rvalid,hb.rvalid,cond_true];cases va:zbe a with
 | false=>first | trivial | rfl
 | true=>
  cases vb:zbe b with
  | false=>first | trivial | rfl
  | true=>
   obtain ⟨sa,la,ta⟩:=zAx va ha.2.1;obtain ⟨sb,lb,tb⟩:=zAx vb hb.2.1;have hpl:(zgM a b).length<=1000000:=by rw [zbcu]; have:=Nat.mul_le_mul la lb; omega
   have hsl:(zd4 a b).length<=1000000:=by have:=zNl (zgM a b) []; simp at this; exact Nat.le_trans this hpl
   obtain ⟨f1,f2⟩:=zbeZ hsl (zTA (zgM a b) [] .nil (λt ht=>by cases ht) (zbeT ta tb))
   have f1:zw 10 (zd4 a b):=f1;have f2:zX (zd4 a b)<=4611686018427387904:=f2;simp only [Bool.not_true,cond_false,Bool.and_self,zbk0 a b ta tb la lb,zTz f1 (by omega:10<=100) f2,cond_true] <;>first | trivial | rfl
theorem zbi1 {a b:yC} (ha:okA a) (hb:okA b):zC2 a b=(true,zNx a b):=by
 unfold zC2 zXY zNx;simp only [Wy.fin_bn,Wy.fin_i,Wy.fin_k,ha.rvalid,hb.rvalid,cond_true];cases va:zbe a with
 | false=>first | trivial | rfl
 | true=>
  cases vb:zbe b with
  | false=>first | trivial | rfl
  | true=>
   obtain ⟨f1,f2⟩:=zWe (l:=[a,b]) (k:=1) (by simp) (λx hx=>by
    simp only [qd,List.not_mem_nil,or_false] at hx;rcases hx with rfl | rfl
    ·exact va
    ·exact vb)
   simp only [Bool.not_true,cond_false,Bool.and_self,zbbx,zX7 ha.1.1 (by omega:12<=100),zTa,zTz f1 (by omega:10<=100) f2,cond_true,opR]
   by_cases hb0:b=[]
   ·simp only [hb0,decide_true,cond_true,if_true] <;>trivial
   ·by_cases ha0:a=[]
    ·simp only [hb0,ha0,decide_true,decide_false,cond_true,cond_false,if_true,if_false,true_or] <;>trivial
    ·by_cases hab:a=b
     ·simp only [hb0,ha0,hab,decide_true,decide_false,cond_true,cond_false,if_true,if_false,or_true] <;>trivial
     ·simp only [hb0,ha0,hab,decide_false,cond_false,if_false,or_self] <;>first | trivial | rfl
theorem zbik {a:yC} (ha:okA a):zDb a=(true,zOP a):=by
 unfold zDb zXK zOP;simp only [Wy.fin_bn,Wy.fin_i,Wy.fin_k,ha.rvalid,cond_true];cases va:zbe a with
 | false=>first | trivial | rfl
 | true=>
  obtain ⟨f1,f2⟩:=zWe (l:=[a]) (k:=2) (by simp) (λx hx=>by rw [qh] at hx; subst hx; exact va)
  have hla:a.length<=1000000000:=by have:=(zgB va).2.2; omega
  have hbu:isB a=isU a:=z2t va;simp only [Bool.not_true,cond_false,zbbx,zQC,zCG a hla,zTa,zTz f1 (by omega:10<=100) f2,cond_true,opR,hbu]
  rw [show zzc (zhj ⟨2,⟨0,0⟩,[a],0,[],0,⟨0,0,ByteArray.mk #[]⟩⟩)=zzc (zhj (zbfK a)) from rfl]
  clear f1 f2;generalize zzc (zhj (zbfK a))=R;by_cases h0:a=[]
  ·simp only [h0,decide_true,cond_true,if_true,true_or] <;>trivial
  ·cases hu:isU a with
   | true=>simp only [h0,decide_false,cond_false,cond_true,if_true,or_true] <;>trivial
   | false=>
    simp only [h0,decide_false,cond_false,if_false,or_self,Bool.false_eq_true]
    match a,h0 with
    | [t],_=>
     have e1:zzh [t]=(t.Fs.length==0):=by simp [zzh]
     have e2:isC [t]=(t.Fs.length==0):=rfl;rw [e1,e2];cases (t.Fs.length==0) with
     | true=>simp only [cond_true,if_true] <;>first | trivial | rfl
     | false=>simp only [cond_false,cond_true,Bool.false_eq_true,if_false] <;>first | trivial | rfl
    | t::s::r,_=>
     have e2:isC (t::s::r)=false:=rfl;simp only [zRA,e2,cond_false,cond_true,Bool.false_eq_true,if_false]
theorem zbg4 {a:yC} (ha:okA a):zAk a=(true,zPf a):=by
 unfold zAk zT4 zPf;simp only [Wy.fin_bn,Wy.fin_i,Wy.fin_k,ha.rvalid,cond_true];cases va:zbe a with
 | false=>first | trivial | rfl
 | true=>
  obtain ⟨f1,f2⟩:=zWe (l:=[a]) (k:=3) (by simp) (λx hx=>by rw [qh] at hx; subst hx; exact va)
  have hla:a.length<=1000000000:=by have:=(zgB va).2.2; omega
  simp only [Bool.not_true,cond_false,zbbx,zCG a hla,zTa,zTz f1 (by omega:10<=100) f2,cond_true,opR]
  by_cases h0:a=[]
  ·simp only [h0,decide_true,cond_true,if_true] <;>first | trivial | rfl
  ·cases hu:zzh a with
   | true=>simp only [h0,decide_false,cond_false,cond_true,if_true,if_false] <;>trivial
   | false=>simp only [h0,decide_false,cond_false,if_false,Bool.false_eq_true] <;>first | trivial | rfl
theorem zbii (n:Int):zDa n=(true,zD5 n):=by
 unfold zDa zYq zD5;by_cases h:n<1
 ·simp only [Wy.fin_i,Wy.fin_k,h,decide_true,cond_true,if_true]
 ·simp only [Wy.fin_i,Wy.fin_k,h,decide_false,cond_false,if_false]
theorem zblv {f o:Int} {i l:yE} {b:Value} (h20:i.length<=1000000) (hl:l.length=i.length/\∀ w∈l,okA w.Ann/\∃ v∈i,v.Value=w.Value):zBI f l o b=(true,zDy f l o b):=by
 have h1:∀ w∈l,zw 12 w.Ann/\zX w.Ann<=4611686018427387904:=λw hw=>(hl.2 w hw).1.1
 exact zblj f l o b (by omega) h1 (by omega)
theorem zbfo:∀ (l:yD) (k:Nat),k<l.length->(l.getD k default).Exp.toNat<=zKS l
 | [],k,h=>by simp at h
 | f::r,0,_=>by show f.Exp.toNat<=_; rw [zKS]; omega
 | f::r,k+1,h=>by
  have:=zbfo r k (by simpa using h)
  show (r.getD k default).Exp.toNat<=_;rw [zKS]; omega
theorem zbeQ:∀ (l:yC) (k:Nat),k<l.length->zKS (l.getD k default).Fs<=zbD l
 | [],k,h=>by simp at h
 | f::r,0,_=>by show zKS f.Fs<=_; rw [zbD]; omega
 | f::r,k+1,h=>by
  have:=zbeQ r k (by simpa using h)
  show zKS (r.getD k default).Fs<=_;rw [zbD]; omega
section
variable (g:At->yG->Bool×(yC×Int)) (l:yG)
theorem zblV (a:yC) (i k:Nat) (hi:i<a.length) (hk:k<(a.getD i default).Fs.length) (out b:yC) (hb:okA b) (N:Nat) (hN:((a.getD i default).Fs.getD k default).Exp=N) (hN':N<=1000000):
  ∀ (n j:Nat) (e:Int) (p:yC) (s:Int⊕yC),N<j+n->j<=N->GS s->RS s e p->∃ e' p',zzm g n a l out i p k b e j=(true,(a,l,out,(i:Int),p',(k:Int),e'))/\RS (sbd s (zKI b (N - j))) e' p'
 | 0,j,e,p,s,h1,h2,_,_=>by omega
 | n+1,j,e,p,s,h1,h2,hs,hr=>by
  show ∃ e' p',(zzo g a l out i p k b e j).ev (λx y=>zzm g n x.1 x.2.1 x.2.2.1 x.2.2.2.1 x.2.2.2.2.1 x.2.2.2.2.2.1 x.2.2.2.2.2.2.1 x.2.2.2.2.2.2.2.1 x.2.2.2.2.2.2.2.2.1) (λr=>(true,r)) (false,default)=_/\_
  unfold zzo;simp only [Wy.ev_i,Wy.ev_k,Wy.ev_h,Wy.ev_bn,Wy.ev_d,tT,hi,hk,hN];by_cases hj:j<N
  ·have hk:N - j=(N - (j+1))+1:=by omega
   cases s with
   | inl x=>
    obtain ⟨rfl,hx⟩:=hr;have he:(e==(0:Int))=false:=by simp [hx]
    simp only [hj,decide_true,cond_true,he,cond_false];exact ⟨e,p,rfl,rfl,hx⟩
   | inr q=>
    obtain ⟨rfl,rfl⟩:=hr;have hp:okA p:=hs;simp only [hj,decide_true,cond_true,zbkO hp hb,zJ (show j<4611686018427387904 by omega),show ((0:Int)==0)=true from rfl]
    rw [hk];exact zblV a i _ hi (by assumption) out b hb N hN hN' n (j+1) (zKx p b).2 (zKx p b).1 (opS (zKx p b)) (by omega) (by omega) (zVD (zbhk hp hb)) (zbot _)
  ·have hk:N - j=0:=by omega
   simp only [hj,decide_false,cond_false];rw [hk,zbkC];exact ⟨e,p,rfl,hr⟩
theorem zbnO (a:yC) (hal:a.length<=1000000) (i:Nat) (hi:i<a.length) (hl:(a.getD i default).Fs.length<=1000000) (hg:AG g l (a.getD i default).Fs) (out:yC):
  ∀ (n k:Nat) (p:yC),(a.getD i default).Fs.length<k+n->k<=(a.getD i default).Fs.length->okA p->zAh g n a l out i p k=(true,match zeK (toA l) ((a.getD i default).Fs.drop k) p with
   | .inl e=>.inl e
   | .inr q=>.inr (a,l,out,(i:Int),q))
 | 0,k,p,h1,h2,_=>by omega
 | n+1,k,p,h1,h2,hp=>by
  show (zAG g a l out i p k).ev (λx y=>zAh g n x.1 x.2.1 x.2.2.1 x.2.2.2.1 x.2.2.2.2.1 x.2.2.2.2.2.1) (λr=>(true,r)) (false,.inl default)=_
  unfold zAG;by_cases hk:k<(a.getD i default).Fs.length
  ·obtain ⟨⟨hf,hG⟩,e0,e1⟩:=hg _ (zI hk);obtain ⟨N,hN⟩:∃ N:Nat,((a.getD i default).Fs.getD k default).Exp=(N:Int):=⟨_,(Int.toNat_of_nonneg e0).symm⟩;have hsz:=Nat.le_trans (zbfo _ k hk) (zbeQ a i hi);rw [hN,Int.toNat_natCast] at hsz
   obtain ⟨e',p',h11,hrs⟩:=zblV g l a i k hi hk out (ofS (zho (toA l) ((a.getD i default).Fs.getD k default).At)).1 (zbnU hG) N hN (by omega)
    ((a.length+l.length+out.length+(i:Int).toNat +p.length+(k:Int).toNat +(ofS (zho (toA l) ((a.getD i default).Fs.getD k default).At)).1.length+(ofS (zho (toA l) ((a.getD i default).Fs.getD k default).At)).2.toNat +Int.toNat (0:Int)+(1:Nat))+zbD a+zbD out+zbD p+zbD (ofS (zho (toA l) ((a.getD i default).Fs.getD k default).At)).1) 0 _ p _ (by omega) (by omega) (zblo hG hp) (zbkX hG p)
   rw [zbjd,Nat.sub_zero] at hrs;rw [show ((0:Nat):Int)=(0:Int) from rfl] at h11
   rw [zY hk,zTX,hN,Int.toNat_natCast];simp only [Wy.ev_i,Wy.ev_k,Wy.ev_h,Wy.ev_bn,Wy.ev_d,tT,hi,hk,At.eta,hf,zHG];simp only [Int.toNat_natCast] at h11;rw [h11];have hS:=hG;revert hrs hS;cases zho (toA l) ((a.getD i default).Fs.getD k default).At with
   | inl x=>
    rintro ⟨rfl,hx⟩ _
    simp [hx,z3j]
   | inr b=>
    intro hrs hb;simp only [znM] at hrs ⊢;have hq:=zbev (b:=b) hb N p hp;revert hrs hq;cases zKI b N p with
    | inl x=>
     rintro ⟨rfl,hx⟩ _
     simp [hx,z3j]
    | inr q=>
     rintro ⟨rfl,rfl⟩ hq
     simp only [znM,decide_true,Bool.not_true,cond_true,cond_false,zJ (show k<4611686018427387904 by omega)]
     exact zbnO a hal i hi hl hg out n (k+1) p' (by omega) (by omega) hq
  ·simp only [Wy.ev_i,Wy.ev_k,Wy.ev_h,Wy.ev_bn,Wy.ev_d,tT,hi,hk];rw [zce hk,zXW]
theorem zbnB (a:yC) (hal:a.length<=1000000) (hg:∀ t∈a,t.Fs.length<=1000000/\AG g l t.Fs) (hok:∀ t∈a,∀ p,okA p->GS (zeK (toA l) t.Fs p)):
  ∀ (n i:Nat) (s:yC),a.length<i+n->i<=a.length->okA s->zA6 g n a l s i=(true,zdv (toA l) (a.drop i) s)
 | 0,i,s,h1,h2,_=>by omega
 | n+1,i,s,h1,h2,hs=>by
  show (zA3 g a l s i).ev (λx y=>zA6 g n x.1 x.2.1 x.2.2.1 x.2.2.2.1) (λr=>(true,r)) (false,.inl default)=_
  unfold zA3;by_cases hi:i<a.length
  ·have ht:=hg _ (zI hi);have hc:=zbje (a.getD i default).Cf;have hsz:=szTs_get' a i hi;have h7:=zbnO g l a hal i hi ht.1 ht.2 s ((a.length+l.length+s.length+(i:Int).toNat +(zD5 (a.getD i default).Cf).length+Int.toNat (0:Int)+(1:Nat))+zbD a+zbD s+zbD (zD5 (a.getD i default).Cf)) 0 (zD5 (a.getD i default).Cf) (by omega) (by omega) hc
   rw [show ((0:Nat):Int)=(0:Int) from rfl,List.drop_zero] at h7
   simp only [Int.toNat_natCast] at h7;rw [zY hi,z94];simp only [Wy.ev_i,Wy.ev_k,Wy.ev_h,Wy.ev_bn,Wy.ev_d,tT,hi,zbii _];rw [h7];have hS:=hok _ (zI hi) _ hc;revert hS;cases zeK (toA l) (a.getD i default).Fs (zD5 (a.getD i default).Cf) with
   | inl e=>intro _; rfl
   | inr p=>
    intro hp;have hp:okA p:=hp;simp only [znM,isL,getR,cond_true,cond_false,zbli hs hp,zHG];have hG:=zbhR hs hp;unfold opS;by_cases he:(zSS s p).2=0
    ·rw [if_pos he,decide_eq_true he,znM,zJ (show i<4611686018427387904 by omega)]
     exact zbnB a hal hg hok n (i+1) _ (by omega) (by omega) hG.1
    ·rw [if_neg he,decide_eq_false he]; rfl
  ·simp only [Wy.ev_i,Wy.ev_k,Wy.ev_h,Wy.ev_bn,Wy.ev_d,tT,hi];rw [zce hi,zbcn]
theorem zboS (a:yC) (hal:a.length<=1000000) (hg:∀ t∈a,t.Fs.length<=1000000/\AG g l t.Fs) (hok:∀ t∈a,∀ p,okA p->GS (zeK (toA l) t.Fs p)):zto g a l=(true,ofS (zdv (toA l) a [])):=by
 unfold zto zL3;have h3:=zbnB g l a hal hg hok ((a.length+l.length+(0:Nat)+Int.toNat (0:Int)+(1:Nat))+zbD a+zbD []) 0 [] (by omega) (by omega) zkn
 rw [show ((0:Nat):Int)=(0:Int) from rfl,List.drop_zero] at h3
 rw [Wy.fin_bn,h3];cases zdv (toA l) a [] <;>rfl
end
section
variable (g:yC->yG->Bool×(yC×Int)) (l:yG)
theorem zbnD (x:At) (hl:x.Ag.length<=1000000) (hg:∀ a∈x.Ag,g a l=(true,ofS (zdv (toA l) a []))/\GS (zdv (toA l) a [])):
  ∀ (n i:Nat) (xs:yA),x.Ag.length<i+n->i<=x.Ag.length->xs.length<=i->zFr g n l i x xs=(true,match zlI (toA l) (x.Ag.drop i) with
   | .inl e=>.inl e
   | .inr ys=>.inr (l,x,xs++ys))
 | 0,i,xs,h1,h2,_=>by omega
 | n+1,i,xs,h1,h2,hx=>by
  have hreach:zP=70368744177664:=rfl;show (zFW g l i x xs).ev (λx y=>zFr g n x.1 x.2.2.2.1 y.1 y.2.1) (λr=>(true,r)) (false,.inl default)=_
  unfold zFW;by_cases hi:i<x.Ag.length
  ·obtain ⟨hf,hG⟩:=hg _ (zI hi);have hb:decide ((xs.length+1)*24<=zP)=true:=by simp only [qe]; omega
   rw [zY hi,zCX];simp only [Wy.ev_i,Wy.ev_k,Wy.ev_h,Wy.ev_bn,Wy.ev_d,tT,hi,hf,zHG,List.length_singleton,hb];revert hG;cases zdv (toA l) (x.Ag.getD i default) [] with
   | inl e=>intro he; simp [ofS,show e≠0 from he,z3j]
   | inr b=>
    intro _;simp only [ofS,decide_true,Bool.not_true,cond_false,znM,zJ (show i<4611686018427387904 by omega)]
    rw [zbnD x hl hg n (i+1) (xs++[b]) (by omega) (by omega) (by simp; omega)]
    cases zlI (toA l) (x.Ag.drop (i+1)) with
    | inl e=>rfl
    | inr ys=>simp [znM]
  ·simp only [Wy.ev_i,Wy.ev_k,Wy.ev_h,Wy.ev_bn,Wy.ev_d,tT,hi];rw [zce hi,zMP]; simp
theorem zblK (x:At) (as_:yA) (hl:x.Items.length<=1000000) (hg:∀ w∈x.Items,g w.Ann l=(true,ofS (zdv (toA l) w.Ann []))/\GS (zdv (toA l) w.Ann [])):
  ∀ (n i:Nat) (xs:yE),x.Items.length<i+n->i<=x.Items.length->xs.length<=i->zDS g n l i x as_ xs=(true,match zhE (toA l) (x.Items.drop i) with
   | .inl e=>.inl e
   | .inr ys=>.inr (x,as_,xs++ys))
 | 0,i,xs,h1,h2,_=>by omega
 | n+1,i,xs,h1,h2,hx=>by
  have hreach:zP=70368744177664:=rfl;show (zDP g l i x as_ xs).ev (λx y=>zDS g n x.1 x.2.2.2.2.1 y.1 y.2.1 y.2.2.1) (λr=>(true,r)) (false,.inl default)=_
  unfold zDP;by_cases hi:i<x.Items.length
  ·obtain ⟨hf,hG⟩:=hg _ (zI hi);have hb:decide ((xs.length+1)*56<=zP)=true:=by simp only [qe]; omega
   rw [zY hi,z00];simp only [Wy.ev_i,Wy.ev_k,Wy.ev_h,Wy.ev_bn,Wy.ev_d,tT,hi,hf,zHG,List.length_singleton,hb];revert hG;cases zdv (toA l) (x.Items.getD i default).Ann [] with
   | inl e=>intro he; simp [ofS,show e≠0 from he,z3j]
   | inr b=>
    intro _;simp only [ofS,decide_true,Bool.not_true,cond_false,znM,zJ (show i<4611686018427387904 by omega)]
    rw [zblK x as_ hl hg n (i+1) (xs++[WO.mk (x.Items.getD i default).Value b]) (by omega) (by omega) (by simp; omega)]
    cases zhE (toA l) (x.Items.drop (i+1)) with
    | inl e=>rfl
    | inr ys=>simp [znM]
  ·simp only [Wy.ev_i,Wy.ev_k,Wy.ev_h,Wy.ev_bn,Wy.ev_d,tT,hi];rw [zce hi,zSp]; simp
theorem zbkn {x:At} (h:zuS x=true) (hk:x.Kind=1\/x.Kind=2\/x.Kind=3):x.Items=[]:=by
 cases zIk.1 h <;>simp_all
theorem zbml (hto:okB l) (x:At) (h:XG g l x):zAQ g x l=(true,ofS (zho (toA l) x)):=by
 unfold zAQ zU5;have h8:=zbnD g l x h.lens.1 h.ga (l.length+Int.toNat (0:Int)+x.Ag.length+x.Items.length+(0:Nat)+(1:Nat)) 0 [] (by omega) (by omega) (by simp)
 rw [show ((0:Nat):Int)=(0:Int) from rfl,List.drop_zero] at h8
 have h16:=λxs:yA=>zblK g l x xs (by have:=h.lens.2; omega) h.gi (l.length+Int.toNat (0:Int)+x.Ag.length+x.Items.length+xs.length+(0:Nat)+(1:Nat)) 0 [] (by omega) (by omega) (by simp)
 simp only [show ((0:Nat):Int)=(0:Int) from rfl,List.drop_zero,List.nil_append] at h16
 have b0:=zl2 x.Kind 0;have b1:=zl2 x.Kind 1;have b2:=zl2 x.Kind 2;have b3:=zl2 x.Kind 3;rw [At.eta,zbcW];simp only [Wy.fin_i,Wy.fin_bn,Wy.fin_k,cond_true,h8,List.nil_append];by_cases hk0:x.Kind=0
 ·rw [b0,decide_eq_true hk0,if_pos hk0];obtain ⟨b,q,h1,h2⟩:=zblu hto x.Row;simp only [cond_true,h1];rcases h2 with ⟨rfl,rfl⟩ | ⟨rfl,h2⟩
  ·rfl
  ·rw [h2]; simp only [cond_false,(zbnI x.Row).2]; rfl
 ·rw [b0,decide_eq_false hk0,if_neg hk0,cond_false];have hA:=h.sa;have hlen:=zbkm h.va;revert hA;cases zlI (toA l) x.Ag with
  | inl e=>intro _; rfl
  | inr xs=>
   intro hxs;have hxl:xs.length=x.Ag.length/\∀ a∈xs,okA a:=hxs;have o0:=zWR hxl.2 0;have o1:=zWR hxl.2 1;simp only [isL,getR,cond_false,znM,At.eta,h16];by_cases hk:x.Kind=1\/x.Kind=2\/x.Kind=3
   ·rw [zbkn h.va hk,zSp];simp only [cond_true,cond_false,isL,getR];rcases hk with hk1 | hk2 | hk3
    ·have:=hlen.1 hk1;rw [b1,decide_eq_true hk1,if_pos hk1];simp only [cond_true,show Int.toNat (0:Int)=0 from rfl,show Int.toNat (1:Int)=1 from rfl,zbi1 o0 o1,z3z (zbhn o0 o1).2]
     simp [hxl.1,this]
    ·have:=hlen.2 (.inl hk2);have n1:¬ x.Kind=1:=by omega
     rw [b1,decide_eq_false n1,if_neg n1,cond_false,b2,decide_eq_true hk2,if_pos hk2];simp only [cond_true,show Int.toNat (0:Int)=0 from rfl,zbik o0,z3z (zbhX o0).2]
     simp [hxl.1,this]
    ·have:=hlen.2 (.inr hk3);have n1:¬ x.Kind=1:=by omega
     have n2:¬ x.Kind=2:=by omega
     rw [b1,decide_eq_false n1,if_neg n1,cond_false,b2,decide_eq_false n2,if_neg n2,cond_false,b3,decide_eq_true hk3,if_pos hk3];simp only [cond_true,show Int.toNat (0:Int)=0 from rfl,zbg4 o0,z3z (zbhA o0).2]
     simp [hxl.1,this]
   ·have n1:¬ x.Kind=1:=λe=>hk (.inl e)
    have n2:¬ x.Kind=2:=λe=>hk (.inr (.inl e))
    have n3:¬ x.Kind=3:=λe=>hk (.inr (.inr e))
    rw [if_neg n1,if_neg n2,if_neg n3];have hI:=h.si;revert hI;cases zhE (toA l) x.Items with
    | inl e=>intro _; rfl
    | inr is=>
     intro his;have ht:=zblv (f:=x.Func) (o:=x.Op) (b:=x.Bd) (by have:=h.lens.2; omega) his
     simp only [cond_true,cond_false,isL,getR,b1,b2,b3,decide_eq_false n1,decide_eq_false n2,decide_eq_false n3,ht,znM];have hw:=zBF h.wf;have hl:is.length=x.Items.length/\∀ w∈is,okA w.Ann/\∃ v∈x.Items,v.Value=w.Value:=his
     rw [z3z (zbcm (by have:=h.lens.2; omega) (λw hw'=>⟨(hl.2 w hw').1,by
      obtain ⟨v,hv,e⟩:=(hl.2 w hw').2;rw [<- e]; exact (zmV hw.2.1.1 v hv).1⟩) hw.2.2.2.2.2.1 hw.2.2.2.2.2.2 hw.2.2.1).2]
end
theorem z5n:∀ {l:yA} {a:yC},a∈l->zbw a<=zqd l
 | [],_,h=>by cases h
 | x::r,a,h=>by
  rw [zA1];rcases qd.1 h with rfl | h
  ·omega
  ·have:=z5n h; omega
theorem z28:∀ {l:yE} {w:Wd},w∈l->zbw w.Ann<=zkf l
 | [],_,h=>by cases h
 | x::r,a,h=>by
  rw [zLe];rcases qd.1 h with rfl | h
  ·omega
  ·have:=z28 h; omega
theorem zBU:∀ {l:yD} {f:Fc},f∈l->zfq f.At<=zZ l
 | [],_,h=>by cases h
 | x::r,a,h=>by
  rw [zlu];rcases qd.1 h with rfl | h
  ·omega
  ·have:=zBU h; omega
theorem zVE:∀ {l:yC} {t:Term},t∈l->zZ t.Fs<=zbw l
 | [],_,h=>by cases h
 | x::r,a,h=>by
  rw [zit];rcases qd.1 h with rfl | h
  ·omega
  ·have:=zVE h; omega
theorem z0O:∀ {l:yE},(∀ w∈l,w.Ann≠[])->l.length<=zkf l
 | [],_=>by simp
 | x::r,h=>by
  rw [zLe];have:=z0O (l:=r) λw hw=>h w (by simp [hw])
  have h1:1<=zbw x.Ann:=by
   have:=h x (by simp)
   cases hx:x.Ann with
   | nil=>exact absurd hx this
   | cons t r=>rw [zit]; omega
  simp only [qf];omega
mutual
def zAN:At->Prop
 | ⟨_,_,a,_,i,_,_⟩=>i.length<20/\zTl a/\zNi i
def zEO:yD->Prop
 | []=>True
 | ⟨x,_⟩::r=>zAN x/\zEO r
def zca:yC->Prop
 | []=>True
 | ⟨_,fs⟩::r=>zEO fs/\zca r
def zTl:yA->Prop
 | []=>True
 | a::r=>zca a/\zTl r
def zNi:yE->Prop
 | []=>True
 | ⟨_,a⟩::r=>zca a/\zNi r
end
theorem zGc (x:At):zAN x↔x.Items.length<20/\zTl x.Ag/\zNi x.Items:=by cases x; rw [zAN]
theorem zyc:∀ {l:yD},zEO l↔∀ f∈l,zAN f.At
 | []=>by rw [zEO]; simp
 | ⟨x,e⟩::r=>by rw [zEO,zyc (l:=r)]; simp
theorem zJs:∀ {l:yC},zca l↔∀ t∈l,zEO t.Fs
 | []=>by rw [zca]; simp
 | ⟨x,e⟩::r=>by rw [zca,zJs (l:=r)]; simp
theorem zBA:∀ {l:yA},zTl l↔∀ a∈l,zca a
 | []=>by rw [zTl]; simp
 | a::r=>by rw [zTl,zBA (l:=r)]; simp
theorem zyZ:∀ {l:yE},zNi l↔∀ w∈l,zca w.Ann
 | []=>by rw [zNi]; simp
 | ⟨x,e⟩::r=>by rw [zNi,zyZ (l:=r)]; simp
theorem zbcY {m:Nat} {a:yC} (h:zbR (m+1) a=true):zhU a=true/\∀ t∈a,t.Fs.length<=64/\∀ f∈t.Fs,(1<=f.Exp/\f.Exp<=64)/\f.At.Items.length<=1024/\zeG (zbR m) f.At=true:=by
 have hw:=zQO h;refine ⟨hw,λt ht=> ?_⟩
 obtain ⟨l1,l2⟩:=(zBs hw).2.2.2 t ht;refine ⟨l1,λf hf=> ?_⟩
 obtain ⟨⟨e1,_⟩,hv⟩:=zBY (zEL h ht).2 hf;exact ⟨⟨e1,(l2 f hf).1⟩,(l2 f hf).2,hv⟩
theorem z5i:∀ (m:Nat) (a:yC),zbR m a=true->zbR (m+1) a=true
 | 0,_,h=>by cases h
 | m+1,a,h=>by
  have h':zxN (zeG (zbR m)) a=true:=h;obtain ⟨h1,h2,h3⟩:=zNR.1 h';refine (zNR (vat:=zeG (zbR (m+1)))).2 ⟨h1,h2,λt ht=>⟨(h3 t ht).1,(h3 t ht).2.1,λf hf=>⟨((h3 t ht).2.2 f hf).1, ?_⟩⟩⟩
  exact zev.2 ((zev.1 ((h3 t ht).2.2 f hf).2).imp (z5i m))
theorem zblz:∀ {m:Nat} {a:yC},zbR m a=true->zbe a=true:=by
 intro m a h
 have key:∀ k,zbR (m+k) a=true:=λk=>by
  induction k with
  | zero=>exact h
  | succ k ih=>exact z5i _ _ ih
 exact zbfH (key 9) (by omega)
theorem zblh {m:Nat} {x:At} (h:zeG (zbR m) x=true) (hm:m<=99):zuS x=true:=by
 refine zIk.2 ((zev.1 h).imp λa ha=> ?_)
 exact zblz ha
theorem z5t {V:yC->Bool} {x:At} (h:zeG V x=true):(∀ a∈x.Ag,V a=true)/\∀ w∈x.Items,V w.Ann=true/\w.Ann≠[]:=by
 constructor
 ·cases zev.1 h <;>simp_all
 ·cases zev.1 h <;>simp_all
theorem z68:∀ (m:Nat) (a:yC),zbR m a=true->zbw a<=38->zca a
 | 0,_,h,_=>by cases h
 | m+1,a,h,hs=>by
  obtain ⟨_,w2⟩:=zbcY h;refine zJs.2 λt ht=>zyc.2 λf hf=>(zGc _).2 ?_
  have hv:=((w2 t ht).2 f hf).2.2;have h1:=zBU hf;have h2:=zVE ht;have h3:=zFf f.At;obtain ⟨hargs,hitems⟩:=z5t hv;refine ⟨by have:=z0O λw hw=>(hitems w hw).2; omega,zBA.2 λb hb=>z68 m b (hargs b hb) (by have:=z5n hb; omega),zyZ.2 λw hw=>z68 m w.Ann (hitems w hw).1 (by have:=z28 hw; omega)⟩
theorem zben {l:yG} (hl:okB l):∀ n,
  (∀ m a,zbR m a=true->m<=99->zhV a->zca a->2*m<=n->ztm n a l=(true,ofS (zdv (toA l) a []))/\GS (zdv (toA l) a []))/\
  (∀ m x,zeG (zbR m) x=true->m<=99->zjk x->x.Items.length<=1024->zAN x->2*m+1<=n->zAA n x l=(true,ofS (zho (toA l) x))/\GS (zho (toA l) x))
 | 0=>by
  refine ⟨λm a h _ _ _ hm=> ?_,λm x _ _ _ _ _ hm=>by omega⟩
  have:m=0:=by omega
  subst this; cases h
 | n+1=>by
  obtain ⟨h1,h2⟩:=zben hl n;have ht:okT (toA l):=zbfa hl.2;refine ⟨λm a h h99 hw hs hm=> ?_,λm x h h99 hw hi hs hm=> ?_⟩
  ·cases m with
   | zero=>cases h
   | succ m=>
    obtain ⟨w1,w2⟩:=zbcY h;obtain ⟨a1,a2,a3,a4⟩:=zBs w1;have hwt:=λt (ht:t∈a)=>zBm (zwY hw t ht)
    have hwf:=λt (ht:t∈a) f (hf:f∈t.Fs)=>(zv0 (zti (hwt t ht).2.1 f hf)).1
    have hA:∀ t∈a,∀ f∈t.Fs,(zAA n f.At l=(true,ofS (zho (toA l) f.At))/\GS (zho (toA l) f.At)):=λt ht f hf=>
     h2 m f.At ((w2 t ht).2 f hf).2.2 (by omega) (hwf t ht f hf) ((w2 t ht).2 f hf).2.1 (zyc.1 (zJs.1 hs t ht) f hf) (by omega)
    have hE:=λt (ht:t∈a) f (hf:f∈t.Fs)=>((w2 t ht).2 f hf).1
    have hok:∀ t∈a,∀ p,okA p->GS (zeK (toA l) t.Fs p):=λt ht' p hp=>zOe ht t.Fs 9 (λf hf=>⟨hwf t ht' f hf,zBZ ((w2 t ht').2 f hf).2.2 ((w2 t ht').2 f hf).2.1⟩) p hp
    have hG:GS (zdv (toA l) a []):=zO6 ht a 9 hw (λt ht f hf=>zBZ ((w2 t ht).2 f hf).2.2 ((w2 t ht).2 f hf).2.1) [] zkn
    refine ⟨?_,hG⟩
    ·rw [z1c];exact zboS _ l a (by omega) (λt ht=>⟨by have:=(w2 t ht).1; omega,λf hf=>⟨⟨(hA t ht f hf).1,(hA t ht f hf).2⟩,by have:=(hE t ht f hf).1; omega,by have:=(hE t ht f hf).2; omega⟩⟩) hok
  ·have hf:=zBZ h hi;have hw':=zBF hw;have hv:=zblh h h99;obtain ⟨h20,s1,s2⟩:=(zGc x).1 hs;obtain ⟨hargs,hitems⟩:=z5t h;have ga:=λa (ha:a∈x.Ag)=>h1 m a (hargs a ha) h99 (zlc hw'.1.1 a ha).1 (zBA.1 s1 a ha) (by omega)
   have gi:=λw (hw:w∈x.Items)=>h1 m w.Ann (hitems w hw).1 h99 (zmV hw'.2.1.1 w hw).2.1 (zyZ.1 s2 w hw) (by omega)
   have sa:=z1o ht x.Ag 9 (λa ha=>(zlc hw'.1.1 a ha).1) hf.2.1
   have si:=zXx ht x.Items 9 (λw hw=>(zmV hw'.2.1.1 w hw).2.1) λw hw=>(hf.2.2 w hw).2
   refine ⟨?_,zbcM ht x 9 hw hf⟩
   ·rw [z7Y];exact zbml _ l hl x ⟨hv,⟨hf.1.1,h20⟩,λa ha=>⟨(ga a ha).1,(ga a ha).2⟩,λw hw=>⟨(gi w hw).1,(gi w hw).2⟩,sa,si,hw⟩
def zbaG (a b:yC):yC:=if b=[] then a else if a=[]\/a=b then [] else zhj (zbkB a b)
def z2r (a:yC):yC:=if a=[]\/isU a=true then a else if isC a=true then [⟨1,[]⟩] else zhj (zbfK a)
def zZ3 (a:yC):yC:=if a=[] then [⟨1,[]⟩] else if zzh a=true then [] else zhj (zbkZ a)
def z29 (f:Int) (l:yE) (o:Int) (b:Value):yC:=
 if 0<(zgd l).length then zhj (z0E f (zgd l) o b) else if (f==0&&z2L o (zdJ 0 b.Int))=true then [⟨1,[]⟩] else []
theorem zbnW {a b:yC} (h:(zNx a b).2=0):(zbe a=true/\zbe b=true)/\zNx a b=(zbaG a b,0):=by
 unfold zNx at *;obtain ⟨h1,h2⟩:=z3w h;rw [qc] at h1;refine ⟨h1, ?_⟩;rw [h2] at h ⊢;unfold zbaG;split at h
 ·rename_i hb; rw [if_pos hb,if_pos hb]
 ·rename_i hb;rw [if_neg hb,if_neg hb];split at h
  ·rename_i hc; rw [if_pos hc,if_pos hc]
  ·rename_i hc; rw [if_neg hc,if_neg hc]; exact (zUj h).2
theorem zbno {a:yC} (h:(zOP a).2=0):zbe a=true/\zOP a=(z2r a,0):=by
 unfold zOP at *;obtain ⟨h1,h2⟩:=z3w h;refine ⟨h1, ?_⟩;rw [h2] at h ⊢;unfold z2r;split at h
 ·rename_i hb; rw [if_pos hb,if_pos hb]
 ·rename_i hb;rw [if_neg hb,if_neg hb];split at h
  ·rename_i hc; rw [if_pos hc,if_pos hc]
  ·rename_i hc; rw [if_neg hc,if_neg hc]; exact (zUj h).2
theorem zbny {a:yC} (h:(zPf a).2=0):zbe a=true/\zPf a=(zZ3 a,0):=by
 unfold zPf at *;obtain ⟨h1,h2⟩:=z3w h;refine ⟨h1, ?_⟩;rw [h2] at h ⊢;unfold zZ3;split at h
 ·rename_i hb; rw [if_pos hb,if_pos hb]
 ·rename_i hb;rw [if_neg hb,if_neg hb];split at h
  ·rename_i hc; rw [if_pos hc,if_pos hc]
  ·rename_i hc; rw [if_neg hc,if_neg hc]; exact (zUj h).2
theorem zbmu {f o:Int} {l:yE} {b:Value} (h:(zDy f l o b).2=0):(zAY f l o b=true/\∀ w∈l,zbe w.Ann=true)/\zDy f l o b=(z29 f l o b,0):=by
 unfold zDy at *;cases hk:zAY f l o b with
 | false=>rw [hk] at h; cases h
 | true=>
  rw [hk] at h;cases hv:l.all λw=>zbe w.Ann with
  | false=>rw [hv] at h; cases h
  | true=>
   rw [hv] at h;refine ⟨⟨rfl,λw hw=>List.all_eq_true.1 hv w hw⟩, ?_⟩
   simp only [Bool.and_self,Bool.not_true,cond_false] at h ⊢;unfold z29;by_cases hl:0<(zgd l).length
   ·rw [decide_eq_true hl,cond_true] at h;rw [decide_eq_true hl,cond_true,if_pos hl];exact (zUj h).2
   ·rw [decide_eq_false hl,cond_false,if_neg hl];cases (f==0&&z2L o (zdJ 0 b.Int)) <;>rfl
theorem zUZ (x:At) (h:0<=x.Kind/\x.Kind<=4):PA (zhj x):=⟨by simp [zhj],λt ht=>by
 simp only [zhj,qh] at ht; subst ht;refine ⟨⟨by simp,by simp⟩,by simp,λf hf=> ?_⟩
 rw [qh] at hf; subst hf;exact ⟨⟨h,λ_=>rfl⟩,by simp⟩⟩
theorem zbmp {a b:yC} (ha:PA a):PA (zbaG a b):=by
 unfold zbaG;split
 ·exact ha
 ·split
  ·exact PA.nil
  ·exact zUZ _ (by simp [zbkB])
theorem zbm7 {a:yC} (ha:PA a):PA (z2r a):=by
 unfold z2r;split
 ·exact ha
 ·split
  ·exact zN0
  ·exact zUZ _ (by simp [zbfK])
theorem zbmn (a:yC):PA (zZ3 a):=by
 unfold zZ3;split
 ·exact zN0
 ·split
  ·exact PA.nil
  ·exact zUZ _ (by simp [zbkZ])
theorem zbhl (f:Int) (l:yE) (o:Int) (b:Value):PA (z29 f l o b):=by
 unfold z29;split
 ·exact zUZ _ (by simp [z0E])
 ·split
  ·exact zN0
  ·exact PA.nil
def IdP (a:yC):Prop:=a=[]\/a=[⟨1,[]⟩]\/∃ x:At,(x.Kind=3\/x.Kind=4)/\a=zhj x
theorem zbmR (a:yC):IdP (zZ3 a):=by
 unfold zZ3;split
 ·exact .inr (.inl rfl)
 ·split
  ·exact .inl rfl
  ·exact .inr (.inr ⟨_,.inl rfl,rfl⟩)
theorem zbhz (f:Int) (l:yE) (o:Int) (b:Value):IdP (z29 f l o b):=by
 unfold z29;split
 ·exact .inr (.inr ⟨_,.inr rfl,rfl⟩)
 ·split
  ·exact .inr (.inl rfl)
  ·exact .inl rfl
def zKi (b:yC):Nat->yC
 | 0=>[⟨1,[]⟩]
 | n+1=>zd4 b (zKi b n)
theorem z3k {b:yC} (hb:PA b):∀ n,PA (zKi b n)
 | 0=>zN0
 | n+1=>zth hb (z3k hb n)
theorem zbfd {b:yC} (hb:PA b):∀ (n:Nat) {p q:yC},PA p->zKI b n p=.inr q->q=zd4 p (zKi b n)
 | 0,p,q,hp,h=>by cases h; exact (zON hp).symm
 | n+1,p,q,hp,h=>by
  unfold zKI opS at h;by_cases h0:(zKx p b).2=0
  ·rw [if_pos h0,znM,(zbof h0).2] at h;rw [zbfd hb n (zth hp hb) h];show zd4 (zd4 p b) (zKi b n)=zd4 p (zd4 b (zKi b n));rw [zbas hp hb (z3k hb n)]
  ·rw [if_neg h0] at h; cases h
section
variable (σ:At->yC)
def mvA:yD->yC
 | []=>[⟨1,[]⟩]
 | f::r=>zd4 (zKi (σ f.At) f.Exp.toNat) (mvA r)
def evU:yC->yC->yC
 | [],s=>s
 | t::r,s=>evU r (zgP s (zd4 [⟨t.Cf,[]⟩] (mvA σ t.Fs)))
def SG (x:At):Prop:=PA (σ x)/\(x.Kind=3\/x.Kind=4->IdP (σ x))
variable {σ}
theorem zbeO:∀ {l:yD},(∀ f∈l,SG σ f.At)->PA (mvA σ l)
 | [],_=>zN0
 | f::r,h=>zth (z3k (h f (by simp)).1 _) (zbeO λg hg=>h g (by simp [hg]))
theorem z7q {c:Int} (h:1<=c/\c<=1152921504606846976):PA [⟨c,[]⟩]:=⟨by simp,λt ht=>by
 rw [qh] at ht; subst ht;exact ⟨h,MF.nil⟩⟩
def EA (σ:At->yC) (a:yC):Prop:=PA a/\∀ t∈a,∀ f∈t.Fs,SG σ f.At
theorem zbl1 {t:Term} (hc:cOK t) (h:∀ f∈t.Fs,SG σ f.At):PA (zd4 [⟨t.Cf,[]⟩] (mvA σ t.Fs)):=zth (z7q hc) (zbeO h)
theorem zbkc:∀ {a s:yC},(∀ t∈a,cOK t/\∀ f∈t.Fs,SG σ f.At)->PA s->PA (evU σ a s)
 | [],s,_,hs=>hs
 | t::r,s,h,hs=>by
  rw [evU];exact zbkc (λu hu=>h u (by simp [hu])) (zbep hs (zbl1 (h t (by simp)).1 (h t (by simp)).2))
theorem EA.p {a:yC} (h:EA σ a):∀ t∈a,cOK t/\∀ f∈t.Fs,SG σ f.At:=λt ht=>⟨h.1.c t ht,h.2 t ht⟩
theorem EA.sum {a b:yC} (ha:EA σ a) (hb:EA σ b):EA σ (zgP a b):=⟨zbep ha.1 hb.1,λt ht f hf=>by
 obtain ⟨x,hx,e⟩:=zBX b a ha.1.1 ht;rw [e] at hf;rcases hx with hx | hx
 ·exact ha.2 x hx f hf
 ·exact hb.2 x hx f hf⟩
theorem EA.prod {a b:yC} (ha:EA σ a) (hb:EA σ b):EA σ (zd4 a b):=⟨zth ha.1 hb.1,λt ht f hf=>by
 obtain ⟨x,hx,e⟩:=zBX (zgM a b) [] List.Pairwise.nil ht;rw [e] at hf;rcases hx with hx | hx
 ·cases hx
 ·obtain ⟨u,hu,v,hv,rfl⟩:=zEv hx;obtain ⟨y,hy,e⟩:=zq6 hf;rw [e];rcases hy with hy | hy
  ·exact ha.2 u hu y hy
  ·exact hb.2 v hv y hy⟩
end
mutual
def zcj (to:RowID->yC):At->yC
 | ⟨k,r,a,f,i,o,b⟩=>if k=0 then to r else if k=1 then zbaG ((zJc to a).getD 0 default) ((zJc to a).getD 1 default) else if k=2 then z2r ((zJc to a).getD 0 default)
  else if k=3 then zZ3 ((zJc to a).getD 0 default) else z29 f (zNk to i) o b
def z0B (to:RowID->yC):yD->yC
 | []=>[⟨1,[]⟩]
 | ⟨x,e⟩::r=>zd4 (zKi (zcj to x) e.toNat) (z0B to r)
def z3l (to:RowID->yC):yC->yC->yC
 | [],s=>s
 | ⟨c,fs⟩::r,s=>z3l to r (zgP s (zd4 [⟨c,[]⟩] (z0B to fs)))
def zJc (to:RowID->yC):yA->yA
 | []=>[]
 | a::r=>z3l to a []::zJc to r
def zNk (to:RowID->yC):yE->yE
 | []=>[]
 | ⟨v,a⟩::r=>⟨v,z3l to a []⟩::zNk to r
end
section
variable (to:RowID->yC)
theorem zbcZ:∀ l:yD,z0B to l=mvA (zcj to) l
 | []=>by rw [z0B]; rfl
 | ⟨x,e⟩::r=>by rw [z0B,zbcZ r]; rfl
theorem z7e:∀ a s:yC,z3l to a s=evU (zcj to) a s
 | [],s=>by rw [z3l]; rfl
 | ⟨c,fs⟩::r,s=>by rw [z3l,z7e r,zbcZ]; rfl
def vlA (a:yC):yC:=evU (zcj to) a []
theorem zRd:∀ l:yA,zJc to l=l.map (vlA to)
 | []=>by rw [zJc]; rfl
 | a::r=>by rw [zJc,zRd r,z7e]; rfl
theorem zbjG (r:RowID) (a b:yC) (f:Int) (i:yE) (o:Int) (v:Value):zcj to ⟨1,r,[a,b],f,i,o,v⟩=zbaG (vlA to a) (vlA to b):=by
 rw [zcj,zRd]; rfl
theorem zbeV (r:RowID) (a:yC) (f:Int) (i:yE) (o:Int) (v:Value):zcj to ⟨2,r,[a],f,i,o,v⟩=z2r (vlA to a):=by
 rw [zcj,zRd]; rfl
theorem zbjK (r:RowID) (a:yC) (f:Int) (i:yE) (o:Int) (v:Value):zcj to ⟨3,r,[a],f,i,o,v⟩=zZ3 (vlA to a):=by
 rw [zcj,zRd]; rfl
theorem zbei (r:RowID) (a:yA) (f:Int) (i:yE) (o:Int) (v:Value):zcj to ⟨4,r,a,f,i,o,v⟩=z29 f (zNk to i) o v:=by
 rw [zcj]; rfl
theorem z8k (r:RowID) (a:yA) (f:Int) (i:yE) (o:Int) (v:Value):zcj to ⟨0,r,a,f,i,o,v⟩=to r:=by
 rw [zcj]; rfl
variable {to} (hto:∀ r,PA (to r))
include hto
theorem zblQ:∀ m,(∀ a,zbR m a=true->EA (zcj to) a/\PA (vlA to a))/\(∀ x,zeG (zbR m) x=true->SG (zcj to) x)
 | 0=>by
  refine ⟨λa h=>(by cases h),λx h=> ?_⟩
  cases zev.1 h with
  | var r h=>rw [SG,z8k]; exact ⟨hto r,λh=>by simp at h⟩
  | mon a b ha=>cases ha
  | del a ha=>cases ha
  | abs a ha=>cases ha
  | tst f l o b hl hi=>rw [SG,zbei]; exact ⟨zbhl ..,λ_=>zbhz ..⟩
 | m+1=>by
  obtain ⟨h1,h2⟩:=zblQ m
  have hA:∀ a,zbR (m+1) a=true->EA (zcj to) a/\PA (vlA to a):=λa h=>by
   obtain ⟨_,s1,s2⟩:=zNR.1 (show zxN (zeG (zbR m)) a=true from h)
   have he:EA (zcj to) a:=⟨⟨s1,λt ht=>⟨(s2 t ht).1,(s2 t ht).2.1,λf hf=>⟨⟨zBy ((s2 t ht).2.2 f hf).2,((s2 t ht).2.2 f hf).1.2⟩,((s2 t ht).2.2 f hf).1.1⟩⟩⟩,λt ht f hf=>h2 _ ((s2 t ht).2.2 f hf).2⟩
   exact ⟨he,zbkc he.p PA.nil⟩
  refine ⟨hA,λx h=> ?_⟩
  cases zev.1 h with
  | var r h=>rw [SG,z8k]; exact ⟨hto r,λh=>by simp at h⟩
  | mon a b ha hb=>rw [SG,zbjG]; exact ⟨zbmp (hA a ha).2,λh=>by simp at h⟩
  | del a ha=>rw [SG,zbeV]; exact ⟨zbm7 (hA a ha).2,λh=>by simp at h⟩
  | abs a ha=>rw [SG,zbjK]; exact ⟨zbmn _,λ_=>zbmR _⟩
  | tst f l o b hl hi=>rw [SG,zbei]; exact ⟨zbhl ..,λ_=>zbhz ..⟩
omit hto in
theorem zeP {α β:Type} {x:Int⊕α} {k:α->Int⊕β} {v:β}:sbd x k=.inr v↔∃ a,x=.inr a/\k a=.inr v:=by
 cases x with
 | inl e=>simp [sbd]
 | inr a=>simp [sbd]
omit hto in
theorem zTp {r:yC×Int} {v:yC} (h:opS r=.inr v):r.2=0/\r.1=v:=by
 unfold opS at h;split at h
 ·rename_i h0; exact ⟨h0,by simpa using h⟩
 ·cases h
omit hto in
theorem zbe7 {l:yD} (h:∀ f∈l,(∀ v,zho to f.At=.inr v->v=zcj to f.At)/\SG (zcj to) f.At):∀ {p q:yC},PA p->zeK to l p=.inr q->q=zd4 p (mvA (zcj to) l):=by
 induction l with
 | nil=>intro p q hp hq; rw [zXW] at hq; cases hq; exact (zON hp).symm
 | cons f r ih=>
  intro p q hp hq;rw [zTX] at hq;obtain ⟨b,hb,hq⟩:=zeP.1 hq;obtain ⟨p',hp',hq⟩:=zeP.1 hq;have hf:=h f (by simp)
  rw [hf.1 b hb] at hp';have e:=zbfd hf.2.1 _ hp hp';have pw:=z3k hf.2.1 f.Exp.toNat;have hp'':PA p':=by rw [e]; exact zth hp pw
  rw [ih (λg hg=>h g (by simp [hg])) hp'' hq,e]
  exact zbas hp pw (zbeO λg hg=>(h g (by simp [hg])).2)
omit hto in
theorem zbmE {c:Int} (h:1<=c/\c<=1152921504606846976):zD5 c=[⟨c,[]⟩]:=by
 unfold zD5; rw [if_neg (by omega),if_neg (by omega)]
omit hto in
theorem zbku {a:yC} (h:∀ t∈a,cOK t/\∀ f∈t.Fs,(∀ v,zho to f.At=.inr v->v=zcj to f.At)/\SG (zcj to) f.At):∀ {s v:yC},PA s->zdv to a s=.inr v->v=evU (zcj to) a s:=by
 induction a with
 | nil=>intro s v hs hv; rw [zbcn] at hv; cases hv; rfl
 | cons t r ih=>
  intro s v hs hv;rw [z94] at hv;obtain ⟨p,hp,hv⟩:=zeP.1 hv;obtain ⟨s',hs',hv⟩:=zeP.1 hv;have ht:=h t (by simp)
  rw [zbmE ht.1] at hp;have e:=zbe7 ht.2 (z7q ht.1) hp;obtain ⟨e0,e1⟩:=zTp hs';rw [(zbnu e0).2] at e1;have e1:zgP s p=s':=e1;have pp:PA p:=by rw [e]; exact zbl1 ht.1 λf hf=>(ht.2 f hf).2
  have ps:PA s':=by rw [<- e1]; exact zbep hs pp
  rw [ih (λu hu=>h u (by simp [hu])) ps hv, <- e1,e]; rfl
omit hto in
theorem z9G {m:Nat} (h1:∀ a,zbR m a=true->∀ s v,PA s->zdv to a s=.inr v->v=evU (zcj to) a s) (x:At) (h:zeG (zbR m) x=true) (v:yC) (hv:zho to x=.inr v):v=zcj to x:=by
 rw [zbcW] at hv;cases zev.1 h with
 | var r h=>simp only [if_true] at hv; cases hv; exact (z8k ..).symm
 | mon a b ha hb=>
  simp only [show ¬ (1:Int)=0 from by omega,if_false,if_true] at hv
  obtain ⟨xs,hxs,hv⟩:=zeP.1 hv;rw [zCX] at hxs;obtain ⟨a',ha',hxs⟩:=zeP.1 hxs;obtain ⟨l',hl',hxs⟩:=zeP.1 hxs;rw [zCX] at hl';obtain ⟨b',hb',hl'⟩:=zeP.1 hl';rw [zMP,znM] at hl';cases hl'; cases hxs;obtain ⟨e0,e1⟩:=zTp hv;have e0:(zNx a' b').2=0:=e0;have e1:(zNx a' b').1=v:=e1;rw [(zbnW e0).2] at e1;rw [zbjG, <- e1,h1 a ha [] a' PA.nil ha',h1 b hb [] b' PA.nil hb']; rfl
 | del a ha=>
  simp only [show ¬ (2:Int)=0 from by omega,show ¬ (2:Int)=1 from by omega,if_false,if_true] at hv
  obtain ⟨xs,hxs,hv⟩:=zeP.1 hv;rw [zCX] at hxs;obtain ⟨a',ha',hxs⟩:=zeP.1 hxs;rw [zMP,znM] at hxs;cases hxs;obtain ⟨e0,e1⟩:=zTp hv;have e0:(zOP a').2=0:=e0;have e1:(zOP a').1=v:=e1;rw [(zbno e0).2] at e1;rw [zbeV, <- e1,h1 a ha [] a' PA.nil ha']; rfl
 | abs a ha=>
  simp only [show ¬ (3:Int)=0 from by omega,show ¬ (3:Int)=1 from by omega,show ¬ (3:Int)=2 from by omega,if_false,if_true] at hv
  obtain ⟨xs,hxs,hv⟩:=zeP.1 hv;rw [zCX] at hxs;obtain ⟨a',ha',hxs⟩:=zeP.1 hxs;rw [zMP,znM] at hxs;cases hxs;obtain ⟨e0,e1⟩:=zTp hv;have e0:(zPf a').2=0:=e0;have e1:(zPf a').1=v:=e1;rw [(zbny e0).2] at e1;rw [zbjK, <- e1,h1 a ha [] a' PA.nil ha']; rfl
 | tst f l o b hl hi=>
  simp only [show ¬ (4:Int)=0 from by omega,show ¬ (4:Int)=1 from by omega,show ¬ (4:Int)=2 from by omega,show ¬ (4:Int)=3 from by omega,if_false] at hv
  obtain ⟨xs,hxs,hv⟩:=zeP.1 hv;obtain ⟨is,his,hv⟩:=zeP.1 hv
  have key:∀ (l:yE),(∀ w∈l,zbR m w.Ann=true)->∀ is,zhE to l=.inr is->is=zNk to l:=by
   intro l;induction l with
   | nil=>intro _ is h; rw [zSp] at h; cases h; rw [zNk]
   | cons w r ih=>
    intro hm is h;rw [z00] at h;obtain ⟨a',ha',h⟩:=zeP.1 h;obtain ⟨l',hl',h⟩:=zeP.1 h;cases h;obtain ⟨v,a⟩:=w;rw [zNk,z7e, <- ih (λw hw=>hm w (by simp [hw])) l' hl',h1 a (hm ⟨v,a⟩ (by simp)) [] a' PA.nil ha']
  rw [key l (λw hw=>(hi w hw).1) is his] at hv
  obtain ⟨e0,e1⟩:=zTp hv;rw [(zbmu e0).2] at e1;rw [zbei]; exact e1.symm
theorem zboC (m:Nat):(∀ a,zbR m a=true->∀ s v,PA s->zdv to a s=.inr v->v=evU (zcj to) a s)/\(∀ x,zeG (zbR m) x=true->∀ v,zho to x=.inr v->v=zcj to x):=by
 induction m with
 | zero=>exact ⟨λa h=>(by cases h),z9G λa h=>(by cases h)⟩
 | succ m ih=>
  have hA:∀ a,zbR (m+1) a=true->∀ s v,PA s->zdv to a s=.inr v->v=evU (zcj to) a s:=λa h s v hs hv=>by
   obtain ⟨_,s1,s2⟩:=zNR.1 (show zxN (zeG (zbR m)) a=true from h)
   exact zbku (λt ht=>⟨(s2 t ht).1,λf hf=>⟨ih.2 _ ((s2 t ht).2.2 f hf).2,(zblQ hto m).2 _ ((s2 t ht).2.2 f hf).2⟩⟩) hs hv
  exact ⟨hA,z9G hA⟩
end
theorem zbcy {a:yC}:zhU a=true↔a.length<=512/\zbJ a<=8/\zX a<=4096/\∀ t∈a,t.Fs.length<=64/\∀ f∈t.Fs,f.Exp<=64/\f.At.Items.length<=1024:=by
 refine ⟨zBs,λ⟨h1,h2,h3,h4⟩=> ?_⟩
 unfold zhU;simp only [qc,qe];refine ⟨⟨⟨h1,h2⟩,h3⟩,List.all_eq_true.2 λt ht=> ?_⟩
 obtain ⟨h5,h6⟩:=h4 t ht;unfold zBB;rw [Bool.not_eq_true',Bool.or_eq_false_iff];refine ⟨by simp; omega, ?_⟩
 rw [List.any_eq_false];intro f hf;obtain ⟨h7,h8⟩:=h6 f hf;simp;exact ⟨h7,h8⟩
theorem z5o:∀ a b:yD,zcc (a++b)=zcc a+zcc b
 | [],b=>by rw [zmJ]; simp
 | t::r,b=>by rw [List.cons_append,zeF,zeF,z5o r b]; omega
theorem z5l:∀ a b:yD,zdw (a++b)=max (zdw a) (zdw b)
 | [],b=>by rw [zv8]; simp
 | t::r,b=>by rw [List.cons_append,zn6,zn6,z5l r b]; omega
structure FB (l:yD):Prop where
 len:l.length<=64
 nes:zdw l<=8
 siz:1+l.length+zcc l<=4096
 fs:∀ f∈l,f.Exp<=64/\f.At.Items.length<=1024
theorem FB.wi {l:yD} (h:FB l) (c:Int):zhU [⟨c,l⟩]=true:=zbcy.2 ⟨by simp,by rw [zDn,zMF]; have:=h.nes; simp only; omega,by rw [zjN,zBx]; have:=h.siz; simp only; omega,λt ht=>by
 rw [qh] at ht; subst ht; exact ⟨h.len,h.fs⟩⟩
theorem FB.of {a:yC} (h:zhU a=true) {t:Term} (ht:t∈a):FB t.Fs:=by
 obtain ⟨h1,h2,h3,h4⟩:=zbcy.1 h;obtain ⟨h5,h6⟩:=h4 t ht;refine ⟨h5,Nat.le_trans (zbah ht) h2, ?_,h6⟩
 have key:∀ {a:yC},t∈a->1+t.Fs.length+zcc t.Fs<=zX a:=by
  intro a;induction a with
  | nil=>intro h; cases h
  | cons u r ih=>
   intro h;rw [zjN];rcases qd.1 h with rfl | h
   ·omega
   ·have:=ih h; omega
 have:=key ht;omega
theorem FB.app {a b:yD} (h:FB (a++b)):FB a/\FB b:=by
 obtain ⟨h1,h2,h3,h4⟩:=h;rw [qg] at h1 h3;rw [z5l] at h2;rw [z5o] at h3;exact ⟨⟨by omega,by omega,by omega,λf hf=>h4 f (by simp [hf])⟩,⟨by omega,by omega,by omega,λf hf=>h4 f (by simp [hf])⟩⟩
theorem OKF.app {a b:yD} (h:OKF zuS (a++b)):OKF zuS a/\OKF zuS b:=⟨⟨(List.pairwise_append.1 h.1).1,λf hf=>h.2 f (by simp [hf])⟩,⟨(List.pairwise_append.1 h.1).2.1,λf hf=>h.2 f (by simp [hf])⟩⟩
section
variable {c:Int} (hc:1<=c/\c<=1152921504606846976)
include hc
end
def AB (x:At):Prop:=zn4 x<=8/\zkv x+2<=4096/\x.Items.length<=1024
theorem AB.wi {x:At} (h:AB x):zhU (zhj x)=true:=(FB.wi (l:=[⟨x,1⟩]) ⟨by simp,by rw [zn6,zv8]; have:=h.1; simp only; omega,by rw [zeF,zmJ]; have:=h.2.1; simp only [List.length_singleton]; omega,λf hf=>by
 rw [qh] at hf; subst hf; exact ⟨by simp,h.2.2⟩⟩ 1)
theorem AB.of {l:yD} (h:FB l) {f:Fc} (hf:f∈l):AB f.At:=by
 refine ⟨Nat.le_trans (zUD hf) h.nes, ?_,(h.fs f hf).2⟩;have h1:=zTd hf
 have h2:1<=l.length:=by cases l with
  | nil=>cases hf
  | cons a r=>simp
 have:=h.siz;omega
theorem zbom (a b:yD):cL a b=zbV (zbW a) (zbW b):=by unfold cL; rw [zbq]
theorem PA.canon {a:yC} (h:PA a):Canon a:=⟨h.1.imp λ{x y} hxy=>by rw [zbom]; exact hxy,λt ht=>(h.2 t ht).2.1⟩
def zbe4 (a:yC) (l:yG):yC×Int:=opR (zbe a&&l.all λb=>zbe b.To) (ofS (zdv (toA l) a []))
theorem zblO {a:yC} {l:yG} (h:okB l):∀ (n i:Nat),l.length<i+n->i<=l.length->zze n a l i=(true,if ((l.drop i).all λb=>zbe b.To)=true then .inr (a,l) else .inl 1)
 | 0,i,h1,h2=>by omega
 | n+1,i,h1,h2=>by
  have hlen:=h.1;show (zzi a l i).ev (λx y=>zze n x.1 x.2.1 x.2.2.1) (λr=>(true,r)) (false,.inl default)=_
  unfold zzi;by_cases hi:i<l.length
  ·have hb:=h.2 _ (zI hi);rw [zY hi,List.all_cons];simp only [Wy.ev_i,Wy.ev_k,Wy.ev_h,Wy.ev_bn,Wy.ev_d,tT,hi,hb.rvalid];cases zbe (l.getD i default).To with
   | false=>rfl
   | true=>
    simp only [Bool.not_true,cond_false,Bool.true_and,zJ (show i<4611686018427387904 by omega)]
    exact zblO h n (i+1) (by omega) (by omega)
  ·simp only [Wy.ev_i,Wy.ev_k,Wy.ev_h,Wy.ev_bn,Wy.ev_d,tT,hi];rw [zce hi]; rfl
theorem zbaU {a:yC} {l:yG} (oa:okA a) (ha:zbe a=true->zca a) (h:okB l):zqZ a l=(true,zbe4 a l):=by
 have key:zbe a=true->zLw a l=(true,ofS (zdv (toA l) a [])):=λhv=>((zben h 1000).1 9 a (z67 hv (Nat.le_refl 9)) (by omega) oa.2.1 (ha hv) (by omega)).1
 unfold zqZ zIN zbe4;have h4:=zblO (a:=a) h (a.length+l.length+Int.toNat (0:Int)+(1:Nat)) 0 (by omega) (by omega)
 rw [show ((0:Nat):Int)=(0:Int) from rfl,List.drop_zero] at h4
 simp only [Wy.fin_i,Wy.fin_bn,Wy.fin_k,oa.rvalid,cond_true,h4];cases hv:zbe a with
 | false=>rfl
 | true=>
  cases (l.all λb=>zbe b.To) with
  | false=>rfl
  | true=>
   simp only [if_true,isL,getR,Bool.not_true,cond_false,key hv,cond_true];rfl
def GP {α:Type} (P:α->Prop):Int⊕α->Prop
 | .inl _=>True
 | .inr a=>P a
theorem zF2 {α β:Type} {P:α->Prop} {Q:β->Prop} {x:Int⊕α} {k:α->Int⊕β} (hx:GP P x) (hk:∀ a,P a->GP Q (k a)):GP Q (sbd x k):=by
 cases x with
 | inl e=>exact trivial
 | inr a=>exact hk a hx
theorem z3i {P:yC->Prop} {r:yC×Int} (h:P r.1):GP P (opS r):=by
 unfold opS;split
 ·exact h
 ·exact trivial
theorem zDj {a:yC}:zca a↔∀ t∈a,∀ f∈t.Fs,zAN f.At:=by
 rw [zJs];exact ⟨λh t ht=>zyc.1 (h t ht),λh t ht=>zyc.2 (h t ht)⟩
theorem zC0:zca []:=zJs.2 λt ht=>by cases ht
theorem zVV (c:Int):zca [⟨c,[]⟩]:=zDj.2 λt ht f hf=>by
 rw [qh] at ht; subst ht; cases hf
theorem z3A {x:At} (h:zAN x):zca (zhj x):=zDj.2 λt ht f hf=>by
 simp only [zhj,qh] at ht; subst ht;rw [qh] at hf; subst hf; exact h
theorem zS8 {a:yC} (h:zca a):zca (zzc a).1:=by
 unfold zzc;cases zhU a with
 | true=>exact h
 | false=>exact zC0
theorem z8N {ok:Bool} {r:yC×Int} (h:ok=true->zca r.1):zca (opR ok r).1:=by
 cases ok with
 | true=>exact h rfl
 | false=>exact zC0
theorem zbnN {a b:yC} (hs:Srs a) (ha:zca a) (hb:zca b):zca (zgP a b):=zDj.2 λt ht f hf=>by
 obtain ⟨x,hx,e⟩:=zBX b a hs ht;rw [e] at hf;rcases hx with hx | hx
 ·exact zDj.1 ha x hx f hf
 ·exact zDj.1 hb x hx f hf
theorem zbmW {a b:yC} (ha:zca a) (hb:zca b):zca (zd4 a b):=zDj.2 λt ht f hf=>by
 obtain ⟨x,hx,e⟩:=zBX (zgM a b) [] List.Pairwise.nil ht;rw [e] at hf;rcases hx with hx | hx
 ·cases hx
 ·obtain ⟨u,hu,v,hv,rfl⟩:=zEv hx;obtain ⟨y,hy,e⟩:=zq6 hf;rw [e];rcases hy with hy | hy
  ·exact zDj.1 ha u hu y hy
  ·exact zDj.1 hb v hv y hy
theorem zbnf {a b:yC} (ha:zca a) (hb:zca b):zca (zSS a b).1:=z8N λhv=>by
 rw [qc] at hv;exact zS8 (zbnN (zbga hv.1).1 ha hb)
theorem zbnS {a b:yC} (ha:zca a) (hb:zca b):zca (zKx a b).1:=z8N λ_=>zS8 (zbmW ha hb)
theorem z61 {k:Int} {l:yA} (h:∀ a∈l,zca a):zAN ⟨k,⟨0,0⟩,l,0,[],0,⟨0,0,ByteArray.mk #[]⟩⟩:=(zGc _).2 ⟨by simp,zBA.2 h,zyZ.2 λw hw=>by cases hw⟩
theorem zbn2 {a b:yC} (ha:zca a) (hb:zca b):zca (zNx a b).1:=z8N λ_=>by
 split
 ·exact ha
 ·split
  ·exact zC0
  ·refine zS8 (z3A (z61 λx hx=> ?_))
   simp only [qd,List.not_mem_nil,or_false] at hx;rcases hx with rfl | rfl
   ·exact ha
   ·exact hb
theorem zbnP {a:yC} (ha:zca a):zca (zOP a).1:=z8N λ_=>by
 split
 ·exact ha
 ·split
  ·exact zVV 1
  ·refine zS8 (z3A (z61 λx hx=> ?_))
   rw [qh] at hx; subst hx; exact ha
theorem zbnV {a:yC} (ha:zca a):zca (zPf a).1:=z8N λ_=>by
 split
 ·exact zVV 1
 ·split
  ·exact zC0
  ·refine zS8 (z3A (z61 λx hx=> ?_))
   rw [qh] at hx; subst hx; exact ha
theorem zbmw {f o:Int} {l:yE} {b:Value} (hl:l.length<20) (h:∀ w∈l,zca w.Ann):zca (zDy f l o b).1:=by
 unfold zDy;cases (!(zAY f l o b&&l.all λw=>zbe w.Ann)) with
 | true=>exact zC0
 | false=>
  cases decide (0<(zgd l).length) with
  | true=>
   refine zS8 (z3A ((zGc _).2 ⟨?_,zBA.2 λa ha=>(by cases ha),zyZ.2 λw hw=>h w (zME hw).1⟩))
   have h1:(zgd l).length=(l.filter zHE).length:=(zgr _ _).length_eq;have h2:=List.length_filter_le zHE l;show (zgd l).length<20;omega
  | false=>
   cases (f==0&&z2L o (zdJ 0 b.Int)) with
   | true=>exact zVV 1
   | false=>exact zC0
theorem zbjW {b:yC} (hb:zca b):∀ (n:Nat) (p:yC),zca p->GP zca (zKI b n p)
 | 0,p,hp=>hp
 | n+1,p,hp=>zF2 (z3i (zbnS hp hb)) λq hq=>zbjW hb n q hq
theorem zbnZ (n:Int):zca (zD5 n):=by
 unfold zD5;split
 ·exact zC0
 ·exact zVV _
theorem zbha {l:yA} (h:∀ a∈l,zca a) (i:Nat):zca (l.getD i default):=by
 by_cases hi:i<l.length
 ·exact h _ (zI hi)
 ·rw [List.getD_eq_getElem?_getD,List.getElem?_eq_none (by omega)]; exact zC0
section
variable {to:RowID->yC} (ht:∀ r,zca (to r))
include ht
mutual
theorem zbiW:∀ x:At,zAN x->GP zca (zho to x)
 | ⟨k,r,a,f,i,o,b⟩=>λh=>by
  obtain ⟨h1,h2,h3⟩:=(zGc _).1 h;rw [zho];split
  ·exact ht r
  ·refine zF2 (z8v a (zBA.1 h2)) λxs hxs=> ?_
   have g0:=zbha hxs 0;have g1:=zbha hxs 1;split
   ·exact z3i (zbn2 g0 g1)
   ·split
    ·exact z3i (zbnP g0)
    ·split
     ·exact z3i (zbnV g0)
     ·refine zF2 (z5y i (zyZ.1 h3)) λis his=>z3i (zbmw ?_ his.2)
      rw [his.1]; exact h1
theorem zYf:∀ l:yD,(∀ f∈l,zAN f.At)->∀ p,zca p->GP zca (zeK to l p)
 | [],_,p,hp=>by rw [zeK]; exact hp
 | ⟨x,e⟩::r,h,p,hp=>by
  rw [zeK];exact zF2 (zbiW x (h ⟨x,e⟩ (by simp))) λb hb=>zF2 (zbjW hb _ p hp) λq hq=>zYf r (λf hf=>h f (by simp [hf])) q hq
theorem z0n:∀ a:yC,(∀ t∈a,∀ f∈t.Fs,zAN f.At)->∀ s,zca s->GP zca (zdv to a s)
 | [],_,s,hs=>by rw [zdv]; exact hs
 | ⟨c,fs⟩::r,h,s,hs=>by
  rw [zdv];exact zF2 (zYf fs (h ⟨c,fs⟩ (by simp)) _ (zbnZ c)) λp hp=>zF2 (z3i (zbnf hs hp)) λq hq=>z0n r (λt ht=>h t (by simp [ht])) q hq
theorem z8v:∀ l:yA,(∀ a∈l,zca a)->GP (λr:yA=>∀ a∈r,zca a) (zlI to l)
 | [],_=>by rw [zlI]; exact λa ha=>by cases ha
 | a::r,h=>by
  rw [zlI];refine zF2 (z0n a (zDj.1 (h a (by simp))) [] zC0) λb hb=>zF2 (z8v r λc hc=>h c (by simp [hc])) λl hl=> ?_
  intro x hx;rcases qd.1 hx with rfl | hx
  ·exact hb
  ·exact hl x hx
theorem z5y:∀ l:yE,(∀ w∈l,zca w.Ann)->GP (λr:yE=>r.length=l.length/\∀ w∈r,zca w.Ann) (zhE to l)
 | [],_=>by rw [zhE]; exact ⟨rfl,λa ha=>by cases ha⟩
 | ⟨v,a⟩::r,h=>by
  rw [zhE];refine zF2 (z0n a (zDj.1 (h ⟨v,a⟩ (by simp))) [] zC0) λb hb=>zF2 (z5y r λc hc=>h c (by simp [hc])) λl hl=> ?_
  refine ⟨by simp [hl.1],λx hx=> ?_⟩
  rcases qd.1 hx with rfl | hx
  ·exact hb
  ·exact hl.2 x hx
end
end
section
variable {σ:At->yC}
end
theorem Canon.dst {a:yC} (h:Canon a):a.Pairwise λx y=>x.Fs≠y.Fs:=h.asc.imp λ{x y} hxy e=>by rw [e,zboY.refl] at hxy; omega
end Go.Proofs.YtljlfiomikifjaaGreatDoor
end
