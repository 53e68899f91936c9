/- Texts of this claim, joined (the program, its functions in plain words, and what they compute). -/
import Derived.Test.YtljlfiomikifjaaGreatDoorGC12
set_option autoImplicit false
set_option linter.unusedVariables false
set_option linter.unusedSectionVars false
set_option linter.unusedSimpArgs false
set_option maxRecDepth 1000000
set_option maxHeartbeats 0
/- Minimal witnesses: how many there are; what the program computes. -/
noncomputable section
namespace Go.Proofs.YtljlfiomikifjaaGreatDoor
open Go Go.Ab
theorem ztC (x:At):zFy x=(x.Kind==0||(x.Kind==2&&(z92 x.Ag).getD 0 true)):=by cases x; rw [zFy]
theorem zKh:∀ l:yD,zt4 l=l.all λf=>zFy f.At
 | []=>by rw [zt4]; rfl
 | ⟨x,e⟩::r=>by rw [zt4,zKh r,List.all_cons]
theorem z0a:∀ a:yC,zpW a=a.all λt=>zt4 t.Fs
 | []=>by rw [zpW]; rfl
 | ⟨c,fs⟩::r=>by rw [zpW,z0a r,List.all_cons]
theorem zVx {x:At} {b:yC} (h:x.Kind=2) (e:x.Ag=[b]):zFy x=zpW b:=by
 rw [ztC,h,e,z92]; simp
theorem zbfl (x:At):ziO x=if x.Kind=2 then (zM4 x.Ag).getD 0 default else [[x.Row]]:=by cases x; rw [ziO]
theorem zbcR {x:At} {b:yC} (h:x.Kind=2) (e:x.Ag=[b]):ziO x=zcw b:=by
 rw [zbfl,if_pos h,e,zM4]; rfl
theorem z2e {x:At} (h:x.Kind≠2):ziO x=[[x.Row]]:=by rw [zbfl,if_neg h]
theorem zXV (f:Fc) (r:yD) (s:yB):zd7 (f::r) s=zd7 r (zuq (prod s (ziO f.At))):=by cases f; rw [zd7]
theorem z1p (s:yB):zd7 [] s=s:=by rw [zd7]
theorem zYs:∀ (l:yD) (s:yB),l.foldl (λs f=>zuq (prod s (ziO f.At))) s=zd7 l s
 | [],s=>by rw [z1p]; rfl
 | f::r,s=>by rw [zXV,List.foldl_cons,zYs r]
theorem zIr (t:Term) (r:yC):zfT (t::r)=zd7 t.Fs [[]]++zfT r:=by cases t; rw [zfT]
theorem zMk:zfT []=[]:=by rw [zfT]
theorem z5V:∀ (a:yC) (s:yB),a.foldl (λs t=>s++zd7 t.Fs [[]]) s=s++zfT a
 | [],s=>by rw [zMk]; simp
 | t::r,s=>by rw [zIr,List.foldl_cons,z5V r,List.append_assoc]
theorem zbex {x:At} (h:zuS x=true) (hk:x.Kind=2):∃ b,x.Ag=[b]/\zbe b=true/\b≠[]:=by
 have:=zIk.1 h;cases this with
 | del a ha ha0 h1 h2=>exact ⟨a,rfl,ha,ha0⟩
 | _=>simp at hk
theorem zbmK {x y:Nat} (hx:1<=x) (hy:1<=y):2 ^ x+2 ^ y<=2 ^ (x+y):=by
 rw [Nat.pow_add];have h1:2<=2 ^ x:=Nat.le_trans (by omega:2<=2 ^ 1) (Nat.pow_le_pow_right (by omega) hx)
 have h2:2<=2 ^ y:=Nat.le_trans (by omega:2<=2 ^ 1) (Nat.pow_le_pow_right (by omega) hy)
 generalize 2 ^ x=X at *;generalize 2 ^ y=Y at *;obtain ⟨u,rfl⟩:∃ u,X=u+2:=⟨X - 2,by omega⟩
 obtain ⟨v,rfl⟩:∃ v,Y=v+2:=⟨Y - 2,by omega⟩
 have:(u+2)*(v+2)=u*v+2*u+2*v+4:=by rw [Nat.add_mul,Nat.mul_add,Nat.mul_add]; omega
 rw [this]; omega
def cN:yC->Nat
 | []=>0
 | t::r=>(if t.Fs=[] then 1 else 0)+cN r
theorem zbho:∀ {a:yC},(∀ t∈a,t.Fs≠[])->cN a=0
 | [],_=>rfl
 | t::r,h=>by unfold cN; rw [if_neg (h t (by simp)),zbho λu hu=>h u (by simp [hu])]
theorem zbjo:∀ {a:yC},(a.Pairwise λx y=>x.Fs≠y.Fs)->cN a<=1
 | [],_=>by unfold cN; omega
 | t::r,h=>by
  have h:=qi.1 h;unfold cN;by_cases e:t.Fs=[]
  ·rw [if_pos e,zbho λu hu e'=>h.1 u hu (by rw [e,e'])]; omega
  ·rw [if_neg e]; have:=zbjo h.2; omega
theorem zbao:∀ (l:yD),(∀ f∈l,(ziO f.At).length<=2 ^ (zfq f.At / 2)/\∀ s∈ziO f.At,s.length<=1+zfq f.At)->∀ (s:yB) (p q:Nat),s.length<=2 ^ p->(∀ x∈s,x.length<=q)->
  (zd7 l s).length<=2 ^ (p+zZ l / 2)/\∀ x∈zd7 l s,x.length<=q+l.length+zZ l
 | [],h,s,p,q,hp,hq=>by
  rw [z1p];exact ⟨Nat.le_trans hp (Nat.pow_le_pow_right (by omega) (by omega)),λx hx=>by have:=hq x hx; simp; omega⟩
 | f::r,h,s,p,q,hp,hq=>by
  rw [zXV,zlu];obtain ⟨a1,a2⟩:=h f (by simp)
  obtain ⟨b1,b2⟩:=zbao r (λg hg=>h g (by simp [hg])) (zuq (prod s (ziO f.At))) (p+zfq f.At / 2) (q+(1+zfq f.At))
   (Nat.le_trans (zWb _) (Nat.le_trans (zbeH _ _) (by rw [Nat.pow_add]; exact Nat.mul_le_mul hp a1)))
   (zNf (zbad hq a2))
  refine ⟨Nat.le_trans b1 (Nat.pow_le_pow_right (by omega) (by omega)),λx hx=> ?_⟩
  have:=b2 x hx;simp only [qf]; omega
theorem z78:∀ (a:yC),(∀ t∈a,(zd7 t.Fs [[]]).length<=2 ^ (zZ t.Fs / 2))->2*(zfT a).length<=2 ^ ((zbw a+cN a) / 2)
 | [],h=>by rw [zMk]; simp
 | t::r,h=>by
  rw [zIr,zit,qg];unfold cN;have h1:=h t (by simp)
  have hc:1<=t.Fs.length+(if t.Fs=[] then 1 else 0):=by
   by_cases e:t.Fs=[]
   ·rw [if_pos e]; omega
   ·rw [if_neg e]; have:=List.length_pos_iff.2 e; omega
  generalize (if t.Fs=[] then 1 else 0)=c at hc ⊢
  have e1:2*(zd7 t.Fs [[]]).length<=2 ^ ((1+t.Fs.length+zZ t.Fs+c) / 2):=by
   have:2 ^ (zZ t.Fs / 2+1)<=2 ^ ((1+t.Fs.length+zZ t.Fs+c) / 2):=Nat.pow_le_pow_right (by omega) (by omega)
   rw [Nat.pow_succ] at this;omega
  cases r with
  | nil=>
   rw [zMk];have:2 ^ ((1+t.Fs.length+zZ t.Fs+c) / 2)<=2 ^ ((1+t.Fs.length+zZ t.Fs+zbw []+(c+cN [])) / 2):=Nat.pow_le_pow_right (by omega) (by omega)
   simp only [List.length_nil,Nat.add_zero]; omega
  | cons u r=>
   have e2:=z78 (u::r) λt ht=>h t (by simp [qd.1 ht])
   have hr:2<=zbw (u::r)+cN (u::r):=by
    rw [zit];unfold cN;by_cases e:u.Fs=[]
    ·rw [if_pos e]; omega
    ·rw [if_neg e]; have:=List.length_pos_iff.2 e; omega
   generalize (zfT (u::r)).length=W at *;generalize zbw (u::r)=T at *;generalize cN (u::r)=C at *;have e3:=zbmK (x:=(1+t.Fs.length+zZ t.Fs+c) / 2) (y:=(T+C) / 2) (by omega) (by omega)
   have e4:2 ^ ((1+t.Fs.length+zZ t.Fs+c) / 2+(T+C) / 2)<=2 ^ ((1+t.Fs.length+zZ t.Fs+T+(c+C)) / 2):=Nat.pow_le_pow_right (by omega) (by omega)
   omega
theorem z5U:∀ (a:yC),(∀ t∈a,∀ s∈zd7 t.Fs [[]],s.length<=t.Fs.length+zZ t.Fs)->∀ s∈zfT a,s.length<=zbw a
 | [],h,s,hs=>by rw [zMk] at hs; cases hs
 | t::r,h,s,hs=>by
  rw [zIr] at hs;rw [zit];rcases List.mem_append.1 hs with hs | hs
  ·have:=h t (by simp) s hs; omega
  ·have:=z5U r (λt ht=>h t (by simp [ht])) s hs; omega
structure WSize (a:yC):Prop where
 at_:∀ t∈a,∀ f∈t.Fs,(ziO f.At).length<=2 ^ (zfq f.At / 2)/\∀ s∈ziO f.At,s.length<=1+zfq f.At
 fac:∀ t∈a,(zd7 t.Fs [[]]).length<=2 ^ (zZ t.Fs / 2)/\∀ s∈zd7 t.Fs [[]],s.length<=t.Fs.length+zZ t.Fs
 all:2*(zfT a).length<=2 ^ ((zbw a+1) / 2)
 len:∀ s∈zfT a,s.length<=zbw a
theorem zbeB:∀ (d:Nat) (a:yC),zw d a->QA a->WSize a
 | 0,a,h,_=>h.elim
 | d+1,a,h,q=>by
  have hat:∀ t∈a,∀ f∈t.Fs,(ziO f.At).length<=2 ^ (zfq f.At / 2)/\∀ s∈ziO f.At,s.length<=1+zfq f.At:=λt ht f hf=>by
   have hv:zuS f.At=true:=((q.2 t ht).2.2 f hf).2;by_cases hk:f.At.Kind=2
   ·obtain ⟨b,eb,vb,_⟩:=zbex hv hk;have ih:=zbeB d b (((h.2 t ht).2 f hf).2.1 b (by rw [eb]; simp)) (zkb vb)
    rw [zbcR hk eb,zFf,eb,zA1,z5h];have e1:=zWb (zfT b);have e2:=ih.all;simp only [List.length_singleton];have e3:2 ^ ((zbw b+1) / 2)<=2 ^ ((f.At.Items.length+1+f.At.Bd.Text.size+(zbw b+0)+zkf f.At.Items) / 2):=Nat.pow_le_pow_right (by omega) (by omega)
    refine ⟨?_,λs hs=> ?_⟩
    ·show (zuq (zfT b)).length<=_;omega
    ·have:=zNf ih.len s hs;omega
   ·rw [z2e hk];refine ⟨?_,λs hs=> ?_⟩
    ·have:2 ^ 0<=2 ^ (zfq f.At / 2):=Nat.pow_le_pow_right (by omega) (by omega)
     simpa using this
    ·rw [qh.1 hs]; simp
  have hfac:∀ t∈a,(zd7 t.Fs [[]]).length<=2 ^ (zZ t.Fs / 2)/\∀ s∈zd7 t.Fs [[]],s.length<=t.Fs.length+zZ t.Fs:=λt ht=>by
   have:=zbao t.Fs (hat t ht) [[]] 0 0 (by simp) (λx hx=>by rw [qh.1 hx]; simp)
   simpa using this
  refine ⟨hat,hfac, ?_,z5U a λt ht=>(hfac t ht).2⟩
  have e1:=z78 a λt ht=>(hfac t ht).1
  have e2:2 ^ ((zbw a+cN a) / 2)<=2 ^ ((zbw a+1) / 2):=Nat.pow_le_pow_right (by omega) (by have:=zbjo q.pa.canon.dst; omega)
  omega
theorem zbl0 {k:Nat} (h:k<=20):2 ^ k<=1048576:=Nat.le_trans (Nat.pow_le_pow_right (by omega) h) (by decide)
theorem zbih {k:Nat} (h:k<=19):2 ^ k<=524288:=Nat.le_trans (Nat.pow_le_pow_right (by omega) h) (by decide)
theorem zCL:∀ (l m:yD),zZ (l++m)=zZ l+zZ m
 | [],m=>by simp [zZ]
 | f::r,m=>by rw [List.cons_append,zlu,zlu,zCL r]; omega
theorem zQF {l:yD} {i:Nat} (h:i<l.length):zZ (l.take (i+1))=zZ (l.take i)+zfq (l.getD i default).At:=by
 rw [zqi h,zCL,zlu]; simp [zZ]
theorem zIx (l:yD) (i:Nat):zZ (l.take i)<=zZ l:=by
 have:=zCL (l.take i) (l.drop i);rw [List.take_append_drop] at this; omega
theorem zboH (g:Term->Bool×Bool) (s:yC):zdE g s=IG (λ(_:Unit) x=>g x) (s.length+(Int.ofNat s.length).toNat +Int.toNat (0:Int)+(1000:Nat)) () s:=rfl
theorem zboK (g:Fc->Bool×Bool) (s:yD):zcJ g s=IG (λ(_:Unit) x=>g x) (s.length+(Int.ofNat s.length).toNat +Int.toNat (0:Int)+(1000:Nat)) () s:=by
 unfold zcJ zi3 ziE
 have hw:zdl g=z97 (λ(_:Unit) x=>g x):=by
  funext x y
  unfold zdl ziF z97 z9M;rw [Fc.eta2]
 rw [hw]; rfl
theorem zbn8:∀ (d n:Nat) (a:yC),7*d<=n->zw d a->QA a->zfi n a=(true,zpW a)
 | 0,n,a,hn,h,_=>h.elim
 | d+1,n,a,hn,h,q=>by
  obtain ⟨k,rfl⟩:∃ k,n=k+7:=⟨n - 7,by omega⟩
  have h1:∀ t∈a,∀ f∈t.Fs,zez (k+1) f=(true, !zFy f.At):=λt ht f hf=>by
   rw [zEY];unfold ziW ztD;have hv:zuS f.At=true:=((q.2 t ht).2.2 f hf).2;simp only [Wy.fin_i,Wy.fin_k,Wy.fin_bn];by_cases h0:f.At.Kind=0
   ·rw [ztC,h0]; rfl
   ·have e0:(f.At.Kind != 0)=true:=by rw [bne_iff_ne]; exact h0
    rw [e0,cond_true];by_cases h2:f.At.Kind=2
    ·obtain ⟨b,eb,vb,_⟩:=zbex hv h2;have ih:=zbn8 d k b (by omega) (((h.2 t ht).2 f hf).2.1 b (by rw [eb]; simp)) (zkb vb)
     rw [zVx h2 eb,h2,eb];show (bif (zfi k b).1 then (true, !(zfi k b).2) else (false,default))=_
     rw [ih]; rfl
    ·have e2:(f.At.Kind != 2)=true:=by rw [bne_iff_ne]; exact h2
     rw [e2,cond_true,ztC];have e3:(f.At.Kind==0)=false:=by rw [beq_eq_false_iff_ne]; exact h0
     have e4:(f.At.Kind==2)=false:=by rw [beq_eq_false_iff_ne]; exact h2
     rw [e3,e4]; rfl
  have h2:∀ t∈a,zfw (k+4) t=(true, !zt4 t.Fs):=λt ht=>by
   rw [zH8];unfold zkF zw9
   have hc:zdm (k+3) t.Fs=(true,t.Fs.any λf=> !zFy f.At):=by
    rw [zpP];unfold zdn zhM;rw [zsc,zboK];exact zp5 (zV2 _ _ _ _ _ (by have:=(h.2 t ht).1; omega) (λf hf=>h1 t ht f hf) (by omega))
   rw [Wy.fin_bn,hc,zKh];simp [List.all_eq_not_any_not,Wy.fin_k]
  rw [zMx];unfold zm5 zAC
  have hc:zdh (k+6) a=(true,a.any λt=> !zt4 t.Fs):=by
   rw [zoX];unfold zdc zhq;rw [zq5,zboH];exact zp5 (zV2 _ _ _ _ _ (by have:=h.1; omega) (λt ht=>h2 t ht) (by omega))
  rw [Wy.fin_bn,hc,z0a];simp [List.all_eq_not_any_not,Wy.fin_k]
theorem zboj (g:yC->Bool×yB) (t10:yC) (t11 t12:Int) (all:yB) (fs:yD) (hl:fs.length<=40) (ht:zZ fs<=39)
  (hg:∀ f∈fs,f.At.Kind=2->0<f.At.Ag.length/\g (f.At.Ag.getD 0 default)=(true,ziO f.At))
  (hs:∀ f∈fs,(ziO f.At).length<=2 ^ (zfq f.At / 2)/\∀ s∈ziO f.At,s.length<=1+zfq f.At) (n:Nat) (hn:fs.length<n):
  zpR g n t10 t11 t12 fs fs.length 0 all [[]]=(true,(t10,t11,t12,all,zd7 fs [[]])):=by
 have h:=zm3 (W:=zpB g) (z:=default) fs (λi _=>((),(),t10,t11,t12,fs,(fs.length:Int),(i:Int),())) (λ_ s=>(all,s,())) (λs f=>zuq (prod s (ziO f.At))) (λs=>(t10,t11,t12,all,s))
  (λi s=>s.length<=2 ^ (zZ (fs.take i) / 2)/\∀ x∈s,x.length<=i+zZ (fs.take i))
  (λi s hi hI=>by
   have hm:=zI hi;have hf:=hs _ hm;have tk:=zQF hi;have tl:=zIx fs (i+1);have pl:=zbeH s (ziO (fs.getD i default).At)
   have hmul:s.length*(ziO (fs.getD i default).At).length<=2 ^ (zZ (fs.take (i+1)) / 2):=by
    refine Nat.le_trans (Nat.mul_le_mul hI.1 hf.1) ?_;rw [<- Nat.pow_add];exact Nat.pow_le_pow_right (by omega) (by omega)
   have hbig:=zbih (show zZ (fs.take (i+1)) / 2<=19 by omega)
   have hs1:=zbih (show zZ (fs.take i) / 2<=19 by omega)
   have hs2:=zbih (show zfq (fs.getD i default).At / 2<=19 by omega)
   have hlen:∀ x∈s,∀ y∈ziO (fs.getD i default).At,x.length+y.length<=1000000:=λx hx y hy=>by
    have:=hI.2 x hx;have:=hf.2 y hy;omega
   have sm:=zbad hI.2 hf.2;refine ⟨⟨Nat.le_trans (zWb _) (Nat.le_trans pl hmul),λx hx=> ?_⟩,λH K D=> ?_⟩
   ·have:=zNf sm x hx;omega
   ·show (zhr g t10 t11 t12 fs fs.length i all s).ev H K D=_;unfold zhr
    have hP:zmF s (ziO (fs.getD i default).At)=(true,prod s (ziO (fs.getD i default).At)):=by
     exact z3X _ _ (by omega) (by omega) (by omega) hlen
    have hM:zg0 (prod s (ziO (fs.getD i default).At))=(true,zuq (prod s (ziO (fs.getD i default).At))):=by
     exact zLz _ (by omega) λx hx=>by have:=sm x hx; omega
    by_cases hk:(fs.getD i default).At.Kind=2
    ·obtain ⟨g1,g2⟩:=hg _ hm hk;have ek:((fs.getD i default).At.Kind==2)=true:=by rw [hk]; rfl
     simp only [Wy.ev_i,Wy.ev_k,Wy.ev_h,Wy.ev_bn,Wy.ev_d,tT,hi,ek];rw [show Int.toNat (0:Int)=0 from rfl]
     have ea':decide ((0:Int)<((fs.getD i default).At.Ag.length:Int))=true:=by rw [qe]; omega
     simp only [ea',g2,hP,hM,cond_true,Int.le_refl,decide_true,Bool.and_self];rw [zJ (by omega)]
    ·have ek:((fs.getD i default).At.Kind==2)=false:=by rw [beq_eq_false_iff_ne]; exact hk
     rw [z2e hk] at hP hM;simp only [Wy.ev_i,Wy.ev_k,Wy.ev_h,Wy.ev_bn,Wy.ev_d,tT,hi,ek,hP,hM];rw [zJ (by omega),z2e hk])
  (λs hI H K D=>by
   show (zhr g t10 t11 t12 fs fs.length fs.length all s).ev H K D=_;unfold zhr;simp only [Wy.ev_i,Wy.ev_k,tT,Nat.lt_irrefl]) n [[]] hn (by simp [zZ])
 have h:zpR g n t10 t11 t12 fs fs.length 0 all [[]]=_:=h;rw [h,zYs]
theorem zbl2:∀ (d n:Nat) (a:yC),d<=n->zw d a->QA a->zbw a<=40->zda n a=(true,zcw a)
 | 0,n,a,hn,h,_,_=>h.elim
 | d+1,0,a,hn,h,q,ht=>by omega
 | d+1,n+1,a,hn,h,q,ht=>by
  have hreach:zP=70368744177664:=rfl;have S:=zbeB (d+1) a h q;have hbig:=zbl0 (show (zbw a+1) / 2<=20 by omega)
  have hall:=S.all;have hA:=h.1;rw [zMy];unfold zm4 zAD
  have h3:=zm3 (W:=zpw (zda n)) (z:=default) a (λi _=>((),a,(a.length:Int),(i:Int),())) (λ_ s=>(s,())) (λs t=>s++zd7 t.Fs [[]]) id
   (λi s=>s.length+(zfT (a.drop i)).length<=524288)
   (λi s hi hI=>by
    have hm:=zI hi;rw [zY hi,zIr,qg] at hI;refine ⟨by rw [qg]; omega,λH K D=> ?_⟩
    show (zhs (zda n) a a.length i s).ev H K D=_;unfold zhs;have hff:=(h.2 _ hm).1
    have htf:(a.getD i default).Fs.length<=40/\zZ (a.getD i default).Fs<=39:=by
     have:∀ {l:yC} {t:Term},t∈l->1+t.Fs.length+zZ t.Fs<=zbw l:=by
      intro l;induction l with
      | nil=>intro t h; cases h
      | cons x r ih=>
       intro t h;rw [zit];rcases qd.1 h with rfl | h
       ·omega
       ·have:=ih h; omega
     have:=this hm;omega
    have e7:=zboj (zda n) a (a.length:Int) (i:Int) s (a.getD i default).Fs htf.1 htf.2 (λf hf hk=>by
     obtain ⟨b,eb,vb,_⟩:=zbex ((q.2 _ hm).2.2 f hf).2 hk
     have hb:zbw b<=40:=by
      have h1:=zBU hf;rw [zFf,eb,zA1] at h1;omega
     refine ⟨by rw [eb]; simp, ?_⟩
     rw [eb,zbcR hk eb];exact zbl2 d n b (by omega) (((h.2 _ hm).2 f hf).2.1 b (by rw [eb]; simp)) (zkb vb) hb) (S.at_ _ hm)
    have gb:decide ((s.length+(zd7 (a.getD i default).Fs [[]]).length)*24<=zP)=true:=by rw [qe]; omega
    simp only [Wy.ev_i,Wy.ev_k,Wy.ev_h,Wy.ev_bn,Wy.ev_d,tT,hi,e7 (a.length+a.length+i+(a.getD i default).Fs.length+(a.getD i default).Fs.length+Int.toNat 0+s.length+1+1000) (by omega),gb]
    rw [zJ (by omega)])
   (λs hI H K D=>by
    show (zhs (zda n) a a.length a.length s).ev H K D=_;unfold zhs;simp only [Wy.ev_i,Wy.ev_k,tT,Nat.lt_irrefl]; rfl) (a.length+(Int.ofNat a.length).toNat +Int.toNat (0:Int)+(0:Nat)+(1000:Nat)) [] (by omega) (by rw [List.drop_zero]; simp only [List.length_nil]; omega)
  have h3:zzM (zda n) (a.length+(Int.ofNat a.length).toNat +Int.toNat (0:Int)+(0:Nat)+(1000:Nat)) a (Int.ofNat a.length) 0 []=_:=h3;rw [Wy.fin_bn,h3,z5V,List.nil_append]
  have hM:zg0 (zfT a)=(true,zuq (zfT a)):=by
   exact zLz _ (by omega) λx hx=>by have:=S.len x hx; omega
  show (Wy.bn (zg0 (zfT a)) λr22=>.k r22:Wy0 (yB)).fin default=_
  rw [hM]; rfl
def zblx (a:yC):yB×Int:=
 if zbe a=true then if zpW a=true then if 512<(zcw a).length then ([],6) else (zcw a,0) else ([],13) else ([],1)
theorem zbfJ {a:yC} (oa:okA a) (ht:zbw a<=40):zlz a=(true,zblx a):=by
 unfold zlz zDd zblx;rw [Wy.fin_bn,oa.valid];cases hv:zbe a with
 | false=>rfl
 | true=>
  rw [if_pos rfl,cond_true];have h1:zx3 a=(true,zpW a):=zbn8 12 1000 a (by omega) oa.1.1 (zkb hv)
  have h2:zxt a=(true,zcw a):=zbl2 12 1000 a (by omega) oa.1.1 (zkb hv) ht
  simp only [Wy.fin_i,Wy.fin_k,Wy.fin_bn,h1,h2,Bool.not_true,cond_false,cond_true];cases hx:zpW a with
  | false=>rfl
  | true=>
   rw [if_pos rfl];by_cases hl:512<(zcw a).length
   ·have:decide (Int.ofNat (zcw a).length>512)=true:=by rw [qe,Int.ofNat_eq_natCast]; omega
    rw [if_pos hl,this]; rfl
   ·have:decide (Int.ofNat (zcw a).length>512)=false:=by rw [decide_eq_false_iff_not,Int.ofNat_eq_natCast]; omega
    rw [if_neg hl,this]; rfl
theorem zbcG (S:yF) (x:At):zyH S x=if x.Kind=2 then (zGl S x.Ag).getD 0 False else x.Row∈S:=by cases x; rw [zyH]
theorem zbiz (S:yF) {x:At} {b:yC} (h:x.Kind=2) (e:x.Ag=[b]):zyH S x=zn5 S b:=by
 rw [zbcG,if_pos h,e,zGl]; rfl
theorem zbiH (S:yF) {x:At} (h:x.Kind≠2):zyH S x=(x.Row∈S):=by rw [zbcG,if_neg h]
theorem zba4 (S:yF) (f:Fc) (r:yD):zjD S (f::r)=(zyH S f.At/\zjD S r):=by cases f; rw [zjD]
theorem zbi3 (S:yF) (t:Term) (r:yC):zn5 S (t::r)=(zjD S t.Fs\/zn5 S r):=by cases t; rw [zn5]
mutual
def zJe (P:RowID->Prop):At->Prop
 | ⟨k,r,a,_,_,_,_⟩=>if k=2 then (z8d P a).getD 0 True else P r
def zJG (P:RowID->Prop):yD->Prop
 | []=>True
 | ⟨x,_⟩::r=>zJe P x/\zJG P r
def zQV (P:RowID->Prop):yC->Prop
 | []=>True
 | ⟨_,fs⟩::r=>zJG P fs/\zQV P r
def z8d (P:RowID->Prop):yA->List Prop
 | []=>[]
 | a::r=>zQV P a::z8d P r
end
theorem zbci (P:RowID->Prop) (x:At):zJe P x=if x.Kind=2 then (z8d P x.Ag).getD 0 True else P x.Row:=by cases x; rw [zJe]
theorem z9I (P:RowID->Prop) {x:At} {b:yC} (h:x.Kind=2) (e:x.Ag=[b]):zJe P x=zQV P b:=by
 rw [zbci,if_pos h,e,z8d]; rfl
theorem z9k (P:RowID->Prop) {x:At} (h:x.Kind≠2):zJe P x=P x.Row:=by rw [zbci,if_neg h]
theorem zX1 (P:RowID->Prop):∀ l:yD,zJG P l↔∀ f∈l,zJe P f.At
 | []=>by rw [zJG]; simp
 | ⟨x,e⟩::r=>by rw [zJG,zX1 P r]; simp
theorem z0q (P:RowID->Prop):∀ a:yC,zQV P a↔∀ t∈a,∀ f∈t.Fs,zJe P f.At
 | []=>by rw [zQV]; simp
 | ⟨c,fs⟩::r=>by rw [zQV,zX1,z0q P r]; simp
theorem zXQ {l:yD}:zt4 l=true↔∀ f∈l,zFy f.At=true:=by rw [zKh,List.all_eq_true]
theorem zbc1 {a:yC}:zpW a=true↔∀ t∈a,∀ f∈t.Fs,zFy f.At=true:=by
 rw [z0a,List.all_eq_true];exact ⟨λh t ht=>zXQ.1 (h t ht),λh t ht=>zXQ.2 (h t ht)⟩
def zKk:yC:=[⟨1,[]⟩]
def zbec (to:RowID->yC) (S:yF) (r:RowID):Prop:=(r∈S/\to r=zKk)\/(r∉S/\to r=[])
section
variable {to:RowID->yC} {S:yF}
theorem zbff:∀ n,zKi zKk n=zKk
 | 0=>rfl
 | n+1=>by
  show zd4 zKk (zKi zKk n)=zKk;rw [zbff n]; exact zON zN0
theorem zbkV {n:Nat} (h:0<n):zKi [] n=[]:=by
 cases n with
 | zero=>omega
 | succ n=>rfl
theorem zbjU:∀ (l:yD),(∀ f∈l,1<=f.Exp/\((zcj to f.At=zKk/\zyH S f.At)\/(zcj to f.At=[]/\¬ zyH S f.At)))->
  (mvA (zcj to) l=zKk/\zjD S l)\/(mvA (zcj to) l=[]/\¬ zjD S l)
 | [],_=>.inl ⟨rfl,by rw [zjD]; trivial⟩
 | f::r,h=>by
  obtain ⟨he,hf⟩:=h f (by simp)
  rw [zba4];show (zd4 (zKi (zcj to f.At) f.Exp.toNat) (mvA (zcj to) r)=zKk/\_)\/(zd4 (zKi (zcj to f.At) f.Exp.toNat) (mvA (zcj to) r)=[]/\_);rcases hf with ⟨h1,h2⟩ | ⟨h1,h2⟩
  ·rw [h1,zbff];rcases zbjU r (λg hg=>h g (by simp [hg])) with ⟨h3,h4⟩ | ⟨h3,h4⟩
   ·rw [h3]; exact .inl ⟨zON zN0,h2,h4⟩
   ·rw [h3,zbge]; exact .inr ⟨rfl,λh=>h4 h.2⟩
  ·rw [h1,zbkV (by omega)]
   exact .inr ⟨rfl,λh=>h2 h.1⟩
theorem zbjg {d c:Int} (hd:cOK ⟨d,[]⟩) (hc:cOK ⟨c,[]⟩):∃ e,cOK ⟨e,[]⟩/\zgP [⟨d,[]⟩] [⟨c,[]⟩]=[⟨e,[]⟩]:=by
 have e1:zgP [⟨d,[]⟩] [⟨c,[]⟩]=[⟨zvz d c,[]⟩]:=by
  show zil ⟨c,[]⟩ [⟨d,[]⟩]=_;unfold zil;have:cT ⟨d,[]⟩ ⟨c,[]⟩=0:=zBV rfl;rw [if_neg (by rw [this]; omega),if_pos this]
 refine ⟨zvz d c, ?_,e1⟩;have:=z9y (t:=⟨c,[]⟩) hc (l:=[⟨d,[]⟩]) (λx hx=>by rw [qh.1 hx]; exact hd)
 rw [show zil ⟨c,[]⟩ [⟨d,[]⟩]=[⟨zvz d c,[]⟩] from e1] at this
 exact this _ (by simp)
theorem zbfV:∀ (a:yC),(∀ t∈a,cOK t/\((mvA (zcj to) t.Fs=zKk/\zjD S t.Fs)\/(mvA (zcj to) t.Fs=[]/\¬ zjD S t.Fs)))->∀ s:yC,(s=[]\/∃ c,cOK ⟨c,[]⟩/\s=[⟨c,[]⟩])->
  (∃ c,cOK ⟨c,[]⟩/\evU (zcj to) a s=[⟨c,[]⟩]/\(s≠[]\/zn5 S a))\/(evU (zcj to) a s=[]/\s=[]/\¬ zn5 S a)
 | [],_,s,hs=>by
  have e0:¬ zn5 S []:=by rw [zn5]; simp
  show (∃ c,_/\s=_/\_)\/(s=[]/\_);rcases hs with rfl | ⟨c,hc,rfl⟩
  ·exact .inr ⟨rfl,rfl,e0⟩
  ·exact .inl ⟨c,hc,rfl,.inl (by simp)⟩
 | t::r,h,s,hs=>by
  obtain ⟨hc,ht⟩:=h t (by simp)
  have hr:=λu hu=>h u (List.mem_cons_of_mem t hu)
  rw [zbi3];show (∃ c,_/\evU (zcj to) r (zgP s (zd4 [⟨t.Cf,[]⟩] (mvA (zcj to) t.Fs)))=_/\_)\/(evU (zcj to) r (zgP s (zd4 [⟨t.Cf,[]⟩] (mvA (zcj to) t.Fs)))=_/\_);have hc':cOK ⟨t.Cf,[]⟩:=hc;rcases ht with ⟨h1,h2⟩ | ⟨h1,h2⟩
  ·rw [h1,show zd4 [⟨t.Cf,[]⟩] zKk=[⟨t.Cf,[]⟩] from zON (z7q hc')]
   have:∃ e,cOK ⟨e,[]⟩/\zgP s [⟨t.Cf,[]⟩]=[⟨e,[]⟩]:=by
    rcases hs with rfl | ⟨c,hcc,rfl⟩
    ·exact ⟨t.Cf,hc',rfl⟩
    ·exact zbjg hcc hc'
   obtain ⟨e,he,e2⟩:=this;rw [e2];rcases zbfV r hr [⟨e,[]⟩] (.inr ⟨e,he,rfl⟩) with ⟨c,k1,k2,_⟩ | ⟨_,k2,_⟩
   ·exact .inl ⟨c,k1,k2,.inr (.inl h2)⟩
   ·cases k2
  ·rw [h1,zbge];show (∃ c,_/\evU (zcj to) r s=_/\_)\/(evU (zcj to) r s=_/\_);rcases zbfV r hr s hs with ⟨c,k1,k2,k3⟩ | ⟨k1,k2,k3⟩
   ·refine .inl ⟨c,k1,k2, ?_⟩;rcases k3 with k3 | k3
    ·exact .inl k3
    ·exact .inr (.inr k3)
   ·refine .inr ⟨k1,k2,λh=> ?_⟩
    rcases h with h | h
    ·exact h2 h
    ·exact k3 h
theorem zblM:∀ (d:Nat) (a:yC),zw d a->QA a->zpW a=true->zQV (zbec to S) a->
  (∃ c,cOK ⟨c,[]⟩/\vlA to a=[⟨c,[]⟩]/\zn5 S a)\/(vlA to a=[]/\¬ zn5 S a)
 | 0,a,h,_,_,_=>h.elim
 | d+1,a,h,q,hx,ha=>by
  have hat:∀ t∈a,∀ f∈t.Fs,1<=f.Exp/\((zcj to f.At=zKk/\zyH S f.At)\/(zcj to f.At=[]/\¬ zyH S f.At)):=λt ht f hf=>by
   have hq:=(q.2 t ht).2.2 f hf;refine ⟨hq.1.1, ?_⟩;have hxf:=zbc1.1 hx t ht f hf;have haf:=(z0q _ a).1 ha t ht f hf;have hfin:=(h.2 t ht).2 f hf;have hv:=zIk.1 hq.2;generalize f.At=x at hxf haf hfin hv ⊢;cases hv with
   | var r hr=>
    rw [z9k _ (by simp)] at haf
    rw [z8k,zbiH _ (by simp)]
    rcases haf with ⟨k1,k2⟩ | ⟨k1,k2⟩
    ·exact .inl ⟨k2,k1⟩
    ·exact .inr ⟨k2,k1⟩
   | del b hb hb0 h1 h2=>
    rw [z9I _ rfl rfl] at haf;rw [zVx rfl rfl] at hxf;rw [zbeV,zbiz _ rfl rfl];rcases zblM d b (hfin.2.1 b (by simp)) (zkb hb) hxf haf with ⟨c,k1,k2,k3⟩ | ⟨k2,k3⟩
    ·refine .inl ⟨?_,k3⟩;rw [k2];unfold z2r
     rw [if_neg (by
      rintro (h | h)
      ·cases h
      ·simp [isU,zblf] at h)]
     rfl
    ·refine .inr ⟨?_,k3⟩;rw [k2];unfold z2r;rw [if_pos (.inl rfl)]
   | mon=>simp [ztC] at hxf
   | abs=>simp [ztC] at hxf
   | tst=>simp [ztC] at hxf
  have:=zbfV (to:=to) (S:=S) a (λt ht=>⟨(q.2 t ht).1,zbjU t.Fs (hat t ht)⟩) [] (.inl rfl)
  rcases this with ⟨c,k1,k2,k3⟩ | ⟨k1,_,k3⟩
  ·refine .inl ⟨c,k1,k2, ?_⟩;rcases k3 with k3 | k3
   ·exact absurd rfl k3
   ·exact k3
  ·exact .inr ⟨k1,k3⟩
end
open Go.Proofs Go.RowKit
end Go.Proofs.YtljlfiomikifjaaGreatDoor
namespace Go.Proofs.YtljlfiomikifjaaGreatDoor
open Go Go.Ab
def zmQ (l:yF):yG:=l.map λid=>⟨id,[⟨1,[]⟩]⟩
theorem zbch:∀ (l o:yF),(l.foldl (λo x=>zlq cR x o) o).length<=o.length+l.length
 | [],o=>by simp
 | x::r,o=>by
  rw [List.foldl_cons,qf];have:=zbch r (zlq cR x o);have:=z2o x o;omega
theorem zbcs:∀ (l o:yF) (z:RowID),z∈l.foldl (λo x=>zlq cR x o) o↔z∈o\/z∈l
 | [],o,z=>by simp
 | x::r,o,z=>by
  rw [List.foldl_cons,zbcs r,zXy zis,qd];constructor
  ·rintro ((h | h) | h)
   ·exact .inr (.inl h)
   ·exact .inl h
   ·exact .inr (.inr h)
  ·rintro (h | h | h)
   ·exact .inl (.inr h)
   ·exact .inl (.inl h)
   ·exact .inr h
section
variable (g:yC->Bool×yF)
def rwF (f:Fc):yF:=if f.At.Kind=0 then [f.At.Row] else (g (f.At.Ag.getD 0 default)).2
def rwS (o:yF) (f:Fc):yF:=(rwF g f).foldl (λo x=>zlq cR x o) o
theorem zbhi:∀ (l:yD) (o:yF) (z:RowID),z∈l.foldl (rwS g) o↔z∈o\/∃ f∈l,z∈rwF g f
 | [],o,z=>by simp
 | f::r,o,z=>by
  rw [List.foldl_cons,zbhi r];unfold rwS;rw [zbcs];simp only [qd,exists_eq_or_imp,or_assoc]
def rwT (o:yF) (t:Term):yF:=t.Fs.foldl (rwS g) o
theorem zbhD:∀ (a:yC) (o:yF) (z:RowID),z∈a.foldl (rwT g) o↔z∈o\/∃ t∈a,∃ f∈t.Fs,z∈rwF g f
 | [],o,z=>by simp
 | t::r,o,z=>by
  rw [List.foldl_cons,zbhD r];unfold rwT;rw [zbhi];simp only [qd,exists_eq_or_imp,or_assoc]
variable (a:yC) (i k:Int) (x:At)
theorem zbjL (out:yF) (h:x.Ag=[]\/∃ b,x.Ag=[b]/\(g b).1=true/\(g b).2.length<=400000) (ho:out.length<=400000) (n:Nat) (hn:x.Ag.length<n):
  znK g n a out i k 0 x=(true,(a,(match x.Ag with | []=>[] | b::_=>(g b).2).foldl (λo x=>zlq cR x o) out,i,k,x)):=by
 have hh:=zm3 (W:=zwe g) (z:=default) x.Ag (λj o=>(a,o,i,k,(),(j:Int),())) (λ_ _=>(x,())) (λo b=>(g b).2.foldl (λo x=>zlq cR x o) o) (λo=>(a,o,i,k,x)) (λj o=>j=0->o.length<=400000)
  (λj o hj hI=>by
   refine ⟨λh=>by omega,λH K D=> ?_⟩
   show (zks g a o i k j x).ev H K D=_;unfold zks;rcases h with h | ⟨b,h,h1,h2⟩
   ·rw [h] at hj; simp at hj
   ·rw [h] at hj ⊢;have hj0:j=0:=by simp at hj; omega
    subst hj0;obtain ⟨vb,e⟩:∃ vb,g b=(true,vb):=⟨_,Prod.ext h1 rfl⟩;rw [e] at h2;have e2:=zbk7 o vb (hI rfl) h2;have ej:(decide ((0:Int)<=((0:Nat):Int))&&decide (((0:Nat):Int)<Int.ofNat [b].length))=true:=rfl;have ej':decide (((0:Nat):Int)<Int.ofNat [b].length)=true:=rfl;have eb:[b].getD (Int.toNat ((0:Nat):Int)) default=b:=rfl;have eb':[b].getD 0 default=b:=rfl;simp only [Wy.ev_i,Wy.ev_k,Wy.ev_h,Wy.ev_bn,Wy.ev_d,ej,ej',eb,eb',e,e2,cond_true,At.eta];rfl)
  (λo hI H K D=>by
   show (zks g a o i k x.Ag.length x).ev H K D=_;unfold zks;simp only [Wy.ev_i,Wy.ev_k,tT,Nat.lt_irrefl,At.eta]) n out hn (λ_=>ho)
 have hh:znK g n a out i k 0 x=_:=hh;rw [hh];rcases h with h | ⟨b,h,_⟩
 ·rw [h]; rfl
 ·rw [h]; rfl
theorem zbjk (out:yF) (h:x.Items=[]) (n:Nat) (hn:0<n):zvE g n a out i k 0 x=(true,(a,out,i,k)):=by
 obtain ⟨m,rfl⟩:∃ m,n=m+1:=⟨n - 1,by omega⟩
 show (zvW g a out i k 0 x).ev _ _ _=_;unfold zvW;rw [h]; rfl
def z7F (f:Fc):Prop:=(f.At.Kind=0/\f.At.Ag=[]/\f.At.Items=[])\/(f.At.Kind=2/\∃ b,f.At.Ag=[b]/\f.At.Items=[]/\(g b).1=true/\(g b).2.length<=zfq f.At)
theorem zbmq {f:Fc} (h:z7F g f):(rwF g f).length<=1+zfq f.At:=by
 unfold rwF;rcases h with ⟨h0,_⟩ | ⟨h2,b,e,_,_,hl⟩
 ·rw [if_pos h0]; simp
 ·rw [if_neg (by omega),e]
  have:([b].getD 0 default)=b:=rfl;rw [this]; omega
theorem zbhS {f:Fc} (h:z7F g f) (o:yF):(rwS g o f).length<=o.length+1+zfq f.At:=by
 have h1:(rwS g o f).length<=o.length+(rwF g f).length:=zbch (rwF g f) o;have:=zbmq g h;omega
theorem zbol (out:yF) (i:Nat) (hi:i<a.length) (ho:out.length<=1000) (hl:(a.getD i default).Fs.length<=1000) (ht:zZ (a.getD i default).Fs<=1000) (hf:∀ f∈(a.getD i default).Fs,z7F g f) (n:Nat) (hn:(a.getD i default).Fs.length<n):
  zFd g n a out i 0=(true,(a,(a.getD i default).Fs.foldl (rwS g) out,(i:Int))):=by
 have hh:=zm3 (W:=zxE g) (z:=default) (a.getD i default).Fs (λk o=>(a,o,(i:Int),(k:Int),())) (λ_ _=>()) (rwS g) (λo=>(a,o,(i:Int))) (λk o=>o.length<=out.length+k+zZ ((a.getD i default).Fs.take k))
  (λk o hk hI=>by
   have hm:=hf _ (zI hk);have tk:=zQF hk;have tl:=zIx (a.getD i default).Fs (k+1);have sl:=zbhS g hm o;refine ⟨by omega,λH K D=> ?_⟩
   show (zlA g a o i k).ev H K D=_;unfold zlA;rcases hm with ⟨h0,e1,e2⟩ | ⟨h2,b,e1,e2,hb,hbl⟩
   ·have ek:(((a.getD i default).Fs.getD k default).At.Kind==0)=true:=by rw [h0]; rfl
    have es:rwS g o ((a.getD i default).Fs.getD k default)=zlq cR ((a.getD i default).Fs.getD k default).At.Row o:=by
     unfold rwS rwF;rw [if_pos h0]; rfl
    have ep:=z8s o ((a.getD i default).Fs.getD k default).At.Row (by omega)
    have hsl:=z2o ((a.getD i default).Fs.getD k default).At.Row o;have c12:=λn hn=>zbjL g a (i:Int) (k:Int) ((a.getD i default).Fs.getD k default).At (zlq cR ((a.getD i default).Fs.getD k default).At.Row o) (.inl e1) (by omega) n hn
    rw [e1] at c12;have c16:=λn hn=>zbjk g a (i:Int) (k:Int) ((a.getD i default).Fs.getD k default).At (zlq cR ((a.getD i default).Fs.getD k default).At.Row o) e2 n hn
    simp only [Wy.ev_i,Wy.ev_k,Wy.ev_h,Wy.ev_bn,Wy.ev_d,tT,hi,hk,ek,ep,At.eta];rw [c12 _ (by simp only [List.length_nil]; omega)]
    simp only [List.foldl_nil,cond_true,Int.toNat_natCast,At.eta];rw [c16 _ (by omega)]
    simp only [cond_true];rw [zJ (by omega),es]
   ·have ek:(((a.getD i default).Fs.getD k default).At.Kind==0)=false:=by rw [h2]; rfl
    have es:rwS g o ((a.getD i default).Fs.getD k default)=(g b).2.foldl (λo x=>zlq cR x o) o:=by
     unfold rwS rwF;rw [if_neg (by omega),e1]; rfl
    have c12:=λn hn=>zbjL g a (i:Int) (k:Int) ((a.getD i default).Fs.getD k default).At o (.inr ⟨b,e1,hb,by omega⟩) (by omega) n hn
    rw [e1] at c12;have c16:=λn hn=>zbjk g a (i:Int) (k:Int) ((a.getD i default).Fs.getD k default).At ((g b).2.foldl (λo x=>zlq cR x o) o) e2 n hn
    simp only [Wy.ev_i,Wy.ev_k,Wy.ev_h,Wy.ev_bn,Wy.ev_d,tT,hi,hk,ek,At.eta];rw [c12 _ (by rw [e1]; simp only [List.length_singleton]; omega)]
    simp only [cond_true,Int.toNat_natCast,At.eta];rw [c16 _ (by omega)]
    simp only [cond_true];rw [zJ (by omega),es])
  (λo hI H K D=>by
   show (zlA g a o i (a.getD i default).Fs.length).ev H K D=_;unfold zlA;simp only [Wy.ev_i,Wy.ev_k,tT,hi,Nat.lt_irrefl]) n out hn (by simp)
 exact hh
end
theorem zKP:∀ (l m:yC),zbw (l++m)=zbw l+zbw m
 | [],m=>by simp [zbw]
 | f::r,m=>by rw [List.cons_append,zit,zit,zKP r]; omega
theorem zbg5 {l:yC} {i:Nat} (h:i<l.length):zbw (l.take (i+1))=zbw (l.take i)+(1+(l.getD i default).Fs.length+zZ (l.getD i default).Fs):=by
 rw [zqi h,zKP,zit,z8Q]; omega
theorem zbbF (l:yC) (i:Nat):zbw (l.take i)<=zbw l:=by
 have:=zKP (l.take i) (l.drop i);rw [List.take_append_drop] at this; omega
theorem zSU (g:yC->Bool×yF):∀ (l:yD) (o:yF),(∀ f∈l,z7F g f)->(l.foldl (rwS g) o).length<=o.length+l.length+zZ l
 | [],o,_=>by simp
 | f::r,o,h=>by
  rw [List.foldl_cons,qf,zlu];have:=zSU g r (rwS g o f) λx hx=>h x (by simp [hx])
  have:=zbhS g (h f (by simp)) o
  omega
theorem zblT:∀ (d n:Nat) (a:yC),d<=n->zw d a->QA a->zpW a=true->zbw a<=40->
  (zbi n a).1=true/\(zbi n a).2.length<=zbw a/\∀ P:RowID->Prop,(∀ r∈(zbi n a).2,P r)->zQV P a
 | 0,n,a,hn,h,_,_,_=>h.elim
 | d+1,0,a,hn,h,q,_,ht=>by omega
 | d+1,n+1,a,hn,h,q,hx,ht=>by
  have hA:=h.1
  have hb40:∀ t∈a,∀ f∈t.Fs,∀ b,f.At.Ag=[b]->zbw b<=zfq f.At/\zbw b<=40:=λt hm f hf b eb=>by
   have h1:=zBU hf;have h2:=zVE hm;have h3:=zFf f.At;rw [eb,zA1] at h3;exact ⟨by omega,by omega⟩
  have hat:∀ t∈a,∀ f∈t.Fs,z7F (zbi n) f/\(∀ P:RowID->Prop,(∀ r∈rwF (zbi n) f,P r)->zJe P f.At):=λt hm f hf=>by
   have hq:=(q.2 t hm).2.2 f hf;have hxf:=zbc1.1 hx t hm f hf;have hfin:=(h.2 t hm).2 f hf;have h40:=hb40 t hm f hf;have hv:=zIk.1 hq.2;unfold z7F rwF;generalize f.At=x at hxf hfin hv h40 ⊢;cases hv with
   | var r hr=>
    refine ⟨.inl ⟨rfl,rfl,rfl⟩,λP hP=> ?_⟩
    rw [z9k _ (by simp)]
    exact hP r (by simp)
   | del b hb hb0 h1 h2=>
    obtain ⟨k1,k2⟩:=h40 b rfl;rw [zVx rfl rfl] at hxf;obtain ⟨i1,i2,i3⟩:=zblT d n b (by omega) (hfin.2.1 b (by simp)) (zkb hb) hxf k2
    refine ⟨.inr ⟨rfl,b,rfl,rfl,i1,by omega⟩,λP hP=> ?_⟩
    rw [z9I _ rfl rfl];exact i3 P hP
   | mon=>simp [ztC] at hxf
   | abs=>simp [ztC] at hxf
   | tst=>simp [ztC] at hxf
  have htf:∀ t∈a,t.Fs.length<=1000/\zZ t.Fs<=1000:=λt hm=>by
   have:∀ {l:yC} {t:Term},t∈l->1+t.Fs.length+zZ t.Fs<=zbw l:=by
    intro l;induction l with
    | nil=>intro t h; cases h
    | cons x r ih=>
     intro t h;rw [zit];rcases qd.1 h with rfl | h
     ·omega
     ·have:=ih h; omega
   have:=this hm;omega
  have h3:=zm3 (W:=zxf (zbi n)) (z:=default) a (λi o=>(a,o,(i:Int),())) (λ_ _=>()) (rwT (zbi n)) id (λi o=>o.length<=zbw (a.take i))
   (λi o hi hI=>by
    have hm:=zI hi;have tk:=zbg5 hi;have tl:=zbbF a (i+1);have hex:=λf hf=>(hat _ hm f hf).1
    have fl:=zSU (zbi n) (a.getD i default).Fs o hex
    refine ⟨by
     show (List.foldl (rwS (zbi n)) o (a.getD i default).Fs).length<=_;omega,λH K D=> ?_⟩
    show (zk7 (zbi n) a o i).ev H K D=_;unfold zk7;have sz:=zHu a i hi;have e6:=zbol (zbi n) a o i hi (by omega) (htf _ hm).1 (htf _ hm).2 hex
    simp only [Wy.ev_i,Wy.ev_k,Wy.ev_h,Wy.ev_bn,Wy.ev_d,tT,hi];rw [e6 _ (by omega)]
    simp only [cond_true];rw [zJ (by omega)]; rfl)
   (λo hI H K D=>by
    show (zk7 (zbi n) a o a.length).ev H K D=_;unfold zk7;simp only [Wy.ev_i,Wy.ev_k,tT,Nat.lt_irrefl]; rfl) ((a.length+(0:Nat)+Int.toNat (0:Int)+(1:Nat))+zbD a) [] (by omega) (by simp)
  have h3:zE8 (zbi n) ((a.length+(0:Nat)+Int.toNat (0:Int)+(1:Nat))+zbD a) a [] 0=_:=h3
  have e:zbi (n+1) a=(true,a.foldl (rwT (zbi n)) []):=by
   rw [zW3];unfold zvA zG8;rw [Wy.fin_bn,h3]; rfl
  rw [e];refine ⟨rfl, ?_,λP hP=> ?_⟩
  ·have:∀ (l:yC) (o:yF),(∀ t∈l,∀ f∈t.Fs,z7F (zbi n) f)->(l.foldl (rwT (zbi n)) o).length<=o.length+zbw l:=by
    intro l;induction l with
    | nil=>intro o _; simp
    | cons t r ih=>
     intro o hl;rw [List.foldl_cons,zit];have h1:=ih (rwT (zbi n) o t) λu hu=>hl u (by simp [hu])
     have h2:=zSU (zbi n) t.Fs o (hl t (by simp))
     have h3:(rwT (zbi n) o t).length=(t.Fs.foldl (rwS (zbi n)) o).length:=rfl;omega
   have:=this a [] λt ht f hf=>(hat t ht f hf).1
   simpa using this
  ·rw [z0q];intro t ht f hf;refine (hat t ht f hf).2 P λr hr=>hP r ?_
   exact (zbhD (zbi n) a [] r).2 (.inr ⟨t,ht,f,hf,hr⟩)
def zpy (l:yF):yG:=l.map λid=>⟨id,[]⟩
theorem zbcD:∀ (l v:yF) (r:RowID),r∈v->zbec (toA (zmQ l++zpy v)) l r
 | [],v,r,h=>by
  refine .inr ⟨by simp, ?_⟩
  show toA (zpy v) r=[];induction v with
  | nil=>cases h
  | cons x w ih=>
   show toA (⟨x,[]⟩::zpy w) r=[];rw [toA];by_cases e:x=r
   ·rw [if_pos e]
   ·rw [if_neg e];refine ih ?_;rcases qd.1 h with h | h
    ·exact absurd h.symm e
    ·exact h
 | x::l,v,r,h=>by
  show zbec (toA (⟨x,[⟨1,[]⟩]⟩::(zmQ l++zpy v))) (x::l) r;unfold zbec;rw [toA];by_cases e:x=r
  ·rw [if_pos e];exact .inl ⟨by simp [e],rfl⟩
  ·rw [if_neg e];rcases zbcD l v r h with ⟨k1,k2⟩ | ⟨k1,k2⟩
   ·exact .inl ⟨by simp [k1],k2⟩
   ·refine .inr ⟨λhm=> ?_,k2⟩
    rcases qd.1 hm with hm | hm
    ·exact e hm.symm
    ·exact k1 hm
theorem zbhw:∀ {l:yG},(∀ b∈l,zbe b.To=true)->∀ r,PA (toA l r)
 | [],_,r=>by
  rw [toA]; unfold zWy;cases zBH r with
  | true=>exact zUZ _ (by simp)
  | false=>exact PA.nil
 | b::l,h,r=>by
  rw [toA];split
  ·exact zbga (h b (by simp))
  ·exact zbhw (λc hc=>h c (by simp [hc])) r
theorem z6e {a:yC} (oa:okA a) (sa:zca a) (hv:zbe a=true) (hx:zpW a=true) (ht:zbw a<=30) (l:yF) (hl:l.length<=100):
  ∃ w:yC×Int,zuL a l=(true,w)/\(w.2=0->(w.1≠[]↔zn5 l a)):=by
 have hreach:zP=70368744177664:=rfl;obtain ⟨v1,v2,v3⟩:=zblT 12 1000 a (by omega) oa.1.1 (zkb hv) hx (by omega)
 obtain ⟨v,ev⟩:∃ v,zbi 1000 a=(true,v):=⟨_,Prod.ext v1 rfl⟩;rw [ev] at v2 v3;simp only at v2 v3;have evs:zFO a=(true,v):=ev
 have k:∀ (l:yF) (s:yG),l.foldl (λs id=>s++[⟨id,[⟨1,[]⟩]⟩]) s=s++zmQ l:=by
  intro l;induction l with
  | nil=>intro s; simp [zmQ]
  | cons t r ih=>intro s; rw [List.foldl_cons,ih]; simp [zmQ]
 have k2:∀ (l:yF) (s:yG),l.foldl (λs id=>s++[⟨id,[]⟩]) s=s++zpy l:=by
  intro l;induction l with
  | nil=>intro s; simp [zpy]
  | cons t r ih=>intro s; rw [List.foldl_cons,ih]; simp [zpy]
 have e2:zw2.snd=[⟨1,[]⟩]:=rfl;have hlo:(zmQ l).length=l.length:=by unfold zmQ; rw [List.length_map]
 have hlz:(zpy v).length=v.length:=by unfold zpy; rw [List.length_map]
 have hb:okB (zmQ l++zpy v):=⟨by rw [qg]; omega,λb hb=>by
  rcases List.mem_append.1 hb with hb | hb
  ·obtain ⟨x,hx,rfl⟩:=List.mem_map.1 hb;exact zTH 1 (by omega)
  ·obtain ⟨x,hx,rfl⟩:=List.mem_map.1 hb;exact zkn⟩
 have h:=zm3 (W:=zHR) (z:=default) l (λi _=>(a,l,(),(i:Int),())) (λ_ s=>(s,())) (λs id=>s++[⟨id,[⟨1,[]⟩]⟩]) (λs=>(a,s)) (λi s=>s.length=i)
  (λi s hi hI=>by
   refine ⟨by simp [hI],λH K D=> ?_⟩
   show (zv6 a l i s).ev H K D=_;unfold zv6;have gb:∀ x:Bg,decide ((s.length+[x].length)*40<=zP)=true:=λx=>by rw [qe,List.length_singleton]; omega
   simp only [Wy.ev_i,Wy.ev_k,Wy.ev_h,Wy.ev_bn,Wy.ev_d,tT,hi,gb,e2];rw [zJ (by omega)])
  (λs hI H K D=>by
   show (zv6 a l l.length s).ev H K D=_;unfold zv6;simp only [Wy.ev_i,Wy.ev_k,tT,Nat.lt_irrefl]) (a.length+l.length+Int.toNat (0:Int)+(0:Nat)+(1000:Nat)) [] (by omega) rfl
 have h:zVg (a.length+l.length+Int.toNat (0:Int)+(0:Nat)+(1000:Nat)) a l 0 []=_:=h
 have h8:=zm3 (W:=zHk) (z:=default) v (λi _=>(a,(),v,(i:Int),())) (λ_ s=>(s,())) (λs id=>s++[⟨id,[]⟩]) (λs=>(a,s)) (λi s=>s.length=l.length+i)
  (λi s hi hI=>by
   refine ⟨by rw [qg,List.length_singleton]; omega,λH K D=> ?_⟩
   show (zwp a v i s).ev H K D=_;unfold zwp;have gb:∀ x:Bg,decide ((s.length+[x].length)*40<=zP)=true:=λx=>by rw [qe,List.length_singleton]; omega
   simp only [Wy.ev_i,Wy.ev_k,Wy.ev_h,Wy.ev_bn,Wy.ev_d,tT,hi,gb];rw [zJ (by omega)])
  (λs hI H K D=>by
   show (zwp a v v.length s).ev H K D=_;unfold zwp;simp only [Wy.ev_i,Wy.ev_k,tT,Nat.lt_irrefl]) (a.length+v.length+Int.toNat (0:Int)+(zmQ l).length+(1000:Nat)) (zmQ l) (by omega) (by rw [hlo]; omega)
 have h8:zS0 (a.length+v.length+Int.toNat (0:Int)+(zmQ l).length+(1000:Nat)) a v 0 (zmQ l)=_:=h8;refine ⟨zbe4 a (zmQ l++zpy v), ?_,λh0=> ?_⟩
 ·unfold zuL zYb;rw [Wy.fin_bn,h,k,List.nil_append,cond_true,Wy.fin_bn];simp only [evs,cond_true];rw [Wy.fin_bn,h8,k2,cond_true,Wy.fin_bn];simp only [zbaU oa (λ_=>sa) hb,cond_true]
  rw [Wy.fin_k]
 ·have hto:∀ r,PA (toA (zmQ l++zpy v) r):=zbhw λb hb=>by
   rcases List.mem_append.1 hb with hb | hb
   ·obtain ⟨x,hx,rfl⟩:=List.mem_map.1 hb;exact zbkb
   ·obtain ⟨x,hx,rfl⟩:=List.mem_map.1 hb;exact zbjp
  obtain ⟨_,e⟩:=z3w (show (opR _ _).2=0 from h0)
  have e:zbe4 a (zmQ l++zpy v)=ofS (zdv (toA (zmQ l++zpy v)) a []):=e
  have hsb:∃ w,zdv (toA (zmQ l++zpy v)) a []=.inr w/\zbe4 a (zmQ l++zpy v)=(w,0):=by
   cases hq:zdv (toA (zmQ l++zpy v)) a [] with
   | inl z=>
    rw [e,hq] at h0;have h0:z=0:=h0;have hg:=zO6 (zbfa hb.2) a 11 oa.2.1 (λt ht f hf=>(oa.fac t ht).2 f hf) [] zkn
    rw [hq] at hg;exact absurd h0 hg
   | inr w=>exact ⟨w,rfl,by rw [e,hq]; rfl⟩
  obtain ⟨w,hw,ew⟩:=hsb;rw [ew];have hw2:w=vlA (toA (zmQ l++zpy v)) a:=(zboC hto 100).1 a hv [] w PA.nil hw;have hval:=zblM (to:=toA (zmQ l++zpy v)) (S:=l) 12 a oa.1.1 (zkb hv) hx (v3 _ λr hr=>zbcD l v r hr)
  rw [hw2];rcases hval with ⟨c,_,k1,k2⟩ | ⟨k1,k2⟩
  ·rw [k1]; exact ⟨λ_=>k2,λ_=>by simp⟩
  ·rw [k1]; exact ⟨λh=>absurd rfl h,λh=>absurd h k2⟩
end Go.Proofs.YtljlfiomikifjaaGreatDoor
namespace Go.Proofs.YtljlfiomikifjaaGreatDoor
open Go Go.Ab
end Go.Proofs.YtljlfiomikifjaaGreatDoor
/- Minimal witnesses: what the reference computes. -/
namespace Go.Proofs.YtljlfiomikifjaaGreatDoor
open Go Go.Ab
section
variable (g:yC->Bool×(yB×Bool)) (a:yC) (out:yB) (i:Int)
end
end Go.Proofs.YtljlfiomikifjaaGreatDoor
end
