/- Texts of this claim, joined (the program, its functions in plain words, and what they compute). -/
import Derived.Test.YtoknknbmfmddbaaGreatDoorGC6
set_option autoImplicit false
set_option linter.unusedVariables false
set_option linter.unusedSectionVars false
set_option linter.unusedSimpArgs false
set_option maxRecDepth 1000000
set_option maxHeartbeats 0
/- Sizes and nesting. -/
noncomputable section
namespace Go.Proofs.YtoknknbmfmddbaaGreatDoor
open Go Go.Ab
mutual
def zft:At->Nat
 | ⟨_,_,a,_,i,_,_⟩=>zfn a+zdm i
def zbK:yC->Nat
 | []=>0
 | ⟨x,_⟩::r=>zft x+zbK r
def zO:yB->Nat
 | []=>0
 | ⟨_,fs⟩::r=>1+fs.length+zbK fs+zO r
def zfn:yA->Nat
 | []=>0
 | a::r=>zO a+zfn r
def zdm:yD->Nat
 | []=>0
 | ⟨_,a⟩::r=>1+zO a+zdm r
end
theorem zhM (x:At):zft x=zfn x.Ag+zdm x.Items:=by cases x; rw [zft]
theorem zda (f:Fc) (r:yC):zbK (f::r)=zft f.At+zbK r:=by cases f; rw [zbK]
theorem zf7 (t:Term) (r:yB):zO (t::r)=1+t.Fs.length+zbK t.Fs+zO r:=by cases t; rw [zO]
theorem zfc (a:yB) (r:yA):zfn (a::r)=zO a+zfn r:=by rw [zfn]
theorem ziE (w:Wd) (r:yD):zdm (w::r)=1+zO w.Ann+zdm r:=by cases w; rw [zdm]
theorem zg4:zfn []=0:=by rw [zfn]
theorem zfS:zdm []=0:=by rw [zdm]
theorem zi2:zbK []=0:=by rw [zbK]
theorem zxf:zO []=0:=by rw [zO]
theorem z5Q (l:yA):∀ n:Nat,l.foldl (λs t=>s+zO t) n=n+zfn l:=by
 induction l with
 | nil=>intro n; rw [zg4]; rfl
 | cons a r ih=>intro n; rw [q11,ih,zfc]; omega
theorem z2l (l:yD):∀ n:Nat,l.foldl (λs t=>s+1+zO t.Ann) n=n+zdm l:=by
 induction l with
 | nil=>intro n; rw [zfS]; rfl
 | cons a r ih=>intro n; rw [q11,ih,ziE]; omega
theorem zbaF (l:yC):∀ n:Nat,l.foldl (λs t=>s+zft t.At) n=n+zbK l:=by
 induction l with
 | nil=>intro n; rw [zi2]; rfl
 | cons a r ih=>intro n; rw [q11,ih,zda]; omega
theorem z9k (l:yB):∀ n:Nat,l.foldl (λs t=>s+1+t.Fs.length+zbK t.Fs) n=n+zO l:=by
 induction l with
 | nil=>intro n; rw [zxf]; rfl
 | cons a r ih=>intro n; rw [q11,ih,zf7]; omega
theorem zmO {n m:Nat} (h:n+m<=4611686018427387904):IntKind.i64.wrap ((n:Int)+(m:Int))=((n+m:Nat):Int):=by
 rw [z0V (by omega) (by omega)]; omega
theorem zg5 {i:Nat} (h:i<4611686018427387904):IntKind.i64.wrap ((i:Int)+1)=((i+1:Nat):Int):=zu h
section
variable (g:yB->Bool×Int)
theorem zblw (l:yA) (hl:l.length<=1000000) (hg:∀ y∈l,g y=(true,(zO y:Int))) (t12:yB) (t13 t14:Int) (t25:yC) (t26 t27:Int) (f:Fc) (fuel n:Nat) (hf:l.length<fuel) (hn:n+zfn l<=4611686018427387904):
  zDp g fuel n t12 t13 t14 t25 t26 t27 l l.length 0 f=(true,(((n+zfn l:Nat):Int),t12,t13,t14,t25,t26,t27,f)):=by
 have h:=zcL (W:=zvA g) (z:=default) (l:=l) (λi (n:Nat)=>((n:Int),(),t12,t13,t14,t25,t26,t27,l,(l.length:Int),(i:Int),())) (λ_ _=>(f,())) (λy n=>.inl (n+zO y)) (λn=>((n:Int),t12,t13,t14,t25,t26,t27,f)) (λi n=>n+zfn (l.drop i)<=4611686018427387904)
  (λi n hi hI=>.inl ⟨_,rfl,by rw [zbd hi,zfc] at hI; omega,λH K D=>by
   rw [zbd hi,zfc] at hI;show (zkt g n t12 t13 t14 t25 t26 t27 l l.length i f).ev H K D=_;unfold zkt Wy.ix;simp only [Wy.ev_i,Wy.ev_k,Wy.ev_h,Wy.ev_bn,Wy.ev_d,tT,hi,hg _ (zm hi)];rw [zmO (by omega),zg5 (by omega)]⟩)
  (λn hI H K D=>by
   show (zkt g n t12 t13 t14 t25 t26 t27 l l.length l.length f).ev H K D=_;unfold zkt Wy.ix;simp only [Wy.ev_i,Wy.ev_k,tT,qr]) fuel 0 n (by omega) (q19 _) (by simpa using hn)
 rw [qq,zcN,z5Q] at h;exact h
theorem zblz (l:yD) (hl:l.length<=1000000) (hg:∀ y∈l,g y.Ann=(true,(zO y.Ann:Int))) (t12:yB) (t13 t14:Int) (t25:yC) (t26 t27:Int) (fuel n:Nat) (hf:l.length<fuel) (hn:n+zdm l<=4611686018427387904):
  zDn g fuel n t12 t13 t14 t25 t26 t27 l l.length 0=(true,(((n+zdm l:Nat):Int),t12,t13,t14,t25,t26,t27)):=by
 have h:=zcL (W:=zvY g) (z:=default) (l:=l) (λi (n:Nat)=>((n:Int),t12,t13,t14,t25,t26,t27,l,(l.length:Int),(i:Int),())) (λ_ _=>()) (λy n=>.inl (n+1+zO y.Ann)) (λn=>((n:Int),t12,t13,t14,t25,t26,t27)) (λi n=>n+zdm (l.drop i)<=4611686018427387904)
  (λi n hi hI=>.inl ⟨_,rfl,by rw [zbd hi,ziE] at hI; omega,λH K D=>by
   rw [zbd hi,ziE] at hI;show (zkB g n t12 t13 t14 t25 t26 t27 l l.length i).ev H K D=_;unfold zkB Wy.ix;simp only [Wy.ev_i,Wy.ev_k,Wy.ev_h,Wy.ev_bn,Wy.ev_d,tT,hi,hg _ (zm hi)];rw [zg5 (by omega),show (1:Int)=((1:Nat):Int) from rfl,zmO (by omega),zmO (by omega), <- q2e]⟩)
  (λn hI H K D=>by
   show (zkB g n t12 t13 t14 t25 t26 t27 l l.length l.length).ev H K D=_;unfold zkB Wy.ix;simp only [Wy.ev_i,Wy.ev_k,tT,qr]) fuel 0 n (by omega) (q19 _) (by simpa using hn)
 rw [qq,zcN,z2l] at h;exact h
theorem zbl9 (l:yC) (hl:l.length<=1000000) (hg:∀ f∈l,(f.At.Ag.length<=1000000/\f.At.Items.length<=1000000)/\(∀ y∈f.At.Ag,g y=(true,(zO y:Int)))/\∀ y∈f.At.Items,g y.Ann=(true,(zO y.Ann:Int))) (t12:yB) (t13 t14:Int) (fuel n:Nat) (hf:l.length<fuel) (hn:n+zbK l<=4611686018427387904):
  zET g fuel n t12 t13 t14 l l.length 0=(true,(((n+zbK l:Nat):Int),t12,t13,t14)):=by
 have h:=zcL (W:=zwO g) (z:=default) (l:=l) (λi (n:Nat)=>((n:Int),t12,t13,t14,l,(l.length:Int),(i:Int),())) (λ_ _=>()) (λy n=>.inl (n+zft y.At)) (λn=>((n:Int),t12,t13,t14)) (λi n=>n+zbK (l.drop i)<=4611686018427387904)
  (λi n hi hI=>.inl ⟨_,rfl,by rw [zbd hi,zda] at hI; omega,λH K D=>by
   rw [zbd hi,zda,zhM] at hI;obtain ⟨⟨h1,h2⟩,h3,h4⟩:=hg _ (zm hi);show (zln g n t12 t13 t14 l l.length i).ev H K D=_;unfold zln Wy.ix At.et;simp only [Wy.ev_i,Wy.ev_k,Wy.ev_h,Wy.ev_bn,Wy.ev_d,tT,hi,At.eta];rw [zblw g _ h1 h3 _ _ _ _ _ _ _ _ _ (by omega) (by omega)]
   simp only [q7,qt];rw [zblz g _ h2 h4 _ _ _ _ _ _ _ _ (by omega) (by omega)]
   simp only [q7];rw [zg5 (by omega),zhM,q2e]⟩)
  (λn hI H K D=>by
   show (zln g n t12 t13 t14 l l.length l.length).ev H K D=_;unfold zln Wy.ix At.et;simp only [Wy.ev_i,Wy.ev_k,tT,qr]) fuel 0 n (by omega) (q19 _) (by simpa using hn)
 rw [qq,zcN,zbaF] at h;exact h
theorem zbmb (l:yB) (hl:l.length<=1000000) (hg:∀ t∈l,t.Fs.length<=1000000/\∀ f∈t.Fs,(f.At.Ag.length<=1000000/\f.At.Items.length<=1000000)/\(∀ y∈f.At.Ag,g y=(true,(zO y:Int)))/\∀ y∈f.At.Items,g y.Ann=(true,(zO y.Ann:Int))) (fuel n:Nat) (hf:l.length<fuel) (hn:n+zO l<=4611686018427387904):
  zFf g fuel n l l.length 0=(true,((n+zO l:Nat):Int)):=by
 have h:=zcL (W:=zxs g) (z:=default) (l:=l) (λi (n:Nat)=>((n:Int),l,(l.length:Int),(i:Int),())) (λ_ _=>()) (λy n=>.inl (n+1+y.Fs.length+zbK y.Fs)) (λn=>(n:Int)) (λi n=>n+zO (l.drop i)<=4611686018427387904)
  (λi n hi hI=>.inl ⟨_,rfl,by rw [zbd hi,zf7] at hI; omega,λH K D=>by
   rw [zbd hi,zf7] at hI;obtain ⟨h1,h3⟩:=hg _ (zm hi);show (zlM g n l l.length i).ev H K D=_;unfold zlM Wy.ix;simp only [Wy.ev_i,Wy.ev_k,Wy.ev_h,Wy.ev_bn,Wy.ev_d,tT,hi,At.eta];rw [show (1:Int)=((1:Nat):Int) from rfl,zmO (n:=1) (by omega),zmO (by omega)]
   rw [zbl9 g _ h1 h3 _ _ _ _ _ (by omega) (by omega)]
   simp only [q7];rw [show ((1:Nat):Int)=(1:Int) from rfl,zg5 (by omega),q2e n 1]⟩)
  (λn hI H K D=>by
   show (zlM g n l l.length l.length).ev H K D=_;unfold zlM Wy.ix;simp only [Wy.ev_i,Wy.ev_k,tT,qr]) fuel 0 n (by omega) (q19 _) (by simpa using hn)
 rw [qq,zcN,z9k] at h;exact h
theorem zbiM (x:At) (hl:x.Ag.length<=1000000) (hg:∀ y∈x.Ag,g y=(true,(zO y:Int))) (a:yB) (i k:Int) (fuel n:Nat) (hf:x.Ag.length<fuel) (hn:n+zfn x.Ag<=4611686018427387904):
  zNa g fuel a n i k 0 x=(true,(a,((n+zfn x.Ag:Nat):Int),i,k,x)):=by
 have h:=zcL (W:=zCH g) (z:=default) (l:=x.Ag) (λj (n:Nat)=>(a,(n:Int),i,k,(),(j:Int),())) (λ_ _=>(x,())) (λy n=>.inl (n+zO y)) (λn=>(a,(n:Int),i,k,x)) (λi n=>n+zfn (x.Ag.drop i)<=4611686018427387904)
  (λj n hi hI=>.inl ⟨_,rfl,by rw [zbd hi,zfc] at hI; omega,λH K D=>by
   rw [zbd hi,zfc] at hI;show (zrX g a n i k j x).ev H K D=_;unfold zrX Wy.ix;simp only [Wy.ev_i,Wy.ev_k,Wy.ev_h,Wy.ev_bn,Wy.ev_d,tT,hi,hg _ (zm hi)];rw [zmO (by omega),zg5 (by omega)]⟩)
  (λn hI H K D=>by
   show (zrX g a n i k x.Ag.length x).ev H K D=_;unfold zrX Wy.ix;simp only [Wy.ev_i,Wy.ev_k,tT,qr]) fuel 0 n (by omega) (q19 _) (by simpa using hn)
 rw [qq,zcN,z5Q] at h;exact h
theorem zbjJ (x:At) (hl:x.Items.length<=1000000) (hg:∀ y∈x.Items,g y.Ann=(true,(zO y.Ann:Int))) (a:yB) (i k:Int) (fuel n:Nat) (hf:x.Items.length<fuel) (hn:n+zdm x.Items<=4611686018427387904):
  zMx g fuel a n i k 0 x=(true,(a,((n+zdm x.Items:Nat):Int),i,k)):=by
 have h:=zcL (W:=zCQ g) (z:=default) (l:=x.Items) (λj (n:Nat)=>(a,(n:Int),i,k,(),(j:Int),())) (λ_ _=>(x,())) (λy n=>.inl (n+1+zO y.Ann)) (λn=>(a,(n:Int),i,k)) (λi n=>n+zdm (x.Items.drop i)<=4611686018427387904)
  (λj n hi hI=>.inl ⟨_,rfl,by rw [zbd hi,ziE] at hI; omega,λH K D=>by
   rw [zbd hi,ziE] at hI;show (zrU g a n i k j x).ev H K D=_;unfold zrU Wy.ix;simp only [Wy.ev_i,Wy.ev_k,Wy.ev_h,Wy.ev_bn,Wy.ev_d,tT,hi,hg _ (zm hi)];rw [zg5 (i:=j) (by omega),zg5 (i:=n) (by omega),zmO (by omega)]⟩)
  (λn hI H K D=>by
   show (zrU g a n i k x.Items.length x).ev H K D=_;unfold zrU Wy.ix;simp only [Wy.ev_i,Wy.ev_k,tT,qr]) fuel 0 n (by omega) (q19 _) (by simpa using hn)
 rw [qq,zcN,z2l] at h;exact h
theorem zN9:∀ (a:yB) (i:Nat),i<a.length->(a.getD i default).Fs.length<=zbP a
 | [],i,h=>by simp at h
 | t::r,0,h=>by
  have:∀ l:yC,l.length<=zJW l:=λl=>by
   induction l with
   | nil=>exact qn _
   | cons f r ih=>simp only [zJW,qc]; omega
  have:=this t.Fs;simp only [zbP,q27]; omega
 | t::r,i+1,h=>by
  have:=zN9 r i (by simpa using h)
  simp only [zbP,List.getD_cons_succ]; omega
theorem foldl_factors' (l:yC):∀ n:Nat,l.foldl (λs t=>s+1+zft t.At) n=n+l.length+zbK l:=by
 induction l with
 | nil=>intro n; rw [zi2]; rfl
 | cons a r ih=>intro n; rw [q11,ih,zda,qc]; omega
theorem zblE (a:yB) (i:Nat) (hi:i<a.length) (hla:a.length<=1000000) (l:yC) (el:(a.getD i default).Fs=l) (hl:l.length<=1000000) (hg:∀ f∈l,(f.At.Ag.length<=1000000/\f.At.Items.length<=1000000)/\(∀ y∈f.At.Ag,g y=(true,(zO y:Int)))/\∀ y∈f.At.Items,g y.Ann=(true,(zO y.Ann:Int))) (fuel n:Nat) (hf:l.length<fuel) (hn:n+l.length+zbK l<=4611686018427387904):
  zPQ g fuel a n i 0=(true,(a,((n+l.length+zbK l:Nat):Int),(i:Int))):=by
 have h:=zcL (W:=zFw g) (z:=default) (l:=l) (λk (n:Nat)=>(a,(n:Int),(i:Int),(k:Int),())) (λ_ _=>()) (λy n=>.inl (n+1+zft y.At)) (λn=>(a,(n:Int),(i:Int))) (λk n=>n+(l.drop k).length+zbK (l.drop k)<=4611686018427387904)
  (λk n hk hI=>.inl ⟨_,rfl,by rw [zbd hk,zda,qc] at hI; omega,λH K D=>by
   rw [zbd hk,zda,zhM,qc] at hI;obtain ⟨⟨h1,h2⟩,h3,h4⟩:=hg _ (zm hk);show (ztW g a n i k).ev H K D=_;unfold ztW Wy.ix At.et;simp only [Wy.ev_i,Wy.ev_k,Wy.ev_h,Wy.ev_bn,Wy.ev_d,tT,hi,el,hk,At.eta];rw [zg5 (i:=n) (by omega)]
   rw [zbiM g _ h1 h3 _ _ _ _ _ (by omega) (by omega)]
   simp only [q7,qt,At.eta];rw [zbjJ g _ h2 h4 _ _ _ _ _ (by omega) (by omega)]
   simp only [q7];rw [zg5 (by omega),zhM,q2e (n+1)]⟩)
  (λn hI H K D=>by
   show (ztW g a n i l.length).ev H K D=_;unfold ztW Wy.ix At.et;simp only [Wy.ev_i,Wy.ev_k,tT,hi,el,qr]) fuel 0 n (by omega) (q19 _) (by simpa using hn)
 rw [qq,zcN,foldl_factors'] at h;exact h
theorem zbkl (l:yB) (hl:l.length<=1000000) (hg:∀ t∈l,t.Fs.length<=1000000/\∀ f∈t.Fs,(f.At.Ag.length<=1000000/\f.At.Items.length<=1000000)/\(∀ y∈f.At.Ag,g y=(true,(zO y:Int)))/\∀ y∈f.At.Items,g y.Ann=(true,(zO y.Ann:Int))) (fuel n:Nat) (hf:l.length<fuel) (hn:n+zO l<=4611686018427387904):
  zPP g fuel l n 0=(true,((n+zO l:Nat):Int)):=by
 have h:=zcL (W:=zEZ g) (z:=default) (l:=l) (λi (n:Nat)=>(l,(n:Int),(i:Int),())) (λ_ _=>()) (λy n=>.inl (n+1+y.Fs.length+zbK y.Fs)) (λn=>(n:Int)) (λi n=>n+zO (l.drop i)<=4611686018427387904)
  (λi n hi hI=>.inl ⟨_,rfl,by rw [zbd hi,zf7] at hI; omega,λH K D=>by
   rw [zbd hi,zf7] at hI;obtain ⟨h1,h3⟩:=hg _ (zm hi);have hz:=zN9 l i hi;show (ztl g l n i).ev H K D=_;unfold ztl;simp only [Wy.ev_i,Wy.ev_k,Wy.ev_h,Wy.ev_bn,Wy.ev_d,tT,hi,At.eta];rw [zg5 (i:=n) (by omega)]
   rw [zblE g l i hi hl _ rfl h1 h3 _ _ (by omega) (by omega)]
   simp only [q7];rw [zg5 (by omega)]⟩)
  (λn hI H K D=>by
   show (ztl g l n l.length).ev H K D=_;unfold ztl;simp only [Wy.ev_i,Wy.ev_k,tT,qr]) fuel 0 n (by omega) (q19 _) (by simpa using hn)
 rw [qq,zcN,z9k] at h;exact h
end
theorem zbeU {l:yA} {y:yB} (h:y∈l):zO y<=zfn l:=by
 induction l with
 | nil=>cases h
 | cons a r ih=>
  rw [zfc];rcases q8.1 h with rfl | h
  ·omega
  ·have:=ih h; omega
theorem zbbL {l:yD} {y:Wd} (h:y∈l):zO y.Ann<=zdm l:=by
 induction l with
 | nil=>cases h
 | cons a r ih=>
  rw [ziE];rcases q8.1 h with rfl | h
  ·omega
  ·have:=ih h; omega
theorem zSq {l:yC} {y:Fc} (h:y∈l):zft y.At<=zbK l:=by
 induction l with
 | nil=>cases h
 | cons a r ih=>
  rw [zda];rcases q8.1 h with rfl | h
  ·omega
  ·have:=ih h; omega
theorem zbgm {l:yB} {y:Term} (h:y∈l):zbK y.Fs<=zO l:=by
 induction l with
 | nil=>cases h
 | cons a r ih=>
  rw [zf7];rcases q8.1 h with rfl | h
  ·omega
  ·have:=ih h; omega
theorem z71 {a:yB} {t:Term} {f:Fc} (ht:t∈a) (hf:f∈t.Fs):zfn f.At.Ag+zdm f.At.Items<=zO a:=by
 have h1:=zbgm ht; have h2:=zSq hf; rw [zhM] at h2; omega
theorem zQD {d:Nat} {a:yB} (h:zq (d+1) a) {t:Term} (ht:t∈a):t.Fs.length<=1000000/\∀ f∈t.Fs,(f.At.Ag.length<=1000000/\f.At.Items.length<=1000000)/\(∀ y∈f.At.Ag,zq d y)/\∀ y∈f.At.Items,zq d y.Ann:=
 ⟨(h.2 t ht).1,λf hf=>have q:=(h.2 t ht).2 f hf; ⟨⟨q.1.1,q.1.2.1⟩,q.2.1,λy hy=>(q.2.2 y hy).2⟩⟩
theorem z4h:∀ (n d:Nat) (a:yB),zq d a->d<=n->zO a<=4611686018427387904->zlN n a=(true,(zO a:Int))/\zvX n a=(true,(zO a:Int))
 | n,0,a,h,hd,hs=>h.elim
 | 0,d+1,a,h,hd,hs=>by omega
 | n+1,d+1,a,h,hd,hs=>by
  have hg:=λy (hy:zq d y) (hs:zO y<=4611686018427387904)=>z4h n d y hy (by omega) hs
  have hsub:∀ t∈a,t.Fs.length<=1000000/\∀ f∈t.Fs,(f.At.Ag.length<=1000000/\f.At.Items.length<=1000000)/\(∀ y∈f.At.Ag,zq d y/\zO y<=4611686018427387904)/\∀ y∈f.At.Items,zq d y.Ann/\zO y.Ann<=4611686018427387904:=λt ht=>by
   obtain ⟨h1,h2⟩:=zQD h ht;refine ⟨h1,λf hf=> ?_⟩
   obtain ⟨h3,h4,h5⟩:=h2 f hf;have h6:=z71 ht hf;exact ⟨h3,λy hy=>⟨h4 y hy,by have:=zbeU hy; omega⟩,λy hy=>⟨h5 y hy,by have:=zbbL hy; omega⟩⟩
  constructor
  ·rw [zU3];unfold zu4 zGq
   have h1:=zbmb (zlN n) a h.1 (λt ht=>⟨(hsub t ht).1,λf hf=>⟨((hsub t ht).2 f hf).1,λy hy=>(hg y (((hsub t ht).2 f hf).2.1 y hy).1 (((hsub t ht).2 f hf).2.1 y hy).2).1,λy hy=>(hg _ (((hsub t ht).2 f hf).2.2 y hy).1 (((hsub t ht).2 f hf).2.2 y hy).2).1⟩⟩)
    (Int.toNat 0+a.length+(Int.ofNat a.length).toNat +Int.toNat 0+1) 0 (by omega) (by omega)
   rw [show ((0:Nat):Int)=(0:Int) from rfl,q1s] at h1
   rw [Wy.fin_bn,show Int.ofNat a.length=(a.length:Int) from rfl] at *
   rw [h1]; rfl
  ·rw [z6Q];unfold zFl zSN
   have h1:=zbkl (zvX n) a h.1 (λt ht=>⟨(hsub t ht).1,λf hf=>⟨((hsub t ht).2 f hf).1,λy hy=>(hg y (((hsub t ht).2 f hf).2.1 y hy).1 (((hsub t ht).2 f hf).2.1 y hy).2).2,λy hy=>(hg _ (((hsub t ht).2 f hf).2.2 y hy).1 (((hsub t ht).2 f hf).2.2 y hy).2).2⟩⟩)
    (a.length+Int.toNat 0+Int.toNat 0+1+zbP a) 0 (by omega) (by omega)
   rw [show ((0:Nat):Int)=(0:Int) from rfl,q1s] at h1
   rw [Wy.fin_bn,h1]; rfl
mutual
def zoj:At->Nat
 | ⟨k,_,a,_,i,_,_⟩=>if k=0 then 0 else 1+max (zmU a) (zlE i)
def zdt:yC->Nat
 | []=>0
 | ⟨x,_⟩::r=>max (zoj x) (zdt r)
def zbt:yB->Nat
 | []=>0
 | ⟨_,fs⟩::r=>max (zdt fs) (zbt r)
def zmU:yA->Nat
 | []=>0
 | a::r=>max (zbt a) (zmU r)
def zlE:yD->Nat
 | []=>0
 | ⟨_,a⟩::r=>max (zbt a) (zlE r)
end
theorem zEW (x:At):zoj x=if x.Kind=0 then 0 else 1+max (zmU x.Ag) (zlE x.Items):=by cases x; rw [zoj]
theorem zjH (f:Fc) (r:yC):zdt (f::r)=max (zoj f.At) (zdt r):=by cases f; rw [zdt]
theorem zyh (t:Term) (r:yB):zbt (t::r)=max (zdt t.Fs) (zbt r):=by cases t; rw [zbt]
theorem zFA (a:yB) (r:yA):zmU (a::r)=max (zbt a) (zmU r):=by rw [zmU]
theorem zCo (w:Wd) (r:yD):zlE (w::r)=max (zbt w.Ann) (zlE r):=by cases w; rw [zlE]
theorem zRb:zmU []=0:=by rw [zmU]
theorem zMC:zlE []=0:=by rw [zlE]
theorem zq7:zdt []=0:=by rw [zdt]
theorem zK8:zbt []=0:=by rw [zbt]
theorem zbgM (l:yA):∀ n:Nat,l.foldl (λs t=>max s (zbt t)) n=max n (zmU l):=by
 induction l with
 | nil=>intro n; rw [zRb]; exact (Nat.max_zero n).symm
 | cons a r ih=>intro n; rw [q11,ih,zFA]; omega
theorem zbeI (l:yD):∀ n:Nat,l.foldl (λs t=>max s (zbt t.Ann)) n=max n (zlE l):=by
 induction l with
 | nil=>intro n; rw [zMC]; exact (Nat.max_zero n).symm
 | cons a r ih=>intro n; rw [q11,ih,zCo]; omega
theorem zbey (l:yA):∀ n:Nat,l.foldl (λs t=>max s (1+zbt t)) (1+n)=1+max n (zmU l):=by
 induction l with
 | nil=>intro n; rw [zRb]; simp
 | cons a r ih=>intro n; rw [q11,show max (1+n) (1+zbt a)=1+max n (zbt a) by omega,ih,zFA]; omega
theorem zbdU (l:yD):∀ n:Nat,l.foldl (λs t=>max s (1+zbt t.Ann)) (1+n)=1+max n (zlE l):=by
 induction l with
 | nil=>intro n; rw [zMC]; simp
 | cons a r ih=>intro n; rw [q11,show max (1+n) (1+zbt a.Ann)=1+max n (zbt a.Ann) by omega,ih,zCo]; omega
theorem zV0 (l:yC):∀ n:Nat,l.foldl (λs t=>max s (zoj t.At)) n=max n (zdt l):=by
 induction l with
 | nil=>intro n; rw [zq7]; exact (Nat.max_zero n).symm
 | cons a r ih=>intro n; rw [q11,ih,zjH]; omega
theorem z9S (l:yB):∀ n:Nat,l.foldl (λs t=>max s (zdt t.Fs)) n=max n (zbt l):=by
 induction l with
 | nil=>intro n; rw [zK8]; exact (Nat.max_zero n).symm
 | cons a r ih=>intro n; rw [q11,ih,zyh]; omega
theorem z0T (a b:Nat):(if (a:Int)>(b:Int) then (a:Int) else (b:Int))=((max b a:Nat):Int):=by split <;>omega
theorem z6t {d:Nat}:∀ l:yA,(∀ y∈l,zbt y<=d)->zmU l<=d:=λl=>by
 induction l with
 | nil=>intro _; rw [zRb]; omega
 | cons y r ih=>intro hy; rw [zFA]; have h1:=hy y (by simp); have h2:=ih λz hz=>hy z (by simp [hz]); omega
theorem z2w {d:Nat}:∀ l:yD,(∀ y∈l,zbt y.Ann<=d)->zlE l<=d:=λl=>by
 induction l with
 | nil=>intro _; rw [zMC]; omega
 | cons y r ih=>intro hy; rw [zCo]; have h1:=hy y (by simp); have h2:=ih λz hz=>hy z (by simp [hz]); omega
theorem zba0 {d:Nat}:∀ l:yC,(∀ y∈l,zoj y.At<=d)->zdt l<=d:=λl=>by
 induction l with
 | nil=>intro _; rw [zq7]; omega
 | cons y r ih=>intro hy; rw [zjH]; have h1:=hy y (by simp); have h2:=ih λz hz=>hy z (by simp [hz]); omega
theorem zbhB {d:Nat}:∀ l:yB,(∀ y∈l,zdt y.Fs<=d)->zbt l<=d:=λl=>by
 induction l with
 | nil=>intro _; rw [zK8]; omega
 | cons y r ih=>intro hy; rw [zyh]; have h1:=hy y (by simp); have h2:=ih λz hz=>hy z (by simp [hz]); omega
theorem zTG:∀ (d:Nat) (a:yB),zq d a->zbt a<=d
 | 0,a,h=>h.elim
 | d+1,a,h=>zbhB a λt ht=>zba0 _ λf hf=>by
  obtain ⟨_,h2⟩:=zQD h ht;obtain ⟨_,h4,h5⟩:=h2 f hf;have q1:=z6t f.At.Ag λy hy=>zTG d y (h4 y hy)
  have q2:=z2w f.At.Items λy hy=>zTG d y.Ann (h5 y hy)
  rw [zEW]; split <;>omega
section
variable (g:yB->Bool×Int)
theorem zbmL (l:yA) (hl:l.length<=1000000) (hg:∀ y∈l,g y=(true,(zbt y:Int))) (nn:Int) (t13:yB) (t14 t15:Int) (t20:yC) (t21 t22:Int) (f:Fc) (fuel n:Nat) (hf:l.length<fuel):
  zzR g fuel nn n t13 t14 t15 t20 t21 t22 l l.length 0 f=(true,(nn,((max n (zmU l):Nat):Int),t13,t14,t15,t20,t21,t22,f)):=by
 have h:=zcL (W:=zre g) (z:=default) (l:=l) (λi (n:Nat)=>(nn,(),(n:Int),t13,t14,t15,t20,t21,t22,l,(l.length:Int),(i:Int),())) (λ_ _=>(f,())) (λy n=>.inl (max n (zbt y))) (λn=>(nn,(n:Int),t13,t14,t15,t20,t21,t22,f)) (λi n=>True)
  (λi n hi hI=>.inl ⟨_,rfl,trivial,λH K D=>by
   show (zii g nn n t13 t14 t15 t20 t21 t22 l l.length i f).ev H K D=_;unfold zii Wy.ix;simp only [Wy.ev_i,Wy.ev_k,Wy.ev_h,Wy.ev_bn,Wy.ev_d,tT,hi,hg _ (zm hi),z0T];rw [zg5 (by omega)]⟩)
  (λn hI H K D=>by
   show (zii g nn n t13 t14 t15 t20 t21 t22 l l.length l.length f).ev H K D=_;unfold zii Wy.ix;simp only [Wy.ev_i,Wy.ev_k,tT,qr]) fuel 0 n (by omega) (q19 _) trivial
 rw [qq,zcN,zbgM] at h;exact h
theorem zbma (l:yD) (hl:l.length<=1000000) (hg:∀ y∈l,g y.Ann=(true,(zbt y.Ann:Int))) (nn:Int) (t13:yB) (t14 t15:Int) (t20:yC) (t21 t22:Int) (fuel n:Nat) (hf:l.length<fuel):
  zzK g fuel nn n t13 t14 t15 t20 t21 t22 l l.length 0=(true,(nn,((max n (zlE l):Nat):Int),t13,t14,t15,t20,t21,t22)):=by
 have h:=zcL (W:=zrK g) (z:=default) (l:=l) (λi (n:Nat)=>(nn,(n:Int),t13,t14,t15,t20,t21,t22,l,(l.length:Int),(i:Int),())) (λ_ _=>()) (λy n=>.inl (max n (zbt y.Ann))) (λn=>(nn,(n:Int),t13,t14,t15,t20,t21,t22)) (λi n=>True)
  (λi n hi hI=>.inl ⟨_,rfl,trivial,λH K D=>by
   show (ziy g nn n t13 t14 t15 t20 t21 t22 l l.length i).ev H K D=_;unfold ziy Wy.ix;simp only [Wy.ev_i,Wy.ev_k,Wy.ev_h,Wy.ev_bn,Wy.ev_d,tT,hi,hg _ (zm hi),z0T];rw [zg5 (by omega)]⟩)
  (λn hI H K D=>by
   show (ziy g nn n t13 t14 t15 t20 t21 t22 l l.length l.length).ev H K D=_;unfold ziy Wy.ix;simp only [Wy.ev_i,Wy.ev_k,tT,qr]) fuel 0 n (by omega) (q19 _) trivial
 rw [qq,zcN,zbeI] at h;exact h
def zTy (x:At):Prop:=(x.Ag.length<=1000000/\x.Items.length<=1000000)/\(zoj x<=1000/\(∀ y∈x.Ag,zbt y<=1000)/\∀ y∈x.Items,zbt y.Ann<=1000)/\(∀ y∈x.Ag,g y=(true,(zbt y:Int)))/\∀ y∈x.Items,g y.Ann=(true,(zbt y.Ann:Int))
theorem zbns (l:yC) (hl:l.length<=1000000) (hg:∀ f∈l,zTy g f.At) (t13:yB) (t14 t15:Int) (fuel n:Nat) (hf:l.length<fuel):
  zA6 g fuel n t13 t14 t15 l l.length 0=(true,(((max n (zdt l):Nat):Int),t13,t14,t15)):=by
 have h:=zcL (W:=zs5 g) (z:=default) (l:=l) (λi (n:Nat)=>((n:Int),t13,t14,t15,l,(l.length:Int),(i:Int),())) (λ_ _=>()) (λy n=>.inl (max n (zoj y.At))) (λn=>((n:Int),t13,t14,t15)) (λi n=>True)
  (λi n hi hI=>.inl ⟨_,rfl,trivial,λH K D=>by
   obtain ⟨⟨h1,h2⟩,⟨h5,_,_⟩,h3,h4⟩:=hg _ (zm hi);show (zjd g n t13 t14 t15 l l.length i).ev H K D=_;unfold zjd Wy.ix At.et;simp only [Wy.ev_i,Wy.ev_k,Wy.ev_h,Wy.ev_bn,Wy.ev_d,tT,hi,At.eta];generalize l.getD i default=f at *;rw [zEW] at h5 ⊢;by_cases hk:f.At.Kind=0
   ·have e:(f.At.Kind==0)=true:=by simp [hk]
    simp only [e,q7];rw [if_pos hk,Nat.max_zero,zg5 (by omega)]
   ·have e:(f.At.Kind==0)=false:=by simp [hk]
    simp only [e,q9];rw [if_neg hk] at h5 ⊢;have q:=λfuel hf=>zbmL g _ h1 h3 n t13 t14 t15 l l.length i f fuel 0 hf
    rw [Nat.zero_max,show ((0:Nat):Int)=(0:Int) from rfl] at q
    rw [q _ (by omega)]
    simp only [q7,qt];rw [zbma g _ h2 h4 n t13 t14 t15 l l.length i _ _ (by omega)]
    simp only [q7];rw [zg5 (by omega),show (1:Int)=((1:Nat):Int) from rfl,zmO (n:=1) (by omega),z0T]⟩)
  (λn hI H K D=>by
   show (zjd g n t13 t14 t15 l l.length l.length).ev H K D=_;unfold zjd Wy.ix At.et;simp only [Wy.ev_i,Wy.ev_k,tT,qr]) fuel 0 n (by omega) (q19 _) trivial
 rw [qq,zcN,zV0] at h;exact h
theorem zbnv (l:yB) (hl:l.length<=1000000) (hg:∀ t∈l,t.Fs.length<=1000000/\∀ f∈t.Fs,zTy g f.At) (fuel n:Nat) (hf:l.length<fuel):
  zA3 g fuel n l l.length 0=(true,((max n (zbt l):Nat):Int)):=by
 have h:=zcL (W:=zsI g) (z:=default) (l:=l) (λi (n:Nat)=>((n:Int),l,(l.length:Int),(i:Int),())) (λ_ _=>()) (λy n=>.inl (max n (zdt y.Fs))) (λn=>(n:Int)) (λi n=>True)
  (λi n hi hI=>.inl ⟨_,rfl,trivial,λH K D=>by
   obtain ⟨h1,h3⟩:=hg _ (zm hi);show (zjh g n l l.length i).ev H K D=_;unfold zjh Wy.ix;simp only [Wy.ev_i,Wy.ev_k,Wy.ev_h,Wy.ev_bn,Wy.ev_d,tT,hi,At.eta];rw [zbns g _ h1 h3 _ _ _ _ _ (by omega)]
   simp only [q7];rw [zg5 (by omega)]⟩)
  (λn hI H K D=>by
   show (zjh g n l l.length l.length).ev H K D=_;unfold zjh Wy.ix;simp only [Wy.ev_i,Wy.ev_k,tT,qr]) fuel 0 n (by omega) (q19 _) trivial
 rw [qq,zcN,z9S] at h;exact h
theorem zbko (x:At) (hx:zTy g x) (a:yB) (most i k:Int) (fuel n:Nat) (hf:x.Ag.length<fuel):
  zyG g fuel a most i k ((1+n:Nat):Int) 0 x=(true,(a,most,i,k,((1+max n (zmU x.Ag):Nat):Int),x)):=by
 obtain ⟨⟨h1,h2⟩,⟨h5,h6,h7⟩,h3,h4⟩:=hx
 have h:=zcL (W:=zyF g) (z:=default) (l:=x.Ag) (λj (n:Nat)=>(a,most,i,k,(),(n:Int),(j:Int),())) (λ_ _=>(x,())) (λy n=>.inl (max n (1+zbt y))) (λn=>(a,most,i,k,(n:Int),x)) (λi n=>True)
  (λj n hi hI=>.inl ⟨_,rfl,trivial,λH K D=>by
   have h8:=h6 _ (zm hi);show (zmC g a most i k n j x).ev H K D=_;unfold zmC Wy.ix;simp only [Wy.ev_i,Wy.ev_k,Wy.ev_h,Wy.ev_bn,Wy.ev_d,tT,hi,h3 _ (zm hi)];rw [zg5 (by omega),show (1:Int)=((1:Nat):Int) from rfl,zmO (n:=1) (by omega),z0T]⟩)
  (λn hI H K D=>by
   show (zmC g a most i k n x.Ag.length x).ev H K D=_;unfold zmC Wy.ix;simp only [Wy.ev_i,Wy.ev_k,tT,qr]) fuel 0 (1+n) (by omega) (q19 _) trivial
 rw [qq,zcN,zbey] at h;exact h
theorem zbks (x:At) (hx:zTy g x) (a:yB) (most i k:Int) (fuel n:Nat) (hf:x.Items.length<fuel):
  zGM g fuel a most i k ((1+n:Nat):Int) 0 x=(true,(a,most,i,k,((1+max n (zlE x.Items):Nat):Int))):=by
 obtain ⟨⟨h1,h2⟩,⟨h5,h6,h7⟩,h3,h4⟩:=hx
 have h:=zcL (W:=zyR g) (z:=default) (l:=x.Items) (λj (n:Nat)=>(a,most,i,k,(),(n:Int),(j:Int),())) (λ_ _=>(x,())) (λy n=>.inl (max n (1+zbt y.Ann))) (λn=>(a,most,i,k,(n:Int))) (λi n=>True)
  (λj n hi hI=>.inl ⟨_,rfl,trivial,λH K D=>by
   have h8:=h7 _ (zm hi);show (zmL g a most i k n j x).ev H K D=_;unfold zmL Wy.ix;simp only [Wy.ev_i,Wy.ev_k,Wy.ev_h,Wy.ev_bn,Wy.ev_d,tT,hi,h4 _ (zm hi)];rw [zg5 (by omega),show (1:Int)=((1:Nat):Int) from rfl,zmO (n:=1) (by omega),z0T]⟩)
  (λn hI H K D=>by
   show (zmL g a most i k n x.Items.length x).ev H K D=_;unfold zmL Wy.ix;simp only [Wy.ev_i,Wy.ev_k,tT,qr]) fuel 0 (1+n) (by omega) (q19 _) trivial
 rw [qq,zcN,zbdU] at h;exact h
theorem RNes_12' (x:At) (hx:zTy g x) (a:yB) (most i k:Int) (fuel:Nat) (hf:x.Ag.length<fuel):zyG g fuel a most i k 1 0 x=(true,(a,most,i,k,((1+zmU x.Ag:Nat):Int),x)):=by
 have h:=zbko g x hx a most i k fuel 0 hf;rw [Nat.zero_max] at h; exact h
theorem zbl1 (a:yB) (i:Nat) (hi:i<a.length) (hla:a.length<=1000000) (l:yC) (el:(a.getD i default).Fs=l) (hl:l.length<=1000000) (hg:∀ f∈l,zTy g f.At) (fuel n:Nat) (hf:l.length<fuel):
  zJm g fuel a n i 0=(true,(a,((max n (zdt l):Nat):Int),(i:Int))):=by
 have h:=zcL (W:=zzC g) (z:=default) (l:=l) (λk (n:Nat)=>(a,(n:Int),(i:Int),(k:Int),())) (λ_ _=>()) (λy n=>.inl (max n (zoj y.At))) (λn=>(a,(n:Int),(i:Int))) (λk n=>True)
  (λk n hk hI=>.inl ⟨_,rfl,trivial,λH K D=>by
   have hx:=hg _ (zm hk);have h5:=hx.2.1.1;show (zn1 g a n i k).ev H K D=_;unfold zn1 Wy.ix At.et;simp only [Wy.ev_i,Wy.ev_k,Wy.ev_h,Wy.ev_bn,Wy.ev_d,tT,hi,el,hk,At.eta];generalize l.getD k default=f at *;rw [zEW] at h5 ⊢;by_cases hz:f.At.Kind=0
   ·have e:(f.At.Kind==0)=true:=by simp [hz]
    simp only [e,q7];rw [if_pos hz,Nat.max_zero,zg5 (by omega)]
   ·have e:(f.At.Kind==0)=false:=by simp [hz]
    have hx1:=hx.1;simp only [e,q9];rw [if_neg hz] at h5 ⊢;rw [RNes_12' g _ hx _ _ _ _ _ (by omega)]
    simp only [q7,qt,At.eta];rw [zbks g _ hx _ _ _ _ _ _ (by omega)]
    simp only [q7];rw [zg5 (by omega),z0T]⟩)
  (λn hI H K D=>by
   show (zn1 g a n i l.length).ev H K D=_;unfold zn1 Wy.ix At.et;simp only [Wy.ev_i,Wy.ev_k,tT,hi,el,qr]) fuel 0 n (by omega) (q19 _) trivial
 rw [qq,zcN,zV0] at h;exact h
theorem zblZ (l:yB) (hl:l.length<=1000000) (hg:∀ t∈l,t.Fs.length<=1000000/\∀ f∈t.Fs,zTy g f.At) (fuel n:Nat) (hf:l.length<fuel):
  zI5 g fuel l n 0=(true,((max n (zbt l):Nat):Int)):=by
 have h:=zcL (W:=zzH g) (z:=default) (l:=l) (λi (n:Nat)=>(l,(n:Int),(i:Int),())) (λ_ _=>()) (λy n=>.inl (max n (zdt y.Fs))) (λn=>(n:Int)) (λi n=>True)
  (λi n hi hI=>.inl ⟨_,rfl,trivial,λH K D=>by
   obtain ⟨h1,h3⟩:=hg _ (zm hi);have hz:=zN9 l i hi;show (znZ g l n i).ev H K D=_;unfold znZ;simp only [Wy.ev_i,Wy.ev_k,Wy.ev_h,Wy.ev_bn,Wy.ev_d,tT,hi,At.eta];rw [zbl1 g l i hi hl _ rfl h1 h3 _ _ (by omega)]
   simp only [q7];rw [zg5 (by omega)]⟩)
  (λn hI H K D=>by
   show (znZ g l n l.length).ev H K D=_;unfold znZ;simp only [Wy.ev_i,Wy.ev_k,tT,qr]) fuel 0 n (by omega) (q19 _) trivial
 rw [qq,zcN,z9S] at h;exact h
end
theorem z8o:∀ (n d:Nat) (a:yB),zq d a->d<=n->d<=100->zgD n a=(true,(zbt a:Int))/\zlb n a=(true,(zbt a:Int))
 | n,0,a,h,hd,hs=>h.elim
 | 0,d+1,a,h,hd,hs=>by omega
 | n+1,d+1,a,h,hd,hs=>by
  have hg:=λy (hy:zq d y)=>z8o n d y hy (by omega) (by omega)
  have hsub:∀ t∈a,t.Fs.length<=1000000/\∀ f∈t.Fs,zTy (zgD n) f.At/\zTy (zlb n) f.At:=λt ht=>by
   obtain ⟨h1,h2⟩:=zQD h ht;refine ⟨h1,λf hf=> ?_⟩
   obtain ⟨h3,h4,h5⟩:=h2 f hf;have q1:∀ y∈f.At.Ag,zbt y<=d:=λy hy=>zTG d y (h4 y hy)
   have q2:∀ y∈f.At.Items,zbt y.Ann<=d:=λy hy=>zTG d y.Ann (h5 y hy)
   have q3:zoj f.At<=1000:=by
    have r1:=z6t _ q1; have r2:=z2w _ q2;rw [zEW]; split <;>omega
   have q4:zoj f.At<=1000/\(∀ y∈f.At.Ag,zbt y<=1000)/\∀ y∈f.At.Items,zbt y.Ann<=1000:=⟨q3,λy hy=>by have:=q1 y hy; omega,λy hy=>by have:=q2 y hy; omega⟩
   exact ⟨⟨h3,q4,λy hy=>(hg y (h4 y hy)).1,λy hy=>(hg _ (h5 y hy)).1⟩,⟨h3,q4,λy hy=>(hg y (h4 y hy)).2,λy hy=>(hg _ (h5 y hy)).2⟩⟩
  constructor
  ·rw [zOB];unfold zqh zB4;have h1:=zbnv (zgD n) a h.1 (λt ht=>⟨(hsub t ht).1,λf hf=>((hsub t ht).2 f hf).1⟩) (Int.toNat 0+a.length+(Int.ofNat a.length).toNat +Int.toNat 0+1) 0 (by omega)
   rw [show ((0:Nat):Int)=(0:Int) from rfl,Nat.zero_max] at h1
   rw [Wy.fin_bn,show Int.ofNat a.length=(a.length:Int) from rfl] at *
   rw [h1]; rfl
  ·rw [zZL];unfold zzf zKD;have h1:=zblZ (zlb n) a h.1 (λt ht=>⟨(hsub t ht).1,λf hf=>((hsub t ht).2 f hf).2⟩) (a.length+Int.toNat 0+Int.toNat 0+1+zbP a) 0 (by omega)
   rw [show ((0:Nat):Int)=(0:Int) from rfl,Nat.zero_max] at h1
   rw [Wy.fin_bn,h1]; rfl
theorem zzp (x y:Int):zfg x y=(true,zef x y):=by
 unfold zfg zKK zs9 zPp zef;by_cases h1:x<y
 ·simp [h1,Wy.fin_i,Wy.fin_k]
 ·by_cases h2:y<x <;>simp [h1,h2,Wy.fin_i,Wy.fin_k]
theorem zwV (x y:Int):zjr x y=(true,zef x y):=by
 unfold zjr zGI zoI zK1 zef;by_cases h1:x<y
 ·simp [h1,Wy.fin_i,Wy.fin_k]
 ·by_cases h2:y<x <;>simp [h1,h2,Wy.fin_i,Wy.fin_k]
def zv0:List Int->Int
 | []=>0
 | x::r=>if x=0 then zv0 r else x
theorem zbfN (l:List Int) (hl:l.length<=1000000):∀ (n i:Nat),l.length<i+n->i<=l.length->∃ r,zKe n 0 l l.length i=(true,r)/\(r=.inl (zv0 (l.drop i))\/(r=.inr 0/\zv0 (l.drop i)=0))
 | 0,i,h,h2=>by omega
 | n+1,i,h,h2=>by
  show ∃ r,(zJG 0 l l.length i).ev (λx y=>zKe n x.1 x.2.1 x.2.2.1 x.2.2.2.1) (λr=>(true,r)) (false,.inl default)=(true,r)/\_
  unfold zJG Wy.ix;by_cases hi:i<l.length
  ·simp only [Wy.ev_i,Wy.ev_k,Wy.ev_h,qw,zCe,ze4,decide_true,decide_false,q13,q1j,q23,q7,q9,qt,qk,q1k,hi];obtain ⟨r,h1,h3⟩:=zbfN l hl n (i+1) (by omega) (by omega)
   rw [zbd hi,zu (by omega),h1]
   generalize l.getD i default=x;by_cases hx:x=0
   ·have e:(x != 0)=false:=by simp [hx]
    simp only [e,q9,zv0,hx,if_true];exact ⟨r,rfl,h3⟩
   ·have e:(x != 0)=true:=by simp [hx]
    simp only [e,q7,zv0,hx,if_false];exact ⟨_,rfl,.inl rfl⟩
  ·simp only [Wy.ev_i,Wy.ev_k,Wy.ev_h,qw,zCe,ze4,decide_true,decide_false,q13,q1j,q23,q7,q9,qt,qk,q1k,hi,zb2 hi];exact ⟨_,rfl,.inr ⟨rfl,rfl⟩⟩
theorem zxH (l:List Int) (hl:l.length<=1000000):zqe l=(true,zv0 l):=by
 unfold zqe zZa;obtain ⟨r,h1,h2⟩:=zbfN l hl (Int.toNat 0+l.length+(Int.ofNat l.length).toNat +Int.toNat 0+1) 0 (by simp; omega) (by omega)
 rw [show ((0:Nat):Int)=(0:Int) from rfl] at h1
 rw [Wy.fin_bn,show Int.ofNat l.length=(l.length:Int) from rfl] at *
 rw [h1];rw [qq] at h2;rcases h2 with rfl | ⟨rfl,h2⟩
 ·rfl
 ·rw [h2]; rfl
section
variable {α:Type}
def zyT (c:α->α->Int):List α->List α->Int
 | [],[]=>0
 | [],_::_=> -1
 | _::_,[]=>1
 | x::a,y::b=>if c x y=0 then zyT c a b else c x y
theorem zPW (e:α->TT) {c:α->α->Int}:∀ (a b:List α),(∀ x∈a,∀ y∈b,c x y=zbe (e x) (e y))->zyT c a b=zbx (a.map e) (b.map e)
 | [],[],_=>by simp only [zyT,List.map,zbx]
 | [],_::_,_=>by simp only [zyT,List.map,zbx]
 | _::_,[],_=>by simp only [zyT,List.map,zbx]
 | x::a,y::b,h=>by
  simp only [zyT,List.map,zbx];rw [h x (by simp) y (by simp),zPW e a b λx hx y hy=>h x (by simp [hx]) y (by simp [hy])]
variable [Inhabited α]
def zbbw (g:α->α->Bool×Int) (s1:List α) (s2:List α) (t11:List α) (t12:Int) (t13:Int):Wy (List α×List α×Unit×List α×Int×Int×Unit) Unit (Int⊕(List α×List α)):=.i (decide (t13<t12)) (.i (decide ((0:Int)<=t13)&&decide (t13<Int.ofNat t11.length)) (.i (decide (t13≥Int.ofNat s2.length)) (.k (.inl (1:Int))) (.i (decide ((0:Int)<=t13)&&decide (t13<Int.ofNat s2.length)) (.bn (g (t11.getD t13.toNat default) (s2.getD t13.toNat default)) λr0=>.i (r0 != (0:Int)) (.k (.inl (r0))) (.h (s1,s2,(),t11,t12,(IntKind.i64.wrap (t13+(1:Int))),()) ())) .d)) .d) (.k (.inr (s1,s2)))
def zbgB (g:α->α->Bool×Int) (x:List α×List α×Unit×List α×Int×Int×Unit) (y:Unit):Wy (List α×List α×Unit×List α×Int×Int×Unit) Unit (Int⊕(List α×List α)):=zbbw g x.1 x.2.1 x.2.2.2.1 x.2.2.2.2.1 x.2.2.2.2.2.1
def zbf4 (g:α->α->Bool×Int) (n:Nat) (s1:List α) (s2:List α) (t11:List α) (t12:Int) (t13:Int):Bool×(Int⊕(List α×List α)):=zy (zbgB g) (.inl default) n (s1,s2,(),t11,t12,t13,()) ()
def CF (g:α->α->Bool×Int) (s1 s2:List α):Bool×Int:=(.bn (zbf4 g (s1.length+s2.length+s1.length+(Int.ofNat s1.length).toNat +Int.toNat (0:Int)+(1:Nat)) s1 s2 s1 (Int.ofNat s1.length) (0:Int)) λr2=>.i (isL r2) (.k (getL r2)) (.i (decide (Int.ofNat (getR r2).fst.length<Int.ofNat (getR r2).snd.length)) (.k (-1:Int)) (.k (0:Int))):Wy0 Int).fin default
theorem zbfP (g:α->α->Bool×Int) (c:α->α->Int) (a b:List α) (ha:a.length<=1000000) (hg:∀ x∈a,∀ y∈b,g x y=(true,c x y)):∀ (n i:Nat),a.length<i+n->i<=a.length->i<=b.length->
  ∃ r,zbf4 g n a b a a.length i=(true,r)/\((r=.inl (zyT c (a.drop i) (b.drop i)))\/(r=.inr (a,b)/\zyT c (a.drop i) (b.drop i)=if a.length<b.length then -1 else 0))
 | 0,i,h,h2,h3=>by omega
 | n+1,i,h,h2,h3=>by
  show ∃ r,(zbbw g a b a a.length i).ev (λx y=>zbf4 g n x.1 x.2.1 x.2.2.2.1 x.2.2.2.2.1 x.2.2.2.2.2.1) (λr=>(true,r)) (false,.inl default)=(true,r)/\_
  unfold zbbw;by_cases hi:i<a.length
  ·by_cases hi':i<b.length
   ·have hg':¬ b.length<=i:=by omega
    simp only [Wy.ev_i,Wy.ev_k,Wy.ev_h,Wy.ev_bn,Wy.ev_d,qw,zCe,ze4,decide_true,decide_false,q13,q1j,q23,q7,q9,qt,qk,q1k,hi,hi',zbhU,hg',hg _ (zm hi) _ (zm hi')];rw [zbd hi,zbd hi',zu (by omega)]
    simp only [zyT];generalize c (a.getD i default) (b.getD i default)=z;by_cases hx:z=0
    ·have e:(z != 0)=false:=by simp [hx]
     simp only [e,q9,hx,if_true];exact zbfP g c a b ha hg n (i+1) (by omega) (by omega) (by omega)
    ·have e:(z != 0)=true:=by simp [hx]
     simp only [e,q7,hx,if_false];exact ⟨_,rfl,.inl rfl⟩
   ·have hg':b.length<=i:=by omega
    simp only [Wy.ev_i,Wy.ev_k,Wy.ev_h,Wy.ev_bn,Wy.ev_d,qw,zCe,ze4,decide_true,decide_false,q13,q1j,q23,q7,q9,qt,qk,q1k,hi,zbhU,hg'];refine ⟨_,rfl,.inl ?_⟩;rw [zbd hi,zb2 hi']; rfl
  ·simp only [Wy.ev_i,Wy.ev_k,Wy.ev_h,Wy.ev_bn,Wy.ev_d,qw,zCe,ze4,decide_true,decide_false,q13,q1j,q23,q7,q9,qt,qk,q1k,hi];refine ⟨_,rfl,.inr ⟨rfl, ?_⟩⟩;rw [zb2 hi];by_cases hi':i<b.length
   ·rw [zbd hi',if_pos (by omega)]; rfl
   ·rw [zb2 hi',if_neg (by omega)]; rfl
theorem zbnw (g:α->α->Bool×Int) (c:α->α->Int) (a b:List α) (ha:a.length<=1000000) (hg:∀ x∈a,∀ y∈b,g x y=(true,c x y)):CF g a b=(true,zyT c a b):=by
 unfold CF;obtain ⟨r,h1,h2⟩:=zbfP g c a b ha hg (a.length+b.length+a.length+(Int.ofNat a.length).toNat +Int.toNat 0+1) 0 (by simp; omega) (by omega) (by omega)
 rw [show ((0:Nat):Int)=(0:Int) from rfl] at h1
 rw [Wy.fin_bn,show Int.ofNat a.length=(a.length:Int) from rfl] at *
 rw [h1];simp only [qq] at h2;rcases h2 with rfl | ⟨rfl,h2⟩
 ·rfl
 ·rw [h2];simp only [Wy.fin_i,Wy.fin_k,qw,zCe,ze4,decide_true,decide_false,q13,q1j,q23,q7,q9,qt,qk,q1k,isL,getR];by_cases h3:a.length<b.length <;>simp [h3]
end
theorem zSx {α:Type} [Inhabited α] (e:α->TT) (g:α->α->Bool×Int) (a b:List α) (ha:a.length<=1000000) (hg:∀ x∈a,∀ y∈b,g x y=(true,zbe (e x) (e y))):CF g a b=(true,zbx (a.map e) (b.map e)):=by
 rw [zbnw g (λx y=>zbe (e x) (e y)) a b ha hg,zPW e a b λ_ _ _ _=>rfl]
theorem Fc.eta2 (x:Fc):(FO.mk (At.mk x.At.Kind x.At.Row x.At.Ag x.At.Func x.At.Items x.At.Op x.At.Bd) x.Exp:Fc)=x:=by rw [At.eta]
theorem zbjk (g):zbT g=CF g:=rfl
theorem zbfX (g):zbA g=CF g:=by
 have h:zbR g=zbgB g:=by
  funext x y
  unfold zbR zeh zbgB zbbw Wy.ix At.et;rw [Fc.eta2,Fc.eta2]
 funext a b
 unfold zbA zeq zei;rw [h]; rfl
theorem zbk2 (g):zbr g=CF g:=rfl
theorem zbiv (g):zbM g=CF g:=rfl
theorem zC8 (a b:Value):zkd a b=(true,zbe (trV a) (trV b)):=by
 unfold zkd zPf;have h:(strings_Compare a.Text b.Text).2=zbe (trB a.Text) (trB b.Text):=by rw [<- zbfm]; rfl
 simp only [zzp,zwV,Wy.fin_bn,q7,h];rw [zxH _ (by simp)]
 simp only [Wy.fin_k,q7,trV,zbe,zbx,zv0];rfl
theorem zRt:∀ n,
  (∀ d a b,zq d a->10*d<=n->zgC n a b=(true,zbx (zdH a) (zdH b)))/\
  (∀ d a b,zq d a->10*d<=n+1->zbS n a b=(true,zbx (zdH a) (zdH b)))/\
  (∀ d x y,zg2 (zq d) x.Fs->10*d+10<=n+2->zi6 n x y=(true,zbe (zAf x) (zAf y)))/\
  (∀ d x y,zg2 (zq d) x.Fs->10*d+10<=n+3->zhC n x y=(true,zbx (zbD x.Fs) (zbD y.Fs)))/\
  (∀ d l l',zg2 (zq d) l->10*d+10<=n+4->zbX n l l'=(true,zbx (zbD l) (zbD l')))/\
  (∀ d x y,zdl (zq d) x.At->10*d+10<=n+5->zgg n x y=(true,zbe (zrk x) (zrk y)))/\
  (∀ d x y,zdl (zq d) x->10*d+10<=n+6->zhG n x y=(true,zbe (zec x) (zec y)))/\
  (∀ d a b,a.length<=1000000->(∀ x∈a,zq d x)->10*d+10<=n+7->zbq n a b=(true,zbx (zx8 a) (zx8 b)))/\
  (∀ d a b,a.length<=1000000->(∀ x∈a,zq d x.Ann)->10*d+10<=n+7->zbN n a b=(true,zbx (zhU a) (zhU b)))/\
  (∀ d x y,zq d x.Ann->10*d+10<=n+8->zfv n x y=(true,zbe (zbf x) (zbf y)))
 | 0=>by
  refine ⟨?_, ?_, ?_, ?_, ?_, ?_, ?_, ?_, ?_, ?_⟩
  ·intro d a b h hd; have:d=0:=by omega
   subst this; exact h.elim
  ·intro d a b h hd; have:d=0:=by omega
   subst this; exact h.elim
  all_goals (intros; omega)
 | n+1=>by
  obtain ⟨h1,h2,h3,h4,h5,h6,h7,h8,h9,h10⟩:=zRt n;refine ⟨?_, ?_, ?_, ?_, ?_, ?_, ?_, ?_, ?_, ?_⟩
  ·intro d a b h hd;rw [zOI];unfold zqq zBY;rw [Wy.fin_bn,h2 d a b h (by omega)]; rfl
  ·intro d a b h hd;cases d with
   | zero=>exact h.elim
   | succ d=>
    rw [ziF,zbjk,zH3,zH3];exact zSx zAf _ a b h.1 λx hx y hy=>h3 d x y (h.2 x hx) (by omega)
  ·intro d x y h hd;rw [zJS];unfold zmp zy3;rw [Wy.fin_bn,h4 d x y h (by omega)]
   simp only [q7,Wy.fin_bn,zwV];rw [zxH _ (by simp)]
   obtain ⟨c,l⟩:=x; obtain ⟨c',l'⟩:=y;simp only [q7,Wy.fin_k,zv0,zAf,zbe,zbx];rfl
  ·intro d x y h hd;rw [zHJ];unfold zkM zwn;rw [Wy.fin_bn,h5 d _ _ h (by omega)]; rfl
  ·intro d l l' h hd;rw [zi9,zbfX,zxR,zxR];exact zSx zrk _ l l' h.1 λx hx y hy=>h6 d x y (h.2 x hx) (by omega)
  ·intro d x y h hd;rw [zFH];unfold zjG zuV At.et;rw [At.eta,At.eta,Wy.fin_bn,h7 d _ _ h (by omega)]
   simp only [q7,Wy.fin_bn,zzp];rw [zxH _ (by simp)]
   obtain ⟨c,l⟩:=x; obtain ⟨c',l'⟩:=y;simp only [q7,Wy.fin_k,zv0,zrk,zbe,zbx];rfl
  ·intro d x y h hd;rw [zHm];unfold zkJ zwz;simp only [q7,Wy.fin_bn,zzp,zC8,h8 d x.Ag y.Ag h.1.1 h.2.1 (by omega),h9 d x.Items y.Items h.1.2.1 (λw hw=>(h.2.2 w hw).2) (by omega)]
   rw [zxH _ (by simp)]
   obtain ⟨k,r,a,f,i,o,v⟩:=x; obtain ⟨k',r',a',f',i',o',v'⟩:=y;simp only [q7,Wy.fin_k,zv0,zec,zbe,zbx];rfl
  ·intro d a b h0 h hd;rw [zfE,zbk2,zFn,zFn];exact zSx (λx=>TT.l (zdH x)) _ a b h0 λx hx y hy=>by rw [h1 d x y (h x hx) (by omega)]; simp only [zbe]
  ·intro d a b h0 h hd;rw [zg6,zbiv,zm8,zm8];exact zSx zbf _ a b h0 λx hx y hy=>h10 d x y (h x hx) (by omega)
  ·intro d x y h hd;rw [zHR];unfold zkQ zwk;simp only [q7,Wy.fin_bn,zC8,h1 d _ _ h (by omega)]
   rw [zxH _ (by simp)]
   obtain ⟨c,l⟩:=x; obtain ⟨c',l'⟩:=y;simp only [q7,Wy.fin_k,zv0,zbf,zbe,zbx];rfl
theorem zR4 {d:Nat} {a:yB} (h:zq d a) (hd:d<=100) (b:yB):zzX a b=(true,zbx (zdH a) (zdH b)):=(zRt 1000).1 d a b h (by omega)
theorem zxW {d:Nat} {x:Term} (h:zg2 (zq d) x.Fs) (hd:d<=99) (y:Term):zb4 x y=(true,zbx (zbD x.Fs) (zbD y.Fs)):=(zRt 1000).2.2.2.1 d x y h (by omega)
theorem zxG {d:Nat} {x:At} (h:zdl (zq d) x) (hd:d<=99) (y:At):zjl x y=(true,zbe (zec x) (zec y)):=(zRt 1000).2.2.2.2.2.2.1 d x y h (by omega)
theorem zkf {d:Nat} {x:Wd} (h:zq d x.Ann) (hd:d<=99) (y:Wd):z7 x y=(true,zbe (zbf x) (zbf y)):=(zRt 1000).2.2.2.2.2.2.2.2.2 d x y h (by omega)
theorem zyH {d:Nat} {a:yB} (h:zq d a) (hd:d<=100) (b:yB):zgx a b=(true,decide (a=b)):=by
 unfold zgx zJp;rw [Wy.fin_bn,zR4 h hd];simp only [q7,Wy.fin_k];congr 1;by_cases e:a=b
 ·subst e; rw [zZP]; simp
 ·have:zbx (zdH a) (zdH b)≠0:=λh=>e (zIZ _ _ (zLZ _ _ h))
  simp [e,this]
theorem z2O (s:ByteArray):∀ (n i:Nat) (r:List UInt8),s.size<=i+n->ByteArray.toList.loop s i r=r.reverse++s.data.toList.drop i
 | 0,i,r,h=>by
  rw [ByteArray.toList.loop,if_neg (by omega),q2m (by rw [<- Lib.size_eq]; omega),q1o]
 | n+1,i,r,h=>by
  rw [ByteArray.toList.loop];by_cases hi:i<s.size
  ·have hi':i<s.data.toList.length:=by rw [<- Lib.size_eq]; exact hi
   rw [if_pos hi,z2O s n (i+1) _ (by omega),q2x hi',List.reverse_cons,qu]
   congr 1
   have:s.get! i=s.data.toList[i]:=by
    have h':i<s.data.size:=hi;show s.data[i]! =s.data.toList[i];rw [getElem!_pos s.data i h']; rfl
   rw [this]; rfl
  ·rw [if_neg hi,q2m (by rw [<- Lib.size_eq]; omega),q1o]
theorem toList_eq (s:ByteArray):s.toList=s.data.toList:=by
 rw [ByteArray.toList,z2O s s.size 0 [] (by omega)]; rfl
theorem zJy {s t:ByteArray} (h:s.data.toList=t.data.toList):s=t:=by
 cases s; cases t;congr 1;exact Array.toList_inj.1 h
theorem zbgL (s t:ByteArray):(s.toList==t.toList)=decide (s.data.toList=t.data.toList):=by
 rw [toList_eq,toList_eq];cases hb:(s.data.toList==t.data.toList) with
 | true=>rw [qg (beq_iff_eq.1 hb)]
 | false=>rw [qd (λh=>by rw [beq_iff_eq.2 h] at hb; cases hb)]
theorem zDV (s t:ByteArray):(s.toList==t.toList)=decide (s=t):=by
 rw [zbgL];by_cases h:s=t
 ·rw [qg h,qg (by rw [h])]
 ·rw [qd h,qd λe=>h (zJy e)]
theorem zj1 (z w:Int):(z != w)= !decide (z=w):=by by_cases h:z=w <;>simp [h]
theorem zVN:∀ a b:List UInt8,Op.bytesLess a b=decide (Lib.compareBytes a b<0)
 | [],[]=>by simp [Op.bytesLess,Lib.compareBytes]
 | _::_,[]=>by simp [Op.bytesLess,Lib.compareBytes]
 | [],_::_=>by simp [Op.bytesLess,Lib.compareBytes]
 | x::a,y::b=>by
  simp only [Op.bytesLess,Lib.compareBytes];by_cases p:x<y
  ·simp [p]
  ·by_cases q:y<x
   ·have hne:¬ x=y:=λe=>by subst e; exact p q
    simp [p,q,hne]
   ·have he:x=y:=UInt8.toNat_inj.1 (by rw [UInt8.lt_iff_toNat_lt] at p q; omega)
    subst he;simp [p,zVN a b]
theorem zC5 (a b:Value):zka a b=(true,zbe (trV a) (trV b)):=by
 unfold zka zPO ztf zYu;rw [zDV,toList_eq,toList_eq,zVN,zbfm];simp only [trV,zbe,zbx,zef];simp only [Wy.fin_i,Wy.fin_bn,Wy.fin_k,q7,zj1];by_cases h1:a.Kind=b.Kind
 ·by_cases h2:a.Int=b.Int
  ·by_cases h3:a.Text=b.Text
   ·simp [h1,h2,h3,zD0]
   ·have h4:zbe (trB a.Text) (trB b.Text)≠0:=λe=>by
     have:=zJJ _ _ (TT.l.inj (ztc _ _ e));exact h3 (zJy this)
    have h5:=zbdb (trB a.Text) (trB b.Text);simp only [trB,zbe] at h4 h5;simp only [trB,zbe];rcases h5 with h5 | h5 | h5
    ·simp [h1,h2,h3,h5]
    ·exact absurd h5 h4
    ·simp [h1,h2,h3,h5]
  ·by_cases h3:a.Int<b.Int
   ·simp [h1,h2,h3]
   ·simp [h1,h2,h3,show b.Int<a.Int by omega]
 ·by_cases h3:a.Kind<b.Kind
  ·simp [h1,h3]
  ·simp [h1,h3,show b.Kind<a.Kind by omega]
theorem zoo (x y:Int):zc0 x y=(true,zef x y):=by
 unfold zc0 zSX zef;by_cases h1:x<y
 ·simp [h1,Wy.fin_i,Wy.fin_k]
 ·by_cases h2:y<x <;>simp [h1,h2,Wy.fin_i,Wy.fin_k]
theorem zWy (x y:RowID):zrh x y=(true,if zef x.Table y.Table=0 then zef x.Seq y.Seq else zef x.Table y.Table):=by
 unfold zrh zIv;simp only [zoo,Wy.fin_i,Wy.fin_bn,Wy.fin_k,q7,zj1];by_cases h:zef x.Table y.Table=0
 ·simp [h]
 ·simp [h]
section
variable {α:Type} [Inhabited α]
def zbbr (p q:α->α->Bool×Int) (a:List α) (b:List α) (i:Int):Wy (List α×List α×Int×Unit) Unit (Int⊕(List α×List α)):=.i (decide (i<Int.ofNat a.length)) (.i (decide (i<Int.ofNat b.length)) (.i (decide ((0:Int)<=i)&&decide (i<Int.ofNat a.length)) (.i (decide ((0:Int)<=i)&&decide (i<Int.ofNat b.length)) (.bn (p (a.getD i.toNat default) (b.getD i.toNat default)) λr1=>.i (r1 != (0:Int)) (.k (.inl (r1))) (.i (decide ((0:Int)<=i)&&decide (i<Int.ofNat a.length)) (.i (decide ((0:Int)<=i)&&decide (i<Int.ofNat b.length)) (.bn (q (a.getD i.toNat default) (b.getD i.toNat default)) λr0=>.i (r0 != (0:Int)) (.k (.inl (r0))) (.h (a,b,(IntKind.i64.wrap (i+(1:Int))),()) ())) .d) .d)) .d) .d) (.k (.inr (a,b)))) (.k (.inr (a,b)))
def zbg5 (p q:α->α->Bool×Int) (x:List α×List α×Int×Unit) (y:Unit):Wy (List α×List α×Int×Unit) Unit (Int⊕(List α×List α)):=zbbr p q x.1 x.2.1 x.2.2.1
def zbf6 (p q:α->α->Bool×Int) (n:Nat) (a:List α) (b:List α) (i:Int):Bool×(Int⊕(List α×List α)):=zy (zbg5 p q) (.inl default) n (a,b,i,()) ()
def RG (p q:α->α->Bool×Int) (a b:List α):Bool×Int:=(.bn (zbf6 p q (a.length+b.length+Int.toNat (0:Int)+(1:Nat)) a b (0:Int)) λr5=>.i (isL r5) (.k (getL r5)) (.bn (zc0 (Int.ofNat (getR r5).fst.length) (Int.ofNat (getR r5).snd.length)) λr4=>.k r4):Wy0 Int).fin default
theorem zbfS (p q:α->α->Bool×Int) (c1 c2:α->α->Int) (a b:List α) (ha:a.length<=1000000) (hp:∀ x∈a,∀ y∈b,p x y=(true,c1 x y)) (hq:∀ x∈a,∀ y∈b,q x y=(true,c2 x y)):∀ (n i:Nat),a.length<i+n->i<=a.length->i<=b.length->
  ∃ r,zbf6 p q n a b i=(true,r)/\((r=.inl (zyT (λx y=>if c1 x y=0 then c2 x y else c1 x y) (a.drop i) (b.drop i)))\/(r=.inr (a,b)/\zyT (λx y=>if c1 x y=0 then c2 x y else c1 x y) (a.drop i) (b.drop i)=zef a.length b.length))
 | 0,i,h,h2,h3=>by omega
 | n+1,i,h,h2,h3=>by
  show ∃ r,(zbbr p q a b i).ev (λx y=>zbf6 p q n x.1 x.2.1 x.2.2.1) (λr=>(true,r)) (false,.inl default)=(true,r)/\_
  unfold zbbr;by_cases hi:i<a.length
  ·by_cases hi':i<b.length
   ·simp only [Wy.ev_i,Wy.ev_k,Wy.ev_h,Wy.ev_bn,Wy.ev_d,tT,hi,hi',hp _ (zm hi) _ (zm hi'),hq _ (zm hi) _ (zm hi')];rw [zbd hi,zbd hi',zu (by omega)]
    simp only [zyT];generalize c1 (a.getD i default) (b.getD i default)=z1;generalize c2 (a.getD i default) (b.getD i default)=z2;by_cases hx:z1=0
    ·have e:(z1 != 0)=false:=by simp [hx]
     by_cases hx2:z2=0
     ·have e2:(z2 != 0)=false:=by simp [hx2]
      simp only [e,e2,q9,hx,hx2,if_true];exact zbfS p q c1 c2 a b ha hp hq n (i+1) (by omega) (by omega) (by omega)
     ·have e2:(z2 != 0)=true:=by simp [hx2]
      simp only [e,e2,q9,q7,hx,hx2,if_true,if_false];exact ⟨_,rfl,.inl rfl⟩
    ·have e:(z1 != 0)=true:=by simp [hx]
     simp only [e,q7,hx,if_false];exact ⟨_,rfl,.inl rfl⟩
   ·simp only [Wy.ev_i,Wy.ev_k,Wy.ev_h,Wy.ev_bn,Wy.ev_d,tT,hi,hi'];refine ⟨_,rfl,.inr ⟨rfl, ?_⟩⟩;rw [zbd hi,zb2 hi'];unfold zef; rw [if_neg (by omega),if_pos (by omega)]; rfl
  ·simp only [Wy.ev_i,Wy.ev_k,Wy.ev_h,Wy.ev_bn,Wy.ev_d,tT,hi];refine ⟨_,rfl,.inr ⟨rfl, ?_⟩⟩;rw [zb2 hi];by_cases hi':i<b.length
   ·rw [zbd hi']; unfold zef; rw [if_pos (by omega)]; rfl
   ·rw [zb2 hi']; unfold zef; rw [if_neg (by omega),if_neg (by omega)]; rfl
theorem zbnM (p q:α->α->Bool×Int) (c1 c2:α->α->Int) (a b:List α) (ha:a.length<=1000000) (hp:∀ x∈a,∀ y∈b,p x y=(true,c1 x y)) (hq:∀ x∈a,∀ y∈b,q x y=(true,c2 x y)):RG p q a b=(true,zyT (λx y=>if c1 x y=0 then c2 x y else c1 x y) a b):=by
 unfold RG;obtain ⟨r,h1,h2⟩:=zbfS p q c1 c2 a b ha hp hq (a.length+b.length+Int.toNat 0+1) 0 (by simp; omega) (by omega) (by omega)
 rw [show ((0:Nat):Int)=(0:Int) from rfl] at h1
 rw [Wy.fin_bn,h1];simp only [qq] at h2;rcases h2 with rfl | ⟨rfl,h2⟩
 ·rfl
 ·rw [h2];simp only [Wy.fin_i,Wy.fin_k,Wy.fin_bn,zoo,tT,isL,getR]
end
theorem z7P {α:Type} [Inhabited α] (e:α->TT) (p q:α->α->Bool×Int) (c1 c2:α->α->Int) (a b:List α) (ha:a.length<=1000000) (hp:∀ x∈a,∀ y∈b,p x y=(true,c1 x y)) (hq:∀ x∈a,∀ y∈b,q x y=(true,c2 x y))
  (hc:∀ x y,(if c1 x y=0 then c2 x y else c1 x y)=zbe (e x) (e y)):RG p q a b=(true,zbx (a.map e) (b.map e)):=by
 rw [zbnM p q c1 c2 a b ha hp hq,zPW e a b λx _ y _=>hc x y]
theorem zbiC (g):zyZ g=RG (λx y=>g x.Fs y.Fs) (λx y=>zc0 x.Cf y.Cf):=rfl
theorem zbgw (g):zjZ g=RG (λx y=>g x.At y.At) (λx y=>zc0 x.Exp y.Exp):=by
 have h:zkL g=zbg5 (λx y=>g x.At y.At) (λx y=>zc0 x.Exp y.Exp):=by
  funext x y
  unfold zkL zy8 zbg5 zbbr Wy.ix At.et;rw [At.eta,At.eta]
 funext a b
 unfold zjZ zAg zzc;rw [h]; rfl
theorem zbjC (g):zp4 g=RG (λx y=>zka x.Value y.Value) (λx y=>g x.Ann y.Ann):=rfl
theorem z9D (gI) (g:yB->yB->Bool×Int) (a b:At) (ha:a.Ag.length<=1000000) (hg:∀ x∈a.Ag,∀ y∈b.Ag,g x y=(true,zbx (zdH x) (zdH y))):∀ (n i:Nat),a.Ag.length<i+n->i<=a.Ag.length->i<=b.Ag.length->
  ∃ r,zuD g gI n i a b=(true,r)/\((r=.inl (zyT (λx y=>zbx (zdH x) (zdH y)) (a.Ag.drop i) (b.Ag.drop i))/\zyT (λx y=>zbx (zdH x) (zdH y)) (a.Ag.drop i) (b.Ag.drop i)≠0)\/(r=.inr (a,b)/\zyT (λx y=>zbx (zdH x) (zdH y)) (a.Ag.drop i) (b.Ag.drop i)=zef a.Ag.length b.Ag.length))
 | 0,i,h,h2,h3=>by omega
 | n+1,i,h,h2,h3=>by
  show ∃ r,(zuH g gI i a b).ev (λx y=>zuD g gI n x.2.2.1 y.1 y.2.1) (λr=>(true,r)) (false,.inl default)=(true,r)/\_
  unfold zuH Wy.ix;by_cases hi:i<a.Ag.length
  ·by_cases hi':i<b.Ag.length
   ·simp only [Wy.ev_i,Wy.ev_k,Wy.ev_h,Wy.ev_bn,Wy.ev_d,tT,hi,hi',hg _ (zm hi) _ (zm hi')];rw [zbd hi,zbd hi',zu (by omega)]
    simp only [zyT];generalize zbx (zdH (a.Ag.getD i default)) (zdH (b.Ag.getD i default))=z1;by_cases hx:z1=0
    ·have e:(z1 != 0)=false:=by simp [hx]
     simp only [e,q9,hx,if_true];exact z9D gI g a b ha hg n (i+1) (by omega) (by omega) (by omega)
    ·have e:(z1 != 0)=true:=by simp [hx]
     simp only [e,q7,hx,if_false];exact ⟨_,rfl,.inl ⟨rfl,hx⟩⟩
   ·simp only [Wy.ev_i,Wy.ev_k,Wy.ev_h,Wy.ev_bn,Wy.ev_d,tT,hi,hi'];refine ⟨_,rfl,.inr ⟨rfl, ?_⟩⟩;rw [zbd hi,zb2 hi'];unfold zef; rw [if_neg (by omega),if_pos (by omega)]; rfl
  ·simp only [Wy.ev_i,Wy.ev_k,Wy.ev_h,Wy.ev_bn,Wy.ev_d,tT,hi];refine ⟨_,rfl,.inr ⟨rfl, ?_⟩⟩;rw [zb2 hi];by_cases hi':i<b.Ag.length
   ·rw [zbd hi']; unfold zef; rw [if_pos (by omega)]; rfl
   ·rw [zb2 hi']; unfold zef; rw [if_neg (by omega),if_neg (by omega)]; rfl
theorem zblj (gI) (g:yB->yB->Bool×Int) (x y:At) (ha:x.Ag.length<=1000000) (hg:∀ a∈x.Ag,∀ b∈y.Ag,g a b=(true,zbx (zdH a) (zdH b)))
  (hI:gI x.Items y.Items=(true,zbx (zhU x.Items) (zhU y.Items))):zmA g gI x y=(true,zbe (zec x) (zec y)):=by
 unfold zmA zDS At.et;rw [At.eta,At.eta];obtain ⟨r,h1,h2⟩:=z9D gI g x y ha hg (Int.toNat 0+x.Ag.length+x.Items.length+y.Ag.length+y.Items.length+1) 0 (by omega) (by omega) (by omega)
 rw [show ((0:Nat):Int)=(0:Int) from rfl] at h1
 simp only [qq] at h2;rw [zPW (λa=>TT.l (zdH a)) x.Ag y.Ag (λa _ b _=>by simp only [zbe]), <- zFn, <- zFn] at h2
 simp only [zoo,zWy,Wy.fin_bn,Wy.fin_i,Wy.fin_k,q7,h1];obtain ⟨k,r0,a,f,i,o,v⟩:=x; obtain ⟨k',r',a',f',i',o',v'⟩:=y;simp only [zec,zbe,zbx,zj1] at *;by_cases e1:zef k k'=0
 rotate_left
 ·simp [e1]
 by_cases e2:zef r0.Table r'.Table=0
 rotate_left
 ·simp [e1,e2]
 by_cases e3:zef r0.Seq r'.Seq=0
 rotate_left
 ·simp [e1,e2,e3]
 rcases h2 with ⟨rfl,h2⟩ | ⟨rfl,h2⟩
 ·simp [e1,e2,e3,h2,isL,getL]
 simp only [e1,e2,e3,h2,isL,getR,tT,hI,if_true];by_cases e4:zef (a.length:Int) (a'.length:Int)=0
 rotate_left
 ·simp [e4]
 by_cases e5:zef f f'=0
 rotate_left
 ·simp [e4,e5]
 by_cases e6:zbx (zhU i) (zhU i')=0
 rotate_left
 ·simp [e4,e5,e6]
 by_cases e7:zef o o'=0
 rotate_left
 ·simp [e4,e5,e6,e7]
 simp [e4,e5,e6,e7,zC5]
theorem zM9:∀ n,
  (∀ d a b,zq d a->10*d<=n->zox n a b=(true,zbx (zdH a) (zdH b)))/\
  (∀ d l l',zg2 (zq d) l->10*d+10<=n+1->zj2 n l l'=(true,zbx (zbD l) (zbD l')))/\
  (∀ d x y,zdl (zq d) x->10*d+10<=n+2->zmI n x y=(true,zbe (zec x) (zec y)))/\
  (∀ d a b,a.length<=1000000->(∀ x∈a,zq d x.Ann)->10*d+10<=n+3->zlv n a b=(true,zbx (zhU a) (zhU b)))
 | 0=>by
  refine ⟨?_, ?_, ?_, ?_⟩
  ·intro d a b h hd; have:d=0:=by omega
   subst this; exact h.elim
  all_goals (intros; omega)
 | n+1=>by
  obtain ⟨h1,h2,h3,h4⟩:=zM9 n;refine ⟨?_, ?_, ?_, ?_⟩
  ·intro d a b h hd;cases d with
   | zero=>exact h.elim
   | succ d=>
    rw [zYm,zbiC,zH3,zH3]
    exact z7P zAf _ _ (λx y=>zbx (zbD x.Fs) (zbD y.Fs)) (λx y=>zef x.Cf y.Cf) a b h.1 (λx hx y hy=>h2 d _ _ (h.2 x hx) (by omega)) (λx _ y _=>zoo _ _) λx y=>by
     obtain ⟨c,l⟩:=x; obtain ⟨c',l'⟩:=y;simp only [zAf,zbe,zbx];by_cases e:zef c c'=0 <;>simp [e]
  ·intro d l l' h hd;rw [zLk,zbgw,zxR,zxR]
   exact z7P zrk _ _ (λx y=>zbe (zec x.At) (zec y.At)) (λx y=>zef x.Exp y.Exp) l l' h.1 (λx hx y hy=>h3 d _ _ (h.2 x hx) (by omega)) (λx _ y _=>zoo _ _) λx y=>by
    obtain ⟨c,l⟩:=x; obtain ⟨c',l'⟩:=y;simp only [zrk,zbe,zbx];by_cases e:zef l l'=0 <;>simp [e]
  ·intro d x y h hd;rw [zQE];exact zblj _ _ x y h.1.1 (λa ha b _=>h1 d a b (h.2.1 a ha) (by omega)) (h4 d _ _ h.1.2.1 (λw hw=>(h.2.2 w hw).2) (by omega))
  ·intro d a b h0 h hd;rw [zON,zbjC,zm8,zm8]
   exact z7P zbf _ _ (λx y=>zbe (trV x.Value) (trV y.Value)) (λx y=>zbx (zdH x.Ann) (zdH y.Ann)) a b h0 (λx _ y _=>zC5 _ _) (λx hx y _=>h1 d _ _ (h x hx) (by omega)) λx y=>by
    obtain ⟨c,l⟩:=x; obtain ⟨c',l'⟩:=y;simp only [zbf,zbe,zbx];by_cases e:zbx (zdH l) (zdH l')=0 <;>simp [e]
theorem z3T {d:Nat} {a:yB} (h:zq d a) (hd:d<=100) (b:yB):zJ6 a b=(true,zbx (zdH a) (zdH b)):=(zM9 1000).1 d a b h (by omega)
theorem zsN {d:Nat} {l:yC} (h:zg2 (zq d) l) (hd:d<=99) (l':yC):zlr l l'=(true,zbx (zbD l) (zbD l')):=(zM9 1000).2.1 d l l' h (by omega)
theorem zxd {d:Nat} {x:At} (h:zdl (zq d) x) (hd:d<=99) (y:At):zlO x y=(true,zbe (zec x) (zec y)):=(zM9 1000).2.2.1 d x y h (by omega)
theorem zD3 {d:Nat} {a:yD} (h0:a.length<=1000000) (h:∀ x∈a,zq d x.Ann) (hd:d<=99) (b:yD):zue a b=(true,zbx (zhU a) (zhU b)):=(zM9 1000).2.2.2 d a b h0 h (by omega)
theorem zCw {d:Nat} {a:yB} (h:zq d a) (hd:d<=100) (b:yB):zp1 a b=(true,decide (a=b)):=by
 unfold zp1 zYE;rw [Wy.fin_bn,z3T h hd];simp only [q7,Wy.fin_k];congr 1;by_cases e:a=b
 ·subst e; rw [zZP]; simp
 ·have:zbx (zdH a) (zdH b)≠0:=λh=>e (zIZ _ _ (zLZ _ _ h))
  simp [e,this]
def zd5 (c:Nat->Bool):Nat->Nat->Bool
 | 0,_=>true
 | n+1,i=>c i&&zd5 c n (i+1)
theorem zLB {c c':Nat->Bool}:∀ n i,(∀ k,i<=k->k<i+n->c k=c' k)->zd5 c n i=zd5 c' n i
 | 0,_,_=>rfl
 | n+1,i,h=>by
  simp only [zd5]; rw [h i (by omega) (by omega),zLB n (i+1) λk h1 h2=>h k (by omega) (by omega)]
theorem zdU {c:Nat->Bool}:∀ {n i},zd5 c n i=true↔∀ k,i<=k->k<i+n->c k=true
 | 0,i=>⟨λ_ k h1 h2=>by omega,λ_=>rfl⟩
 | n+1,i=>by
  simp only [zd5,qa,zdU (n:=n)];constructor
  ·rintro ⟨h1,h2⟩ k h3 h4
   by_cases e:k=i
   ·rw [e]; exact h1
   ·exact h2 k (by omega) (by omega)
  ·intro h;exact ⟨h i (by omega) (by omega),λk h1 h2=>h k (by omega) (by omega)⟩
theorem zbdH (c c':Nat->Bool):∀ n i,zd5 (λk=>c k&&c' k) n i=(zd5 c n i&&zd5 c' n i)
 | 0,_=>rfl
 | n+1,i=>by
  simp only [zd5,zbdH c c' n (i+1)];cases c i <;>cases c' i <;>simp
theorem zbct {τ:Type} [Inhabited τ] (p:τ->Bool) (l:List τ):∀ n i,i+n=l.length->zd5 (λk=>p (l.getD k default)) n i=(l.drop i).all p
 | 0,i,h=>by rw [zb2 (by omega)]; rfl
 | n+1,i,h=>by
  rw [zbd (by omega),q28]
  simp only [zd5,zbct p l n (i+1) (by omega)]
theorem zz3 {τ:Type} [Inhabited τ] (p:τ->Bool) (l:List τ):zd5 (λk=>p (l.getD k default)) l.length 0=l.all p:=by
 rw [zbct p l _ _ (by omega),qq]
section
variable {α β ρ:Type}
theorem zbdo {W:α->β->Wy α β ρ} {z:ρ} (N:Nat) (ex:Nat->α) (ey:Nat->β) (c:Nat->Bool) (no yes:ρ)
  (h:∀ i,i<N->∀ (H:α->β->Bool×ρ) K D,(W (ex i) (ey i)).ev H K D=bif c i then H (ex (i+1)) (ey (i+1)) else K no)
  (he:∀ (H:α->β->Bool×ρ) K D,(W (ex N) (ey N)).ev H K D=K yes):
  ∀ n i,N<i+n->i<=N->zy W z n (ex i) (ey i)=(true,bif zd5 c (N - i) i then yes else no)
 | 0,i,h1,h2=>by omega
 | n+1,i,h1,h2=>by
  show (W (ex i) (ey i)).ev (zy W z n) (λr=>(true,r)) (false,z)=_
  by_cases hi:i<N
  ·rw [h i hi,show N - i=(N - (i+1))+1 by omega]
   simp only [zd5];cases c i with
   | false=>rfl
   | true=>rw [q7,zbdo N ex ey c no yes h he n (i+1) (by omega) (by omega)]; rfl
  ·have:i=N:=by omega
   subst this;rw [he,Nat.sub_self]; rfl
theorem zcs {W:α->β->Wy α β ρ} {z:ρ} (N:Nat) (ex:Nat->α) (ey:Nat->β) (c:Nat->Bool) (no yes:ρ)
  (h:∀ i,i<N->∀ (H:α->β->Bool×ρ) K D,(W (ex i) (ey i)).ev H K D=bif c i then H (ex (i+1)) (ey (i+1)) else K no)
  (he:∀ (H:α->β->Bool×ρ) K D,(W (ex N) (ey N)).ev H K D=K yes) (n:Nat) (hn:N<n):zy W z n (ex 0) (ey 0)=(true,bif zd5 c N 0 then yes else no):=by
 have:=zbdo (z:=z) N ex ey c no yes h he n 0 (by omega) (by omega)
 simpa using this
end
def ixf {α:Type} (p:α->Bool):List α->Nat->Int
 | [],_=> -1
 | x::r,i=>bif p x then (i:Int) else ixf p r (i+1)
theorem zbe6 {α:Type} (p:α->Bool):∀ (l:List α) (i:Nat),decide (ixf p l i≥(0:Int))=l.any p
 | [],i=>by simp [ixf]
 | x::r,i=>by
  rw [List.any_cons];cases h:p x with
  | true=>simp [ixf,h]
  | false=>simpa [ixf,h] using zbe6 p r (i+1)
section
variable {α γ:Type} [Inhabited α]
def zbbs (p:γ->α->Bool×Bool) (s:List α) (g:γ) (t7:Int) (t8:Int):Wy (List α×γ×Int×Int×Unit) Unit (Int⊕Unit):=.i (decide (t8<t7)) (.i (decide ((0:Int)<=t8)&&decide (t8<Int.ofNat s.length)) (.bn (p g (s.getD t8.toNat default)) λr0=>.i (r0) (.k (.inl t8)) (.h (s,g,t7,(IntKind.i64.wrap (t8+(1:Int))),()) ())) .d) (.k (.inr ()))
def zbf8 (p:γ->α->Bool×Bool) (x:List α×γ×Int×Int×Unit) (y:Unit):Wy (List α×γ×Int×Int×Unit) Unit (Int⊕Unit):=zbbs p x.1 x.2.1 x.2.2.1 x.2.2.2.1
def zbgx (p:γ->α->Bool×Bool) (n:Nat) (s:List α) (g:γ) (t7:Int) (t8:Int):Bool×(Int⊕Unit):=zy (zbf8 p) (.inl default) n (s,g,t7,t8,()) ()
def IG (p:γ->α->Bool×Bool) (n:Nat) (g:γ) (s:List α):Bool×Int:=(.bn (zbgx p n s g (Int.ofNat s.length) (0:Int)) λr2=>.i (isL r2) (.k (getL r2)) (.k (-1:Int)):Wy0 Int).fin default
def zbge (p:γ->α->Bool×Bool) (s:List α) (g:γ) (t7:Int) (t8:Int):Wy (List α×γ×Int×Int×Unit) Unit (Int⊕Unit):=.i (decide (t8<t7)) (.i (decide ((0:Int)<=t8)&&decide (t8<Int.ofNat s.length)) (.i ((p g (s.getD t8.toNat default)).snd) (.k (.inl t8)) (.h (s,g,t7,(IntKind.i64.wrap (t8+(1:Int))),()) ())) .d) (.k (.inr ()))
def zbnB (p:γ->α->Bool×Bool) (x:List α×γ×Int×Int×Unit) (y:Unit):Wy (List α×γ×Int×Int×Unit) Unit (Int⊕Unit):=zbge p x.1 x.2.1 x.2.2.1 x.2.2.2.1
def zbgO (p:γ->α->Bool×Bool) (n:Nat) (s:List α) (g:γ) (t7:Int) (t8:Int):Bool×(Int⊕Unit):=zy (zbnB p) (.inl default) n (s,g,t7,t8,()) ()
def IH (p:γ->α->Bool×Bool) (n:Nat) (g:γ) (s:List α):Bool×Int:=(.bn (zbgO p n s g (Int.ofNat s.length) (0:Int)) λr2=>.i (isL r2) (.k (getL r2)) (.k (-1:Int)):Wy0 Int).fin default
theorem zbfk (p:γ->α->Bool×Bool) (P:α->Bool) (g:γ) (s:List α) (hs:s.length<=1000000000) (hp:∀ x∈s,p g x=(true,P x)):∀ (n i:Nat),s.length<i+n->i<=s.length->
  ∃ r,zbgx p n s g s.length i=(true,r)/\((r=.inl (ixf P (s.drop i) i))\/(r=.inr ()/\ixf P (s.drop i) i= -1))
 | 0,i,h,h2=>by omega
 | n+1,i,h,h2=>by
  show ∃ r,(zbbs p s g s.length i).ev (λx y=>zbgx p n x.1 x.2.1 x.2.2.1 x.2.2.2.1) (λr=>(true,r)) (false,.inl default)=(true,r)/\_
  unfold zbbs;by_cases hi:i<s.length
  ·simp only [Wy.ev_i,Wy.ev_k,Wy.ev_h,Wy.ev_bn,Wy.ev_d,tT,hi,hp _ (zm hi)];rw [zbd hi,zu (by omega)]
   simp only [ixf];cases P (s.getD i default) with
   | true=>exact ⟨_,rfl,.inl rfl⟩
   | false=>exact zbfk p P g s hs hp n (i+1) (by omega) (by omega)
  ·simp only [Wy.ev_i,Wy.ev_k,Wy.ev_h,Wy.ev_bn,Wy.ev_d,tT,hi,zb2 hi];exact ⟨_,rfl,.inr ⟨rfl,rfl⟩⟩
theorem zLF (p:γ->α->Bool×Bool) (P:α->Bool) (n:Nat) (g:γ) (s:List α) (hs:s.length<=1000000000) (hp:∀ x∈s,p g x=(true,P x)) (hn:s.length<n):IG p n g s=(true,ixf P s 0):=by
 unfold IG;obtain ⟨r,h1,h2⟩:=zbfk p P g s hs hp n 0 (by omega) (by omega)
 rw [show ((0:Nat):Int)=(0:Int) from rfl] at h1
 rw [Wy.fin_bn,show Int.ofNat s.length=(s.length:Int) from rfl,h1]
 rw [qq] at h2;rcases h2 with rfl | ⟨rfl,h2⟩
 ·rfl
 ·rw [h2]; rfl
theorem zbfM (p:γ->α->Bool×Bool) (P:α->Bool) (g:γ) (s:List α) (hs:s.length<=1000000000) (hp:∀ x∈s,p g x=(true,P x)):∀ (n i:Nat),s.length<i+n->i<=s.length->
  ∃ r,zbgO p n s g s.length i=(true,r)/\((r=.inl (ixf P (s.drop i) i))\/(r=.inr ()/\ixf P (s.drop i) i= -1))
 | 0,i,h,h2=>by omega
 | n+1,i,h,h2=>by
  show ∃ r,(zbge p s g s.length i).ev (λx y=>zbgO p n x.1 x.2.1 x.2.2.1 x.2.2.2.1) (λr=>(true,r)) (false,.inl default)=(true,r)/\_
  unfold zbge;by_cases hi:i<s.length
  ·simp only [Wy.ev_i,Wy.ev_k,Wy.ev_h,Wy.ev_bn,Wy.ev_d,tT,hi,hp _ (zm hi)];rw [zbd hi,zu (by omega)]
   simp only [ixf];cases P (s.getD i default) with
   | true=>exact ⟨_,rfl,.inl rfl⟩
   | false=>exact zbfM p P g s hs hp n (i+1) (by omega) (by omega)
  ·simp only [Wy.ev_i,Wy.ev_k,Wy.ev_h,Wy.ev_bn,Wy.ev_d,tT,hi,zb2 hi];exact ⟨_,rfl,.inr ⟨rfl,rfl⟩⟩
theorem zbfW (p:γ->α->Bool×Bool) (P:α->Bool) (n:Nat) (g:γ) (s:List α) (hs:s.length<=1000000000) (hp:∀ x∈s,p g x=(true,P x)) (hn:s.length<n):IH p n g s=(true,ixf P s 0):=by
 unfold IH;obtain ⟨r,h1,h2⟩:=zbfM p P g s hs hp n 0 (by omega) (by omega)
 rw [show ((0:Nat):Int)=(0:Int) from rfl] at h1
 rw [Wy.fin_bn,show Int.ofNat s.length=(s.length:Int) from rfl,h1]
 rw [qq] at h2;rcases h2 with rfl | ⟨rfl,h2⟩
 ·rfl
 ·rw [h2]; rfl
theorem zk5 {α:Type} {s:List α} {P:α->Bool} {q:Bool×Int} (h:q=(true,ixf P s 0)):((.bn q λr0=>.k (decide (r0≥(0:Int))):Wy0 Bool).fin default)=(true,s.any P):=by
 rw [h,Wy.fin_bn,q7,Wy.fin_k,zbe6]
end
theorem zfi (a b:Int):(a==b)=decide (a=b):=by by_cases h:a=b <;>simp [h]
theorem z3g (a b:Nat):(a==b)=decide (a=b):=by by_cases h:a=b <;>simp [h]
theorem i0 (l:Nat):((l:Int)==0)=(l==0):=by
 rw [zfi,z3g]; congr 1; simp
def zuo (a:yB):Bool:=a.any λt=>t.Fs.length==0
theorem zRJ (a:yB) (h:a.length<=1000000000):zfm a=(true,zuo a):=by
 unfold zfm zzN zdv ziA;have:zdX a=IH (λ(_:Unit) x=>zhK x) (a.length+(Int.ofNat a.length).toNat +Int.toNat (0:Int)+(1:Nat)) () a:=rfl
 rw [zk5 (P:=λt:Term=>t.Fs.length==0) (this.trans (zbfW _ _ _ _ _ h (λx _=>by
  unfold zhK zws;rw [Wy.fin_k];congr 1;exact i0 x.Fs.length) (by omega)))]
 rfl
theorem zpd (a:yB) (h:a.length<=1000000000):zi3 a=(true,zuo a):=by
 unfold zi3 zMK zKB
 have:=zcs (W:=zBQ) (z:=.inl default) a.length (λi=>(a,(i:Int),())) (λ_=>()) (λi=> !((a.getD i default).Fs.length==0)) (.inl true) (.inr ())
  (λi hi H K D=>by
   show (zpE a i).ev H K D=_;unfold zpE Wy.ix;simp only [Wy.ev_i,Wy.ev_k,Wy.ev_h,Wy.ev_bn,Wy.ev_d,tT,hi,i0];rw [zu (by omega)]
   cases (a.getD i default).Fs.length==0 <;>rfl)
  (λH K D=>by
   show (zpE a a.length).ev H K D=_;unfold zpE Wy.ix;simp only [Wy.ev_i,Wy.ev_k,tT,qr]) (a.length+Int.toNat (0:Int)+(1:Nat)) (by omega)
 rw [show ((0:Nat):Int)=(0:Int) from rfl] at this
 rw [Wy.fin_bn,this,zz3 (λt:Term=> !(t.Fs.length==0)) a]
 have e:(a.all λt:Term=> !(t.Fs.length==0))= !zuo a:=by simp [zuo,q21]
 rw [e];cases zuo a <;>rfl
def isC:yB->Bool
 | [t]=>t.Fs.length==0
 | _=>false
theorem zV2 (a:yB):zh1 a=(true,isC a):=by
 unfold zh1 zAZ Wy.ix
 match a with
 | []=>rfl
 | [t]=>exact congrArg (Prod.mk true) (i0 t.Fs.length)
 | t::u::r=>
  have:((Int.ofNat (t::u::r).length)==(1:Int))=false:=by simp; omega
  rw [Wy.fin_i,this]; rfl
def zbmX (p:Fc->Bool):yC->Bool
 | [f]=>p f
 | _=>false
def isU:yB->Bool
 | [t]=>t.Cf==1&&zbmX (λf=>f.Exp==1&&(f.At.Kind==2||f.At.Kind==3||f.At.Kind==4)) t.Fs
 | _=>false
theorem z73 (x:At):zf0 x=(true,x.Kind==3||x.Kind==4):=by
 unfold zf0 zA2;rw [Wy.fin_i,Wy.fin_k,Wy.fin_k];cases x.Kind==3 <;>rfl
theorem zNr {τ:Type} (x y:τ) (r:List τ):((Int.ofNat (x::y::r).length)==(1:Int))=false:=by
 rw [q22]; simp; omega
theorem z9x (a:yB):zlR a=(true,isU a):=by
 unfold zlR zGu Wy.ix At.et
 match a with
 | []=>rfl
 | ⟨c,[]⟩::[]=>
  show (bif c != 1 then (true,false) else (true,false))=(true,c==1&&false)
  cases c != 1 <;>simp
 | ⟨c,[f]⟩::[]=>
  simp only [Wy.fin_i,Wy.fin_k,tT,isU,qy,z73,Wy.fin_bn,Wy.fin_d];show (bif c != 1 then (true,false) else bif f.Exp==1 then bif f.At.Kind==2 then (true,true) else (true,f.At.Kind==3||f.At.Kind==4) else (true,false))=(true,c==1&&(f.Exp==1&&(f.At.Kind==2||f.At.Kind==3||f.At.Kind==4)))
  rw [show (c != 1)= !(c==1) from rfl]
  cases c==1 <;>cases f.Exp==1 <;>cases f.At.Kind==2 <;>simp
 | ⟨c,f::g::r⟩::[]=>
  simp only [Wy.fin_i,bne,zNr];show (bif !(c==1) then (true,false) else (true,false))=(true,c==1&&false)
  cases c==1 <;>rfl
 | t::u::r=>rw [Wy.fin_i,bne,zNr]; rfl
def isB:yB->Bool
 | [t]=>t.Cf==1&&zbmX (λf=>f.Exp==1&&decide (2<=f.At.Kind)) t.Fs
 | _=>false
theorem zFU (a:yB):zrt a=(true,isB a):=by
 unfold zrt zRK Wy.ix
 match a with
 | []=>rfl
 | ⟨c,[]⟩::[]=>
  show (bif c==1 then (true,false) else (true,false))=(true,c==1&&false)
  cases c==1 <;>rfl
 | ⟨c,[f]⟩::[]=>
  simp only [Wy.fin_i,Wy.fin_k,tT,qy,Wy.fin_bn,Wy.fin_d];show (bif c==1 then bif decide (2<=f.At.Kind) then (true,f.Exp==1) else (true,false) else (true,false))=(true,c==1&&(f.Exp==1&&decide (2<=f.At.Kind)))
  cases c==1 <;>cases f.Exp==1 <;>cases decide (2<=f.At.Kind) <;>simp
 | ⟨c,f::g::r⟩::[]=>
  rw [Wy.fin_i];show (bif true then (Wy.i true (Wy.i (c==1) (Wy.i true (Wy.i (Int.ofNat (f::g::r).length==1) _ (.k false)) .d) (.k false)) .d:Wy0 Bool).fin default else _)=(true,c==1&&false)
  simp only [Wy.fin_i,Wy.fin_k,zNr,q7,q9];cases c==1 <;>rfl
 | t::u::r=>rw [Wy.fin_i,zNr]; rfl
theorem zS4 (a b:Nat):decide (a>b)= !decide (a<=b):=by
 by_cases h:a<=b
 ·have:¬ a>b:=by omega
  simp [h,this]
 ·have:a>b:=by omega
  simp [h,this]
def zCB (t:Term):Bool:= !(decide (t.Fs.length>64)||t.Fs.any λf=>decide (f.Exp>64)||decide (f.At.Items.length>1024))
def zfN (a:yB):Bool:=decide (a.length<=512)&&decide (zbt a<=8)&&decide (zO a<=4096)&&a.all zCB
theorem zbgY (l:yC) (h:l.length<=1000000):zcD l=(true,l.any λf=>decide (f.Exp>64)||decide (f.At.Items.length>1024)):=by
 unfold zcD ziL
 have hw:zdD=zbf8 (λ(_:Unit) x=>zgs x):=by
  funext x y
  unfold zdD zjF zbf8 zbbs Wy.ix At.et;rw [Fc.eta2]
 have:zc1 l=IG (λ(_:Unit) x=>zgs x) (l.length+(Int.ofNat l.length).toNat +Int.toNat (0:Int)+(1:Nat)) () l:=by
  unfold zc1 zj6 zjx;rw [hw]; rfl
 exact zk5 (this.trans (zLF _ _ _ _ _ (by omega) (λx _=>by
  unfold zgs zy4;rw [Wy.fin_i,Wy.fin_k,Wy.fin_k];have e:decide (Int.ofNat x.At.Items.length>(1024:Int))=decide (x.At.Items.length>1024):=zjR _ 1024;rw [e];cases decide (x.Exp>64) <;>rfl) (by omega)))
theorem z91 {d:Nat} {a:yB} (h:zq d a) (hd:d<=100) (hs:zO a<=4611686018427387904):zlP a=(true,zfN a):=by
 obtain ⟨h1,h2⟩:a.length<=1000000/\∀ t∈a,t.Fs.length<=1000000:=by
  cases d with
  | zero=>exact h.elim
  | succ d=>exact ⟨h.1,λt ht=>(h.2 t ht).1⟩
 have h3:zct a=(true,a.any λt=> !zCB t):=by
  unfold zct ziz;have:zdY a=IG (λ(_:Unit) x=>zle x) (a.length+(Int.ofNat a.length).toNat +Int.toNat (0:Int)+(1:Nat)) () a:=rfl
  exact zk5 (this.trans (zLF _ _ _ _ _ (by omega) (λx hx=>by
   unfold zle zCa;rw [Wy.fin_i,Wy.fin_k,Wy.fin_bn,zbgY _ (h2 x hx)];have e:decide (Int.ofNat x.Fs.length>(64:Int))=decide (x.Fs.length>64):=zjR _ 64;rw [e];unfold zCB;cases decide (x.Fs.length>64) <;>simp [Wy.fin_k]) (by omega)))
 unfold zlP zGQ;have n1:zzr a=(true,(zbt a:Int)):=(z8o 1000 d a h (by omega) hd).1
 have n2:zEU a=(true,(zO a:Int)):=(z4h 1000 d a h (by omega) hs).1
 simp only [Wy.fin_i,Wy.fin_k,Wy.fin_bn,n1,n2,h3,q7];have e1:decide (Int.ofNat a.length>(512:Int))= !decide (a.length<=512):=by rw [show decide (Int.ofNat a.length>(512:Int))=decide (a.length>512) from zjR _ 512]; exact zS4 _ _
 have e2:decide ((zbt a:Int)>(8:Int))= !decide (zbt a<=8):=by rw [show decide ((zbt a:Int)>(8:Int))=decide (zbt a>8) from zjR _ 8]; exact zS4 _ _
 have e3:decide ((zO a:Int)>(4096:Int))= !decide (zO a<=4096):=by rw [show decide ((zO a:Int)>(4096:Int))=decide (zO a>4096) from zjR _ 4096]; exact zS4 _ _
 have e4:(a.any λt=> !zCB t)= !a.all zCB:=by simp [q21]
 rw [e1,e2,e3,e4];unfold zfN;cases decide (a.length<=512) <;>cases decide (zbt a<=8) <;>cases decide (zO a<=4096) <;>simp
theorem zbm9 (a:yB) (i:Nat) (hi:i<a.length) (hl:(a.getD i default).Fs.length<=1000000) (fuel:Nat) (hf:(a.getD i default).Fs.length<fuel):
  zVR fuel a i 0=(true,bif (a.getD i default).Fs.any λf=>decide (f.Exp>64)||decide (f.At.Items.length>1024) then .inl false else .inr (a,(i:Int))):=by
 have:=zcs (W:=zJ8) (z:=.inl default) (a.getD i default).Fs.length (λk=>(a,(i:Int),(k:Int),())) (λ_=>()) (λk=>(λf:Fc=> !(decide (f.Exp>64)||decide (f.At.Items.length>1024))) ((a.getD i default).Fs.getD k default)) (.inl false) (.inr (a,(i:Int)))
  (λk hk H K D=>by
   show (zxY a i k).ev H K D=_;unfold zxY Wy.ix;simp only [Wy.ev_i,Wy.ev_k,Wy.ev_h,Wy.ev_bn,Wy.ev_d,tT,hi,hk];rw [zu (by omega),show decide ((((a.getD i default).Fs.getD k default).At.Items.length:Int)>(1024:Int))=_ from zjR _ 1024]
   cases decide (((a.getD i default).Fs.getD k default).Exp>64) <;>cases decide (1024<((a.getD i default).Fs.getD k default).At.Items.length) <;>rfl)
  (λH K D=>by
   show (zxY a i (a.getD i default).Fs.length).ev H K D=_;unfold zxY Wy.ix;simp only [Wy.ev_i,Wy.ev_k,Wy.ev_h,Wy.ev_bn,Wy.ev_d,tT,hi,qr]) fuel hf
 rw [zz3 (λf:Fc=> !(decide (f.Exp>64)||decide (f.At.Items.length>1024)))] at this
 have e:((a.getD i default).Fs.all λf=> !(decide (f.Exp>64)||decide (f.At.Items.length>1024)))= !((a.getD i default).Fs.any λf=>decide (f.Exp>64)||decide (f.At.Items.length>1024)):=by simp [q21]
 rw [e] at this;refine this.trans ?_;cases (a.getD i default).Fs.any λf=>decide (f.Exp>64)||decide (f.At.Items.length>1024) <;>rfl
theorem zbe8 {d:Nat} {a:yB} (h:zq d a) (hd:d<=100) (hs:zO a<=4611686018427387904):zAC a=(true,zfN a):=by
 obtain ⟨h1,h2⟩:a.length<=1000000/\∀ t∈a,t.Fs.length<=1000000:=by
  cases d with
  | zero=>exact h.elim
  | succ d=>exact ⟨h.1,λt ht=>(h.2 t ht).1⟩
 have h3:zVH ((a.length+Int.toNat (0:Int)+(1:Nat))+zbP a) a 0=(true,bif a.all zCB then .inr () else .inl false):=by
  have:=zcs (W:=zKa) (z:=.inl default) a.length (λk=>(a,(k:Int),())) (λ_=>()) (λk=>zCB (a.getD k default)) (.inl false) (.inr ())
   (λk hk H K D=>by
    show (zxT a k).ev H K D=_;unfold zxT Wy.ix;have h4:=h2 _ (zm hk);have h5:=zN9 a k hk;simp only [Wy.ev_i,Wy.ev_k,Wy.ev_h,Wy.ev_bn,Wy.ev_d,tT,hk];rw [zbm9 a k hk h4 _ (by omega)]
    have e:decide (((a.getD k default).Fs.length:Int)>(64:Int))=decide ((a.getD k default).Fs.length>64):=zjR _ 64;rw [e];unfold zCB;cases decide ((a.getD k default).Fs.length>64) <;>cases ((a.getD k default).Fs.any λf=>decide (f.Exp>64)||decide (f.At.Items.length>1024))
    ·simp only [q9,q7,isL,getR]; rw [zu (by omega)]; rfl
    all_goals rfl)
   (λH K D=>by
    show (zxT a a.length).ev H K D=_;unfold zxT Wy.ix;simp only [Wy.ev_i,Wy.ev_k,Wy.ev_h,Wy.ev_bn,Wy.ev_d,tT,qr]) ((a.length+Int.toNat (0:Int)+(1:Nat))+zbP a) (by omega)
  rw [zz3] at this;exact this
 unfold zAC zZJ;have n1:zKm a=(true,(zbt a:Int)):=(z8o 1000 d a h (by omega) hd).2
 have n2:zVg a=(true,(zO a:Int)):=(z4h 1000 d a h (by omega) hs).2
 simp only [Wy.fin_i,Wy.fin_k,Wy.fin_bn,n1,n2,h3,q7];have e1:decide (Int.ofNat a.length>(512:Int))= !decide (a.length<=512):=by rw [show decide (Int.ofNat a.length>(512:Int))=decide (a.length>512) from zjR _ 512]; exact zS4 _ _
 have e2:decide ((zbt a:Int)>(8:Int))= !decide (zbt a<=8):=by rw [show decide ((zbt a:Int)>(8:Int))=decide (zbt a>8) from zjR _ 8]; exact zS4 _ _
 have e3:decide ((zO a:Int)>(4096:Int))= !decide (zO a<=4096):=by rw [show decide ((zO a:Int)>(4096:Int))=decide (zO a>4096) from zjR _ 4096]; exact zS4 _ _
 rw [e1,e2,e3];unfold zfN;cases decide (a.length<=512) <;>cases decide (zbt a<=8) <;>cases decide (zO a<=4096) <;>cases a.all zCB <;>simp [isL,getL]
def zrF (v:Value):Bool:=(v.Kind==0&&v.Text.size==0)||(v.Kind==1&&v.Int==0&&decide (v.Text.size<=255))||(v.Kind==2&&v.Text.size==0&&(v.Int==0||v.Int==1))
theorem zbdQ (s:ByteArray):(s.toList==(ByteArray.mk #[]).toList)=(s.size==0):=by
 rw [zDV];by_cases h:s.size=0
 ·have:s=ByteArray.mk #[]:=zJy (by
   have:s.data.toList.length=0:=by simpa using h
   rw [q29.1 this])
  subst this; rfl
 ·have:¬ s=ByteArray.mk #[]:=λe=>h (by rw [e]; rfl)
  simp [h,this]
theorem zAD (v:Value):zqA v=(true,zrF v):=by
 unfold zqA zVK zrF;simp only [zbdQ,Wy.fin_i,Wy.fin_k,zfi,z3g];have e:decide (Int.ofNat v.Text.size<=(255:Int))=decide (v.Text.size<=255):=zud _ 255;rw [e];by_cases h0:v.Kind=0
 ·simp [h0]
 ·by_cases h1:v.Kind=1
  ·by_cases h2:v.Int=0 <;>simp [h1,h2]
  ·by_cases h2:v.Kind=2
   ·by_cases h3:v.Int=0
    ·simp [h2,h3]
    ·by_cases h4:v.Int=1 <;>simp [h2,h3,h4]
   ·simp [h0,h1,h2]
theorem zG0 (v:Value):zuu v=(true,zrF v):=by
 unfold zuu zVU zrF;simp only [zbdQ,Wy.fin_i,Wy.fin_k,zfi,z3g];have e:decide (Int.ofNat v.Text.size<=(255:Int))=decide (v.Text.size<=255):=zud _ 255;rw [e];by_cases h0:v.Kind=0
 ·simp [h0]
 ·by_cases h1:v.Kind=1
  ·by_cases h2:v.Int=0 <;>simp [h1,h2]
  ·by_cases h2:v.Kind=2
   ·by_cases h3:v.Int=0
    ·by_cases h4:v.Text.size=0 <;>simp [h2,h3,h4]
    ·by_cases h4:v.Text.size=0 <;>simp [h2,h3,h4]
   ·simp [h0,h1,h2]
def zNc (fn:Int) (b:Value) (w:Wd):Bool:=zrF w.Value&&(w.Value.Kind==b.Kind)&& !(fn==0&&w.Value.Int != 1)
def zyw (fn:Int) (l:yD) (op:Int) (b:Value):Bool:=decide (0<=fn)&&decide (fn<=3)&&decide (5<=op)&&decide (op<=10)&&zrF b&& !(decide (fn<=1)&&b.Kind != 0)&&l.all (zNc fn b)
theorem zbjD (l:yD) (fn:Int) (b:Value) (h:l.length<=1000000):zbB l b fn=(true, !l.all (zNc fn b)):=by
 unfold zbB zhp;have:zdq l b fn=IG (λ(g:Value×(Int×Unit)×Unit) x=>zhZ x g.1 g.2.1.1) (l.length+fn.toNat +(Int.ofNat l.length).toNat +Int.toNat (0:Int)+(1:Nat)) (b,(fn,()),()) l:=rfl
 have e:(!l.all (zNc fn b))=l.any λw=> !zNc fn b w:=by simp [q21]
 rw [e]
 exact zk5 (this.trans (zLF _ _ _ _ _ (by omega) (λx _=>by
  show zhZ x b fn=_;unfold zhZ zBd zNc;simp only [Wy.fin_i,Wy.fin_k,Wy.fin_bn,zAD,q7,zfi,zj1];cases zrF x.Value <;>by_cases h1:x.Value.Kind=b.Kind <;>by_cases h2:fn=0 <;>simp [zfi,zj1,h1,h2]) (by omega)))
theorem z5p (fn:Int) (l:yD) (op:Int) (b:Value) (h:l.length<=1000000):zkr fn l op b=(true,zyw fn l op b):=by
 unfold zkr zEN zyw;simp only [Wy.fin_i,Wy.fin_k,Wy.fin_bn,zAD,zbjD l fn b h,q7,zfi,zj1];by_cases h1:fn<0
 ·have:¬ (0<=fn):=by omega
  simp [h1,this]
 by_cases h2:3<fn
 ·have:¬ (fn<=3):=by omega
  simp [h1,h2,this]
 by_cases h3:op<5
 ·have:¬ (5<=op):=by omega
  simp [h1,h2,h3,this]
 by_cases h4:10<op
 ·have:¬ (op<=10):=by omega
  simp [h1,h2,h3,h4,this]
 have g1:0<=fn:=by omega
 have g2:fn<=3:=by omega
 have g3:5<=op:=by omega
 have g4:op<=10:=by omega
 cases zrF b with
 | false=>simp [h1,h2,h3,h4]
 | true=>
  by_cases h5:fn=0
  ·subst h5; by_cases h6:b.Kind=0 <;>simp [h3,h4,h6,g3,g4]
  ·by_cases h7:fn=1
   ·subst h7; by_cases h6:b.Kind=0 <;>simp [h3,h4,h6,g3,g4]
   ·have:¬ fn<=1:=by omega
    simp [h1,h2,h3,h4,h5,h7,this,g1,g2,g3,g4]
theorem zbcH (fn:Int) (l:yD) (op:Int) (b:Value) (h:l.length<=1000000):zyl fn l op b=(true,zyw fn l op b):=by
 unfold zyl zVt zyw
 have hl:zG8 (fn.toNat +l.length+Int.toNat (0:Int)+(1:Nat)) fn l (0:Int) b=(true,bif l.all (zNc fn b) then .inr () else .inl false):=by
  have:=zcs (W:=zHn) (z:=.inl default) l.length (λk=>(fn,l,(),(k:Int),())) (λ_=>(b,())) (λk=>zNc fn b (l.getD k default)) (.inl false) (.inr ())
   (λk hk H K D=>by
    show (zvJ fn l k b).ev H K D=_;unfold zvJ zNc Wy.ix;simp only [Wy.ev_i,Wy.ev_k,Wy.ev_h,Wy.ev_bn,Wy.ev_d,tT,hk,zG0,zfi,zj1];rw [zu (by omega)]
    cases zrF (l.getD k default).Value <;>cases decide ((l.getD k default).Value.Kind=b.Kind) <;>cases decide (fn=0) <;>cases decide ((l.getD k default).Value.Int=1) <;>rfl)
   (λH K D=>by
    show (zvJ fn l l.length b).ev H K D=_;unfold zvJ Wy.ix;simp only [Wy.ev_i,Wy.ev_k,Wy.ev_h,Wy.ev_bn,Wy.ev_d,tT,qr]) (fn.toNat +l.length+Int.toNat (0:Int)+(1:Nat)) (by omega)
  rw [zz3] at this;exact this
 simp only [Wy.fin_i,Wy.fin_k,Wy.fin_bn,zG0,hl,q7,zfi,zj1];by_cases h1:fn<0
 ·have:¬ (0<=fn):=by omega
  simp [h1,this]
 by_cases h2:3<fn
 ·have:¬ (fn<=3):=by omega
  simp [h1,h2,this]
 by_cases h3:op<5
 ·have:¬ (5<=op):=by omega
  simp [h1,h2,h3,this]
 by_cases h4:10<op
 ·have:¬ (op<=10):=by omega
  simp [h1,h2,h3,h4,this]
 have g1:0<=fn:=by omega
 have g2:fn<=3:=by omega
 have g3:5<=op:=by omega
 have g4:op<=10:=by omega
 cases zrF b with
 | false=>simp [h1,h2,h3,h4]
 | true=>
  by_cases h5:fn<=1
  ·by_cases h6:b.Kind=0
   ·cases l.all (zNc fn b) <;>simp [h1,h2,h3,h4,h5,h6,g1,g2,g3,g4,isL,getL]
   ·simp [h1,h2,h3,h4,h5,h6,g1,g2,g3,g4]
  ·cases l.all (zNc fn b) <;>simp [h1,h2,h3,h4,h5,g1,g2,g3,g4,isL,getL]
def bz (b:Value):Bool:=b.Kind==(0:Int)&&(b.Int==(0:Int)&&(b.Text.toList==(ByteArray.mk #[]).toList&&true))
def plA (x:At):Bool:=x.Func==0&&(x.Items.length==0)&&x.Op==0&&bz x.Bd
theorem zbi6 (x:At):zqv x=(true,plA x):=by
 unfold zqv zVQ plA;simp only [Wy.fin_i,Wy.fin_k,qw,i0];show _=(true,_&&_&&_&&bz x.Bd);rw [show (x.Bd.Kind==(0:Int)&&(x.Bd.Int==(0:Int)&&(x.Bd.Text.toList==(ByteArray.mk #[]).toList&&true)))=bz x.Bd from rfl]
 cases x.Func==0 <;>cases x.Items.length==0 <;>cases x.Op==0 <;>rfl
def zVp (l:yD) (k:Nat):Bool:=decide (k=0)||decide (zbe (zbf (l.getD (k - 1) default)) (zbf (l.getD k default))<=0)
def z0o (l:yD):Bool:=zd5 (zVp l) l.length 0
theorem zYT (c:Nat->Bool):∀ n i,zd5 c (n+1) i=(zd5 c n i&&c (i+n))
 | 0,i=>by simp [zd5]
 | n+1,i=>by
  rw [zd5,zYT c n (i+1),zd5,show i+1+n=i+(n+1) by omega,Bool.and_assoc]
theorem zVz {d:Nat} (l:yD) (hl:l.length<=1000000) (h:∀ w∈l,zq d w.Ann) (hd:d<=99):∀ (n i:Nat),i<l.length->i<n->zeF n l i=(true,bif zd5 (zVp l) (i+1) 0 then .inr () else .inl false)
 | 0,i,hi,hn=>by omega
 | n+1,i,hi,hn=>by
  show (zeE l i).ev (λx y=>zeF n x.1 x.2.2.1) (λr=>(true,r)) (false,.inl default)=_
  unfold zeE Wy.ix;have hg:decide ((i:Int)>(0:Int))=decide (0<i):=zjR i 0;cases i with
  | zero=>simp [Wy.ev_i,Wy.ev_k,zd5,zVp]
  | succ i=>
   have hi':i<l.length:=by omega
   have hw:IntKind.i64.wrap (((i+1:Nat):Int) - 1)=(i:Int):=by rw [zAe (by omega) (by omega)]; rfl
   have hp:decide (0<i+1)=true:=by simp
   simp only [Wy.ev_i,Wy.ev_k,Wy.ev_h,Wy.ev_bn,Wy.ev_d,hg,hp,hw,tT,hi,hi',zkf (h _ (zm hi)) hd];rw [zVz l hl h hd n i hi' (by omega),zYT _ (i+1),q1s]
   have:zVp l (i+1)= !decide (zbe (zbf (l.getD (i+1) default)) (zbf (l.getD i default))<0):=by
    unfold zVp;rw [show i+1 - 1=i from rfl,zgm (zbf (l.getD (i+1) default)) (zbf (l.getD i default))]
    generalize zbe (zbf (l.getD (i+1) default)) (zbf (l.getD i default))=z;by_cases hz:z<0
    ·have:¬ (-z<=0):=by omega
     simp [hz,this]
    ·have:(-z<=0):=by omega
     simp [hz,this]
   rw [this];cases decide (zbe (zbf (l.getD (i+1) default)) (zbf (l.getD i default))<0) <;>simp
theorem zbeR {d:Nat} (l:yD) (hl:l.length<=1000000) (h:∀ w∈l,zq d w.Ann) (hd:d<=99):zcu l=(true,z0o l):=by
 unfold zcu ziv z0o
 match l,hl,h with
 | [],_,_=>rfl
 | x::r,hl,h=>
  have hw:IntKind.i64.wrap (Int.ofNat (x::r).length - 1)=(r.length:Int):=by
   rw [qc] at hl;rw [show Int.ofNat (x::r).length=(((x::r).length:Nat):Int) from rfl,zAe (by simp) (by simp; omega)]; rfl
  rw [Wy.fin_bn,hw,zVz (x::r) hl h hd _ r.length (by simp) (by simp; omega)]
  cases zd5 (zVp (x::r)) (r.length+1) 0 with
  | true=>simp [Wy.fin_i,Wy.fin_k,isL]
  | false=>simp [Wy.fin_i,Wy.fin_k,isL,getL]
section
variable {τ:Type} [Inhabited τ]
theorem zbbM (A B:List τ) (x:τ):(A++x::B).getD A.length default=x:=by
 rw [qi,q1u (qn _)]; simp
theorem zbc4 (A B:List τ) (x y:τ):(A++x::B).set A.length y=A++y::B:=by
 rw [List.set_append_right _ _ (qn _)]; simp
theorem zbkr (A B C:List τ) (x y:τ):(A++x::(B++y::C)).getD (A.length+1+B.length) default=y:=by
 have:=zbbM (A++x::B) C y;rw [qf,qc,show A.length+(B.length+1)=A.length+1+B.length by omega,qu,qo] at this
 exact this
theorem zbkZ (A B C:List τ) (x y z:τ):(A++x::(B++y::C)).set (A.length+1+B.length) z=A++x::(B++z::C):=by
 have:=zbc4 (A++x::B) C y z;rw [qf,qc,show A.length+(B.length+1)=A.length+1+B.length by omega,qu,qo,qu,qo] at this
 exact this
end
end Go.Proofs.YtoknknbmfmddbaaGreatDoor
end
