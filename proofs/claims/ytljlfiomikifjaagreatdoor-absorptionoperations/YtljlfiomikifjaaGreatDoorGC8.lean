/- Texts of this claim, joined (the program, its functions in plain words, and what they compute). -/
import Derived.Test.YtljlfiomikifjaaGreatDoorGC7
set_option autoImplicit false
set_option linter.unusedVariables false
set_option linter.unusedSectionVars false
set_option linter.unusedSimpArgs false
set_option maxRecDepth 1000000
set_option maxHeartbeats 0
/- Nesting. -/
noncomputable section
namespace Go.Proofs.YtljlfiomikifjaaGreatDoor
open Go Go.Ab
mutual
def zom:At->Nat
 | ⟨k,_,a,_,i,_,_⟩=>if k=0 then 0 else 1+max (zm3 a) (zlq i)
def zcF:yD->Nat
 | []=>0
 | ⟨x,_⟩::r=>max (zom x) (zcF r)
def zbh:yC->Nat
 | []=>0
 | ⟨_,fs⟩::r=>max (zcF fs) (zbh r)
def zm3:yA->Nat
 | []=>0
 | a::r=>max (zbh a) (zm3 r)
def zlq:yE->Nat
 | []=>0
 | ⟨_,a⟩::r=>max (zbh a) (zlq r)
end
theorem zGI (x:At):zom x=if x.Kind=0 then 0 else 1+max (zm3 x.Ag) (zlq x.Items):=by cases x; rw [zom]
theorem zf0 (f:Fc) (r:yD):zcF (f::r)=max (zom f.At) (zcF r):=by cases f; rw [zcF]
theorem zex (t:Term) (r:yC):zbh (t::r)=max (zcF t.Fs) (zbh r):=by cases t; rw [zbh]
theorem zGq (a:yC) (r:yA):zm3 (a::r)=max (zbh a) (zm3 r):=by rw [zm3]
theorem zEk (w:Wd) (r:yE):zlq (w::r)=max (zbh w.Ann) (zlq r):=by cases w; rw [zlq]
theorem zS7:zm3 []=0:=by rw [zm3]
theorem zP9:zlq []=0:=by rw [zlq]
theorem zq0:zcF []=0:=by rw [zcF]
theorem zCL:zbh []=0:=by rw [zbh]
theorem zbhs (l:yA):∀ n:Nat,l.foldl (λs t=>max s (zbh t)) n=max n (zm3 l):=by
 induction l with
 | nil=>intro n; rw [zS7]; exact (Nat.max_zero n).symm
 | cons a r ih=>intro n; rw [List.foldl_cons,ih,zGq]; omega
theorem zbfH (l:yE):∀ n:Nat,l.foldl (λs t=>max s (zbh t.Ann)) n=max n (zlq l):=by
 induction l with
 | nil=>intro n; rw [zP9]; exact (Nat.max_zero n).symm
 | cons a r ih=>intro n; rw [List.foldl_cons,ih,zEk]; omega
theorem zbfG (l:yA):∀ n:Nat,l.foldl (λs t=>max s (1+zbh t)) (1+n)=1+max n (zm3 l):=by
 induction l with
 | nil=>intro n; rw [zS7]; simp
 | cons a r ih=>intro n; rw [List.foldl_cons,show max (1+n) (1+zbh a)=1+max n (zbh a) by omega,ih,zGq]; omega
theorem zbeb (l:yE):∀ n:Nat,l.foldl (λs t=>max s (1+zbh t.Ann)) (1+n)=1+max n (zlq l):=by
 induction l with
 | nil=>intro n; rw [zP9]; simp
 | cons a r ih=>intro n; rw [List.foldl_cons,show max (1+n) (1+zbh a.Ann)=1+max n (zbh a.Ann) by omega,ih,zEk]; omega
theorem zX3 (l:yD):∀ n:Nat,l.foldl (λs t=>max s (zom t.At)) n=max n (zcF l):=by
 induction l with
 | nil=>intro n; rw [zq0]; exact (Nat.max_zero n).symm
 | cons a r ih=>intro n; rw [List.foldl_cons,ih,zf0]; omega
theorem zbbK (l:yC):∀ n:Nat,l.foldl (λs t=>max s (zcF t.Fs)) n=max n (zbh l):=by
 induction l with
 | nil=>intro n; rw [zCL]; exact (Nat.max_zero n).symm
 | cons a r ih=>intro n; rw [List.foldl_cons,ih,zex]; omega
theorem z2N (a b:Nat):(if (a:Int)>(b:Int) then (a:Int) else (b:Int))=((max b a:Nat):Int):=by split <;>omega
theorem z8v {d:Nat}:∀ l:yA,(∀ y∈l,zbh y<=d)->zm3 l<=d:=λl=>by
 induction l with
 | nil=>intro _; rw [zS7]; omega
 | cons y r ih=>intro hy; rw [zGq]; have h1:=hy y (by simp); have h2:=ih λz hz=>hy z (by simp [hz]); omega
theorem z49 {d:Nat}:∀ l:yE,(∀ y∈l,zbh y.Ann<=d)->zlq l<=d:=λl=>by
 induction l with
 | nil=>intro _; rw [zP9]; omega
 | cons y r ih=>intro hy; rw [zEk]; have h1:=hy y (by simp); have h2:=ih λz hz=>hy z (by simp [hz]); omega
theorem zbcB {d:Nat}:∀ l:yD,(∀ y∈l,zom y.At<=d)->zcF l<=d:=λl=>by
 induction l with
 | nil=>intro _; rw [zq0]; omega
 | cons y r ih=>intro hy; rw [zf0]; have h1:=hy y (by simp); have h2:=ih λz hz=>hy z (by simp [hz]); omega
theorem zbiD {d:Nat}:∀ l:yC,(∀ y∈l,zcF y.Fs<=d)->zbh l<=d:=λl=>by
 induction l with
 | nil=>intro _; rw [zCL]; omega
 | cons y r ih=>intro hy; rw [zex]; have h1:=hy y (by simp); have h2:=ih λz hz=>hy z (by simp [hz]); omega
theorem zW3:∀ (d:Nat) (a:yC),zm d a->zbh a<=d
 | 0,a,h=>h.elim
 | d+1,a,h=>zbiD a λt ht=>zbcB _ λf hf=>by
  obtain ⟨_,h2⟩:=zTj h ht;obtain ⟨_,h4,h5⟩:=h2 f hf;have q1:=z8v f.At.Ag λy hy=>zW3 d y (h4 y hy)
  have q2:=z49 f.At.Items λy hy=>zW3 d y.Ann (h5 y hy)
  rw [zGI]; split <;>omega
section
variable (g:yC->Bool×Int)
theorem zbmW (l:yA) (hl:l.length<=1000000) (hg:∀ y∈l,g y=(true,(zbh y:Int))) (nn:Int) (t13:yC) (t14 t15:Int) (t20:yD) (t21 t22:Int) (f:Fc) (fuel n:Nat) (hf:l.length<fuel):
  zBQ g fuel nn n t13 t14 t15 t20 t21 t22 l l.length 0 f=(true,(nn,((max n (zm3 l):Nat):Int),t13,t14,t15,t20,t21,t22,f)):=by
 have h:=zc8 (W:=zrx g) (z:=default) (l:=l) (λi (n:Nat)=>(nn,(),(n:Int),t13,t14,t15,t20,t21,t22,l,(l.length:Int),(i:Int),())) (λ_ _=>(f,())) (λy n=>.inl (max n (zbh y))) (λn=>(nn,(n:Int),t13,t14,t15,t20,t21,t22,f)) (λi n=>True)
  (λi n hi hI=>.inl ⟨_,rfl,trivial,λH K D=>by
   show (zic g nn n t13 t14 t15 t20 t21 t22 l l.length i f).ev H K D=_;unfold zic;simp only [Wy.ev_i,Wy.ev_k,Wy.ev_h,Wy.ev_bn,Wy.ev_d,tT,hi,hg _ (zr hi),z2N];rw [zgU (by omega)]⟩)
  (λn hI H K D=>by
   show (zic g nn n t13 t14 t15 t20 t21 t22 l l.length l.length f).ev H K D=_;unfold zic;simp only [Wy.ev_i,Wy.ev_k,tT,Nat.lt_irrefl]) fuel 0 n (by omega) (Nat.zero_le _) trivial
 rw [List.drop_zero,zc9,zbhs] at h;exact h
theorem zbm0 (l:yE) (hl:l.length<=1000000) (hg:∀ y∈l,g y.Ann=(true,(zbh y.Ann:Int))) (nn:Int) (t13:yC) (t14 t15:Int) (t20:yD) (t21 t22:Int) (fuel n:Nat) (hf:l.length<fuel):
  zBz g fuel nn n t13 t14 t15 t20 t21 t22 l l.length 0=(true,(nn,((max n (zlq l):Nat):Int),t13,t14,t15,t20,t21,t22)):=by
 have h:=zc8 (W:=zsc g) (z:=default) (l:=l) (λi (n:Nat)=>(nn,(n:Int),t13,t14,t15,t20,t21,t22,l,(l.length:Int),(i:Int),())) (λ_ _=>()) (λy n=>.inl (max n (zbh y.Ann))) (λn=>(nn,(n:Int),t13,t14,t15,t20,t21,t22)) (λi n=>True)
  (λi n hi hI=>.inl ⟨_,rfl,trivial,λH K D=>by
   show (zh5 g nn n t13 t14 t15 t20 t21 t22 l l.length i).ev H K D=_;unfold zh5;simp only [Wy.ev_i,Wy.ev_k,Wy.ev_h,Wy.ev_bn,Wy.ev_d,tT,hi,hg _ (zr hi),z2N];rw [zgU (by omega)]⟩)
  (λn hI H K D=>by
   show (zh5 g nn n t13 t14 t15 t20 t21 t22 l l.length l.length).ev H K D=_;unfold zh5;simp only [Wy.ev_i,Wy.ev_k,tT,Nat.lt_irrefl]) fuel 0 n (by omega) (Nat.zero_le _) trivial
 rw [List.drop_zero,zc9,zbfH] at h;exact h
def zWm (x:At):Prop:=(x.Ag.length<=1000000/\x.Items.length<=1000000)/\(zom x<=1000/\(∀ y∈x.Ag,zbh y<=1000)/\∀ y∈x.Items,zbh y.Ann<=1000)/\(∀ y∈x.Ag,g y=(true,(zbh y:Int)))/\∀ y∈x.Items,g y.Ann=(true,(zbh y.Ann:Int))
theorem zbor (l:yD) (hl:l.length<=1000000) (hg:∀ f∈l,zWm g f.At) (t13:yC) (t14 t15:Int) (fuel n:Nat) (hf:l.length<fuel):
  zCZ g fuel n t13 t14 t15 l l.length 0=(true,(((max n (zcF l):Nat):Int),t13,t14,t15)):=by
 have h:=zc8 (W:=ztJ g) (z:=default) (l:=l) (λi (n:Nat)=>((n:Int),t13,t14,t15,l,(l.length:Int),(i:Int),())) (λ_ _=>()) (λy n=>.inl (max n (zom y.At))) (λn=>((n:Int),t13,t14,t15)) (λi n=>True)
  (λi n hi hI=>.inl ⟨_,rfl,trivial,λH K D=>by
   obtain ⟨⟨h1,h2⟩,⟨h5,_,_⟩,h3,h4⟩:=hg _ (zr hi);show (zi6 g n t13 t14 t15 l l.length i).ev H K D=_;unfold zi6;simp only [Wy.ev_i,Wy.ev_k,Wy.ev_h,Wy.ev_bn,Wy.ev_d,tT,hi,At.eta];generalize l.getD i default=f at *;rw [zGI] at h5 ⊢;by_cases hk:f.At.Kind=0
   ·have e:(f.At.Kind==0)=true:=by simp [hk]
    simp only [e,cond_true];rw [if_pos hk,Nat.max_zero,zgU (by omega)]
   ·have e:(f.At.Kind==0)=false:=by simp [hk]
    simp only [e,cond_false];rw [if_neg hk] at h5 ⊢;have q:=λfuel hf=>zbmW g _ h1 h3 n t13 t14 t15 l l.length i f fuel 0 hf
    rw [Nat.zero_max,show ((0:Nat):Int)=(0:Int) from rfl] at q
    rw [q _ (by omega)]
    simp only [cond_true,Int.toNat_natCast];rw [zbm0 g _ h2 h4 n t13 t14 t15 l l.length i _ _ (by omega)]
    simp only [cond_true];rw [zgU (by omega),show (1:Int)=((1:Nat):Int) from rfl,zoP (n:=1) (by omega),z2N]⟩)
  (λn hI H K D=>by
   show (zi6 g n t13 t14 t15 l l.length l.length).ev H K D=_;unfold zi6;simp only [Wy.ev_i,Wy.ev_k,tT,Nat.lt_irrefl]) fuel 0 n (by omega) (Nat.zero_le _) trivial
 rw [List.drop_zero,zc9,zX3] at h;exact h
theorem zbos (l:yC) (hl:l.length<=1000000) (hg:∀ t∈l,t.Fs.length<=1000000/\∀ f∈t.Fs,zWm g f.At) (fuel n:Nat) (hf:l.length<fuel):
  zC8 g fuel n l l.length 0=(true,((max n (zbh l):Nat):Int)):=by
 have h:=zc8 (W:=ztu g) (z:=default) (l:=l) (λi (n:Nat)=>((n:Int),l,(l.length:Int),(i:Int),())) (λ_ _=>()) (λy n=>.inl (max n (zcF y.Fs))) (λn=>(n:Int)) (λi n=>True)
  (λi n hi hI=>.inl ⟨_,rfl,trivial,λH K D=>by
   obtain ⟨h1,h3⟩:=hg _ (zr hi);show (zi4 g n l l.length i).ev H K D=_;unfold zi4;simp only [Wy.ev_i,Wy.ev_k,Wy.ev_h,Wy.ev_bn,Wy.ev_d,tT,hi,At.eta];rw [zbor g _ h1 h3 _ _ _ _ _ (by omega)]
   simp only [cond_true];rw [zgU (by omega)]⟩)
  (λn hI H K D=>by
   show (zi4 g n l l.length l.length).ev H K D=_;unfold zi4;simp only [Wy.ev_i,Wy.ev_k,tT,Nat.lt_irrefl]) fuel 0 n (by omega) (Nat.zero_le _) trivial
 rw [List.drop_zero,zc9,zbbK] at h;exact h
theorem zbmL (x:At) (hx:zWm g x) (a:yC) (most i k:Int) (fuel n:Nat) (hf:x.Ag.length<fuel):
  zz6 g fuel a most i k ((1+n:Nat):Int) 0 x=(true,(a,most,i,k,((1+max n (zm3 x.Ag):Nat):Int),x)):=by
 obtain ⟨⟨h1,h2⟩,⟨h5,h6,h7⟩,h3,h4⟩:=hx
 have h:=zc8 (W:=zz9 g) (z:=default) (l:=x.Ag) (λj (n:Nat)=>(a,most,i,k,(),(n:Int),(j:Int),())) (λ_ _=>(x,())) (λy n=>.inl (max n (1+zbh y))) (λn=>(a,most,i,k,(n:Int),x)) (λi n=>True)
  (λj n hi hI=>.inl ⟨_,rfl,trivial,λH K D=>by
   have h8:=h6 _ (zr hi);show (zmE g a most i k n j x).ev H K D=_;unfold zmE;simp only [Wy.ev_i,Wy.ev_k,Wy.ev_h,Wy.ev_bn,Wy.ev_d,tT,hi,h3 _ (zr hi)];rw [zgU (by omega),show (1:Int)=((1:Nat):Int) from rfl,zoP (n:=1) (by omega),z2N]⟩)
  (λn hI H K D=>by
   show (zmE g a most i k n x.Ag.length x).ev H K D=_;unfold zmE;simp only [Wy.ev_i,Wy.ev_k,tT,Nat.lt_irrefl]) fuel 0 (1+n) (by omega) (Nat.zero_le _) trivial
 rw [List.drop_zero,zc9,zbfG] at h;exact h
theorem zblK (x:At) (hx:zWm g x) (a:yC) (most i k:Int) (fuel n:Nat) (hf:x.Items.length<fuel):
  zHY g fuel a most i k ((1+n:Nat):Int) 0 x=(true,(a,most,i,k,((1+max n (zlq x.Items):Nat):Int))):=by
 obtain ⟨⟨h1,h2⟩,⟨h5,h6,h7⟩,h3,h4⟩:=hx
 have h:=zc8 (W:=zz5 g) (z:=default) (l:=x.Items) (λj (n:Nat)=>(a,most,i,k,(),(n:Int),(j:Int),())) (λ_ _=>(x,())) (λy n=>.inl (max n (1+zbh y.Ann))) (λn=>(a,most,i,k,(n:Int))) (λi n=>True)
  (λj n hi hI=>.inl ⟨_,rfl,trivial,λH K D=>by
   have h8:=h7 _ (zr hi);show (zmU g a most i k n j x).ev H K D=_;unfold zmU;simp only [Wy.ev_i,Wy.ev_k,Wy.ev_h,Wy.ev_bn,Wy.ev_d,tT,hi,h4 _ (zr hi)];rw [zgU (by omega),show (1:Int)=((1:Nat):Int) from rfl,zoP (n:=1) (by omega),z2N]⟩)
  (λn hI H K D=>by
   show (zmU g a most i k n x.Items.length x).ev H K D=_;unfold zmU;simp only [Wy.ev_i,Wy.ev_k,tT,Nat.lt_irrefl]) fuel 0 (1+n) (by omega) (Nat.zero_le _) trivial
 rw [List.drop_zero,zc9,zbeb] at h;exact h
theorem RNes_12' (x:At) (hx:zWm g x) (a:yC) (most i k:Int) (fuel:Nat) (hf:x.Ag.length<fuel):zz6 g fuel a most i k 1 0 x=(true,(a,most,i,k,((1+zm3 x.Ag:Nat):Int),x)):=by
 have h:=zbmL g x hx a most i k fuel 0 hf;rw [Nat.zero_max] at h; exact h
theorem zbnW (a:yC) (i:Nat) (hi:i<a.length) (hla:a.length<=1000000) (l:yD) (el:(a.getD i default).Fs=l) (hl:l.length<=1000000) (hg:∀ f∈l,zWm g f.At) (fuel n:Nat) (hf:l.length<fuel):
  zK0 g fuel a n i 0=(true,(a,((max n (zcF l):Nat):Int),(i:Int))):=by
 have h:=zc8 (W:=zBr g) (z:=default) (l:=l) (λk (n:Nat)=>(a,(n:Int),(i:Int),(k:Int),())) (λ_ _=>()) (λy n=>.inl (max n (zom y.At))) (λn=>(a,(n:Int),(i:Int))) (λk n=>True)
  (λk n hk hI=>.inl ⟨_,rfl,trivial,λH K D=>by
   have hx:=hg _ (zr hk);have h5:=hx.2.1.1;show (zn9 g a n i k).ev H K D=_;unfold zn9;simp only [Wy.ev_i,Wy.ev_k,Wy.ev_h,Wy.ev_bn,Wy.ev_d,tT,hi,el,hk,At.eta];generalize l.getD k default=f at *;rw [zGI] at h5 ⊢;by_cases hz:f.At.Kind=0
   ·have e:(f.At.Kind==0)=true:=by simp [hz]
    simp only [e,cond_true];rw [if_pos hz,Nat.max_zero,zgU (by omega)]
   ·have e:(f.At.Kind==0)=false:=by simp [hz]
    have hx1:=hx.1;simp only [e,cond_false];rw [if_neg hz] at h5 ⊢;rw [RNes_12' g _ hx _ _ _ _ _ (by omega)]
    simp only [cond_true,Int.toNat_natCast,At.eta];rw [zblK g _ hx _ _ _ _ _ _ (by omega)]
    simp only [cond_true];rw [zgU (by omega),z2N]⟩)
  (λn hI H K D=>by
   show (zn9 g a n i l.length).ev H K D=_;unfold zn9;simp only [Wy.ev_i,Wy.ev_k,tT,hi,el,Nat.lt_irrefl]) fuel 0 n (by omega) (Nat.zero_le _) trivial
 rw [List.drop_zero,zc9,zX3] at h;exact h
theorem zbnj (l:yC) (hl:l.length<=1000000) (hg:∀ t∈l,t.Fs.length<=1000000/\∀ f∈t.Fs,zWm g f.At) (fuel n:Nat) (hf:l.length<fuel):
  zKn g fuel l n 0=(true,((max n (zbh l):Nat):Int)):=by
 have h:=zc8 (W:=zBu g) (z:=default) (l:=l) (λi (n:Nat)=>(l,(n:Int),(i:Int),())) (λ_ _=>()) (λy n=>.inl (max n (zcF y.Fs))) (λn=>(n:Int)) (λi n=>True)
  (λi n hi hI=>.inl ⟨_,rfl,trivial,λH K D=>by
   obtain ⟨h1,h3⟩:=hg _ (zr hi);have hz:=zP4 l i hi;show (znW g l n i).ev H K D=_;unfold znW;simp only [Wy.ev_i,Wy.ev_k,Wy.ev_h,Wy.ev_bn,Wy.ev_d,tT,hi,At.eta];rw [zbnW g l i hi hl _ rfl h1 h3 _ _ (by omega)]
   simp only [cond_true];rw [zgU (by omega)]⟩)
  (λn hI H K D=>by
   show (znW g l n l.length).ev H K D=_;unfold znW;simp only [Wy.ev_i,Wy.ev_k,tT,Nat.lt_irrefl]) fuel 0 n (by omega) (Nat.zero_le _) trivial
 rw [List.drop_zero,zc9,zbbK] at h;exact h
end
theorem zbaH:∀ (n d:Nat) (a:yC),zm d a->d<=n->d<=100->zgn n a=(true,(zbh a:Int))/\zll n a=(true,(zbh a:Int))
 | n,0,a,h,hd,hs=>h.elim
 | 0,d+1,a,h,hd,hs=>by omega
 | n+1,d+1,a,h,hd,hs=>by
  have hg:=λy (hy:zm d y)=>zbaH n d y hy (by omega) (by omega)
  have hsub:∀ t∈a,t.Fs.length<=1000000/\∀ f∈t.Fs,zWm (zgn n) f.At/\zWm (zll n) f.At:=λt ht=>by
   obtain ⟨h1,h2⟩:=zTj h ht;refine ⟨h1,λf hf=> ?_⟩
   obtain ⟨h3,h4,h5⟩:=h2 f hf;have q1:∀ y∈f.At.Ag,zbh y<=d:=λy hy=>zW3 d y (h4 y hy)
   have q2:∀ y∈f.At.Items,zbh y.Ann<=d:=λy hy=>zW3 d y.Ann (h5 y hy)
   have q3:zom f.At<=1000:=by
    have r1:=z8v _ q1; have r2:=z49 _ q2;rw [zGI]; split <;>omega
   have q4:zom f.At<=1000/\(∀ y∈f.At.Ag,zbh y<=1000)/\∀ y∈f.At.Items,zbh y.Ann<=1000:=⟨q3,λy hy=>by have:=q1 y hy; omega,λy hy=>by have:=q2 y hy; omega⟩
   exact ⟨⟨h3,q4,λy hy=>(hg y (h4 y hy)).1,λy hy=>(hg _ (h5 y hy)).1⟩,⟨h3,q4,λy hy=>(hg y (h4 y hy)).2,λy hy=>(hg _ (h5 y hy)).2⟩⟩
  constructor
  ·rw [zQO];unfold zpW zDW;have h1:=zbos (zgn n) a h.1 (λt ht=>⟨(hsub t ht).1,λf hf=>((hsub t ht).2 f hf).1⟩) (Int.toNat 0+a.length+(Int.ofNat a.length).toNat +Int.toNat 0+1) 0 (by omega)
   rw [show ((0:Nat):Int)=(0:Int) from rfl,Nat.zero_max] at h1
   rw [Wy.fin_bn,show Int.ofNat a.length=(a.length:Int) from rfl] at *
   rw [h1]; rfl
  ·rw [z0n];unfold zAI zME;have h1:=zbnj (zll n) a h.1 (λt ht=>⟨(hsub t ht).1,λf hf=>((hsub t ht).2 f hf).2⟩) (a.length+Int.toNat 0+Int.toNat 0+1+zbV a) 0 (by omega)
   rw [show ((0:Nat):Int)=(0:Int) from rfl,Nat.zero_max] at h1
   rw [Wy.fin_bn,h1]; rfl
theorem zBL (x y:Int):zd5 x y=(true,zd3 x y):=by
 unfold zd5 zM0 ztN zRq zd3;by_cases h1:x<y
 ·simp [h1,Wy.fin_i,Wy.fin_k]
 ·by_cases h2:y<x <;>simp [h1,h2,Wy.fin_i,Wy.fin_k]
theorem zyw (x y:Int):zjn x y=(true,zd3 x y):=by
 unfold zjn zH0 zoy zMY zd3;by_cases h1:x<y
 ·simp [h1,Wy.fin_i,Wy.fin_k]
 ·by_cases h2:y<x <;>simp [h1,h2,Wy.fin_i,Wy.fin_k]
def zwV:List Int->Int
 | []=>0
 | x::r=>if x=0 then zwV r else x
theorem zbhc (l:List Int) (hl:l.length<=1000000):∀ (n i:Nat),l.length<i+n->i<=l.length->∃ r,zMb n 0 l l.length i=(true,r)/\(r=.inl (zwV (l.drop i))\/(r=.inr 0/\zwV (l.drop i)=0))
 | 0,i,h,h2=>by omega
 | n+1,i,h,h2=>by
  show ∃ r,(zLo 0 l l.length i).ev (λx y=>zMb n x.1 x.2.1 x.2.2.1 x.2.2.2.1) (λr=>(true,r)) (false,.inl default)=(true,r)/\_
  unfold zLo;by_cases hi:i<l.length
  ·simp only [Wy.ev_i,Wy.ev_k,Wy.ev_h,Int.ofNat_eq_natCast,zDV,zfq,decide_true,decide_false,Bool.and_self,Bool.true_and,Bool.and_true,cond_true,cond_false,Int.toNat_natCast,Bool.not_true,Bool.not_false,hi];obtain ⟨r,h1,h3⟩:=zbhc l hl n (i+1) (by omega) (by omega)
   rw [zbx hi,zN (by omega),h1]
   generalize l.getD i default=x;by_cases hx:x=0
   ·have e:(x != 0)=false:=by simp [hx]
    simp only [e,cond_false,zwV,hx,if_true];exact ⟨r,rfl,h3⟩
   ·have e:(x != 0)=true:=by simp [hx]
    simp only [e,cond_true,zwV,hx,if_false];exact ⟨_,rfl,.inl rfl⟩
  ·simp only [Wy.ev_i,Wy.ev_k,Wy.ev_h,Int.ofNat_eq_natCast,zDV,zfq,decide_true,decide_false,Bool.and_self,Bool.true_and,Bool.and_true,cond_true,cond_false,Int.toNat_natCast,Bool.not_true,Bool.not_false,hi,zcO hi];exact ⟨_,rfl,.inr ⟨rfl,rfl⟩⟩
theorem zzG (l:List Int) (hl:l.length<=1000000):znm l=(true,zwV l):=by
 unfold znm z16;obtain ⟨r,h1,h2⟩:=zbhc l hl (Int.toNat 0+l.length+(Int.ofNat l.length).toNat +Int.toNat 0+1) 0 (by simp; omega) (by omega)
 rw [show ((0:Nat):Int)=(0:Int) from rfl] at h1
 rw [Wy.fin_bn,show Int.ofNat l.length=(l.length:Int) from rfl] at *
 rw [h1];rw [List.drop_zero] at h2;rcases h2 with rfl | ⟨rfl,h2⟩
 ·rfl
 ·rw [h2]; rfl
section
variable {α:Type}
def zAv (c:α->α->Int):List α->List α->Int
 | [],[]=>0
 | [],_::_=> -1
 | _::_,[]=>1
 | x::a,y::b=>if c x y=0 then zAv c a b else c x y
theorem zRj (e:α->TT) {c:α->α->Int}:∀ (a b:List α),(∀ x∈a,∀ y∈b,c x y=zba (e x) (e y))->zAv c a b=zbK (a.map e) (b.map e)
 | [],[],_=>by simp only [zAv,List.map,zbK]
 | [],_::_,_=>by simp only [zAv,List.map,zbK]
 | _::_,[],_=>by simp only [zAv,List.map,zbK]
 | x::a,y::b,h=>by
  simp only [zAv,List.map,zbK];rw [h x (by simp) y (by simp),zRj e a b λx hx y hy=>h x (by simp [hx]) y (by simp [hy])]
variable [Inhabited α]
def zbdr (g:α->α->Bool×Int) (s1:List α) (s2:List α) (t11:List α) (t12:Int) (t13:Int):Wy (List α×List α×Unit×List α×Int×Int×Unit) Unit (Int⊕(List α×List α)):=.i (decide (t13<t12)) (.i (decide ((0:Int)<=t13)&&decide (t13<Int.ofNat t11.length)) (.i (decide (t13≥Int.ofNat s2.length)) (.k (.inl (1:Int))) (.i (decide ((0:Int)<=t13)&&decide (t13<Int.ofNat s2.length)) (.bn (g (t11.getD t13.toNat default) (s2.getD t13.toNat default)) λr0=>.i (r0 != (0:Int)) (.k (.inl (r0))) (.h (s1,s2,(),t11,t12,(IntKind.i64.wrap (t13+(1:Int))),()) ())) .d)) .d) (.k (.inr (s1,s2)))
def zbiv (g:α->α->Bool×Int) (x:List α×List α×Unit×List α×Int×Int×Unit) (y:Unit):Wy (List α×List α×Unit×List α×Int×Int×Unit) Unit (Int⊕(List α×List α)):=zbdr g x.1 x.2.1 x.2.2.2.1 x.2.2.2.2.1 x.2.2.2.2.2.1
def zbhD (g:α->α->Bool×Int) (n:Nat) (s1:List α) (s2:List α) (t11:List α) (t12:Int) (t13:Int):Bool×(Int⊕(List α×List α)):=zy (zbiv g) (.inl default) n (s1,s2,(),t11,t12,t13,()) ()
def CF (g:α->α->Bool×Int) (s1 s2:List α):Bool×Int:=(.bn (zbhD g (s1.length+s2.length+s1.length+(Int.ofNat s1.length).toNat +Int.toNat (0:Int)+(1:Nat)) s1 s2 s1 (Int.ofNat s1.length) (0:Int)) λr2=>.i (isL r2) (.k (getL r2)) (.i (decide (Int.ofNat (getR r2).fst.length<Int.ofNat (getR r2).snd.length)) (.k (-1:Int)) (.k (0:Int))):Wy0 Int).fin default
theorem zbg3 (g:α->α->Bool×Int) (c:α->α->Int) (a b:List α) (ha:a.length<=1000000) (hg:∀ x∈a,∀ y∈b,g x y=(true,c x y)):∀ (n i:Nat),a.length<i+n->i<=a.length->i<=b.length->
  ∃ r,zbhD g n a b a a.length i=(true,r)/\((r=.inl (zAv c (a.drop i) (b.drop i)))\/(r=.inr (a,b)/\zAv c (a.drop i) (b.drop i)=if a.length<b.length then -1 else 0))
 | 0,i,h,h2,h3=>by omega
 | n+1,i,h,h2,h3=>by
  show ∃ r,(zbdr g a b a a.length i).ev (λx y=>zbhD g n x.1 x.2.1 x.2.2.2.1 x.2.2.2.2.1 x.2.2.2.2.2.1) (λr=>(true,r)) (false,.inl default)=(true,r)/\_
  unfold zbdr;by_cases hi:i<a.length
  ·by_cases hi':i<b.length
   ·have hg':¬ b.length<=i:=by omega
    simp only [Wy.ev_i,Wy.ev_k,Wy.ev_h,Wy.ev_bn,Wy.ev_d,Int.ofNat_eq_natCast,zDV,zfq,decide_true,decide_false,Bool.and_self,Bool.true_and,Bool.and_true,cond_true,cond_false,Int.toNat_natCast,Bool.not_true,Bool.not_false,hi,hi',zbjq,hg',hg _ (zr hi) _ (zr hi')];rw [zbx hi,zbx hi',zN (by omega)]
    simp only [zAv];generalize c (a.getD i default) (b.getD i default)=z;by_cases hx:z=0
    ·have e:(z != 0)=false:=by simp [hx]
     simp only [e,cond_false,hx,if_true];exact zbg3 g c a b ha hg n (i+1) (by omega) (by omega) (by omega)
    ·have e:(z != 0)=true:=by simp [hx]
     simp only [e,cond_true,hx,if_false];exact ⟨_,rfl,.inl rfl⟩
   ·have hg':b.length<=i:=by omega
    simp only [Wy.ev_i,Wy.ev_k,Wy.ev_h,Wy.ev_bn,Wy.ev_d,Int.ofNat_eq_natCast,zDV,zfq,decide_true,decide_false,Bool.and_self,Bool.true_and,Bool.and_true,cond_true,cond_false,Int.toNat_natCast,Bool.not_true,Bool.not_false,hi,zbjq,hg'];refine ⟨_,rfl,.inl ?_⟩;rw [zbx hi,zcO hi']; rfl
  ·simp only [Wy.ev_i,Wy.ev_k,Wy.ev_h,Wy.ev_bn,Wy.ev_d,Int.ofNat_eq_natCast,zDV,zfq,decide_true,decide_false,Bool.and_self,Bool.true_and,Bool.and_true,cond_true,cond_false,Int.toNat_natCast,Bool.not_true,Bool.not_false,hi];refine ⟨_,rfl,.inr ⟨rfl, ?_⟩⟩;rw [zcO hi];by_cases hi':i<b.length
   ·rw [zbx hi',if_pos (by omega)]; rfl
   ·rw [zcO hi',if_neg (by omega)]; rfl
theorem zbn4 (g:α->α->Bool×Int) (c:α->α->Int) (a b:List α) (ha:a.length<=1000000) (hg:∀ x∈a,∀ y∈b,g x y=(true,c x y)):CF g a b=(true,zAv c a b):=by
 unfold CF;obtain ⟨r,h1,h2⟩:=zbg3 g c a b ha hg (a.length+b.length+a.length+(Int.ofNat a.length).toNat +Int.toNat 0+1) 0 (by simp; omega) (by omega) (by omega)
 rw [show ((0:Nat):Int)=(0:Int) from rfl] at h1
 rw [Wy.fin_bn,show Int.ofNat a.length=(a.length:Int) from rfl] at *
 rw [h1];simp only [List.drop_zero] at h2;rcases h2 with rfl | ⟨rfl,h2⟩
 ·rfl
 ·rw [h2];simp only [Wy.fin_i,Wy.fin_k,Int.ofNat_eq_natCast,zDV,zfq,decide_true,decide_false,Bool.and_self,Bool.true_and,Bool.and_true,cond_true,cond_false,Int.toNat_natCast,Bool.not_true,Bool.not_false,isL,getR];by_cases h3:a.length<b.length <;>simp [h3]
end
theorem z26 {α:Type} [Inhabited α] (e:α->TT) (g:α->α->Bool×Int) (a b:List α) (ha:a.length<=1000000) (hg:∀ x∈a,∀ y∈b,g x y=(true,zba (e x) (e y))):CF g a b=(true,zbK (a.map e) (b.map e)):=by
 rw [zbn4 g (λx y=>zba (e x) (e y)) a b ha hg,zRj e a b λ_ _ _ _=>rfl]
theorem Fc.eta2 (x:Fc):(FO.mk (At.mk x.At.Kind x.At.Row x.At.Ag x.At.Func x.At.Items x.At.Op x.At.Bd) x.Exp:Fc)=x:=by rw [At.eta]
theorem zbjO (g):zb2 g=CF g:=rfl
theorem zbic (g):zbG g=CF g:=by
 have h:zb0 g=zbiv g:=by
  funext x y
  unfold zb0 zed zbiv zbdr;rw [Fc.eta2,Fc.eta2]
 funext a b
 unfold zbG zem zec;rw [h]; rfl
theorem zblG (g):zbB g=CF g:=rfl
theorem zbkn (g):zbQ g=CF g:=rfl
theorem zOT (a b:Value):ztO a b=(true,zba (trV a) (trV b)):=by
 unfold ztO zRR;have h:(strings_Compare a.Text b.Text).2=zba (trB a.Text) (trB b.Text):=by rw [<- zbgJ]; rfl
 simp only [zBL,zyw,Wy.fin_bn,cond_true,h];rw [zzG _ (by simp)]
 simp only [Wy.fin_k,cond_true,trV,zba,zbK,zwV];rfl
theorem zVf:∀ n,
  (∀ d a b,zm d a->10*d<=n->zgw n a b=(true,zbK (zcQ a) (zcQ b)))/\
  (∀ d a b,zm d a->10*d<=n+1->zb3 n a b=(true,zbK (zcQ a) (zcQ b)))/\
  (∀ d x y,zbO (zm d) x.Fs->10*d+10<=n+2->zi5 n x y=(true,zba (zt5 x) (zt5 y)))/\
  (∀ d x y,zbO (zm d) x.Fs->10*d+10<=n+3->zhn n x y=(true,zbK (zbD x.Fs) (zbD y.Fs)))/\
  (∀ d l l',zbO (zm d) l->10*d+10<=n+4->zb6 n l l'=(true,zbK (zbD l) (zbD l')))/\
  (∀ d x y,zc3 (zm d) x.At->10*d+10<=n+5->zge n x y=(true,zba (zig x) (zig y)))/\
  (∀ d x y,zc3 (zm d) x->10*d+10<=n+6->zhw n x y=(true,zba (zdm x) (zdm y)))/\
  (∀ d a b,a.length<=1000000->(∀ x∈a,zm d x)->10*d+10<=n+7->zbz n a b=(true,zbK (zy8 a) (zy8 b)))/\
  (∀ d a b,a.length<=1000000->(∀ x∈a,zm d x.Ann)->10*d+10<=n+7->zbR n a b=(true,zbK (zhC a) (zhC b)))/\
  (∀ d x y,zm d x.Ann->10*d+10<=n+8->zfk n x y=(true,zba (zbi x) (zbi y)))
 | 0=>by
  refine ⟨?_, ?_, ?_, ?_, ?_, ?_, ?_, ?_, ?_, ?_⟩
  ·intro d a b h hd; have:d=0:=by omega
   subst this; exact h.elim
  ·intro d a b h hd; have:d=0:=by omega
   subst this; exact h.elim
  all_goals (intros; omega)
 | n+1=>by
  obtain ⟨h1,h2,h3,h4,h5,h6,h7,h8,h9,h10⟩:=zVf n;refine ⟨?_, ?_, ?_, ?_, ?_, ?_, ?_, ?_, ?_, ?_⟩
  ·intro d a b h hd;rw [zQW];unfold zql zDQ;rw [Wy.fin_bn,h2 d a b h (by omega)]; rfl
  ·intro d a b h hd;cases d with
   | zero=>exact h.elim
   | succ d=>
    rw [zit,zbjO,zJT,zJT];exact z26 zt5 _ a b h.1 λx hx y hy=>h3 d x y (h.2 x hx) (by omega)
  ·intro d x y h hd;rw [zMc];unfold zmr zAT;rw [Wy.fin_bn,h4 d x y h (by omega)]
   simp only [cond_true,Wy.fin_bn,zyw];rw [zzG _ (by simp)]
   obtain ⟨c,l⟩:=x; obtain ⟨c',l'⟩:=y;simp only [cond_true,Wy.fin_k,zwV,zt5,zba,zbK];rfl
  ·intro d x y h hd;rw [zIQ];unfold zkT zxY;rw [Wy.fin_bn,h5 d _ _ h (by omega)]; rfl
  ·intro d l l' h hd;rw [zjh,zbic,zzH,zzH];exact z26 zig _ l l' h.1 λx hx y hy=>h6 d x y (h.2 x hx) (by omega)
  ·intro d x y h hd;rw [zGK];unfold zjL zvL;rw [At.eta,At.eta,Wy.fin_bn,h7 d _ _ h (by omega)]
   simp only [cond_true,Wy.fin_bn,zBL];rw [zzG _ (by simp)]
   obtain ⟨c,l⟩:=x; obtain ⟨c',l'⟩:=y;simp only [cond_true,Wy.fin_k,zwV,zig,zba,zbK];rfl
  ·intro d x y h hd;rw [zJm];unfold zkW zxZ;simp only [cond_true,Wy.fin_bn,zBL,zOT,h8 d x.Ag y.Ag h.1.1 h.2.1 (by omega),h9 d x.Items y.Items h.1.2.1 (λw hw=>(h.2.2 w hw).2) (by omega)]
   rw [zzG _ (by simp)]
   obtain ⟨k,r,a,f,i,o,v⟩:=x; obtain ⟨k',r',a',f',i',o',v'⟩:=y;simp only [cond_true,Wy.fin_k,zwV,zdm,zba,zbK];rfl
  ·intro d a b h0 h hd;rw [zfG,zblG,zGG,zGG];exact z26 (λx=>TT.l (zcQ x)) _ a b h0 λx hx y hy=>by rw [h1 d x y (h x hx) (by omega)]; simp only [zba]
  ·intro d a b h0 h hd;rw [zgV,zbkn,znl,znl];exact z26 zbi _ a b h0 λx hx y hy=>h10 d x y (h x hx) (by omega)
  ·intro d x y h hd;rw [zJx];unfold zk2 zxK;simp only [cond_true,Wy.fin_bn,zOT,h1 d _ _ h (by omega)]
   rw [zzG _ (by simp)]
   obtain ⟨c,l⟩:=x; obtain ⟨c',l'⟩:=y;simp only [cond_true,Wy.fin_k,zwV,zbi,zba,zbK];rfl
theorem zFy {d:Nat} {a:yC} (h:zm d a) (hd:d<=100) (b:yC):zuq a b=(true,zbK (zcQ a) (zcQ b)):=(zVf 1000).1 d a b h (by omega)
theorem zzc {d:Nat} {x:Term} (h:zbO (zm d) x.Fs) (hd:d<=99) (y:Term):zb8 x y=(true,zbK (zbD x.Fs) (zbD y.Fs)):=(zVf 1000).2.2.2.1 d x y h (by omega)
theorem zzn {d:Nat} {x:At} (h:zc3 (zm d) x) (hd:d<=99) (y:At):zi9 x y=(true,zba (zdm x) (zdm y)):=(zVf 1000).2.2.2.2.2.2.1 d x y h (by omega)
theorem zki {d:Nat} {x:Wd} (h:zm d x.Ann) (hd:d<=99) (y:Wd):zbm x y=(true,zba (zbi x) (zbi y)):=(zVf 1000).2.2.2.2.2.2.2.2.2 d x y h (by omega)
theorem zAi {d:Nat} {a:yC} (h:zm d a) (hd:d<=100) (b:yC):zie a b=(true,decide (a=b)):=by
 unfold zie zJ2;rw [Wy.fin_bn,zFy h hd];simp only [cond_true,Wy.fin_k];congr 1;by_cases e:a=b
 ·subst e; rw [z0l]; simp
 ·have:zbK (zcQ a) (zcQ b)≠0:=λh=>e (zJZ _ _ (zN4 _ _ h))
  simp [e,this]
theorem z5x (s:ByteArray):∀ (n i:Nat) (r:List UInt8),s.size<=i+n->ByteArray.toList.loop s i r=r.reverse++s.data.toList.drop i
 | 0,i,r,h=>by
  rw [ByteArray.toList.loop,if_neg (by omega),List.drop_eq_nil_of_le (by rw [<- Lib.size_eq]; omega),List.append_nil]
 | n+1,i,r,h=>by
  rw [ByteArray.toList.loop];by_cases hi:i<s.size
  ·have hi':i<s.data.toList.length:=by rw [<- Lib.size_eq]; exact hi
   rw [if_pos hi,z5x s n (i+1) _ (by omega),List.drop_eq_getElem_cons hi',List.reverse_cons,List.append_assoc]
   congr 1
   have:s.get! i=s.data.toList[i]:=by
    have h':i<s.data.size:=hi;show s.data[i]! =s.data.toList[i];rw [getElem!_pos s.data i h']; rfl
   rw [this]; rfl
  ·rw [if_neg hi,List.drop_eq_nil_of_le (by rw [<- Lib.size_eq]; omega),List.append_nil]
theorem toList_eq (s:ByteArray):s.toList=s.data.toList:=by
 rw [ByteArray.toList,z5x s s.size 0 [] (by omega)]; rfl
theorem zLc {s t:ByteArray} (h:s.data.toList=t.data.toList):s=t:=by
 cases s; cases t;congr 1;exact Array.toList_inj.1 h
theorem zbhF (s t:ByteArray):(s.toList==t.toList)=decide (s.data.toList=t.data.toList):=by
 rw [toList_eq,toList_eq];cases hb:(s.data.toList==t.data.toList) with
 | true=>rw [decide_eq_true (beq_iff_eq.1 hb)]
 | false=>rw [decide_eq_false (λh=>by rw [beq_iff_eq.2 h] at hb; cases hb)]
theorem z1t (s t:ByteArray):(s.toList==t.toList)=decide (s=t):=by
 rw [zbhF];by_cases h:s=t
 ·rw [decide_eq_true h,decide_eq_true (by rw [h])]
 ·rw [decide_eq_false h,decide_eq_false λe=>h (zLc e)]
theorem zAg (z w:Int):(z != w)= !decide (z=w):=by by_cases h:z=w <;>simp [h]
theorem zYj:∀ a b:List UInt8,Op.bytesLess a b=decide (Lib.compareBytes a b<0)
 | [],[]=>by simp [Op.bytesLess,Lib.compareBytes]
 | _::_,[]=>by simp [Op.bytesLess,Lib.compareBytes]
 | [],_::_=>by simp [Op.bytesLess,Lib.compareBytes]
 | x::a,y::b=>by
  simp only [Op.bytesLess,Lib.compareBytes];by_cases p:x<y
  ·simp [p]
  ·by_cases q:y<x
   ·have hne:¬ x=y:=λe=>by subst e; exact p q
    simp [p,q,hne]
   ·have he:x=y:=UInt8.toNat_inj.1 (by rw [UInt8.lt_iff_toNat_lt] at p q; omega)
    subst he;simp [p,zYj a b]
theorem zO5 (a b:Value):zoS a b=(true,zba (trV a) (trV b)):=by
 unfold zoS zRU zCy z2a;rw [z1t,toList_eq,toList_eq,zYj,zbgJ];simp only [trV,zba,zbK,zd3];simp only [Wy.fin_i,Wy.fin_bn,Wy.fin_k,cond_true,zAg];by_cases h1:a.Kind=b.Kind
 ·by_cases h2:a.Int=b.Int
  ·by_cases h3:a.Text=b.Text
   ·simp [h1,h2,h3,zFq]
   ·have h4:zba (trB a.Text) (trB b.Text)≠0:=λe=>by
     have:=zLN _ _ (TT.l.inj (ztQ _ _ e));exact h3 (zLc this)
    have h5:=zbeP (trB a.Text) (trB b.Text);simp only [trB,zba] at h4 h5;simp only [trB,zba];rcases h5 with h5 | h5 | h5
    ·simp [h1,h2,h3,h5]
    ·exact absurd h5 h4
    ·simp [h1,h2,h3,h5]
  ·by_cases h3:a.Int<b.Int
   ·simp [h1,h2,h3]
   ·simp [h1,h2,h3,show b.Int<a.Int by omega]
 ·by_cases h3:a.Kind<b.Kind
  ·simp [h1,h3]
  ·simp [h1,h3,show b.Kind<a.Kind by omega]
theorem zok (x y:Int):zcW x y=(true,zd3 x y):=by
 unfold zcW zUz zd3;by_cases h1:x<y
 ·simp [h1,Wy.fin_i,Wy.fin_k]
 ·by_cases h2:y<x <;>simp [h1,h2,Wy.fin_i,Wy.fin_k]
theorem zZq (x y:RowID):zm6 x y=(true,if zd3 x.Table y.Table=0 then zd3 x.Seq y.Seq else zd3 x.Table y.Table):=by
 unfold zm6 zKJ;simp only [zok,Wy.fin_i,Wy.fin_bn,Wy.fin_k,cond_true,zAg];by_cases h:zd3 x.Table y.Table=0
 ·simp [h]
 ·simp [h]
section
variable {α:Type} [Inhabited α]
def zbdt (p q:α->α->Bool×Int) (a:List α) (b:List α) (i:Int):Wy (List α×List α×Int×Unit) Unit (Int⊕(List α×List α)):=.i (decide (i<Int.ofNat a.length)) (.i (decide (i<Int.ofNat b.length)) (.i (decide ((0:Int)<=i)&&decide (i<Int.ofNat a.length)) (.i (decide ((0:Int)<=i)&&decide (i<Int.ofNat b.length)) (.bn (p (a.getD i.toNat default) (b.getD i.toNat default)) λr1=>.i (r1 != (0:Int)) (.k (.inl (r1))) (.i (decide ((0:Int)<=i)&&decide (i<Int.ofNat a.length)) (.i (decide ((0:Int)<=i)&&decide (i<Int.ofNat b.length)) (.bn (q (a.getD i.toNat default) (b.getD i.toNat default)) λr0=>.i (r0 != (0:Int)) (.k (.inl (r0))) (.h (a,b,(IntKind.i64.wrap (i+(1:Int))),()) ())) .d) .d)) .d) .d) (.k (.inr (a,b)))) (.k (.inr (a,b)))
def zbhX (p q:α->α->Bool×Int) (x:List α×List α×Int×Unit) (y:Unit):Wy (List α×List α×Int×Unit) Unit (Int⊕(List α×List α)):=zbdt p q x.1 x.2.1 x.2.2.1
def zbhp (p q:α->α->Bool×Int) (n:Nat) (a:List α) (b:List α) (i:Int):Bool×(Int⊕(List α×List α)):=zy (zbhX p q) (.inl default) n (a,b,i,()) ()
def RG (p q:α->α->Bool×Int) (a b:List α):Bool×Int:=(.bn (zbhp p q (a.length+b.length+Int.toNat (0:Int)+(1:Nat)) a b (0:Int)) λr5=>.i (isL r5) (.k (getL r5)) (.bn (zcW (Int.ofNat (getR r5).fst.length) (Int.ofNat (getR r5).snd.length)) λr4=>.k r4):Wy0 Int).fin default
theorem zbgO (p q:α->α->Bool×Int) (c1 c2:α->α->Int) (a b:List α) (ha:a.length<=1000000) (hp:∀ x∈a,∀ y∈b,p x y=(true,c1 x y)) (hq:∀ x∈a,∀ y∈b,q x y=(true,c2 x y)):∀ (n i:Nat),a.length<i+n->i<=a.length->i<=b.length->
  ∃ r,zbhp p q n a b i=(true,r)/\((r=.inl (zAv (λx y=>if c1 x y=0 then c2 x y else c1 x y) (a.drop i) (b.drop i)))\/(r=.inr (a,b)/\zAv (λx y=>if c1 x y=0 then c2 x y else c1 x y) (a.drop i) (b.drop i)=zd3 a.length b.length))
 | 0,i,h,h2,h3=>by omega
 | n+1,i,h,h2,h3=>by
  show ∃ r,(zbdt p q a b i).ev (λx y=>zbhp p q n x.1 x.2.1 x.2.2.1) (λr=>(true,r)) (false,.inl default)=(true,r)/\_
  unfold zbdt;by_cases hi:i<a.length
  ·by_cases hi':i<b.length
   ·simp only [Wy.ev_i,Wy.ev_k,Wy.ev_h,Wy.ev_bn,Wy.ev_d,tT,hi,hi',hp _ (zr hi) _ (zr hi'),hq _ (zr hi) _ (zr hi')];rw [zbx hi,zbx hi',zN (by omega)]
    simp only [zAv];generalize c1 (a.getD i default) (b.getD i default)=z1;generalize c2 (a.getD i default) (b.getD i default)=z2;by_cases hx:z1=0
    ·have e:(z1 != 0)=false:=by simp [hx]
     by_cases hx2:z2=0
     ·have e2:(z2 != 0)=false:=by simp [hx2]
      simp only [e,e2,cond_false,hx,hx2,if_true];exact zbgO p q c1 c2 a b ha hp hq n (i+1) (by omega) (by omega) (by omega)
     ·have e2:(z2 != 0)=true:=by simp [hx2]
      simp only [e,e2,cond_false,cond_true,hx,hx2,if_true,if_false];exact ⟨_,rfl,.inl rfl⟩
    ·have e:(z1 != 0)=true:=by simp [hx]
     simp only [e,cond_true,hx,if_false];exact ⟨_,rfl,.inl rfl⟩
   ·simp only [Wy.ev_i,Wy.ev_k,Wy.ev_h,Wy.ev_bn,Wy.ev_d,tT,hi,hi'];refine ⟨_,rfl,.inr ⟨rfl, ?_⟩⟩;rw [zbx hi,zcO hi'];unfold zd3; rw [if_neg (by omega),if_pos (by omega)]; rfl
  ·simp only [Wy.ev_i,Wy.ev_k,Wy.ev_h,Wy.ev_bn,Wy.ev_d,tT,hi];refine ⟨_,rfl,.inr ⟨rfl, ?_⟩⟩;rw [zcO hi];by_cases hi':i<b.length
   ·rw [zbx hi']; unfold zd3; rw [if_pos (by omega)]; rfl
   ·rw [zcO hi']; unfold zd3; rw [if_neg (by omega),if_neg (by omega)]; rfl
theorem zboa (p q:α->α->Bool×Int) (c1 c2:α->α->Int) (a b:List α) (ha:a.length<=1000000) (hp:∀ x∈a,∀ y∈b,p x y=(true,c1 x y)) (hq:∀ x∈a,∀ y∈b,q x y=(true,c2 x y)):RG p q a b=(true,zAv (λx y=>if c1 x y=0 then c2 x y else c1 x y) a b):=by
 unfold RG;obtain ⟨r,h1,h2⟩:=zbgO p q c1 c2 a b ha hp hq (a.length+b.length+Int.toNat 0+1) 0 (by simp; omega) (by omega) (by omega)
 rw [show ((0:Nat):Int)=(0:Int) from rfl] at h1
 rw [Wy.fin_bn,h1];simp only [List.drop_zero] at h2;rcases h2 with rfl | ⟨rfl,h2⟩
 ·rfl
 ·rw [h2];simp only [Wy.fin_i,Wy.fin_k,Wy.fin_bn,zok,tT,isL,getR]
end
theorem zbbb {α:Type} [Inhabited α] (e:α->TT) (p q:α->α->Bool×Int) (c1 c2:α->α->Int) (a b:List α) (ha:a.length<=1000000) (hp:∀ x∈a,∀ y∈b,p x y=(true,c1 x y)) (hq:∀ x∈a,∀ y∈b,q x y=(true,c2 x y))
  (hc:∀ x y,(if c1 x y=0 then c2 x y else c1 x y)=zba (e x) (e y)):RG p q a b=(true,zbK (a.map e) (b.map e)):=by
 rw [zboa p q c1 c2 a b ha hp hq,zRj e a b λx _ y _=>hc x y]
theorem zbj0 (g):zAE g=RG (λx y=>g x.Fs y.Fs) (λx y=>zcW x.Cf y.Cf):=rfl
theorem zbik (g):zjU g=RG (λx y=>g x.At y.At) (λx y=>zcW x.Exp y.Exp):=by
 have h:zkU g=zbhX (λx y=>g x.At y.At) (λx y=>zcW x.Exp y.Exp):=by
  funext x y
  unfold zkU zAG zbhX zbdt;rw [At.eta,At.eta]
 funext a b
 unfold zjU zB7 zAS;rw [h]; rfl
theorem zbkO (g):zqj g=RG (λx y=>zoS x.Value y.Value) (λx y=>g x.Ann y.Ann):=rfl
theorem zbb0 (gI) (g:yC->yC->Bool×Int) (a b:At) (ha:a.Ag.length<=1000000) (hg:∀ x∈a.Ag,∀ y∈b.Ag,g x y=(true,zbK (zcQ x) (zcQ y))):∀ (n i:Nat),a.Ag.length<i+n->i<=a.Ag.length->i<=b.Ag.length->
  ∃ r,zvo g gI n i a b=(true,r)/\((r=.inl (zAv (λx y=>zbK (zcQ x) (zcQ y)) (a.Ag.drop i) (b.Ag.drop i))/\zAv (λx y=>zbK (zcQ x) (zcQ y)) (a.Ag.drop i) (b.Ag.drop i)≠0)\/(r=.inr (a,b)/\zAv (λx y=>zbK (zcQ x) (zcQ y)) (a.Ag.drop i) (b.Ag.drop i)=zd3 a.Ag.length b.Ag.length))
 | 0,i,h,h2,h3=>by omega
 | n+1,i,h,h2,h3=>by
  show ∃ r,(zvg g gI i a b).ev (λx y=>zvo g gI n x.2.2.1 y.1 y.2.1) (λr=>(true,r)) (false,.inl default)=(true,r)/\_
  unfold zvg;by_cases hi:i<a.Ag.length
  ·by_cases hi':i<b.Ag.length
   ·simp only [Wy.ev_i,Wy.ev_k,Wy.ev_h,Wy.ev_bn,Wy.ev_d,tT,hi,hi',hg _ (zr hi) _ (zr hi')];rw [zbx hi,zbx hi',zN (by omega)]
    simp only [zAv];generalize zbK (zcQ (a.Ag.getD i default)) (zcQ (b.Ag.getD i default))=z1;by_cases hx:z1=0
    ·have e:(z1 != 0)=false:=by simp [hx]
     simp only [e,cond_false,hx,if_true];exact zbb0 gI g a b ha hg n (i+1) (by omega) (by omega) (by omega)
    ·have e:(z1 != 0)=true:=by simp [hx]
     simp only [e,cond_true,hx,if_false];exact ⟨_,rfl,.inl ⟨rfl,hx⟩⟩
   ·simp only [Wy.ev_i,Wy.ev_k,Wy.ev_h,Wy.ev_bn,Wy.ev_d,tT,hi,hi'];refine ⟨_,rfl,.inr ⟨rfl, ?_⟩⟩;rw [zbx hi,zcO hi'];unfold zd3; rw [if_neg (by omega),if_pos (by omega)]; rfl
  ·simp only [Wy.ev_i,Wy.ev_k,Wy.ev_h,Wy.ev_bn,Wy.ev_d,tT,hi];refine ⟨_,rfl,.inr ⟨rfl, ?_⟩⟩;rw [zcO hi];by_cases hi':i<b.Ag.length
   ·rw [zbx hi']; unfold zd3; rw [if_pos (by omega)]; rfl
   ·rw [zcO hi']; unfold zd3; rw [if_neg (by omega),if_neg (by omega)]; rfl
theorem zbmM (gI) (g:yC->yC->Bool×Int) (x y:At) (ha:x.Ag.length<=1000000) (hg:∀ a∈x.Ag,∀ b∈y.Ag,g a b=(true,zbK (zcQ a) (zcQ b)))
  (hI:gI x.Items y.Items=(true,zbK (zhC x.Items) (zhC y.Items))):zmG g gI x y=(true,zba (zdm x) (zdm y)):=by
 unfold zmG zFz;rw [At.eta,At.eta];obtain ⟨r,h1,h2⟩:=zbb0 gI g x y ha hg (Int.toNat 0+x.Ag.length+x.Items.length+y.Ag.length+y.Items.length+1) 0 (by omega) (by omega) (by omega)
 rw [show ((0:Nat):Int)=(0:Int) from rfl] at h1
 simp only [List.drop_zero] at h2;rw [zRj (λa=>TT.l (zcQ a)) x.Ag y.Ag (λa _ b _=>by simp only [zba]), <- zGG, <- zGG] at h2
 simp only [zok,zZq,Wy.fin_bn,Wy.fin_i,Wy.fin_k,cond_true,h1];obtain ⟨k,r0,a,f,i,o,v⟩:=x; obtain ⟨k',r',a',f',i',o',v'⟩:=y;simp only [zdm,zba,zbK,zAg] at *;by_cases e1:zd3 k k'=0
 rotate_left
 ·simp [e1]
 by_cases e2:zd3 r0.Table r'.Table=0
 rotate_left
 ·simp [e1,e2]
 by_cases e3:zd3 r0.Seq r'.Seq=0
 rotate_left
 ·simp [e1,e2,e3]
 rcases h2 with ⟨rfl,h2⟩ | ⟨rfl,h2⟩
 ·simp [e1,e2,e3,h2,isL,getL]
 simp only [e1,e2,e3,h2,isL,getR,tT,hI,if_true];by_cases e4:zd3 (a.length:Int) (a'.length:Int)=0
 rotate_left
 ·simp [e4]
 by_cases e5:zd3 f f'=0
 rotate_left
 ·simp [e4,e5]
 by_cases e6:zbK (zhC i) (zhC i')=0
 rotate_left
 ·simp [e4,e5,e6]
 by_cases e7:zd3 o o'=0
 rotate_left
 ·simp [e4,e5,e6,e7]
 simp [e4,e5,e6,e7,zO5]
theorem zOs:∀ n,
  (∀ d a b,zm d a->10*d<=n->zoG n a b=(true,zbK (zcQ a) (zcQ b)))/\
  (∀ d l l',zbO (zm d) l->10*d+10<=n+1->zjR n l l'=(true,zbK (zbD l) (zbD l')))/\
  (∀ d x y,zc3 (zm d) x->10*d+10<=n+2->zmI n x y=(true,zba (zdm x) (zdm y)))/\
  (∀ d a b,a.length<=1000000->(∀ x∈a,zm d x.Ann)->10*d+10<=n+3->zln n a b=(true,zbK (zhC a) (zhC b)))
 | 0=>by
  refine ⟨?_, ?_, ?_, ?_⟩
  ·intro d a b h hd; have:d=0:=by omega
   subst this; exact h.elim
  all_goals (intros; omega)
 | n+1=>by
  obtain ⟨h1,h2,h3,h4⟩:=zOs n;refine ⟨?_, ?_, ?_, ?_⟩
  ·intro d a b h hd;cases d with
   | zero=>exact h.elim
   | succ d=>
    rw [z2e,zbj0,zJT,zJT]
    exact zbbb zt5 _ _ (λx y=>zbK (zbD x.Fs) (zbD y.Fs)) (λx y=>zd3 x.Cf y.Cf) a b h.1 (λx hx y hy=>h2 d _ _ (h.2 x hx) (by omega)) (λx _ y _=>zok _ _) λx y=>by
     obtain ⟨c,l⟩:=x; obtain ⟨c',l'⟩:=y;simp only [zt5,zba,zbK];by_cases e:zd3 c c'=0 <;>simp [e]
  ·intro d l l' h hd;rw [zN0,zbik,zzH,zzH]
   exact zbbb zig _ _ (λx y=>zba (zdm x.At) (zdm y.At)) (λx y=>zd3 x.Exp y.Exp) l l' h.1 (λx hx y hy=>h3 d _ _ (h.2 x hx) (by omega)) (λx _ y _=>zok _ _) λx y=>by
    obtain ⟨c,l⟩:=x; obtain ⟨c',l'⟩:=y;simp only [zig,zba,zbK];by_cases e:zd3 l l'=0 <;>simp [e]
  ·intro d x y h hd;rw [zTl];exact zbmM _ _ x y h.1.1 (λa ha b _=>h1 d a b (h.2.1 a ha) (by omega)) (h4 d _ _ h.1.2.1 (λw hw=>(h.2.2 w hw).2) (by omega))
  ·intro d a b h0 h hd;rw [zQ7,zbkO,znl,znl]
   exact zbbb zbi _ _ (λx y=>zba (trV x.Value) (trV y.Value)) (λx y=>zbK (zcQ x.Ann) (zcQ y.Ann)) a b h0 (λx _ y _=>zO5 _ _) (λx hx y _=>h1 d _ _ (h x hx) (by omega)) λx y=>by
    obtain ⟨c,l⟩:=x; obtain ⟨c',l'⟩:=y;simp only [zbi,zba,zbK];by_cases e:zbK (zcQ l) (zcQ l')=0 <;>simp [e]
theorem z6e {d:Nat} {a:yC} (h:zm d a) (hd:d<=100) (b:yC):zLr a b=(true,zbK (zcQ a) (zcQ b)):=(zOs 1000).1 d a b h (by omega)
theorem ztq {d:Nat} {l:yD} (h:zbO (zm d) l) (hd:d<=99) (l':yD):zls l l'=(true,zbK (zbD l) (zbD l')):=(zOs 1000).2.1 d l l' h (by omega)
theorem zpS {d:Nat} {x:At} (h:zc3 (zm d) x) (hd:d<=99) (y:At):zju x y=(true,zba (zdm x) (zdm y)):=(zOs 1000).2.2.1 d x y h (by omega)
theorem zFb {d:Nat} {a:yE} (h0:a.length<=1000000) (h:∀ x∈a,zm d x.Ann) (hd:d<=99) (b:yE):zt8 a b=(true,zbK (zhC a) (zhC b)):=(zOs 1000).2.2.2 d a b h0 h (by omega)
theorem zEo {d:Nat} {a:yC} (h:zm d a) (hd:d<=100) (b:yC):ziN a b=(true,decide (a=b)):=by
 unfold ziN z2y;rw [Wy.fin_bn,z6e h hd];simp only [cond_true,Wy.fin_k];congr 1;by_cases e:a=b
 ·subst e; rw [z0l]; simp
 ·have:zbK (zcQ a) (zcQ b)≠0:=λh=>e (zJZ _ _ (zN4 _ _ h))
  simp [e,this]
def zek (c:Nat->Bool):Nat->Nat->Bool
 | 0,_=>true
 | n+1,i=>c i&&zek c n (i+1)
theorem zdV {c:Nat->Bool}:∀ {n i},zek c n i=true↔∀ k,i<=k->k<i+n->c k=true
 | 0,i=>⟨λ_ k h1 h2=>by omega,λ_=>rfl⟩
 | n+1,i=>by
  simp only [zek,qc,zdV (n:=n)];constructor
  ·rintro ⟨h1,h2⟩ k h3 h4
   by_cases e:k=i
   ·rw [e]; exact h1
   ·exact h2 k (by omega) (by omega)
  ·intro h;exact ⟨h i (by omega) (by omega),λk h1 h2=>h k (by omega) (by omega)⟩
theorem zbfv (c c':Nat->Bool):∀ n i,zek (λk=>c k&&c' k) n i=(zek c n i&&zek c' n i)
 | 0,_=>rfl
 | n+1,i=>by
  simp only [zek,zbfv c c' n (i+1)];cases c i <;>cases c' i <;>simp
theorem zbdS {τ:Type} [Inhabited τ] (p:τ->Bool) (l:List τ):∀ n i,i+n=l.length->zek (λk=>p (l.getD k default)) n i=(l.drop i).all p
 | 0,i,h=>by rw [zcO (by omega)]; rfl
 | n+1,i,h=>by
  rw [zbx (by omega),List.all_cons]
  simp only [zek,zbdS p l n (i+1) (by omega)]
theorem zBS {τ:Type} [Inhabited τ] (p:τ->Bool) (l:List τ):zek (λk=>p (l.getD k default)) l.length 0=l.all p:=by
 rw [zbdS p l _ _ (by omega),List.drop_zero]
section
variable {α β ρ:Type}
theorem zbdB {W:α->β->Wy α β ρ} {z:ρ} (N:Nat) (ex:Nat->α) (ey:Nat->β) (c:Nat->Bool) (no yes:ρ)
  (h:∀ i,i<N->∀ (H:α->β->Bool×ρ) K D,(W (ex i) (ey i)).ev H K D=bif c i then H (ex (i+1)) (ey (i+1)) else K no)
  (he:∀ (H:α->β->Bool×ρ) K D,(W (ex N) (ey N)).ev H K D=K yes):
  ∀ n i,N<i+n->i<=N->zy W z n (ex i) (ey i)=(true,bif zek c (N - i) i then yes else no)
 | 0,i,h1,h2=>by omega
 | n+1,i,h1,h2=>by
  show (W (ex i) (ey i)).ev (zy W z n) (λr=>(true,r)) (false,z)=_
  by_cases hi:i<N
  ·rw [h i hi,show N - i=(N - (i+1))+1 by omega]
   simp only [zek];cases c i with
   | false=>rfl
   | true=>rw [cond_true,zbdB N ex ey c no yes h he n (i+1) (by omega) (by omega)]; rfl
  ·have:i=N:=by omega
   subst this;rw [he,Nat.sub_self]; rfl
theorem zdW {W:α->β->Wy α β ρ} {z:ρ} (N:Nat) (ex:Nat->α) (ey:Nat->β) (c:Nat->Bool) (no yes:ρ)
  (h:∀ i,i<N->∀ (H:α->β->Bool×ρ) K D,(W (ex i) (ey i)).ev H K D=bif c i then H (ex (i+1)) (ey (i+1)) else K no)
  (he:∀ (H:α->β->Bool×ρ) K D,(W (ex N) (ey N)).ev H K D=K yes) (n:Nat) (hn:N<n):zy W z n (ex 0) (ey 0)=(true,bif zek c N 0 then yes else no):=by
 have:=zbdB (z:=z) N ex ey c no yes h he n 0 (by omega) (by omega)
 simpa using this
end
def ixf {α:Type} (p:α->Bool):List α->Nat->Int
 | [],_=> -1
 | x::r,i=>bif p x then (i:Int) else ixf p r (i+1)
theorem zbgS {α:Type} (p:α->Bool):∀ (l:List α) (i:Nat),decide (ixf p l i≥(0:Int))=l.any p
 | [],i=>by simp [ixf]
 | x::r,i=>by
  rw [List.any_cons];cases h:p x with
  | true=>simp [ixf,h]
  | false=>simpa [ixf,h] using zbgS p r (i+1)
section
variable {α γ:Type} [Inhabited α]
def z23 (p:γ->α->Bool×Bool) (s:List α) (g:γ) (t7:Int) (t8:Int):Wy (List α×γ×Int×Int×Unit) Unit (Int⊕Unit):=.i (decide (t8<t7)) (.i (decide ((0:Int)<=t8)&&decide (t8<Int.ofNat s.length)) (.bn (p g (s.getD t8.toNat default)) λr0=>.i (r0) (.k (.inl t8)) (.h (s,g,t7,(IntKind.i64.wrap (t8+(1:Int))),()) ())) .d) (.k (.inr ()))
def zW2 (p:γ->α->Bool×Bool) (x:List α×γ×Int×Int×Unit) (y:Unit):Wy (List α×γ×Int×Int×Unit) Unit (Int⊕Unit):=z23 p x.1 x.2.1 x.2.2.1 x.2.2.2.1
def zbij (p:γ->α->Bool×Bool) (n:Nat) (s:List α) (g:γ) (t7:Int) (t8:Int):Bool×(Int⊕Unit):=zy (zW2 p) (.inl default) n (s,g,t7,t8,()) ()
def IG (p:γ->α->Bool×Bool) (n:Nat) (g:γ) (s:List α):Bool×Int:=(.bn (zbij p n s g (Int.ofNat s.length) (0:Int)) λr2=>.i (isL r2) (.k (getL r2)) (.k (-1:Int)):Wy0 Int).fin default
def zbie (p:γ->α->Bool×Bool) (s:List α) (g:γ) (t7:Int) (t8:Int):Wy (List α×γ×Int×Int×Unit) Unit (Int⊕Unit):=.i (decide (t8<t7)) (.i (decide ((0:Int)<=t8)&&decide (t8<Int.ofNat s.length)) (.i ((p g (s.getD t8.toNat default)).snd) (.k (.inl t8)) (.h (s,g,t7,(IntKind.i64.wrap (t8+(1:Int))),()) ())) .d) (.k (.inr ()))
def zboq (p:γ->α->Bool×Bool) (x:List α×γ×Int×Int×Unit) (y:Unit):Wy (List α×γ×Int×Int×Unit) Unit (Int⊕Unit):=zbie p x.1 x.2.1 x.2.2.1 x.2.2.2.1
def zbhP (p:γ->α->Bool×Bool) (n:Nat) (s:List α) (g:γ) (t7:Int) (t8:Int):Bool×(Int⊕Unit):=zy (zboq p) (.inl default) n (s,g,t7,t8,()) ()
def IH (p:γ->α->Bool×Bool) (n:Nat) (g:γ) (s:List α):Bool×Int:=(.bn (zbhP p n s g (Int.ofNat s.length) (0:Int)) λr2=>.i (isL r2) (.k (getL r2)) (.k (-1:Int)):Wy0 Int).fin default
theorem zbgu (p:γ->α->Bool×Bool) (P:α->Bool) (g:γ) (s:List α) (hs:s.length<=1000000000) (hp:∀ x∈s,p g x=(true,P x)):∀ (n i:Nat),s.length<i+n->i<=s.length->
  ∃ r,zbij p n s g s.length i=(true,r)/\((r=.inl (ixf P (s.drop i) i))\/(r=.inr ()/\ixf P (s.drop i) i= -1))
 | 0,i,h,h2=>by omega
 | n+1,i,h,h2=>by
  show ∃ r,(z23 p s g s.length i).ev (λx y=>zbij p n x.1 x.2.1 x.2.2.1 x.2.2.2.1) (λr=>(true,r)) (false,.inl default)=(true,r)/\_
  unfold z23;by_cases hi:i<s.length
  ·simp only [Wy.ev_i,Wy.ev_k,Wy.ev_h,Wy.ev_bn,Wy.ev_d,tT,hi,hp _ (zr hi)];rw [zbx hi,zN (by omega)]
   simp only [ixf];cases P (s.getD i default) with
   | true=>exact ⟨_,rfl,.inl rfl⟩
   | false=>exact zbgu p P g s hs hp n (i+1) (by omega) (by omega)
  ·simp only [Wy.ev_i,Wy.ev_k,Wy.ev_h,Wy.ev_bn,Wy.ev_d,tT,hi,zcO hi];exact ⟨_,rfl,.inr ⟨rfl,rfl⟩⟩
theorem zNh (p:γ->α->Bool×Bool) (P:α->Bool) (n:Nat) (g:γ) (s:List α) (hs:s.length<=1000000000) (hp:∀ x∈s,p g x=(true,P x)) (hn:s.length<n):IG p n g s=(true,ixf P s 0):=by
 unfold IG;obtain ⟨r,h1,h2⟩:=zbgu p P g s hs hp n 0 (by omega) (by omega)
 rw [show ((0:Nat):Int)=(0:Int) from rfl] at h1
 rw [Wy.fin_bn,show Int.ofNat s.length=(s.length:Int) from rfl,h1]
 rw [List.drop_zero] at h2;rcases h2 with rfl | ⟨rfl,h2⟩
 ·rfl
 ·rw [h2]; rfl
theorem zbgF (p:γ->α->Bool×Bool) (P:α->Bool) (g:γ) (s:List α) (hs:s.length<=1000000000) (hp:∀ x∈s,p g x=(true,P x)):∀ (n i:Nat),s.length<i+n->i<=s.length->
  ∃ r,zbhP p n s g s.length i=(true,r)/\((r=.inl (ixf P (s.drop i) i))\/(r=.inr ()/\ixf P (s.drop i) i= -1))
 | 0,i,h,h2=>by omega
 | n+1,i,h,h2=>by
  show ∃ r,(zbie p s g s.length i).ev (λx y=>zbhP p n x.1 x.2.1 x.2.2.1 x.2.2.2.1) (λr=>(true,r)) (false,.inl default)=(true,r)/\_
  unfold zbie;by_cases hi:i<s.length
  ·simp only [Wy.ev_i,Wy.ev_k,Wy.ev_h,Wy.ev_bn,Wy.ev_d,tT,hi,hp _ (zr hi)];rw [zbx hi,zN (by omega)]
   simp only [ixf];cases P (s.getD i default) with
   | true=>exact ⟨_,rfl,.inl rfl⟩
   | false=>exact zbgF p P g s hs hp n (i+1) (by omega) (by omega)
  ·simp only [Wy.ev_i,Wy.ev_k,Wy.ev_h,Wy.ev_bn,Wy.ev_d,tT,hi,zcO hi];exact ⟨_,rfl,.inr ⟨rfl,rfl⟩⟩
theorem zblv (p:γ->α->Bool×Bool) (P:α->Bool) (n:Nat) (g:γ) (s:List α) (hs:s.length<=1000000000) (hp:∀ x∈s,p g x=(true,P x)) (hn:s.length<n):IH p n g s=(true,ixf P s 0):=by
 unfold IH;obtain ⟨r,h1,h2⟩:=zbgF p P g s hs hp n 0 (by omega) (by omega)
 rw [show ((0:Nat):Int)=(0:Int) from rfl] at h1
 rw [Wy.fin_bn,show Int.ofNat s.length=(s.length:Int) from rfl,h1]
 rw [List.drop_zero] at h2;rcases h2 with rfl | ⟨rfl,h2⟩
 ·rfl
 ·rw [h2]; rfl
theorem zlh {α:Type} {s:List α} {P:α->Bool} {q:Bool×Int} (h:q=(true,ixf P s 0)):((.bn q λr0=>.k (decide (r0≥(0:Int))):Wy0 Bool).fin default)=(true,s.any P):=by
 rw [h,Wy.fin_bn,cond_true,Wy.fin_k,zbgS]
end
theorem zhe (a b:Int):(a==b)=decide (a=b):=by by_cases h:a=b <;>simp [h]
theorem z5Y (a b:Nat):(a==b)=decide (a=b):=by by_cases h:a=b <;>simp [h]
theorem i0 (l:Nat):((l:Int)==0)=(l==0):=by
 rw [zhe,z5Y]; congr 1; simp
def zu5 (a:yC):Bool:=a.any λt=>t.Fs.length==0
theorem zUm (a:yC) (h:a.length<=1000000000):zfe a=(true,zu5 a):=by
 unfold zfe zBt zdu zh2;have:zdX a=IH (λ(_:Unit) x=>zhk x) (a.length+(Int.ofNat a.length).toNat +Int.toNat (0:Int)+(1:Nat)) () a:=rfl
 rw [zlh (P:=λt:Term=>t.Fs.length==0) (this.trans (zblv _ _ _ _ _ h (λx _=>by
  unfold zhk zxW;rw [Wy.fin_k];congr 1;exact i0 x.Fs.length) (by omega)))]
 rfl
theorem zpc (a:yC) (h:a.length<=1000000000):ziI a=(true,zu5 a):=by
 unfold ziI zP5 zM1
 have:=zdW (W:=zDh) (z:=.inl default) a.length (λi=>(a,(i:Int),())) (λ_=>()) (λi=> !((a.getD i default).Fs.length==0)) (.inl true) (.inr ())
  (λi hi H K D=>by
   show (zpl a i).ev H K D=_;unfold zpl;simp only [Wy.ev_i,Wy.ev_k,Wy.ev_h,Wy.ev_bn,Wy.ev_d,tT,hi,i0];rw [zN (by omega)]
   cases (a.getD i default).Fs.length==0 <;>rfl)
  (λH K D=>by
   show (zpl a a.length).ev H K D=_;unfold zpl;simp only [Wy.ev_i,Wy.ev_k,tT,Nat.lt_irrefl]) (a.length+Int.toNat (0:Int)+(1:Nat)) (by omega)
 rw [show ((0:Nat):Int)=(0:Int) from rfl] at this
 rw [Wy.fin_bn,this,zBS (λt:Term=> !(t.Fs.length==0)) a]
 have e:(a.all λt:Term=> !(t.Fs.length==0))= !zu5 a:=by simp [zu5,List.all_eq_not_any_not]
 rw [e];cases zu5 a <;>rfl
def isC:yC->Bool
 | [t]=>t.Fs.length==0
 | _=>false
theorem zX8 (a:yC):zhM a=(true,isC a):=by
 unfold zhM zC2
 match a with
 | []=>rfl
 | [t]=>exact congrArg (Prod.mk true) (i0 t.Fs.length)
 | t::u::r=>
  have:((Int.ofNat (t::u::r).length)==(1:Int))=false:=by simp; omega
  rw [Wy.fin_i,this]; rfl
def zbnh (p:Fc->Bool):yD->Bool
 | [f]=>p f
 | _=>false
def isU:yC->Bool
 | [t]=>t.Cf==1&&zbnh (λf=>f.Exp==1&&(f.At.Kind==2||f.At.Kind==3||f.At.Kind==4)) t.Fs
 | _=>false
theorem zbba (x:At):zfT x=(true,x.Kind==3||x.Kind==4):=by
 unfold zfT zCO;rw [Wy.fin_i,Wy.fin_k,Wy.fin_k];cases x.Kind==3 <;>rfl
theorem zPk {τ:Type} (x y:τ) (r:List τ):((Int.ofNat (x::y::r).length)==(1:Int))=false:=by
 rw [beq_eq_false_iff_ne]; simp; omega
theorem zbbD (a:yC):zlZ a=(true,isU a):=by
 unfold zlZ zIi
 match a with
 | []=>rfl
 | ⟨c,[]⟩::[]=>
  show (bif c != 1 then (true,false) else (true,false))=(true,c==1&&false)
  cases c != 1 <;>simp
 | ⟨c,[f]⟩::[]=>
  simp only [Wy.fin_i,Wy.fin_k,tT,isU,List.length_singleton,zbba,Wy.fin_bn,Wy.fin_d];show (bif c != 1 then (true,false) else bif f.Exp==1 then bif f.At.Kind==2 then (true,true) else (true,f.At.Kind==3||f.At.Kind==4) else (true,false))=(true,c==1&&(f.Exp==1&&(f.At.Kind==2||f.At.Kind==3||f.At.Kind==4)))
  rw [show (c != 1)= !(c==1) from rfl]
  cases c==1 <;>cases f.Exp==1 <;>cases f.At.Kind==2 <;>simp
 | ⟨c,f::g::r⟩::[]=>
  simp only [Wy.fin_i,bne,zPk];show (bif !(c==1) then (true,false) else (true,false))=(true,c==1&&false)
  cases c==1 <;>rfl
 | t::u::r=>rw [Wy.fin_i,bne,zPk]; rfl
def isB:yC->Bool
 | [t]=>t.Cf==1&&zbnh (λf=>f.Exp==1&&decide (2<=f.At.Kind)) t.Fs
 | _=>false
theorem zHd (a:yC):zrd a=(true,isB a):=by
 unfold zrd zUn
 match a with
 | []=>rfl
 | ⟨c,[]⟩::[]=>
  show (bif c==1 then (true,false) else (true,false))=(true,c==1&&false)
  cases c==1 <;>rfl
 | ⟨c,[f]⟩::[]=>
  simp only [Wy.fin_i,Wy.fin_k,tT,List.length_singleton,Wy.fin_bn,Wy.fin_d];show (bif c==1 then bif decide (2<=f.At.Kind) then (true,f.Exp==1) else (true,false) else (true,false))=(true,c==1&&(f.Exp==1&&decide (2<=f.At.Kind)))
  cases c==1 <;>cases f.Exp==1 <;>cases decide (2<=f.At.Kind) <;>simp
 | ⟨c,f::g::r⟩::[]=>
  rw [Wy.fin_i];show (bif true then (Wy.i true (Wy.i (c==1) (Wy.i true (Wy.i (Int.ofNat (f::g::r).length==1) _ (.k false)) .d) (.k false)) .d:Wy0 Bool).fin default else _)=(true,c==1&&false)
  simp only [Wy.fin_i,Wy.fin_k,zPk,cond_true,cond_false];cases c==1 <;>rfl
 | t::u::r=>rw [Wy.fin_i,zPk]; rfl
theorem zVm (a b:Nat):decide (a>b)= !decide (a<=b):=by
 by_cases h:a<=b
 ·have:¬ a>b:=by omega
  simp [h,this]
 ·have:a>b:=by omega
  simp [h,this]
def zEp (t:Term):Bool:= !(decide (t.Fs.length>64)||t.Fs.any λf=>decide (f.Exp>64)||decide (f.At.Items.length>1024))
def zfB (a:yC):Bool:=decide (a.length<=512)&&decide (zbh a<=8)&&decide (zK a<=4096)&&a.all zEp
theorem zbh9 (l:yD) (h:l.length<=1000000):zcE l=(true,l.any λf=>decide (f.Exp>64)||decide (f.At.Items.length>1024)):=by
 unfold zcE ziF
 have hw:zdE=zW2 (λ(_:Unit) x=>zgk x):=by
  funext x y
  unfold zdE zjI zW2 z23;rw [Fc.eta2]
 have:zcZ l=IG (λ(_:Unit) x=>zgk x) (l.length+(Int.ofNat l.length).toNat +Int.toNat (0:Int)+(1:Nat)) () l:=by
  unfold zcZ zjP zjx;rw [hw]; rfl
 exact zlh (this.trans (zNh _ _ _ _ _ (by omega) (λx _=>by
  unfold zgk zAL;rw [Wy.fin_i,Wy.fin_k,Wy.fin_k];have e:decide (Int.ofNat x.At.Items.length>(1024:Int))=decide (x.At.Items.length>1024):=zrH _ 1024;rw [e];cases decide (x.Exp>64) <;>rfl) (by omega)))
theorem zbbY {d:Nat} {a:yC} (h:zm d a) (hd:d<=100) (hs:zK a<=4611686018427387904):zl0 a=(true,zfB a):=by
 obtain ⟨h1,h2⟩:a.length<=1000000/\∀ t∈a,t.Fs.length<=1000000:=by
  cases d with
  | zero=>exact h.elim
  | succ d=>exact ⟨h.1,λt ht=>(h.2 t ht).1⟩
 have h3:zcx a=(true,a.any λt=> !zEp t):=by
  unfold zcx zhY;have:zdZ a=IG (λ(_:Unit) x=>zlF x) (a.length+(Int.ofNat a.length).toNat +Int.toNat (0:Int)+(1:Nat)) () a:=rfl
  exact zlh (this.trans (zNh _ _ _ _ _ (by omega) (λx hx=>by
   unfold zlF zDF;rw [Wy.fin_i,Wy.fin_k,Wy.fin_bn,zbh9 _ (h2 x hx)];have e:decide (Int.ofNat x.Fs.length>(64:Int))=decide (x.Fs.length>64):=zrH _ 64;rw [e];unfold zEp;cases decide (x.Fs.length>64) <;>simp [Wy.fin_k]) (by omega)))
 unfold zl0 zIf;have n1:zCe a=(true,(zbh a:Int)):=(zbaH 1000 d a h (by omega) hd).1
 have n2:zHc a=(true,(zK a:Int)):=(z6n 1000 d a h (by omega) hs).1
 simp only [Wy.fin_i,Wy.fin_k,Wy.fin_bn,n1,n2,h3,cond_true];have e1:decide (Int.ofNat a.length>(512:Int))= !decide (a.length<=512):=by rw [show decide (Int.ofNat a.length>(512:Int))=decide (a.length>512) from zrH _ 512]; exact zVm _ _
 have e2:decide ((zbh a:Int)>(8:Int))= !decide (zbh a<=8):=by rw [show decide ((zbh a:Int)>(8:Int))=decide (zbh a>8) from zrH _ 8]; exact zVm _ _
 have e3:decide ((zK a:Int)>(4096:Int))= !decide (zK a<=4096):=by rw [show decide ((zK a:Int)>(4096:Int))=decide (zK a>4096) from zrH _ 4096]; exact zVm _ _
 have e4:(a.any λt=> !zEp t)= !a.all zEp:=by simp [List.all_eq_not_any_not]
 rw [e1,e2,e3,e4];unfold zfB;cases decide (a.length<=512) <;>cases decide (zbh a<=8) <;>cases decide (zK a<=4096) <;>simp
theorem zbm2 (a:yC) (i:Nat) (hi:i<a.length) (hl:(a.getD i default).Fs.length<=1000000) (fuel:Nat) (hf:(a.getD i default).Fs.length<fuel):
  zYo fuel a i 0=(true,bif (a.getD i default).Fs.any λf=>decide (f.Exp>64)||decide (f.At.Items.length>1024) then .inl false else .inr (a,(i:Int))):=by
 have:=zdW (W:=zMf) (z:=.inl default) (a.getD i default).Fs.length (λk=>(a,(i:Int),(k:Int),())) (λ_=>()) (λk=>(λf:Fc=> !(decide (f.Exp>64)||decide (f.At.Items.length>1024))) ((a.getD i default).Fs.getD k default)) (.inl false) (.inr (a,(i:Int)))
  (λk hk H K D=>by
   show (zza a i k).ev H K D=_;unfold zza;simp only [Wy.ev_i,Wy.ev_k,Wy.ev_h,Wy.ev_bn,Wy.ev_d,tT,hi,hk];rw [zN (by omega),show decide ((((a.getD i default).Fs.getD k default).At.Items.length:Int)>(1024:Int))=_ from zrH _ 1024]
   cases decide (((a.getD i default).Fs.getD k default).Exp>64) <;>cases decide (1024<((a.getD i default).Fs.getD k default).At.Items.length) <;>rfl)
  (λH K D=>by
   show (zza a i (a.getD i default).Fs.length).ev H K D=_;unfold zza;simp only [Wy.ev_i,Wy.ev_k,Wy.ev_h,Wy.ev_bn,Wy.ev_d,tT,hi,Nat.lt_irrefl]) fuel hf
 rw [zBS (λf:Fc=> !(decide (f.Exp>64)||decide (f.At.Items.length>1024)))] at this
 have e:((a.getD i default).Fs.all λf=> !(decide (f.Exp>64)||decide (f.At.Items.length>1024)))= !((a.getD i default).Fs.any λf=>decide (f.Exp>64)||decide (f.At.Items.length>1024)):=by simp [List.all_eq_not_any_not]
 rw [e] at this;refine this.trans ?_;cases (a.getD i default).Fs.any λf=>decide (f.Exp>64)||decide (f.At.Items.length>1024) <;>rfl
theorem zbgw {d:Nat} {a:yC} (h:zm d a) (hd:d<=100) (hs:zK a<=4611686018427387904):zCD a=(true,zfB a):=by
 obtain ⟨h1,h2⟩:a.length<=1000000/\∀ t∈a,t.Fs.length<=1000000:=by
  cases d with
  | zero=>exact h.elim
  | succ d=>exact ⟨h.1,λt ht=>(h.2 t ht).1⟩
 have h3:zYa ((a.length+Int.toNat (0:Int)+(1:Nat))+zbV a) a 0=(true,bif a.all zEp then .inr () else .inl false):=by
  have:=zdW (W:=zLW) (z:=.inl default) a.length (λk=>(a,(k:Int),())) (λ_=>()) (λk=>zEp (a.getD k default)) (.inl false) (.inr ())
   (λk hk H K D=>by
    show (zzo a k).ev H K D=_;unfold zzo;have h4:=h2 _ (zr hk);have h5:=zP4 a k hk;simp only [Wy.ev_i,Wy.ev_k,Wy.ev_h,Wy.ev_bn,Wy.ev_d,tT,hk];rw [zbm2 a k hk h4 _ (by omega)]
    have e:decide (((a.getD k default).Fs.length:Int)>(64:Int))=decide ((a.getD k default).Fs.length>64):=zrH _ 64;rw [e];unfold zEp;cases decide ((a.getD k default).Fs.length>64) <;>cases ((a.getD k default).Fs.any λf=>decide (f.Exp>64)||decide (f.At.Items.length>1024))
    ·simp only [cond_false,cond_true,isL,getR]; rw [zN (by omega)]; rfl
    all_goals rfl)
   (λH K D=>by
    show (zzo a a.length).ev H K D=_;unfold zzo;simp only [Wy.ev_i,Wy.ev_k,Wy.ev_h,Wy.ev_bn,Wy.ev_d,tT,Nat.lt_irrefl]) ((a.length+Int.toNat (0:Int)+(1:Nat))+zbV a) (by omega)
  rw [zBS] at this;exact this
 unfold zCD z1J;have n1:zMp a=(true,(zbh a:Int)):=(zbaH 1000 d a h (by omega) hd).2
 have n2:zVP a=(true,(zK a:Int)):=(z6n 1000 d a h (by omega) hs).2
 simp only [Wy.fin_i,Wy.fin_k,Wy.fin_bn,n1,n2,h3,cond_true];have e1:decide (Int.ofNat a.length>(512:Int))= !decide (a.length<=512):=by rw [show decide (Int.ofNat a.length>(512:Int))=decide (a.length>512) from zrH _ 512]; exact zVm _ _
 have e2:decide ((zbh a:Int)>(8:Int))= !decide (zbh a<=8):=by rw [show decide ((zbh a:Int)>(8:Int))=decide (zbh a>8) from zrH _ 8]; exact zVm _ _
 have e3:decide ((zK a:Int)>(4096:Int))= !decide (zK a<=4096):=by rw [show decide ((zK a:Int)>(4096:Int))=decide (zK a>4096) from zrH _ 4096]; exact zVm _ _
 rw [e1,e2,e3];unfold zfB;cases decide (a.length<=512) <;>cases decide (zbh a<=8) <;>cases decide (zK a<=4096) <;>cases a.all zEp <;>simp [isL,getL]
def zwu (v:Value):Bool:=(v.Kind==0&&v.Text.size==0)||(v.Kind==1&&v.Int==0&&decide (v.Text.size<=255))||(v.Kind==2&&v.Text.size==0&&(v.Int==0||v.Int==1))
theorem zbed (s:ByteArray):(s.toList==(ByteArray.mk #[]).toList)=(s.size==0):=by
 rw [z1t];by_cases h:s.size=0
 ·have:s=ByteArray.mk #[]:=zLc (by
   have:s.data.toList.length=0:=by simpa using h
   rw [List.length_eq_zero_iff.1 this])
  subst this; rfl
 ·have:¬ s=ByteArray.mk #[]:=λe=>h (by rw [e]; rfl)
  simp [h,this]
theorem zJj (v:Value):zvs v=(true,zwu v):=by
 unfold zvs zXW zwu;simp only [zbed,Wy.fin_i,Wy.fin_k,zhe,z5Y];have e:decide (Int.ofNat v.Text.size<=(255:Int))=decide (v.Text.size<=255):=zDT _ 255;rw [e];by_cases h0:v.Kind=0
 ·simp [h0]
 ·by_cases h1:v.Kind=1
  ·by_cases h2:v.Int=0 <;>simp [h1,h2]
  ·by_cases h2:v.Kind=2
   ·by_cases h3:v.Int=0
    ·simp [h2,h3]
    ·by_cases h4:v.Int=1 <;>simp [h2,h3,h4]
   ·simp [h0,h1,h2]
theorem zTZ (v:Value):zzQ v=(true,zwu v):=by
 unfold zzQ zX0 zwu;simp only [zbed,Wy.fin_i,Wy.fin_k,zhe,z5Y];have e:decide (Int.ofNat v.Text.size<=(255:Int))=decide (v.Text.size<=255):=zDT _ 255;rw [e];by_cases h0:v.Kind=0
 ·simp [h0]
 ·by_cases h1:v.Kind=1
  ·by_cases h2:v.Int=0 <;>simp [h1,h2]
  ·by_cases h2:v.Kind=2
   ·by_cases h3:v.Int=0
    ·by_cases h4:v.Text.size=0 <;>simp [h2,h3,h4]
    ·by_cases h4:v.Text.size=0 <;>simp [h2,h3,h4]
   ·simp [h0,h1,h2]
def zOc (fn:Int) (b:Value) (w:Wd):Bool:=zwu w.Value&&(w.Value.Kind==b.Kind)&& !(fn==0&&w.Value.Int != 1)
def zDv (fn:Int) (l:yE) (op:Int) (b:Value):Bool:=decide (0<=fn)&&decide (fn<=3)&&decide (5<=op)&&decide (op<=10)&&zwu b&& !(decide (fn<=1)&&b.Kind != 0)&&l.all (zOc fn b)
theorem zbkV (l:yE) (fn:Int) (b:Value) (h:l.length<=1000000):zbI l b fn=(true, !l.all (zOc fn b)):=by
 unfold zbI zg6;have:zds l b fn=IG (λ(g:Value×(Int×Unit)×Unit) x=>zhF x g.1 g.2.1.1) (l.length+fn.toNat +(Int.ofNat l.length).toNat +Int.toNat (0:Int)+(1:Nat)) (b,(fn,()),()) l:=rfl
 have e:(!l.all (zOc fn b))=l.any λw=> !zOc fn b w:=by simp [List.all_eq_not_any_not]
 rw [e]
 exact zlh (this.trans (zNh _ _ _ _ _ (by omega) (λx _=>by
  show zhF x b fn=_;unfold zhF zCY zOc;simp only [Wy.fin_i,Wy.fin_k,Wy.fin_bn,zJj,cond_true,zhe,zAg];cases zwu x.Value <;>by_cases h1:x.Value.Kind=b.Kind <;>by_cases h2:fn=0 <;>simp [zhe,zAg,h1,h2]) (by omega)))
theorem z78 (fn:Int) (l:yE) (op:Int) (b:Value) (h:l.length<=1000000):zkI fn l op b=(true,zDv fn l op b):=by
 unfold zkI zHe zDv;simp only [Wy.fin_i,Wy.fin_k,Wy.fin_bn,zJj,zbkV l fn b h,cond_true,zhe,zAg];by_cases h1:fn<0
 ·have:¬ (0<=fn):=by omega
  simp [h1,this]
 by_cases h2:3<fn
 ·have:¬ (fn<=3):=by omega
  simp [h1,h2,this]
 by_cases h3:op<5
 ·have:¬ (5<=op):=by omega
  simp [h1,h2,h3,this]
 by_cases h4:10<op
 ·have:¬ (op<=10):=by omega
  simp [h1,h2,h3,h4,this]
 have g1:0<=fn:=by omega
 have g2:fn<=3:=by omega
 have g3:5<=op:=by omega
 have g4:op<=10:=by omega
 cases zwu b with
 | false=>simp [h1,h2,h3,h4]
 | true=>
  by_cases h5:fn=0
  ·subst h5; by_cases h6:b.Kind=0 <;>simp [h3,h4,h6,g3,g4]
  ·by_cases h7:fn=1
   ·subst h7; by_cases h6:b.Kind=0 <;>simp [h3,h4,h6,g3,g4]
   ·have:¬ fn<=1:=by omega
    simp [h1,h2,h3,h4,h5,h7,this,g1,g2,g3,g4]
theorem zbeC (fn:Int) (l:yE) (op:Int) (b:Value) (h:l.length<=1000000):zzT fn l op b=(true,zDv fn l op b):=by
 unfold zzT zX6 zDv
 have hl:zI2 (fn.toNat +l.length+Int.toNat (0:Int)+(1:Nat)) fn l (0:Int) b=(true,bif l.all (zOc fn b) then .inr () else .inl false):=by
  have:=zdW (W:=zIA) (z:=.inl default) l.length (λk=>(fn,l,(),(k:Int),())) (λ_=>(b,())) (λk=>zOc fn b (l.getD k default)) (.inl false) (.inr ())
   (λk hk H K D=>by
    show (zw7 fn l k b).ev H K D=_;unfold zw7 zOc;simp only [Wy.ev_i,Wy.ev_k,Wy.ev_h,Wy.ev_bn,Wy.ev_d,tT,hk,zTZ,zhe,zAg];rw [zN (by omega)]
    cases zwu (l.getD k default).Value <;>cases decide ((l.getD k default).Value.Kind=b.Kind) <;>cases decide (fn=0) <;>cases decide ((l.getD k default).Value.Int=1) <;>rfl)
   (λH K D=>by
    show (zw7 fn l l.length b).ev H K D=_;unfold zw7;simp only [Wy.ev_i,Wy.ev_k,Wy.ev_h,Wy.ev_bn,Wy.ev_d,tT,Nat.lt_irrefl]) (fn.toNat +l.length+Int.toNat (0:Int)+(1:Nat)) (by omega)
  rw [zBS] at this;exact this
 simp only [Wy.fin_i,Wy.fin_k,Wy.fin_bn,zTZ,hl,cond_true,zhe,zAg];by_cases h1:fn<0
 ·have:¬ (0<=fn):=by omega
  simp [h1,this]
 by_cases h2:3<fn
 ·have:¬ (fn<=3):=by omega
  simp [h1,h2,this]
 by_cases h3:op<5
 ·have:¬ (5<=op):=by omega
  simp [h1,h2,h3,this]
 by_cases h4:10<op
 ·have:¬ (op<=10):=by omega
  simp [h1,h2,h3,h4,this]
 have g1:0<=fn:=by omega
 have g2:fn<=3:=by omega
 have g3:5<=op:=by omega
 have g4:op<=10:=by omega
 cases zwu b with
 | false=>simp [h1,h2,h3,h4]
 | true=>
  by_cases h5:fn<=1
  ·by_cases h6:b.Kind=0
   ·cases l.all (zOc fn b) <;>simp [h1,h2,h3,h4,h5,h6,g1,g2,g3,g4,isL,getL]
   ·simp [h1,h2,h3,h4,h5,h6,g1,g2,g3,g4]
  ·cases l.all (zOc fn b) <;>simp [h1,h2,h3,h4,h5,g1,g2,g3,g4,isL,getL]
def bz (b:Value):Bool:=b.Kind==(0:Int)&&(b.Int==(0:Int)&&(b.Text.toList==(ByteArray.mk #[]).toList&&true))
def plA (x:At):Bool:=x.Func==0&&(x.Items.length==0)&&x.Op==0&&bz x.Bd
theorem zbkC (x:At):zqy x=(true,plA x):=by
 unfold zqy zYg plA;simp only [Wy.fin_i,Wy.fin_k,Int.ofNat_eq_natCast,i0];show _=(true,_&&_&&_&&bz x.Bd);rw [show (x.Bd.Kind==(0:Int)&&(x.Bd.Int==(0:Int)&&(x.Bd.Text.toList==(ByteArray.mk #[]).toList&&true)))=bz x.Bd from rfl]
 cases x.Func==0 <;>cases x.Items.length==0 <;>cases x.Op==0 <;>rfl
def zVN (l:yE) (k:Nat):Bool:=decide (k=0)||decide (zba (zbi (l.getD (k - 1) default)) (zbi (l.getD k default))<=0)
def zZ1 (l:yE):Bool:=zek (zVN l) l.length 0
theorem zbbF (c:Nat->Bool):∀ n i,zek c (n+1) i=(zek c n i&&c (i+n))
 | 0,i=>by simp [zek]
 | n+1,i=>by
  rw [zek,zbbF c n (i+1),zek,show i+1+n=i+(n+1) by omega,Bool.and_assoc]
theorem zYn {d:Nat} (l:yE) (hl:l.length<=1000000) (h:∀ w∈l,zm d w.Ann) (hd:d<=99):∀ (n i:Nat),i<l.length->i<n->zeC n l i=(true,bif zek (zVN l) (i+1) 0 then .inr () else .inl false)
 | 0,i,hi,hn=>by omega
 | n+1,i,hi,hn=>by
  show (zeD l i).ev (λx y=>zeC n x.1 x.2.2.1) (λr=>(true,r)) (false,.inl default)=_
  unfold zeD;have hg:decide ((i:Int)>(0:Int))=decide (0<i):=zrH i 0;cases i with
  | zero=>simp [Wy.ev_i,Wy.ev_k,zek,zVN]
  | succ i=>
   have hi':i<l.length:=by omega
   have hw:IntKind.i64.wrap (((i+1:Nat):Int) - 1)=(i:Int):=by rw [zBY (by omega) (by omega)]; rfl
   have hp:decide (0<i+1)=true:=by simp
   simp only [Wy.ev_i,Wy.ev_k,Wy.ev_h,Wy.ev_bn,Wy.ev_d,hg,hp,hw,tT,hi,hi',zki (h _ (zr hi)) hd];rw [zYn l hl h hd n i hi' (by omega),zbbF _ (i+1),Nat.zero_add]
   have:zVN l (i+1)= !decide (zba (zbi (l.getD (i+1) default)) (zbi (l.getD i default))<0):=by
    unfold zVN;rw [show i+1 - 1=i from rfl,zg1 (zbi (l.getD (i+1) default)) (zbi (l.getD i default))]
    generalize zba (zbi (l.getD (i+1) default)) (zbi (l.getD i default))=z;by_cases hz:z<0
    ·have:¬ (-z<=0):=by omega
     simp [hz,this]
    ·have:(-z<=0):=by omega
     simp [hz,this]
   rw [this];cases decide (zba (zbi (l.getD (i+1) default)) (zbi (l.getD i default))<0) <;>simp
theorem zbfZ {d:Nat} (l:yE) (hl:l.length<=1000000) (h:∀ w∈l,zm d w.Ann) (hd:d<=99):zcw l=(true,zZ1 l):=by
 unfold zcw zhX zZ1
 match l,hl,h with
 | [],_,_=>rfl
 | x::r,hl,h=>
  have hw:IntKind.i64.wrap (Int.ofNat (x::r).length - 1)=(r.length:Int):=by
   rw [qf] at hl;rw [show Int.ofNat (x::r).length=(((x::r).length:Nat):Int) from rfl,zBY (by simp) (by simp; omega)]; rfl
  rw [Wy.fin_bn,hw,zYn (x::r) hl h hd _ r.length (by simp) (by simp; omega)]
  cases zek (zVN (x::r)) (r.length+1) 0 with
  | true=>simp [Wy.fin_i,Wy.fin_k,isL]
  | false=>simp [Wy.fin_i,Wy.fin_k,isL,getL]
def rz (r:RowID):Bool:=r.Table==(0:Int)&&(r.Seq==(0:Int)&&true)
def zrO (V:yC->Bool) (l:yA):Bool:=l.all λa=>V a&& !(a.length==0)
def zE9 (V:yC->Bool) (l:yE):Bool:=l.all λw=>V w.Ann&& !(w.Ann.length==0)
def zCH (r:RowID):Bool:=decide (r.Table≥1)&&decide (r.Seq≥1)
def zJI (p:yC->Bool):yA->Bool
 | [a]=>p a
 | _=>false
def z8X (p:yC->yC->Bool):yA->Bool
 | [a,b]=>p a b
 | _=>false
def zd8 (V:yC->Bool) (x:At):Bool:=
 zrO V x.Ag&&
 if x.Kind=0 then plA x&&zCH x.Row&&(x.Ag.length==0)
 else rz x.Row&&
  if x.Kind=1 then plA x&&z8X (λa b=> !decide (a=b)) x.Ag
  else if x.Kind=2 then plA x&&zJI (λa=> !isC a&& !isU a) x.Ag
  else if x.Kind=3 then plA x&&zJI (λa=> !zu5 a) x.Ag
  else if x.Kind=4 then (x.Ag.length==0)&&decide (0<x.Items.length)&&zE9 V x.Items&&zZ1 x.Items&&zDv x.Func x.Items x.Op x.Bd
  else false
def zSM (vat:At->Bool) (fs:yD) (k:Nat):Bool:=
 decide (1<=(fs.getD k default).Exp)&& !(((fs.getD k default).At.Kind==3||(fs.getD k default).At.Kind==4)&&(fs.getD k default).Exp != 1)&&
  (decide (k=0)||decide (zba (zdm (fs.getD (k - 1) default).At) (zdm (fs.getD k default).At)<0))&&vat (fs.getD k default).At
def okF (vat:At->Bool) (fs:yD):Bool:=zek (zSM vat fs) fs.length 0
def zG0 (vat:At->Bool) (a:yC) (i:Nat):Bool:=
 decide (1<=(a.getD i default).Cf)&&decide ((a.getD i default).Cf<=1152921504606846976)&&
  (decide (i=0)||decide (zbK (zbD (a.getD (i - 1) default).Fs) (zbD (a.getD i default).Fs)<0))&&okF vat (a.getD i default).Fs
def zAb (vat:At->Bool) (a:yC):Bool:=zfB a&&zek (zG0 vat a) a.length 0
def zbJ:Nat->yC->Bool
 | 0,_=>false
 | n+1,a=>zAb (zd8 (zbJ n)) a
theorem zGj (r:RowID):zrC r=(true,zCH r):=by
 unfold zrC zUe zCH;rw [Wy.fin_i,Wy.fin_k,Wy.fin_k];cases decide (r.Table≥1) <;>rfl
theorem zF4 {V:yC->Bool} {x:At} (h:zd8 V x=true):0<=x.Kind/\x.Kind<=4:=by
 unfold zd8 at h;by_cases h0:x.Kind=0
 ·omega
 by_cases h1:x.Kind=1
 ·omega
 by_cases h2:x.Kind=2
 ·omega
 by_cases h3:x.Kind=3
 ·omega
 by_cases h4:x.Kind=4
 ·omega
 simp [h0,h1,h2,h3,h4] at h
theorem zyj (l k:Nat):((Int.ofNat l)==(k:Int))=(l==k):=by
 rw [zhe,z5Y]; congr 1; simp; omega
section
variable (V:yC->Bool) (gW:yE->Bool×Bool) (gA:yA->Bool×Bool) (c1:yC->Bool×Bool) (c2:Wd->Bool×Bool)
theorem z9X (x:At) {d:Nat} (hx:zc3 (zm d) x) (hd:d<=99) (hA:gA x.Ag=(true, !zrO V x.Ag)) (hW:gW x.Items=(true, !zE9 V x.Items)):
  zjX gA c1 gW c2 x=(true,zd8 V x):=by
 have hS:=zbfZ x.Items hx.1.2.1 (λw hw=>(hx.2.2 w hw).2) hd
 have hF:=z78 x.Func x.Items x.Op x.Bd hx.1.2.1;have hE:∀ a∈x.Ag,∀ b,zie a b=(true,decide (a=b)):=λa ha b=>zAi (hx.2.1 a ha) (by omega) b
 have hC:∀ a∈x.Ag,zfe a=(true,zu5 a):=λa ha=>zUm a (by
  have:=hx.2.1 a ha;cases d with
  | zero=>exact this.elim
  | succ d=>have:=this.1; omega)
 obtain ⟨k,r,l,f,its,o,b⟩:=x;simp only at hA hW hS hF hE hC;unfold zjX zcm zd8 plA;simp only [zGj,hA,hW,hS,hF,Wy.fin_i,Wy.fin_k,Wy.fin_bn,cond_true]
 rw [show (b.Kind==(0:Int)&&(b.Int==(0:Int)&&(b.Text.toList==(ByteArray.mk #[]).toList&&true)))=bz b from rfl,
  show (r.Table==(0:Int)&&(r.Seq==(0:Int)&&true))=rz r from rfl,
  show (Int.ofNat its.length != 0)= !(its.length==0) from congrArg not (zyj its.length 0),show (f != 0)= !(f==0) from rfl,show (o != 0)= !(o==0) from rfl]
 generalize zrO V l=A at *;generalize zE9 V its=W at *;generalize bz b=B at *;generalize (f==0)=F at *;generalize (o==0)=O at *;generalize rz r=R at *;generalize zCH r=RO at *;generalize zZ1 its=S at *;generalize zDv f its o b=K at *;have hgt:decide (Int.ofNat its.length>0)=decide (0<its.length):=zrH its.length 0;rw [hgt];generalize (its.length==0)=I at *;generalize decide (0<its.length)=J at *;by_cases h0:k=0
 ·subst h0;simp only [zyj,show ((Int.ofNat l.length)==(0:Int))=(l.length==0) from zyj l.length 0]
  generalize (l.length==0)=L;cases F <;>cases I <;>cases O <;>cases B <;>cases A <;>cases RO <;>rfl
 by_cases h1:k=1
 ·subst h1
  match l,hE with
  | [],_=>cases F <;>cases I <;>cases O <;>cases B <;>cases A <;>cases R <;>rfl
  | [u],_=>cases F <;>cases I <;>cases O <;>cases B <;>cases A <;>cases R <;>rfl
  | [u,v],hE=>
   have e:=hE u (by simp) v
   simp only [List.getD,qf,List.length_nil,Int.toNat_zero,List.getElem?_cons_zero,List.getElem?_cons_succ,Option.getD,show Int.toNat 1=1 from rfl,z8X]
   simp only [e];generalize decide (u=v)=E;cases F <;>cases I <;>cases O <;>cases B <;>cases A <;>cases R <;>rfl
  | u::v::w::l,_=>
   have e:((Int.ofNat (u::v::w::l).length)==(2:Int))=false:=by rw [beq_eq_false_iff_ne]; simp; omega
   simp only [e];cases F <;>cases I <;>cases O <;>cases B <;>cases A <;>cases R <;>rfl
 by_cases h2:k=2
 ·subst h2
  match l with
  | []=>cases F <;>cases I <;>cases O <;>cases B <;>cases A <;>cases R <;>rfl
  | [u]=>
   simp only [List.getD,qf,List.length_nil,Int.toNat_zero,List.getElem?_cons_zero,Option.getD,zJI,zX8,zbbD];generalize isC u=E;generalize isU u=E';cases F <;>cases I <;>cases O <;>cases B <;>cases A <;>cases R <;>cases E <;>cases E' <;>rfl
  | u::v::l=>
   simp only [zPk];cases F <;>cases I <;>cases O <;>cases B <;>cases A <;>cases R <;>rfl
 by_cases h3:k=3
 ·subst h3
  match l,hC with
  | [],_=>cases F <;>cases I <;>cases O <;>cases B <;>cases A <;>cases R <;>rfl
  | [u],hC=>
   have e:=hC u (by simp)
   simp only [List.getD,qf,List.length_nil,Int.toNat_zero,List.getElem?_cons_zero,Option.getD,zJI];simp only [e];generalize zu5 u=E;cases F <;>cases I <;>cases O <;>cases B <;>cases A <;>cases R <;>cases E <;>rfl
  | u::v::l,_=>
   simp only [zPk];cases F <;>cases I <;>cases O <;>cases B <;>cases A <;>cases R <;>rfl
 by_cases h4:k=4
 ·subst h4;simp only [show ((Int.ofNat l.length)==(0:Int))=(l.length==0) from zyj l.length 0]
  generalize (l.length==0)=L;cases A <;>cases W <;>cases L <;>cases J <;>cases S <;>cases K <;>cases R <;>rfl
 simp only [zhe,h0,h1,h2,h3,h4,decide_false,if_false,cond_false];cases F <;>cases I <;>cases O <;>cases B <;>cases A <;>cases R <;>rfl
end
section
variable (V:yC->Bool) (g:yC->Bool×Bool)
theorem zboc (x:At) (hl:x.Ag.length<=1000000) (hg:∀ a∈x.Ag,g a=(true,V a)) (n:Nat) (hn:x.Ag.length<n):zyp g n 0 x=(true,bif zrO V x.Ag then .inr x else .inl false):=by
 have:=zdW (W:=zyh g) (z:=.inl default) x.Ag.length (λi=>((),(i:Int),())) (λ_=>(x,())) (λi=>(λa:yC=>V a&& !(a.length==0)) (x.Ag.getD i default)) (.inl false) (.inr x)
  (λi hi H K D=>by
   show (zli g i x).ev H K D=_;unfold zli;have hL:decide ((i:Int)<Int.ofNat x.Ag.length)=true:=by simp [hi]
   simp only [Wy.ev_i,Wy.ev_k,Wy.ev_h,Wy.ev_bn,Wy.ev_d,hL,zfq,Bool.and_self,cond_true,Int.toNat_natCast,hg _ (zr hi)];rw [zN (by omega),show (Int.ofNat (x.Ag.getD i default).length==(0:Int))=((x.Ag.getD i default).length==0) from zyj _ 0]
   cases V (x.Ag.getD i default) <;>cases ((x.Ag.getD i default).length==0) <;>rfl)
  (λH K D=>by
   show (zli g x.Ag.length x).ev H K D=_;unfold zli;have hL:decide ((x.Ag.length:Int)<Int.ofNat x.Ag.length)=false:=by simp
   simp only [Wy.ev_i,Wy.ev_k,hL,cond_false]) n hn
 rw [zBS (λa:yC=>V a&& !(a.length==0))] at this
 exact this
theorem zbdl {τ:Type} [Inhabited τ] (l:List τ) (i:Nat) (h:i<l.length):List.take 1 (List.drop i l)=[l.getD i default]:=by
 rw [zbx h]; rfl
theorem zbla (x y:TT):zbK [x] [y]=zba x y:=by
 simp only [zbK];split
 ·rename_i h; exact h.symm
 ·rfl
theorem zbnw (x:At) {d:Nat} (hx:zc3 (zm d) x) (hd:d<=99) (hg:∀ a∈x.Items,g a.Ann=(true,V a.Ann)) (n:Nat) (hn:x.Items.length<n):zE5 g n 0 x=(true,bif zE9 V x.Items&&zZ1 x.Items then .inr () else .inl false):=by
 have hl:x.Items.length<=1000000:=hx.1.2.1
 have:=zdW (W:=zwQ g) (z:=.inl default) x.Items.length (λi=>((),(i:Int),())) (λ_=>(x,())) (λi=>(λw:Wd=>V w.Ann&& !(w.Ann.length==0)) (x.Items.getD i default)&&zVN x.Items i) (.inl false) (.inr ())
  (λi hi H K D=>by
   show (zky g i x).ev H K D=_;unfold zky;have hL:decide ((i:Int)<Int.ofNat x.Items.length)=true:=by simp [hi]
   simp only [Wy.ev_i,Wy.ev_k,Wy.ev_h,Wy.ev_bn,Wy.ev_d,hL,zfq,Bool.and_self,cond_true,Int.toNat_natCast,hg _ (zr hi)];rw [zN (by omega),show (Int.ofNat (x.Items.getD i default).Ann.length==(0:Int))=((x.Items.getD i default).Ann.length==0) from zyj _ 0]
   cases V (x.Items.getD i default).Ann <;>cases ((x.Items.getD i default).Ann.length==0) <;>try rfl
   simp only [cond_true,cond_false,Bool.not_true,Bool.not_false,Bool.and_self,Bool.true_and];cases i with
   | zero=>rfl
   | succ i=>
    have hi':i<x.Items.length:=by omega
    have hw:IntKind.i64.wrap (((i+1:Nat):Int) - 1)=(i:Int):=by rw [zBY (by omega) (by omega)]; rfl
    have e1:(decide ((0:Int)<=(i:Int))&&decide ((i:Int)<=((i+1:Nat):Int))&&decide (((i+1:Nat):Int)<=Int.ofNat x.Items.length))=true:=by
     simp; try omega
    have e2:(decide (((i+1:Nat):Int)<=((i+1+1:Nat):Int))&&decide (((i+1+1:Nat):Int)<=Int.ofNat x.Items.length))=true:=by
     simp; try omega
    have e3:decide (((i+1:Nat):Int)>0)=true:=by simp; try omega
    simp only [hw,e1,e2,e3,cond_true,Bool.true_and,Int.toNat_natCast,show i+1 - i=1 by omega,show i+1+1 - (i+1)=1 by omega,zbdl _ _ hi,zbdl _ _ hi']
    rw [zFb (d:=d) (by simp) (λw hw=>by
     rw [qh] at hw; subst hw; exact (hx.2.2 _ (zr hi')).2) hd,znl,znl]
    simp only [List.map,zbla,cond_true,zVN,show i+1 - 1=i from rfl]
    have e4:decide (i+1=0)=false:=by simp
    rw [e4,Bool.false_or];generalize zba (zbi (x.Items.getD i default)) (zbi (x.Items.getD (i+1) default))=z;by_cases hz:z>0
    ·have:¬ z<=0:=by omega
     simp only [hz,this,decide_true,decide_false,cond_true,cond_false]
    ·have:z<=0:=by omega
     simp only [hz,this,decide_true,decide_false,cond_true,cond_false])
  (λH K D=>by
   show (zky g x.Items.length x).ev H K D=_;unfold zky;have hL:decide ((x.Items.length:Int)<Int.ofNat x.Items.length)=false:=by simp
   simp only [Wy.ev_i,Wy.ev_k,hL,cond_false]) n hn
 rw [zbfv (λi=>(λw:Wd=>V w.Ann&& !(w.Ann.length==0)) (x.Items.getD i default)),zBS (λw:Wd=>V w.Ann&& !(w.Ann.length==0))] at this
 exact this
theorem z28 {A ρ:Type} (s:A) (k:A->Wy0 ρ) (z:ρ):(Wy.bn (true,s) k).fin z=(k s).fin z:=rfl
theorem z8A (x:At) {d:Nat} (hx:zc3 (zm d) x) (hd:d<=99) (h10:x.Items.length<=1024) (hV:∀ a,V a=true->isB a=isU a) (hgA:∀ a∈x.Ag,g a=(true,V a)) (hgI:∀ a∈x.Items,g a.Ann=(true,V a.Ann)):
  zpy g x=(true,zd8 V x):=by
 have hS:=λn hn=>zbnw V g x hx hd hgI n hn
 have hA:=λn hn=>zboc V g x hx.1.1 hgA n hn
 have hF:=zbeC x.Func x.Items x.Op x.Bd hx.1.2.1;have hE:∀ a∈x.Ag,∀ b,ziN a b=(true,decide (a=b)):=λa ha b=>zEo (hx.2.1 a ha) (by omega) b
 have hC:∀ a∈x.Ag,ziI a=(true,zu5 a):=λa ha=>zpc a (by
  have:=hx.2.1 a ha;cases d with
  | zero=>exact this.elim
  | succ d=>have:=this.1; omega)
 have hP:=zbkC x;unfold zpy zIm zd8;obtain ⟨s,hs1,hs2⟩:∃ s,zyp g (Int.toNat (0:Int)+x.Ag.length+x.Items.length+(1:Nat)) 0 x=(true,s)/\s=bif zrO V x.Ag then .inr x else .inl false:=⟨_,hA _ (by omega),rfl⟩
 rw [At.eta,hP,hs1];simp only [Wy.fin_i,Wy.fin_k,z28];simp only [Wy.fin_i,Wy.fin_k,Wy.fin_bn,cond_true];rw [show (x.Row.Table==(0:Int)&&(x.Row.Seq==(0:Int)&&true))=rz x.Row from rfl]
 have b0:(x.Kind==(0:Int))=decide (x.Kind=0):=zhe _ _;have b1:(x.Kind==(1:Int))=decide (x.Kind=1):=zhe _ _;have b2:(x.Kind==(2:Int))=decide (x.Kind=2):=zhe _ _;have b3:(x.Kind==(3:Int))=decide (x.Kind=3):=zhe _ _;have b4:(x.Kind==(4:Int))=decide (x.Kind=4):=zhe _ _;by_cases h0:x.Kind=0
 ·rw [b0];simp only [h0,decide_true,cond_true,if_true];rw [show (Int.ofNat x.Ag.length==(0:Int))=(x.Ag.length==0) from zyj _ 0]
  unfold zCH
  match hl:x.Ag with
  | []=>cases decide (x.Row.Table≥1) <;>cases decide (x.Row.Seq≥1) <;>cases plA x <;>rfl
  | u::l=>cases decide (x.Row.Table≥1) <;>cases decide (x.Row.Seq≥1) <;>cases plA x <;>cases zrO V (u::l) <;>rfl
 rw [b0];simp only [h0,decide_false,cond_false,if_false];cases hA:zrO V x.Ag with
 | false=>rw [hs2,hA]; cases rz x.Row <;>rfl
 | true=>
 rw [hA,cond_true] at hs2;have hy:getR s=x:=by rw [hs2]; rfl
 have hy2:isL s=false:=by rw [hs2]; rfl
 rw [hy2];generalize getR s=y at hy ⊢;subst hy;cases rz y.Row with
 | false=>rfl
 | true=>
 simp only [Bool.not_true,cond_false,cond_true,isL,getR,Bool.true_and,At.eta,hP,hF,b1,b2,b3,b4];by_cases h1:y.Kind=1
 ·simp only [h1,decide_true,cond_true,if_true]
  match hl:y.Ag with
  | []=>cases plA y <;>rfl
  | [u]=>cases plA y <;>rfl
  | [u,v]=>
   have e:=hE u (by rw [hl]; simp) v
   simp only [List.getD,qf,List.length_nil,Int.toNat_zero,List.getElem?_cons_zero,List.getElem?_cons_succ,Option.getD,show Int.toNat 1=1 from rfl,z8X]
   simp only [e];generalize decide (u=v)=E;cases plA y <;>rfl
  | u::v::w::l=>
   have e:((Int.ofNat (u::v::w::l).length)==(2:Int))=false:=by rw [beq_eq_false_iff_ne]; simp; omega
   simp only [e];cases plA y <;>rfl
 simp only [h1,decide_false,cond_false,if_false];by_cases h2:y.Kind=2
 ·simp only [h2,decide_true,cond_true,if_true]
  match hl:y.Ag with
  | []=>cases plA y <;>rfl
  | [u]=>
   have e:=hC u (by rw [hl]; simp)
   have eV:V u=true:=by
    rw [hl] at hA;unfold zrO at hA;simp at hA;exact hA.1
   simp only [List.getD,qf,List.length_nil,Int.toNat_zero,List.getElem?_cons_zero,Option.getD,zJI,zHd,e,hV u eV]
   match u with
   | []=>cases plA y <;>rfl
   | [t]=>
    have e1:zu5 [t]=(t.Fs.length==0):=by simp [zu5]
    have e2:isC [t]=(t.Fs.length==0):=rfl;rw [e1,e2];cases plA y <;>cases (t.Fs.length==0) <;>cases isU [t] <;>rfl
   | t::s::r=>
    simp only [zPk];cases plA y <;>rfl
  | u::v::l=>
   simp only [zPk];cases plA y <;>rfl
 simp only [h2,decide_false,cond_false,if_false];by_cases h3:y.Kind=3
 ·simp only [h3,decide_true,cond_true,if_true]
  match hl:y.Ag with
  | []=>cases plA y <;>rfl
  | [u]=>
   have e:=hC u (by rw [hl]; simp)
   simp only [List.getD,qf,List.length_nil,Int.toNat_zero,List.getElem?_cons_zero,Option.getD,zJI];simp only [e];cases plA y <;>cases zu5 u <;>rfl
  | u::v::l=>
   simp only [zPk];cases plA y <;>rfl
 simp only [h3,decide_false,cond_false,if_false];by_cases h4:y.Kind=4
 ·have e10:decide (Int.ofNat y.Items.length>(1024:Int))=false:=by simp; omega
  rw [hS _ (by omega)]
  rw [e10];simp only [h4,decide_true,cond_true,if_true,cond_false];rw [show (Int.ofNat y.Ag.length != (0:Int))= !(y.Ag.length==0) from congrArg not (zyj y.Ag.length 0),show (Int.ofNat y.Items.length==(0:Int))=(y.Items.length==0) from zyj y.Items.length 0]
  have e11:decide (0<y.Items.length)= !(y.Items.length==0):=by
   rw [z5Y];by_cases h:y.Items.length=0
   ·simp [h]
   ·have:0<y.Items.length:=by omega
    simp [h,this]
  rw [e11];cases (y.Ag.length==0) <;>cases (y.Items.length==0) <;>cases zDv y.Func y.Items y.Op y.Bd <;>cases zE9 V y.Items <;>cases zZ1 y.Items <;>rfl
 simp only [h4,decide_false,cond_false,if_false]
end
section
variable (V:yC->Bool) (vat:At->Bool)
theorem V_9 (g:At->Bool×Bool) (a t10:yC) (t11 t12:Int) (t:Term) {d:Nat} (ht:zbO (zm d) t.Fs) (hd:d<=99) (hg:∀ f∈t.Fs,g f.At=(true,vat f.At)) (n:Nat) (hn:t.Fs.length<n):
  zwI g n a t10 t11 t12 t.Fs t.Fs.length 0 t=(true,bif okF vat t.Fs then .inr (a,t10,t11,t12) else .inl false):=by
 have hl:=ht.1
 exact zdW (W:=zwz g) (z:=.inl default) t.Fs.length (λk=>(a,(),t10,t11,t12,t.Fs,(t.Fs.length:Int),(k:Int),())) (λ_=>(t,())) (zSM vat t.Fs) (.inl false) (.inr (a,t10,t11,t12))
  (λk hk H K D=>by
   show (zkM g a t10 t11 t12 t.Fs t.Fs.length k t).ev H K D=_;unfold zkM zSM
   have hgt:decide ((k:Int)>0)= !decide (k=0):=by
    by_cases h:k=0
    ·subst h; rfl
    ·have:0<k:=by omega
     simp [h,this]
   simp only [At.eta,Wy.ev_i,Wy.ev_k,Wy.ev_h,Wy.ev_bn,Wy.ev_d,tT,hk,zbba,hg _ (zr hk),hgt];rw [zN (by omega)]
   have e1:decide ((t.Fs.getD k default).Exp<1)= !decide (1<=(t.Fs.getD k default).Exp):=by
    by_cases h:1<=(t.Fs.getD k default).Exp
    ·have:¬ (t.Fs.getD k default).Exp<1:=by omega
     simp only [h,this,decide_true,decide_false,Bool.not_true]
    ·have:(t.Fs.getD k default).Exp<1:=by omega
     simp only [h,this,decide_true,decide_false,Bool.not_false]
   rw [e1];generalize decide (1<=(t.Fs.getD k default).Exp)=E1;generalize ((t.Fs.getD k default).Exp != 1)=E2;generalize ((t.Fs.getD k default).At.Kind==3||(t.Fs.getD k default).At.Kind==4)=E3;by_cases h0:k=0
   ·simp only [h0,decide_true,Bool.not_true,cond_false,Bool.true_or,Bool.and_true];cases E1 <;>cases E2 <;>cases E3 <;>cases vat (t.Fs.getD 0 default).At <;>rfl
   ·have hp:IntKind.i64.wrap ((k:Int) - 1)=((k - 1:Nat):Int):=zBY (by omega) (by omega)
    have hk':k - 1<t.Fs.length:=by omega
    have hfx:zc3 (zm d) (t.Fs.getD (k - 1) default).At:=ht.2 _ (zr hk')
    have e2:∀ z:Int,decide (z≥0)= !decide (z<0):=λz=>by
     by_cases h:z<0
     ·have:¬ z≥0:=by omega
      simp [h,this]
     ·have:z≥0:=by omega
      simp [h,this]
    simp only [h0,hp,tT,hk',zzn hfx hd,e2,Bool.false_or];generalize decide (zba (zdm (t.Fs.getD (k - 1) default).At) (zdm (t.Fs.getD k default).At)<0)=E4;cases E1 <;>cases E2 <;>cases E3 <;>cases E4 <;>cases vat (t.Fs.getD k default).At <;>rfl)
  (λH K D=>by
   show (zkM g a t10 t11 t12 t.Fs t.Fs.length t.Fs.length t).ev H K D=_;unfold zkM;simp only [Wy.ev_i,Wy.ev_k,tT,Nat.lt_irrefl]) n hn
theorem V_4 (g:At->Bool×Bool) (a:yC) {d:Nat} (h:zm (d+1) a) (hd:d<=99) (hg:∀ t∈a,∀ f∈t.Fs,g f.At=(true,vat f.At)) (n:Nat) (hn:a.length<n):
  zFe g n a a a.length 0=(true,bif zek (zG0 vat a) a.length 0 then .inr () else .inl false):=by
 have hl:=h.1
 exact zdW (W:=zwx g) (z:=.inl default) a.length (λk=>(a,a,(a.length:Int),(k:Int),())) (λ_=>()) (zG0 vat a) (.inl false) (.inr ())
  (λk hk H K D=>by
   show (zkC g a a a.length k).ev H K D=_;unfold zkC zG0;have ht:=h.2 _ (zr hk)
   have hgt:decide ((k:Int)>0)= !decide (k=0):=by
    by_cases h:k=0
    ·subst h; rfl
    ·have:0<k:=by omega
     simp [h,this]
   simp only [At.eta,Wy.ev_i,Wy.ev_k,Wy.ev_h,Wy.ev_bn,Wy.ev_d,tT,hk,hgt];rw [V_9 vat g a a a.length k _ ht hd (hg _ (zr hk)) _ (by omega)]
   have e1:decide ((a.getD k default).Cf<1)= !decide (1<=(a.getD k default).Cf):=by
    by_cases h:1<=(a.getD k default).Cf
    ·have:¬ (a.getD k default).Cf<1:=by omega
     simp only [h,this,decide_true,decide_false,Bool.not_true]
    ·have:(a.getD k default).Cf<1:=by omega
     simp only [h,this,decide_true,decide_false,Bool.not_false]
   have e3:decide ((a.getD k default).Cf>1152921504606846976)= !decide ((a.getD k default).Cf<=1152921504606846976):=by
    by_cases h:(a.getD k default).Cf<=1152921504606846976
    ·have:¬ (a.getD k default).Cf>1152921504606846976:=by omega
     simp only [h,this,decide_true,decide_false,Bool.not_true]
    ·have:(a.getD k default).Cf>1152921504606846976:=by omega
     simp only [h,this,decide_true,decide_false,Bool.not_false]
   rw [e1,e3];generalize decide (1<=(a.getD k default).Cf)=E1;generalize decide ((a.getD k default).Cf<=1152921504606846976)=E2;by_cases h0:k=0
   ·subst h0;simp only [decide_true,Bool.not_true,cond_false,Bool.true_or,Bool.and_true];cases okF vat (a.getD 0 default).Fs <;>cases E1 <;>cases E2 <;>try rfl
   ·have hp:IntKind.i64.wrap ((k:Int) - 1)=((k - 1:Nat):Int):=zBY (by omega) (by omega)
    have hk':k - 1<a.length:=by omega
    have hfx:zbO (zm d) (a.getD (k - 1) default).Fs:=h.2 _ (zr hk')
    have e2:∀ z:Int,decide (z≥0)= !decide (z<0):=λz=>by
     by_cases h:z<0
     ·have:¬ z≥0:=by omega
      simp [h,this]
     ·have:z≥0:=by omega
      simp [h,this]
    simp only [h0,hp,tT,hk',zzc hfx hd,e2,Bool.false_or];generalize decide (zbK (zbD (a.getD (k - 1) default).Fs) (zbD (a.getD k default).Fs)<0)=E4;cases okF vat (a.getD k default).Fs <;>cases E1 <;>cases E2 <;>cases E4 <;>try rfl
    simp only [cond_true,cond_false,Bool.not_true,isL,getR,Bool.and_self];rw [zN (by omega),decide_eq_false (show ¬ ((k - 1:Nat):Int)<0 by omega)]; rfl)
  (λH K D=>by
   show (zkC g a a a.length a.length).ev H K D=_;unfold zkC;simp only [Wy.ev_i,Wy.ev_k,tT,Nat.lt_irrefl]) n hn
theorem zbih (g:At->Bool×Bool) (a:yC) {d:Nat} (h:zm (d+1) a) (hd:d<=99) (hs:zK a<=4611686018427387904) (hg:∀ t∈a,∀ f∈t.Fs,g f.At=(true,vat f.At)):zn4 g a=(true,zAb vat a):=by
 unfold zn4 zHj zAb;have:=V_4 vat g a h hd hg (a.length+a.length+(Int.ofNat a.length).toNat +Int.toNat (0:Int)+(1:Nat)) (by omega)
 rw [show Int.ofNat a.length=(a.length:Int) from rfl] at *
 simp only [Wy.fin_i,Wy.fin_k,Wy.fin_bn,zbbY h (by omega) hs,this,cond_true]
 cases zfB a <;>cases zek (zG0 vat a) a.length 0 <;>rfl
theorem zbok (g:At->Bool×Bool) (a:yC) (i:Int) (t:Term) {d:Nat} (ht:zbO (zm d) t.Fs) (hd:d<=99) (hg:∀ f∈t.Fs,g f.At=(true,vat f.At)) (hk:∀ x,vat x=true->0<=x.Kind/\x.Kind<=4) (n:Nat) (hn:t.Fs.length<n):
  zDr g n a i 0 t=(true,bif okF vat t.Fs then .inr (a,i) else .inl false):=by
 have hl:=ht.1
 exact zdW (W:=zDt g) (z:=.inl default) t.Fs.length (λk=>(a,i,(),(k:Int),())) (λ_=>(t,())) (zSM vat t.Fs) (.inl false) (.inr (a,i))
  (λk hk1 H K D=>by
   show (zpj g a i k t).ev H K D=_;unfold zpj zSM
   have hgt:decide ((k:Int)>0)= !decide (k=0):=by
    by_cases h:k=0
    ·subst h; rfl
    ·have:0<k:=by omega
     simp [h,this]
   simp only [At.eta,Wy.ev_i,Wy.ev_k,Wy.ev_h,Wy.ev_bn,Wy.ev_d,tT,hk1,hg _ (zr hk1),hgt];rw [zN (by omega)]
   have hk2:=hk (t.Fs.getD k default).At
   have e1:decide ((t.Fs.getD k default).Exp<1)= !decide (1<=(t.Fs.getD k default).Exp):=by
    by_cases h:1<=(t.Fs.getD k default).Exp
    ·have:¬ (t.Fs.getD k default).Exp<1:=by omega
     simp only [h,this,decide_true,decide_false,Bool.not_true]
    ·have:(t.Fs.getD k default).Exp<1:=by omega
     simp only [h,this,decide_true,decide_false,Bool.not_false]
   rw [e1];by_cases hx1:1<=(t.Fs.getD k default).Exp
   rotate_left
   ·simp only [hx1,decide_false,Bool.not_false,cond_true,Bool.false_and,cond_false]
   cases hv:vat (t.Fs.getD k default).At with
   | false=>
    rw [Bool.and_false];cases decide (1<=(t.Fs.getD k default).Exp) <;>cases decide ((t.Fs.getD k default).Exp>1) <;>cases decide ((t.Fs.getD k default).At.Kind≥3) <;>rfl
   | true=>
   obtain ⟨k1,k2⟩:=hk2 hv
   have e5:((t.Fs.getD k default).At.Kind==3||(t.Fs.getD k default).At.Kind==4)=decide ((t.Fs.getD k default).At.Kind≥3):=by
    rw [zhe,zhe, <- Bool.decide_or];congr 1;apply propext; omega
   have e6:((t.Fs.getD k default).Exp != 1)=decide ((t.Fs.getD k default).Exp>1):=by
    rw [zAg, <- decide_not];congr 1;apply propext; omega
   rw [e5,e6];simp only [hx1,decide_true,Bool.not_true,cond_false,Bool.true_and];generalize decide ((t.Fs.getD k default).Exp>1)=E2;generalize decide ((t.Fs.getD k default).At.Kind≥3)=E3;by_cases h0:k=0
   ·simp only [h0,decide_true,Bool.not_true,cond_false,Bool.true_or,Bool.and_true];cases E2 <;>cases E3 <;>rfl
   ·have hp:IntKind.i64.wrap ((k:Int) - 1)=((k - 1:Nat):Int):=zBY (by omega) (by omega)
    have hk':k - 1<t.Fs.length:=by omega
    have hfx:zc3 (zm d) (t.Fs.getD (k - 1) default).At:=ht.2 _ (zr hk')
    have e2:∀ z:Int,decide (z≥0)= !decide (z<0):=λz=>by
     by_cases h:z<0
     ·have:¬ z≥0:=by omega
      simp [h,this]
     ·have:z≥0:=by omega
      simp [h,this]
    simp only [h0,hp,tT,hk',zpS hfx hd,e2,Bool.false_or];generalize decide (zba (zdm (t.Fs.getD (k - 1) default).At) (zdm (t.Fs.getD k default).At)<0)=E4;cases E2 <;>cases E3 <;>cases E4 <;>rfl)
  (λH K D=>by
   show (zpj g a i t.Fs.length t).ev H K D=_;unfold zpj;simp only [Wy.ev_i,Wy.ev_k,tT,Nat.lt_irrefl]) n hn
theorem zboA (g:At->Bool×Bool) (a:yC) {d:Nat} (h:zm (d+1) a) (hd:d<=99) (hg:∀ t∈a,∀ f∈t.Fs,g f.At=(true,vat f.At)) (hk:∀ x,vat x=true->0<=x.Kind/\x.Kind<=4) (n:Nat) (hn:a.length<n):
  zOr g n a 0=(true,bif zek (zG0 vat a) a.length 0 then .inr () else .inl false):=by
 have hl:=h.1
 exact zdW (W:=zED g) (z:=.inl default) a.length (λk=>(a,(k:Int),())) (λ_=>()) (zG0 vat a) (.inl false) (.inr ())
  (λk hk1 H K D=>by
   show (zrY g a k).ev H K D=_;unfold zrY zG0;have ht:=h.2 _ (zr hk1)
   have hgt:decide ((k:Int)>0)= !decide (k=0):=by
    by_cases h:k=0
    ·subst h; rfl
    ·have:0<k:=by omega
     simp [h,this]
   simp only [At.eta,Wy.ev_i,Wy.ev_k,Wy.ev_h,Wy.ev_bn,Wy.ev_d,tT,hk1,hgt];rw [zbok vat g a k _ ht hd (hg _ (zr hk1)) hk _ (by omega)]
   have e1:decide ((a.getD k default).Cf<1)= !decide (1<=(a.getD k default).Cf):=by
    by_cases h:1<=(a.getD k default).Cf
    ·have:¬ (a.getD k default).Cf<1:=by omega
     simp only [h,this,decide_true,decide_false,Bool.not_true]
    ·have:(a.getD k default).Cf<1:=by omega
     simp only [h,this,decide_true,decide_false,Bool.not_false]
   have e3:decide ((a.getD k default).Cf>1152921504606846976)= !decide ((a.getD k default).Cf<=1152921504606846976):=by
    by_cases h:(a.getD k default).Cf<=1152921504606846976
    ·have:¬ (a.getD k default).Cf>1152921504606846976:=by omega
     simp only [h,this,decide_true,decide_false,Bool.not_true]
    ·have:(a.getD k default).Cf>1152921504606846976:=by omega
     simp only [h,this,decide_true,decide_false,Bool.not_false]
   rw [e1,e3];generalize decide (1<=(a.getD k default).Cf)=E1;generalize decide ((a.getD k default).Cf<=1152921504606846976)=E2;by_cases h0:k=0
   ·subst h0;simp only [decide_true,Bool.not_true,cond_false,Bool.true_or,Bool.and_true];cases okF vat (a.getD 0 default).Fs <;>cases E1 <;>cases E2 <;>try rfl
   ·have hp:IntKind.i64.wrap ((k:Int) - 1)=((k - 1:Nat):Int):=zBY (by omega) (by omega)
    have hk':k - 1<a.length:=by omega
    have hfx:zbO (zm d) (a.getD (k - 1) default).Fs:=h.2 _ (zr hk')
    have e2:∀ z:Int,decide (z≥0)= !decide (z<0):=λz=>by
     by_cases h:z<0
     ·have:¬ z≥0:=by omega
      simp [h,this]
     ·have:z≥0:=by omega
      simp [h,this]
    simp only [h0,hp,tT,hk',ztq hfx hd,e2,Bool.false_or];generalize decide (zbK (zbD (a.getD (k - 1) default).Fs) (zbD (a.getD k default).Fs)<0)=E4;cases okF vat (a.getD k default).Fs <;>cases E1 <;>cases E2 <;>cases E4 <;>try rfl
    simp only [cond_true,cond_false,Bool.not_true,isL,getR,Bool.and_self];rw [zN (by omega),decide_eq_false (show ¬ ((k - 1:Nat):Int)<0 by omega)]; rfl)
  (λH K D=>by
   show (zrY g a a.length).ev H K D=_;unfold zrY;simp only [Wy.ev_i,Wy.ev_k,tT,Nat.lt_irrefl]) n hn
theorem zbf7 (g:At->Bool×Bool) (a:yC) {d:Nat} (h:zm (d+1) a) (hd:d<=99) (hs:zK a<=4611686018427387904) (hg:zfB a=true->∀ t∈a,∀ f∈t.Fs,g f.At=(true,vat f.At)) (hk:∀ x,vat x=true->0<=x.Kind/\x.Kind<=4):zzi g a=(true,zAb vat a):=by
 unfold zzi zRB zAb;rw [Wy.fin_bn,zbgw h (by omega) hs]
 cases hw:zfB a with
 | false=>rfl
 | true=>
  have:=zboA vat g a h hd (hg hw) hk ((a.length+Int.toNat (0:Int)+(1:Nat))+zbV a) (by omega)
  simp only [Wy.fin_i,Wy.fin_k,Wy.fin_bn,this,cond_true];cases zek (zG0 vat a) a.length 0 <;>rfl
end
theorem z5e {l:yA} {a:yC} (h:a∈l):zK a<=zfo l:=by
 induction l with
 | nil=>cases h
 | cons b r ih=>
  rw [zfa];rcases qd.1 h with rfl | h
  ·omega
  ·have:=ih h; omega
theorem z17 {l:yE} {w:Wd} (h:w∈l):zK w.Ann<=zdo l:=by
 induction l with
 | nil=>cases h
 | cons b r ih=>
  rw [zin];rcases qd.1 h with rfl | h
  ·omega
  ·have:=ih h; omega
theorem zPU {m:Nat} {a:yC} (h:zbJ m a=true):isB a=isU a:=by
 cases m with
 | zero=>cases h
 | succ m=>
 match a with
 | []=>rfl
 | [t]=>
  simp only [zbJ,zAb,qc] at h;have h1:=zdV.1 h.2 0 (by omega) (by simp)
  simp only [zG0,qc] at h1;have h2:=h1.2;obtain ⟨c,fs⟩:=t
  match fs with
  | []=>rfl
  | [f]=>
   have h3:=zdV.1 h2 0 (by omega) (by simp)
   simp only [zSM,qc] at h3;have h4:=zF4 h3.2;simp only [List.getD_cons_zero] at h4;show (c==1&&(f.Exp==1&&decide (2<=f.At.Kind)))=(c==1&&(f.Exp==1&&(f.At.Kind==2||f.At.Kind==3||f.At.Kind==4)))
   have e:decide (2<=f.At.Kind)=(f.At.Kind==2||f.At.Kind==3||f.At.Kind==4):=by
    rw [zhe,zhe,zhe, <- Bool.decide_or, <- Bool.decide_or];congr 1;apply propext; omega
   rw [e]
  | f::f'::r=>rfl
 | t::u::r=>rfl
theorem zbn6 (g) (l:yA):zcK g l=IG (λ(_:Unit) x=>g x) (l.length+(Int.ofNat l.length).toNat +Int.toNat (0:Int)+(1:Nat)) () l:=rfl
theorem zboj (g) (l:yE):zdf g l=IG (λ(_:Unit) x=>g x) (l.length+(Int.ofNat l.length).toNat +Int.toNat (0:Int)+(1:Nat)) () l:=rfl
theorem zRA:∀ n,
  (∀ d m a,zm d a->10*d<=n->d<=m->d<=100->zK a<=4611686018427387904->zkz n a=(true,zbJ m a))/\
  (∀ d m x,zc3 (zm d) x->10*d+9<=n->d<=m->d<=99->zfm x<=4611686018427387904->znx n x=(true,zd8 (zbJ m) x))/\
  (∀ d m a,zm d a->10*d+6<=n->d<=m->d<=99->zK a<=4611686018427387904->zfr n a=(true, !(zbJ m a&& !(a.length==0))))/\
  (∀ d m (w:Wd),zm d w.Ann->10*d+6<=n->d<=m->d<=99->zK w.Ann<=4611686018427387904->zfn n w=(true, !(zbJ m w.Ann&& !(w.Ann.length==0))))/\
  (∀ d m (l:yA),l.length<=1000000->(∀ a∈l,zm d a/\zK a<=4611686018427387904)->10*d+7<=n->d<=m->d<=99->zcM n l=(true,ixf (λa=> !(zbJ m a&& !(a.length==0))) l 0))/\
  (∀ d m (l:yA),l.length<=1000000->(∀ a∈l,zm d a/\zK a<=4611686018427387904)->10*d+8<=n->d<=m->d<=99->zcy n l=(true, !zrO (zbJ m) l))/\
  (∀ d m (l:yE),l.length<=1000000->(∀ a∈l,zm d a.Ann/\zK a.Ann<=4611686018427387904)->10*d+7<=n->d<=m->d<=99->zde n l=(true,ixf (λa=> !(zbJ m a.Ann&& !(a.Ann.length==0))) l 0))/\
  (∀ d m (l:yE),l.length<=1000000->(∀ a∈l,zm d a.Ann/\zK a.Ann<=4611686018427387904)->10*d+8<=n->d<=m->d<=99->zcS n l=(true, !zE9 (zbJ m) l))
 | 0=>by
  refine ⟨?_, ?_, ?_, ?_, ?_, ?_, ?_, ?_⟩
  ·intro d m a h hd; have:d=0:=by omega
   subst this; exact h.elim
  all_goals (intros; omega)
 | n+1=>by
  obtain ⟨h1,h2,h3,h4,h5,h6,h7,h8⟩:=zRA n;refine ⟨?_, ?_, ?_, ?_, ?_, ?_, ?_, ?_⟩
  ·intro d m a h hd hm hd2 hs;cases d with
   | zero=>exact h.elim
   | succ d=>
    cases m with
    | zero=>omega
    | succ m=>
     rw [zVl]
     exact zbih _ _ a h (by omega) hs λt ht f hf=>h2 d m f.At ((h.2 t ht).2 f hf) (by omega) (by omega) (by omega) (by
      have:=zbbp ht hf; rw [zhu]; omega)
  ·intro d m x h hd hm hd2 hs;rw [zNT];rw [zhu] at hs
   exact z9X _ _ _ _ _ x h hd2 (h6 d m _ h.1.1 (λa ha=>⟨h.2.1 a ha,by have:=z5e ha; omega⟩) (by omega) hm hd2)
    (h8 d m _ h.1.2.1 (λa ha=>⟨(h.2.2 a ha).2,by have:=z17 ha; omega⟩) (by omega) hm hd2)
  ·intro d m a h hd hm hd2 hs;rw [zIP];unfold zkV zx0;rw [Wy.fin_bn,h1 d m a h (by omega) hm (by omega) hs]
   simp only [cond_true,Wy.fin_i,Wy.fin_k,show (Int.ofNat a.length==(0:Int))=(a.length==0) from zyj a.length 0]
   cases zbJ m a <;>simp
  ·intro d m a h hd hm hd2 hs;rw [zIV];unfold zkX zxL;rw [Wy.fin_bn,h1 d m a.Ann h (by omega) hm (by omega) hs]
   simp only [cond_true,Wy.fin_i,Wy.fin_k,show (Int.ofNat a.Ann.length==(0:Int))=(a.Ann.length==0) from zyj a.Ann.length 0]
   cases zbJ m a.Ann <;>simp
  ·intro d m l hl h hd hm hd2;rw [zni,zbn6];exact zNh _ _ _ _ _ (by omega) (λx hx=>h3 d m x (h x hx).1 (by omega) hm hd2 (h x hx).2) (by omega)
  ·intro d m l hl h hd hm hd2;rw [zmc];unfold zcz zfx;rw [zlh (h5 d m l hl h (by omega) hm hd2)]
   simp [zrO,List.all_eq_not_any_not]
  ·intro d m l hl h hd hm hd2;rw [zps,zboj];exact zNh _ _ _ _ _ (by omega) (λx hx=>h4 d m x (h x hx).1 (by omega) hm hd2 (h x hx).2) (by omega)
  ·intro d m l hl h hd hm hd2;rw [znI];unfold zcP zgA;rw [zlh (h7 d m l hl h (by omega) hm hd2)]
   simp [zE9,List.all_eq_not_any_not]
theorem zbfM {a:yC} (h:zfB a=true) {t:Term} (ht:t∈a) {f:Fc} (hf:f∈t.Fs):f.At.Items.length<=1024/\f.Exp<=64/\t.Fs.length<=64:=by
 simp only [zfB,qc,List.all_eq_true] at h;have:=h.2 t ht;simp only [zEp,Bool.not_eq_true',Bool.or_eq_false_iff,decide_eq_false_iff_not,List.any_eq_false] at this;have h2:=this.2 f hf;simp at h2;omega
theorem z87:∀ n,
  (∀ d m a,zm d a->3*d<=n->d<=m->d<=100->zK a<=4611686018427387904->zzO n a=(true,zbJ m a))/\
  (∀ d m x,zc3 (zm d) x->3*d+2<=n->d<=m->d<=99->zfm x<=4611686018427387904->x.Items.length<=1024->zwc n x=(true,zd8 (zbJ m) x))
 | 0=>by
  refine ⟨?_, ?_⟩
  ·intro d m a h hd; have:d=0:=by omega
   subst this; exact h.elim
  ·intros; omega
 | n+1=>by
  obtain ⟨h1,h2⟩:=z87 n;refine ⟨?_, ?_⟩
  ·intro d m a h hd hm hd2 hs;cases d with
   | zero=>exact h.elim
   | succ d=>
    cases m with
    | zero=>omega
    | succ m=>
     rw [z7d]
     exact zbf7 _ _ a h (by omega) hs (λhw t ht f hf=>h2 d m f.At ((h.2 t ht).2 f hf) (by omega) (by omega) (by omega) (by
      have:=zbbp ht hf; rw [zhu]; omega) (zbfM hw ht hf).1) λx hx=>zF4 hx
  ·intro d m x h hd hm hd2 hs h10;rw [zWc];rw [zhu] at hs
   exact z8A _ _ x h hd2 h10 (λa ha=>zPU ha) (λa ha=>h1 d m a (h.2.1 a ha) (by omega) hm (by omega) (by have:=z5e ha; omega))
    λa ha=>h1 d m a.Ann (h.2.2 a ha).2 (by omega) hm (by omega) (by have:=z17 ha; omega)
def zF (a:yC):Bool:=zbJ 100 a
theorem zbbM {d:Nat} {a:yC} (h:zm d a) (hd:d<=100) (hs:zK a<=4611686018427387904):zca a=(true,zF a):=(zRA 1000).1 d 100 a h (by omega) hd hd hs
theorem z8S {d:Nat} {a:yC} (h:zm d a) (hd:d<=100) (hs:zK a<=4611686018427387904):zeR a=(true,zF a):=(z87 1000).1 d 100 a h (by omega) hd hd hs
end Go.Proofs.YtljlfiomikifjaaGreatDoor
end
