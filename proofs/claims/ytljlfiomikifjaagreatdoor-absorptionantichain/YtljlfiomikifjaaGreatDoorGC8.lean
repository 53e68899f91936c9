/- Texts of this claim, joined (the program, its functions in plain words, and what they compute). -/
import Derived.Test.YtljlfiomikifjaaGreatDoorGC7
set_option autoImplicit false
set_option linter.unusedVariables false
set_option linter.unusedSectionVars false
set_option linter.unusedSimpArgs false
set_option maxRecDepth 1000000
set_option maxHeartbeats 0
/- Small tests of annotations: searches, limits, kinds. -/
noncomputable section
namespace Go.Proofs.YtljlfiomikifjaaGreatDoor
open Go Go.Ab
def zfk (c:Nat->Bool):Nat->Nat->Bool
 | 0,_=>true
 | n+1,i=>c i&&zfk c n (i+1)
theorem zev {c:Nat->Bool}:∀ {n i},zfk c n i=true↔∀ k,i<=k->k<i+n->c k=true
 | 0,i=>⟨λ_ k h1 h2=>by omega,λ_=>rfl⟩
 | n+1,i=>by
  simp only [zfk,qc,zev (n:=n)];constructor
  ·rintro ⟨h1,h2⟩ k h3 h4
   by_cases e:k=i
   ·rw [e]; exact h1
   ·exact h2 k (by omega) (by omega)
  ·intro h;exact ⟨h i (by omega) (by omega),λk h1 h2=>h k (by omega) (by omega)⟩
theorem zbcD (c c':Nat->Bool):∀ n i,zfk (λk=>c k&&c' k) n i=(zfk c n i&&zfk c' n i)
 | 0,_=>rfl
 | n+1,i=>by
  simp only [zfk,zbcD c c' n (i+1)];cases c i <;>cases c' i <;>simp
theorem zbcF {τ:Type} [Inhabited τ] (p:τ->Bool) (l:List τ):∀ n i,i+n=l.length->zfk (λk=>p (l.getD k default)) n i=(l.drop i).all p
 | 0,i,h=>by rw [zdj (by omega)]; rfl
 | n+1,i,h=>by
  rw [zbC (by omega),List.all_cons]
  simp only [zfk,zbcF p l n (i+1) (by omega)]
theorem zCo {τ:Type} [Inhabited τ] (p:τ->Bool) (l:List τ):zfk (λk=>p (l.getD k default)) l.length 0=l.all p:=by
 rw [zbcF p l _ _ (by omega),List.drop_zero]
section
variable {α β ρ:Type}
theorem zbbo {W:α->β->Wy α β ρ} {z:ρ} (N:Nat) (ex:Nat->α) (ey:Nat->β) (c:Nat->Bool) (no yes:ρ)
  (h:∀ i,i<N->∀ (H:α->β->Bool×ρ) K D,(W (ex i) (ey i)).ev H K D=bif c i then H (ex (i+1)) (ey (i+1)) else K no)
  (he:∀ (H:α->β->Bool×ρ) K D,(W (ex N) (ey N)).ev H K D=K yes):
  ∀ n i,N<i+n->i<=N->zC W z n (ex i) (ey i)=(true,bif zfk c (N - i) i then yes else no)
 | 0,i,h1,h2=>by omega
 | n+1,i,h1,h2=>by
  show (W (ex i) (ey i)).ev (zC W z n) (λr=>(true,r)) (false,z)=_
  by_cases hi:i<N
  ·rw [h i hi,show N - i=(N - (i+1))+1 by omega]
   simp only [zfk];cases c i with
   | false=>rfl
   | true=>rw [cond_true,zbbo N ex ey c no yes h he n (i+1) (by omega) (by omega)]; rfl
  ·have:i=N:=by omega
   subst this;rw [he,Nat.sub_self]; rfl
theorem zeb {W:α->β->Wy α β ρ} {z:ρ} (N:Nat) (ex:Nat->α) (ey:Nat->β) (c:Nat->Bool) (no yes:ρ)
  (h:∀ i,i<N->∀ (H:α->β->Bool×ρ) K D,(W (ex i) (ey i)).ev H K D=bif c i then H (ex (i+1)) (ey (i+1)) else K no)
  (he:∀ (H:α->β->Bool×ρ) K D,(W (ex N) (ey N)).ev H K D=K yes) (n:Nat) (hn:N<n):zC W z n (ex 0) (ey 0)=(true,bif zfk c N 0 then yes else no):=by
 have:=zbbo (z:=z) N ex ey c no yes h he n 0 (by omega) (by omega)
 simpa using this
end
def ixf {α:Type} (p:α->Bool):List α->Nat->Int
 | [],_=> -1
 | x::r,i=>bif p x then (i:Int) else ixf p r (i+1)
theorem zbdJ {α:Type} (p:α->Bool):∀ (l:List α) (i:Nat),decide (ixf p l i≥(0:Int))=l.any p
 | [],i=>by simp [ixf]
 | x::r,i=>by
  rw [List.any_cons];cases h:p x with
  | true=>simp [ixf,h]
  | false=>simpa [ixf,h] using zbdJ p r (i+1)
section
variable {α γ:Type} [Inhabited α]
def z1M (p:γ->α->Bool×Bool) (s:List α) (g:γ) (t7:Int) (t8:Int):Wy (List α×γ×Int×Int×Unit) Unit (Int⊕Unit):=.i (decide (t8<t7)) (.i (decide ((0:Int)<=t8)&&decide (t8<Int.ofNat s.length)) (.bn (p g (s.getD t8.toNat default)) λr0=>.i (r0) (.k (.inl t8)) (.h (s,g,t7,(IntKind.i64.wrap (t8+(1:Int))),()) ())) .d) (.k (.inr ()))
def zVm (p:γ->α->Bool×Bool) (x:List α×γ×Int×Int×Unit) (y:Unit):Wy (List α×γ×Int×Int×Unit) Unit (Int⊕Unit):=z1M p x.1 x.2.1 x.2.2.1 x.2.2.2.1
def zbet (p:γ->α->Bool×Bool) (n:Nat) (s:List α) (g:γ) (t7:Int) (t8:Int):Bool×(Int⊕Unit):=zC (zVm p) (.inl default) n (s,g,t7,t8,()) ()
def IG (p:γ->α->Bool×Bool) (n:Nat) (g:γ) (s:List α):Bool×Int:=(.bn (zbet p n s g (Int.ofNat s.length) (0:Int)) λr2=>.i (isL r2) (.k (getL r2)) (.k (-1:Int)):Wy0 Int).fin default
def zbeO (p:γ->α->Bool×Bool) (s:List α) (g:γ) (t7:Int) (t8:Int):Wy (List α×γ×Int×Int×Unit) Unit (Int⊕Unit):=.i (decide (t8<t7)) (.i (decide ((0:Int)<=t8)&&decide (t8<Int.ofNat s.length)) (.i ((p g (s.getD t8.toNat default)).snd) (.k (.inl t8)) (.h (s,g,t7,(IntKind.i64.wrap (t8+(1:Int))),()) ())) .d) (.k (.inr ()))
def zbkS (p:γ->α->Bool×Bool) (x:List α×γ×Int×Int×Unit) (y:Unit):Wy (List α×γ×Int×Int×Unit) Unit (Int⊕Unit):=zbeO p x.1 x.2.1 x.2.2.1 x.2.2.2.1
def zbec (p:γ->α->Bool×Bool) (n:Nat) (s:List α) (g:γ) (t7:Int) (t8:Int):Bool×(Int⊕Unit):=zC (zbkS p) (.inl default) n (s,g,t7,t8,()) ()
def IH (p:γ->α->Bool×Bool) (n:Nat) (g:γ) (s:List α):Bool×Int:=(.bn (zbec p n s g (Int.ofNat s.length) (0:Int)) λr2=>.i (isL r2) (.k (getL r2)) (.k (-1:Int)):Wy0 Int).fin default
theorem zbdT (p:γ->α->Bool×Bool) (P:α->Bool) (g:γ) (s:List α) (hs:s.length<=1000000000) (hp:∀ x∈s,p g x=(true,P x)):∀ (n i:Nat),s.length<i+n->i<=s.length->
  ∃ r,zbet p n s g s.length i=(true,r)/\((r=.inl (ixf P (s.drop i) i))\/(r=.inr ()/\ixf P (s.drop i) i= -1))
 | 0,i,h,h2=>by omega
 | n+1,i,h,h2=>by
  show ∃ r,(z1M p s g s.length i).ev (λx y=>zbet p n x.1 x.2.1 x.2.2.1 x.2.2.2.1) (λr=>(true,r)) (false,.inl default)=(true,r)/\_
  unfold z1M;by_cases hi:i<s.length
  ·simp only [Wy.ev_i,Wy.ev_k,Wy.ev_h,Wy.ev_bn,Wy.ev_d,tT,hi,hp _ (zp hi)];rw [zbC hi,zN (by omega)]
   simp only [ixf];cases P (s.getD i default) with
   | true=>exact ⟨_,rfl,.inl rfl⟩
   | false=>exact zbdT p P g s hs hp n (i+1) (by omega) (by omega)
  ·simp only [Wy.ev_i,Wy.ev_k,Wy.ev_h,Wy.ev_bn,Wy.ev_d,tT,hi,zdj hi];exact ⟨_,rfl,.inr ⟨rfl,rfl⟩⟩
theorem zG4 (p:γ->α->Bool×Bool) (P:α->Bool) (n:Nat) (g:γ) (s:List α) (hs:s.length<=1000000000) (hp:∀ x∈s,p g x=(true,P x)) (hn:s.length<n):IG p n g s=(true,ixf P s 0):=by
 unfold IG;obtain ⟨r,h1,h2⟩:=zbdT p P g s hs hp n 0 (by omega) (by omega)
 rw [show ((0:Nat):Int)=(0:Int) from rfl] at h1
 rw [Wy.fin_bn,show Int.ofNat s.length=(s.length:Int) from rfl,h1]
 rw [List.drop_zero] at h2;rcases h2 with rfl | ⟨rfl,h2⟩
 ·rfl
 ·rw [h2]; rfl
theorem zbdE (p:γ->α->Bool×Bool) (P:α->Bool) (g:γ) (s:List α) (hs:s.length<=1000000000) (hp:∀ x∈s,p g x=(true,P x)):∀ (n i:Nat),s.length<i+n->i<=s.length->
  ∃ r,zbec p n s g s.length i=(true,r)/\((r=.inl (ixf P (s.drop i) i))\/(r=.inr ()/\ixf P (s.drop i) i= -1))
 | 0,i,h,h2=>by omega
 | n+1,i,h,h2=>by
  show ∃ r,(zbeO p s g s.length i).ev (λx y=>zbec p n x.1 x.2.1 x.2.2.1 x.2.2.2.1) (λr=>(true,r)) (false,.inl default)=(true,r)/\_
  unfold zbeO;by_cases hi:i<s.length
  ·simp only [Wy.ev_i,Wy.ev_k,Wy.ev_h,Wy.ev_bn,Wy.ev_d,tT,hi,hp _ (zp hi)];rw [zbC hi,zN (by omega)]
   simp only [ixf];cases P (s.getD i default) with
   | true=>exact ⟨_,rfl,.inl rfl⟩
   | false=>exact zbdE p P g s hs hp n (i+1) (by omega) (by omega)
  ·simp only [Wy.ev_i,Wy.ev_k,Wy.ev_h,Wy.ev_bn,Wy.ev_d,tT,hi,zdj hi];exact ⟨_,rfl,.inr ⟨rfl,rfl⟩⟩
theorem zbhU (p:γ->α->Bool×Bool) (P:α->Bool) (n:Nat) (g:γ) (s:List α) (hs:s.length<=1000000000) (hp:∀ x∈s,p g x=(true,P x)) (hn:s.length<n):IH p n g s=(true,ixf P s 0):=by
 unfold IH;obtain ⟨r,h1,h2⟩:=zbdE p P g s hs hp n 0 (by omega) (by omega)
 rw [show ((0:Nat):Int)=(0:Int) from rfl] at h1
 rw [Wy.fin_bn,show Int.ofNat s.length=(s.length:Int) from rfl,h1]
 rw [List.drop_zero] at h2;rcases h2 with rfl | ⟨rfl,h2⟩
 ·rfl
 ·rw [h2]; rfl
theorem zi6 {α:Type} {s:List α} {P:α->Bool} {q:Bool×Int} (h:q=(true,ixf P s 0)):((.bn q λr0=>.k (decide (r0≥(0:Int))):Wy0 Bool).fin default)=(true,s.any P):=by
 rw [h,Wy.fin_bn,cond_true,Wy.fin_k,zbdJ]
end
theorem zh8 (a b:Int):(a==b)=decide (a=b):=by by_cases h:a=b <;>simp [h]
theorem z4p (a b:Nat):(a==b)=decide (a=b):=by by_cases h:a=b <;>simp [h]
theorem i0 (l:Nat):((l:Int)==0)=(l==0):=by
 rw [zh8,z4p]; congr 1; simp
def zv7 (a:yC):Bool:=a.any λt=>t.Fs.length==0
theorem zUK (a:yC) (h:a.length<=1000000000):zfE a=(true,zv7 a):=by
 unfold zfE zDd zdF zi1;have:zej a=IH (λ(_:Unit) x=>zhZ x) (a.length+(Int.ofNat a.length).toNat +Int.toNat (0:Int)+(1:Nat)) () a:=rfl
 rw [zi6 (P:=λt:Term=>t.Fs.length==0) (this.trans (zbhU _ _ _ _ _ h (λx _=>by
  unfold zhZ zyA;rw [Wy.fin_k];congr 1;exact i0 x.Fs.length) (by omega)))]
 rfl
theorem zqg (a:yC) (h:a.length<=1000000000):zjx a=(true,zv7 a):=by
 unfold zjx zOo zMK
 have:=zeb (W:=zEk) (z:=.inl default) a.length (λi=>(a,(i:Int),())) (λ_=>()) (λi=> !((a.getD i default).Fs.length==0)) (.inl true) (.inr ())
  (λi hi H K D=>by
   show (zqv a i).ev H K D=_;unfold zqv;simp only [Wy.ev_i,Wy.ev_k,Wy.ev_h,Wy.ev_bn,Wy.ev_d,tT,hi,i0];rw [zN (by omega)]
   cases (a.getD i default).Fs.length==0 <;>rfl)
  (λH K D=>by
   show (zqv a a.length).ev H K D=_;unfold zqv;simp only [Wy.ev_i,Wy.ev_k,tT,Nat.lt_irrefl]) (a.length+Int.toNat (0:Int)+(1:Nat)) (by omega)
 rw [show ((0:Nat):Int)=(0:Int) from rfl] at this
 rw [Wy.fin_bn,this,zCo (λt:Term=> !(t.Fs.length==0)) a]
 have e:(a.all λt:Term=> !(t.Fs.length==0))= !zv7 a:=by simp [zv7,List.all_eq_not_any_not]
 rw [e];cases zv7 a <;>rfl
def isC:yC->Bool
 | [t]=>t.Fs.length==0
 | _=>false
theorem zXi (a:yC):zit a=(true,isC a):=by
 unfold zit zD0
 match a with
 | []=>rfl
 | [t]=>exact congrArg (Prod.mk true) (i0 t.Fs.length)
 | t::u::r=>
  have:((Int.ofNat (t::u::r).length)==(1:Int))=false:=by simp; omega
  rw [Wy.fin_i,this]; rfl
def zbko (p:Fc->Bool):yD->Bool
 | [f]=>p f
 | _=>false
def isU:yC->Bool
 | [t]=>t.Cf==1&&zbko (λf=>f.Exp==1&&(f.At.Kind==2||f.At.Kind==3||f.At.Kind==4)) t.Fs
 | _=>false
theorem z8M (x:At):zgi x=(true,x.Kind==3||x.Kind==4):=by
 unfold zgi zD9;rw [Wy.fin_i,Wy.fin_k,Wy.fin_k];cases x.Kind==3 <;>rfl
theorem zOz {τ:Type} (x y:τ) (r:List τ):((Int.ofNat (x::y::r).length)==(1:Int))=false:=by
 rw [beq_eq_false_iff_ne]; simp; omega
theorem z9g (a:yC):zmI a=(true,isU a):=by
 unfold zmI zIt
 match a with
 | []=>rfl
 | ⟨c,[]⟩::[]=>
  show (bif c != 1 then (true,false) else (true,false))=(true,c==1&&false)
  cases c != 1 <;>simp
 | ⟨c,[f]⟩::[]=>
  simp only [Wy.fin_i,Wy.fin_k,tT,isU,List.length_singleton,z8M,Wy.fin_bn,Wy.fin_d];show (bif c != 1 then (true,false) else bif f.Exp==1 then bif f.At.Kind==2 then (true,true) else (true,f.At.Kind==3||f.At.Kind==4) else (true,false))=(true,c==1&&(f.Exp==1&&(f.At.Kind==2||f.At.Kind==3||f.At.Kind==4)))
  rw [show (c != 1)= !(c==1) from rfl]
  cases c==1 <;>cases f.Exp==1 <;>cases f.At.Kind==2 <;>simp
 | ⟨c,f::g::r⟩::[]=>
  simp only [Wy.fin_i,bne,zOz];show (bif !(c==1) then (true,false) else (true,false))=(true,c==1&&false)
  cases c==1 <;>rfl
 | t::u::r=>rw [Wy.fin_i,bne,zOz]; rfl
def isB:yC->Bool
 | [t]=>t.Cf==1&&zbko (λf=>f.Exp==1&&decide (2<=f.At.Kind)) t.Fs
 | _=>false
theorem zHd (a:yC):zsh a=(true,isB a):=by
 unfold zsh zUb
 match a with
 | []=>rfl
 | ⟨c,[]⟩::[]=>
  show (bif c==1 then (true,false) else (true,false))=(true,c==1&&false)
  cases c==1 <;>rfl
 | ⟨c,[f]⟩::[]=>
  simp only [Wy.fin_i,Wy.fin_k,tT,List.length_singleton,Wy.fin_bn,Wy.fin_d];show (bif c==1 then bif decide (2<=f.At.Kind) then (true,f.Exp==1) else (true,false) else (true,false))=(true,c==1&&(f.Exp==1&&decide (2<=f.At.Kind)))
  cases c==1 <;>cases f.Exp==1 <;>cases decide (2<=f.At.Kind) <;>simp
 | ⟨c,f::g::r⟩::[]=>
  rw [Wy.fin_i];show (bif true then (Wy.i true (Wy.i (c==1) (Wy.i true (Wy.i (Int.ofNat (f::g::r).length==1) _ (.k false)) .d) (.k false)) .d:Wy0 Bool).fin default else _)=(true,c==1&&false)
  simp only [Wy.fin_i,Wy.fin_k,zOz,cond_true,cond_false];cases c==1 <;>rfl
 | t::u::r=>rw [Wy.fin_i,zOz]; rfl
theorem zTd (a b:Nat):decide (a>b)= !decide (a<=b):=by
 by_cases h:a<=b
 ·have:¬ a>b:=by omega
  simp [h,this]
 ·have:a>b:=by omega
  simp [h,this]
def zFc (t:Term):Bool:= !(decide (t.Fs.length>64)||t.Fs.any λf=>decide (f.Exp>64)||decide (f.At.Items.length>1024))
def zf4 (a:yC):Bool:=decide (a.length<=512)&&decide (zbv a<=8)&&decide (zL a<=4096)&&a.all zFc
theorem zbem (l:yD) (h:l.length<=1000000):zcK l=(true,l.any λf=>decide (f.Exp>64)||decide (f.At.Items.length>1024)):=by
 unfold zcK zjl
 have hw:zdM=zVm (λ(_:Unit) x=>zgS x):=by
  funext x y
  unfold zdM zkp zVm z1M;rw [Fc.eta2]
 have:zc7 l=IG (λ(_:Unit) x=>zgS x) (l.length+(Int.ofNat l.length).toNat +Int.toNat (0:Int)+(1:Nat)) () l:=by
  unfold zc7 zkR zkf;rw [hw]; rfl
 exact zi6 (this.trans (zG4 _ _ _ _ _ (by omega) (λx _=>by
  unfold zgS zBn;rw [Wy.fin_i,Wy.fin_k,Wy.fin_k];have e:decide (Int.ofNat x.At.Items.length>(1024:Int))=decide (x.At.Items.length>1024):=zsx _ 1024;rw [e];cases decide (x.Exp>64) <;>rfl) (by omega)))
theorem z9c {d:Nat} {a:yC} (h:zo d a) (hd:d<=100) (hs:zL a<=4611686018427387904):zmL a=(true,zf4 a):=by
 obtain ⟨h1,h2⟩:a.length<=1000000/\∀ t∈a,t.Fs.length<=1000000:=by
  cases d with
  | zero=>exact h.elim
  | succ d=>exact ⟨h.1,λt ht=>(h.2 t ht).1⟩
 have h3:zcE a=(true,a.any λt=> !zFc t):=by
  unfold zcE ziU;have:zeg a=IG (λ(_:Unit) x=>zmG x) (a.length+(Int.ofNat a.length).toNat +Int.toNat (0:Int)+(1:Nat)) () a:=rfl
  exact zi6 (this.trans (zG4 _ _ _ _ _ (by omega) (λx hx=>by
   unfold zmG zEO;rw [Wy.fin_i,Wy.fin_k,Wy.fin_bn,zbem _ (h2 x hx)];have e:decide (Int.ofNat x.Fs.length>(64:Int))=decide (x.Fs.length>64):=zsx _ 64;rw [e];unfold zFc;cases decide (x.Fs.length>64) <;>simp [Wy.fin_k]) (by omega)))
 unfold zmL zIn;have n1:zCG a=(true,(zbv a:Int)):=(z8k 1000 d a h (by omega) hd).1
 have n2:zGD a=(true,(zL a:Int)):=(z4g 1000 d a h (by omega) hs).1
 simp only [Wy.fin_i,Wy.fin_k,Wy.fin_bn,n1,n2,h3,cond_true];have e1:decide (Int.ofNat a.length>(512:Int))= !decide (a.length<=512):=by rw [show decide (Int.ofNat a.length>(512:Int))=decide (a.length>512) from zsx _ 512]; exact zTd _ _
 have e2:decide ((zbv a:Int)>(8:Int))= !decide (zbv a<=8):=by rw [show decide ((zbv a:Int)>(8:Int))=decide (zbv a>8) from zsx _ 8]; exact zTd _ _
 have e3:decide ((zL a:Int)>(4096:Int))= !decide (zL a<=4096):=by rw [show decide ((zL a:Int)>(4096:Int))=decide (zL a>4096) from zsx _ 4096]; exact zTd _ _
 have e4:(a.any λt=> !zFc t)= !a.all zFc:=by simp [List.all_eq_not_any_not]
 rw [e1,e2,e3,e4];unfold zf4;cases decide (a.length<=512) <;>cases decide (zbv a<=8) <;>cases decide (zL a<=4096) <;>simp
theorem zbj6 (a:yC) (i:Nat) (hi:i<a.length) (hl:(a.getD i default).Fs.length<=1000000) (fuel:Nat) (hf:(a.getD i default).Fs.length<fuel):
  zXn fuel a i 0=(true,bif (a.getD i default).Fs.any λf=>decide (f.Exp>64)||decide (f.At.Items.length>1024) then .inl false else .inr (a,(i:Int))):=by
 have:=zeb (W:=zLZ) (z:=.inl default) (a.getD i default).Fs.length (λk=>(a,(i:Int),(k:Int),())) (λ_=>()) (λk=>(λf:Fc=> !(decide (f.Exp>64)||decide (f.At.Items.length>1024))) ((a.getD i default).Fs.getD k default)) (.inl false) (.inr (a,(i:Int)))
  (λk hk H K D=>by
   show (zzO a i k).ev H K D=_;unfold zzO;simp only [Wy.ev_i,Wy.ev_k,Wy.ev_h,Wy.ev_bn,Wy.ev_d,tT,hi,hk];rw [zN (by omega),show decide ((((a.getD i default).Fs.getD k default).At.Items.length:Int)>(1024:Int))=_ from zsx _ 1024]
   cases decide (((a.getD i default).Fs.getD k default).Exp>64) <;>cases decide (1024<((a.getD i default).Fs.getD k default).At.Items.length) <;>rfl)
  (λH K D=>by
   show (zzO a i (a.getD i default).Fs.length).ev H K D=_;unfold zzO;simp only [Wy.ev_i,Wy.ev_k,Wy.ev_h,Wy.ev_bn,Wy.ev_d,tT,hi,Nat.lt_irrefl]) fuel hf
 rw [zCo (λf:Fc=> !(decide (f.Exp>64)||decide (f.At.Items.length>1024)))] at this
 have e:((a.getD i default).Fs.all λf=> !(decide (f.Exp>64)||decide (f.At.Items.length>1024)))= !((a.getD i default).Fs.any λf=>decide (f.Exp>64)||decide (f.At.Items.length>1024)):=by simp [List.all_eq_not_any_not]
 rw [e] at this;refine this.trans ?_;cases (a.getD i default).Fs.any λf=>decide (f.Exp>64)||decide (f.At.Items.length>1024) <;>rfl
theorem zbd6 {d:Nat} {a:yC} (h:zo d a) (hd:d<=100) (hs:zL a<=4611686018427387904):zDp a=(true,zf4 a):=by
 obtain ⟨h1,h2⟩:a.length<=1000000/\∀ t∈a,t.Fs.length<=1000000:=by
  cases d with
  | zero=>exact h.elim
  | succ d=>exact ⟨h.1,λt ht=>(h.2 t ht).1⟩
 have h3:zXg ((a.length+Int.toNat (0:Int)+(1:Nat))+zb9 a) a 0=(true,bif a.all zFc then .inr () else .inl false):=by
  have:=zeb (W:=zMz) (z:=.inl default) a.length (λk=>(a,(k:Int),())) (λ_=>()) (λk=>zFc (a.getD k default)) (.inl false) (.inr ())
   (λk hk H K D=>by
    show (zAd a k).ev H K D=_;unfold zAd;have h4:=h2 _ (zp hk);have h5:=zPG a k hk;simp only [Wy.ev_i,Wy.ev_k,Wy.ev_h,Wy.ev_bn,Wy.ev_d,tT,hk];rw [zbj6 a k hk h4 _ (by omega)]
    have e:decide (((a.getD k default).Fs.length:Int)>(64:Int))=decide ((a.getD k default).Fs.length>64):=zsx _ 64;rw [e];unfold zFc;cases decide ((a.getD k default).Fs.length>64) <;>cases ((a.getD k default).Fs.any λf=>decide (f.Exp>64)||decide (f.At.Items.length>1024))
    ·simp only [cond_false,cond_true,isL,getR]; rw [zN (by omega)]; rfl
    all_goals rfl)
   (λH K D=>by
    show (zAd a a.length).ev H K D=_;unfold zAd;simp only [Wy.ev_i,Wy.ev_k,Wy.ev_h,Wy.ev_bn,Wy.ev_d,tT,Nat.lt_irrefl]) ((a.length+Int.toNat (0:Int)+(1:Nat))+zb9 a) (by omega)
  rw [zCo] at this;exact this
 unfold zDp z09;have n1:zMa a=(true,(zbv a:Int)):=(z8k 1000 d a h (by omega) hd).2
 have n2:zVB a=(true,(zL a:Int)):=(z4g 1000 d a h (by omega) hs).2
 simp only [Wy.fin_i,Wy.fin_k,Wy.fin_bn,n1,n2,h3,cond_true];have e1:decide (Int.ofNat a.length>(512:Int))= !decide (a.length<=512):=by rw [show decide (Int.ofNat a.length>(512:Int))=decide (a.length>512) from zsx _ 512]; exact zTd _ _
 have e2:decide ((zbv a:Int)>(8:Int))= !decide (zbv a<=8):=by rw [show decide ((zbv a:Int)>(8:Int))=decide (zbv a>8) from zsx _ 8]; exact zTd _ _
 have e3:decide ((zL a:Int)>(4096:Int))= !decide (zL a<=4096):=by rw [show decide ((zL a:Int)>(4096:Int))=decide (zL a>4096) from zsx _ 4096]; exact zTd _ _
 rw [e1,e2,e3];unfold zf4;cases decide (a.length<=512) <;>cases decide (zbv a<=8) <;>cases decide (zL a<=4096) <;>cases a.all zFc <;>simp [isL,getL]
def zxB (v:Value):Bool:=(v.Kind==0&&v.Text.size==0)||(v.Kind==1&&v.Int==0&&decide (v.Text.size<=255))||(v.Kind==2&&v.Text.size==0&&(v.Int==0||v.Int==1))
theorem zbbD (s:ByteArray):(s.toList==(ByteArray.mk #[]).toList)=(s.size==0):=by
 rw [zZL];by_cases h:s.size=0
 ·have:s=ByteArray.mk #[]:=zKn (by
   have:s.data.toList.length=0:=by simpa using h
   rw [List.length_eq_zero_iff.1 this])
  subst this; rfl
 ·have:¬ s=ByteArray.mk #[]:=λe=>h (by rw [e]; rfl)
  simp [h,this]
theorem zJp (v:Value):zvL v=(true,zxB v):=by
 unfold zvL zW9 zxB;simp only [zbbD,Wy.fin_i,Wy.fin_k,zh8,z4p];have e:decide (Int.ofNat v.Text.size<=(255:Int))=decide (v.Text.size<=255):=zEK _ 255;rw [e];by_cases h0:v.Kind=0
 ·simp [h0]
 ·by_cases h1:v.Kind=1
  ·by_cases h2:v.Int=0 <;>simp [h1,h2]
  ·by_cases h2:v.Kind=2
   ·by_cases h3:v.Int=0
    ·simp [h2,h3]
    ·by_cases h4:v.Int=1 <;>simp [h2,h3,h4]
   ·simp [h0,h1,h2]
theorem zTr (v:Value):zAC v=(true,zxB v):=by
 unfold zAC zW1 zxB;simp only [zbbD,Wy.fin_i,Wy.fin_k,zh8,z4p];have e:decide (Int.ofNat v.Text.size<=(255:Int))=decide (v.Text.size<=255):=zEK _ 255;rw [e];by_cases h0:v.Kind=0
 ·simp [h0]
 ·by_cases h1:v.Kind=1
  ·by_cases h2:v.Int=0 <;>simp [h1,h2]
  ·by_cases h2:v.Kind=2
   ·by_cases h3:v.Int=0
    ·by_cases h4:v.Text.size=0 <;>simp [h2,h3,h4]
    ·by_cases h4:v.Text.size=0 <;>simp [h2,h3,h4]
   ·simp [h0,h1,h2]
def zOx (fn:Int) (b:Value) (w:Wd):Bool:=zxB w.Value&&(w.Value.Kind==b.Kind)&& !(fn==0&&w.Value.Int != 1)
def zEf (fn:Int) (l:yE) (op:Int) (b:Value):Bool:=decide (0<=fn)&&decide (fn<=3)&&decide (5<=op)&&decide (op<=10)&&zxB b&& !(decide (fn<=1)&&b.Kind != 0)&&l.all (zOx fn b)
theorem zbgW (l:yE) (fn:Int) (b:Value) (h:l.length<=1000000):zbE l b fn=(true, !l.all (zOx fn b)):=by
 unfold zbE zhF;have:zdG l b fn=IG (λ(g:Value×(Int×Unit)×Unit) x=>zil x g.1 g.2.1.1) (l.length+fn.toNat +(Int.ofNat l.length).toNat +Int.toNat (0:Int)+(1:Nat)) (b,(fn,()),()) l:=rfl
 have e:(!l.all (zOx fn b))=l.any λw=> !zOx fn b w:=by simp [List.all_eq_not_any_not]
 rw [e]
 exact zi6 (this.trans (zG4 _ _ _ _ _ (by omega) (λx _=>by
  show zil x b fn=_;unfold zil zD7 zOx;simp only [Wy.fin_i,Wy.fin_k,Wy.fin_bn,zJp,cond_true,zh8,zA4];cases zxB x.Value <;>by_cases h1:x.Value.Kind=b.Kind <;>by_cases h2:fn=0 <;>simp [zh8,zA4,h1,h2]) (by omega)))
theorem z6z (fn:Int) (l:yE) (op:Int) (b:Value) (h:l.length<=1000000):zlf fn l op b=(true,zEf fn l op b):=by
 unfold zlf zHc zEf;simp only [Wy.fin_i,Wy.fin_k,Wy.fin_bn,zJp,zbgW l fn b h,cond_true,zh8,zA4];by_cases h1:fn<0
 ·have:¬ (0<=fn):=by omega
  simp [h1,this]
 by_cases h2:3<fn
 ·have:¬ (fn<=3):=by omega
  simp [h1,h2,this]
 by_cases h3:op<5
 ·have:¬ (5<=op):=by omega
  simp [h1,h2,h3,this]
 by_cases h4:10<op
 ·have:¬ (op<=10):=by omega
  simp [h1,h2,h3,h4,this]
 have g1:0<=fn:=by omega
 have g2:fn<=3:=by omega
 have g3:5<=op:=by omega
 have g4:op<=10:=by omega
 cases zxB b with
 | false=>simp [h1,h2,h3,h4]
 | true=>
  by_cases h5:fn=0
  ·subst h5; by_cases h6:b.Kind=0 <;>simp [h3,h4,h6,g3,g4]
  ·by_cases h7:fn=1
   ·subst h7; by_cases h6:b.Kind=0 <;>simp [h3,h4,h6,g3,g4]
   ·have:¬ fn<=1:=by omega
    simp [h1,h2,h3,h4,h5,h7,this,g1,g2,g3,g4]
theorem zbcM (fn:Int) (l:yE) (op:Int) (b:Value) (h:l.length<=1000000):zAF fn l op b=(true,zEf fn l op b):=by
 unfold zAF zWU zEf
 have hl:zJQ (fn.toNat +l.length+Int.toNat (0:Int)+(1:Nat)) fn l (0:Int) b=(true,bif l.all (zOx fn b) then .inr () else .inl false):=by
  have:=zeb (W:=zJs) (z:=.inl default) l.length (λk=>(fn,l,(),(k:Int),())) (λ_=>(b,())) (λk=>zOx fn b (l.getD k default)) (.inl false) (.inr ())
   (λk hk H K D=>by
    show (zxO fn l k b).ev H K D=_;unfold zxO zOx;simp only [Wy.ev_i,Wy.ev_k,Wy.ev_h,Wy.ev_bn,Wy.ev_d,tT,hk,zTr,zh8,zA4];rw [zN (by omega)]
    cases zxB (l.getD k default).Value <;>cases decide ((l.getD k default).Value.Kind=b.Kind) <;>cases decide (fn=0) <;>cases decide ((l.getD k default).Value.Int=1) <;>rfl)
   (λH K D=>by
    show (zxO fn l l.length b).ev H K D=_;unfold zxO;simp only [Wy.ev_i,Wy.ev_k,Wy.ev_h,Wy.ev_bn,Wy.ev_d,tT,Nat.lt_irrefl]) (fn.toNat +l.length+Int.toNat (0:Int)+(1:Nat)) (by omega)
  rw [zCo] at this;exact this
 simp only [Wy.fin_i,Wy.fin_k,Wy.fin_bn,zTr,hl,cond_true,zh8,zA4];by_cases h1:fn<0
 ·have:¬ (0<=fn):=by omega
  simp [h1,this]
 by_cases h2:3<fn
 ·have:¬ (fn<=3):=by omega
  simp [h1,h2,this]
 by_cases h3:op<5
 ·have:¬ (5<=op):=by omega
  simp [h1,h2,h3,this]
 by_cases h4:10<op
 ·have:¬ (op<=10):=by omega
  simp [h1,h2,h3,h4,this]
 have g1:0<=fn:=by omega
 have g2:fn<=3:=by omega
 have g3:5<=op:=by omega
 have g4:op<=10:=by omega
 cases zxB b with
 | false=>simp [h1,h2,h3,h4]
 | true=>
  by_cases h5:fn<=1
  ·by_cases h6:b.Kind=0
   ·cases l.all (zOx fn b) <;>simp [h1,h2,h3,h4,h5,h6,g1,g2,g3,g4,isL,getL]
   ·simp [h1,h2,h3,h4,h5,h6,g1,g2,g3,g4]
  ·cases l.all (zOx fn b) <;>simp [h1,h2,h3,h4,h5,g1,g2,g3,g4,isL,getL]
def bz (b:Value):Bool:=b.Kind==(0:Int)&&(b.Int==(0:Int)&&(b.Text.toList==(ByteArray.mk #[]).toList&&true))
def plA (x:At):Bool:=x.Func==0&&(x.Items.length==0)&&x.Op==0&&bz x.Bd
theorem zbg3 (x:At):zrm x=(true,plA x):=by
 unfold zrm zW3 plA;simp only [Wy.fin_i,Wy.fin_k,Int.ofNat_eq_natCast,i0];show _=(true,_&&_&&_&&bz x.Bd);rw [show (x.Bd.Kind==(0:Int)&&(x.Bd.Int==(0:Int)&&(x.Bd.Text.toList==(ByteArray.mk #[]).toList&&true)))=bz x.Bd from rfl]
 cases x.Func==0 <;>cases x.Items.length==0 <;>cases x.Op==0 <;>rfl
def zWN (l:yE) (k:Nat):Bool:=decide (k=0)||decide (zbi (zba (l.getD (k - 1) default)) (zba (l.getD k default))<=0)
def zY5 (l:yE):Bool:=zfk (zWN l) l.length 0
theorem z9d (c:Nat->Bool):∀ n i,zfk c (n+1) i=(zfk c n i&&c (i+n))
 | 0,i=>by simp [zfk]
 | n+1,i=>by
  rw [zfk,z9d c n (i+1),zfk,show i+1+n=i+(n+1) by omega,Bool.and_assoc]
theorem zW7 {d:Nat} (l:yE) (hl:l.length<=1000000) (h:∀ w∈l,zo d w.Ann) (hd:d<=99):∀ (n i:Nat),i<l.length->i<n->ze0 n l i=(true,bif zfk (zWN l) (i+1) 0 then .inr () else .inl false)
 | 0,i,hi,hn=>by omega
 | n+1,i,hi,hn=>by
  show (zeY l i).ev (λx y=>ze0 n x.1 x.2.2.1) (λr=>(true,r)) (false,.inl default)=_
  unfold zeY;have hg:decide ((i:Int)>(0:Int))=decide (0<i):=zsx i 0;cases i with
  | zero=>simp [Wy.ev_i,Wy.ev_k,zfk,zWN]
  | succ i=>
   have hi':i<l.length:=by omega
   have hw:IntKind.i64.wrap (((i+1:Nat):Int) - 1)=(i:Int):=by rw [zCe (by omega) (by omega)]; rfl
   have hp:decide (0<i+1)=true:=by simp
   simp only [Wy.ev_i,Wy.ev_k,Wy.ev_h,Wy.ev_bn,Wy.ev_d,hg,hp,hw,tT,hi,hi',zcT (h _ (zp hi)) hd];rw [zW7 l hl h hd n i hi' (by omega),z9d _ (i+1),Nat.zero_add]
   have:zWN l (i+1)= !decide (zbi (zba (l.getD (i+1) default)) (zba (l.getD i default))<0):=by
    unfold zWN;rw [show i+1 - 1=i from rfl,zfb (zba (l.getD (i+1) default)) (zba (l.getD i default))]
    generalize zbi (zba (l.getD (i+1) default)) (zba (l.getD i default))=z;by_cases hz:z<0
    ·have:¬ (-z<=0):=by omega
     simp [hz,this]
    ·have:(-z<=0):=by omega
     simp [hz,this]
   rw [this];cases decide (zbi (zba (l.getD (i+1) default)) (zba (l.getD i default))<0) <;>simp
theorem zbc2 {d:Nat} (l:yE) (hl:l.length<=1000000) (h:∀ w∈l,zo d w.Ann) (hd:d<=99):zcC l=(true,zY5 l):=by
 unfold zcC ziN zY5
 match l,hl,h with
 | [],_,_=>rfl
 | x::r,hl,h=>
  have hw:IntKind.i64.wrap (Int.ofNat (x::r).length - 1)=(r.length:Int):=by
   rw [qf] at hl;rw [show Int.ofNat (x::r).length=(((x::r).length:Nat):Int) from rfl,zCe (by simp) (by simp; omega)]; rfl
  rw [Wy.fin_bn,hw,zW7 (x::r) hl h hd _ r.length (by simp) (by simp; omega)]
  cases zfk (zWN (x::r)) (r.length+1) 0 with
  | true=>simp [Wy.fin_i,Wy.fin_k,isL]
  | false=>simp [Wy.fin_i,Wy.fin_k,isL,getL]
def rz (r:RowID):Bool:=r.Table==(0:Int)&&(r.Seq==(0:Int)&&true)
def zsW (V:yC->Bool) (l:yA):Bool:=l.all λa=>V a&& !(a.length==0)
def zGe (V:yC->Bool) (l:yE):Bool:=l.all λw=>V w.Ann&& !(w.Ann.length==0)
def zDv (r:RowID):Bool:=decide (r.Table≥1)&&decide (r.Seq≥1)
def zJX (p:yC->Bool):yA->Bool
 | [a]=>p a
 | _=>false
def z60 (p:yC->yC->Bool):yA->Bool
 | [a,b]=>p a b
 | _=>false
def zes (V:yC->Bool) (x:At):Bool:=
 zsW V x.Ag&&
 if x.Kind=0 then plA x&&zDv x.Row&&(x.Ag.length==0)
 else rz x.Row&&
  if x.Kind=1 then plA x&&z60 (λa b=> !decide (a=b)) x.Ag
  else if x.Kind=2 then plA x&&zJX (λa=> !isC a&& !isU a) x.Ag
  else if x.Kind=3 then plA x&&zJX (λa=> !zv7 a) x.Ag
  else if x.Kind=4 then (x.Ag.length==0)&&decide (0<x.Items.length)&&zGe V x.Items&&zY5 x.Items&&zEf x.Func x.Items x.Op x.Bd
  else false
def zSA (vat:At->Bool) (fs:yD) (k:Nat):Bool:=
 decide (1<=(fs.getD k default).Exp)&& !(((fs.getD k default).At.Kind==3||(fs.getD k default).At.Kind==4)&&(fs.getD k default).Exp != 1)&&
  (decide (k=0)||decide (zbi (zdZ (fs.getD (k - 1) default).At) (zdZ (fs.getD k default).At)<0))&&vat (fs.getD k default).At
def okF (vat:At->Bool) (fs:yD):Bool:=zfk (zSA vat fs) fs.length 0
def zHj (vat:At->Bool) (a:yC) (i:Nat):Bool:=
 decide (1<=(a.getD i default).Cf)&&decide ((a.getD i default).Cf<=1152921504606846976)&&
  (decide (i=0)||decide (zbI (zbu (a.getD (i - 1) default).Fs) (zbu (a.getD i default).Fs)<0))&&okF vat (a.getD i default).Fs
def zAU (vat:At->Bool) (a:yC):Bool:=zf4 a&&zfk (zHj vat a) a.length 0
def zbF:Nat->yC->Bool
 | 0,_=>false
 | n+1,a=>zAU (zes (zbF n)) a
theorem zHe (r:RowID):zsj r=(true,zDv r):=by
 unfold zsj zUq zDv;rw [Wy.fin_i,Wy.fin_k,Wy.fin_k];cases decide (r.Table≥1) <;>rfl
theorem zGM {V:yC->Bool} {x:At} (h:zes V x=true):0<=x.Kind/\x.Kind<=4:=by
 unfold zes at h;by_cases h0:x.Kind=0
 ·omega
 by_cases h1:x.Kind=1
 ·omega
 by_cases h2:x.Kind=2
 ·omega
 by_cases h3:x.Kind=3
 ·omega
 by_cases h4:x.Kind=4
 ·omega
 simp [h0,h1,h2,h3,h4] at h
theorem zzk (l k:Nat):((Int.ofNat l)==(k:Int))=(l==k):=by
 rw [zh8,z4p]; congr 1; simp; omega
section
variable (V:yC->Bool) (gW:yE->Bool×Bool) (gA:yA->Bool×Bool) (c1:yC->Bool×Bool) (c2:Wd->Bool×Bool)
theorem z8v (x:At) {d:Nat} (hx:zdf (zo d) x) (hd:d<=99) (hA:gA x.Ag=(true, !zsW V x.Ag)) (hW:gW x.Items=(true, !zGe V x.Items)):
  zkK gA c1 gW c2 x=(true,zes V x):=by
 have hS:=zbc2 x.Items hx.1.2.1 (λw hw=>(hx.2.2 w hw).2) hd
 have hF:=z6z x.Func x.Items x.Op x.Bd hx.1.2.1;have hE:∀ a∈x.Ag,∀ b,ze7 a b=(true,decide (a=b)):=λa ha b=>znC (hx.2.1 a ha) (by omega) b
 have hC:∀ a∈x.Ag,zfE a=(true,zv7 a):=λa ha=>zUK a (by
  have:=hx.2.1 a ha;cases d with
  | zero=>exact this.elim
  | succ d=>have:=this.1; omega)
 obtain ⟨k,r,l,f,its,o,b⟩:=x;simp only at hA hW hS hF hE hC;unfold zkK zcs zes plA;simp only [zHe,hA,hW,hS,hF,Wy.fin_i,Wy.fin_k,Wy.fin_bn,cond_true]
 rw [show (b.Kind==(0:Int)&&(b.Int==(0:Int)&&(b.Text.toList==(ByteArray.mk #[]).toList&&true)))=bz b from rfl,
  show (r.Table==(0:Int)&&(r.Seq==(0:Int)&&true))=rz r from rfl,
  show (Int.ofNat its.length != 0)= !(its.length==0) from congrArg not (zzk its.length 0),show (f != 0)= !(f==0) from rfl,show (o != 0)= !(o==0) from rfl]
 generalize zsW V l=A at *;generalize zGe V its=W at *;generalize bz b=B at *;generalize (f==0)=F at *;generalize (o==0)=O at *;generalize rz r=R at *;generalize zDv r=RO at *;generalize zY5 its=S at *;generalize zEf f its o b=K at *;have hgt:decide (Int.ofNat its.length>0)=decide (0<its.length):=zsx its.length 0;rw [hgt];generalize (its.length==0)=I at *;generalize decide (0<its.length)=J at *;by_cases h0:k=0
 ·subst h0;simp only [zzk,show ((Int.ofNat l.length)==(0:Int))=(l.length==0) from zzk l.length 0]
  generalize (l.length==0)=L;cases F <;>cases I <;>cases O <;>cases B <;>cases A <;>cases RO <;>rfl
 by_cases h1:k=1
 ·subst h1
  match l,hE with
  | [],_=>cases F <;>cases I <;>cases O <;>cases B <;>cases A <;>cases R <;>rfl
  | [u],_=>cases F <;>cases I <;>cases O <;>cases B <;>cases A <;>cases R <;>rfl
  | [u,v],hE=>
   have e:=hE u (by simp) v
   simp only [List.getD,qf,List.length_nil,Int.toNat_zero,List.getElem?_cons_zero,List.getElem?_cons_succ,Option.getD,show Int.toNat 1=1 from rfl,z60]
   simp only [e];generalize decide (u=v)=E;cases F <;>cases I <;>cases O <;>cases B <;>cases A <;>cases R <;>rfl
  | u::v::w::l,_=>
   have e:((Int.ofNat (u::v::w::l).length)==(2:Int))=false:=by rw [beq_eq_false_iff_ne]; simp; omega
   simp only [e];cases F <;>cases I <;>cases O <;>cases B <;>cases A <;>cases R <;>rfl
 by_cases h2:k=2
 ·subst h2
  match l with
  | []=>cases F <;>cases I <;>cases O <;>cases B <;>cases A <;>cases R <;>rfl
  | [u]=>
   simp only [List.getD,qf,List.length_nil,Int.toNat_zero,List.getElem?_cons_zero,Option.getD,zJX,zXi,z9g];generalize isC u=E;generalize isU u=E';cases F <;>cases I <;>cases O <;>cases B <;>cases A <;>cases R <;>cases E <;>cases E' <;>rfl
  | u::v::l=>
   simp only [zOz];cases F <;>cases I <;>cases O <;>cases B <;>cases A <;>cases R <;>rfl
 by_cases h3:k=3
 ·subst h3
  match l,hC with
  | [],_=>cases F <;>cases I <;>cases O <;>cases B <;>cases A <;>cases R <;>rfl
  | [u],hC=>
   have e:=hC u (by simp)
   simp only [List.getD,qf,List.length_nil,Int.toNat_zero,List.getElem?_cons_zero,Option.getD,zJX];simp only [e];generalize zv7 u=E;cases F <;>cases I <;>cases O <;>cases B <;>cases A <;>cases R <;>cases E <;>rfl
  | u::v::l,_=>
   simp only [zOz];cases F <;>cases I <;>cases O <;>cases B <;>cases A <;>cases R <;>rfl
 by_cases h4:k=4
 ·subst h4;simp only [show ((Int.ofNat l.length)==(0:Int))=(l.length==0) from zzk l.length 0]
  generalize (l.length==0)=L;cases A <;>cases W <;>cases L <;>cases J <;>cases S <;>cases K <;>cases R <;>rfl
 simp only [zh8,h0,h1,h2,h3,h4,decide_false,if_false,cond_false];cases F <;>cases I <;>cases O <;>cases B <;>cases A <;>cases R <;>rfl
end
section
variable (V:yC->Bool) (g:yC->Bool×Bool)
theorem zbkV (x:At) (hl:x.Ag.length<=1000000) (hg:∀ a∈x.Ag,g a=(true,V a)) (n:Nat) (hn:x.Ag.length<n):zyU g n 0 x=(true,bif zsW V x.Ag then .inr x else .inl false):=by
 have:=zeb (W:=zyS g) (z:=.inl default) x.Ag.length (λi=>((),(i:Int),())) (λ_=>(x,())) (λi=>(λa:yC=>V a&& !(a.length==0)) (x.Ag.getD i default)) (.inl false) (.inr x)
  (λi hi H K D=>by
   show (zmv g i x).ev H K D=_;unfold zmv;have hL:decide ((i:Int)<Int.ofNat x.Ag.length)=true:=by simp [hi]
   simp only [Wy.ev_i,Wy.ev_k,Wy.ev_h,Wy.ev_bn,Wy.ev_d,hL,zfL,Bool.and_self,cond_true,Int.toNat_natCast,hg _ (zp hi)];rw [zN (by omega),show (Int.ofNat (x.Ag.getD i default).length==(0:Int))=((x.Ag.getD i default).length==0) from zzk _ 0]
   cases V (x.Ag.getD i default) <;>cases ((x.Ag.getD i default).length==0) <;>rfl)
  (λH K D=>by
   show (zmv g x.Ag.length x).ev H K D=_;unfold zmv;have hL:decide ((x.Ag.length:Int)<Int.ofNat x.Ag.length)=false:=by simp
   simp only [Wy.ev_i,Wy.ev_k,hL,cond_false]) n hn
 rw [zCo (λa:yC=>V a&& !(a.length==0))] at this
 exact this
theorem zbaR {τ:Type} [Inhabited τ] (l:List τ) (i:Nat) (h:i<l.length):List.take 1 (List.drop i l)=[l.getD i default]:=by
 rw [zbC h]; rfl
theorem zbie (x y:TT):zbI [x] [y]=zbi x y:=by
 simp only [zbI];split
 ·rename_i h; exact h.symm
 ·rfl
theorem zbjI (x:At) {d:Nat} (hx:zdf (zo d) x) (hd:d<=99) (hg:∀ a∈x.Items,g a.Ann=(true,V a.Ann)) (n:Nat) (hn:x.Items.length<n):zFD g n 0 x=(true,bif zGe V x.Items&&zY5 x.Items then .inr () else .inl false):=by
 have hl:x.Items.length<=1000000:=hx.1.2.1
 have:=zeb (W:=zxc g) (z:=.inl default) x.Items.length (λi=>((),(i:Int),())) (λ_=>(x,())) (λi=>(λw:Wd=>V w.Ann&& !(w.Ann.length==0)) (x.Items.getD i default)&&zWN x.Items i) (.inl false) (.inr ())
  (λi hi H K D=>by
   show (zll g i x).ev H K D=_;unfold zll;have hL:decide ((i:Int)<Int.ofNat x.Items.length)=true:=by simp [hi]
   simp only [Wy.ev_i,Wy.ev_k,Wy.ev_h,Wy.ev_bn,Wy.ev_d,hL,zfL,Bool.and_self,cond_true,Int.toNat_natCast,hg _ (zp hi)];rw [zN (by omega),show (Int.ofNat (x.Items.getD i default).Ann.length==(0:Int))=((x.Items.getD i default).Ann.length==0) from zzk _ 0]
   cases V (x.Items.getD i default).Ann <;>cases ((x.Items.getD i default).Ann.length==0) <;>try rfl
   simp only [cond_true,cond_false,Bool.not_true,Bool.not_false,Bool.and_self,Bool.true_and];cases i with
   | zero=>rfl
   | succ i=>
    have hi':i<x.Items.length:=by omega
    have hw:IntKind.i64.wrap (((i+1:Nat):Int) - 1)=(i:Int):=by rw [zCe (by omega) (by omega)]; rfl
    have e1:(decide ((0:Int)<=(i:Int))&&decide ((i:Int)<=((i+1:Nat):Int))&&decide (((i+1:Nat):Int)<=Int.ofNat x.Items.length))=true:=by
     simp; try omega
    have e2:(decide (((i+1:Nat):Int)<=((i+1+1:Nat):Int))&&decide (((i+1+1:Nat):Int)<=Int.ofNat x.Items.length))=true:=by
     simp; try omega
    have e3:decide (((i+1:Nat):Int)>0)=true:=by simp; try omega
    simp only [hw,e1,e2,e3,cond_true,Bool.true_and,Int.toNat_natCast,show i+1 - i=1 by omega,show i+1+1 - (i+1)=1 by omega,zbaR _ _ hi,zbaR _ _ hi']
    rw [zFH (d:=d) (by simp) (λw hw=>by
     rw [qh] at hw; subst hw; exact (hx.2.2 _ (zp hi')).2) hd,zol,zol]
    simp only [List.map,zbie,cond_true,zWN,show i+1 - 1=i from rfl]
    have e4:decide (i+1=0)=false:=by simp
    rw [e4,Bool.false_or];generalize zbi (zba (x.Items.getD i default)) (zba (x.Items.getD (i+1) default))=z;by_cases hz:z>0
    ·have:¬ z<=0:=by omega
     simp only [hz,this,decide_true,decide_false,cond_true,cond_false]
    ·have:z<=0:=by omega
     simp only [hz,this,decide_true,decide_false,cond_true,cond_false])
  (λH K D=>by
   show (zll g x.Items.length x).ev H K D=_;unfold zll;have hL:decide ((x.Items.length:Int)<Int.ofNat x.Items.length)=false:=by simp
   simp only [Wy.ev_i,Wy.ev_k,hL,cond_false]) n hn
 rw [zbcD (λi=>(λw:Wd=>V w.Ann&& !(w.Ann.length==0)) (x.Items.getD i default)),zCo (λw:Wd=>V w.Ann&& !(w.Ann.length==0))] at this
 exact this
theorem z1q {A ρ:Type} (s:A) (k:A->Wy0 ρ) (z:ρ):(Wy.bn (true,s) k).fin z=(k s).fin z:=rfl
theorem z6Y (x:At) {d:Nat} (hx:zdf (zo d) x) (hd:d<=99) (h10:x.Items.length<=1024) (hV:∀ a,V a=true->isB a=isU a) (hgA:∀ a∈x.Ag,g a=(true,V a)) (hgI:∀ a∈x.Items,g a.Ann=(true,V a.Ann)):
  zqe g x=(true,zes V x):=by
 have hS:=λn hn=>zbjI V g x hx hd hgI n hn
 have hA:=λn hn=>zbkV V g x hx.1.1 hgA n hn
 have hF:=zbcM x.Func x.Items x.Op x.Bd hx.1.2.1;have hE:∀ a∈x.Ag,∀ b,zuv a b=(true,decide (a=b)):=λa ha b=>zMA (hx.2.1 a ha) (by omega) b
 have hC:∀ a∈x.Ag,zjx a=(true,zv7 a):=λa ha=>zqg a (by
  have:=hx.2.1 a ha;cases d with
  | zero=>exact this.elim
  | succ d=>have:=this.1; omega)
 have hP:=zbg3 x;unfold zqe zIw zes;obtain ⟨s,hs1,hs2⟩:∃ s,zyU g (Int.toNat (0:Int)+x.Ag.length+x.Items.length+(1:Nat)) 0 x=(true,s)/\s=bif zsW V x.Ag then .inr x else .inl false:=⟨_,hA _ (by omega),rfl⟩
 rw [At.eta,hP,hs1];simp only [Wy.fin_i,Wy.fin_k,z1q];simp only [Wy.fin_i,Wy.fin_k,Wy.fin_bn,cond_true];rw [show (x.Row.Table==(0:Int)&&(x.Row.Seq==(0:Int)&&true))=rz x.Row from rfl]
 have b0:(x.Kind==(0:Int))=decide (x.Kind=0):=zh8 _ _;have b1:(x.Kind==(1:Int))=decide (x.Kind=1):=zh8 _ _;have b2:(x.Kind==(2:Int))=decide (x.Kind=2):=zh8 _ _;have b3:(x.Kind==(3:Int))=decide (x.Kind=3):=zh8 _ _;have b4:(x.Kind==(4:Int))=decide (x.Kind=4):=zh8 _ _;by_cases h0:x.Kind=0
 ·rw [b0];simp only [h0,decide_true,cond_true,if_true];rw [show (Int.ofNat x.Ag.length==(0:Int))=(x.Ag.length==0) from zzk _ 0]
  unfold zDv
  match hl:x.Ag with
  | []=>cases decide (x.Row.Table≥1) <;>cases decide (x.Row.Seq≥1) <;>cases plA x <;>rfl
  | u::l=>cases decide (x.Row.Table≥1) <;>cases decide (x.Row.Seq≥1) <;>cases plA x <;>cases zsW V (u::l) <;>rfl
 rw [b0];simp only [h0,decide_false,cond_false,if_false];cases hA:zsW V x.Ag with
 | false=>rw [hs2,hA]; cases rz x.Row <;>rfl
 | true=>
 rw [hA,cond_true] at hs2;have hy:getR s=x:=by rw [hs2]; rfl
 have hy2:isL s=false:=by rw [hs2]; rfl
 rw [hy2];generalize getR s=y at hy ⊢;subst hy;cases rz y.Row with
 | false=>rfl
 | true=>
 simp only [Bool.not_true,cond_false,cond_true,isL,getR,Bool.true_and,At.eta,hP,hF,b1,b2,b3,b4];by_cases h1:y.Kind=1
 ·simp only [h1,decide_true,cond_true,if_true]
  match hl:y.Ag with
  | []=>cases plA y <;>rfl
  | [u]=>cases plA y <;>rfl
  | [u,v]=>
   have e:=hE u (by rw [hl]; simp) v
   simp only [List.getD,qf,List.length_nil,Int.toNat_zero,List.getElem?_cons_zero,List.getElem?_cons_succ,Option.getD,show Int.toNat 1=1 from rfl,z60]
   simp only [e];generalize decide (u=v)=E;cases plA y <;>rfl
  | u::v::w::l=>
   have e:((Int.ofNat (u::v::w::l).length)==(2:Int))=false:=by rw [beq_eq_false_iff_ne]; simp; omega
   simp only [e];cases plA y <;>rfl
 simp only [h1,decide_false,cond_false,if_false];by_cases h2:y.Kind=2
 ·simp only [h2,decide_true,cond_true,if_true]
  match hl:y.Ag with
  | []=>cases plA y <;>rfl
  | [u]=>
   have e:=hC u (by rw [hl]; simp)
   have eV:V u=true:=by
    rw [hl] at hA;unfold zsW at hA;simp at hA;exact hA.1
   simp only [List.getD,qf,List.length_nil,Int.toNat_zero,List.getElem?_cons_zero,Option.getD,zJX,zHd,e,hV u eV]
   match u with
   | []=>cases plA y <;>rfl
   | [t]=>
    have e1:zv7 [t]=(t.Fs.length==0):=by simp [zv7]
    have e2:isC [t]=(t.Fs.length==0):=rfl;rw [e1,e2];cases plA y <;>cases (t.Fs.length==0) <;>cases isU [t] <;>rfl
   | t::s::r=>
    simp only [zOz];cases plA y <;>rfl
  | u::v::l=>
   simp only [zOz];cases plA y <;>rfl
 simp only [h2,decide_false,cond_false,if_false];by_cases h3:y.Kind=3
 ·simp only [h3,decide_true,cond_true,if_true]
  match hl:y.Ag with
  | []=>cases plA y <;>rfl
  | [u]=>
   have e:=hC u (by rw [hl]; simp)
   simp only [List.getD,qf,List.length_nil,Int.toNat_zero,List.getElem?_cons_zero,Option.getD,zJX];simp only [e];cases plA y <;>cases zv7 u <;>rfl
  | u::v::l=>
   simp only [zOz];cases plA y <;>rfl
 simp only [h3,decide_false,cond_false,if_false];by_cases h4:y.Kind=4
 ·have e10:decide (Int.ofNat y.Items.length>(1024:Int))=false:=by simp; omega
  rw [hS _ (by omega)]
  rw [e10];simp only [h4,decide_true,cond_true,if_true,cond_false];rw [show (Int.ofNat y.Ag.length != (0:Int))= !(y.Ag.length==0) from congrArg not (zzk y.Ag.length 0),show (Int.ofNat y.Items.length==(0:Int))=(y.Items.length==0) from zzk y.Items.length 0]
  have e11:decide (0<y.Items.length)= !(y.Items.length==0):=by
   rw [z4p];by_cases h:y.Items.length=0
   ·simp [h]
   ·have:0<y.Items.length:=by omega
    simp [h,this]
  rw [e11];cases (y.Ag.length==0) <;>cases (y.Items.length==0) <;>cases zEf y.Func y.Items y.Op y.Bd <;>cases zGe V y.Items <;>cases zY5 y.Items <;>rfl
 simp only [h4,decide_false,cond_false,if_false]
end
section
variable (V:yC->Bool) (vat:At->Bool)
theorem V_9 (g:At->Bool×Bool) (a t10:yC) (t11 t12:Int) (t:Term) {d:Nat} (ht:zcH (zo d) t.Fs) (hd:d<=99) (hg:∀ f∈t.Fs,g f.At=(true,vat f.At)) (n:Nat) (hn:t.Fs.length<n):
  zw4 g n a t10 t11 t12 t.Fs t.Fs.length 0 t=(true,bif okF vat t.Fs then .inr (a,t10,t11,t12) else .inl false):=by
 have hl:=ht.1
 exact zeb (W:=zxk g) (z:=.inl default) t.Fs.length (λk=>(a,(),t10,t11,t12,t.Fs,(t.Fs.length:Int),(k:Int),())) (λ_=>(t,())) (zSA vat t.Fs) (.inl false) (.inr (a,t10,t11,t12))
  (λk hk H K D=>by
   show (zlk g a t10 t11 t12 t.Fs t.Fs.length k t).ev H K D=_;unfold zlk zSA
   have hgt:decide ((k:Int)>0)= !decide (k=0):=by
    by_cases h:k=0
    ·subst h; rfl
    ·have:0<k:=by omega
     simp [h,this]
   simp only [At.eta,Wy.ev_i,Wy.ev_k,Wy.ev_h,Wy.ev_bn,Wy.ev_d,tT,hk,z8M,hg _ (zp hk),hgt];rw [zN (by omega)]
   have e1:decide ((t.Fs.getD k default).Exp<1)= !decide (1<=(t.Fs.getD k default).Exp):=by
    by_cases h:1<=(t.Fs.getD k default).Exp
    ·have:¬ (t.Fs.getD k default).Exp<1:=by omega
     simp only [h,this,decide_true,decide_false,Bool.not_true]
    ·have:(t.Fs.getD k default).Exp<1:=by omega
     simp only [h,this,decide_true,decide_false,Bool.not_false]
   rw [e1];generalize decide (1<=(t.Fs.getD k default).Exp)=E1;generalize ((t.Fs.getD k default).Exp != 1)=E2;generalize ((t.Fs.getD k default).At.Kind==3||(t.Fs.getD k default).At.Kind==4)=E3;by_cases h0:k=0
   ·simp only [h0,decide_true,Bool.not_true,cond_false,Bool.true_or,Bool.and_true];cases E1 <;>cases E2 <;>cases E3 <;>cases vat (t.Fs.getD 0 default).At <;>rfl
   ·have hp:IntKind.i64.wrap ((k:Int) - 1)=((k - 1:Nat):Int):=zCe (by omega) (by omega)
    have hk':k - 1<t.Fs.length:=by omega
    have hfx:zdf (zo d) (t.Fs.getD (k - 1) default).At:=ht.2 _ (zp hk')
    have e2:∀ z:Int,decide (z≥0)= !decide (z<0):=λz=>by
     by_cases h:z<0
     ·have:¬ z≥0:=by omega
      simp [h,this]
     ·have:z≥0:=by omega
      simp [h,this]
    simp only [h0,hp,tT,hk',zAa hfx hd,e2,Bool.false_or];generalize decide (zbi (zdZ (t.Fs.getD (k - 1) default).At) (zdZ (t.Fs.getD k default).At)<0)=E4;cases E1 <;>cases E2 <;>cases E3 <;>cases E4 <;>cases vat (t.Fs.getD k default).At <;>rfl)
  (λH K D=>by
   show (zlk g a t10 t11 t12 t.Fs t.Fs.length t.Fs.length t).ev H K D=_;unfold zlk;simp only [Wy.ev_i,Wy.ev_k,tT,Nat.lt_irrefl]) n hn
theorem V_4 (g:At->Bool×Bool) (a:yC) {d:Nat} (h:zo (d+1) a) (hd:d<=99) (hg:∀ t∈a,∀ f∈t.Fs,g f.At=(true,vat f.At)) (n:Nat) (hn:a.length<n):
  zFB g n a a a.length 0=(true,bif zfk (zHj vat a) a.length 0 then .inr () else .inl false):=by
 have hl:=h.1
 exact zeb (W:=zxx g) (z:=.inl default) a.length (λk=>(a,a,(a.length:Int),(k:Int),())) (λ_=>()) (zHj vat a) (.inl false) (.inr ())
  (λk hk H K D=>by
   show (zlp g a a a.length k).ev H K D=_;unfold zlp zHj;have ht:=h.2 _ (zp hk)
   have hgt:decide ((k:Int)>0)= !decide (k=0):=by
    by_cases h:k=0
    ·subst h; rfl
    ·have:0<k:=by omega
     simp [h,this]
   simp only [At.eta,Wy.ev_i,Wy.ev_k,Wy.ev_h,Wy.ev_bn,Wy.ev_d,tT,hk,hgt];rw [V_9 vat g a a a.length k _ ht hd (hg _ (zp hk)) _ (by omega)]
   have e1:decide ((a.getD k default).Cf<1)= !decide (1<=(a.getD k default).Cf):=by
    by_cases h:1<=(a.getD k default).Cf
    ·have:¬ (a.getD k default).Cf<1:=by omega
     simp only [h,this,decide_true,decide_false,Bool.not_true]
    ·have:(a.getD k default).Cf<1:=by omega
     simp only [h,this,decide_true,decide_false,Bool.not_false]
   have e3:decide ((a.getD k default).Cf>1152921504606846976)= !decide ((a.getD k default).Cf<=1152921504606846976):=by
    by_cases h:(a.getD k default).Cf<=1152921504606846976
    ·have:¬ (a.getD k default).Cf>1152921504606846976:=by omega
     simp only [h,this,decide_true,decide_false,Bool.not_true]
    ·have:(a.getD k default).Cf>1152921504606846976:=by omega
     simp only [h,this,decide_true,decide_false,Bool.not_false]
   rw [e1,e3];generalize decide (1<=(a.getD k default).Cf)=E1;generalize decide ((a.getD k default).Cf<=1152921504606846976)=E2;by_cases h0:k=0
   ·subst h0;simp only [decide_true,Bool.not_true,cond_false,Bool.true_or,Bool.and_true];cases okF vat (a.getD 0 default).Fs <;>cases E1 <;>cases E2 <;>try rfl
   ·have hp:IntKind.i64.wrap ((k:Int) - 1)=((k - 1:Nat):Int):=zCe (by omega) (by omega)
    have hk':k - 1<a.length:=by omega
    have hfx:zcH (zo d) (a.getD (k - 1) default).Fs:=h.2 _ (zp hk')
    have e2:∀ z:Int,decide (z≥0)= !decide (z<0):=λz=>by
     by_cases h:z<0
     ·have:¬ z≥0:=by omega
      simp [h,this]
     ·have:z≥0:=by omega
      simp [h,this]
    simp only [h0,hp,tT,hk',zAv hfx hd,e2,Bool.false_or];generalize decide (zbI (zbu (a.getD (k - 1) default).Fs) (zbu (a.getD k default).Fs)<0)=E4;cases okF vat (a.getD k default).Fs <;>cases E1 <;>cases E2 <;>cases E4 <;>try rfl
    simp only [cond_true,cond_false,Bool.not_true,isL,getR,Bool.and_self];rw [zN (by omega),decide_eq_false (show ¬ ((k - 1:Nat):Int)<0 by omega)]; rfl)
  (λH K D=>by
   show (zlp g a a a.length a.length).ev H K D=_;unfold zlp;simp only [Wy.ev_i,Wy.ev_k,tT,Nat.lt_irrefl]) n hn
theorem zbev (g:At->Bool×Bool) (a:yC) {d:Nat} (h:zo (d+1) a) (hd:d<=99) (hs:zL a<=4611686018427387904) (hg:∀ t∈a,∀ f∈t.Fs,g f.At=(true,vat f.At)):zoW g a=(true,zAU vat a):=by
 unfold zoW zHf zAU;have:=V_4 vat g a h hd hg (a.length+a.length+(Int.ofNat a.length).toNat +Int.toNat (0:Int)+(1:Nat)) (by omega)
 rw [show Int.ofNat a.length=(a.length:Int) from rfl] at *
 simp only [Wy.fin_i,Wy.fin_k,Wy.fin_bn,z9c h (by omega) hs,this,cond_true]
 cases zf4 a <;>cases zfk (zHj vat a) a.length 0 <;>rfl
theorem zblc (g:At->Bool×Bool) (a:yC) (i:Int) (t:Term) {d:Nat} (ht:zcH (zo d) t.Fs) (hd:d<=99) (hg:∀ f∈t.Fs,g f.At=(true,vat f.At)) (hk:∀ x,vat x=true->0<=x.Kind/\x.Kind<=4) (n:Nat) (hn:t.Fs.length<n):
  zEq g n a i 0 t=(true,bif okF vat t.Fs then .inr (a,i) else .inl false):=by
 have hl:=ht.1
 exact zeb (W:=zEi g) (z:=.inl default) t.Fs.length (λk=>(a,i,(),(k:Int),())) (λ_=>(t,())) (zSA vat t.Fs) (.inl false) (.inr (a,i))
  (λk hk1 H K D=>by
   show (zqp g a i k t).ev H K D=_;unfold zqp zSA
   have hgt:decide ((k:Int)>0)= !decide (k=0):=by
    by_cases h:k=0
    ·subst h; rfl
    ·have:0<k:=by omega
     simp [h,this]
   simp only [At.eta,Wy.ev_i,Wy.ev_k,Wy.ev_h,Wy.ev_bn,Wy.ev_d,tT,hk1,hg _ (zp hk1),hgt];rw [zN (by omega)]
   have hk2:=hk (t.Fs.getD k default).At
   have e1:decide ((t.Fs.getD k default).Exp<1)= !decide (1<=(t.Fs.getD k default).Exp):=by
    by_cases h:1<=(t.Fs.getD k default).Exp
    ·have:¬ (t.Fs.getD k default).Exp<1:=by omega
     simp only [h,this,decide_true,decide_false,Bool.not_true]
    ·have:(t.Fs.getD k default).Exp<1:=by omega
     simp only [h,this,decide_true,decide_false,Bool.not_false]
   rw [e1];by_cases hx1:1<=(t.Fs.getD k default).Exp
   rotate_left
   ·simp only [hx1,decide_false,Bool.not_false,cond_true,Bool.false_and,cond_false]
   cases hv:vat (t.Fs.getD k default).At with
   | false=>
    rw [Bool.and_false];cases decide (1<=(t.Fs.getD k default).Exp) <;>cases decide ((t.Fs.getD k default).Exp>1) <;>cases decide ((t.Fs.getD k default).At.Kind≥3) <;>rfl
   | true=>
   obtain ⟨k1,k2⟩:=hk2 hv
   have e5:((t.Fs.getD k default).At.Kind==3||(t.Fs.getD k default).At.Kind==4)=decide ((t.Fs.getD k default).At.Kind≥3):=by
    rw [zh8,zh8, <- Bool.decide_or];congr 1;apply propext; omega
   have e6:((t.Fs.getD k default).Exp != 1)=decide ((t.Fs.getD k default).Exp>1):=by
    rw [zA4, <- decide_not];congr 1;apply propext; omega
   rw [e5,e6];simp only [hx1,decide_true,Bool.not_true,cond_false,Bool.true_and];generalize decide ((t.Fs.getD k default).Exp>1)=E2;generalize decide ((t.Fs.getD k default).At.Kind≥3)=E3;by_cases h0:k=0
   ·simp only [h0,decide_true,Bool.not_true,cond_false,Bool.true_or,Bool.and_true];cases E2 <;>cases E3 <;>rfl
   ·have hp:IntKind.i64.wrap ((k:Int) - 1)=((k - 1:Nat):Int):=zCe (by omega) (by omega)
    have hk':k - 1<t.Fs.length:=by omega
    have hfx:zdf (zo d) (t.Fs.getD (k - 1) default).At:=ht.2 _ (zp hk')
    have e2:∀ z:Int,decide (z≥0)= !decide (z<0):=λz=>by
     by_cases h:z<0
     ·have:¬ z≥0:=by omega
      simp [h,this]
     ·have:z≥0:=by omega
      simp [h,this]
    simp only [h0,hp,tT,hk',zzf hfx hd,e2,Bool.false_or];generalize decide (zbi (zdZ (t.Fs.getD (k - 1) default).At) (zdZ (t.Fs.getD k default).At)<0)=E4;cases E2 <;>cases E3 <;>cases E4 <;>rfl)
  (λH K D=>by
   show (zqp g a i t.Fs.length t).ev H K D=_;unfold zqp;simp only [Wy.ev_i,Wy.ev_k,tT,Nat.lt_irrefl]) n hn
theorem zblD (g:At->Bool×Bool) (a:yC) {d:Nat} (h:zo (d+1) a) (hd:d<=99) (hg:∀ t∈a,∀ f∈t.Fs,g f.At=(true,vat f.At)) (hk:∀ x,vat x=true->0<=x.Kind/\x.Kind<=4) (n:Nat) (hn:a.length<n):
  zOb g n a 0=(true,bif zfk (zHj vat a) a.length 0 then .inr () else .inl false):=by
 have hl:=h.1
 exact zeb (W:=zFw g) (z:=.inl default) a.length (λk=>(a,(k:Int),())) (λ_=>()) (zHj vat a) (.inl false) (.inr ())
  (λk hk1 H K D=>by
   show (zsz g a k).ev H K D=_;unfold zsz zHj;have ht:=h.2 _ (zp hk1)
   have hgt:decide ((k:Int)>0)= !decide (k=0):=by
    by_cases h:k=0
    ·subst h; rfl
    ·have:0<k:=by omega
     simp [h,this]
   simp only [At.eta,Wy.ev_i,Wy.ev_k,Wy.ev_h,Wy.ev_bn,Wy.ev_d,tT,hk1,hgt];rw [zblc vat g a k _ ht hd (hg _ (zp hk1)) hk _ (by omega)]
   have e1:decide ((a.getD k default).Cf<1)= !decide (1<=(a.getD k default).Cf):=by
    by_cases h:1<=(a.getD k default).Cf
    ·have:¬ (a.getD k default).Cf<1:=by omega
     simp only [h,this,decide_true,decide_false,Bool.not_true]
    ·have:(a.getD k default).Cf<1:=by omega
     simp only [h,this,decide_true,decide_false,Bool.not_false]
   have e3:decide ((a.getD k default).Cf>1152921504606846976)= !decide ((a.getD k default).Cf<=1152921504606846976):=by
    by_cases h:(a.getD k default).Cf<=1152921504606846976
    ·have:¬ (a.getD k default).Cf>1152921504606846976:=by omega
     simp only [h,this,decide_true,decide_false,Bool.not_true]
    ·have:(a.getD k default).Cf>1152921504606846976:=by omega
     simp only [h,this,decide_true,decide_false,Bool.not_false]
   rw [e1,e3];generalize decide (1<=(a.getD k default).Cf)=E1;generalize decide ((a.getD k default).Cf<=1152921504606846976)=E2;by_cases h0:k=0
   ·subst h0;simp only [decide_true,Bool.not_true,cond_false,Bool.true_or,Bool.and_true];cases okF vat (a.getD 0 default).Fs <;>cases E1 <;>cases E2 <;>try rfl
   ·have hp:IntKind.i64.wrap ((k:Int) - 1)=((k - 1:Nat):Int):=zCe (by omega) (by omega)
    have hk':k - 1<a.length:=by omega
    have hfx:zcH (zo d) (a.getD (k - 1) default).Fs:=h.2 _ (zp hk')
    have e2:∀ z:Int,decide (z≥0)= !decide (z<0):=λz=>by
     by_cases h:z<0
     ·have:¬ z≥0:=by omega
      simp [h,this]
     ·have:z≥0:=by omega
      simp [h,this]
    simp only [h0,hp,tT,hk',znn hfx hd,e2,Bool.false_or];generalize decide (zbI (zbu (a.getD (k - 1) default).Fs) (zbu (a.getD k default).Fs)<0)=E4;cases okF vat (a.getD k default).Fs <;>cases E1 <;>cases E2 <;>cases E4 <;>try rfl
    simp only [cond_true,cond_false,Bool.not_true,isL,getR,Bool.and_self];rw [zN (by omega),decide_eq_false (show ¬ ((k - 1:Nat):Int)<0 by omega)]; rfl)
  (λH K D=>by
   show (zsz g a a.length).ev H K D=_;unfold zsz;simp only [Wy.ev_i,Wy.ev_k,tT,Nat.lt_irrefl]) n hn
theorem zbdc (g:At->Bool×Bool) (a:yC) {d:Nat} (h:zo (d+1) a) (hd:d<=99) (hs:zL a<=4611686018427387904) (hg:zf4 a=true->∀ t∈a,∀ f∈t.Fs,g f.At=(true,vat f.At)) (hk:∀ x,vat x=true->0<=x.Kind/\x.Kind<=4):zAf g a=(true,zAU vat a):=by
 unfold zAf zRN zAU;rw [Wy.fin_bn,zbd6 h (by omega) hs]
 cases hw:zf4 a with
 | false=>rfl
 | true=>
  have:=zblD vat g a h hd (hg hw) hk ((a.length+Int.toNat (0:Int)+(1:Nat))+zb9 a) (by omega)
  simp only [Wy.fin_i,Wy.fin_k,Wy.fin_bn,this,cond_true];cases zfk (zHj vat a) a.length 0 <;>rfl
end
theorem z3t {l:yA} {a:yC} (h:a∈l):zL a<=zfP l:=by
 induction l with
 | nil=>cases h
 | cons b r ih=>
  rw [zfp];rcases qd.1 h with rfl | h
  ·omega
  ·have:=ih h; omega
theorem z04 {l:yE} {w:Wd} (h:w∈l):zL w.Ann<=zdC l:=by
 induction l with
 | nil=>cases h
 | cons b r ih=>
  rw [zi5];rcases qd.1 h with rfl | h
  ·omega
  ·have:=ih h; omega
theorem zPK {m:Nat} {a:yC} (h:zbF m a=true):isB a=isU a:=by
 cases m with
 | zero=>cases h
 | succ m=>
 match a with
 | []=>rfl
 | [t]=>
  simp only [zbF,zAU,qc] at h;have h1:=zev.1 h.2 0 (by omega) (by simp)
  simp only [zHj,qc] at h1;have h2:=h1.2;obtain ⟨c,fs⟩:=t
  match fs with
  | []=>rfl
  | [f]=>
   have h3:=zev.1 h2 0 (by omega) (by simp)
   simp only [zSA,qc] at h3;have h4:=zGM h3.2;simp only [List.getD_cons_zero] at h4;show (c==1&&(f.Exp==1&&decide (2<=f.At.Kind)))=(c==1&&(f.Exp==1&&(f.At.Kind==2||f.At.Kind==3||f.At.Kind==4)))
   have e:decide (2<=f.At.Kind)=(f.At.Kind==2||f.At.Kind==3||f.At.Kind==4):=by
    rw [zh8,zh8,zh8, <- Bool.decide_or, <- Bool.decide_or];congr 1;apply propext; omega
   rw [e]
  | f::f'::r=>rfl
 | t::u::r=>rfl
theorem zblb (g) (l:yA):zcW g l=IG (λ(_:Unit) x=>g x) (l.length+(Int.ofNat l.length).toNat +Int.toNat (0:Int)+(1:Nat)) () l:=rfl
theorem zbk3 (g) (l:yE):zdr g l=IG (λ(_:Unit) x=>g x) (l.length+(Int.ofNat l.length).toNat +Int.toNat (0:Int)+(1:Nat)) () l:=rfl
theorem zRk:∀ n,
  (∀ d m a,zo d a->10*d<=n->d<=m->d<=100->zL a<=4611686018427387904->zlx n a=(true,zbF m a))/\
  (∀ d m x,zdf (zo d) x->10*d+9<=n->d<=m->d<=99->zfK x<=4611686018427387904->zog n x=(true,zes (zbF m) x))/\
  (∀ d m a,zo d a->10*d+6<=n->d<=m->d<=99->zL a<=4611686018427387904->zfM n a=(true, !(zbF m a&& !(a.length==0))))/\
  (∀ d m (w:Wd),zo d w.Ann->10*d+6<=n->d<=m->d<=99->zL w.Ann<=4611686018427387904->zfJ n w=(true, !(zbF m w.Ann&& !(w.Ann.length==0))))/\
  (∀ d m (l:yA),l.length<=1000000->(∀ a∈l,zo d a/\zL a<=4611686018427387904)->10*d+7<=n->d<=m->d<=99->zcX n l=(true,ixf (λa=> !(zbF m a&& !(a.length==0))) l 0))/\
  (∀ d m (l:yA),l.length<=1000000->(∀ a∈l,zo d a/\zL a<=4611686018427387904)->10*d+8<=n->d<=m->d<=99->zcG n l=(true, !zsW (zbF m) l))/\
  (∀ d m (l:yE),l.length<=1000000->(∀ a∈l,zo d a.Ann/\zL a.Ann<=4611686018427387904)->10*d+7<=n->d<=m->d<=99->zdt n l=(true,ixf (λa=> !(zbF m a.Ann&& !(a.Ann.length==0))) l 0))/\
  (∀ d m (l:yE),l.length<=1000000->(∀ a∈l,zo d a.Ann/\zL a.Ann<=4611686018427387904)->10*d+8<=n->d<=m->d<=99->zc2 n l=(true, !zGe (zbF m) l))
 | 0=>by
  refine ⟨?_, ?_, ?_, ?_, ?_, ?_, ?_, ?_⟩
  ·intro d m a h hd; have:d=0:=by omega
   subst this; exact h.elim
  all_goals (intros; omega)
 | n+1=>by
  obtain ⟨h1,h2,h3,h4,h5,h6,h7,h8⟩:=zRk n;refine ⟨?_, ?_, ?_, ?_, ?_, ?_, ?_, ?_⟩
  ·intro d m a h hd hm hd2 hs;cases d with
   | zero=>exact h.elim
   | succ d=>
    cases m with
    | zero=>omega
    | succ m=>
     rw [zTf]
     exact zbev _ _ a h (by omega) hs λt ht f hf=>h2 d m f.At ((h.2 t ht).2 f hf) (by omega) (by omega) (by omega) (by
      have:=z7z ht hf; rw [zhT]; omega)
  ·intro d m x h hd hm hd2 hs;rw [zNo];rw [zhT] at hs
   exact z8v _ _ _ _ _ x h hd2 (h6 d m _ h.1.1 (λa ha=>⟨h.2.1 a ha,by have:=z3t ha; omega⟩) (by omega) hm hd2)
    (h8 d m _ h.1.2.1 (λa ha=>⟨(h.2.2 a ha).2,by have:=z04 ha; omega⟩) (by omega) hm hd2)
  ·intro d m a h hd hm hd2 hs;rw [zJa];unfold zlz zyN;rw [Wy.fin_bn,h1 d m a h (by omega) hm (by omega) hs]
   simp only [cond_true,Wy.fin_i,Wy.fin_k,show (Int.ofNat a.length==(0:Int))=(a.length==0) from zzk a.length 0]
   cases zbF m a <;>simp
  ·intro d m a h hd hm hd2 hs;rw [zJw];unfold zly zyE;rw [Wy.fin_bn,h1 d m a.Ann h (by omega) hm (by omega) hs]
   simp only [cond_true,Wy.fin_i,Wy.fin_k,show (Int.ofNat a.Ann.length==(0:Int))=(a.Ann.length==0) from zzk a.Ann.length 0]
   cases zbF m a.Ann <;>simp
  ·intro d m l hl h hd hm hd2;rw [zoj,zblb];exact zG4 _ _ _ _ _ (by omega) (λx hx=>h3 d m x (h x hx).1 (by omega) hm hd2 (h x hx).2) (by omega)
  ·intro d m l hl h hd hm hd2;rw [zm6];unfold zcI zf1;rw [zi6 (h5 d m l hl h (by omega) hm hd2)]
   simp [zsW,List.all_eq_not_any_not]
  ·intro d m l hl h hd hm hd2;rw [zqa,zbk3];exact zG4 _ _ _ _ _ (by omega) (λx hx=>h4 d m x (h x hx).1 (by omega) hm hd2 (h x hx).2) (by omega)
  ·intro d m l hl h hd hm hd2;rw [zo8];unfold zc4 zha;rw [zi6 (h7 d m l hl h (by omega) hm hd2)]
   simp [zGe,List.all_eq_not_any_not]
theorem zbcR {a:yC} (h:zf4 a=true) {t:Term} (ht:t∈a) {f:Fc} (hf:f∈t.Fs):f.At.Items.length<=1024/\f.Exp<=64/\t.Fs.length<=64:=by
 simp only [zf4,qc,List.all_eq_true] at h;have:=h.2 t ht;simp only [zFc,Bool.not_eq_true',Bool.or_eq_false_iff,decide_eq_false_iff_not,List.any_eq_false] at this;have h2:=this.2 f hf;simp at h2;omega
theorem z5C:∀ n,
  (∀ d m a,zo d a->3*d<=n->d<=m->d<=100->zL a<=4611686018427387904->zAq n a=(true,zbF m a))/\
  (∀ d m x,zdf (zo d) x->3*d+2<=n->d<=m->d<=99->zfK x<=4611686018427387904->x.Items.length<=1024->zwC n x=(true,zes (zbF m) x))
 | 0=>by
  refine ⟨?_, ?_⟩
  ·intro d m a h hd; have:d=0:=by omega
   subst this; exact h.elim
  ·intros; omega
 | n+1=>by
  obtain ⟨h1,h2⟩:=z5C n;refine ⟨?_, ?_⟩
  ·intro d m a h hd hm hd2 hs;cases d with
   | zero=>exact h.elim
   | succ d=>
    cases m with
    | zero=>omega
    | succ m=>
     rw [z35]
     exact zbdc _ _ a h (by omega) hs (λhw t ht f hf=>h2 d m f.At ((h.2 t ht).2 f hf) (by omega) (by omega) (by omega) (by
      have:=z7z ht hf; rw [zhT]; omega) (zbcR hw ht hf).1) λx hx=>zGM hx
  ·intro d m x h hd hm hd2 hs h10;rw [zVM];rw [zhT] at hs
   exact z6Y _ _ x h hd2 h10 (λa ha=>zPK ha) (λa ha=>h1 d m a (h.2.1 a ha) (by omega) hm (by omega) (by have:=z3t ha; omega))
    λa ha=>h1 d m a.Ann (h.2.2 a ha).2 (by omega) hm (by omega) (by have:=z04 ha; omega)
def zU (a:yC):Bool:=zbF 100 a
theorem zQ8 {d:Nat} {a:yC} (h:zo d a) (hd:d<=100) (hs:zL a<=4611686018427387904):zbZ a=(true,zU a):=(zRk 1000).1 d 100 a h (by omega) hd hd hs
theorem z7c {d:Nat} {a:yC} (h:zo d a) (hd:d<=100) (hs:zL a<=4611686018427387904):zgv a=(true,zU a):=(z5C 1000).1 d 100 a h (by omega) hd hd hs
theorem zSq {τ:Type} [Inhabited τ] {l:List τ} {x:τ} (h:x∈l):∃ i,i<l.length/\l.getD i default=x:=by
 obtain ⟨i,hi,e⟩:=List.mem_iff_getElem.1 h;exact ⟨i,hi,by rw [List.getD_eq_getElem?_getD,List.getElem?_eq_getElem hi]; exact e⟩
theorem zLr {vat:At->Bool} {a:yC} (h:zAU vat a=true):zf4 a=true:=by
 simp only [zAU,qc] at h; exact h.1
theorem zyF {vat:At->Bool} {a:yC} (h:zAU vat a=true) {t:Term} (ht:t∈a):(1<=t.Cf/\t.Cf<=1152921504606846976)/\okF vat t.Fs=true:=by
 simp only [zAU,qc] at h;obtain ⟨i,hi,rfl⟩:=zSq ht;have:=zev.1 h.2 i (by omega) (by omega)
 simp only [zHj,qc,qe] at this;exact ⟨this.1.1,this.2⟩
theorem zq9 {vat:At->Bool} {fs:yD} (h:okF vat fs=true) {f:Fc} (hf:f∈fs):(1<=f.Exp/\(f.At.Kind=3\/f.At.Kind=4->f.Exp=1))/\vat f.At=true:=by
 obtain ⟨i,hi,rfl⟩:=zSq hf;have:=zev.1 h i (by omega) (by omega)
 simp only [zSA,qc,qe] at this;refine ⟨⟨this.1.1.1,λhk=> ?_⟩,this.2⟩
 have h2:=this.1.1.2;rcases hk with hk | hk
 ·rw [hk] at h2; simpa using h2
 ·rw [hk] at h2; simpa using h2
theorem zbje {b:Value} (h:bz b=true):b=⟨0,0,ByteArray.mk #[]⟩:=by
 unfold bz at h;rw [zZL] at h;simp only [qc,beq_iff_eq,qe,and_true] at h;obtain ⟨k,i,t⟩:=b;simp only at h;obtain ⟨rfl,rfl,rfl⟩:=h;rfl
theorem zyH {v:Value} (h:zxB v=true):v.Text.size<=255:=by
 simp only [zxB,Bool.or_eq_true,qc,beq_iff_eq,qe] at h;omega
theorem zWQ {x:At} (h:plA x=true):x.Func=0/\x.Items=[]/\x.Op=0/\x.Bd=⟨0,0,ByteArray.mk #[]⟩:=by
 simp only [plA,qc,beq_iff_eq] at h;exact ⟨h.1.1.1,List.length_eq_zero_iff.1 h.1.1.2,h.1.2,zbje h.2⟩
theorem zbiQ {r:RowID} (h:rz r=true):r=⟨0,0⟩:=by
 simp only [rz,qc,beq_iff_eq,and_true] at h;obtain ⟨t,s⟩:=r;simp only at h;obtain ⟨rfl,rfl⟩:=h; rfl
inductive VA (V:yC->Bool):At->Prop
 | var (r:RowID) (h:zDv r=true):VA V ⟨0,r,[],0,[],0,⟨0,0,ByteArray.mk #[]⟩⟩
 | mon (a b:yC) (ha:V a=true) (hb:V b=true) (ha0:a≠[]) (hb0:b≠[]) (h:a≠b):VA V ⟨1,⟨0,0⟩,[a,b],0,[],0,⟨0,0,ByteArray.mk #[]⟩⟩
 | del (a:yC) (ha:V a=true) (ha0:a≠[]) (h:isC a=false) (h':isU a=false):VA V ⟨2,⟨0,0⟩,[a],0,[],0,⟨0,0,ByteArray.mk #[]⟩⟩
 | abs (a:yC) (ha:V a=true) (ha0:a≠[]) (h:zv7 a=false):VA V ⟨3,⟨0,0⟩,[a],0,[],0,⟨0,0,ByteArray.mk #[]⟩⟩
 | tst (f:Int) (l:yE) (o:Int) (b:Value) (hl:l≠[]) (hi:∀ w∈l,V w.Ann=true/\w.Ann≠[]) (hs:zY5 l=true) (hf:zEf f l o b=true):VA V ⟨4,⟨0,0⟩,[],f,l,o,b⟩
theorem zdN {V:yC->Bool} {x:At}:zes V x=true↔VA V x:=by
 constructor
 ·intro h;have hk:=zGM h;obtain ⟨k,r,l,f,its,o,b⟩:=x;simp only at hk;unfold zes at h;simp only [qc] at h;obtain ⟨h1,h2⟩:=h
  have ha:∀ a∈l,V a=true/\a≠[]:=λa ha=>by
   have:=List.all_eq_true.1 h1 a ha;simp only [qc,Bool.not_eq_true',beq_eq_false_iff_ne] at this;exact ⟨this.1,λe=>this.2 (by rw [e]; rfl)⟩
  by_cases h0:k=0
  ·subst h0;simp only [if_true,qc,beq_iff_eq] at h2;obtain ⟨e1,e2,e3,e4⟩:=zWQ h2.1.1;simp only at e1 e2 e3 e4;subst e1 e2 e3 e4;obtain rfl:l=[]:=List.length_eq_zero_iff.1 h2.2;exact .var r h2.1.2
  simp only [h0,if_false,qc] at h2;obtain ⟨hr,h2⟩:=h2;have hr':=zbiQ hr;subst hr';by_cases h0':k=1
  ·subst h0';simp only [if_true,qc] at h2;obtain ⟨e1,e2,e3,e4⟩:=zWQ h2.1;simp only at e1 e2 e3 e4;subst e1 e2 e3 e4
   match l,h2.2,ha with
   | [a,b],h3,ha=>exact .mon a b (ha a (by simp)).1 (ha b (by simp)).1 (ha a (by simp)).2 (ha b (by simp)).2 (by simpa [z60] using h3)
  simp only [h0',if_false] at h2;by_cases h2':k=2
  ·subst h2';simp only [if_true,qc] at h2;obtain ⟨e1,e2,e3,e4⟩:=zWQ h2.1;simp only at e1 e2 e3 e4;subst e1 e2 e3 e4
   match l,h2.2,ha with
   | [a],h3,ha=>
    simp only [zJX,qc,Bool.not_eq_true'] at h3;exact .del a (ha a (by simp)).1 (ha a (by simp)).2 h3.1 h3.2
  simp only [h2',if_false] at h2;by_cases h3':k=3
  ·subst h3';simp only [if_true,qc] at h2;obtain ⟨e1,e2,e3,e4⟩:=zWQ h2.1;simp only at e1 e2 e3 e4;subst e1 e2 e3 e4
   match l,h2.2,ha with
   | [a],h3,ha=>
    simp only [zJX,Bool.not_eq_true'] at h3;exact .abs a (ha a (by simp)).1 (ha a (by simp)).2 h3
  simp only [h3',if_false] at h2;have h4':k=4:=by omega
  subst h4';simp only [if_true,qc,beq_iff_eq,qe] at h2;obtain ⟨⟨⟨⟨h3,h4⟩,h5⟩,h6⟩,h7⟩:=h2;obtain rfl:l=[]:=List.length_eq_zero_iff.1 h3
  exact .tst f its o b (λe=>by rw [e] at h4; simp at h4) (λw hw=>by
   have:=List.all_eq_true.1 h5 w hw;simp only [qc,Bool.not_eq_true',beq_eq_false_iff_ne] at this;exact ⟨this.1,λe=>this.2 (by rw [e]; rfl)⟩) h6 h7
 ·intro h
  have ne:∀ a:yC,a≠[]->(a.length==0)=false:=λa ha=>by
   rw [beq_eq_false_iff_ne]; exact λe=>ha (List.length_eq_zero_iff.1 e)
  cases h with
  | var r h=>simp [zes,zsW,plA,bz,h]
  | mon a b ha hb ha0 hb0 h=>simp [zes,zsW,plA,bz,rz,z60,ha,hb,ha0,hb0,h]
  | del a ha ha0 h h'=>simp [zes,zsW,plA,bz,rz,zJX,ha,ha0,h,h']
  | abs a ha ha0 h=>simp [zes,zsW,plA,bz,rz,zJX,ha,ha0,h]
  | tst f l o b hl hi hs hf=>
   have h1:zGe V l=true:=List.all_eq_true.2 λw hw=>by rw [(hi w hw).1,ne _ (hi w hw).2]; rfl
   have h2:0<l.length:=by
    cases l with
    | nil=>exact absurd rfl hl
    | cons x r=>simp
   simp [zes,zsW,rz,h1,hs,hf,h2]
theorem zva {a:yC} (h:zf4 a=true):a.length<=512/\zbv a<=8/\zL a<=4096/\∀ t∈a,t.Fs.length<=64/\∀ f∈t.Fs,f.Exp<=64/\f.At.Items.length<=1024:=by
 simp only [zf4,qc,List.all_eq_true,qe] at h;refine ⟨h.1.1.1,h.1.1.2,h.1.2,λt ht=> ?_⟩
 have:=h.2 t ht;simp only [zFc,Bool.not_eq_true',Bool.or_eq_false_iff,decide_eq_false_iff_not,List.any_eq_false] at this;refine ⟨by omega,λf hf=> ?_⟩
 have h2:=this.2 f hf;simp at h2;omega
theorem z6U {a:yC} {t:Term} (h:t∈a):zdJ t.Fs<=zbv a:=by
 induction a with
 | nil=>cases h
 | cons b r ih=>
  rw [zos];rcases qd.1 h with rfl | h
  ·omega
  ·have:=ih h; omega
theorem zUg {l:yD} {f:Fc} (h:f∈l):zpv f.At<=zdJ l:=by
 induction l with
 | nil=>cases h
 | cons b r ih=>
  rw [zko];rcases qd.1 h with rfl | h
  ·omega
  ·have:=ih h; omega
theorem zSF {l:yA} {a:yC} (h:a∈l):zbv a<=zn5 l:=by
 induction l with
 | nil=>cases h
 | cons b r ih=>
  rw [zHy];rcases qd.1 h with rfl | h
  ·omega
  ·have:=ih h; omega
theorem zbbM {l:yE} {w:Wd} (h:w∈l):zbv w.Ann<=zmk l:=by
 induction l with
 | nil=>cases h
 | cons b r ih=>
  rw [zFb];rcases qd.1 h with rfl | h
  ·omega
  ·have:=ih h; omega
theorem zu9 {f:Int} {l:yE} {o:Int} {b:Value} (h:zEf f l o b=true):(0<=f/\f<=3/\5<=o/\o<=10)/\zxB b=true/\∀ w∈l,zxB w.Value=true/\w.Value.Kind=b.Kind:=by
 simp only [zEf,qc,List.all_eq_true,qe] at h;obtain ⟨⟨⟨⟨⟨⟨h1,h2⟩,h3⟩,h4⟩,h5⟩,h6⟩,h7⟩:=h;refine ⟨⟨h1,h2,h3,h4⟩,h5,λw hw=> ?_⟩
 have:=h7 w hw;simp only [zOx,qc,beq_iff_eq] at this;exact this.1
theorem z6D:∀ (m:Nat) (a:yC),zbF m a=true->zo (zbv a+1) a
 | 0,a,h=>by cases h
 | m+1,a,h=>by
  have hw:=zva (zLr h);refine ⟨by omega,λt ht=> ?_⟩
  obtain ⟨_,hok⟩:=zyF h ht;obtain ⟨h1,h2⟩:=hw.2.2.2 t ht;refine ⟨by omega,λf hf=> ?_⟩
  have hv:=zdN.1 (zq9 hok hf).2;have hn:zpv f.At<=zbv a:=Nat.le_trans (zUg hf) (z6U ht);have h3:=(h2 f hf).2;generalize f.At=x at hv hn h3;rw [zGK] at hn;have ih:∀ b,zbF m b=true->zbv b+1<=zbv a->zo (zbv a) b:=λb hb hl=>(z6D m b hb).mono hl
  cases hv with
  | var r h=>exact ⟨⟨by simp,by simp,by show (ByteArray.mk #[]).size<=_; decide⟩,λa ha=>(by cases ha),λw hw=>(by cases hw)⟩
  | mon b c hb hc _ _ _=>
   simp only at hn;refine ⟨⟨by simp,by simp,by show (ByteArray.mk #[]).size<=_; decide⟩,λy hy=> ?_,λw hw=>(by cases hw)⟩
   have:=zSF hy;simp only at this;simp only [qd,List.not_mem_nil,or_false] at hy;rcases hy with rfl | rfl
   ·exact ih _ hb (by simp at hn; omega)
   ·exact ih _ hc (by simp at hn; omega)
  | del b hb _ _ _=>
   refine ⟨⟨by simp,by simp,by show (ByteArray.mk #[]).size<=_; decide⟩,λy hy=> ?_,λw hw=>(by cases hw)⟩
   have:=zSF hy;simp only at this;simp only [qd,List.not_mem_nil,or_false] at hy;subst hy;exact ih _ hb (by simp at hn; omega)
  | abs b hb _ _=>
   refine ⟨⟨by simp,by simp,by show (ByteArray.mk #[]).size<=_; decide⟩,λy hy=> ?_,λw hw=>(by cases hw)⟩
   have:=zSF hy;simp only at this;simp only [qd,List.not_mem_nil,or_false] at hy;subst hy;exact ih _ hb (by simp at hn; omega)
  | tst fn l o b hl hi hs hf=>
   obtain ⟨_,hb,hit⟩:=zu9 hf;refine ⟨⟨by simp,by simp only at h3 ⊢; omega,by have:=zyH hb; simp only; omega⟩,λy hy=>(by cases hy),λw hw=>⟨by have:=zyH (hit w hw).1; omega, ?_⟩⟩
   have:=zbbM hw;simp only at this;exact ih _ (hi w hw).1 (by simp at hn; omega)
theorem ze5 {m:Nat} {a:yC} (h:zbF m a=true):zo 9 a/\zL a<=4096/\a.length<=512:=by
 cases m with
 | zero=>cases h
 | succ m=>
 have hw:=zva (zLr h);exact ⟨(z6D _ a h).mono (by omega),hw.2.2.1,hw.1⟩
theorem z9G {d m m':Nat} {a:yC} (h:zo d a) (hd:d<=100) (h1:d<=m) (h2:d<=m') (hs:zL a<=4611686018427387904):zbF m a=zbF m' a:=by
 have e1:=(zRk 1000).1 d m a h (by omega) h1 hd hs
 have e2:=(zRk 1000).1 d m' a h (by omega) h2 hd hs
 rw [e1] at e2;exact (Prod.mk.injEq _ _ _ _ ▸ e2).2
theorem zbbE {m:Nat} {a:yC} (h:zbF m a=true) (hm:9<=m):zU a=true:=by
 obtain ⟨h1,h2,h3⟩:=ze5 h;rw [<- h]; exact z9G h1 (by omega) (by omega) hm (by omega)
theorem zU3 {m:Nat} {a:yC} (h:zU a=true) (hm:9<=m):zbF m a=true:=by
 obtain ⟨h1,h2,h3⟩:=ze5 h;rw [<- h]; exact z9G h1 (by omega) hm (by omega) (by omega)
theorem VA.imp {V V':yC->Bool} (hV:∀ a,V a=true->V' a=true) {x:At} (h:VA V x):VA V' x:=by
 cases h with
 | var r h=>exact .var r h
 | mon a b ha hb ha0 hb0 h=>exact .mon a b (hV a ha) (hV b hb) ha0 hb0 h
 | del a ha ha0 h h'=>exact .del a (hV a ha) ha0 h h'
 | abs a ha ha0 h=>exact .abs a (hV a ha) ha0 h
 | tst f l o b hl hi hs hf=>exact .tst f l o b hl (λw hw=>⟨hV _ (hi w hw).1,(hi w hw).2⟩) hs hf
def zpR (x:At):Bool:=zes zU x
theorem zbfW {m:Nat} (hm:9<=m):zes (zbF m)=zpR:=by
 funext x
 rw [Bool.eq_iff_iff];unfold zpR;rw [zdN,zdN];exact ⟨VA.imp λa h=>zbbE h hm,VA.imp λa h=>zU3 h hm⟩
theorem z6P (a:yC):zU a=zAU zpR a:=by
 show zAU (zes (zbF 99)) a=_;rw [zbfW (by omega)]
theorem z4b {τ:Type} [Inhabited τ] {l:List τ} {i:Nat} (h:i<l.length):l.set i (l.getD i default)=l:=by
 rw [List.getD_eq_getElem?_getD,List.getElem?_eq_getElem h]; simp
section
variable (g:yC->Bool×yC) (gx:At->Bool×At)
theorem zblw (t8:yC) (t9 t10:Int) (out:yC) (t:Term) (l:yD) (hl:l.length<=1000000) (hg:∀ f∈l,gx f.At=(true,f.At)) (n:Nat) (hn:l.length<n):
  zEF gx n t8 t9 t10 l.length 0 out t l=(true,(t8,t9,t10,out,t,l)):=by
 have:=zeb (W:=zvT gx) (z:=default) l.length (λi=>((),(),(),t8,t9,t10,(l.length:Int),(i:Int),())) (λ_=>(out,t,l,())) (λ_=>true) default (t8,t9,t10,out,t,l)
  (λi hi H K D=>by
   show (zkP gx t8 t9 t10 l.length i out t l).ev H K D=_;unfold zkP;simp only [At.eta,Wy.ev_i,Wy.ev_k,Wy.ev_h,Wy.ev_bn,Wy.ev_d,tT,hi,hg _ (zp hi)];rw [zN (by omega)]
   have:(l.set i (⟨(l.getD i default).At,(l.getD i default).Exp⟩:Fc))=l:=z4b hi;rw [this])
  (λH K D=>by
   show (zkP gx t8 t9 t10 l.length l.length out t l).ev H K D=_;unfold zkP;simp only [Wy.ev_i,Wy.ev_k,tT,Nat.lt_irrefl]) n hn
 rw [show zfk (λ_=>true) l.length 0=true from zev.2 λ_ _ _=>rfl] at this
 exact this
theorem zblA (a:yC) (hl:a.length<=1000000) (hg:∀ t∈a,t.Fs.length<=1000000/\∀ f∈t.Fs,gx f.At=(true,f.At)) (n:Nat) (hn:a.length<n):
  zEP gx n a a.length 0 []=(true,a):=by
 have hreach:zO=70368744177664:=rfl
 have:=zeb (W:=zvZ gx) (z:=default) a.length (λi=>((),a,(a.length:Int),(i:Int),())) (λi=>(a.take i,())) (λ_=>true) default a
  (λi hi H K D=>by
   show (zkX gx a a.length i (a.take i)).ev H K D=_;unfold zkX zfN;obtain ⟨h1,h2⟩:=hg _ (zp hi);have hb:decide ((a.getD i default).Fs.length*128<=zO)=true:=by simp only [qe]; omega
   simp only [Wy.ev_i,Wy.ev_k,Wy.ev_h,Wy.ev_bn,Wy.ev_d,tT,hi,hb];rw [zblw gx a a.length i (a.take i) _ _ h1 h2 _ (by omega)]
   have hb2:decide (((a.take i).length+1)*32<=zO)=true:=by simp only [qe,List.length_take]; omega
   simp only [cond_true,List.length_singleton,hb2];rw [zN (by omega),zho hi])
  (λH K D=>by
   show (zkX gx a a.length a.length (a.take a.length)).ev H K D=_;unfold zkX;simp only [Wy.ev_i,Wy.ev_k,tT,Nat.lt_irrefl,List.take_length]) n hn
 rw [show zfk (λ_=>true) a.length 0=true from zev.2 λ_ _ _=>rfl] at this
 exact this
end
def txV (v:Value):List UInt8:=if v.Kind=0 then zjF v.Int else if v.Kind=1 then 39::(v.Text.data.toList.flatMap esc++[39]) else if v.Int=1 then [84,82,85,69] else [70,65,76,83,69]
def txR (r:RowID):List UInt8:=116::(zjF r.Table++46::zjF r.Seq)
def fnT (f:Int):List UInt8:=if f=0 then [67,79,85,78,84] else if f=1 then [83,85,77] else if f=2 then [77,73,78] else [77,65,88]
def opT (o:Int):List UInt8:=if o=5 then [61] else if o=6 then [60,62] else if o=7 then [60] else if o=8 then [60,61] else if o=9 then [62] else [62,61]
def zVs (ts:List (List UInt8)):List UInt8:=if ts=[] then [48] else zfh ts [32,43,32]
def z0s (c:Int) (fs:List (List UInt8)):List UInt8:=if fs=[] then zjF c else if c=1 then zfh fs [42] else zjF c++42::zfh fs [42]
def zQ6 (x:List UInt8) (e:Int):List UInt8:=if e=1 then x else x++94::zjF e
def zdL (k:Int) (r:RowID) (xs:List (List UInt8)) (f:Int) (is:List (List UInt8)) (o:Int) (b:Value):List UInt8:=
 if k=0 then txR r
 else if k=1 then [109,111,110,117,115,91]++(xs.getD 0 []++([44,32]++(xs.getD 1 []++[93])))
 else if k=2 then [100,101,108,116,97,91]++(xs.getD 0 []++[93])
 else if k=3 then [97,98,115,101,110,116,91]++(xs.getD 0 []++[93])
 else [116,101,115,116,91]++(fnT f++([123]++(zfh is [59,32]++([125,32]++(opT o++([32]++(txV b++[93])))))))
mutual
def txA:At->List UInt8
 | ⟨k,r,a,f,i,o,b⟩=>zdL k r (z7X a) f (z8W i) o b
def zPA:yD->List (List UInt8)
 | []=>[]
 | ⟨x,e⟩::l=>zQ6 (txA x) e::zPA l
def zVx:yC->List (List UInt8)
 | []=>[]
 | ⟨c,fs⟩::l=>z0s c (zPA fs)::zVx l
def z7X:yA->List (List UInt8)
 | []=>[]
 | a::l=>zVs (zVx a)::z7X l
def z8W:yE->List (List UInt8)
 | []=>[]
 | ⟨v,a⟩::l=>(txV v++([58,32]++zVs (zVx a)))::z8W l
end
def txF (f:Fc):List UInt8:=zQ6 (txA f.At) f.Exp
def txT (t:Term):List UInt8:=z0s t.Cf (zPA t.Fs)
def txN (a:yC):List UInt8:=zVs (zVx a)
def txI (w:Wd):List UInt8:=txV w.Value++([58,32]++txN w.Ann)
theorem zCM:∀ l,zPA l=l.map txF
 | []=>by rw [zPA]; rfl
 | x::r=>by rw [zPA,zCM r]; rfl
theorem zVU:∀ l,zVx l=l.map txT
 | []=>by rw [zVx]; rfl
 | x::r=>by rw [zVx,zVU r]; rfl
theorem zn4:∀ l,z7X l=l.map txN
 | []=>by rw [z7X]; rfl
 | x::r=>by rw [z7X,zn4 r]; rfl
theorem zOO:∀ l,z8W l=l.map txI
 | []=>by rw [z8W]; rfl
 | x::r=>by rw [z8W,zOO r]; rfl
theorem zbjW (x:At):txA x=zdL x.Kind x.Row (z7X x.Ag) x.Func (z8W x.Items) x.Op x.Bd:=by cases x; rw [txA]
def txL (l:yD):List UInt8:=zfh (zPA l) [42]
theorem zTi {v:Value} (h:zxB v=true):(txV v).length<=512:=by
 have ht:=zyH h;unfold txV;have h1:=zrl v.Int;have h2:=z8B v.Text.data.toList;have h3:v.Text.data.toList.length=v.Text.size:=by rw [Array.length_toList]; rfl
 split
 ·omega
 ·split
  ·simp only [qf,qg,List.length_nil]; omega
  ·split <;>simp
theorem zbjo (r:RowID):(txR r).length<=44:=by
 have h1:=zrl r.Table;have h2:=zrl r.Seq;simp only [txR,qf,qg]; omega
theorem zbdW (f:Int):(fnT f).length<=5:=by unfold fnT; (repeat' split) <;>simp
theorem zbdO (f:Int):(opT f).length<=2:=by unfold opT; (repeat' split) <;>simp
theorem zWx {α:Type} (t:α->List UInt8) (m:α->Nat) (s:List UInt8):∀ l:List α,(∀ x∈l,(t x).length+s.length<=m x)->(zfh (l.map t) s).length<=(l.map m).sum
 | [],_=>by simp [zfh]
 | [x],h=>by
  have:=h x (by simp)
  simp only [List.map,zfh,List.sum_cons,List.sum_nil]; omega
 | x::y::r,h=>by
  have h1:=h x (by simp)
  have h2:=zWx t m s (y::r) λz hz=>h z (List.mem_cons_of_mem _ hz)
  simp only [List.map,zfh,qg,List.sum_cons] at h2 ⊢;omega
theorem z3B:∀ l:yD,(l.map λf=>1000+1000*zfK f.At).sum=1000*(l.length+zbM l)
 | []=>by rw [zjC]; rfl
 | f::r=>by rw [List.map_cons,List.sum_cons,z3B r,zdv,qf]; omega
theorem z9x:∀ l:yC,(l.map λt=>1000+1000*(t.Fs.length+zbM t.Fs)).sum=1000*zL l
 | []=>by rw [zuZ]; rfl
 | f::r=>by rw [List.map_cons,List.sum_cons,z9x r,zeX]; omega
theorem z9o:∀ l:yE,(l.map λt=>1000+1000*zL t.Ann).sum=1000*zdC l
 | []=>by rw [zgr]; rfl
 | f::r=>by rw [List.map_cons,List.sum_cons,z9o r,zi5]; omega
theorem zbjr {x:At} {e:Int} (h:(txA x).length<=700+1000*zfK x):(zQ6 (txA x) e).length+1<=1000+1000*zfK x:=by
 have:=zrl e;unfold zQ6;split
 ·omega
 ·simp only [qg,qf]; omega
theorem zbcw {l:yD} (h:∀ f∈l,(txA f.At).length<=700+1000*zfK f.At):(txL l).length<=1000*(l.length+zbM l):=by
 unfold txL;rw [zCM, <- z3B];exact zWx txF (λf=>1000+1000*zfK f.At) [42] l λf hf=>zbjr (h f hf)
theorem z1D:∀ (m:Nat),(∀ a,zbF m a=true->(txN a).length<=1+1000*zL a)/\(∀ x,zes (zbF m) x=true->(txA x).length<=700+1000*zfK x)
 | m=>by
  have hA:∀ (V:yC->Bool),(∀ a,V a=true->(txN a).length<=1+1000*zL a)->∀ x,zes V x=true->(txA x).length<=700+1000*zfK x:=by
   intro V hV x hx;rw [zhT];cases zdN.1 hx with
   | var r h=>
    rw [txA]; have:=zbjo r;simp only [zdL,if_true]; omega
   | mon a b ha hb _ _ _=>
    have h1:=hV a ha; have h2:=hV b hb;rw [txA,zn4];simp only [zdL,zfp,zhx,zgr,List.map,List.getD_cons_zero,List.getD_cons_succ,qg,qf,List.length_nil];simp only [show ¬ (1:Int)=0 by decide,if_false,if_true,qg,qf,List.length_nil]
    omega
   | del a ha _ _ _=>
    have h1:=hV a ha;rw [txA,zn4];simp only [zdL,zfp,zhx,zgr,List.map,List.getD_cons_zero];simp only [show ¬ (2:Int)=0 by decide,show ¬ (2:Int)=1 by decide,if_false,if_true,qg,qf,List.length_nil]
    omega
   | abs a ha _ _=>
    have h1:=hV a ha;rw [txA,zn4];simp only [zdL,zfp,zhx,zgr,List.map,List.getD_cons_zero];simp only [show ¬ (3:Int)=0 by decide,show ¬ (3:Int)=1 by decide,show ¬ (3:Int)=2 by decide,if_false,if_true,qg,qf,List.length_nil]
    omega
   | tst f l o b hl hi hs hf=>
    obtain ⟨_,hb,hit⟩:=zu9 hf;have h1:=zbdW f; have h2:=zbdO o; have h3:=zTi hb
    have h4:(zfh (l.map txI) [59,32]).length<=1000*zdC l:=by
     rw [<- z9o];refine zWx txI (λw=>1000+1000*zL w.Ann) [59,32] l λw hw=> ?_
     have h5:=hV _ (hi w hw).1; have h6:=zTi (hit w hw).1;simp only [txI,qg,qf,List.length_nil]; omega
    rw [txA,zOO];simp only [zdL,zhx];simp only [show ¬ (4:Int)=0 by decide,show ¬ (4:Int)=1 by decide,show ¬ (4:Int)=2 by decide,show ¬ (4:Int)=3 by decide,if_false,qg,qf,List.length_nil]
    omega
  have hN:∀ a,zbF m a=true->(txN a).length<=1+1000*zL a:=by
   induction m with
   | zero=>intro a h; cases h
   | succ m ih=>
    intro a h;unfold txN zVs;split
    ·simp
    ·rw [zVU, <- z9x];refine Nat.le_trans (zWx txT (λt=>1000+1000*(t.Fs.length+zbM t.Fs)) [32,43,32] a λt ht=> ?_) (Nat.le_add_left _ _)
     have hok:=(zyF h ht).2;have h5:=zbcw (l:=t.Fs) λf hf=>hA _ ih _ (zq9 hok hf).2
     have h6:=zrl t.Cf;have e:(zfh (zPA t.Fs) [42]).length=(txL t.Fs).length:=rfl;unfold txT z0s;simp only [qf,List.length_nil];split
     ·omega
     ·split
      ·omega
      ·simp only [qg,qf]; omega
  exact ⟨hN,hA _ hN⟩
theorem znT {n:Int} (h:wf3 n): -9223372036854775808<=n/\n<=9223372036854775807:=by
 have h:(Lit.int .i64 n).wf=true:=h;have:IntKind.i64.min<=n/\n<=IntKind.i64.max:=by simpa [Lit.wf] using h
 exact ⟨this.1,this.2⟩
def rng (n:Int):Prop:= -9223372036854775808<=n/\n<=9223372036854775807
instance (n:Int):Decidable (rng n):=by unfold rng; infer_instance
theorem z4t {n:Int} (h:rng n):strconv_Itoa n=(true,bs (zjF n)):=by
 unfold strconv_Itoa zWk zRh;rw [decide_eq_true h.1,decide_eq_true h.2]; rfl
theorem zbdS {n:Int} (h:rng n):zj6 n 10=(true,bs (zjF n)):=by
 unfold zj6 zy0 zRh;rw [decide_eq_true h.1,decide_eq_true h.2]; rfl
theorem okS (n m:Nat) (h:n+m<=9223372036854775807):decide (n+m<=9223372036854775807)=true:=decide_eq_true h
theorem zbgN {r:RowID} (h:zDv r=true) (h1:rng r.Table) (h2:rng r.Seq):zzU r=(true,bs (txR r)):=by
 unfold zzU zRF txR;have l1:=zrl r.Table;have l2:=zrl r.Seq;rw [show ByteArray.mk #[(116:UInt8)]=bs [116] from rfl,show ByteArray.mk #[(46:UInt8)]=bs [46] from rfl]
 simp only [Wy.fin_bn,Wy.fin_i,Wy.fin_k,zHe,h,z4t h1,z4t h2,cond_true,cond_false,Bool.not_true,zGV,zw9,qg,qf,List.length_nil];rw [okS _ _ (by omega),okS _ _ (by omega),okS _ _ (by omega)]
 simp
theorem zba1 {v:Value} (h:zxB v=true) (hr:rng v.Int):zxl v=(true,bs (txV v)):=by
 unfold zxl zUo txV strings_ReplaceAll;have ht:=zyH h;rw [show ByteArray.mk #[(39:UInt8)]=bs [39] from rfl,show ByteArray.mk #[(39:UInt8),(39:UInt8)]=bs [39,39] from rfl]
 simp only [Wy.fin_bn,Wy.fin_i,Wy.fin_k,zJp,h,zbdS hr,z8I _ ht,cond_true,cond_false,Bool.not_true,zGV,zw9,qg,qf,List.length_nil];have h2:=z8B v.Text.data.toList;have h3:v.Text.data.toList.length=v.Text.size:=by rw [Array.length_toList]; rfl
 rw [okS _ _ (by omega),okS _ _ (by omega)]
 by_cases k0:v.Kind=0
 ·simp [k0]
 by_cases k1:v.Kind=1
 ·simp [k1]
 simp only [zh8,k0,k1,decide_false,cond_false,if_false];by_cases i1:v.Int=1
 ·simp only [i1,decide_true,cond_true,if_true]; rfl
 ·simp only [i1,decide_false,cond_false,if_false]; rfl
theorem zbjp {f:Int} (h0:0<=f) (h3:f<=3):(decide ((0:Int)<=f)&&decide (f<Int.ofNat zcl.snd.length))=true/\zcl.snd.getD f.toNat default=bs (fnT f):=by
 have hc:f=0\/f=1\/f=2\/f=3:=by omega
 rcases hc with rfl | rfl | rfl | rfl <;>exact ⟨rfl,rfl⟩
theorem zbiT {o:Int} (h0:5<=o) (h3:o<=10):(decide ((0:Int)<=IntKind.i64.wrap (o - 5))&&decide (IntKind.i64.wrap (o - 5)<Int.ofNat zd9.snd.length))=true/\zd9.snd.getD (IntKind.i64.wrap (o - 5)).toNat default=bs (opT o):=by
 have hc:o=5\/o=6\/o=7\/o=8\/o=9\/o=10:=by omega
 rcases hc with rfl | rfl | rfl | rfl | rfl | rfl <;>exact ⟨rfl,rfl⟩
theorem z3P {m:Nat} {x:At} (h:zes (zbF m) x=true) (hi:x.Items.length<=1024):zfK x<=4195328:=by
 rw [zhT];cases zdN.1 h with
 | var r h=>rw [zhx,zgr]; omega
 | mon a b ha hb _ _ _=>
  have h1:=(ze5 ha).2.1; have h2:=(ze5 hb).2.1;simp only [zfp,zhx,zgr]; omega
 | del a ha _ _ _=>
  have h1:=(ze5 ha).2.1;simp only [zfp,zhx,zgr]; omega
 | abs a ha _ _=>
  have h1:=(ze5 ha).2.1;simp only [zfp,zhx,zgr]; omega
 | tst f l o b hl hv hs hf=>
  have h1:∀ l:yE,(∀ w∈l,zL w.Ann<=4096)->zdC l<=l.length*4097:=λl=>by
   induction l with
   | nil=>intro _; rw [zgr]; omega
   | cons w r ih=>
    intro h;have:=h w (by simp)
    have:=ih λw hw=>h w (by simp [hw])
    rw [zi5,qf,Nat.add_mul]; omega
  have:=h1 l λw hw=>(ze5 (hv w hw).1).2.1
  have:=Nat.mul_le_mul hi (Nat.le_refl 4097);simp only [zhx] at this ⊢; omega
section
variable (gA:At->Bool×ByteArray) (gF:yD->Bool×ByteArray) (gT:yC->Bool×ByteArray)
theorem zbkg (l:yD) (hl:l.length<=1000) (hg:∀ f∈l,gA f.At=(true,bs (txA f.At))/\(txA f.At).length<=4200000000/\rng f.Exp):zhf gA l=(true,bs (txL l)):=by
 have hreach:zO=70368744177664:=rfl;unfold zhf zwT
 have:=zeb (W:=zmY gA) (z:=default) l.length (λi=>((),l,(l.length:Int),(i:Int),())) (λi=>((l.take i).map λf=>bs (txF f),())) (λ_=>true) default (l.map λf=>bs (txF f))
  (λi hi H K D=>by
   show (zfT gA l l.length i ((l.take i).map λf=>bs (txF f))).ev H K D=_
   unfold zfT;obtain ⟨h1,h2,h3⟩:=hg _ (zp hi);have l1:=zrl (l.getD i default).Exp;rw [show ByteArray.mk #[(94:UInt8)]=bs [94] from rfl]
   simp only [At.eta,Wy.ev_i,Wy.ev_k,Wy.ev_h,Wy.ev_bn,Wy.ev_d,tT,hi,h1,z4t h3,zGV,zw9,qg,qf,List.length_nil];rw [okS _ _ (by omega),okS _ _ (by omega),zN (by omega),zho hi,List.map_append]
   have hb:decide ((((l.take i).map λf=>bs (txF f)).length+1)*16<=zO)=true:=by simp only [qe,List.length_map,List.length_take]; omega
   generalize ((l.take i).map λf=>bs (txF f))=out at hb ⊢
   have hb':decide ((out.length+(0+1))*16<=zO)=true:=hb;simp only [hb,hb',cond_true,List.map_cons,List.map_nil,txF,zQ6,zA4];by_cases he:(l.getD i default).Exp=1
   ·simp only [he,decide_true,Bool.not_true,cond_false,if_true]
   ·simp only [he,decide_false,Bool.not_false,cond_true,if_false,List.singleton_append])
  (λH K D=>by
   show (zfT gA l l.length l.length ((l.take l.length).map λf=>bs (txF f))).ev H K D=_
   unfold zfT;simp only [Wy.ev_i,Wy.ev_k,tT,Nat.lt_irrefl,List.take_length]) (l.length+(Int.ofNat l.length).toNat +Int.toNat (0:Int)+(0:Nat)+(1:Nat)) (by omega)
 rw [show zfk (λ_=>true) l.length 0=true from zev.2 λ_ _ _=>rfl] at this
 have e:zwf gA (l.length+(Int.ofNat l.length).toNat +Int.toNat (0:Int)+(0:Nat)+(1:Nat)) l (Int.ofNat l.length) (0:Int) []=(true,(l.map txF).map bs):=by rw [List.map_map]; exact this
 have hlen:(zfh (l.map txF) [42]).length<=140737488355328:=by
  refine Nat.le_trans (z0D (B:=4200001000) (l.map txF) [42] λx hx=> ?_) (by
   rw [List.length_map]; have:=Nat.mul_le_mul hl (Nat.le_refl 4200001000); omega)
  obtain ⟨f,hf,rfl⟩:=List.mem_map.1 hx;have:=(hg f hf).2.1;have:=zrl f.Exp;unfold txF zQ6;split
  ·simp only [qf,List.length_nil]; omega
  ·simp only [qg,qf,List.length_nil]; omega
 rw [Wy.fin_bn,e,show ByteArray.mk #[(42:UInt8)]=bs [42] from rfl]
 unfold strings_Join;simp only [cond_true,Wy.fin_bn,Wy.fin_k,z47 _ _ (by rw [List.length_map]; omega) hlen]
 unfold txL;rw [zCM]
theorem zbkc (a:yC) (hl:a.length<=1000) (hlen:(txN a).length<=140737488355328) (hg:∀ t∈a,gF t.Fs=(true,bs (txL t.Fs))/\(txL t.Fs).length<=4200000000/\rng t.Cf):zqh gF a=(true,bs (txN a)):=by
 have hreach:zO=70368744177664:=rfl;unfold zqh zID;by_cases h0:a=[]
 ·subst h0;have e:txN []=[48]:=by unfold txN; rw [zVx]; rfl
  rw [e]; rfl
 have hne:(Int.ofNat a.length==(0:Int))=false:=by
  rw [beq_eq_false_iff_ne]; intro e;have:(a.length:Int)=0:=e;exact h0 (List.length_eq_zero_iff.1 (by omega))
 have:=zeb (W:=zzz gF) (z:=default) a.length (λi=>((),a,(a.length:Int),(i:Int),())) (λi=>((a.take i).map λf=>bs (txT f),())) (λ_=>true) default (a.map λf=>bs (txT f))
  (λi hi H K D=>by
   show (zml gF a a.length i ((a.take i).map λf=>bs (txT f))).ev H K D=_
   unfold zml;obtain ⟨h1,h2,h3⟩:=hg _ (zp hi);have l1:=zrl (a.getD i default).Cf;rw [show ByteArray.mk #[(42:UInt8)]=bs [42] from rfl]
   have hL:decide ((i:Int)<(a.length:Int))=true:=by simp [hi]
   have hL':decide ((i:Int)<Int.ofNat a.length)=true:=hL;simp only [Wy.ev_i,Wy.ev_k,Wy.ev_h,Wy.ev_bn,Wy.ev_d,hL,hL',zfL,Bool.and_self,cond_true,Int.toNat_natCast,h1,zbdS h3,zGV,zw9,qg,qf,List.length_nil,show (Int.ofNat (a.getD i default).Fs.length==(0:Int))=((a.getD i default).Fs.length==0) from zzk _ 0]
   rw [okS _ _ (by omega),okS _ _ (by omega),zN (by omega),zho hi,List.map_append]
   have hb:decide ((((a.take i).map λf=>bs (txT f)).length+1)*16<=zO)=true:=by simp only [qe,List.length_map,List.length_take]; omega
   generalize ((a.take i).map λf=>bs (txT f))=out at hb ⊢
   have hb':decide ((out.length+(0+1))*16<=zO)=true:=hb;simp only [hb,hb',cond_true,List.map_cons,List.map_nil,txT,z0s,zh8]
   have e0:(zPA (a.getD i default).Fs=[])↔(a.getD i default).Fs.length=0:=by
    rw [zCM,List.map_eq_nil_iff,List.length_eq_zero_iff]
   by_cases hf:(a.getD i default).Fs.length=0
   ·rw [if_pos (e0.2 hf),hf]; rfl
   ·rw [if_neg (λe=>hf (e0.1 e)),z4p,decide_eq_false hf]
    by_cases he:(a.getD i default).Cf=1
    ·simp only [he,decide_true,cond_true,cond_false,if_true,txL]
    ·simp only [he,decide_false,cond_false,if_false,txL,List.append_assoc,List.singleton_append])
  (λH K D=>by
   show (zml gF a a.length a.length ((a.take a.length).map λf=>bs (txT f))).ev H K D=_
   unfold zml;simp only [Wy.ev_i,Wy.ev_k,tT,Nat.lt_irrefl,List.take_length]) (a.length+(Int.ofNat a.length).toNat +Int.toNat (0:Int)+(0:Nat)+(1:Nat)) (by omega)
 rw [show zfk (λ_=>true) a.length 0=true from zev.2 λ_ _ _=>rfl] at this
 have e:zHG gF (a.length+(Int.ofNat a.length).toNat +Int.toNat (0:Int)+(0:Nat)+(1:Nat)) a (Int.ofNat a.length) (0:Int) []=(true,(a.map txT).map bs):=by rw [List.map_map]; exact this
 have ex:txN a=zfh (a.map txT) [32,43,32]:=by
  unfold txN zVs;rw [zVU,if_neg (by simpa using h0)]
 rw [ex] at hlen ⊢;rw [Wy.fin_i,hne,cond_false,Wy.fin_bn,e,show ByteArray.mk #[(32:UInt8),(43:UInt8),(32:UInt8)]=bs [32,43,32] from rfl]
 unfold strings_Join;simp only [cond_true,Wy.fin_bn,Wy.fin_k,z47 _ _ (by rw [List.length_map]; omega) hlen]
theorem zbj4 {V:yC->Bool} (x:At) (hx:zes V x=true) (hw:zgG x) (hi:x.Items.length<=1024) (hg:∀ a,(a∈x.Ag\/∃ w∈x.Items,a=w.Ann)->gT a=(true,bs (txN a))/\(txN a).length<=4200000000):zj3 gT x=(true,bs (txA x)):=by
 have hreach:zO=70368744177664:=rfl;have W:=zoo hw;unfold zj3 zBr;rw [zbjW];cases zdN.1 hx with
 | var r h=>
  have hr:=W.2.2.2.2.1;simp only [Wy.fin_bn,Wy.fin_i,Wy.fin_k,zbgN h (znT hr.1) (znT hr.2)];simp [zdL]
 | mon a b ha hb _ _ _=>
  obtain ⟨g1,l1⟩:=hg a (.inl (by simp))
  obtain ⟨g2,l2⟩:=hg b (.inl (by simp))
  rw [zn4];simp only [List.map,zdL,List.getD_cons_zero,List.getD_cons_succ,show ¬ (1:Int)=0 by decide,if_false,if_true]
  rw [show ByteArray.mk #[(109:UInt8),(111:UInt8),(110:UInt8),(117:UInt8),(115:UInt8),(91:UInt8)]=bs [109,111,110,117,115,91] from rfl,show ByteArray.mk #[(44:UInt8),(32:UInt8)]=bs [44,32] from rfl,show ByteArray.mk #[(93:UInt8)]=bs [93] from rfl]
  simp only [cond_true,cond_false,Wy.fin_i,Wy.fin_bn,Wy.fin_k,show ((1:Int)==0)=false from rfl,show ((1:Int)==1)=true from rfl,show (decide ((0:Int)<=0)&&decide ((0:Int)<Int.ofNat [a,b].length))=true from rfl,show (decide ((0:Int)<=1)&&decide ((1:Int)<Int.ofNat [a,b].length))=true from rfl,show [a,b].getD (Int.toNat 0) default=a from rfl,show [a,b].getD (Int.toNat 1) default=b from rfl,g1,g2,zGV,zw9,List.length_append,List.length_cons,List.length_nil]
  rw [okS _ _ (by omega),okS _ _ (by omega),okS _ _ (by omega),okS _ _ (by omega)]
  simp
 | del a ha _ _ _=>
  obtain ⟨g1,l1⟩:=hg a (.inl (by simp))
  rw [zn4];simp only [List.map,zdL,List.getD_cons_zero,show ¬ (2:Int)=0 by decide,show ¬ (2:Int)=1 by decide,if_false,if_true]
  rw [show ByteArray.mk #[(100:UInt8),(101:UInt8),(108:UInt8),(116:UInt8),(97:UInt8),(91:UInt8)]=bs [100,101,108,116,97,91] from rfl,show ByteArray.mk #[(93:UInt8)]=bs [93] from rfl]
  simp only [cond_true,cond_false,Wy.fin_i,Wy.fin_bn,Wy.fin_k,show ((2:Int)==0)=false from rfl,show ((2:Int)==1)=false from rfl,show ((2:Int)==2)=true from rfl,show (decide ((0:Int)<=0)&&decide ((0:Int)<Int.ofNat [a].length))=true from rfl,show [a].getD (Int.toNat 0) default=a from rfl,g1,zGV,zw9,List.length_append,List.length_cons,List.length_nil]
  rw [okS _ _ (by omega),okS _ _ (by omega)]
  simp
 | abs a ha _ _=>
  obtain ⟨g1,l1⟩:=hg a (.inl (by simp))
  rw [zn4];simp only [List.map,zdL,List.getD_cons_zero,show ¬ (3:Int)=0 by decide,show ¬ (3:Int)=1 by decide,show ¬ (3:Int)=2 by decide,if_false,if_true]
  rw [show ByteArray.mk #[(97:UInt8),(98:UInt8),(115:UInt8),(101:UInt8),(110:UInt8),(116:UInt8),(91:UInt8)]=bs [97,98,115,101,110,116,91] from rfl,show ByteArray.mk #[(93:UInt8)]=bs [93] from rfl]
  simp only [cond_true,cond_false,Wy.fin_i,Wy.fin_bn,Wy.fin_k,show ((3:Int)==0)=false from rfl,show ((3:Int)==1)=false from rfl,show ((3:Int)==2)=false from rfl,show ((3:Int)==3)=true from rfl,show (decide ((0:Int)<=0)&&decide ((0:Int)<Int.ofNat [a].length))=true from rfl,show [a].getD (Int.toNat 0) default=a from rfl,g1,zGV,zw9,List.length_append,List.length_cons,List.length_nil]
  rw [okS _ _ (by omega),okS _ _ (by omega)]
  simp
 | tst f l o b hl hv hs hf=>
  obtain ⟨⟨f0,f3,o5,o10⟩,hb,hit⟩:=zu9 hf;have hwl:=zgs W.2.1.1;have hwb:rng b.Int:=znT W.2.2.1.2.1
  have:=zeb (W:=zoG gT) (z:=default) l.length (λi=>((),(),l,(l.length:Int),(i:Int),())) (λi=>((⟨4,⟨0,0⟩,[],f,l,o,b⟩:At),(l.take i).map λw=>bs (txI w),())) (λ_=>true) default ((⟨4,⟨0,0⟩,[],f,l,o,b⟩:At),l.map λw=>bs (txI w))
   (λi hi' H K D=>by
    show (zgI gT l l.length i (⟨4,⟨0,0⟩,[],f,l,o,b⟩:At) ((l.take i).map λw=>bs (txI w))).ev H K D=_
    unfold zgI;have hm:=zp hi';obtain ⟨g1,l1⟩:=hg _ (.inr ⟨_,hm,rfl⟩);have l2:=zTi (hit _ hm).1;rw [show ByteArray.mk #[(58:UInt8),(32:UInt8)]=bs [58,32] from rfl]
    simp only [Wy.ev_i,Wy.ev_k,Wy.ev_h,Wy.ev_bn,Wy.ev_d,tT,hi',zba1 (hit _ hm).1 (znT (hwl _ hm).1.2.1),g1,zGV,zw9,qg,qf,List.length_nil];rw [okS _ _ (by omega),okS _ _ (by omega),zN (by simp only at hi; omega),zho hi',List.map_append]
    have hb:decide ((((l.take i).map λw=>bs (txI w)).length+1)*16<=zO)=true:=by simp only at hi; simp only [qe,List.length_map,List.length_take]; omega
    generalize ((l.take i).map λw=>bs (txI w))=out at hb ⊢
    have hb':decide ((out.length+(0+1))*16<=zO)=true:=hb;simp only [hb,hb',cond_true,List.map_cons,List.map_nil,txI,List.append_assoc])
   (λH K D=>by
    show (zgI gT l l.length l.length (⟨4,⟨0,0⟩,[],f,l,o,b⟩:At) ((l.take l.length).map λw=>bs (txI w))).ev H K D=_
    unfold zgI;simp only [Wy.ev_i,Wy.ev_k,tT,Nat.lt_irrefl,List.take_length]) (l.length+(Int.ofNat l.length).toNat +Int.toNat (0:Int)+([]:yA).length+l.length+(0:Nat)+(1:Nat)) (by omega)
  rw [show zfk (λ_=>true) l.length 0=true from zev.2 λ_ _ _=>rfl] at this
  have e:zyz gT (l.length+(Int.ofNat l.length).toNat +Int.toNat (0:Int)+([]:yA).length+l.length+(0:Nat)+(1:Nat)) l (Int.ofNat l.length) (0:Int) (⟨4,⟨0,0⟩,[],f,l,o,b⟩:At) []=(true,((⟨4,⟨0,0⟩,[],f,l,o,b⟩:At),(l.map txI).map bs)):=by rw [List.map_map]; exact this
  simp only at hi
  have hlen:(zfh (l.map txI) [59,32]).length<=5000000000000:=by
   refine Nat.le_trans (z0D (B:=4200001000) (l.map txI) [59,32] λy hy=> ?_) (by
    rw [List.length_map]; have:=Nat.mul_le_mul hi (Nat.le_refl 4200001000); omega)
   obtain ⟨w,hw,rfl⟩:=List.mem_map.1 hy;have h1:=(hg _ (.inr ⟨w,hw,rfl⟩)).2;have h2:=zTi (hit w hw).1;simp only [txI,qg,qf,List.length_nil]; omega
  have l3:=zbdW f;have l4:=zbdO o;have l5:=zTi hb;rw [zOO];simp only [zdL,show ¬ (4:Int)=0 by decide,show ¬ (4:Int)=1 by decide,show ¬ (4:Int)=2 by decide,show ¬ (4:Int)=3 by decide,if_false]
  rw [show ByteArray.mk #[(116:UInt8),(101:UInt8),(115:UInt8),(116:UInt8),(91:UInt8)]=bs [116,101,115,116,91] from rfl,show ByteArray.mk #[(123:UInt8)]=bs [123] from rfl,show ByteArray.mk #[(125:UInt8),(32:UInt8)]=bs [125,32] from rfl,show ByteArray.mk #[(59:UInt8),(32:UInt8)]=bs [59,32] from rfl,show ByteArray.mk #[(32:UInt8)]=bs [32] from rfl,show ByteArray.mk #[(93:UInt8)]=bs [93] from rfl]
  simp only [Wy.fin_i,show ((4:Int)==0)=false from rfl,show ((4:Int)==1)=false from rfl,show ((4:Int)==2)=false from rfl,show ((4:Int)==3)=false from rfl,cond_false]
  unfold strings_Join;obtain ⟨fb,ft⟩:=zbjp f0 f3;obtain ⟨ob,ot⟩:=zbiT o5 o10;rw [e,z1q];simp only [Wy.fin_i,Wy.fin_k,Wy.fin_bn,fb,ft,ob,ot,z47 _ _ (show (l.map txI).length<=140737488355328 by rw [List.length_map]; omega) (show (zfh (l.map txI) [59,32]).length<=140737488355328 by omega),zba1 hb hwb,cond_true,zGV,zw9,List.length_append,List.length_cons,List.length_nil]
  rw [okS _ _ (by omega),okS _ _ (by omega),okS _ _ (by omega),okS _ _ (by omega),okS _ _ (by omega),okS _ _ (by omega),okS _ _ (by omega),okS _ _ (by omega)]
  simp
end
end Go.Proofs.YtljlfiomikifjaaGreatDoor
end
