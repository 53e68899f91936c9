/- Texts of this claim, joined (the program, its functions in plain words, and what they compute). -/
import Derived.Test.YtljlfiomikifjaaGreatDoorGC7
set_option autoImplicit false
set_option linter.unusedVariables false
set_option linter.unusedSectionVars false
set_option linter.unusedSimpArgs false
set_option maxRecDepth 1000000
set_option maxHeartbeats 0
/- Small tests of annotations: searches, limits, kinds. -/
noncomputable section
namespace Go.Proofs.YtljlfiomikifjaaGreatDoor
open Go Go.Ab
def zjI (c:Nat->Bool):Nat->Nat->Bool
 | 0,_=>true
 | n+1,i=>c i&&zjI c n (i+1)
theorem zl7 {c:Nat->Bool}:∀ {n i},zjI c n i=true↔∀ k,i<=k->k<i+n->c k=true
 | 0,i=>⟨λ_ k h1 h2=>by omega,λ_=>rfl⟩
 | n+1,i=>by
  simp only [zjI,qc,zl7 (n:=n)];constructor
  ·rintro ⟨h1,h2⟩ k h3 h4
   by_cases e:k=i
   ·rw [e]; exact h1
   ·exact h2 k (by omega) (by omega)
  ·intro h;exact ⟨h i (by omega) (by omega),λk h1 h2=>h k (by omega) (by omega)⟩
theorem zbaj (c c':Nat->Bool):∀ n i,zjI (λk=>c k&&c' k) n i=(zjI c n i&&zjI c' n i)
 | 0,_=>rfl
 | n+1,i=>by
  simp only [zjI,zbaj c c' n (i+1)];cases c i <;>cases c' i <;>simp
theorem z9C {τ:Type} [Inhabited τ] (p:τ->Bool) (l:List τ):∀ n i,i+n=l.length->zjI (λk=>p (l.getD k default)) n i=(l.drop i).all p
 | 0,i,h=>by rw [zci (by omega)]; rfl
 | n+1,i,h=>by
  rw [zZ (by omega),List.all_cons]
  simp only [zjI,z9C p l n (i+1) (by omega)]
theorem zvT {τ:Type} [Inhabited τ] (p:τ->Bool) (l:List τ):zjI (λk=>p (l.getD k default)) l.length 0=l.all p:=by
 rw [z9C p l _ _ (by omega),List.drop_zero]
section
variable {α β ρ:Type}
theorem z83 {W:α->β->Wy α β ρ} {z:ρ} (N:Nat) (ex:Nat->α) (ey:Nat->β) (c:Nat->Bool) (no yes:ρ)
  (h:∀ i,i<N->∀ (H:α->β->Bool×ρ) K D,(W (ex i) (ey i)).ev H K D=bif c i then H (ex (i+1)) (ey (i+1)) else K no)
  (he:∀ (H:α->β->Bool×ρ) K D,(W (ex N) (ey N)).ev H K D=K yes):
  ∀ n i,N<i+n->i<=N->zH W z n (ex i) (ey i)=(true,bif zjI c (N - i) i then yes else no)
 | 0,i,h1,h2=>by omega
 | n+1,i,h1,h2=>by
  show (W (ex i) (ey i)).ev (zH W z n) (λr=>(true,r)) (false,z)=_
  by_cases hi:i<N
  ·rw [h i hi,show N - i=(N - (i+1))+1 by omega]
   simp only [zjI];cases c i with
   | false=>rfl
   | true=>rw [cond_true,z83 N ex ey c no yes h he n (i+1) (by omega) (by omega)]; rfl
  ·have:i=N:=by omega
   subst this;rw [he,Nat.sub_self]; rfl
theorem zj2 {W:α->β->Wy α β ρ} {z:ρ} (N:Nat) (ex:Nat->α) (ey:Nat->β) (c:Nat->Bool) (no yes:ρ)
  (h:∀ i,i<N->∀ (H:α->β->Bool×ρ) K D,(W (ex i) (ey i)).ev H K D=bif c i then H (ex (i+1)) (ey (i+1)) else K no)
  (he:∀ (H:α->β->Bool×ρ) K D,(W (ex N) (ey N)).ev H K D=K yes) (n:Nat) (hn:N<n):zH W z n (ex 0) (ey 0)=(true,bif zjI c N 0 then yes else no):=by
 have:=z83 (z:=z) N ex ey c no yes h he n 0 (by omega) (by omega)
 simpa using this
end
def ixf {α:Type} (p:α->Bool):List α->Nat->Int
 | [],_=> -1
 | x::r,i=>bif p x then (i:Int) else ixf p r (i+1)
theorem zbbd {α:Type} (p:α->Bool):∀ (l:List α) (i:Nat),decide (ixf p l i≥(0:Int))=l.any p
 | [],i=>by simp [ixf]
 | x::r,i=>by
  rw [List.any_cons];cases h:p x with
  | true=>simp [ixf,h]
  | false=>simpa [ixf,h] using zbbd p r (i+1)
section
variable {α γ:Type} [Inhabited α]
def z5k (p:γ->α->Bool×Bool) (s:List α) (g:γ) (t7:Int) (t8:Int):Wy (List α×γ×Int×Int×Unit) Unit (Int⊕Unit):=.i (decide (t8<t7)) (.i (decide ((0:Int)<=t8)&&decide (t8<Int.ofNat s.length)) (.bn (p g (s.getD t8.toNat default)) λr0=>.i (r0) (.k (.inl t8)) (.h (s,g,t7,(IntKind.i64.wrap (t8+(1:Int))),()) ())) .d) (.k (.inr ()))
def z38 (p:γ->α->Bool×Bool) (x:List α×γ×Int×Int×Unit) (y:Unit):Wy (List α×γ×Int×Int×Unit) Unit (Int⊕Unit):=z5k p x.1 x.2.1 x.2.2.1 x.2.2.2.1
def zbcj (p:γ->α->Bool×Bool) (n:Nat) (s:List α) (g:γ) (t7:Int) (t8:Int):Bool×(Int⊕Unit):=zH (z38 p) (.inl default) n (s,g,t7,t8,()) ()
def IG (p:γ->α->Bool×Bool) (n:Nat) (g:γ) (s:List α):Bool×Int:=(.bn (zbcj p n s g (Int.ofNat s.length) (0:Int)) λr2=>.i (isL r2) (.k (getL r2)) (.k (-1:Int)):Wy0 Int).fin default
def zbcy (p:γ->α->Bool×Bool) (s:List α) (g:γ) (t7:Int) (t8:Int):Wy (List α×γ×Int×Int×Unit) Unit (Int⊕Unit):=.i (decide (t8<t7)) (.i (decide ((0:Int)<=t8)&&decide (t8<Int.ofNat s.length)) (.i ((p g (s.getD t8.toNat default)).snd) (.k (.inl t8)) (.h (s,g,t7,(IntKind.i64.wrap (t8+(1:Int))),()) ())) .d) (.k (.inr ()))
def zbh0 (p:γ->α->Bool×Bool) (x:List α×γ×Int×Int×Unit) (y:Unit):Wy (List α×γ×Int×Int×Unit) Unit (Int⊕Unit):=zbcy p x.1 x.2.1 x.2.2.1 x.2.2.2.1
def zbcL (p:γ->α->Bool×Bool) (n:Nat) (s:List α) (g:γ) (t7:Int) (t8:Int):Bool×(Int⊕Unit):=zH (zbh0 p) (.inl default) n (s,g,t7,t8,()) ()
def IH (p:γ->α->Bool×Bool) (n:Nat) (g:γ) (s:List α):Bool×Int:=(.bn (zbcL p n s g (Int.ofNat s.length) (0:Int)) λr2=>.i (isL r2) (.k (getL r2)) (.k (-1:Int)):Wy0 Int).fin default
theorem zbbH (p:γ->α->Bool×Bool) (P:α->Bool) (g:γ) (s:List α) (hs:s.length<=1000000000) (hp:∀ x∈s,p g x=(true,P x)):∀ (n i:Nat),s.length<i+n->i<=s.length->
  ∃ r,zbcj p n s g s.length i=(true,r)/\((r=.inl (ixf P (s.drop i) i))\/(r=.inr ()/\ixf P (s.drop i) i= -1))
 | 0,i,h,h2=>by omega
 | n+1,i,h,h2=>by
  show ∃ r,(z5k p s g s.length i).ev (λx y=>zbcj p n x.1 x.2.1 x.2.2.1 x.2.2.2.1) (λr=>(true,r)) (false,.inl default)=(true,r)/\_
  unfold z5k;by_cases hi:i<s.length
  ·simp only [Wy.ev_i,Wy.ev_k,Wy.ev_h,Wy.ev_bn,Wy.ev_d,tT,hi,hp _ (zR hi)];rw [zZ hi,zV (by omega)]
   simp only [ixf];cases P (s.getD i default) with
   | true=>exact ⟨_,rfl,.inl rfl⟩
   | false=>exact zbbH p P g s hs hp n (i+1) (by omega) (by omega)
  ·simp only [Wy.ev_i,Wy.ev_k,Wy.ev_h,Wy.ev_bn,Wy.ev_d,tT,hi,zci hi];exact ⟨_,rfl,.inr ⟨rfl,rfl⟩⟩
theorem zS5 (p:γ->α->Bool×Bool) (P:α->Bool) (n:Nat) (g:γ) (s:List α) (hs:s.length<=1000000000) (hp:∀ x∈s,p g x=(true,P x)) (hn:s.length<n):IG p n g s=(true,ixf P s 0):=by
 unfold IG;obtain ⟨r,h1,h2⟩:=zbbH p P g s hs hp n 0 (by omega) (by omega)
 rw [show ((0:Nat):Int)=(0:Int) from rfl] at h1
 rw [Wy.fin_bn,show Int.ofNat s.length=(s.length:Int) from rfl,h1]
 rw [List.drop_zero] at h2;rcases h2 with rfl | ⟨rfl,h2⟩
 ·rfl
 ·rw [h2]; rfl
theorem zbbL (p:γ->α->Bool×Bool) (P:α->Bool) (g:γ) (s:List α) (hs:s.length<=1000000000) (hp:∀ x∈s,p g x=(true,P x)):∀ (n i:Nat),s.length<i+n->i<=s.length->
  ∃ r,zbcL p n s g s.length i=(true,r)/\((r=.inl (ixf P (s.drop i) i))\/(r=.inr ()/\ixf P (s.drop i) i= -1))
 | 0,i,h,h2=>by omega
 | n+1,i,h,h2=>by
  show ∃ r,(zbcy p s g s.length i).ev (λx y=>zbcL p n x.1 x.2.1 x.2.2.1 x.2.2.2.1) (λr=>(true,r)) (false,.inl default)=(true,r)/\_
  unfold zbcy;by_cases hi:i<s.length
  ·simp only [Wy.ev_i,Wy.ev_k,Wy.ev_h,Wy.ev_bn,Wy.ev_d,tT,hi,hp _ (zR hi)];rw [zZ hi,zV (by omega)]
   simp only [ixf];cases P (s.getD i default) with
   | true=>exact ⟨_,rfl,.inl rfl⟩
   | false=>exact zbbL p P g s hs hp n (i+1) (by omega) (by omega)
  ·simp only [Wy.ev_i,Wy.ev_k,Wy.ev_h,Wy.ev_bn,Wy.ev_d,tT,hi,zci hi];exact ⟨_,rfl,.inr ⟨rfl,rfl⟩⟩
theorem zbhH (p:γ->α->Bool×Bool) (P:α->Bool) (n:Nat) (g:γ) (s:List α) (hs:s.length<=1000000000) (hp:∀ x∈s,p g x=(true,P x)) (hn:s.length<n):IH p n g s=(true,ixf P s 0):=by
 unfold IH;obtain ⟨r,h1,h2⟩:=zbbL p P g s hs hp n 0 (by omega) (by omega)
 rw [show ((0:Nat):Int)=(0:Int) from rfl] at h1
 rw [Wy.fin_bn,show Int.ofNat s.length=(s.length:Int) from rfl,h1]
 rw [List.drop_zero] at h2;rcases h2 with rfl | ⟨rfl,h2⟩
 ·rfl
 ·rw [h2]; rfl
theorem zpa {α:Type} {s:List α} {P:α->Bool} {q:Bool×Int} (h:q=(true,ixf P s 0)):((.bn q λr0=>.k (decide (r0≥(0:Int))):Wy0 Bool).fin default)=(true,s.any P):=by
 rw [h,Wy.fin_bn,cond_true,Wy.fin_k,zbbd]
end
theorem zuP (a b:Int):(a==b)=decide (a=b):=by by_cases h:a=b <;>simp [h]
theorem zbaq (a b:Nat):(a==b)=decide (a=b):=by by_cases h:a=b <;>simp [h]
theorem i0 (l:Nat):((l:Int)==0)=(l==0):=by
 rw [zuP,zbaq]; congr 1; simp
def zB6 (a:yC):Bool:=a.any λt=>t.Fs.length==0
theorem z6C (a:yC) (h:a.length<=1000000000):ze3 a=(true,zB6 a):=by
 unfold ze3 zzx zdk zhE;have:zdO a=IH (λ(_:Unit) x=>zg8 x) (a.length+(Int.ofNat a.length).toNat +Int.toNat (0:Int)+(1:Nat)) () a:=rfl
 rw [zpa (P:=λt:Term=>t.Fs.length==0) (this.trans (zbhH _ _ _ _ _ h (λx _=>by
  unfold zg8 zvM;rw [Wy.fin_k];congr 1;exact i0 x.Fs.length) (by omega)))]
 rfl
theorem zZ9 (a:yC) (h:a.length<=1000000000):zjS a=(true,zB6 a):=by
 unfold zjS zK3 zI8
 have:=zj2 (W:=zA2) (z:=.inl default) a.length (λi=>(a,(i:Int),())) (λ_=>()) (λi=> !((a.getD i default).Fs.length==0)) (.inl true) (.inr ())
  (λi hi H K D=>by
   show (zog a i).ev H K D=_;unfold zog;simp only [Wy.ev_i,Wy.ev_k,Wy.ev_h,Wy.ev_bn,Wy.ev_d,tT,hi,i0];rw [zV (by omega)]
   cases (a.getD i default).Fs.length==0 <;>rfl)
  (λH K D=>by
   show (zog a a.length).ev H K D=_;unfold zog;simp only [Wy.ev_i,Wy.ev_k,tT,Nat.lt_irrefl]) (a.length+Int.toNat (0:Int)+(1:Nat)) (by omega)
 rw [show ((0:Nat):Int)=(0:Int) from rfl] at this
 rw [Wy.fin_bn,this,zvT (λt:Term=> !(t.Fs.length==0)) a]
 have e:(a.all λt:Term=> !(t.Fs.length==0))= !zB6 a:=by simp [zB6,List.all_eq_not_any_not]
 rw [e];cases zB6 a <;>rfl
def isC:yC->Bool
 | [t]=>t.Fs.length==0
 | _=>false
theorem z8t (a:yC):zhh a=(true,isC a):=by
 unfold zhh zAg
 match a with
 | []=>rfl
 | [t]=>exact congrArg (Prod.mk true) (i0 t.Fs.length)
 | t::u::r=>
  have:((Int.ofNat (t::u::r).length)==(1:Int))=false:=by simp; omega
  rw [Wy.fin_i,this]; rfl
def zbhm (p:Fc->Bool):yD->Bool
 | [f]=>p f
 | _=>false
def isU:yC->Bool
 | [t]=>t.Cf==1&&zbhm (λf=>f.Exp==1&&(f.At.Kind==2||f.At.Kind==3||f.At.Kind==4)) t.Fs
 | _=>false
theorem zbbf (x:At):zfK x=(true,x.Kind==3||x.Kind==4):=by
 unfold zfK zAr;rw [Wy.fin_i,Wy.fin_k,Wy.fin_k];cases x.Kind==3 <;>rfl
theorem zTE {τ:Type} (x y:τ) (r:List τ):((Int.ofNat (x::y::r).length)==(1:Int))=false:=by
 rw [beq_eq_false_iff_ne]; simp; omega
theorem zbda (a:yC):zld a=(true,isU a):=by
 unfold zld zEP
 match a with
 | []=>rfl
 | ⟨c,[]⟩::[]=>
  show (bif c != 1 then (true,false) else (true,false))=(true,c==1&&false)
  cases c != 1 <;>simp
 | ⟨c,[f]⟩::[]=>
  simp only [Wy.fin_i,Wy.fin_k,tT,isU,List.length_singleton,zbbf,Wy.fin_bn,Wy.fin_d];show (bif c != 1 then (true,false) else bif f.Exp==1 then bif f.At.Kind==2 then (true,true) else (true,f.At.Kind==3||f.At.Kind==4) else (true,false))=(true,c==1&&(f.Exp==1&&(f.At.Kind==2||f.At.Kind==3||f.At.Kind==4)))
  rw [show (c != 1)= !(c==1) from rfl]
  cases c==1 <;>cases f.Exp==1 <;>cases f.At.Kind==2 <;>simp
 | ⟨c,f::g::r⟩::[]=>
  simp only [Wy.fin_i,bne,zTE];show (bif !(c==1) then (true,false) else (true,false))=(true,c==1&&false)
  cases c==1 <;>rfl
 | t::u::r=>rw [Wy.fin_i,bne,zTE]; rfl
def isB:yC->Bool
 | [t]=>t.Cf==1&&zbhm (λf=>f.Exp==1&&decide (2<=f.At.Kind)) t.Fs
 | _=>false
theorem z48 (a:yC):zqi a=(true,isB a):=by
 unfold zqi zPN
 match a with
 | []=>rfl
 | ⟨c,[]⟩::[]=>
  show (bif c==1 then (true,false) else (true,false))=(true,c==1&&false)
  cases c==1 <;>rfl
 | ⟨c,[f]⟩::[]=>
  simp only [Wy.fin_i,Wy.fin_k,tT,List.length_singleton,Wy.fin_bn,Wy.fin_d];show (bif c==1 then bif decide (2<=f.At.Kind) then (true,f.Exp==1) else (true,false) else (true,false))=(true,c==1&&(f.Exp==1&&decide (2<=f.At.Kind)))
  cases c==1 <;>cases f.Exp==1 <;>cases decide (2<=f.At.Kind) <;>simp
 | ⟨c,f::g::r⟩::[]=>
  rw [Wy.fin_i];show (bif true then (Wy.i true (Wy.i (c==1) (Wy.i true (Wy.i (Int.ofNat (f::g::r).length==1) _ (.k false)) .d) (.k false)) .d:Wy0 Bool).fin default else _)=(true,c==1&&false)
  simp only [Wy.fin_i,Wy.fin_k,zTE,cond_true,cond_false];cases c==1 <;>rfl
 | t::u::r=>rw [Wy.fin_i,zTE]; rfl
theorem zQO (a b:Nat):decide (a>b)= !decide (a<=b):=by
 by_cases h:a<=b
 ·have:¬ a>b:=by omega
  simp [h,this]
 ·have:a>b:=by omega
  simp [h,this]
def zBJ (t:Term):Bool:= !(decide (t.Fs.length>64)||t.Fs.any λf=>decide (f.Exp>64)||decide (f.At.Items.length>1024))
def zmq (a:yC):Bool:=decide (a.length<=512)&&decide (zbB a<=8)&&decide (zX a<=4096)&&a.all zBJ
theorem zbcA (l:yD) (h:l.length<=1000000):zcu l=(true,l.any λf=>decide (f.Exp>64)||decide (f.At.Items.length>1024)):=by
 unfold zcu zic
 have hw:zdu=z38 (λ(_:Unit) x=>zf5 x):=by
  funext x y
  unfold zdu zi5 z38 z5k;rw [Fc.eta2]
 have:zcR l=IG (λ(_:Unit) x=>zf5 x) (l.length+(Int.ofNat l.length).toNat +Int.toNat (0:Int)+(1:Nat)) () l:=by
  unfold zcR zjh zjc;rw [hw]; rfl
 exact zpa (this.trans (zS5 _ _ _ _ _ (by omega) (λx _=>by
  unfold zf5 zyr;rw [Wy.fin_i,Wy.fin_k,Wy.fin_k];have e:decide (Int.ofNat x.At.Items.length>(1024:Int))=decide (x.At.Items.length>1024):=zuH _ 1024;rw [e];cases decide (x.Exp>64) <;>rfl) (by omega)))
theorem zbdm {d:Nat} {a:yC} (h:zF d a) (hd:d<=100) (hs:zX a<=4611686018427387904):zla a=(true,zmq a):=by
 obtain ⟨h1,h2⟩:a.length<=1000000/\∀ t∈a,t.Fs.length<=1000000:=by
  cases d with
  | zero=>exact h.elim
  | succ d=>exact ⟨h.1,λt ht=>(h.2 t ht).1⟩
 have h3:zcm a=(true,a.any λt=> !zBJ t):=by
  unfold zcm zhR;have:zdN a=IG (λ(_:Unit) x=>zk1 x) (a.length+(Int.ofNat a.length).toNat +Int.toNat (0:Int)+(1:Nat)) () a:=rfl
  exact zpa (this.trans (zS5 _ _ _ _ _ (by omega) (λx hx=>by
   unfold zk1 zBg;rw [Wy.fin_i,Wy.fin_k,Wy.fin_bn,zbcA _ (h2 x hx)];have e:decide (Int.ofNat x.Fs.length>(64:Int))=decide (x.Fs.length>64):=zuH _ 64;rw [e];unfold zBJ;cases decide (x.Fs.length>64) <;>simp [Wy.fin_k]) (by omega)))
 unfold zla zEM;have n1:zzF a=(true,(zbB a:Int)):=(z5R 1000 d a h (by omega) hd).1
 have n2:zCZ a=(true,(zX a:Int)):=(z2K 1000 d a h (by omega) hs).1
 simp only [Wy.fin_i,Wy.fin_k,Wy.fin_bn,n1,n2,h3,cond_true];have e1:decide (Int.ofNat a.length>(512:Int))= !decide (a.length<=512):=by rw [show decide (Int.ofNat a.length>(512:Int))=decide (a.length>512) from zuH _ 512]; exact zQO _ _
 have e2:decide ((zbB a:Int)>(8:Int))= !decide (zbB a<=8):=by rw [show decide ((zbB a:Int)>(8:Int))=decide (zbB a>8) from zuH _ 8]; exact zQO _ _
 have e3:decide ((zX a:Int)>(4096:Int))= !decide (zX a<=4096):=by rw [show decide ((zX a:Int)>(4096:Int))=decide (zX a>4096) from zuH _ 4096]; exact zQO _ _
 have e4:(a.any λt=> !zBJ t)= !a.all zBJ:=by simp [List.all_eq_not_any_not]
 rw [e1,e2,e3,e4];unfold zmq;cases decide (a.length<=512) <;>cases decide (zbB a<=8) <;>cases decide (zX a<=4096) <;>simp
theorem zbgC (a:yC) (i:Nat) (hi:i<a.length) (hl:(a.getD i default).Fs.length<=1000000) (fuel:Nat) (hf:(a.getD i default).Fs.length<fuel):
  zUb fuel a i 0=(true,bif (a.getD i default).Fs.any λf=>decide (f.Exp>64)||decide (f.At.Items.length>1024) then .inl false else .inr (a,(i:Int))):=by
 have:=zj2 (W:=zIt) (z:=.inl default) (a.getD i default).Fs.length (λk=>(a,(i:Int),(k:Int),())) (λ_=>()) (λk=>(λf:Fc=> !(decide (f.Exp>64)||decide (f.At.Items.length>1024))) ((a.getD i default).Fs.getD k default)) (.inl false) (.inr (a,(i:Int)))
  (λk hk H K D=>by
   show (zwU a i k).ev H K D=_;unfold zwU;simp only [Wy.ev_i,Wy.ev_k,Wy.ev_h,Wy.ev_bn,Wy.ev_d,tT,hi,hk];rw [zV (by omega),show decide ((((a.getD i default).Fs.getD k default).At.Items.length:Int)>(1024:Int))=_ from zuH _ 1024]
   cases decide (((a.getD i default).Fs.getD k default).Exp>64) <;>cases decide (1024<((a.getD i default).Fs.getD k default).At.Items.length) <;>rfl)
  (λH K D=>by
   show (zwU a i (a.getD i default).Fs.length).ev H K D=_;unfold zwU;simp only [Wy.ev_i,Wy.ev_k,Wy.ev_h,Wy.ev_bn,Wy.ev_d,tT,hi,Nat.lt_irrefl]) fuel hf
 rw [zvT (λf:Fc=> !(decide (f.Exp>64)||decide (f.At.Items.length>1024)))] at this
 have e:((a.getD i default).Fs.all λf=> !(decide (f.Exp>64)||decide (f.At.Items.length>1024)))= !((a.getD i default).Fs.any λf=>decide (f.Exp>64)||decide (f.At.Items.length>1024)):=by simp [List.all_eq_not_any_not]
 rw [e] at this;refine this.trans ?_;cases (a.getD i default).Fs.any λf=>decide (f.Exp>64)||decide (f.At.Items.length>1024) <;>rfl
theorem zbfM {d:Nat} {a:yC} (h:zF d a) (hd:d<=100) (hs:zX a<=4611686018427387904):zzS a=(true,zmq a):=by
 obtain ⟨h1,h2⟩:a.length<=1000000/\∀ t∈a,t.Fs.length<=1000000:=by
  cases d with
  | zero=>exact h.elim
  | succ d=>exact ⟨h.1,λt ht=>(h.2 t ht).1⟩
 have h3:zTT ((a.length+Int.toNat (0:Int)+(1:Nat))+zdR a) a 0=(true,bif a.all zBJ then .inr () else .inl false):=by
  have:=zj2 (W:=zIH) (z:=.inl default) a.length (λk=>(a,(k:Int),())) (λ_=>()) (λk=>zBJ (a.getD k default)) (.inl false) (.inr ())
   (λk hk H K D=>by
    show (zwX a k).ev H K D=_;unfold zwX;have h4:=h2 _ (zR hk);have h5:=zSd a k hk;simp only [Wy.ev_i,Wy.ev_k,Wy.ev_h,Wy.ev_bn,Wy.ev_d,tT,hk];rw [zbgC a k hk h4 _ (by omega)]
    have e:decide (((a.getD k default).Fs.length:Int)>(64:Int))=decide ((a.getD k default).Fs.length>64):=zuH _ 64;rw [e];unfold zBJ;cases decide ((a.getD k default).Fs.length>64) <;>cases ((a.getD k default).Fs.any λf=>decide (f.Exp>64)||decide (f.At.Items.length>1024))
    ·simp only [cond_false,cond_true,isL,getR]; rw [zV (by omega)]; rfl
    all_goals rfl)
   (λH K D=>by
    show (zwX a a.length).ev H K D=_;unfold zwX;simp only [Wy.ev_i,Wy.ev_k,Wy.ev_h,Wy.ev_bn,Wy.ev_d,tT,Nat.lt_irrefl]) ((a.length+Int.toNat (0:Int)+(1:Nat))+zdR a) (by omega)
  rw [zvT] at this;exact this
 unfold zzS zV8;have n1:zH8 a=(true,(zbB a:Int)):=(z5R 1000 d a h (by omega) hd).2
 have n2:zSA a=(true,(zX a:Int)):=(z2K 1000 d a h (by omega) hs).2
 simp only [Wy.fin_i,Wy.fin_k,Wy.fin_bn,n1,n2,h3,cond_true];have e1:decide (Int.ofNat a.length>(512:Int))= !decide (a.length<=512):=by rw [show decide (Int.ofNat a.length>(512:Int))=decide (a.length>512) from zuH _ 512]; exact zQO _ _
 have e2:decide ((zbB a:Int)>(8:Int))= !decide (zbB a<=8):=by rw [show decide ((zbB a:Int)>(8:Int))=decide (zbB a>8) from zuH _ 8]; exact zQO _ _
 have e3:decide ((zX a:Int)>(4096:Int))= !decide (zX a<=4096):=by rw [show decide ((zX a:Int)>(4096:Int))=decide (zX a>4096) from zuH _ 4096]; exact zQO _ _
 rw [e1,e2,e3];unfold zmq;cases decide (a.length<=512) <;>cases decide (zbB a<=8) <;>cases decide (zX a<=4096) <;>cases a.all zBJ <;>simp [isL,getL]
def zxJ (v:Value):Bool:=(v.Kind==0&&v.Text.size==0)||(v.Kind==1&&v.Int==0&&decide (v.Text.size<=255))||(v.Kind==2&&v.Text.size==0&&(v.Int==0||v.Int==1))
theorem z87 (s:ByteArray):(s.toList==(ByteArray.mk #[]).toList)=(s.size==0):=by
 rw [zWw];by_cases h:s.size=0
 ·have:s=ByteArray.mk #[]:=zG5 (by
   have:s.data.toList.length=0:=by simpa using h
   rw [List.length_eq_zero_iff.1 this])
  subst this; rfl
 ·have:¬ s=ByteArray.mk #[]:=λe=>h (by rw [e]; rfl)
  simp [h,this]
theorem zQ7 (v:Value):zto v=(true,zxJ v):=by
 unfold zto zUd zxJ;simp only [z87,Wy.fin_i,Wy.fin_k,zuP,zbaq];have e:decide (Int.ofNat v.Text.size<=(255:Int))=decide (v.Text.size<=255):=zp2 _ 255;rw [e];by_cases h0:v.Kind=0
 ·simp [h0]
 ·by_cases h1:v.Kind=1
  ·by_cases h2:v.Int=0 <;>simp [h1,h2]
  ·by_cases h2:v.Kind=2
   ·by_cases h3:v.Int=0
    ·simp [h2,h3]
    ·by_cases h4:v.Int=1 <;>simp [h2,h3,h4]
   ·simp [h0,h1,h2]
theorem zRc (v:Value):zxB v=(true,zxJ v):=by
 unfold zxB zT0 zxJ;simp only [z87,Wy.fin_i,Wy.fin_k,zuP,zbaq];have e:decide (Int.ofNat v.Text.size<=(255:Int))=decide (v.Text.size<=255):=zp2 _ 255;rw [e];by_cases h0:v.Kind=0
 ·simp [h0]
 ·by_cases h1:v.Kind=1
  ·by_cases h2:v.Int=0 <;>simp [h1,h2]
  ·by_cases h2:v.Kind=2
   ·by_cases h3:v.Int=0
    ·by_cases h4:v.Text.size=0 <;>simp [h2,h3,h4]
    ·by_cases h4:v.Text.size=0 <;>simp [h2,h3,h4]
   ·simp [h0,h1,h2]
def zLw (fn:Int) (b:Value) (w:Wd):Bool:=zxJ w.Value&&(w.Value.Kind==b.Kind)&& !(fn==0&&w.Value.Int != 1)
def zEd (fn:Int) (l:yE) (op:Int) (b:Value):Bool:=decide (0<=fn)&&decide (fn<=3)&&decide (5<=op)&&decide (op<=10)&&zxJ b&& !(decide (fn<=1)&&b.Kind != 0)&&l.all (zLw fn b)
theorem zbfd (l:yE) (fn:Int) (b:Value) (h:l.length<=1000000):zbz l b fn=(true, !l.all (zLw fn b)):=by
 unfold zbz zgG;have:zdm l b fn=IG (λ(g:Value×(Int×Unit)×Unit) x=>zhi x g.1 g.2.1.1) (l.length+fn.toNat +(Int.ofNat l.length).toNat +Int.toNat (0:Int)+(1:Nat)) (b,(fn,()),()) l:=rfl
 have e:(!l.all (zLw fn b))=l.any λw=> !zLw fn b w:=by simp [List.all_eq_not_any_not]
 rw [e]
 exact zpa (this.trans (zS5 _ _ _ _ _ (by omega) (λx _=>by
  show zhi x b fn=_;unfold zhi zAl zLw;simp only [Wy.fin_i,Wy.fin_k,Wy.fin_bn,zQ7,cond_true,zuP,zS6];cases zxJ x.Value <;>by_cases h1:x.Value.Kind=b.Kind <;>by_cases h2:fn=0 <;>simp [zuP,zS6,h1,h2]) (by omega)))
theorem zbca (fn:Int) (l:yE) (op:Int) (b:Value) (h:l.length<=1000000):zj1 fn l op b=(true,zEd fn l op b):=by
 unfold zj1 zDJ zEd;simp only [Wy.fin_i,Wy.fin_k,Wy.fin_bn,zQ7,zbfd l fn b h,cond_true,zuP,zS6];by_cases h1:fn<0
 ·have:¬ (0<=fn):=by omega
  simp [h1,this]
 by_cases h2:3<fn
 ·have:¬ (fn<=3):=by omega
  simp [h1,h2,this]
 by_cases h3:op<5
 ·have:¬ (5<=op):=by omega
  simp [h1,h2,h3,this]
 by_cases h4:10<op
 ·have:¬ (op<=10):=by omega
  simp [h1,h2,h3,h4,this]
 have g1:0<=fn:=by omega
 have g2:fn<=3:=by omega
 have g3:5<=op:=by omega
 have g4:op<=10:=by omega
 cases zxJ b with
 | false=>simp [h1,h2,h3,h4]
 | true=>
  by_cases h5:fn=0
  ·subst h5; by_cases h6:b.Kind=0 <;>simp [h3,h4,h6,g3,g4]
  ·by_cases h7:fn=1
   ·subst h7; by_cases h6:b.Kind=0 <;>simp [h3,h4,h6,g3,g4]
   ·have:¬ fn<=1:=by omega
    simp [h1,h2,h3,h4,h5,h7,this,g1,g2,g3,g4]
theorem zbd8 (fn:Int) (l:yE) (op:Int) (b:Value) (h:l.length<=1000000):zA9 fn l op b=(true,zEd fn l op b):=by
 unfold zA9 zUa zEd
 have hl:zGd (fn.toNat +l.length+Int.toNat (0:Int)+(1:Nat)) fn l (0:Int) b=(true,bif l.all (zLw fn b) then .inr () else .inl false):=by
  have:=zj2 (W:=zFi) (z:=.inl default) l.length (λk=>(fn,l,(),(k:Int),())) (λ_=>(b,())) (λk=>zLw fn b (l.getD k default)) (.inl false) (.inr ())
   (λk hk H K D=>by
    show (zuq fn l k b).ev H K D=_;unfold zuq zLw;simp only [Wy.ev_i,Wy.ev_k,Wy.ev_h,Wy.ev_bn,Wy.ev_d,tT,hk,zRc,zuP,zS6];rw [zV (by omega)]
    cases zxJ (l.getD k default).Value <;>cases decide ((l.getD k default).Value.Kind=b.Kind) <;>cases decide (fn=0) <;>cases decide ((l.getD k default).Value.Int=1) <;>rfl)
   (λH K D=>by
    show (zuq fn l l.length b).ev H K D=_;unfold zuq;simp only [Wy.ev_i,Wy.ev_k,Wy.ev_h,Wy.ev_bn,Wy.ev_d,tT,Nat.lt_irrefl]) (fn.toNat +l.length+Int.toNat (0:Int)+(1:Nat)) (by omega)
  rw [zvT] at this;exact this
 simp only [Wy.fin_i,Wy.fin_k,Wy.fin_bn,zRc,hl,cond_true,zuP,zS6];by_cases h1:fn<0
 ·have:¬ (0<=fn):=by omega
  simp [h1,this]
 by_cases h2:3<fn
 ·have:¬ (fn<=3):=by omega
  simp [h1,h2,this]
 by_cases h3:op<5
 ·have:¬ (5<=op):=by omega
  simp [h1,h2,h3,this]
 by_cases h4:10<op
 ·have:¬ (op<=10):=by omega
  simp [h1,h2,h3,h4,this]
 have g1:0<=fn:=by omega
 have g2:fn<=3:=by omega
 have g3:5<=op:=by omega
 have g4:op<=10:=by omega
 cases zxJ b with
 | false=>simp [h1,h2,h3,h4]
 | true=>
  by_cases h5:fn<=1
  ·by_cases h6:b.Kind=0
   ·cases l.all (zLw fn b) <;>simp [h1,h2,h3,h4,h5,h6,g1,g2,g3,g4,isL,getL]
   ·simp [h1,h2,h3,h4,h5,h6,g1,g2,g3,g4]
  ·cases l.all (zLw fn b) <;>simp [h1,h2,h3,h4,h5,g1,g2,g3,g4,isL,getL]
def bz (b:Value):Bool:=b.Kind==(0:Int)&&(b.Int==(0:Int)&&(b.Text.toList==(ByteArray.mk #[]).toList&&true))
def plA (x:At):Bool:=x.Func==0&&(x.Items.length==0)&&x.Op==0&&bz x.Bd
theorem zbeW (x:At):zpc x=(true,plA x):=by
 unfold zpc zT3 plA;simp only [Wy.fin_i,Wy.fin_k,Int.ofNat_eq_natCast,i0];show _=(true,_&&_&&_&&bz x.Bd);rw [show (x.Bd.Kind==(0:Int)&&(x.Bd.Int==(0:Int)&&(x.Bd.Text.toList==(ByteArray.mk #[]).toList&&true)))=bz x.Bd from rfl]
 cases x.Func==0 <;>cases x.Items.length==0 <;>cases x.Op==0 <;>rfl
def zXb (l:yE) (k:Nat):Bool:=decide (k=0)||decide (zbL (zgm (l.getD (k - 1) default)) (zgm (l.getD k default))<=0)
def z1Z (l:yE):Bool:=zjI (zXb l) l.length 0
theorem z67 (c:Nat->Bool):∀ n i,zjI c (n+1) i=(zjI c n i&&c (i+n))
 | 0,i=>by simp [zjI]
 | n+1,i=>by
  rw [zjI,z67 c n (i+1),zjI,show i+1+n=i+(n+1) by omega,Bool.and_assoc]
theorem zTY {d:Nat} (l:yE) (hl:l.length<=1000000) (h:∀ w∈l,zF d w.Ann) (hd:d<=99):∀ (n i:Nat),i<l.length->i<n->zeh n l i=(true,bif zjI (zXb l) (i+1) 0 then .inr () else .inl false)
 | 0,i,hi,hn=>by omega
 | n+1,i,hi,hn=>by
  show (zeg l i).ev (λx y=>zeh n x.1 x.2.2.1) (λr=>(true,r)) (false,.inl default)=_
  unfold zeg;have hg:decide ((i:Int)>(0:Int))=decide (0<i):=zuH i 0;cases i with
  | zero=>simp [Wy.ev_i,Wy.ev_k,zjI,zXb]
  | succ i=>
   have hi':i<l.length:=by omega
   have hw:IntKind.i64.wrap (((i+1:Nat):Int) - 1)=(i:Int):=by rw [zm3 (by omega) (by omega)]; rfl
   have hp:decide (0<i+1)=true:=by simp
   simp only [Wy.ev_i,Wy.ev_k,Wy.ev_h,Wy.ev_bn,Wy.ev_d,hg,hp,hw,tT,hi,hi',zIE (h _ (zR hi)) hd];rw [zTY l hl h hd n i hi' (by omega),z67 _ (i+1),Nat.zero_add]
   have:zXb l (i+1)= !decide (zbL (zgm (l.getD (i+1) default)) (zgm (l.getD i default))<0):=by
    unfold zXb;rw [show i+1 - 1=i from rfl,zvO (zgm (l.getD (i+1) default)) (zgm (l.getD i default))]
    generalize zbL (zgm (l.getD (i+1) default)) (zgm (l.getD i default))=z;by_cases hz:z<0
    ·have:¬ (-z<=0):=by omega
     simp [hz,this]
    ·have:(-z<=0):=by omega
     simp [hz,this]
   rw [this];cases decide (zbL (zgm (l.getD (i+1) default)) (zgm (l.getD i default))<0) <;>simp
theorem zbaK {d:Nat} (l:yE) (hl:l.length<=1000000) (h:∀ w∈l,zF d w.Ann) (hd:d<=99):zck l=(true,z1Z l):=by
 unfold zck zhA z1Z
 match l,hl,h with
 | [],_,_=>rfl
 | x::r,hl,h=>
  have hw:IntKind.i64.wrap (Int.ofNat (x::r).length - 1)=(r.length:Int):=by
   rw [qf] at hl;rw [show Int.ofNat (x::r).length=(((x::r).length:Nat):Int) from rfl,zm3 (by simp) (by simp; omega)]; rfl
  rw [Wy.fin_bn,hw,zTY (x::r) hl h hd _ r.length (by simp) (by simp; omega)]
  cases zjI (zXb (x::r)) (r.length+1) 0 with
  | true=>simp [Wy.fin_i,Wy.fin_k,isL]
  | false=>simp [Wy.fin_i,Wy.fin_k,isL,getL]
def rz (r:RowID):Bool:=r.Table==(0:Int)&&(r.Seq==(0:Int)&&true)
def zqd (V:yC->Bool) (l:yA):Bool:=l.all λa=>V a&& !(a.length==0)
def zCE (V:yC->Bool) (l:yE):Bool:=l.all λw=>V w.Ann&& !(w.Ann.length==0)
def zJw (r:RowID):Bool:=decide (r.Table≥1)&&decide (r.Seq≥1)
def zGi (p:yC->Bool):yA->Bool
 | [a]=>p a
 | _=>false
def z3s (p:yC->yC->Bool):yA->Bool
 | [a,b]=>p a b
 | _=>false
def zij (V:yC->Bool) (x:At):Bool:=
 zqd V x.Ag&&
 if x.Kind=0 then plA x&&zJw x.Row&&(x.Ag.length==0)
 else rz x.Row&&
  if x.Kind=1 then plA x&&z3s (λa b=> !decide (a=b)) x.Ag
  else if x.Kind=2 then plA x&&zGi (λa=> !isC a&& !isU a) x.Ag
  else if x.Kind=3 then plA x&&zGi (λa=> !zB6 a) x.Ag
  else if x.Kind=4 then (x.Ag.length==0)&&decide (0<x.Items.length)&&zCE V x.Items&&z1Z x.Items&&zEd x.Func x.Items x.Op x.Bd
  else false
def zPb (vat:At->Bool) (fs:yD) (k:Nat):Bool:=
 decide (1<=(fs.getD k default).Exp)&& !(((fs.getD k default).At.Kind==3||(fs.getD k default).At.Kind==4)&&(fs.getD k default).Exp != 1)&&
  (decide (k=0)||decide (zbL (zfg (fs.getD (k - 1) default).At) (zfg (fs.getD k default).At)<0))&&vat (fs.getD k default).At
def okF (vat:At->Bool) (fs:yD):Bool:=zjI (zPb vat fs) fs.length 0
def zC3 (vat:At->Bool) (a:yC) (i:Nat):Bool:=
 decide (1<=(a.getD i default).Cf)&&decide ((a.getD i default).Cf<=1152921504606846976)&&
  (decide (i=0)||decide (zbO (zb0 (a.getD (i - 1) default).Fs) (zb0 (a.getD i default).Fs)<0))&&okF vat (a.getD i default).Fs
def zAF (vat:At->Bool) (a:yC):Bool:=zmq a&&zjI (zC3 vat a) a.length 0
def zde:Nat->yC->Bool
 | 0,_=>false
 | n+1,a=>zAF (zij (zde n)) a
theorem z4w (r:RowID):zp0 r=(true,zJw r):=by
 unfold zp0 zQP zJw;rw [Wy.fin_i,Wy.fin_k,Wy.fin_k];cases decide (r.Table≥1) <;>rfl
theorem zDB {V:yC->Bool} {x:At} (h:zij V x=true):0<=x.Kind/\x.Kind<=4:=by
 unfold zij at h;by_cases h0:x.Kind=0
 ·omega
 by_cases h1:x.Kind=1
 ·omega
 by_cases h2:x.Kind=2
 ·omega
 by_cases h3:x.Kind=3
 ·omega
 by_cases h4:x.Kind=4
 ·omega
 simp [h0,h1,h2,h3,h4] at h
theorem zDq (l k:Nat):((Int.ofNat l)==(k:Int))=(l==k):=by
 rw [zuP,zbaq]; congr 1; simp; omega
section
variable (V:yC->Bool) (gW:yE->Bool×Bool) (gA:yA->Bool×Bool) (c1:yC->Bool×Bool) (c2:Wd->Bool×Bool)
theorem z6V (x:At) {d:Nat} (hx:zex (zF d) x) (hd:d<=99) (hA:gA x.Ag=(true, !zqd V x.Ag)) (hW:gW x.Items=(true, !zCE V x.Items)):
  zjw gA c1 gW c2 x=(true,zij V x):=by
 have hS:=zbaK x.Items hx.1.2.1 (λw hw=>(hx.2.2 w hw).2) hd
 have hF:=zbca x.Func x.Items x.Op x.Bd hx.1.2.1;have hE:∀ a∈x.Ag,∀ b,zhL a b=(true,decide (a=b)):=λa ha b=>zUn (hx.2.1 a ha) (by omega) b
 have hC:∀ a∈x.Ag,ze3 a=(true,zB6 a):=λa ha=>z6C a (by
  have:=hx.2.1 a ha;cases d with
  | zero=>exact this.elim
  | succ d=>have:=this.1; omega)
 obtain ⟨k,r,l,f,its,o,b⟩:=x;simp only at hA hW hS hF hE hC;unfold zjw zcc zij plA;simp only [z4w,hA,hW,hS,hF,Wy.fin_i,Wy.fin_k,Wy.fin_bn,cond_true]
 rw [show (b.Kind==(0:Int)&&(b.Int==(0:Int)&&(b.Text.toList==(ByteArray.mk #[]).toList&&true)))=bz b from rfl,
  show (r.Table==(0:Int)&&(r.Seq==(0:Int)&&true))=rz r from rfl,
  show (Int.ofNat its.length != 0)= !(its.length==0) from congrArg not (zDq its.length 0),show (f != 0)= !(f==0) from rfl,show (o != 0)= !(o==0) from rfl]
 generalize zqd V l=A at *;generalize zCE V its=W at *;generalize bz b=B at *;generalize (f==0)=F at *;generalize (o==0)=O at *;generalize rz r=R at *;generalize zJw r=RO at *;generalize z1Z its=S at *;generalize zEd f its o b=K at *;have hgt:decide (Int.ofNat its.length>0)=decide (0<its.length):=zuH its.length 0;rw [hgt];generalize (its.length==0)=I at *;generalize decide (0<its.length)=J at *;by_cases h0:k=0
 ·subst h0;simp only [zDq,show ((Int.ofNat l.length)==(0:Int))=(l.length==0) from zDq l.length 0]
  generalize (l.length==0)=L;cases F <;>cases I <;>cases O <;>cases B <;>cases A <;>cases RO <;>rfl
 by_cases h1:k=1
 ·subst h1
  match l,hE with
  | [],_=>cases F <;>cases I <;>cases O <;>cases B <;>cases A <;>cases R <;>rfl
  | [u],_=>cases F <;>cases I <;>cases O <;>cases B <;>cases A <;>cases R <;>rfl
  | [u,v],hE=>
   have e:=hE u (by simp) v
   simp only [List.getD,qf,List.length_nil,Int.toNat_zero,List.getElem?_cons_zero,List.getElem?_cons_succ,Option.getD,show Int.toNat 1=1 from rfl,z3s]
   simp only [e];generalize decide (u=v)=E;cases F <;>cases I <;>cases O <;>cases B <;>cases A <;>cases R <;>rfl
  | u::v::w::l,_=>
   have e:((Int.ofNat (u::v::w::l).length)==(2:Int))=false:=by rw [beq_eq_false_iff_ne]; simp; omega
   simp only [e];cases F <;>cases I <;>cases O <;>cases B <;>cases A <;>cases R <;>rfl
 by_cases h2:k=2
 ·subst h2
  match l with
  | []=>cases F <;>cases I <;>cases O <;>cases B <;>cases A <;>cases R <;>rfl
  | [u]=>
   simp only [List.getD,qf,List.length_nil,Int.toNat_zero,List.getElem?_cons_zero,Option.getD,zGi,z8t,zbda];generalize isC u=E;generalize isU u=E';cases F <;>cases I <;>cases O <;>cases B <;>cases A <;>cases R <;>cases E <;>cases E' <;>rfl
  | u::v::l=>
   simp only [zTE];cases F <;>cases I <;>cases O <;>cases B <;>cases A <;>cases R <;>rfl
 by_cases h3:k=3
 ·subst h3
  match l,hC with
  | [],_=>cases F <;>cases I <;>cases O <;>cases B <;>cases A <;>cases R <;>rfl
  | [u],hC=>
   have e:=hC u (by simp)
   simp only [List.getD,qf,List.length_nil,Int.toNat_zero,List.getElem?_cons_zero,Option.getD,zGi];simp only [e];generalize zB6 u=E;cases F <;>cases I <;>cases O <;>cases B <;>cases A <;>cases R <;>cases E <;>rfl
  | u::v::l,_=>
   simp only [zTE];cases F <;>cases I <;>cases O <;>cases B <;>cases A <;>cases R <;>rfl
 by_cases h4:k=4
 ·subst h4;simp only [show ((Int.ofNat l.length)==(0:Int))=(l.length==0) from zDq l.length 0]
  generalize (l.length==0)=L;cases A <;>cases W <;>cases L <;>cases J <;>cases S <;>cases K <;>cases R <;>rfl
 simp only [zuP,h0,h1,h2,h3,h4,decide_false,if_false,cond_false];cases F <;>cases I <;>cases O <;>cases B <;>cases A <;>cases R <;>rfl
end
section
variable (V:yC->Bool) (g:yC->Bool×Bool)
theorem zbhX (x:At) (hl:x.Ag.length<=1000000) (hg:∀ a∈x.Ag,g a=(true,V a)) (n:Nat) (hn:x.Ag.length<n):zwG g n 0 x=(true,bif zqd V x.Ag then .inr x else .inl false):=by
 have:=zj2 (W:=zwK g) (z:=.inl default) x.Ag.length (λi=>((),(i:Int),())) (λ_=>(x,())) (λi=>(λa:yC=>V a&& !(a.length==0)) (x.Ag.getD i default)) (.inl false) (.inr x)
  (λi hi H K D=>by
   show (zkH g i x).ev H K D=_;unfold zkH;have hL:decide ((i:Int)<Int.ofNat x.Ag.length)=true:=by simp [hi]
   simp only [Wy.ev_i,Wy.ev_k,Wy.ev_h,Wy.ev_bn,Wy.ev_d,hL,zbf,Bool.and_self,cond_true,Int.toNat_natCast,hg _ (zR hi)];rw [zV (by omega),show (Int.ofNat (x.Ag.getD i default).length==(0:Int))=((x.Ag.getD i default).length==0) from zDq _ 0]
   cases V (x.Ag.getD i default) <;>cases ((x.Ag.getD i default).length==0) <;>rfl)
  (λH K D=>by
   show (zkH g x.Ag.length x).ev H K D=_;unfold zkH;have hL:decide ((x.Ag.length:Int)<Int.ofNat x.Ag.length)=false:=by simp
   simp only [Wy.ev_i,Wy.ev_k,hL,cond_false]) n hn
 rw [zvT (λa:yC=>V a&& !(a.length==0))] at this
 exact this
theorem zbfv {τ:Type} [Inhabited τ] (l:List τ) (i:Nat) (h:i<l.length):List.take 1 (List.drop i l)=[l.getD i default]:=by
 rw [zZ h]; rfl
theorem zbhP (x y:TT):zbO [x] [y]=zbL x y:=by
 simp only [zbO];split
 ·rename_i h; exact h.symm
 ·rfl
theorem zbhD (x:At) {d:Nat} (hx:zex (zF d) x) (hd:d<=99) (hg:∀ a∈x.Items,g a.Ann=(true,V a.Ann)) (n:Nat) (hn:x.Items.length<n):zCA g n 0 x=(true,bif zCE V x.Items&&z1Z x.Items then .inr () else .inl false):=by
 have hl:x.Items.length<=1000000:=hx.1.2.1
 have:=zj2 (W:=zu3 g) (z:=.inl default) x.Items.length (λi=>((),(i:Int),())) (λ_=>(x,())) (λi=>(λw:Wd=>V w.Ann&& !(w.Ann.length==0)) (x.Items.getD i default)&&zXb x.Items i) (.inl false) (.inr ())
  (λi hi H K D=>by
   show (zjY g i x).ev H K D=_;unfold zjY;have hL:decide ((i:Int)<Int.ofNat x.Items.length)=true:=by simp [hi]
   simp only [Wy.ev_i,Wy.ev_k,Wy.ev_h,Wy.ev_bn,Wy.ev_d,hL,zbf,Bool.and_self,cond_true,Int.toNat_natCast,hg _ (zR hi)];rw [zV (by omega),show (Int.ofNat (x.Items.getD i default).Ann.length==(0:Int))=((x.Items.getD i default).Ann.length==0) from zDq _ 0]
   cases V (x.Items.getD i default).Ann <;>cases ((x.Items.getD i default).Ann.length==0) <;>try rfl
   simp only [cond_true,cond_false,Bool.not_true,Bool.not_false,Bool.and_self,Bool.true_and];cases i with
   | zero=>rfl
   | succ i=>
    have hi':i<x.Items.length:=by omega
    have hw:IntKind.i64.wrap (((i+1:Nat):Int) - 1)=(i:Int):=by rw [zm3 (by omega) (by omega)]; rfl
    have e1:(decide ((0:Int)<=(i:Int))&&decide ((i:Int)<=((i+1:Nat):Int))&&decide (((i+1:Nat):Int)<=Int.ofNat x.Items.length))=true:=by
     simp; try omega
    have e2:(decide (((i+1:Nat):Int)<=((i+1+1:Nat):Int))&&decide (((i+1+1:Nat):Int)<=Int.ofNat x.Items.length))=true:=by
     simp; try omega
    have e3:decide (((i+1:Nat):Int)>0)=true:=by simp; try omega
    simp only [hw,e1,e2,e3,cond_true,Bool.true_and,Int.toNat_natCast,show i+1 - i=1 by omega,show i+1+1 - (i+1)=1 by omega,zbfv _ _ hi,zbfv _ _ hi']
    rw [zQE (d:=d) (by simp) (λw hw=>by
     rw [qh] at hw; subst hw; exact (hx.2.2 _ (zR hi')).2) hd,ztm,ztm]
    simp only [List.map,zbhP,cond_true,zXb,show i+1 - 1=i from rfl]
    have e4:decide (i+1=0)=false:=by simp
    rw [e4,Bool.false_or];generalize zbL (zgm (x.Items.getD i default)) (zgm (x.Items.getD (i+1) default))=z;by_cases hz:z>0
    ·have:¬ z<=0:=by omega
     simp only [hz,this,decide_true,decide_false,cond_true,cond_false]
    ·have:z<=0:=by omega
     simp only [hz,this,decide_true,decide_false,cond_true,cond_false])
  (λH K D=>by
   show (zjY g x.Items.length x).ev H K D=_;unfold zjY;have hL:decide ((x.Items.length:Int)<Int.ofNat x.Items.length)=false:=by simp
   simp only [Wy.ev_i,Wy.ev_k,hL,cond_false]) n hn
 rw [zbaj (λi=>(λw:Wd=>V w.Ann&& !(w.Ann.length==0)) (x.Items.getD i default)),zvT (λw:Wd=>V w.Ann&& !(w.Ann.length==0))] at this
 exact this
theorem zbbM {A ρ:Type} (s:A) (k:A->Wy0 ρ) (z:ρ):(Wy.bn (true,s) k).fin z=(k s).fin z:=rfl
theorem z41 (x:At) {d:Nat} (hx:zex (zF d) x) (hd:d<=99) (h10:x.Items.length<=1024) (hV:∀ a,V a=true->isB a=isU a) (hgA:∀ a∈x.Ag,g a=(true,V a)) (hgI:∀ a∈x.Items,g a.Ann=(true,V a.Ann)):
  znX g x=(true,zij V x):=by
 have hS:=λn hn=>zbhD V g x hx hd hgI n hn
 have hA:=λn hn=>zbhX V g x hx.1.1 hgA n hn
 have hF:=zbd8 x.Func x.Items x.Op x.Bd hx.1.2.1;have hE:∀ a∈x.Ag,∀ b,zwB a b=(true,decide (a=b)):=λa ha b=>z8p (hx.2.1 a ha) (by omega) b
 have hC:∀ a∈x.Ag,zjS a=(true,zB6 a):=λa ha=>zZ9 a (by
  have:=hx.2.1 a ha;cases d with
  | zero=>exact this.elim
  | succ d=>have:=this.1; omega)
 have hP:=zbeW x;unfold znX zE0 zij;obtain ⟨s,hs1,hs2⟩:∃ s,zwG g (Int.toNat (0:Int)+x.Ag.length+x.Items.length+(1:Nat)) 0 x=(true,s)/\s=bif zqd V x.Ag then .inr x else .inl false:=⟨_,hA _ (by omega),rfl⟩
 rw [At.eta,hP,hs1];simp only [Wy.fin_i,Wy.fin_k,zbbM];simp only [Wy.fin_i,Wy.fin_k,Wy.fin_bn,cond_true];rw [show (x.Row.Table==(0:Int)&&(x.Row.Seq==(0:Int)&&true))=rz x.Row from rfl]
 have b0:(x.Kind==(0:Int))=decide (x.Kind=0):=zuP _ _;have b1:(x.Kind==(1:Int))=decide (x.Kind=1):=zuP _ _;have b2:(x.Kind==(2:Int))=decide (x.Kind=2):=zuP _ _;have b3:(x.Kind==(3:Int))=decide (x.Kind=3):=zuP _ _;have b4:(x.Kind==(4:Int))=decide (x.Kind=4):=zuP _ _;by_cases h0:x.Kind=0
 ·rw [b0];simp only [h0,decide_true,cond_true,if_true];rw [show (Int.ofNat x.Ag.length==(0:Int))=(x.Ag.length==0) from zDq _ 0]
  unfold zJw
  match hl:x.Ag with
  | []=>cases decide (x.Row.Table≥1) <;>cases decide (x.Row.Seq≥1) <;>cases plA x <;>rfl
  | u::l=>cases decide (x.Row.Table≥1) <;>cases decide (x.Row.Seq≥1) <;>cases plA x <;>cases zqd V (u::l) <;>rfl
 rw [b0];simp only [h0,decide_false,cond_false,if_false];cases hA:zqd V x.Ag with
 | false=>rw [hs2,hA]; cases rz x.Row <;>rfl
 | true=>
 rw [hA,cond_true] at hs2;have hy:getR s=x:=by rw [hs2]; rfl
 have hy2:isL s=false:=by rw [hs2]; rfl
 rw [hy2];generalize getR s=y at hy ⊢;subst hy;cases rz y.Row with
 | false=>rfl
 | true=>
 simp only [Bool.not_true,cond_false,cond_true,isL,getR,Bool.true_and,At.eta,hP,hF,b1,b2,b3,b4];by_cases h1:y.Kind=1
 ·simp only [h1,decide_true,cond_true,if_true]
  match hl:y.Ag with
  | []=>cases plA y <;>rfl
  | [u]=>cases plA y <;>rfl
  | [u,v]=>
   have e:=hE u (by rw [hl]; simp) v
   simp only [List.getD,qf,List.length_nil,Int.toNat_zero,List.getElem?_cons_zero,List.getElem?_cons_succ,Option.getD,show Int.toNat 1=1 from rfl,z3s]
   simp only [e];generalize decide (u=v)=E;cases plA y <;>rfl
  | u::v::w::l=>
   have e:((Int.ofNat (u::v::w::l).length)==(2:Int))=false:=by rw [beq_eq_false_iff_ne]; simp; omega
   simp only [e];cases plA y <;>rfl
 simp only [h1,decide_false,cond_false,if_false];by_cases h2:y.Kind=2
 ·simp only [h2,decide_true,cond_true,if_true]
  match hl:y.Ag with
  | []=>cases plA y <;>rfl
  | [u]=>
   have e:=hC u (by rw [hl]; simp)
   have eV:V u=true:=by
    rw [hl] at hA;unfold zqd at hA;simp at hA;exact hA.1
   simp only [List.getD,qf,List.length_nil,Int.toNat_zero,List.getElem?_cons_zero,Option.getD,zGi,z48,e,hV u eV]
   match u with
   | []=>cases plA y <;>rfl
   | [t]=>
    have e1:zB6 [t]=(t.Fs.length==0):=by simp [zB6]
    have e2:isC [t]=(t.Fs.length==0):=rfl;rw [e1,e2];cases plA y <;>cases (t.Fs.length==0) <;>cases isU [t] <;>rfl
   | t::s::r=>
    simp only [zTE];cases plA y <;>rfl
  | u::v::l=>
   simp only [zTE];cases plA y <;>rfl
 simp only [h2,decide_false,cond_false,if_false];by_cases h3:y.Kind=3
 ·simp only [h3,decide_true,cond_true,if_true]
  match hl:y.Ag with
  | []=>cases plA y <;>rfl
  | [u]=>
   have e:=hC u (by rw [hl]; simp)
   simp only [List.getD,qf,List.length_nil,Int.toNat_zero,List.getElem?_cons_zero,Option.getD,zGi];simp only [e];cases plA y <;>cases zB6 u <;>rfl
  | u::v::l=>
   simp only [zTE];cases plA y <;>rfl
 simp only [h3,decide_false,cond_false,if_false];by_cases h4:y.Kind=4
 ·have e10:decide (Int.ofNat y.Items.length>(1024:Int))=false:=by simp; omega
  rw [hS _ (by omega)]
  rw [e10];simp only [h4,decide_true,cond_true,if_true,cond_false];rw [show (Int.ofNat y.Ag.length != (0:Int))= !(y.Ag.length==0) from congrArg not (zDq y.Ag.length 0),show (Int.ofNat y.Items.length==(0:Int))=(y.Items.length==0) from zDq y.Items.length 0]
  have e11:decide (0<y.Items.length)= !(y.Items.length==0):=by
   rw [zbaq];by_cases h:y.Items.length=0
   ·simp [h]
   ·have:0<y.Items.length:=by omega
    simp [h,this]
  rw [e11];cases (y.Ag.length==0) <;>cases (y.Items.length==0) <;>cases zEd y.Func y.Items y.Op y.Bd <;>cases zCE V y.Items <;>cases z1Z y.Items <;>rfl
 simp only [h4,decide_false,cond_false,if_false]
end
section
variable (V:yC->Bool) (vat:At->Bool)
theorem V_9 (g:At->Bool×Bool) (a t10:yC) (t11 t12:Int) (t:Term) {d:Nat} (ht:zgv (zF d) t.Fs) (hd:d<=99) (hg:∀ f∈t.Fs,g f.At=(true,vat f.At)) (n:Nat) (hn:t.Fs.length<n):
  zuX g n a t10 t11 t12 t.Fs t.Fs.length 0 t=(true,bif okF vat t.Fs then .inr (a,t10,t11,t12) else .inl false):=by
 have hl:=ht.1
 exact zj2 (W:=zux g) (z:=.inl default) t.Fs.length (λk=>(a,(),t10,t11,t12,t.Fs,(t.Fs.length:Int),(k:Int),())) (λ_=>(t,())) (zPb vat t.Fs) (.inl false) (.inr (a,t10,t11,t12))
  (λk hk H K D=>by
   show (zjT g a t10 t11 t12 t.Fs t.Fs.length k t).ev H K D=_;unfold zjT zPb
   have hgt:decide ((k:Int)>0)= !decide (k=0):=by
    by_cases h:k=0
    ·subst h; rfl
    ·have:0<k:=by omega
     simp [h,this]
   simp only [At.eta,Wy.ev_i,Wy.ev_k,Wy.ev_h,Wy.ev_bn,Wy.ev_d,tT,hk,zbbf,hg _ (zR hk),hgt];rw [zV (by omega)]
   have e1:decide ((t.Fs.getD k default).Exp<1)= !decide (1<=(t.Fs.getD k default).Exp):=by
    by_cases h:1<=(t.Fs.getD k default).Exp
    ·have:¬ (t.Fs.getD k default).Exp<1:=by omega
     simp only [h,this,decide_true,decide_false,Bool.not_true]
    ·have:(t.Fs.getD k default).Exp<1:=by omega
     simp only [h,this,decide_true,decide_false,Bool.not_false]
   rw [e1];generalize decide (1<=(t.Fs.getD k default).Exp)=E1;generalize ((t.Fs.getD k default).Exp != 1)=E2;generalize ((t.Fs.getD k default).At.Kind==3||(t.Fs.getD k default).At.Kind==4)=E3;by_cases h0:k=0
   ·simp only [h0,decide_true,Bool.not_true,cond_false,Bool.true_or,Bool.and_true];cases E1 <;>cases E2 <;>cases E3 <;>cases vat (t.Fs.getD 0 default).At <;>rfl
   ·have hp:IntKind.i64.wrap ((k:Int) - 1)=((k - 1:Nat):Int):=zm3 (by omega) (by omega)
    have hk':k - 1<t.Fs.length:=by omega
    have hfx:zex (zF d) (t.Fs.getD (k - 1) default).At:=ht.2 _ (zR hk')
    have e2:∀ z:Int,decide (z≥0)= !decide (z<0):=λz=>by
     by_cases h:z<0
     ·have:¬ z≥0:=by omega
      simp [h,this]
     ·have:z≥0:=by omega
      simp [h,this]
    simp only [h0,hp,tT,hk',zIo hfx hd,e2,Bool.false_or];generalize decide (zbL (zfg (t.Fs.getD (k - 1) default).At) (zfg (t.Fs.getD k default).At)<0)=E4;cases E1 <;>cases E2 <;>cases E3 <;>cases E4 <;>cases vat (t.Fs.getD k default).At <;>rfl)
  (λH K D=>by
   show (zjT g a t10 t11 t12 t.Fs t.Fs.length t.Fs.length t).ev H K D=_;unfold zjT;simp only [Wy.ev_i,Wy.ev_k,tT,Nat.lt_irrefl]) n hn
theorem V_4 (g:At->Bool×Bool) (a:yC) {d:Nat} (h:zF (d+1) a) (hd:d<=99) (hg:∀ t∈a,∀ f∈t.Fs,g f.At=(true,vat f.At)) (n:Nat) (hn:a.length<n):
  zCc g n a a a.length 0=(true,bif zjI (zC3 vat a) a.length 0 then .inr () else .inl false):=by
 have hl:=h.1
 exact zj2 (W:=zuM g) (z:=.inl default) a.length (λk=>(a,a,(a.length:Int),(k:Int),())) (λ_=>()) (zC3 vat a) (.inl false) (.inr ())
  (λk hk H K D=>by
   show (zj0 g a a a.length k).ev H K D=_;unfold zj0 zC3;have ht:=h.2 _ (zR hk)
   have hgt:decide ((k:Int)>0)= !decide (k=0):=by
    by_cases h:k=0
    ·subst h; rfl
    ·have:0<k:=by omega
     simp [h,this]
   simp only [At.eta,Wy.ev_i,Wy.ev_k,Wy.ev_h,Wy.ev_bn,Wy.ev_d,tT,hk,hgt];rw [V_9 vat g a a a.length k _ ht hd (hg _ (zR hk)) _ (by omega)]
   have e1:decide ((a.getD k default).Cf<1)= !decide (1<=(a.getD k default).Cf):=by
    by_cases h:1<=(a.getD k default).Cf
    ·have:¬ (a.getD k default).Cf<1:=by omega
     simp only [h,this,decide_true,decide_false,Bool.not_true]
    ·have:(a.getD k default).Cf<1:=by omega
     simp only [h,this,decide_true,decide_false,Bool.not_false]
   have e3:decide ((a.getD k default).Cf>1152921504606846976)= !decide ((a.getD k default).Cf<=1152921504606846976):=by
    by_cases h:(a.getD k default).Cf<=1152921504606846976
    ·have:¬ (a.getD k default).Cf>1152921504606846976:=by omega
     simp only [h,this,decide_true,decide_false,Bool.not_true]
    ·have:(a.getD k default).Cf>1152921504606846976:=by omega
     simp only [h,this,decide_true,decide_false,Bool.not_false]
   rw [e1,e3];generalize decide (1<=(a.getD k default).Cf)=E1;generalize decide ((a.getD k default).Cf<=1152921504606846976)=E2;by_cases h0:k=0
   ·subst h0;simp only [decide_true,Bool.not_true,cond_false,Bool.true_or,Bool.and_true];cases okF vat (a.getD 0 default).Fs <;>cases E1 <;>cases E2 <;>try rfl
   ·have hp:IntKind.i64.wrap ((k:Int) - 1)=((k - 1:Nat):Int):=zm3 (by omega) (by omega)
    have hk':k - 1<a.length:=by omega
    have hfx:zgv (zF d) (a.getD (k - 1) default).Fs:=h.2 _ (zR hk')
    have e2:∀ z:Int,decide (z≥0)= !decide (z<0):=λz=>by
     by_cases h:z<0
     ·have:¬ z≥0:=by omega
      simp [h,this]
     ·have:z≥0:=by omega
      simp [h,this]
    simp only [h0,hp,tT,hk',zIA hfx hd,e2,Bool.false_or];generalize decide (zbO (zb0 (a.getD (k - 1) default).Fs) (zb0 (a.getD k default).Fs)<0)=E4;cases okF vat (a.getD k default).Fs <;>cases E1 <;>cases E2 <;>cases E4 <;>try rfl
    simp only [cond_true,cond_false,Bool.not_true,isL,getR,Bool.and_self];rw [zV (by omega),decide_eq_false (show ¬ ((k - 1:Nat):Int)<0 by omega)]; rfl)
  (λH K D=>by
   show (zj0 g a a a.length a.length).ev H K D=_;unfold zj0;simp only [Wy.ev_i,Wy.ev_k,tT,Nat.lt_irrefl]) n hn
theorem zbcC (g:At->Bool×Bool) (a:yC) {d:Nat} (h:zF (d+1) a) (hd:d<=99) (hs:zX a<=4611686018427387904) (hg:∀ t∈a,∀ f∈t.Fs,g f.At=(true,vat f.At)):zmQ g a=(true,zAF vat a):=by
 unfold zmQ zEe zAF;have:=V_4 vat g a h hd hg (a.length+a.length+(Int.ofNat a.length).toNat +Int.toNat (0:Int)+(1:Nat)) (by omega)
 rw [show Int.ofNat a.length=(a.length:Int) from rfl] at *
 simp only [Wy.fin_i,Wy.fin_k,Wy.fin_bn,zbdm h (by omega) hs,this,cond_true]
 cases zmq a <;>cases zjI (zC3 vat a) a.length 0 <;>rfl
theorem zbh5 (g:At->Bool×Bool) (a:yC) (i:Int) (t:Term) {d:Nat} (ht:zgv (zF d) t.Fs) (hd:d<=99) (hg:∀ f∈t.Fs,g f.At=(true,vat f.At)) (hk:∀ x,vat x=true->0<=x.Kind/\x.Kind<=4) (n:Nat) (hn:t.Fs.length<n):
  zAJ g n a i 0 t=(true,bif okF vat t.Fs then .inr (a,i) else .inl false):=by
 have hl:=ht.1
 exact zj2 (W:=zAP g) (z:=.inl default) t.Fs.length (λk=>(a,i,(),(k:Int),())) (λ_=>(t,())) (zPb vat t.Fs) (.inl false) (.inr (a,i))
  (λk hk1 H K D=>by
   show (znV g a i k t).ev H K D=_;unfold znV zPb
   have hgt:decide ((k:Int)>0)= !decide (k=0):=by
    by_cases h:k=0
    ·subst h; rfl
    ·have:0<k:=by omega
     simp [h,this]
   simp only [At.eta,Wy.ev_i,Wy.ev_k,Wy.ev_h,Wy.ev_bn,Wy.ev_d,tT,hk1,hg _ (zR hk1),hgt];rw [zV (by omega)]
   have hk2:=hk (t.Fs.getD k default).At
   have e1:decide ((t.Fs.getD k default).Exp<1)= !decide (1<=(t.Fs.getD k default).Exp):=by
    by_cases h:1<=(t.Fs.getD k default).Exp
    ·have:¬ (t.Fs.getD k default).Exp<1:=by omega
     simp only [h,this,decide_true,decide_false,Bool.not_true]
    ·have:(t.Fs.getD k default).Exp<1:=by omega
     simp only [h,this,decide_true,decide_false,Bool.not_false]
   rw [e1];by_cases hx1:1<=(t.Fs.getD k default).Exp
   rotate_left
   ·simp only [hx1,decide_false,Bool.not_false,cond_true,Bool.false_and,cond_false]
   cases hv:vat (t.Fs.getD k default).At with
   | false=>
    rw [Bool.and_false];cases decide (1<=(t.Fs.getD k default).Exp) <;>cases decide ((t.Fs.getD k default).Exp>1) <;>cases decide ((t.Fs.getD k default).At.Kind≥3) <;>rfl
   | true=>
   obtain ⟨k1,k2⟩:=hk2 hv
   have e5:((t.Fs.getD k default).At.Kind==3||(t.Fs.getD k default).At.Kind==4)=decide ((t.Fs.getD k default).At.Kind≥3):=by
    rw [zuP,zuP, <- Bool.decide_or];congr 1;apply propext; omega
   have e6:((t.Fs.getD k default).Exp != 1)=decide ((t.Fs.getD k default).Exp>1):=by
    rw [zS6, <- decide_not];congr 1;apply propext; omega
   rw [e5,e6];simp only [hx1,decide_true,Bool.not_true,cond_false,Bool.true_and];generalize decide ((t.Fs.getD k default).Exp>1)=E2;generalize decide ((t.Fs.getD k default).At.Kind≥3)=E3;by_cases h0:k=0
   ·simp only [h0,decide_true,Bool.not_true,cond_false,Bool.true_or,Bool.and_true];cases E2 <;>cases E3 <;>rfl
   ·have hp:IntKind.i64.wrap ((k:Int) - 1)=((k - 1:Nat):Int):=zm3 (by omega) (by omega)
    have hk':k - 1<t.Fs.length:=by omega
    have hfx:zex (zF d) (t.Fs.getD (k - 1) default).At:=ht.2 _ (zR hk')
    have e2:∀ z:Int,decide (z≥0)= !decide (z<0):=λz=>by
     by_cases h:z<0
     ·have:¬ z≥0:=by omega
      simp [h,this]
     ·have:z≥0:=by omega
      simp [h,this]
    simp only [h0,hp,tT,hk',zTg hfx hd,e2,Bool.false_or];generalize decide (zbL (zfg (t.Fs.getD (k - 1) default).At) (zfg (t.Fs.getD k default).At)<0)=E4;cases E2 <;>cases E3 <;>cases E4 <;>rfl)
  (λH K D=>by
   show (znV g a i t.Fs.length t).ev H K D=_;unfold znV;simp only [Wy.ev_i,Wy.ev_k,tT,Nat.lt_irrefl]) n hn
theorem zbil (g:At->Bool×Bool) (a:yC) {d:Nat} (h:zF (d+1) a) (hd:d<=99) (hg:∀ t∈a,∀ f∈t.Fs,g f.At=(true,vat f.At)) (hk:∀ x,vat x=true->0<=x.Kind/\x.Kind<=4) (n:Nat) (hn:a.length<n):
  zLb g n a 0=(true,bif zjI (zC3 vat a) a.length 0 then .inr () else .inl false):=by
 have hl:=h.1
 exact zj2 (W:=zBP g) (z:=.inl default) a.length (λk=>(a,(k:Int),())) (λ_=>()) (zC3 vat a) (.inl false) (.inr ())
  (λk hk1 H K D=>by
   show (zqo g a k).ev H K D=_;unfold zqo zC3;have ht:=h.2 _ (zR hk1)
   have hgt:decide ((k:Int)>0)= !decide (k=0):=by
    by_cases h:k=0
    ·subst h; rfl
    ·have:0<k:=by omega
     simp [h,this]
   simp only [At.eta,Wy.ev_i,Wy.ev_k,Wy.ev_h,Wy.ev_bn,Wy.ev_d,tT,hk1,hgt];rw [zbh5 vat g a k _ ht hd (hg _ (zR hk1)) hk _ (by omega)]
   have e1:decide ((a.getD k default).Cf<1)= !decide (1<=(a.getD k default).Cf):=by
    by_cases h:1<=(a.getD k default).Cf
    ·have:¬ (a.getD k default).Cf<1:=by omega
     simp only [h,this,decide_true,decide_false,Bool.not_true]
    ·have:(a.getD k default).Cf<1:=by omega
     simp only [h,this,decide_true,decide_false,Bool.not_false]
   have e3:decide ((a.getD k default).Cf>1152921504606846976)= !decide ((a.getD k default).Cf<=1152921504606846976):=by
    by_cases h:(a.getD k default).Cf<=1152921504606846976
    ·have:¬ (a.getD k default).Cf>1152921504606846976:=by omega
     simp only [h,this,decide_true,decide_false,Bool.not_true]
    ·have:(a.getD k default).Cf>1152921504606846976:=by omega
     simp only [h,this,decide_true,decide_false,Bool.not_false]
   rw [e1,e3];generalize decide (1<=(a.getD k default).Cf)=E1;generalize decide ((a.getD k default).Cf<=1152921504606846976)=E2;by_cases h0:k=0
   ·subst h0;simp only [decide_true,Bool.not_true,cond_false,Bool.true_or,Bool.and_true];cases okF vat (a.getD 0 default).Fs <;>cases E1 <;>cases E2 <;>try rfl
   ·have hp:IntKind.i64.wrap ((k:Int) - 1)=((k - 1:Nat):Int):=zm3 (by omega) (by omega)
    have hk':k - 1<a.length:=by omega
    have hfx:zgv (zF d) (a.getD (k - 1) default).Fs:=h.2 _ (zR hk')
    have e2:∀ z:Int,decide (z≥0)= !decide (z<0):=λz=>by
     by_cases h:z<0
     ·have:¬ z≥0:=by omega
      simp [h,this]
     ·have:z≥0:=by omega
      simp [h,this]
    simp only [h0,hp,tT,hk',zMZ hfx hd,e2,Bool.false_or];generalize decide (zbO (zb0 (a.getD (k - 1) default).Fs) (zb0 (a.getD k default).Fs)<0)=E4;cases okF vat (a.getD k default).Fs <;>cases E1 <;>cases E2 <;>cases E4 <;>try rfl
    simp only [cond_true,cond_false,Bool.not_true,isL,getR,Bool.and_self];rw [zV (by omega),decide_eq_false (show ¬ ((k - 1:Nat):Int)<0 by omega)]; rfl)
  (λH K D=>by
   show (zqo g a a.length).ev H K D=_;unfold zqo;simp only [Wy.ev_i,Wy.ev_k,tT,Nat.lt_irrefl]) n hn
theorem zbaL (g:At->Bool×Bool) (a:yC) {d:Nat} (h:zF (d+1) a) (hd:d<=99) (hs:zX a<=4611686018427387904) (hg:zmq a=true->∀ t∈a,∀ f∈t.Fs,g f.At=(true,vat f.At)) (hk:∀ x,vat x=true->0<=x.Kind/\x.Kind<=4):zxi g a=(true,zAF vat a):=by
 unfold zxi zN7 zAF;rw [Wy.fin_bn,zbfM h (by omega) hs]
 cases hw:zmq a with
 | false=>rfl
 | true=>
  have:=zbil vat g a h hd (hg hw) hk ((a.length+Int.toNat (0:Int)+(1:Nat))+zdR a) (by omega)
  simp only [Wy.fin_i,Wy.fin_k,Wy.fin_bn,this,cond_true];cases zjI (zC3 vat a) a.length 0 <;>rfl
end
theorem z0K {l:yA} {a:yC} (h:a∈l):zX a<=zfb l:=by
 induction l with
 | nil=>cases h
 | cons b r ih=>
  rw [zhD];rcases qd.1 h with rfl | h
  ·omega
  ·have:=ih h; omega
theorem zXj {l:yE} {w:Wd} (h:w∈l):zX w.Ann<=zdI l:=by
 induction l with
 | nil=>cases h
 | cons b r ih=>
  rw [zjC];rcases qd.1 h with rfl | h
  ·omega
  ·have:=ih h; omega
theorem zbaz {m:Nat} {a:yC} (h:zde m a=true):isB a=isU a:=by
 cases m with
 | zero=>cases h
 | succ m=>
 match a with
 | []=>rfl
 | [t]=>
  simp only [zde,zAF,qc] at h;have h1:=zl7.1 h.2 0 (by omega) (by simp)
  simp only [zC3,qc] at h1;have h2:=h1.2;obtain ⟨c,fs⟩:=t
  match fs with
  | []=>rfl
  | [f]=>
   have h3:=zl7.1 h2 0 (by omega) (by simp)
   simp only [zPb,qc] at h3;have h4:=zDB h3.2;simp only [List.getD_cons_zero] at h4;show (c==1&&(f.Exp==1&&decide (2<=f.At.Kind)))=(c==1&&(f.Exp==1&&(f.At.Kind==2||f.At.Kind==3||f.At.Kind==4)))
   have e:decide (2<=f.At.Kind)=(f.At.Kind==2||f.At.Kind==3||f.At.Kind==4):=by
    rw [zuP,zuP,zuP, <- Bool.decide_or, <- Bool.decide_or];congr 1;apply propext; omega
   rw [e]
  | f::f'::r=>rfl
 | t::u::r=>rfl
theorem zbhW (g) (l:yA):zcE g l=IG (λ(_:Unit) x=>g x) (l.length+(Int.ofNat l.length).toNat +Int.toNat (0:Int)+(1:Nat)) () l:=rfl
theorem zbhG (g) (l:yE):zc2 g l=IG (λ(_:Unit) x=>g x) (l.length+(Int.ofNat l.length).toNat +Int.toNat (0:Int)+(1:Nat)) () l:=rfl
theorem zNW:∀ n,
  (∀ d m a,zF d a->10*d<=n->d<=m->d<=100->zX a<=4611686018427387904->zj4 n a=(true,zde m a))/\
  (∀ d m x,zex (zF d) x->10*d+9<=n->d<=m->d<=99->zj3 x<=4611686018427387904->zmv n x=(true,zij (zde m) x))/\
  (∀ d m a,zF d a->10*d+6<=n->d<=m->d<=99->zX a<=4611686018427387904->zfc n a=(true, !(zde m a&& !(a.length==0))))/\
  (∀ d m (w:Wd),zF d w.Ann->10*d+6<=n->d<=m->d<=99->zX w.Ann<=4611686018427387904->zfe n w=(true, !(zde m w.Ann&& !(w.Ann.length==0))))/\
  (∀ d m (l:yA),l.length<=1000000->(∀ a∈l,zF d a/\zX a<=4611686018427387904)->10*d+7<=n->d<=m->d<=99->zcD n l=(true,ixf (λa=> !(zde m a&& !(a.length==0))) l 0))/\
  (∀ d m (l:yA),l.length<=1000000->(∀ a∈l,zF d a/\zX a<=4611686018427387904)->10*d+8<=n->d<=m->d<=99->zcn n l=(true, !zqd (zde m) l))/\
  (∀ d m (l:yE),l.length<=1000000->(∀ a∈l,zF d a.Ann/\zX a.Ann<=4611686018427387904)->10*d+7<=n->d<=m->d<=99->zc7 n l=(true,ixf (λa=> !(zde m a.Ann&& !(a.Ann.length==0))) l 0))/\
  (∀ d m (l:yE),l.length<=1000000->(∀ a∈l,zF d a.Ann/\zX a.Ann<=4611686018427387904)->10*d+8<=n->d<=m->d<=99->zcM n l=(true, !zCE (zde m) l))
 | 0=>by
  refine ⟨?_, ?_, ?_, ?_, ?_, ?_, ?_, ?_⟩
  ·intro d m a h hd; have:d=0:=by omega
   subst this; exact h.elim
  all_goals (intros; omega)
 | n+1=>by
  obtain ⟨h1,h2,h3,h4,h5,h6,h7,h8⟩:=zNW n;refine ⟨?_, ?_, ?_, ?_, ?_, ?_, ?_, ?_⟩
  ·intro d m a h hd hm hd2 hs;cases d with
   | zero=>exact h.elim
   | succ d=>
    cases m with
    | zero=>omega
    | succ m=>
     rw [zQ4]
     exact zbcC _ _ a h (by omega) hs λt ht f hf=>h2 d m f.At ((h.2 t ht).2 f hf) (by omega) (by omega) (by omega) (by
      have:=z6j ht hf; rw [zjy]; omega)
  ·intro d m x h hd hm hd2 hs;rw [zKk];rw [zjy] at hs
   exact z6V _ _ _ _ _ x h hd2 (h6 d m _ h.1.1 (λa ha=>⟨h.2.1 a ha,by have:=z0K ha; omega⟩) (by omega) hm hd2)
    (h8 d m _ h.1.2.1 (λa ha=>⟨(h.2.2 a ha).2,by have:=zXj ha; omega⟩) (by omega) hm hd2)
  ·intro d m a h hd hm hd2 hs;rw [zFG];unfold zke zvQ;rw [Wy.fin_bn,h1 d m a h (by omega) hm (by omega) hs]
   simp only [cond_true,Wy.fin_i,Wy.fin_k,show (Int.ofNat a.length==(0:Int))=(a.length==0) from zDq a.length 0]
   cases zde m a <;>simp
  ·intro d m a h hd hm hd2 hs;rw [zFM];unfold zkf zvK;rw [Wy.fin_bn,h1 d m a.Ann h (by omega) hm (by omega) hs]
   simp only [cond_true,Wy.fin_i,Wy.fin_k,show (Int.ofNat a.Ann.length==(0:Int))=(a.Ann.length==0) from zDq a.Ann.length 0]
   cases zde m a.Ann <;>simp
  ·intro d m l hl h hd hm hd2;rw [zmf,zbhW];exact zS5 _ _ _ _ _ (by omega) (λx hx=>h3 d m x (h x hx).1 (by omega) hm hd2 (h x hx).2) (by omega)
  ·intro d m l hl h hd hm hd2;rw [zlp];unfold zcp zfm;rw [zpa (h5 d m l hl h (by omega) hm hd2)]
   simp [zqd,List.all_eq_not_any_not]
  ·intro d m l hl h hd hm hd2;rw [zoe,zbhG];exact zS5 _ _ _ _ _ (by omega) (λx hx=>h4 d m x (h x hx).1 (by omega) hm hd2 (h x hx).2) (by omega)
  ·intro d m l hl h hd hm hd2;rw [zmy];unfold zcL zgk;rw [zpa (h7 d m l hl h (by omega) hm hd2)]
   simp [zCE,List.all_eq_not_any_not]
theorem zbaW {a:yC} (h:zmq a=true) {t:Term} (ht:t∈a) {f:Fc} (hf:f∈t.Fs):f.At.Items.length<=1024/\f.Exp<=64/\t.Fs.length<=64:=by
 simp only [zmq,qc,List.all_eq_true] at h;have:=h.2 t ht;simp only [zBJ,Bool.not_eq_true',Bool.or_eq_false_iff,decide_eq_false_iff_not,List.any_eq_false] at this;have h2:=this.2 f hf;simp at h2;omega
theorem z3u:∀ n,
  (∀ d m a,zF d a->3*d<=n->d<=m->d<=100->zX a<=4611686018427387904->zxc n a=(true,zde m a))/\
  (∀ d m x,zex (zF d) x->3*d+2<=n->d<=m->d<=99->zj3 x<=4611686018427387904->x.Items.length<=1024->zuf n x=(true,zij (zde m) x))
 | 0=>by
  refine ⟨?_, ?_⟩
  ·intro d m a h hd; have:d=0:=by omega
   subst this; exact h.elim
  ·intros; omega
 | n+1=>by
  obtain ⟨h1,h2⟩:=z3u n;refine ⟨?_, ?_⟩
  ·intro d m a h hd hm hd2 hs;cases d with
   | zero=>exact h.elim
   | succ d=>
    cases m with
    | zero=>omega
    | succ m=>
     rw [z11]
     exact zbaL _ _ a h (by omega) hs (λhw t ht f hf=>h2 d m f.At ((h.2 t ht).2 f hf) (by omega) (by omega) (by omega) (by
      have:=z6j ht hf; rw [zjy]; omega) (zbaW hw ht hf).1) λx hx=>zDB hx
  ·intro d m x h hd hm hd2 hs h10;rw [zSY];rw [zjy] at hs
   exact z41 _ _ x h hd2 h10 (λa ha=>zbaz ha) (λa ha=>h1 d m a (h.2.1 a ha) (by omega) hm (by omega) (by have:=z0K ha; omega))
    λa ha=>h1 d m a.Ann (h.2.2 a ha).2 (by omega) hm (by omega) (by have:=zXj ha; omega)
def zdM (a:yC):Bool:=zde 100 a
theorem zbdi {d:Nat} {a:yC} (h:zF d a) (hd:d<=100) (hs:zX a<=4611686018427387904):zb7 a=(true,zdM a):=(zNW 1000).1 d 100 a h (by omega) hd hd hs
theorem zbcT {d:Nat} {a:yC} (h:zF d a) (hd:d<=100) (hs:zX a<=4611686018427387904):zBe a=(true,zdM a):=(z3u 1000).1 d 100 a h (by omega) hd hd hs
theorem z1a {τ:Type} [Inhabited τ] {l:List τ} {x:τ} (h:x∈l):∃ i,i<l.length/\l.getD i default=x:=by
 obtain ⟨i,hi,e⟩:=List.mem_iff_getElem.1 h;exact ⟨i,hi,by rw [List.getD_eq_getElem?_getD,List.getElem?_eq_getElem hi]; exact e⟩
theorem zX3 {vat:At->Bool} {a:yC} (h:zAF vat a=true):zmq a=true:=by
 simp only [zAF,qc] at h; exact h.1
theorem zHr {vat:At->Bool} {a:yC} (h:zAF vat a=true) {t:Term} (ht:t∈a):(1<=t.Cf/\t.Cf<=1152921504606846976)/\okF vat t.Fs=true:=by
 simp only [zAF,qc] at h;obtain ⟨i,hi,rfl⟩:=z1a ht;have:=zl7.1 h.2 i (by omega) (by omega)
 simp only [zC3,qc,qe] at this;exact ⟨this.1.1,this.2⟩
theorem zDf {vat:At->Bool} {fs:yD} (h:okF vat fs=true) {f:Fc} (hf:f∈fs):(1<=f.Exp/\(f.At.Kind=3\/f.At.Kind=4->f.Exp=1))/\vat f.At=true:=by
 obtain ⟨i,hi,rfl⟩:=z1a hf;have:=zl7.1 h i (by omega) (by omega)
 simp only [zPb,qc,qe] at this;refine ⟨⟨this.1.1.1,λhk=> ?_⟩,this.2⟩
 have h2:=this.1.1.2;rcases hk with hk | hk
 ·rw [hk] at h2; simpa using h2
 ·rw [hk] at h2; simpa using h2
theorem zbfy {b:Value} (h:bz b=true):b=⟨0,0,ByteArray.mk #[]⟩:=by
 unfold bz at h;rw [zWw] at h;simp only [qc,beq_iff_eq,qe,and_true] at h;obtain ⟨k,i,t⟩:=b;simp only at h;obtain ⟨rfl,rfl,rfl⟩:=h;rfl
theorem zCD {v:Value} (h:zxJ v=true):v.Text.size<=255:=by
 simp only [zxJ,Bool.or_eq_true,qc,beq_iff_eq,qe] at h;omega
theorem zTB {x:At} (h:plA x=true):x.Func=0/\x.Items=[]/\x.Op=0/\x.Bd=⟨0,0,ByteArray.mk #[]⟩:=by
 simp only [plA,qc,beq_iff_eq] at h;exact ⟨h.1.1.1,List.length_eq_zero_iff.1 h.1.1.2,h.1.2,zbfy h.2⟩
theorem zbfE {r:RowID} (h:rz r=true):r=⟨0,0⟩:=by
 simp only [rz,qc,beq_iff_eq,and_true] at h;obtain ⟨t,s⟩:=r;simp only at h;obtain ⟨rfl,rfl⟩:=h; rfl
inductive VA (V:yC->Bool):At->Prop
 | var (r:RowID) (h:zJw r=true):VA V ⟨0,r,[],0,[],0,⟨0,0,ByteArray.mk #[]⟩⟩
 | mon (a b:yC) (ha:V a=true) (hb:V b=true) (ha0:a≠[]) (hb0:b≠[]) (h:a≠b):VA V ⟨1,⟨0,0⟩,[a,b],0,[],0,⟨0,0,ByteArray.mk #[]⟩⟩
 | del (a:yC) (ha:V a=true) (ha0:a≠[]) (h:isC a=false) (h':isU a=false):VA V ⟨2,⟨0,0⟩,[a],0,[],0,⟨0,0,ByteArray.mk #[]⟩⟩
 | abs (a:yC) (ha:V a=true) (ha0:a≠[]) (h:zB6 a=false):VA V ⟨3,⟨0,0⟩,[a],0,[],0,⟨0,0,ByteArray.mk #[]⟩⟩
 | tst (f:Int) (l:yE) (o:Int) (b:Value) (hl:l≠[]) (hi:∀ w∈l,V w.Ann=true/\w.Ann≠[]) (hs:z1Z l=true) (hf:zEd f l o b=true):VA V ⟨4,⟨0,0⟩,[],f,l,o,b⟩
theorem zjO {V:yC->Bool} {x:At}:zij V x=true↔VA V x:=by
 constructor
 ·intro h;have hk:=zDB h;obtain ⟨k,r,l,f,its,o,b⟩:=x;simp only at hk;unfold zij at h;simp only [qc] at h;obtain ⟨h1,h2⟩:=h
  have ha:∀ a∈l,V a=true/\a≠[]:=λa ha=>by
   have:=List.all_eq_true.1 h1 a ha;simp only [qc,Bool.not_eq_true',beq_eq_false_iff_ne] at this;exact ⟨this.1,λe=>this.2 (by rw [e]; rfl)⟩
  by_cases h0:k=0
  ·subst h0;simp only [if_true,qc,beq_iff_eq] at h2;obtain ⟨e1,e2,e3,e4⟩:=zTB h2.1.1;simp only at e1 e2 e3 e4;subst e1 e2 e3 e4;obtain rfl:l=[]:=List.length_eq_zero_iff.1 h2.2;exact .var r h2.1.2
  simp only [h0,if_false,qc] at h2;obtain ⟨hr,h2⟩:=h2;have hr':=zbfE hr;subst hr';by_cases h0':k=1
  ·subst h0';simp only [if_true,qc] at h2;obtain ⟨e1,e2,e3,e4⟩:=zTB h2.1;simp only at e1 e2 e3 e4;subst e1 e2 e3 e4
   match l,h2.2,ha with
   | [a,b],h3,ha=>exact .mon a b (ha a (by simp)).1 (ha b (by simp)).1 (ha a (by simp)).2 (ha b (by simp)).2 (by simpa [z3s] using h3)
  simp only [h0',if_false] at h2;by_cases h2':k=2
  ·subst h2';simp only [if_true,qc] at h2;obtain ⟨e1,e2,e3,e4⟩:=zTB h2.1;simp only at e1 e2 e3 e4;subst e1 e2 e3 e4
   match l,h2.2,ha with
   | [a],h3,ha=>
    simp only [zGi,qc,Bool.not_eq_true'] at h3;exact .del a (ha a (by simp)).1 (ha a (by simp)).2 h3.1 h3.2
  simp only [h2',if_false] at h2;by_cases h3':k=3
  ·subst h3';simp only [if_true,qc] at h2;obtain ⟨e1,e2,e3,e4⟩:=zTB h2.1;simp only at e1 e2 e3 e4;subst e1 e2 e3 e4
   match l,h2.2,ha with
   | [a],h3,ha=>
    simp only [zGi,Bool.not_eq_true'] at h3;exact .abs a (ha a (by simp)).1 (ha a (by simp)).2 h3
  simp only [h3',if_false] at h2;have h4':k=4:=by omega
  subst h4';simp only [if_true,qc,beq_iff_eq,qe] at h2;obtain ⟨⟨⟨⟨h3,h4⟩,h5⟩,h6⟩,h7⟩:=h2;obtain rfl:l=[]:=List.length_eq_zero_iff.1 h3
  exact .tst f its o b (λe=>by rw [e] at h4; simp at h4) (λw hw=>by
   have:=List.all_eq_true.1 h5 w hw;simp only [qc,Bool.not_eq_true',beq_eq_false_iff_ne] at this;exact ⟨this.1,λe=>this.2 (by rw [e]; rfl)⟩) h6 h7
 ·intro h
  have ne:∀ a:yC,a≠[]->(a.length==0)=false:=λa ha=>by
   rw [beq_eq_false_iff_ne]; exact λe=>ha (List.length_eq_zero_iff.1 e)
  cases h with
  | var r h=>simp [zij,zqd,plA,bz,h]
  | mon a b ha hb ha0 hb0 h=>simp [zij,zqd,plA,bz,rz,z3s,ha,hb,ha0,hb0,h]
  | del a ha ha0 h h'=>simp [zij,zqd,plA,bz,rz,zGi,ha,ha0,h,h']
  | abs a ha ha0 h=>simp [zij,zqd,plA,bz,rz,zGi,ha,ha0,h]
  | tst f l o b hl hi hs hf=>
   have h1:zCE V l=true:=List.all_eq_true.2 λw hw=>by rw [(hi w hw).1,ne _ (hi w hw).2]; rfl
   have h2:0<l.length:=by
    cases l with
    | nil=>exact absurd rfl hl
    | cons x r=>simp
   simp [zij,zqd,rz,h1,hs,hf,h2]
theorem zJY {a:yC} (h:zmq a=true):a.length<=512/\zbB a<=8/\zX a<=4096/\∀ t∈a,t.Fs.length<=64/\∀ f∈t.Fs,f.Exp<=64/\f.At.Items.length<=1024:=by
 simp only [zmq,qc,List.all_eq_true,qe] at h;refine ⟨h.1.1.1,h.1.1.2,h.1.2,λt ht=> ?_⟩
 have:=h.2 t ht;simp only [zBJ,Bool.not_eq_true',Bool.or_eq_false_iff,decide_eq_false_iff_not,List.any_eq_false] at this;refine ⟨by omega,λf hf=> ?_⟩
 have h2:=this.2 f hf;simp at h2;omega
theorem z4W {a:yC} {t:Term} (h:t∈a):zdn t.Fs<=zbB a:=by
 induction a with
 | nil=>cases h
 | cons b r ih=>
  rw [zPn];rcases qd.1 h with rfl | h
  ·omega
  ·have:=ih h; omega
theorem zQB {l:yD} {f:Fc} (h:f∈l):znk f.At<=zdn l:=by
 induction l with
 | nil=>cases h
 | cons b r ih=>
  rw [zsD];rcases qd.1 h with rfl | h
  ·omega
  ·have:=ih h; omega
theorem zPg {l:yA} {a:yC} (h:a∈l):zbB a<=zl6 l:=by
 induction l with
 | nil=>cases h
 | cons b r ih=>
  rw [zC9];rcases qd.1 h with rfl | h
  ·omega
  ·have:=ih h; omega
theorem zbae {l:yE} {w:Wd} (h:w∈l):zbB w.Ann<=zku l:=by
 induction l with
 | nil=>cases h
 | cons b r ih=>
  rw [zBA];rcases qd.1 h with rfl | h
  ·omega
  ·have:=ih h; omega
theorem zC2 {f:Int} {l:yE} {o:Int} {b:Value} (h:zEd f l o b=true):(0<=f/\f<=3/\5<=o/\o<=10)/\zxJ b=true/\∀ w∈l,zxJ w.Value=true/\w.Value.Kind=b.Kind:=by
 simp only [zEd,qc,List.all_eq_true,qe] at h;obtain ⟨⟨⟨⟨⟨⟨h1,h2⟩,h3⟩,h4⟩,h5⟩,h6⟩,h7⟩:=h;refine ⟨⟨h1,h2,h3,h4⟩,h5,λw hw=> ?_⟩
 have:=h7 w hw;simp only [zLw,qc,beq_iff_eq] at this;exact this.1
theorem z4x:∀ (m:Nat) (a:yC),zde m a=true->zF (zbB a+1) a
 | 0,a,h=>by cases h
 | m+1,a,h=>by
  have hw:=zJY (zX3 h);refine ⟨by omega,λt ht=> ?_⟩
  obtain ⟨_,hok⟩:=zHr h ht;obtain ⟨h1,h2⟩:=hw.2.2.2 t ht;refine ⟨by omega,λf hf=> ?_⟩
  have hv:=zjO.1 (zDf hok hf).2;have hn:znk f.At<=zbB a:=Nat.le_trans (zQB hf) (z4W ht);have h3:=(h2 f hf).2;generalize f.At=x at hv hn h3;rw [zC7] at hn;have ih:∀ b,zde m b=true->zbB b+1<=zbB a->zF (zbB a) b:=λb hb hl=>(z4x m b hb).mono hl
  cases hv with
  | var r h=>exact ⟨⟨by simp,by simp,by show (ByteArray.mk #[]).size<=_; decide⟩,λa ha=>(by cases ha),λw hw=>(by cases hw)⟩
  | mon b c hb hc _ _ _=>
   simp only at hn;refine ⟨⟨by simp,by simp,by show (ByteArray.mk #[]).size<=_; decide⟩,λy hy=> ?_,λw hw=>(by cases hw)⟩
   have:=zPg hy;simp only at this;simp only [qd,List.not_mem_nil,or_false] at hy;rcases hy with rfl | rfl
   ·exact ih _ hb (by simp at hn; omega)
   ·exact ih _ hc (by simp at hn; omega)
  | del b hb _ _ _=>
   refine ⟨⟨by simp,by simp,by show (ByteArray.mk #[]).size<=_; decide⟩,λy hy=> ?_,λw hw=>(by cases hw)⟩
   have:=zPg hy;simp only at this;simp only [qd,List.not_mem_nil,or_false] at hy;subst hy;exact ih _ hb (by simp at hn; omega)
  | abs b hb _ _=>
   refine ⟨⟨by simp,by simp,by show (ByteArray.mk #[]).size<=_; decide⟩,λy hy=> ?_,λw hw=>(by cases hw)⟩
   have:=zPg hy;simp only at this;simp only [qd,List.not_mem_nil,or_false] at hy;subst hy;exact ih _ hb (by simp at hn; omega)
  | tst fn l o b hl hi hs hf=>
   obtain ⟨_,hb,hit⟩:=zC2 hf;refine ⟨⟨by simp,by simp only at h3 ⊢; omega,by have:=zCD hb; simp only; omega⟩,λy hy=>(by cases hy),λw hw=>⟨by have:=zCD (hit w hw).1; omega, ?_⟩⟩
   have:=zbae hw;simp only at this;exact ih _ (hi w hw).1 (by simp at hn; omega)
theorem zhN {m:Nat} {a:yC} (h:zde m a=true):zF 9 a/\zX a<=4096/\a.length<=512:=by
 cases m with
 | zero=>cases h
 | succ m=>
 have hw:=zJY (zX3 h);exact ⟨(z4x _ a h).mono (by omega),hw.2.2.1,hw.1⟩
theorem z7r {d m m':Nat} {a:yC} (h:zF d a) (hd:d<=100) (h1:d<=m) (h2:d<=m') (hs:zX a<=4611686018427387904):zde m a=zde m' a:=by
 have e1:=(zNW 1000).1 d m a h (by omega) h1 hd hs
 have e2:=(zNW 1000).1 d m' a h (by omega) h2 hd hs
 rw [e1] at e2;exact (Prod.mk.injEq _ _ _ _ ▸ e2).2
theorem zbea {m:Nat} {a:yC} (h:zde m a=true) (hm:9<=m):zdM a=true:=by
 obtain ⟨h1,h2,h3⟩:=zhN h;rw [<- h]; exact z7r h1 (by omega) (by omega) hm (by omega)
theorem z8T {m:Nat} {a:yC} (h:zdM a=true) (hm:9<=m):zde m a=true:=by
 obtain ⟨h1,h2,h3⟩:=zhN h;rw [<- h]; exact z7r h1 (by omega) hm (by omega) (by omega)
theorem VA.imp {V V':yC->Bool} (hV:∀ a,V a=true->V' a=true) {x:At} (h:VA V x):VA V' x:=by
 cases h with
 | var r h=>exact .var r h
 | mon a b ha hb ha0 hb0 h=>exact .mon a b (hV a ha) (hV b hb) ha0 hb0 h
 | del a ha ha0 h h'=>exact .del a (hV a ha) ha0 h h'
 | abs a ha ha0 h=>exact .abs a (hV a ha) ha0 h
 | tst f l o b hl hi hs hf=>exact .tst f l o b hl (λw hw=>⟨hV _ (hi w hw).1,(hi w hw).2⟩) hs hf
def zxK (x:At):Bool:=zij zdM x
theorem zbdO {m:Nat} (hm:9<=m):zij (zde m)=zxK:=by
 funext x
 rw [Bool.eq_iff_iff];unfold zxK;rw [zjO,zjO];exact ⟨VA.imp λa h=>zbea h hm,VA.imp λa h=>z8T h hm⟩
theorem z5j (a:yC):zdM a=zAF zxK a:=by
 show zAF (zij (zde 99)) a=_;rw [zbdO (by omega)]
section
variable (g:yC->Bool×yC) (gx:At->Bool×At)
end
section
variable (g:yC->Bool×yC)
end
def zOQ (a:yC):yC×Int:=bif zmq a then (a,0) else ([],6)
def zlo (x:At):yC:=[⟨1,[⟨x,1⟩]⟩]
theorem zVR {d:Nat} {x:At} (h:zex (zF d) x):zF (d+1) (zlo x):=by
 refine ⟨by simp [zlo],λt ht=> ?_⟩
 simp only [zlo,qh] at ht;subst ht;refine ⟨by simp,λf hf=> ?_⟩
 simp only [qh] at hf;subst hf; exact h
theorem z92 (x:At):zX (zlo x)=2+zj3 x:=by
 rw [zlo,zmu,zJX,zeL,zvd];simp only [List.length_singleton]; omega
end Go.Proofs.YtljlfiomikifjaaGreatDoor
end
