/- Texts of this claim, joined (the program, its functions in plain words, and what they compute). -/
import Derived.Test.YtljlfiomikifjaaGreatDoorGC7
set_option autoImplicit false
set_option linter.unusedVariables false
set_option linter.unusedSectionVars false
set_option linter.unusedSimpArgs false
set_option maxRecDepth 1000000
set_option maxHeartbeats 0
/- Small tests of annotations: searches, limits, kinds. -/
noncomputable section
namespace Go.Proofs.YtljlfiomikifjaaGreatDoor
open Go Go.Ab
def zeH (c:Nat->Bool):Nat->Nat->Bool
 | 0,_=>true
 | n+1,i=>c i&&zeH c n (i+1)
theorem zed {c:Nat->Bool}:∀ {n i},zeH c n i=true↔∀ k,i<=k->k<i+n->c k=true
 | 0,i=>⟨λ_ k h1 h2=>by omega,λ_=>rfl⟩
 | n+1,i=>by
  simp only [zeH,qc,zed (n:=n)];constructor
  ·rintro ⟨h1,h2⟩ k h3 h4
   by_cases e:k=i
   ·rw [e]; exact h1
   ·exact h2 k (by omega) (by omega)
  ·intro h;exact ⟨h i (by omega) (by omega),λk h1 h2=>h k (by omega) (by omega)⟩
theorem zbde (c c':Nat->Bool):∀ n i,zeH (λk=>c k&&c' k) n i=(zeH c n i&&zeH c' n i)
 | 0,_=>rfl
 | n+1,i=>by
  simp only [zeH,zbde c c' n (i+1)];cases c i <;>cases c' i <;>simp
theorem zbcK {τ:Type} [Inhabited τ] (p:τ->Bool) (l:List τ):∀ n i,i+n=l.length->zeH (λk=>p (l.getD k default)) n i=(l.drop i).all p
 | 0,i,h=>by rw [zc3 (by omega)]; rfl
 | n+1,i,h=>by
  rw [zby (by omega),List.all_cons]
  simp only [zeH,zbcK p l n (i+1) (by omega)]
theorem zB2 {τ:Type} [Inhabited τ] (p:τ->Bool) (l:List τ):zeH (λk=>p (l.getD k default)) l.length 0=l.all p:=by
 rw [zbcK p l _ _ (by omega),List.drop_zero]
section
variable {α β ρ:Type}
theorem zbcv {W:α->β->Wy α β ρ} {z:ρ} (N:Nat) (ex:Nat->α) (ey:Nat->β) (c:Nat->Bool) (no yes:ρ)
  (h:∀ i,i<N->∀ (H:α->β->Bool×ρ) K D,(W (ex i) (ey i)).ev H K D=bif c i then H (ex (i+1)) (ey (i+1)) else K no)
  (he:∀ (H:α->β->Bool×ρ) K D,(W (ex N) (ey N)).ev H K D=K yes):
  ∀ n i,N<i+n->i<=N->zC W z n (ex i) (ey i)=(true,bif zeH c (N - i) i then yes else no)
 | 0,i,h1,h2=>by omega
 | n+1,i,h1,h2=>by
  show (W (ex i) (ey i)).ev (zC W z n) (λr=>(true,r)) (false,z)=_
  by_cases hi:i<N
  ·rw [h i hi,show N - i=(N - (i+1))+1 by omega]
   simp only [zeH];cases c i with
   | false=>rfl
   | true=>rw [cond_true,zbcv N ex ey c no yes h he n (i+1) (by omega) (by omega)]; rfl
  ·have:i=N:=by omega
   subst this;rw [he,Nat.sub_self]; rfl
theorem zee {W:α->β->Wy α β ρ} {z:ρ} (N:Nat) (ex:Nat->α) (ey:Nat->β) (c:Nat->Bool) (no yes:ρ)
  (h:∀ i,i<N->∀ (H:α->β->Bool×ρ) K D,(W (ex i) (ey i)).ev H K D=bif c i then H (ex (i+1)) (ey (i+1)) else K no)
  (he:∀ (H:α->β->Bool×ρ) K D,(W (ex N) (ey N)).ev H K D=K yes) (n:Nat) (hn:N<n):zC W z n (ex 0) (ey 0)=(true,bif zeH c N 0 then yes else no):=by
 have:=zbcv (z:=z) N ex ey c no yes h he n 0 (by omega) (by omega)
 simpa using this
end
def ixf {α:Type} (p:α->Bool):List α->Nat->Int
 | [],_=> -1
 | x::r,i=>bif p x then (i:Int) else ixf p r (i+1)
theorem zbeG {α:Type} (p:α->Bool):∀ (l:List α) (i:Nat),decide (ixf p l i≥(0:Int))=l.any p
 | [],i=>by simp [ixf]
 | x::r,i=>by
  rw [List.any_cons];cases h:p x with
  | true=>simp [ixf,h]
  | false=>simpa [ixf,h] using zbeG p r (i+1)
section
variable {α γ:Type} [Inhabited α]
def z1A (p:γ->α->Bool×Bool) (s:List α) (g:γ) (t7:Int) (t8:Int):Wy (List α×γ×Int×Int×Unit) Unit (Int⊕Unit):=.i (decide (t8<t7)) (.i (decide ((0:Int)<=t8)&&decide (t8<Int.ofNat s.length)) (.bn (p g (s.getD t8.toNat default)) λr0=>.i (r0) (.k (.inl t8)) (.h (s,g,t7,(IntKind.i64.wrap (t8+(1:Int))),()) ())) .d) (.k (.inr ()))
def zVM (p:γ->α->Bool×Bool) (x:List α×γ×Int×Int×Unit) (y:Unit):Wy (List α×γ×Int×Int×Unit) Unit (Int⊕Unit):=z1A p x.1 x.2.1 x.2.2.1 x.2.2.2.1
def zbfR (p:γ->α->Bool×Bool) (n:Nat) (s:List α) (g:γ) (t7:Int) (t8:Int):Bool×(Int⊕Unit):=zC (zVM p) (.inl default) n (s,g,t7,t8,()) ()
def IG (p:γ->α->Bool×Bool) (n:Nat) (g:γ) (s:List α):Bool×Int:=(.bn (zbfR p n s g (Int.ofNat s.length) (0:Int)) λr2=>.i (isL r2) (.k (getL r2)) (.k (-1:Int)):Wy0 Int).fin default
def zbeT (p:γ->α->Bool×Bool) (s:List α) (g:γ) (t7:Int) (t8:Int):Wy (List α×γ×Int×Int×Unit) Unit (Int⊕Unit):=.i (decide (t8<t7)) (.i (decide ((0:Int)<=t8)&&decide (t8<Int.ofNat s.length)) (.i ((p g (s.getD t8.toNat default)).snd) (.k (.inl t8)) (.h (s,g,t7,(IntKind.i64.wrap (t8+(1:Int))),()) ())) .d) (.k (.inr ()))
def zblK (p:γ->α->Bool×Bool) (x:List α×γ×Int×Int×Unit) (y:Unit):Wy (List α×γ×Int×Int×Unit) Unit (Int⊕Unit):=zbeT p x.1 x.2.1 x.2.2.1 x.2.2.2.1
def zbfs (p:γ->α->Bool×Bool) (n:Nat) (s:List α) (g:γ) (t7:Int) (t8:Int):Bool×(Int⊕Unit):=zC (zblK p) (.inl default) n (s,g,t7,t8,()) ()
def IH (p:γ->α->Bool×Bool) (n:Nat) (g:γ) (s:List α):Bool×Int:=(.bn (zbfs p n s g (Int.ofNat s.length) (0:Int)) λr2=>.i (isL r2) (.k (getL r2)) (.k (-1:Int)):Wy0 Int).fin default
theorem zbed (p:γ->α->Bool×Bool) (P:α->Bool) (g:γ) (s:List α) (hs:s.length<=1000000000) (hp:∀ x∈s,p g x=(true,P x)):∀ (n i:Nat),s.length<i+n->i<=s.length->
  ∃ r,zbfR p n s g s.length i=(true,r)/\((r=.inl (ixf P (s.drop i) i))\/(r=.inr ()/\ixf P (s.drop i) i= -1))
 | 0,i,h,h2=>by omega
 | n+1,i,h,h2=>by
  show ∃ r,(z1A p s g s.length i).ev (λx y=>zbfR p n x.1 x.2.1 x.2.2.1 x.2.2.2.1) (λr=>(true,r)) (false,.inl default)=(true,r)/\_
  unfold z1A;by_cases hi:i<s.length
  ·simp only [Wy.ev_i,Wy.ev_k,Wy.ev_h,Wy.ev_bn,Wy.ev_d,tT,hi,hp _ (zp hi)];rw [zby hi,zL (by omega)]
   simp only [ixf];cases P (s.getD i default) with
   | true=>exact ⟨_,rfl,.inl rfl⟩
   | false=>exact zbed p P g s hs hp n (i+1) (by omega) (by omega)
  ·simp only [Wy.ev_i,Wy.ev_k,Wy.ev_h,Wy.ev_bn,Wy.ev_d,tT,hi,zc3 hi];exact ⟨_,rfl,.inr ⟨rfl,rfl⟩⟩
theorem zNP (p:γ->α->Bool×Bool) (P:α->Bool) (n:Nat) (g:γ) (s:List α) (hs:s.length<=1000000000) (hp:∀ x∈s,p g x=(true,P x)) (hn:s.length<n):IG p n g s=(true,ixf P s 0):=by
 unfold IG;obtain ⟨r,h1,h2⟩:=zbed p P g s hs hp n 0 (by omega) (by omega)
 rw [show ((0:Nat):Int)=(0:Int) from rfl] at h1
 rw [Wy.fin_bn,show Int.ofNat s.length=(s.length:Int) from rfl,h1]
 rw [List.drop_zero] at h2;rcases h2 with rfl | ⟨rfl,h2⟩
 ·rfl
 ·rw [h2]; rfl
theorem zben (p:γ->α->Bool×Bool) (P:α->Bool) (g:γ) (s:List α) (hs:s.length<=1000000000) (hp:∀ x∈s,p g x=(true,P x)):∀ (n i:Nat),s.length<i+n->i<=s.length->
  ∃ r,zbfs p n s g s.length i=(true,r)/\((r=.inl (ixf P (s.drop i) i))\/(r=.inr ()/\ixf P (s.drop i) i= -1))
 | 0,i,h,h2=>by omega
 | n+1,i,h,h2=>by
  show ∃ r,(zbeT p s g s.length i).ev (λx y=>zbfs p n x.1 x.2.1 x.2.2.1 x.2.2.2.1) (λr=>(true,r)) (false,.inl default)=(true,r)/\_
  unfold zbeT;by_cases hi:i<s.length
  ·simp only [Wy.ev_i,Wy.ev_k,Wy.ev_h,Wy.ev_bn,Wy.ev_d,tT,hi,hp _ (zp hi)];rw [zby hi,zL (by omega)]
   simp only [ixf];cases P (s.getD i default) with
   | true=>exact ⟨_,rfl,.inl rfl⟩
   | false=>exact zben p P g s hs hp n (i+1) (by omega) (by omega)
  ·simp only [Wy.ev_i,Wy.ev_k,Wy.ev_h,Wy.ev_bn,Wy.ev_d,tT,hi,zc3 hi];exact ⟨_,rfl,.inr ⟨rfl,rfl⟩⟩
theorem zbiB (p:γ->α->Bool×Bool) (P:α->Bool) (n:Nat) (g:γ) (s:List α) (hs:s.length<=1000000000) (hp:∀ x∈s,p g x=(true,P x)) (hn:s.length<n):IH p n g s=(true,ixf P s 0):=by
 unfold IH;obtain ⟨r,h1,h2⟩:=zben p P g s hs hp n 0 (by omega) (by omega)
 rw [show ((0:Nat):Int)=(0:Int) from rfl] at h1
 rw [Wy.fin_bn,show Int.ofNat s.length=(s.length:Int) from rfl,h1]
 rw [List.drop_zero] at h2;rcases h2 with rfl | ⟨rfl,h2⟩
 ·rfl
 ·rw [h2]; rfl
theorem zlO {α:Type} {s:List α} {P:α->Bool} {q:Bool×Int} (h:q=(true,ixf P s 0)):((.bn q λr0=>.k (decide (r0≥(0:Int))):Wy0 Bool).fin default)=(true,s.any P):=by
 rw [h,Wy.fin_bn,cond_true,Wy.fin_k,zbeG]
end
theorem zhL (a b:Int):(a==b)=decide (a=b):=by by_cases h:a=b <;>simp [h]
theorem z5t (a b:Nat):(a==b)=decide (a=b):=by by_cases h:a=b <;>simp [h]
theorem i0 (l:Nat):((l:Int)==0)=(l==0):=by
 rw [zhL,z5t]; congr 1; simp
def zvI (a:yC):Bool:=a.any λt=>t.Fs.length==0
theorem zUC (a:yC) (h:a.length<=1000000000):zfD a=(true,zvI a):=by
 unfold zfD zCt zdI ziD;have:zef a=IH (λ(_:Unit) x=>zh1 x) (a.length+(Int.ofNat a.length).toNat +Int.toNat (0:Int)+(1:Nat)) () a:=rfl
 rw [zlO (P:=λt:Term=>t.Fs.length==0) (this.trans (zbiB _ _ _ _ _ h (λx _=>by
  unfold zh1 zyu;rw [Wy.fin_k];congr 1;exact i0 x.Fs.length) (by omega)))]
 rfl
theorem zp5 (a:yC) (h:a.length<=1000000000):zjm a=(true,zvI a):=by
 unfold zjm zOT zMO
 have:=zee (W:=zEf) (z:=.inl default) a.length (λi=>(a,(i:Int),())) (λ_=>()) (λi=> !((a.getD i default).Fs.length==0)) (.inl true) (.inr ())
  (λi hi H K D=>by
   show (zpQ a i).ev H K D=_;unfold zpQ;simp only [Wy.ev_i,Wy.ev_k,Wy.ev_h,Wy.ev_bn,Wy.ev_d,tT,hi,i0];rw [zL (by omega)]
   cases (a.getD i default).Fs.length==0 <;>rfl)
  (λH K D=>by
   show (zpQ a a.length).ev H K D=_;unfold zpQ;simp only [Wy.ev_i,Wy.ev_k,tT,Nat.lt_irrefl]) (a.length+Int.toNat (0:Int)+(1:Nat)) (by omega)
 rw [show ((0:Nat):Int)=(0:Int) from rfl] at this
 rw [Wy.fin_bn,this,zB2 (λt:Term=> !(t.Fs.length==0)) a]
 have e:(a.all λt:Term=> !(t.Fs.length==0))= !zvI a:=by simp [zvI,List.all_eq_not_any_not]
 rw [e];cases zvI a <;>rfl
def isC:yC->Bool
 | [t]=>t.Fs.length==0
 | _=>false
theorem zW0 (a:yC):zii a=(true,isC a):=by
 unfold zii zD2
 match a with
 | []=>rfl
 | [t]=>exact congrArg (Prod.mk true) (i0 t.Fs.length)
 | t::u::r=>
  have:((Int.ofNat (t::u::r).length)==(1:Int))=false:=by simp; omega
  rw [Wy.fin_i,this]; rfl
def zbkj (p:Fc->Bool):yD->Bool
 | [f]=>p f
 | _=>false
def isU:yC->Bool
 | [t]=>t.Cf==1&&zbkj (λf=>f.Exp==1&&(f.At.Kind==2||f.At.Kind==3||f.At.Kind==4)) t.Fs
 | _=>false
theorem z8Q (x:At):zgn x=(true,x.Kind==3||x.Kind==4):=by
 unfold zgn zDT;rw [Wy.fin_i,Wy.fin_k,Wy.fin_k];cases x.Kind==3 <;>rfl
theorem zPC {τ:Type} (x y:τ) (r:List τ):((Int.ofNat (x::y::r).length)==(1:Int))=false:=by
 rw [beq_eq_false_iff_ne]; simp; omega
theorem z9S (a:yC):zmx a=(true,isU a):=by
 unfold zmx zIA
 match a with
 | []=>rfl
 | ⟨c,[]⟩::[]=>
  show (bif c != 1 then (true,false) else (true,false))=(true,c==1&&false)
  cases c != 1 <;>simp
 | ⟨c,[f]⟩::[]=>
  simp only [Wy.fin_i,Wy.fin_k,tT,isU,List.length_singleton,z8Q,Wy.fin_bn,Wy.fin_d];show (bif c != 1 then (true,false) else bif f.Exp==1 then bif f.At.Kind==2 then (true,true) else (true,f.At.Kind==3||f.At.Kind==4) else (true,false))=(true,c==1&&(f.Exp==1&&(f.At.Kind==2||f.At.Kind==3||f.At.Kind==4)))
  rw [show (c != 1)= !(c==1) from rfl]
  cases c==1 <;>cases f.Exp==1 <;>cases f.At.Kind==2 <;>simp
 | ⟨c,f::g::r⟩::[]=>
  simp only [Wy.fin_i,bne,zPC];show (bif !(c==1) then (true,false) else (true,false))=(true,c==1&&false)
  cases c==1 <;>rfl
 | t::u::r=>rw [Wy.fin_i,bne,zPC]; rfl
def isB:yC->Bool
 | [t]=>t.Cf==1&&zbkj (λf=>f.Exp==1&&decide (2<=f.At.Kind)) t.Fs
 | _=>false
theorem zGZ (a:yC):zrM a=(true,isB a):=by
 unfold zrM zUN
 match a with
 | []=>rfl
 | ⟨c,[]⟩::[]=>
  show (bif c==1 then (true,false) else (true,false))=(true,c==1&&false)
  cases c==1 <;>rfl
 | ⟨c,[f]⟩::[]=>
  simp only [Wy.fin_i,Wy.fin_k,tT,List.length_singleton,Wy.fin_bn,Wy.fin_d];show (bif c==1 then bif decide (2<=f.At.Kind) then (true,f.Exp==1) else (true,false) else (true,false))=(true,c==1&&(f.Exp==1&&decide (2<=f.At.Kind)))
  cases c==1 <;>cases f.Exp==1 <;>cases decide (2<=f.At.Kind) <;>simp
 | ⟨c,f::g::r⟩::[]=>
  rw [Wy.fin_i];show (bif true then (Wy.i true (Wy.i (c==1) (Wy.i true (Wy.i (Int.ofNat (f::g::r).length==1) _ (.k false)) .d) (.k false)) .d:Wy0 Bool).fin default else _)=(true,c==1&&false)
  simp only [Wy.fin_i,Wy.fin_k,zPC,cond_true,cond_false];cases c==1 <;>rfl
 | t::u::r=>rw [Wy.fin_i,zPC]; rfl
theorem zTD (a b:Nat):decide (a>b)= !decide (a<=b):=by
 by_cases h:a<=b
 ·have:¬ a>b:=by omega
  simp [h,this]
 ·have:a>b:=by omega
  simp [h,this]
def zE7 (t:Term):Bool:= !(decide (t.Fs.length>64)||t.Fs.any λf=>decide (f.Exp>64)||decide (f.At.Items.length>1024))
def zgb (a:yC):Bool:=decide (a.length<=512)&&decide (zbt a<=8)&&decide (zP a<=4096)&&a.all zE7
theorem zbeR (l:yD) (h:l.length<=1000000):zcI l=(true,l.any λf=>decide (f.Exp>64)||decide (f.At.Items.length>1024)):=by
 unfold zcI zja
 have hw:zdR=zVM (λ(_:Unit) x=>zgP x):=by
  funext x y
  unfold zdR zkc zVM z1A;rw [Fc.eta2]
 have:zc5 l=IG (λ(_:Unit) x=>zgP x) (l.length+(Int.ofNat l.length).toNat +Int.toNat (0:Int)+(1:Nat)) () l:=by
  unfold zc5 zkL zki;rw [hw]; rfl
 exact zlO (this.trans (zNP _ _ _ _ _ (by omega) (λx _=>by
  unfold zgP zBp;rw [Wy.fin_i,Wy.fin_k,Wy.fin_k];have e:decide (Int.ofNat x.At.Items.length>(1024:Int))=decide (x.At.Items.length>1024):=zr9 _ 1024;rw [e];cases decide (x.Exp>64) <;>rfl) (by omega)))
theorem z9I {d:Nat} {a:yC} (h:zo d a) (hd:d<=100) (hs:zP a<=4611686018427387904):zmy a=(true,zgb a):=by
 obtain ⟨h1,h2⟩:a.length<=1000000/\∀ t∈a,t.Fs.length<=1000000:=by
  cases d with
  | zero=>exact h.elim
  | succ d=>exact ⟨h.1,λt ht=>(h.2 t ht).1⟩
 have h3:zcD a=(true,a.any λt=> !zE7 t):=by
  unfold zcD ziH;have:zeh a=IG (λ(_:Unit) x=>zmo x) (a.length+(Int.ofNat a.length).toNat +Int.toNat (0:Int)+(1:Nat)) () a:=rfl
  exact zlO (this.trans (zNP _ _ _ _ _ (by omega) (λx hx=>by
   unfold zmo zEA;rw [Wy.fin_i,Wy.fin_k,Wy.fin_bn,zbeR _ (h2 x hx)];have e:decide (Int.ofNat x.Fs.length>(64:Int))=decide (x.Fs.length>64):=zr9 _ 64;rw [e];unfold zE7;cases decide (x.Fs.length>64) <;>simp [Wy.fin_k]) (by omega)))
 unfold zmy zIp;have n1:zCc a=(true,(zbt a:Int)):=(z8S 1000 d a h (by omega) hd).1
 have n2:zHD a=(true,(zP a:Int)):=(z5D 1000 d a h (by omega) hs).1
 simp only [Wy.fin_i,Wy.fin_k,Wy.fin_bn,n1,n2,h3,cond_true];have e1:decide (Int.ofNat a.length>(512:Int))= !decide (a.length<=512):=by rw [show decide (Int.ofNat a.length>(512:Int))=decide (a.length>512) from zr9 _ 512]; exact zTD _ _
 have e2:decide ((zbt a:Int)>(8:Int))= !decide (zbt a<=8):=by rw [show decide ((zbt a:Int)>(8:Int))=decide (zbt a>8) from zr9 _ 8]; exact zTD _ _
 have e3:decide ((zP a:Int)>(4096:Int))= !decide (zP a<=4096):=by rw [show decide ((zP a:Int)>(4096:Int))=decide (zP a>4096) from zr9 _ 4096]; exact zTD _ _
 have e4:(a.any λt=> !zE7 t)= !a.all zE7:=by simp [List.all_eq_not_any_not]
 rw [e1,e2,e3,e4];unfold zgb;cases decide (a.length<=512) <;>cases decide (zbt a<=8) <;>cases decide (zP a<=4096) <;>simp
theorem zbk6 (a:yC) (i:Nat) (hi:i<a.length) (hl:(a.getD i default).Fs.length<=1000000) (fuel:Nat) (hf:(a.getD i default).Fs.length<fuel):
  zW3 fuel a i 0=(true,bif (a.getD i default).Fs.any λf=>decide (f.Exp>64)||decide (f.At.Items.length>1024) then .inl false else .inr (a,(i:Int))):=by
 have:=zee (W:=zMl) (z:=.inl default) (a.getD i default).Fs.length (λk=>(a,(i:Int),(k:Int),())) (λ_=>()) (λk=>(λf:Fc=> !(decide (f.Exp>64)||decide (f.At.Items.length>1024))) ((a.getD i default).Fs.getD k default)) (.inl false) (.inr (a,(i:Int)))
  (λk hk H K D=>by
   show (zAs a i k).ev H K D=_;unfold zAs;simp only [Wy.ev_i,Wy.ev_k,Wy.ev_h,Wy.ev_bn,Wy.ev_d,tT,hi,hk];rw [zL (by omega),show decide ((((a.getD i default).Fs.getD k default).At.Items.length:Int)>(1024:Int))=_ from zr9 _ 1024]
   cases decide (((a.getD i default).Fs.getD k default).Exp>64) <;>cases decide (1024<((a.getD i default).Fs.getD k default).At.Items.length) <;>rfl)
  (λH K D=>by
   show (zAs a i (a.getD i default).Fs.length).ev H K D=_;unfold zAs;simp only [Wy.ev_i,Wy.ev_k,Wy.ev_h,Wy.ev_bn,Wy.ev_d,tT,hi,Nat.lt_irrefl]) fuel hf
 rw [zB2 (λf:Fc=> !(decide (f.Exp>64)||decide (f.At.Items.length>1024)))] at this
 have e:((a.getD i default).Fs.all λf=> !(decide (f.Exp>64)||decide (f.At.Items.length>1024)))= !((a.getD i default).Fs.any λf=>decide (f.Exp>64)||decide (f.At.Items.length>1024)):=by simp [List.all_eq_not_any_not]
 rw [e] at this;refine this.trans ?_;cases (a.getD i default).Fs.any λf=>decide (f.Exp>64)||decide (f.At.Items.length>1024) <;>rfl
theorem zbek {d:Nat} {a:yC} (h:zo d a) (hd:d<=100) (hs:zP a<=4611686018427387904):zDj a=(true,zgb a):=by
 obtain ⟨h1,h2⟩:a.length<=1000000/\∀ t∈a,t.Fs.length<=1000000:=by
  cases d with
  | zero=>exact h.elim
  | succ d=>exact ⟨h.1,λt ht=>(h.2 t ht).1⟩
 have h3:zW8 ((a.length+Int.toNat (0:Int)+(1:Nat))+zb6 a) a 0=(true,bif a.all zE7 then .inr () else .inl false):=by
  have:=zee (W:=zLZ) (z:=.inl default) a.length (λk=>(a,(k:Int),())) (λ_=>()) (λk=>zE7 (a.getD k default)) (.inl false) (.inr ())
   (λk hk H K D=>by
    show (zz6 a k).ev H K D=_;unfold zz6;have h4:=h2 _ (zp hk);have h5:=zP5 a k hk;simp only [Wy.ev_i,Wy.ev_k,Wy.ev_h,Wy.ev_bn,Wy.ev_d,tT,hk];rw [zbk6 a k hk h4 _ (by omega)]
    have e:decide (((a.getD k default).Fs.length:Int)>(64:Int))=decide ((a.getD k default).Fs.length>64):=zr9 _ 64;rw [e];unfold zE7;cases decide ((a.getD k default).Fs.length>64) <;>cases ((a.getD k default).Fs.any λf=>decide (f.Exp>64)||decide (f.At.Items.length>1024))
    ·simp only [cond_false,cond_true,isL,getR]; rw [zL (by omega)]; rfl
    all_goals rfl)
   (λH K D=>by
    show (zz6 a a.length).ev H K D=_;unfold zz6;simp only [Wy.ev_i,Wy.ev_k,Wy.ev_h,Wy.ev_bn,Wy.ev_d,tT,Nat.lt_irrefl]) ((a.length+Int.toNat (0:Int)+(1:Nat))+zb6 a) (by omega)
  rw [zB2] at this;exact this
 unfold zDj zY8;have n1:zLA a=(true,(zbt a:Int)):=(z8S 1000 d a h (by omega) hd).2
 have n2:zVp a=(true,(zP a:Int)):=(z5D 1000 d a h (by omega) hs).2
 simp only [Wy.fin_i,Wy.fin_k,Wy.fin_bn,n1,n2,h3,cond_true];have e1:decide (Int.ofNat a.length>(512:Int))= !decide (a.length<=512):=by rw [show decide (Int.ofNat a.length>(512:Int))=decide (a.length>512) from zr9 _ 512]; exact zTD _ _
 have e2:decide ((zbt a:Int)>(8:Int))= !decide (zbt a<=8):=by rw [show decide ((zbt a:Int)>(8:Int))=decide (zbt a>8) from zr9 _ 8]; exact zTD _ _
 have e3:decide ((zP a:Int)>(4096:Int))= !decide (zP a<=4096):=by rw [show decide ((zP a:Int)>(4096:Int))=decide (zP a>4096) from zr9 _ 4096]; exact zTD _ _
 rw [e1,e2,e3];unfold zgb;cases decide (a.length<=512) <;>cases decide (zbt a<=8) <;>cases decide (zP a<=4096) <;>cases a.all zE7 <;>simp [isL,getL]
def zwH (v:Value):Bool:=(v.Kind==0&&v.Text.size==0)||(v.Kind==1&&v.Int==0&&decide (v.Text.size<=255))||(v.Kind==2&&v.Text.size==0&&(v.Int==0||v.Int==1))
theorem zbcD (s:ByteArray):(s.toList==(ByteArray.mk #[]).toList)=(s.size==0):=by
 rw [z1k];by_cases h:s.size=0
 ·have:s=ByteArray.mk #[]:=zK6 (by
   have:s.data.toList.length=0:=by simpa using h
   rw [List.length_eq_zero_iff.1 this])
  subst this; rfl
 ·have:¬ s=ByteArray.mk #[]:=λe=>h (by rw [e]; rfl)
  simp [h,this]
theorem zJL (v:Value):zvB v=(true,zwH v):=by
 unfold zvB zXi zwH;simp only [zbcD,Wy.fin_i,Wy.fin_k,zhL,z5t];have e:decide (Int.ofNat v.Text.size<=(255:Int))=decide (v.Text.size<=255):=zEK _ 255;rw [e];by_cases h0:v.Kind=0
 ·simp [h0]
 ·by_cases h1:v.Kind=1
  ·by_cases h2:v.Int=0 <;>simp [h1,h2]
  ·by_cases h2:v.Kind=2
   ·by_cases h3:v.Int=0
    ·simp [h2,h3]
    ·by_cases h4:v.Int=1 <;>simp [h2,h3,h4]
   ·simp [h0,h1,h2]
theorem zUW (v:Value):zAv v=(true,zwH v):=by
 unfold zAv zXw zwH;simp only [zbcD,Wy.fin_i,Wy.fin_k,zhL,z5t];have e:decide (Int.ofNat v.Text.size<=(255:Int))=decide (v.Text.size<=255):=zEK _ 255;rw [e];by_cases h0:v.Kind=0
 ·simp [h0]
 ·by_cases h1:v.Kind=1
  ·by_cases h2:v.Int=0 <;>simp [h1,h2]
  ·by_cases h2:v.Kind=2
   ·by_cases h3:v.Int=0
    ·by_cases h4:v.Text.size=0 <;>simp [h2,h3,h4]
    ·by_cases h4:v.Text.size=0 <;>simp [h2,h3,h4]
   ·simp [h0,h1,h2]
def zPW (fn:Int) (b:Value) (w:Wd):Bool:=zwH w.Value&&(w.Value.Kind==b.Kind)&& !(fn==0&&w.Value.Int != 1)
def zD9 (fn:Int) (l:yE) (op:Int) (b:Value):Bool:=decide (0<=fn)&&decide (fn<=3)&&decide (5<=op)&&decide (op<=10)&&zwH b&& !(decide (fn<=1)&&b.Kind != 0)&&l.all (zPW fn b)
theorem zbhm (l:yE) (fn:Int) (b:Value) (h:l.length<=1000000):zbC l b fn=(true, !l.all (zPW fn b)):=by
 unfold zbC zhH;have:zdG l b fn=IG (λ(g:Value×(Int×Unit)×Unit) x=>zio x g.1 g.2.1.1) (l.length+fn.toNat +(Int.ofNat l.length).toNat +Int.toNat (0:Int)+(1:Nat)) (b,(fn,()),()) l:=rfl
 have e:(!l.all (zPW fn b))=l.any λw=> !zPW fn b w:=by simp [List.all_eq_not_any_not]
 rw [e]
 exact zlO (this.trans (zNP _ _ _ _ _ (by omega) (λx _=>by
  show zio x b fn=_;unfold zio zDV zPW;simp only [Wy.fin_i,Wy.fin_k,Wy.fin_bn,zJL,cond_true,zhL,zAE];cases zwH x.Value <;>by_cases h1:x.Value.Kind=b.Kind <;>by_cases h2:fn=0 <;>simp [zhL,zAE,h1,h2]) (by omega)))
theorem z6Y (fn:Int) (l:yE) (op:Int) (b:Value) (h:l.length<=1000000):zld fn l op b=(true,zD9 fn l op b):=by
 unfold zld zHG zD9;simp only [Wy.fin_i,Wy.fin_k,Wy.fin_bn,zJL,zbhm l fn b h,cond_true,zhL,zAE];by_cases h1:fn<0
 ·have:¬ (0<=fn):=by omega
  simp [h1,this]
 by_cases h2:3<fn
 ·have:¬ (fn<=3):=by omega
  simp [h1,h2,this]
 by_cases h3:op<5
 ·have:¬ (5<=op):=by omega
  simp [h1,h2,h3,this]
 by_cases h4:10<op
 ·have:¬ (op<=10):=by omega
  simp [h1,h2,h3,h4,this]
 have g1:0<=fn:=by omega
 have g2:fn<=3:=by omega
 have g3:5<=op:=by omega
 have g4:op<=10:=by omega
 cases zwH b with
 | false=>simp [h1,h2,h3,h4]
 | true=>
  by_cases h5:fn=0
  ·subst h5; by_cases h6:b.Kind=0 <;>simp [h3,h4,h6,g3,g4]
  ·by_cases h7:fn=1
   ·subst h7; by_cases h6:b.Kind=0 <;>simp [h3,h4,h6,g3,g4]
   ·have:¬ fn<=1:=by omega
    simp [h1,h2,h3,h4,h5,h7,this,g1,g2,g3,g4]
theorem zbcR (fn:Int) (l:yE) (op:Int) (b:Value) (h:l.length<=1000000):zAu fn l op b=(true,zD9 fn l op b):=by
 unfold zAu zXl zD9
 have hl:zI5 (fn.toNat +l.length+Int.toNat (0:Int)+(1:Nat)) fn l (0:Int) b=(true,bif l.all (zPW fn b) then .inr () else .inl false):=by
  have:=zee (W:=zI4) (z:=.inl default) l.length (λk=>(fn,l,(),(k:Int),())) (λ_=>(b,())) (λk=>zPW fn b (l.getD k default)) (.inl false) (.inr ())
   (λk hk H K D=>by
    show (zwR fn l k b).ev H K D=_;unfold zwR zPW;simp only [Wy.ev_i,Wy.ev_k,Wy.ev_h,Wy.ev_bn,Wy.ev_d,tT,hk,zUW,zhL,zAE];rw [zL (by omega)]
    cases zwH (l.getD k default).Value <;>cases decide ((l.getD k default).Value.Kind=b.Kind) <;>cases decide (fn=0) <;>cases decide ((l.getD k default).Value.Int=1) <;>rfl)
   (λH K D=>by
    show (zwR fn l l.length b).ev H K D=_;unfold zwR;simp only [Wy.ev_i,Wy.ev_k,Wy.ev_h,Wy.ev_bn,Wy.ev_d,tT,Nat.lt_irrefl]) (fn.toNat +l.length+Int.toNat (0:Int)+(1:Nat)) (by omega)
  rw [zB2] at this;exact this
 simp only [Wy.fin_i,Wy.fin_k,Wy.fin_bn,zUW,hl,cond_true,zhL,zAE];by_cases h1:fn<0
 ·have:¬ (0<=fn):=by omega
  simp [h1,this]
 by_cases h2:3<fn
 ·have:¬ (fn<=3):=by omega
  simp [h1,h2,this]
 by_cases h3:op<5
 ·have:¬ (5<=op):=by omega
  simp [h1,h2,h3,this]
 by_cases h4:10<op
 ·have:¬ (op<=10):=by omega
  simp [h1,h2,h3,h4,this]
 have g1:0<=fn:=by omega
 have g2:fn<=3:=by omega
 have g3:5<=op:=by omega
 have g4:op<=10:=by omega
 cases zwH b with
 | false=>simp [h1,h2,h3,h4]
 | true=>
  by_cases h5:fn<=1
  ·by_cases h6:b.Kind=0
   ·cases l.all (zPW fn b) <;>simp [h1,h2,h3,h4,h5,h6,g1,g2,g3,g4,isL,getL]
   ·simp [h1,h2,h3,h4,h5,h6,g1,g2,g3,g4]
  ·cases l.all (zPW fn b) <;>simp [h1,h2,h3,h4,h5,g1,g2,g3,g4,isL,getL]
def bz (b:Value):Bool:=b.Kind==(0:Int)&&(b.Int==(0:Int)&&(b.Text.toList==(ByteArray.mk #[]).toList&&true))
def plA (x:At):Bool:=x.Func==0&&(x.Items.length==0)&&x.Op==0&&bz x.Bd
theorem zbhW (x:At):zq6 x=(true,plA x):=by
 unfold zq6 zXr plA;simp only [Wy.fin_i,Wy.fin_k,Int.ofNat_eq_natCast,i0];show _=(true,_&&_&&_&&bz x.Bd);rw [show (x.Bd.Kind==(0:Int)&&(x.Bd.Int==(0:Int)&&(x.Bd.Text.toList==(ByteArray.mk #[]).toList&&true)))=bz x.Bd from rfl]
 cases x.Func==0 <;>cases x.Items.length==0 <;>cases x.Op==0 <;>rfl
def zVK (l:yE) (k:Nat):Bool:=decide (k=0)||decide (zbf (z8 (l.getD (k - 1) default)) (z8 (l.getD k default))<=0)
def zZQ (l:yE):Bool:=zeH (zVK l) l.length 0
theorem z90 (c:Nat->Bool):∀ n i,zeH c (n+1) i=(zeH c n i&&c (i+n))
 | 0,i=>by simp [zeH]
 | n+1,i=>by
  rw [zeH,z90 c n (i+1),zeH,show i+1+n=i+(n+1) by omega,Bool.and_assoc]
theorem zXf {d:Nat} (l:yE) (hl:l.length<=1000000) (h:∀ w∈l,zo d w.Ann) (hd:d<=99):∀ (n i:Nat),i<l.length->i<n->zeW n l i=(true,bif zeH (zVK l) (i+1) 0 then .inr () else .inl false)
 | 0,i,hi,hn=>by omega
 | n+1,i,hi,hn=>by
  show (zeV l i).ev (λx y=>zeW n x.1 x.2.2.1) (λr=>(true,r)) (false,.inl default)=_
  unfold zeV;have hg:decide ((i:Int)>(0:Int))=decide (0<i):=zr9 i 0;cases i with
  | zero=>simp [Wy.ev_i,Wy.ev_k,zeH,zVK]
  | succ i=>
   have hi':i<l.length:=by omega
   have hw:IntKind.i64.wrap (((i+1:Nat):Int) - 1)=(i:Int):=by rw [zCs (by omega) (by omega)]; rfl
   have hp:decide (0<i+1)=true:=by simp
   simp only [Wy.ev_i,Wy.ev_k,Wy.ev_h,Wy.ev_bn,Wy.ev_d,hg,hp,hw,tT,hi,hi',zcU (h _ (zp hi)) hd];rw [zXf l hl h hd n i hi' (by omega),z90 _ (i+1),Nat.zero_add]
   have:zVK l (i+1)= !decide (zbf (z8 (l.getD (i+1) default)) (z8 (l.getD i default))<0):=by
    unfold zVK;rw [show i+1 - 1=i from rfl,ze6 (z8 (l.getD (i+1) default)) (z8 (l.getD i default))]
    generalize zbf (z8 (l.getD (i+1) default)) (z8 (l.getD i default))=z;by_cases hz:z<0
    ·have:¬ (-z<=0):=by omega
     simp [hz,this]
    ·have:(-z<=0):=by omega
     simp [hz,this]
   rw [this];cases decide (zbf (z8 (l.getD (i+1) default)) (z8 (l.getD i default))<0) <;>simp
theorem zbds {d:Nat} (l:yE) (hl:l.length<=1000000) (h:∀ w∈l,zo d w.Ann) (hd:d<=99):zcC l=(true,zZQ l):=by
 unfold zcC ziw zZQ
 match l,hl,h with
 | [],_,_=>rfl
 | x::r,hl,h=>
  have hw:IntKind.i64.wrap (Int.ofNat (x::r).length - 1)=(r.length:Int):=by
   rw [qf] at hl;rw [show Int.ofNat (x::r).length=(((x::r).length:Nat):Int) from rfl,zCs (by simp) (by simp; omega)]; rfl
  rw [Wy.fin_bn,hw,zXf (x::r) hl h hd _ r.length (by simp) (by simp; omega)]
  cases zeH (zVK (x::r)) (r.length+1) 0 with
  | true=>simp [Wy.fin_i,Wy.fin_k,isL]
  | false=>simp [Wy.fin_i,Wy.fin_k,isL,getL]
def rz (r:RowID):Bool:=r.Table==(0:Int)&&(r.Seq==(0:Int)&&true)
def zr0 (V:yC->Bool) (l:yA):Bool:=l.all λa=>V a&& !(a.length==0)
def zFV (V:yC->Bool) (l:yE):Bool:=l.all λw=>V w.Ann&& !(w.Ann.length==0)
def zDq (r:RowID):Bool:=decide (r.Table≥1)&&decide (r.Seq≥1)
def zJP (p:yC->Bool):yA->Bool
 | [a]=>p a
 | _=>false
def z7A (p:yC->yC->Bool):yA->Bool
 | [a,b]=>p a b
 | _=>false
def zen (V:yC->Bool) (x:At):Bool:=
 zr0 V x.Ag&&
 if x.Kind=0 then plA x&&zDq x.Row&&(x.Ag.length==0)
 else rz x.Row&&
  if x.Kind=1 then plA x&&z7A (λa b=> !decide (a=b)) x.Ag
  else if x.Kind=2 then plA x&&zJP (λa=> !isC a&& !isU a) x.Ag
  else if x.Kind=3 then plA x&&zJP (λa=> !zvI a) x.Ag
  else if x.Kind=4 then (x.Ag.length==0)&&decide (0<x.Items.length)&&zFV V x.Items&&zZQ x.Items&&zD9 x.Func x.Items x.Op x.Bd
  else false
def zS0 (vat:At->Bool) (fs:yD) (k:Nat):Bool:=
 decide (1<=(fs.getD k default).Exp)&& !(((fs.getD k default).At.Kind==3||(fs.getD k default).At.Kind==4)&&(fs.getD k default).Exp != 1)&&
  (decide (k=0)||decide (zbf (zdw (fs.getD (k - 1) default).At) (zdw (fs.getD k default).At)<0))&&vat (fs.getD k default).At
def okF (vat:At->Bool) (fs:yD):Bool:=zeH (zS0 vat fs) fs.length 0
def zHC (vat:At->Bool) (a:yC) (i:Nat):Bool:=
 decide (1<=(a.getD i default).Cf)&&decide ((a.getD i default).Cf<=1152921504606846976)&&
  (decide (i=0)||decide (zbO (zbE (a.getD (i - 1) default).Fs) (zbE (a.getD i default).Fs)<0))&&okF vat (a.getD i default).Fs
def zAY (vat:At->Bool) (a:yC):Bool:=zgb a&&zeH (zHC vat a) a.length 0
def zbD:Nat->yC->Bool
 | 0,_=>false
 | n+1,a=>zAY (zen (zbD n)) a
theorem zGA (r:RowID):zr6 r=(true,zDq r):=by
 unfold zr6 zTn zDq;rw [Wy.fin_i,Wy.fin_k,Wy.fin_k];cases decide (r.Table≥1) <;>rfl
theorem zHh {V:yC->Bool} {x:At} (h:zen V x=true):0<=x.Kind/\x.Kind<=4:=by
 unfold zen at h;by_cases h0:x.Kind=0
 ·omega
 by_cases h1:x.Kind=1
 ·omega
 by_cases h2:x.Kind=2
 ·omega
 by_cases h3:x.Kind=3
 ·omega
 by_cases h4:x.Kind=4
 ·omega
 simp [h0,h1,h2,h3,h4] at h
theorem zzr (l k:Nat):((Int.ofNat l)==(k:Int))=(l==k):=by
 rw [zhL,z5t]; congr 1; simp; omega
section
variable (V:yC->Bool) (gW:yE->Bool×Bool) (gA:yA->Bool×Bool) (c1:yC->Bool×Bool) (c2:Wd->Bool×Bool)
theorem z8p (x:At) {d:Nat} (hx:zdd (zo d) x) (hd:d<=99) (hA:gA x.Ag=(true, !zr0 V x.Ag)) (hW:gW x.Items=(true, !zFV V x.Items)):
  zkF gA c1 gW c2 x=(true,zen V x):=by
 have hS:=zbds x.Items hx.1.2.1 (λw hw=>(hx.2.2 w hw).2) hd
 have hF:=z6Y x.Func x.Items x.Op x.Bd hx.1.2.1;have hE:∀ a∈x.Ag,∀ b,zgY a b=(true,decide (a=b)):=λa ha b=>zsO (hx.2.1 a ha) (by omega) b
 have hC:∀ a∈x.Ag,zfD a=(true,zvI a):=λa ha=>zUC a (by
  have:=hx.2.1 a ha;cases d with
  | zero=>exact this.elim
  | succ d=>have:=this.1; omega)
 obtain ⟨k,r,l,f,its,o,b⟩:=x;simp only at hA hW hS hF hE hC;unfold zkF zcq zen plA;simp only [zGA,hA,hW,hS,hF,Wy.fin_i,Wy.fin_k,Wy.fin_bn,cond_true]
 rw [show (b.Kind==(0:Int)&&(b.Int==(0:Int)&&(b.Text.toList==(ByteArray.mk #[]).toList&&true)))=bz b from rfl,
  show (r.Table==(0:Int)&&(r.Seq==(0:Int)&&true))=rz r from rfl,
  show (Int.ofNat its.length != 0)= !(its.length==0) from congrArg not (zzr its.length 0),show (f != 0)= !(f==0) from rfl,show (o != 0)= !(o==0) from rfl]
 generalize zr0 V l=A at *;generalize zFV V its=W at *;generalize bz b=B at *;generalize (f==0)=F at *;generalize (o==0)=O at *;generalize rz r=R at *;generalize zDq r=RO at *;generalize zZQ its=S at *;generalize zD9 f its o b=K at *;have hgt:decide (Int.ofNat its.length>0)=decide (0<its.length):=zr9 its.length 0;rw [hgt];generalize (its.length==0)=I at *;generalize decide (0<its.length)=J at *;by_cases h0:k=0
 ·subst h0;simp only [zzr,show ((Int.ofNat l.length)==(0:Int))=(l.length==0) from zzr l.length 0]
  generalize (l.length==0)=L;cases F <;>cases I <;>cases O <;>cases B <;>cases A <;>cases RO <;>rfl
 by_cases h1:k=1
 ·subst h1
  match l,hE with
  | [],_=>cases F <;>cases I <;>cases O <;>cases B <;>cases A <;>cases R <;>rfl
  | [u],_=>cases F <;>cases I <;>cases O <;>cases B <;>cases A <;>cases R <;>rfl
  | [u,v],hE=>
   have e:=hE u (by simp) v
   simp only [List.getD,qf,List.length_nil,Int.toNat_zero,List.getElem?_cons_zero,List.getElem?_cons_succ,Option.getD,show Int.toNat 1=1 from rfl,z7A]
   simp only [e];generalize decide (u=v)=E;cases F <;>cases I <;>cases O <;>cases B <;>cases A <;>cases R <;>rfl
  | u::v::w::l,_=>
   have e:((Int.ofNat (u::v::w::l).length)==(2:Int))=false:=by rw [beq_eq_false_iff_ne]; simp; omega
   simp only [e];cases F <;>cases I <;>cases O <;>cases B <;>cases A <;>cases R <;>rfl
 by_cases h2:k=2
 ·subst h2
  match l with
  | []=>cases F <;>cases I <;>cases O <;>cases B <;>cases A <;>cases R <;>rfl
  | [u]=>
   simp only [List.getD,qf,List.length_nil,Int.toNat_zero,List.getElem?_cons_zero,Option.getD,zJP,zW0,z9S];generalize isC u=E;generalize isU u=E';cases F <;>cases I <;>cases O <;>cases B <;>cases A <;>cases R <;>cases E <;>cases E' <;>rfl
  | u::v::l=>
   simp only [zPC];cases F <;>cases I <;>cases O <;>cases B <;>cases A <;>cases R <;>rfl
 by_cases h3:k=3
 ·subst h3
  match l,hC with
  | [],_=>cases F <;>cases I <;>cases O <;>cases B <;>cases A <;>cases R <;>rfl
  | [u],hC=>
   have e:=hC u (by simp)
   simp only [List.getD,qf,List.length_nil,Int.toNat_zero,List.getElem?_cons_zero,Option.getD,zJP];simp only [e];generalize zvI u=E;cases F <;>cases I <;>cases O <;>cases B <;>cases A <;>cases R <;>cases E <;>rfl
  | u::v::l,_=>
   simp only [zPC];cases F <;>cases I <;>cases O <;>cases B <;>cases A <;>cases R <;>rfl
 by_cases h4:k=4
 ·subst h4;simp only [show ((Int.ofNat l.length)==(0:Int))=(l.length==0) from zzr l.length 0]
  generalize (l.length==0)=L;cases A <;>cases W <;>cases L <;>cases J <;>cases S <;>cases K <;>cases R <;>rfl
 simp only [zhL,h0,h1,h2,h3,h4,decide_false,if_false,cond_false];cases F <;>cases I <;>cases O <;>cases B <;>cases A <;>cases R <;>rfl
end
section
variable (V:yC->Bool) (g:yC->Bool×Bool)
theorem zblR (x:At) (hl:x.Ag.length<=1000000) (hg:∀ a∈x.Ag,g a=(true,V a)) (n:Nat) (hn:x.Ag.length<n):zyK g n 0 x=(true,bif zr0 V x.Ag then .inr x else .inl false):=by
 have:=zee (W:=zy2 g) (z:=.inl default) x.Ag.length (λi=>((),(i:Int),())) (λ_=>(x,())) (λi=>(λa:yC=>V a&& !(a.length==0)) (x.Ag.getD i default)) (.inl false) (.inr x)
  (λi hi H K D=>by
   show (zmj g i x).ev H K D=_;unfold zmj;have hL:decide ((i:Int)<Int.ofNat x.Ag.length)=true:=by simp [hi]
   simp only [Wy.ev_i,Wy.ev_k,Wy.ev_h,Wy.ev_bn,Wy.ev_d,hL,zfP,Bool.and_self,cond_true,Int.toNat_natCast,hg _ (zp hi)];rw [zL (by omega),show (Int.ofNat (x.Ag.getD i default).length==(0:Int))=((x.Ag.getD i default).length==0) from zzr _ 0]
   cases V (x.Ag.getD i default) <;>cases ((x.Ag.getD i default).length==0) <;>rfl)
  (λH K D=>by
   show (zmj g x.Ag.length x).ev H K D=_;unfold zmj;have hL:decide ((x.Ag.length:Int)<Int.ofNat x.Ag.length)=false:=by simp
   simp only [Wy.ev_i,Wy.ev_k,hL,cond_false]) n hn
 rw [zB2 (λa:yC=>V a&& !(a.length==0))] at this
 exact this
theorem zbbc {τ:Type} [Inhabited τ] (l:List τ) (i:Nat) (h:i<l.length):List.take 1 (List.drop i l)=[l.getD i default]:=by
 rw [zby h]; rfl
theorem zbiR (x y:TT):zbO [x] [y]=zbf x y:=by
 simp only [zbO];split
 ·rename_i h; exact h.symm
 ·rfl
theorem zbkg (x:At) {d:Nat} (hx:zdd (zo d) x) (hd:d<=99) (hg:∀ a∈x.Items,g a.Ann=(true,V a.Ann)) (n:Nat) (hn:x.Items.length<n):zFK g n 0 x=(true,bif zFV V x.Items&&zZQ x.Items then .inr () else .inl false):=by
 have hl:x.Items.length<=1000000:=hx.1.2.1
 have:=zee (W:=zxn g) (z:=.inl default) x.Items.length (λi=>((),(i:Int),())) (λ_=>(x,())) (λi=>(λw:Wd=>V w.Ann&& !(w.Ann.length==0)) (x.Items.getD i default)&&zVK x.Items i) (.inl false) (.inr ())
  (λi hi H K D=>by
   show (zlj g i x).ev H K D=_;unfold zlj;have hL:decide ((i:Int)<Int.ofNat x.Items.length)=true:=by simp [hi]
   simp only [Wy.ev_i,Wy.ev_k,Wy.ev_h,Wy.ev_bn,Wy.ev_d,hL,zfP,Bool.and_self,cond_true,Int.toNat_natCast,hg _ (zp hi)];rw [zL (by omega),show (Int.ofNat (x.Items.getD i default).Ann.length==(0:Int))=((x.Items.getD i default).Ann.length==0) from zzr _ 0]
   cases V (x.Items.getD i default).Ann <;>cases ((x.Items.getD i default).Ann.length==0) <;>try rfl
   simp only [cond_true,cond_false,Bool.not_true,Bool.not_false,Bool.and_self,Bool.true_and];cases i with
   | zero=>rfl
   | succ i=>
    have hi':i<x.Items.length:=by omega
    have hw:IntKind.i64.wrap (((i+1:Nat):Int) - 1)=(i:Int):=by rw [zCs (by omega) (by omega)]; rfl
    have e1:(decide ((0:Int)<=(i:Int))&&decide ((i:Int)<=((i+1:Nat):Int))&&decide (((i+1:Nat):Int)<=Int.ofNat x.Items.length))=true:=by
     simp; try omega
    have e2:(decide (((i+1:Nat):Int)<=((i+1+1:Nat):Int))&&decide (((i+1+1:Nat):Int)<=Int.ofNat x.Items.length))=true:=by
     simp; try omega
    have e3:decide (((i+1:Nat):Int)>0)=true:=by simp; try omega
    simp only [hw,e1,e2,e3,cond_true,Bool.true_and,Int.toNat_natCast,show i+1 - i=1 by omega,show i+1+1 - (i+1)=1 by omega,zbbc _ _ hi,zbbc _ _ hi']
    rw [zFS (d:=d) (by simp) (λw hw=>by
     rw [qh] at hw; subst hw; exact (hx.2.2 _ (zp hi')).2) hd,znU,znU]
    simp only [List.map,zbiR,cond_true,zVK,show i+1 - 1=i from rfl]
    have e4:decide (i+1=0)=false:=by simp
    rw [e4,Bool.false_or];generalize zbf (z8 (x.Items.getD i default)) (z8 (x.Items.getD (i+1) default))=z;by_cases hz:z>0
    ·have:¬ z<=0:=by omega
     simp only [hz,this,decide_true,decide_false,cond_true,cond_false]
    ·have:z<=0:=by omega
     simp only [hz,this,decide_true,decide_false,cond_true,cond_false])
  (λH K D=>by
   show (zlj g x.Items.length x).ev H K D=_;unfold zlj;have hL:decide ((x.Items.length:Int)<Int.ofNat x.Items.length)=false:=by simp
   simp only [Wy.ev_i,Wy.ev_k,hL,cond_false]) n hn
 rw [zbde (λi=>(λw:Wd=>V w.Ann&& !(w.Ann.length==0)) (x.Items.getD i default)),zB2 (λw:Wd=>V w.Ann&& !(w.Ann.length==0))] at this
 exact this
theorem z1E {A ρ:Type} (s:A) (k:A->Wy0 ρ) (z:ρ):(Wy.bn (true,s) k).fin z=(k s).fin z:=rfl
theorem z52 (x:At) {d:Nat} (hx:zdd (zo d) x) (hd:d<=99) (h10:x.Items.length<=1024) (hV:∀ a,V a=true->isB a=isU a) (hgA:∀ a∈x.Ag,g a=(true,V a)) (hgI:∀ a∈x.Items,g a.Ann=(true,V a.Ann)):
  zqd g x=(true,zen V x):=by
 have hS:=λn hn=>zbkg V g x hx hd hgI n hn
 have hA:=λn hn=>zblR V g x hx.1.1 hgA n hn
 have hF:=zbcR x.Func x.Items x.Op x.Bd hx.1.2.1;have hE:∀ a∈x.Ag,∀ b,zmu a b=(true,decide (a=b)):=λa ha b=>zAl (hx.2.1 a ha) (by omega) b
 have hC:∀ a∈x.Ag,zjm a=(true,zvI a):=λa ha=>zp5 a (by
  have:=hx.2.1 a ha;cases d with
  | zero=>exact this.elim
  | succ d=>have:=this.1; omega)
 have hP:=zbhW x;unfold zqd zIs zen;obtain ⟨s,hs1,hs2⟩:∃ s,zyK g (Int.toNat (0:Int)+x.Ag.length+x.Items.length+(1:Nat)) 0 x=(true,s)/\s=bif zr0 V x.Ag then .inr x else .inl false:=⟨_,hA _ (by omega),rfl⟩
 rw [At.eta,hP,hs1];simp only [Wy.fin_i,Wy.fin_k,z1E];simp only [Wy.fin_i,Wy.fin_k,Wy.fin_bn,cond_true];rw [show (x.Row.Table==(0:Int)&&(x.Row.Seq==(0:Int)&&true))=rz x.Row from rfl]
 have b0:(x.Kind==(0:Int))=decide (x.Kind=0):=zhL _ _;have b1:(x.Kind==(1:Int))=decide (x.Kind=1):=zhL _ _;have b2:(x.Kind==(2:Int))=decide (x.Kind=2):=zhL _ _;have b3:(x.Kind==(3:Int))=decide (x.Kind=3):=zhL _ _;have b4:(x.Kind==(4:Int))=decide (x.Kind=4):=zhL _ _;by_cases h0:x.Kind=0
 ·rw [b0];simp only [h0,decide_true,cond_true,if_true];rw [show (Int.ofNat x.Ag.length==(0:Int))=(x.Ag.length==0) from zzr _ 0]
  unfold zDq
  match hl:x.Ag with
  | []=>cases decide (x.Row.Table≥1) <;>cases decide (x.Row.Seq≥1) <;>cases plA x <;>rfl
  | u::l=>cases decide (x.Row.Table≥1) <;>cases decide (x.Row.Seq≥1) <;>cases plA x <;>cases zr0 V (u::l) <;>rfl
 rw [b0];simp only [h0,decide_false,cond_false,if_false];cases hA:zr0 V x.Ag with
 | false=>rw [hs2,hA]; cases rz x.Row <;>rfl
 | true=>
 rw [hA,cond_true] at hs2;have hy:getR s=x:=by rw [hs2]; rfl
 have hy2:isL s=false:=by rw [hs2]; rfl
 rw [hy2];generalize getR s=y at hy ⊢;subst hy;cases rz y.Row with
 | false=>rfl
 | true=>
 simp only [Bool.not_true,cond_false,cond_true,isL,getR,Bool.true_and,At.eta,hP,hF,b1,b2,b3,b4];by_cases h1:y.Kind=1
 ·simp only [h1,decide_true,cond_true,if_true]
  match hl:y.Ag with
  | []=>cases plA y <;>rfl
  | [u]=>cases plA y <;>rfl
  | [u,v]=>
   have e:=hE u (by rw [hl]; simp) v
   simp only [List.getD,qf,List.length_nil,Int.toNat_zero,List.getElem?_cons_zero,List.getElem?_cons_succ,Option.getD,show Int.toNat 1=1 from rfl,z7A]
   simp only [e];generalize decide (u=v)=E;cases plA y <;>rfl
  | u::v::w::l=>
   have e:((Int.ofNat (u::v::w::l).length)==(2:Int))=false:=by rw [beq_eq_false_iff_ne]; simp; omega
   simp only [e];cases plA y <;>rfl
 simp only [h1,decide_false,cond_false,if_false];by_cases h2:y.Kind=2
 ·simp only [h2,decide_true,cond_true,if_true]
  match hl:y.Ag with
  | []=>cases plA y <;>rfl
  | [u]=>
   have e:=hC u (by rw [hl]; simp)
   have eV:V u=true:=by
    rw [hl] at hA;unfold zr0 at hA;simp at hA;exact hA.1
   simp only [List.getD,qf,List.length_nil,Int.toNat_zero,List.getElem?_cons_zero,Option.getD,zJP,zGZ,e,hV u eV]
   match u with
   | []=>cases plA y <;>rfl
   | [t]=>
    have e1:zvI [t]=(t.Fs.length==0):=by simp [zvI]
    have e2:isC [t]=(t.Fs.length==0):=rfl;rw [e1,e2];cases plA y <;>cases (t.Fs.length==0) <;>cases isU [t] <;>rfl
   | t::s::r=>
    simp only [zPC];cases plA y <;>rfl
  | u::v::l=>
   simp only [zPC];cases plA y <;>rfl
 simp only [h2,decide_false,cond_false,if_false];by_cases h3:y.Kind=3
 ·simp only [h3,decide_true,cond_true,if_true]
  match hl:y.Ag with
  | []=>cases plA y <;>rfl
  | [u]=>
   have e:=hC u (by rw [hl]; simp)
   simp only [List.getD,qf,List.length_nil,Int.toNat_zero,List.getElem?_cons_zero,Option.getD,zJP];simp only [e];cases plA y <;>cases zvI u <;>rfl
  | u::v::l=>
   simp only [zPC];cases plA y <;>rfl
 simp only [h3,decide_false,cond_false,if_false];by_cases h4:y.Kind=4
 ·have e10:decide (Int.ofNat y.Items.length>(1024:Int))=false:=by simp; omega
  rw [hS _ (by omega)]
  rw [e10];simp only [h4,decide_true,cond_true,if_true,cond_false];rw [show (Int.ofNat y.Ag.length != (0:Int))= !(y.Ag.length==0) from congrArg not (zzr y.Ag.length 0),show (Int.ofNat y.Items.length==(0:Int))=(y.Items.length==0) from zzr y.Items.length 0]
  have e11:decide (0<y.Items.length)= !(y.Items.length==0):=by
   rw [z5t];by_cases h:y.Items.length=0
   ·simp [h]
   ·have:0<y.Items.length:=by omega
    simp [h,this]
  rw [e11];cases (y.Ag.length==0) <;>cases (y.Items.length==0) <;>cases zD9 y.Func y.Items y.Op y.Bd <;>cases zFV V y.Items <;>cases zZQ y.Items <;>rfl
 simp only [h4,decide_false,cond_false,if_false]
end
section
variable (V:yC->Bool) (vat:At->Bool)
theorem V_9 (g:At->Bool×Bool) (a t10:yC) (t11 t12:Int) (t:Term) {d:Nat} (ht:zcs (zo d) t.Fs) (hd:d<=99) (hg:∀ f∈t.Fs,g f.At=(true,vat f.At)) (n:Nat) (hn:t.Fs.length<n):
  zxB g n a t10 t11 t12 t.Fs t.Fs.length 0 t=(true,bif okF vat t.Fs then .inr (a,t10,t11,t12) else .inl false):=by
 have hl:=ht.1
 exact zee (W:=zxi g) (z:=.inl default) t.Fs.length (λk=>(a,(),t10,t11,t12,t.Fs,(t.Fs.length:Int),(k:Int),())) (λ_=>(t,())) (zS0 vat t.Fs) (.inl false) (.inr (a,t10,t11,t12))
  (λk hk H K D=>by
   show (zle g a t10 t11 t12 t.Fs t.Fs.length k t).ev H K D=_;unfold zle zS0
   have hgt:decide ((k:Int)>0)= !decide (k=0):=by
    by_cases h:k=0
    ·subst h; rfl
    ·have:0<k:=by omega
     simp [h,this]
   simp only [At.eta,Wy.ev_i,Wy.ev_k,Wy.ev_h,Wy.ev_bn,Wy.ev_d,tT,hk,z8Q,hg _ (zp hk),hgt];rw [zL (by omega)]
   have e1:decide ((t.Fs.getD k default).Exp<1)= !decide (1<=(t.Fs.getD k default).Exp):=by
    by_cases h:1<=(t.Fs.getD k default).Exp
    ·have:¬ (t.Fs.getD k default).Exp<1:=by omega
     simp only [h,this,decide_true,decide_false,Bool.not_true]
    ·have:(t.Fs.getD k default).Exp<1:=by omega
     simp only [h,this,decide_true,decide_false,Bool.not_false]
   rw [e1];generalize decide (1<=(t.Fs.getD k default).Exp)=E1;generalize ((t.Fs.getD k default).Exp != 1)=E2;generalize ((t.Fs.getD k default).At.Kind==3||(t.Fs.getD k default).At.Kind==4)=E3;by_cases h0:k=0
   ·simp only [h0,decide_true,Bool.not_true,cond_false,Bool.true_or,Bool.and_true];cases E1 <;>cases E2 <;>cases E3 <;>cases vat (t.Fs.getD 0 default).At <;>rfl
   ·have hp:IntKind.i64.wrap ((k:Int) - 1)=((k - 1:Nat):Int):=zCs (by omega) (by omega)
    have hk':k - 1<t.Fs.length:=by omega
    have hfx:zdd (zo d) (t.Fs.getD (k - 1) default).At:=ht.2 _ (zp hk')
    have e2:∀ z:Int,decide (z≥0)= !decide (z<0):=λz=>by
     by_cases h:z<0
     ·have:¬ z≥0:=by omega
      simp [h,this]
     ·have:z≥0:=by omega
      simp [h,this]
    simp only [h0,hp,tT,hk',zz3 hfx hd,e2,Bool.false_or];generalize decide (zbf (zdw (t.Fs.getD (k - 1) default).At) (zdw (t.Fs.getD k default).At)<0)=E4;cases E1 <;>cases E2 <;>cases E3 <;>cases E4 <;>cases vat (t.Fs.getD k default).At <;>rfl)
  (λH K D=>by
   show (zle g a t10 t11 t12 t.Fs t.Fs.length t.Fs.length t).ev H K D=_;unfold zle;simp only [Wy.ev_i,Wy.ev_k,tT,Nat.lt_irrefl]) n hn
theorem V_4 (g:At->Bool×Bool) (a:yC) {d:Nat} (h:zo (d+1) a) (hd:d<=99) (hg:∀ t∈a,∀ f∈t.Fs,g f.At=(true,vat f.At)) (n:Nat) (hn:a.length<n):
  zFY g n a a a.length 0=(true,bif zeH (zHC vat a) a.length 0 then .inr () else .inl false):=by
 have hl:=h.1
 exact zee (W:=zw5 g) (z:=.inl default) a.length (λk=>(a,a,(a.length:Int),(k:Int),())) (λ_=>()) (zHC vat a) (.inl false) (.inr ())
  (λk hk H K D=>by
   show (zll g a a a.length k).ev H K D=_;unfold zll zHC;have ht:=h.2 _ (zp hk)
   have hgt:decide ((k:Int)>0)= !decide (k=0):=by
    by_cases h:k=0
    ·subst h; rfl
    ·have:0<k:=by omega
     simp [h,this]
   simp only [At.eta,Wy.ev_i,Wy.ev_k,Wy.ev_h,Wy.ev_bn,Wy.ev_d,tT,hk,hgt];rw [V_9 vat g a a a.length k _ ht hd (hg _ (zp hk)) _ (by omega)]
   have e1:decide ((a.getD k default).Cf<1)= !decide (1<=(a.getD k default).Cf):=by
    by_cases h:1<=(a.getD k default).Cf
    ·have:¬ (a.getD k default).Cf<1:=by omega
     simp only [h,this,decide_true,decide_false,Bool.not_true]
    ·have:(a.getD k default).Cf<1:=by omega
     simp only [h,this,decide_true,decide_false,Bool.not_false]
   have e3:decide ((a.getD k default).Cf>1152921504606846976)= !decide ((a.getD k default).Cf<=1152921504606846976):=by
    by_cases h:(a.getD k default).Cf<=1152921504606846976
    ·have:¬ (a.getD k default).Cf>1152921504606846976:=by omega
     simp only [h,this,decide_true,decide_false,Bool.not_true]
    ·have:(a.getD k default).Cf>1152921504606846976:=by omega
     simp only [h,this,decide_true,decide_false,Bool.not_false]
   rw [e1,e3];generalize decide (1<=(a.getD k default).Cf)=E1;generalize decide ((a.getD k default).Cf<=1152921504606846976)=E2;by_cases h0:k=0
   ·subst h0;simp only [decide_true,Bool.not_true,cond_false,Bool.true_or,Bool.and_true];cases okF vat (a.getD 0 default).Fs <;>cases E1 <;>cases E2 <;>try rfl
   ·have hp:IntKind.i64.wrap ((k:Int) - 1)=((k - 1:Nat):Int):=zCs (by omega) (by omega)
    have hk':k - 1<a.length:=by omega
    have hfx:zcs (zo d) (a.getD (k - 1) default).Fs:=h.2 _ (zp hk')
    have e2:∀ z:Int,decide (z≥0)= !decide (z<0):=λz=>by
     by_cases h:z<0
     ·have:¬ z≥0:=by omega
      simp [h,this]
     ·have:z≥0:=by omega
      simp [h,this]
    simp only [h0,hp,tT,hk',zz1 hfx hd,e2,Bool.false_or];generalize decide (zbO (zbE (a.getD (k - 1) default).Fs) (zbE (a.getD k default).Fs)<0)=E4;cases okF vat (a.getD k default).Fs <;>cases E1 <;>cases E2 <;>cases E4 <;>try rfl
    simp only [cond_true,cond_false,Bool.not_true,isL,getR,Bool.and_self];rw [zL (by omega),decide_eq_false (show ¬ ((k - 1:Nat):Int)<0 by omega)]; rfl)
  (λH K D=>by
   show (zll g a a a.length a.length).ev H K D=_;unfold zll;simp only [Wy.ev_i,Wy.ev_k,tT,Nat.lt_irrefl]) n hn
theorem zbfP (g:At->Bool×Bool) (a:yC) {d:Nat} (h:zo (d+1) a) (hd:d<=99) (hs:zP a<=4611686018427387904) (hg:∀ t∈a,∀ f∈t.Fs,g f.At=(true,vat f.At)):zox g a=(true,zAY vat a):=by
 unfold zox zGH zAY;have:=V_4 vat g a h hd hg (a.length+a.length+(Int.ofNat a.length).toNat +Int.toNat (0:Int)+(1:Nat)) (by omega)
 rw [show Int.ofNat a.length=(a.length:Int) from rfl] at *
 simp only [Wy.fin_i,Wy.fin_k,Wy.fin_bn,z9I h (by omega) hs,this,cond_true]
 cases zgb a <;>cases zeH (zHC vat a) a.length 0 <;>rfl
theorem zblz (g:At->Bool×Bool) (a:yC) (i:Int) (t:Term) {d:Nat} (ht:zcs (zo d) t.Fs) (hd:d<=99) (hg:∀ f∈t.Fs,g f.At=(true,vat f.At)) (hk:∀ x,vat x=true->0<=x.Kind/\x.Kind<=4) (n:Nat) (hn:t.Fs.length<n):
  zEo g n a i 0 t=(true,bif okF vat t.Fs then .inr (a,i) else .inl false):=by
 have hl:=ht.1
 exact zee (W:=zD7 g) (z:=.inl default) t.Fs.length (λk=>(a,i,(),(k:Int),())) (λ_=>(t,())) (zS0 vat t.Fs) (.inl false) (.inr (a,i))
  (λk hk1 H K D=>by
   show (zqi g a i k t).ev H K D=_;unfold zqi zS0
   have hgt:decide ((k:Int)>0)= !decide (k=0):=by
    by_cases h:k=0
    ·subst h; rfl
    ·have:0<k:=by omega
     simp [h,this]
   simp only [At.eta,Wy.ev_i,Wy.ev_k,Wy.ev_h,Wy.ev_bn,Wy.ev_d,tT,hk1,hg _ (zp hk1),hgt];rw [zL (by omega)]
   have hk2:=hk (t.Fs.getD k default).At
   have e1:decide ((t.Fs.getD k default).Exp<1)= !decide (1<=(t.Fs.getD k default).Exp):=by
    by_cases h:1<=(t.Fs.getD k default).Exp
    ·have:¬ (t.Fs.getD k default).Exp<1:=by omega
     simp only [h,this,decide_true,decide_false,Bool.not_true]
    ·have:(t.Fs.getD k default).Exp<1:=by omega
     simp only [h,this,decide_true,decide_false,Bool.not_false]
   rw [e1];by_cases hx1:1<=(t.Fs.getD k default).Exp
   rotate_left
   ·simp only [hx1,decide_false,Bool.not_false,cond_true,Bool.false_and,cond_false]
   cases hv:vat (t.Fs.getD k default).At with
   | false=>
    rw [Bool.and_false];cases decide (1<=(t.Fs.getD k default).Exp) <;>cases decide ((t.Fs.getD k default).Exp>1) <;>cases decide ((t.Fs.getD k default).At.Kind≥3) <;>rfl
   | true=>
   obtain ⟨k1,k2⟩:=hk2 hv
   have e5:((t.Fs.getD k default).At.Kind==3||(t.Fs.getD k default).At.Kind==4)=decide ((t.Fs.getD k default).At.Kind≥3):=by
    rw [zhL,zhL, <- Bool.decide_or];congr 1;apply propext; omega
   have e6:((t.Fs.getD k default).Exp != 1)=decide ((t.Fs.getD k default).Exp>1):=by
    rw [zAE, <- decide_not];congr 1;apply propext; omega
   rw [e5,e6];simp only [hx1,decide_true,Bool.not_true,cond_false,Bool.true_and];generalize decide ((t.Fs.getD k default).Exp>1)=E2;generalize decide ((t.Fs.getD k default).At.Kind≥3)=E3;by_cases h0:k=0
   ·simp only [h0,decide_true,Bool.not_true,cond_false,Bool.true_or,Bool.and_true];cases E2 <;>cases E3 <;>rfl
   ·have hp:IntKind.i64.wrap ((k:Int) - 1)=((k - 1:Nat):Int):=zCs (by omega) (by omega)
    have hk':k - 1<t.Fs.length:=by omega
    have hfx:zdd (zo d) (t.Fs.getD (k - 1) default).At:=ht.2 _ (zp hk')
    have e2:∀ z:Int,decide (z≥0)= !decide (z<0):=λz=>by
     by_cases h:z<0
     ·have:¬ z≥0:=by omega
      simp [h,this]
     ·have:z≥0:=by omega
      simp [h,this]
    simp only [h0,hp,tT,hk',zqp hfx hd,e2,Bool.false_or];generalize decide (zbf (zdw (t.Fs.getD (k - 1) default).At) (zdw (t.Fs.getD k default).At)<0)=E4;cases E2 <;>cases E3 <;>cases E4 <;>rfl)
  (λH K D=>by
   show (zqi g a i t.Fs.length t).ev H K D=_;unfold zqi;simp only [Wy.ev_i,Wy.ev_k,tT,Nat.lt_irrefl]) n hn
theorem zbl9 (g:At->Bool×Bool) (a:yC) {d:Nat} (h:zo (d+1) a) (hd:d<=99) (hg:∀ t∈a,∀ f∈t.Fs,g f.At=(true,vat f.At)) (hk:∀ x,vat x=true->0<=x.Kind/\x.Kind<=4) (n:Nat) (hn:a.length<n):
  zOI g n a 0=(true,bif zeH (zHC vat a) a.length 0 then .inr () else .inl false):=by
 have hl:=h.1
 exact zee (W:=zFg g) (z:=.inl default) a.length (λk=>(a,(k:Int),())) (λ_=>()) (zHC vat a) (.inl false) (.inr ())
  (λk hk1 H K D=>by
   show (zsd g a k).ev H K D=_;unfold zsd zHC;have ht:=h.2 _ (zp hk1)
   have hgt:decide ((k:Int)>0)= !decide (k=0):=by
    by_cases h:k=0
    ·subst h; rfl
    ·have:0<k:=by omega
     simp [h,this]
   simp only [At.eta,Wy.ev_i,Wy.ev_k,Wy.ev_h,Wy.ev_bn,Wy.ev_d,tT,hk1,hgt];rw [zblz vat g a k _ ht hd (hg _ (zp hk1)) hk _ (by omega)]
   have e1:decide ((a.getD k default).Cf<1)= !decide (1<=(a.getD k default).Cf):=by
    by_cases h:1<=(a.getD k default).Cf
    ·have:¬ (a.getD k default).Cf<1:=by omega
     simp only [h,this,decide_true,decide_false,Bool.not_true]
    ·have:(a.getD k default).Cf<1:=by omega
     simp only [h,this,decide_true,decide_false,Bool.not_false]
   have e3:decide ((a.getD k default).Cf>1152921504606846976)= !decide ((a.getD k default).Cf<=1152921504606846976):=by
    by_cases h:(a.getD k default).Cf<=1152921504606846976
    ·have:¬ (a.getD k default).Cf>1152921504606846976:=by omega
     simp only [h,this,decide_true,decide_false,Bool.not_true]
    ·have:(a.getD k default).Cf>1152921504606846976:=by omega
     simp only [h,this,decide_true,decide_false,Bool.not_false]
   rw [e1,e3];generalize decide (1<=(a.getD k default).Cf)=E1;generalize decide ((a.getD k default).Cf<=1152921504606846976)=E2;by_cases h0:k=0
   ·subst h0;simp only [decide_true,Bool.not_true,cond_false,Bool.true_or,Bool.and_true];cases okF vat (a.getD 0 default).Fs <;>cases E1 <;>cases E2 <;>try rfl
   ·have hp:IntKind.i64.wrap ((k:Int) - 1)=((k - 1:Nat):Int):=zCs (by omega) (by omega)
    have hk':k - 1<a.length:=by omega
    have hfx:zcs (zo d) (a.getD (k - 1) default).Fs:=h.2 _ (zp hk')
    have e2:∀ z:Int,decide (z≥0)= !decide (z<0):=λz=>by
     by_cases h:z<0
     ·have:¬ z≥0:=by omega
      simp [h,this]
     ·have:z≥0:=by omega
      simp [h,this]
    simp only [h0,hp,tT,hk',zt0 hfx hd,e2,Bool.false_or];generalize decide (zbO (zbE (a.getD (k - 1) default).Fs) (zbE (a.getD k default).Fs)<0)=E4;cases okF vat (a.getD k default).Fs <;>cases E1 <;>cases E2 <;>cases E4 <;>try rfl
    simp only [cond_true,cond_false,Bool.not_true,isL,getR,Bool.and_self];rw [zL (by omega),decide_eq_false (show ¬ ((k - 1:Nat):Int)<0 by omega)]; rfl)
  (λH K D=>by
   show (zsd g a a.length).ev H K D=_;unfold zsd;simp only [Wy.ev_i,Wy.ev_k,tT,Nat.lt_irrefl]) n hn
theorem zbdu (g:At->Bool×Bool) (a:yC) {d:Nat} (h:zo (d+1) a) (hd:d<=99) (hs:zP a<=4611686018427387904) (hg:zgb a=true->∀ t∈a,∀ f∈t.Fs,g f.At=(true,vat f.At)) (hk:∀ x,vat x=true->0<=x.Kind/\x.Kind<=4):zzX g a=(true,zAY vat a):=by
 unfold zzX zRF zAY;rw [Wy.fin_bn,zbek h (by omega) hs]
 cases hw:zgb a with
 | false=>rfl
 | true=>
  have:=zbl9 vat g a h hd (hg hw) hk ((a.length+Int.toNat (0:Int)+(1:Nat))+zb6 a) (by omega)
  simp only [Wy.fin_i,Wy.fin_k,Wy.fin_bn,this,cond_true];cases zeH (zHC vat a) a.length 0 <;>rfl
end
theorem z3R {l:yA} {a:yC} (h:a∈l):zP a<=zfN l:=by
 induction l with
 | nil=>cases h
 | cons b r ih=>
  rw [zfm];rcases qd.1 h with rfl | h
  ·omega
  ·have:=ih h; omega
theorem zZA {l:yE} {w:Wd} (h:w∈l):zP w.Ann<=zdy l:=by
 induction l with
 | nil=>cases h
 | cons b r ih=>
  rw [zi2];rcases qd.1 h with rfl | h
  ·omega
  ·have:=ih h; omega
theorem zOX {m:Nat} {a:yC} (h:zbD m a=true):isB a=isU a:=by
 cases m with
 | zero=>cases h
 | succ m=>
 match a with
 | []=>rfl
 | [t]=>
  simp only [zbD,zAY,qc] at h;have h1:=zed.1 h.2 0 (by omega) (by simp)
  simp only [zHC,qc] at h1;have h2:=h1.2;obtain ⟨c,fs⟩:=t
  match fs with
  | []=>rfl
  | [f]=>
   have h3:=zed.1 h2 0 (by omega) (by simp)
   simp only [zS0,qc] at h3;have h4:=zHh h3.2;simp only [List.getD_cons_zero] at h4;show (c==1&&(f.Exp==1&&decide (2<=f.At.Kind)))=(c==1&&(f.Exp==1&&(f.At.Kind==2||f.At.Kind==3||f.At.Kind==4)))
   have e:decide (2<=f.At.Kind)=(f.At.Kind==2||f.At.Kind==3||f.At.Kind==4):=by
    rw [zhL,zhL,zhL, <- Bool.decide_or, <- Bool.decide_or];congr 1;apply propext; omega
   rw [e]
  | f::f'::r=>rfl
 | t::u::r=>rfl
theorem zblD (g) (l:yA):zcS g l=IG (λ(_:Unit) x=>g x) (l.length+(Int.ofNat l.length).toNat +Int.toNat (0:Int)+(1:Nat)) () l:=rfl
theorem zblx (g) (l:yE):zdn g l=IG (λ(_:Unit) x=>g x) (l.length+(Int.ofNat l.length).toNat +Int.toNat (0:Int)+(1:Nat)) () l:=rfl
theorem zRJ:∀ n,
  (∀ d m a,zo d a->10*d<=n->d<=m->d<=100->zP a<=4611686018427387904->zk7 n a=(true,zbD m a))/\
  (∀ d m x,zdd (zo d) x->10*d+9<=n->d<=m->d<=99->zfO x<=4611686018427387904->zn9 n x=(true,zen (zbD m) x))/\
  (∀ d m a,zo d a->10*d+6<=n->d<=m->d<=99->zP a<=4611686018427387904->zfI n a=(true, !(zbD m a&& !(a.length==0))))/\
  (∀ d m (w:Wd),zo d w.Ann->10*d+6<=n->d<=m->d<=99->zP w.Ann<=4611686018427387904->zfH n w=(true, !(zbD m w.Ann&& !(w.Ann.length==0))))/\
  (∀ d m (l:yA),l.length<=1000000->(∀ a∈l,zo d a/\zP a<=4611686018427387904)->10*d+7<=n->d<=m->d<=99->zcT n l=(true,ixf (λa=> !(zbD m a&& !(a.length==0))) l 0))/\
  (∀ d m (l:yA),l.length<=1000000->(∀ a∈l,zo d a/\zP a<=4611686018427387904)->10*d+8<=n->d<=m->d<=99->zcH n l=(true, !zr0 (zbD m) l))/\
  (∀ d m (l:yE),l.length<=1000000->(∀ a∈l,zo d a.Ann/\zP a.Ann<=4611686018427387904)->10*d+7<=n->d<=m->d<=99->zdl n l=(true,ixf (λa=> !(zbD m a.Ann&& !(a.Ann.length==0))) l 0))/\
  (∀ d m (l:yE),l.length<=1000000->(∀ a∈l,zo d a.Ann/\zP a.Ann<=4611686018427387904)->10*d+8<=n->d<=m->d<=99->zc1 n l=(true, !zFV (zbD m) l))
 | 0=>by
  refine ⟨?_, ?_, ?_, ?_, ?_, ?_, ?_, ?_⟩
  ·intro d m a h hd; have:d=0:=by omega
   subst this; exact h.elim
  all_goals (intros; omega)
 | n+1=>by
  obtain ⟨h1,h2,h3,h4,h5,h6,h7,h8⟩:=zRJ n;refine ⟨?_, ?_, ?_, ?_, ?_, ?_, ?_, ?_⟩
  ·intro d m a h hd hm hd2 hs;cases d with
   | zero=>exact h.elim
   | succ d=>
    cases m with
    | zero=>omega
    | succ m=>
     rw [zUu]
     exact zbfP _ _ a h (by omega) hs λt ht f hf=>h2 d m f.At ((h.2 t ht).2 f hf) (by omega) (by omega) (by omega) (by
      have:=z78 ht hf; rw [zhW]; omega)
  ·intro d m x h hd hm hd2 hs;rw [zND];rw [zhW] at hs
   exact z8p _ _ _ _ _ x h hd2 (h6 d m _ h.1.1 (λa ha=>⟨h.2.1 a ha,by have:=z3R ha; omega⟩) (by omega) hm hd2)
    (h8 d m _ h.1.2.1 (λa ha=>⟨(h.2.2 a ha).2,by have:=zZA ha; omega⟩) (by omega) hm hd2)
  ·intro d m a h hd hm hd2 hs;rw [zIW];unfold zlx zyx;rw [Wy.fin_bn,h1 d m a h (by omega) hm (by omega) hs]
   simp only [cond_true,Wy.fin_i,Wy.fin_k,show (Int.ofNat a.length==(0:Int))=(a.length==0) from zzr a.length 0]
   cases zbD m a <;>simp
  ·intro d m a h hd hm hd2 hs;rw [zJo];unfold zlr zyz;rw [Wy.fin_bn,h1 d m a.Ann h (by omega) hm (by omega) hs]
   simp only [cond_true,Wy.fin_i,Wy.fin_k,show (Int.ofNat a.Ann.length==(0:Int))=(a.Ann.length==0) from zzr a.Ann.length 0]
   cases zbD m a.Ann <;>simp
  ·intro d m l hl h hd hm hd2;rw [znV,zblD];exact zNP _ _ _ _ _ (by omega) (λx hx=>h3 d m x (h x hx).1 (by omega) hm hd2 (h x hx).2) (by omega)
  ·intro d m l hl h hd hm hd2;rw [zmQ];unfold zcG zfZ;rw [zlO (h5 d m l hl h (by omega) hm hd2)]
   simp [zr0,List.all_eq_not_any_not]
  ·intro d m l hl h hd hm hd2;rw [zp8,zblx];exact zNP _ _ _ _ _ (by omega) (λx hx=>h4 d m x (h x hx).1 (by omega) hm hd2 (h x hx).2) (by omega)
  ·intro d m l hl h hd hm hd2;rw [zor];unfold zcZ zha;rw [zlO (h7 d m l hl h (by omega) hm hd2)]
   simp [zFV,List.all_eq_not_any_not]
theorem zbdB {a:yC} (h:zgb a=true) {t:Term} (ht:t∈a) {f:Fc} (hf:f∈t.Fs):f.At.Items.length<=1024/\f.Exp<=64/\t.Fs.length<=64:=by
 simp only [zgb,qc,List.all_eq_true] at h;have:=h.2 t ht;simp only [zE7,Bool.not_eq_true',Bool.or_eq_false_iff,decide_eq_false_iff_not,List.any_eq_false] at this;have h2:=this.2 f hf;simp at h2;omega
theorem z5Y:∀ n,
  (∀ d m a,zo d a->3*d<=n->d<=m->d<=100->zP a<=4611686018427387904->zAg n a=(true,zbD m a))/\
  (∀ d m x,zdd (zo d) x->3*d+2<=n->d<=m->d<=99->zfO x<=4611686018427387904->x.Items.length<=1024->zwq n x=(true,zen (zbD m) x))
 | 0=>by
  refine ⟨?_, ?_⟩
  ·intro d m a h hd; have:d=0:=by omega
   subst this; exact h.elim
  ·intros; omega
 | n+1=>by
  obtain ⟨h1,h2⟩:=z5Y n;refine ⟨?_, ?_⟩
  ·intro d m a h hd hm hd2 hs;cases d with
   | zero=>exact h.elim
   | succ d=>
    cases m with
    | zero=>omega
    | succ m=>
     rw [z5C]
     exact zbdu _ _ a h (by omega) hs (λhw t ht f hf=>h2 d m f.At ((h.2 t ht).2 f hf) (by omega) (by omega) (by omega) (by
      have:=z78 ht hf; rw [zhW]; omega) (zbdB hw ht hf).1) λx hx=>zHh hx
  ·intro d m x h hd hm hd2 hs h10;rw [zU5];rw [zhW] at hs
   exact z52 _ _ x h hd2 h10 (λa ha=>zOX ha) (λa ha=>h1 d m a (h.2.1 a ha) (by omega) hm (by omega) (by have:=z3R ha; omega))
    λa ha=>h1 d m a.Ann (h.2.2 a ha).2 (by omega) hm (by omega) (by have:=zZA ha; omega)
def zV (a:yC):Bool:=zbD 100 a
theorem zbad {d:Nat} {a:yC} (h:zo d a) (hd:d<=100) (hs:zP a<=4611686018427387904):zca a=(true,zV a):=(zRJ 1000).1 d 100 a h (by omega) hd hd hs
theorem z68 {d:Nat} {a:yC} (h:zo d a) (hd:d<=100) (hs:zP a<=4611686018427387904):zfa a=(true,zV a):=(z5Y 1000).1 d 100 a h (by omega) hd hd hs
theorem zJS {τ:Type} [Inhabited τ] {l:List τ} {x:τ} (h:x∈l):∃ i,i<l.length/\l.getD i default=x:=by
 obtain ⟨i,hi,e⟩:=List.mem_iff_getElem.1 h;exact ⟨i,hi,by rw [List.getD_eq_getElem?_getD,List.getElem?_eq_getElem hi]; exact e⟩
theorem zK0 {vat:At->Bool} {a:yC} (h:zAY vat a=true):zgb a=true:=by
 simp only [zAY,qc] at h; exact h.1
theorem zyo {vat:At->Bool} {a:yC} (h:zAY vat a=true) {t:Term} (ht:t∈a):(1<=t.Cf/\t.Cf<=1152921504606846976)/\okF vat t.Fs=true:=by
 simp only [zAY,qc] at h;obtain ⟨i,hi,rfl⟩:=zJS ht;have:=zed.1 h.2 i (by omega) (by omega)
 simp only [zHC,qc,qe] at this;exact ⟨this.1.1,this.2⟩
theorem zq3 {vat:At->Bool} {fs:yD} (h:okF vat fs=true) {f:Fc} (hf:f∈fs):(1<=f.Exp/\(f.At.Kind=3\/f.At.Kind=4->f.Exp=1))/\vat f.At=true:=by
 obtain ⟨i,hi,rfl⟩:=zJS hf;have:=zed.1 h i (by omega) (by omega)
 simp only [zS0,qc,qe] at this;refine ⟨⟨this.1.1.1,λhk=> ?_⟩,this.2⟩
 have h2:=this.1.1.2;rcases hk with hk | hk
 ·rw [hk] at h2; simpa using h2
 ·rw [hk] at h2; simpa using h2
theorem zbjV {b:Value} (h:bz b=true):b=⟨0,0,ByteArray.mk #[]⟩:=by
 unfold bz at h;rw [z1k] at h;simp only [qc,beq_iff_eq,qe,and_true] at h;obtain ⟨k,i,t⟩:=b;simp only at h;obtain ⟨rfl,rfl,rfl⟩:=h;rfl
theorem zyv {v:Value} (h:zwH v=true):v.Text.size<=255:=by
 simp only [zwH,Bool.or_eq_true,qc,beq_iff_eq,qe] at h;omega
theorem zVk {x:At} (h:plA x=true):x.Func=0/\x.Items=[]/\x.Op=0/\x.Bd=⟨0,0,ByteArray.mk #[]⟩:=by
 simp only [plA,qc,beq_iff_eq] at h;exact ⟨h.1.1.1,List.length_eq_zero_iff.1 h.1.1.2,h.1.2,zbjV h.2⟩
theorem zbjf {r:RowID} (h:rz r=true):r=⟨0,0⟩:=by
 simp only [rz,qc,beq_iff_eq,and_true] at h;obtain ⟨t,s⟩:=r;simp only at h;obtain ⟨rfl,rfl⟩:=h; rfl
inductive VA (V:yC->Bool):At->Prop
 | var (r:RowID) (h:zDq r=true):VA V ⟨0,r,[],0,[],0,⟨0,0,ByteArray.mk #[]⟩⟩
 | mon (a b:yC) (ha:V a=true) (hb:V b=true) (ha0:a≠[]) (hb0:b≠[]) (h:a≠b):VA V ⟨1,⟨0,0⟩,[a,b],0,[],0,⟨0,0,ByteArray.mk #[]⟩⟩
 | del (a:yC) (ha:V a=true) (ha0:a≠[]) (h:isC a=false) (h':isU a=false):VA V ⟨2,⟨0,0⟩,[a],0,[],0,⟨0,0,ByteArray.mk #[]⟩⟩
 | abs (a:yC) (ha:V a=true) (ha0:a≠[]) (h:zvI a=false):VA V ⟨3,⟨0,0⟩,[a],0,[],0,⟨0,0,ByteArray.mk #[]⟩⟩
 | tst (f:Int) (l:yE) (o:Int) (b:Value) (hl:l≠[]) (hi:∀ w∈l,V w.Ann=true/\w.Ann≠[]) (hs:zZQ l=true) (hf:zD9 f l o b=true):VA V ⟨4,⟨0,0⟩,[],f,l,o,b⟩
theorem zdL {V:yC->Bool} {x:At}:zen V x=true↔VA V x:=by
 constructor
 ·intro h;have hk:=zHh h;obtain ⟨k,r,l,f,its,o,b⟩:=x;simp only at hk;unfold zen at h;simp only [qc] at h;obtain ⟨h1,h2⟩:=h
  have ha:∀ a∈l,V a=true/\a≠[]:=λa ha=>by
   have:=List.all_eq_true.1 h1 a ha;simp only [qc,Bool.not_eq_true',beq_eq_false_iff_ne] at this;exact ⟨this.1,λe=>this.2 (by rw [e]; rfl)⟩
  by_cases h0:k=0
  ·subst h0;simp only [if_true,qc,beq_iff_eq] at h2;obtain ⟨e1,e2,e3,e4⟩:=zVk h2.1.1;simp only at e1 e2 e3 e4;subst e1 e2 e3 e4;obtain rfl:l=[]:=List.length_eq_zero_iff.1 h2.2;exact .var r h2.1.2
  simp only [h0,if_false,qc] at h2;obtain ⟨hr,h2⟩:=h2;have hr':=zbjf hr;subst hr';by_cases h0':k=1
  ·subst h0';simp only [if_true,qc] at h2;obtain ⟨e1,e2,e3,e4⟩:=zVk h2.1;simp only at e1 e2 e3 e4;subst e1 e2 e3 e4
   match l,h2.2,ha with
   | [a,b],h3,ha=>exact .mon a b (ha a (by simp)).1 (ha b (by simp)).1 (ha a (by simp)).2 (ha b (by simp)).2 (by simpa [z7A] using h3)
  simp only [h0',if_false] at h2;by_cases h2':k=2
  ·subst h2';simp only [if_true,qc] at h2;obtain ⟨e1,e2,e3,e4⟩:=zVk h2.1;simp only at e1 e2 e3 e4;subst e1 e2 e3 e4
   match l,h2.2,ha with
   | [a],h3,ha=>
    simp only [zJP,qc,Bool.not_eq_true'] at h3;exact .del a (ha a (by simp)).1 (ha a (by simp)).2 h3.1 h3.2
  simp only [h2',if_false] at h2;by_cases h3':k=3
  ·subst h3';simp only [if_true,qc] at h2;obtain ⟨e1,e2,e3,e4⟩:=zVk h2.1;simp only at e1 e2 e3 e4;subst e1 e2 e3 e4
   match l,h2.2,ha with
   | [a],h3,ha=>
    simp only [zJP,Bool.not_eq_true'] at h3;exact .abs a (ha a (by simp)).1 (ha a (by simp)).2 h3
  simp only [h3',if_false] at h2;have h4':k=4:=by omega
  subst h4';simp only [if_true,qc,beq_iff_eq,qe] at h2;obtain ⟨⟨⟨⟨h3,h4⟩,h5⟩,h6⟩,h7⟩:=h2;obtain rfl:l=[]:=List.length_eq_zero_iff.1 h3
  exact .tst f its o b (λe=>by rw [e] at h4; simp at h4) (λw hw=>by
   have:=List.all_eq_true.1 h5 w hw;simp only [qc,Bool.not_eq_true',beq_eq_false_iff_ne] at this;exact ⟨this.1,λe=>this.2 (by rw [e]; rfl)⟩) h6 h7
 ·intro h
  have ne:∀ a:yC,a≠[]->(a.length==0)=false:=λa ha=>by
   rw [beq_eq_false_iff_ne]; exact λe=>ha (List.length_eq_zero_iff.1 e)
  cases h with
  | var r h=>simp [zen,zr0,plA,bz,h]
  | mon a b ha hb ha0 hb0 h=>simp [zen,zr0,plA,bz,rz,z7A,ha,hb,ha0,hb0,h]
  | del a ha ha0 h h'=>simp [zen,zr0,plA,bz,rz,zJP,ha,ha0,h,h']
  | abs a ha ha0 h=>simp [zen,zr0,plA,bz,rz,zJP,ha,ha0,h]
  | tst f l o b hl hi hs hf=>
   have h1:zFV V l=true:=List.all_eq_true.2 λw hw=>by rw [(hi w hw).1,ne _ (hi w hw).2]; rfl
   have h2:0<l.length:=by
    cases l with
    | nil=>exact absurd rfl hl
    | cons x r=>simp
   simp [zen,zr0,rz,h1,hs,hf,h2]
theorem zuL {a:yC} (h:zgb a=true):a.length<=512/\zbt a<=8/\zP a<=4096/\∀ t∈a,t.Fs.length<=64/\∀ f∈t.Fs,f.Exp<=64/\f.At.Items.length<=1024:=by
 simp only [zgb,qc,List.all_eq_true,qe] at h;refine ⟨h.1.1.1,h.1.1.2,h.1.2,λt ht=> ?_⟩
 have:=h.2 t ht;simp only [zE7,Bool.not_eq_true',Bool.or_eq_false_iff,decide_eq_false_iff_not,List.any_eq_false] at this;refine ⟨by omega,λf hf=> ?_⟩
 have h2:=this.2 f hf;simp at h2;omega
theorem z6A {a:yC} {t:Term} (h:t∈a):zdH t.Fs<=zbt a:=by
 induction a with
 | nil=>cases h
 | cons b r ih=>
  rw [zof];rcases qd.1 h with rfl | h
  ·omega
  ·have:=ih h; omega
theorem zTt {l:yD} {f:Fc} (h:f∈l):zpa f.At<=zdH l:=by
 induction l with
 | nil=>cases h
 | cons b r ih=>
  rw [zj9];rcases qd.1 h with rfl | h
  ·omega
  ·have:=ih h; omega
theorem zR3 {l:yA} {a:yC} (h:a∈l):zbt a<=znE l:=by
 induction l with
 | nil=>cases h
 | cons b r ih=>
  rw [zGS];rcases qd.1 h with rfl | h
  ·omega
  ·have:=ih h; omega
theorem zbbu {l:yE} {w:Wd} (h:w∈l):zbt w.Ann<=zl7 l:=by
 induction l with
 | nil=>cases h
 | cons b r ih=>
  rw [zE4];rcases qd.1 h with rfl | h
  ·omega
  ·have:=ih h; omega
theorem zvb {f:Int} {l:yE} {o:Int} {b:Value} (h:zD9 f l o b=true):(0<=f/\f<=3/\5<=o/\o<=10)/\zwH b=true/\∀ w∈l,zwH w.Value=true/\w.Value.Kind=b.Kind:=by
 simp only [zD9,qc,List.all_eq_true,qe] at h;obtain ⟨⟨⟨⟨⟨⟨h1,h2⟩,h3⟩,h4⟩,h5⟩,h6⟩,h7⟩:=h;refine ⟨⟨h1,h2,h3,h4⟩,h5,λw hw=> ?_⟩
 have:=h7 w hw;simp only [zPW,qc,beq_iff_eq] at this;exact this.1
theorem z7z:∀ (m:Nat) (a:yC),zbD m a=true->zo (zbt a+1) a
 | 0,a,h=>by cases h
 | m+1,a,h=>by
  have hw:=zuL (zK0 h);refine ⟨by omega,λt ht=> ?_⟩
  obtain ⟨_,hok⟩:=zyo h ht;obtain ⟨h1,h2⟩:=hw.2.2.2 t ht;refine ⟨by omega,λf hf=> ?_⟩
  have hv:=zdL.1 (zq3 hok hf).2;have hn:zpa f.At<=zbt a:=Nat.le_trans (zTt hf) (z6A ht);have h3:=(h2 f hf).2;generalize f.At=x at hv hn h3;rw [zHf] at hn;have ih:∀ b,zbD m b=true->zbt b+1<=zbt a->zo (zbt a) b:=λb hb hl=>(z7z m b hb).mono hl
  cases hv with
  | var r h=>exact ⟨⟨by simp,by simp,by show (ByteArray.mk #[]).size<=_; decide⟩,λa ha=>(by cases ha),λw hw=>(by cases hw)⟩
  | mon b c hb hc _ _ _=>
   simp only at hn;refine ⟨⟨by simp,by simp,by show (ByteArray.mk #[]).size<=_; decide⟩,λy hy=> ?_,λw hw=>(by cases hw)⟩
   have:=zR3 hy;simp only at this;simp only [qd,List.not_mem_nil,or_false] at hy;rcases hy with rfl | rfl
   ·exact ih _ hb (by simp at hn; omega)
   ·exact ih _ hc (by simp at hn; omega)
  | del b hb _ _ _=>
   refine ⟨⟨by simp,by simp,by show (ByteArray.mk #[]).size<=_; decide⟩,λy hy=> ?_,λw hw=>(by cases hw)⟩
   have:=zR3 hy;simp only at this;simp only [qd,List.not_mem_nil,or_false] at hy;subst hy;exact ih _ hb (by simp at hn; omega)
  | abs b hb _ _=>
   refine ⟨⟨by simp,by simp,by show (ByteArray.mk #[]).size<=_; decide⟩,λy hy=> ?_,λw hw=>(by cases hw)⟩
   have:=zR3 hy;simp only at this;simp only [qd,List.not_mem_nil,or_false] at hy;subst hy;exact ih _ hb (by simp at hn; omega)
  | tst fn l o b hl hi hs hf=>
   obtain ⟨_,hb,hit⟩:=zvb hf;refine ⟨⟨by simp,by simp only at h3 ⊢; omega,by have:=zyv hb; simp only; omega⟩,λy hy=>(by cases hy),λw hw=>⟨by have:=zyv (hit w hw).1; omega, ?_⟩⟩
   have:=zbbu hw;simp only at this;exact ih _ (hi w hw).1 (by simp at hn; omega)
theorem ze1 {m:Nat} {a:yC} (h:zbD m a=true):zo 9 a/\zP a<=4096/\a.length<=512:=by
 cases m with
 | zero=>cases h
 | succ m=>
 have hw:=zuL (zK0 h);exact ⟨(z7z _ a h).mono (by omega),hw.2.2.1,hw.1⟩
theorem z9U {d m m':Nat} {a:yC} (h:zo d a) (hd:d<=100) (h1:d<=m) (h2:d<=m') (hs:zP a<=4611686018427387904):zbD m a=zbD m' a:=by
 have e1:=(zRJ 1000).1 d m a h (by omega) h1 hd hs
 have e2:=(zRJ 1000).1 d m' a h (by omega) h2 hd hs
 rw [e1] at e2;exact (Prod.mk.injEq _ _ _ _ ▸ e2).2
theorem zbck {m:Nat} {a:yC} (h:zbD m a=true) (hm:9<=m):zV a=true:=by
 obtain ⟨h1,h2,h3⟩:=ze1 h;rw [<- h]; exact z9U h1 (by omega) (by omega) hm (by omega)
theorem zVo {m:Nat} {a:yC} (h:zV a=true) (hm:9<=m):zbD m a=true:=by
 obtain ⟨h1,h2,h3⟩:=ze1 h;rw [<- h]; exact z9U h1 (by omega) hm (by omega) (by omega)
theorem VA.imp {V V':yC->Bool} (hV:∀ a,V a=true->V' a=true) {x:At} (h:VA V x):VA V' x:=by
 cases h with
 | var r h=>exact .var r h
 | mon a b ha hb ha0 hb0 h=>exact .mon a b (hV a ha) (hV b hb) ha0 hb0 h
 | del a ha ha0 h h'=>exact .del a (hV a ha) ha0 h h'
 | abs a ha ha0 h=>exact .abs a (hV a ha) ha0 h
 | tst f l o b hl hi hs hf=>exact .tst f l o b hl (λw hw=>⟨hV _ (hi w hw).1,(hi w hw).2⟩) hs hf
def zpw (x:At):Bool:=zen zV x
theorem zbgS {m:Nat} (hm:9<=m):zen (zbD m)=zpw:=by
 funext x
 rw [Bool.eq_iff_iff];unfold zpw;rw [zdL,zdL];exact ⟨VA.imp λa h=>zbck h hm,VA.imp λa h=>zVo h hm⟩
theorem z7i (a:yC):zV a=zAY zpw a:=by
 show zAY (zen (zbD 99)) a=_;rw [zbgS (by omega)]
theorem z5F {τ:Type} [Inhabited τ] {l:List τ} {i:Nat} (h:i<l.length):l.set i (l.getD i default)=l:=by
 rw [List.getD_eq_getElem?_getD,List.getElem?_eq_getElem h]; simp
section
variable (g:yC->Bool×yC) (gx:At->Bool×At)
theorem zbmg (t8:yC) (t9 t10:Int) (out:yC) (t:Term) (l:yD) (hl:l.length<=1000000) (hg:∀ f∈l,gx f.At=(true,f.At)) (n:Nat) (hn:l.length<n):
  zEN gx n t8 t9 t10 l.length 0 out t l=(true,(t8,t9,t10,out,t,l)):=by
 have:=zee (W:=zvj gx) (z:=default) l.length (λi=>((),(),(),t8,t9,t10,(l.length:Int),(i:Int),())) (λ_=>(out,t,l,())) (λ_=>true) default (t8,t9,t10,out,t,l)
  (λi hi H K D=>by
   show (zkI gx t8 t9 t10 l.length i out t l).ev H K D=_;unfold zkI;simp only [At.eta,Wy.ev_i,Wy.ev_k,Wy.ev_h,Wy.ev_bn,Wy.ev_d,tT,hi,hg _ (zp hi)];rw [zL (by omega)]
   have:(l.set i (⟨(l.getD i default).At,(l.getD i default).Exp⟩:Fc))=l:=z5F hi;rw [this])
  (λH K D=>by
   show (zkI gx t8 t9 t10 l.length l.length out t l).ev H K D=_;unfold zkI;simp only [Wy.ev_i,Wy.ev_k,tT,Nat.lt_irrefl]) n hn
 rw [show zeH (λ_=>true) l.length 0=true from zed.2 λ_ _ _=>rfl] at this
 exact this
theorem zbl5 (a:yC) (hl:a.length<=1000000) (hg:∀ t∈a,t.Fs.length<=1000000/\∀ f∈t.Fs,gx f.At=(true,f.At)) (n:Nat) (hn:a.length<n):
  zEW gx n a a.length 0 []=(true,a):=by
 have hreach:zN=70368744177664:=rfl
 have:=zee (W:=zvt gx) (z:=default) a.length (λi=>((),a,(a.length:Int),(i:Int),())) (λi=>(a.take i,())) (λ_=>true) default a
  (λi hi H K D=>by
   show (zkG gx a a.length i (a.take i)).ev H K D=_;unfold zkG zfF;obtain ⟨h1,h2⟩:=hg _ (zp hi);have hb:decide ((a.getD i default).Fs.length*128<=zN)=true:=by simp only [qe]; omega
   simp only [Wy.ev_i,Wy.ev_k,Wy.ev_h,Wy.ev_bn,Wy.ev_d,tT,hi,hb];rw [zbmg gx a a.length i (a.take i) _ _ h1 h2 _ (by omega)]
   have hb2:decide (((a.take i).length+1)*32<=zN)=true:=by simp only [qe,List.length_take]; omega
   simp only [cond_true,List.length_singleton,hb2];rw [zL (by omega),zhu hi])
  (λH K D=>by
   show (zkG gx a a.length a.length (a.take a.length)).ev H K D=_;unfold zkG;simp only [Wy.ev_i,Wy.ev_k,tT,Nat.lt_irrefl,List.take_length]) n hn
 rw [show zeH (λ_=>true) a.length 0=true from zed.2 λ_ _ _=>rfl] at this
 exact this
end
section
variable (g:yC->Bool×yC)
theorem zblQ (l:yA) (hl:l.length<=1000000) (hg:∀ a∈l,g a=(true,a)) (n:Nat) (hn:l.length<n) (x0 x1 x2 x3:Int) (x4:yE) (x5 x6 x7:Int) (x8:ByteArray) (t0 t1 t2 t3 t4 t5 t6:Int) (t7:ByteArray):
  zzM g n l.length 0 x0 x1 x2 x3 x4 x5 x6 x7 x8 t0 t1 t2 t3 t4 t5 t6 t7 l=(true,(x0,x1,x2,x3,x4,x5,x6,x7,x8,t0,t1,t2,t3,t4,t5,t6,t7,l)):=by
 have:=zee (W:=zpz g) (z:=default) l.length (λi=>((),(),(l.length:Int),(i:Int),())) (λ_=>((x0,x1,x2,(),x3,x4,x5,x6,x7,x8,()),(t0,t1,t2,(),t3,(),t4,t5,t6,t7,()),l,())) (λ_=>true) default (x0,x1,x2,x3,x4,x5,x6,x7,x8,t0,t1,t2,t3,t4,t5,t6,t7,l)
  (λi hi H K D=>by
   show (zhg g l.length i x0 x1 x2 x3 x4 x5 x6 x7 x8 t0 t1 t2 t3 t4 t5 t6 t7 l).ev H K D=_;unfold zhg;simp only [Wy.ev_i,Wy.ev_k,Wy.ev_h,Wy.ev_bn,Wy.ev_d,tT,hi,hg _ (zp hi)];rw [zL (by omega),z5F hi])
  (λH K D=>by
   show (zhg g l.length l.length x0 x1 x2 x3 x4 x5 x6 x7 x8 t0 t1 t2 t3 t4 t5 t6 t7 l).ev H K D=_;unfold zhg;simp only [Wy.ev_i,Wy.ev_k,tT,Nat.lt_irrefl]) n hn
 rw [show zeH (λ_=>true) l.length 0=true from zed.2 λ_ _ _=>rfl] at this
 exact this
theorem zblB (l:yE) (hl:l.length<=1000000) (hg:∀ a∈l,g a.Ann=(true,a.Ann)) (n:Nat) (hn:l.length<n) (x0 x1 x2 x3 x4 x5 x6:Int) (x7:ByteArray) (t0 t1 t2 t3 t4 t5 t6:Int) (t7:ByteArray) (b2:yA):
  zz7 g n l.length 0 x0 x1 x2 x3 x4 x5 x6 x7 t0 t1 t2 t3 t4 t5 t6 t7 b2 l=(true,(x0,x1,x2,x3,x4,x5,x6,x7,t0,t1,t2,t3,t4,t5,t6,t7,b2,l)):=by
 have:=zee (W:=zpM g) (z:=default) l.length (λi=>((),(),(l.length:Int),(i:Int),())) (λ_=>((x0,x1,x2,(),x3,(),x4,x5,x6,x7,()),(t0,t1,t2,(),t3,(),t4,t5,t6,t7,()),b2,l,())) (λ_=>true) default (x0,x1,x2,x3,x4,x5,x6,x7,t0,t1,t2,t3,t4,t5,t6,t7,b2,l)
  (λi hi H K D=>by
   show (zhb g l.length i x0 x1 x2 x3 x4 x5 x6 x7 t0 t1 t2 t3 t4 t5 t6 t7 b2 l).ev H K D=_;unfold zhb;simp only [Wy.ev_i,Wy.ev_k,Wy.ev_h,Wy.ev_bn,Wy.ev_d,tT,hi,hg _ (zp hi)];have:l.set i (⟨(l.getD i default).Value,(l.getD i default).Ann⟩:Wd)=l:=z5F hi;rw [zL (by omega),this])
  (λH K D=>by
   show (zhb g l.length l.length x0 x1 x2 x3 x4 x5 x6 x7 t0 t1 t2 t3 t4 t5 t6 t7 b2 l).ev H K D=_;unfold zhb;simp only [Wy.ev_i,Wy.ev_k,tT,Nat.lt_irrefl]) n hn
 rw [show zeH (λ_=>true) l.length 0=true from zed.2 λ_ _ _=>rfl] at this
 exact this
theorem z7j (x:At) (h1:x.Ag.length<=1000000) (h2:x.Items.length<=1000000) (hg:∀ a∈x.Ag,g a=(true,a)) (hgi:∀ w∈x.Items,g w.Ann=(true,w.Ann)):zjH g x=(true,x):=by
 have hreach:zN=70368744177664:=rfl;unfold zjH zBs zeg zeY
 have e1:∀ k:Nat,k<=1000->decide (x.Ag.length*k<=zN)=true:=λk hk=>by
  have:=Nat.mul_le_mul h1 hk;simp only [qe]; omega
 have e2:∀ k:Nat,k<=1000->decide (x.Items.length*k<=zN)=true:=λk hk=>by
  have:=Nat.mul_le_mul h2 hk;simp only [qe]; omega
 simp only [Wy.fin_bn,Wy.fin_k,e1 _ (by omega:24<=1000),e2 _ (by omega:56<=1000),Int.ofNat_eq_natCast,cond_true]
 rw [zblQ g _ h1 hg _ (by omega)]
 simp only [cond_true,e2 _ (by omega:56<=1000)]
 rw [zblB g _ h2 hgi _ (by omega)]
 simp only [cond_true];cases x; rfl
theorem zbdq (gx:At->Bool×At) (a:yC) (hl:a.length<=1000000) (hg:∀ t∈a,t.Fs.length<=1000000/\∀ f∈t.Fs,gx f.At=(true,f.At)):znx gx a=(true,a):=by
 unfold znx zFU;have:=zbl5 gx a hl hg (a.length+(Int.ofNat a.length).toNat +Int.toNat (0:Int)+(0:Nat)+(1:Nat)) (by omega)
 rw [show Int.ofNat a.length=(a.length:Int) from rfl] at *
 rw [Wy.fin_bn,this]; rfl
end
theorem z6a:∀ n,
  (∀ d a,zo d a->2*d<=n->znf n a=(true,a))/\
  (∀ d x,zdd (zo d) x->2*d+1<=n->zm8 n x=(true,x))
 | 0=>by
  refine ⟨λd a h hd=> ?_,λd x h hd=>by omega⟩
  have:d=0:=by omega
  subst this; exact h.elim
 | n+1=>by
  obtain ⟨h1,h2⟩:=z6a n;refine ⟨λd a h hd=> ?_,λd x h hd=> ?_⟩
  ·cases d with
   | zero=>exact h.elim
   | succ d=>
    rw [zSe];exact zbdq _ a h.1 λt ht=>⟨(h.2 t ht).1,λf hf=>h2 d _ ((h.2 t ht).2 f hf) (by omega)⟩
  ·rw [zMs];exact z7j _ x h.1.1 h.1.2.1 (λa ha=>h1 d a (h.2.1 a ha) (by omega)) λw hw=>h1 d _ (h.2.2 w hw).2 (by omega)
theorem zKW {d:Nat} {a:yC} (h:zo d a) (hd:d<=100):zhE a=(true,a):=(z6a 1000).1 d a h (by omega)
def zoK (a:yC):yC×Int:=bif zgb a then (a,0) else ([],6)
theorem zDu {d:Nat} {a:yC} (h:zo d a) (hd:d<=100) (hs:zP a<=4611686018427387904):zeU a=(true,zoK a):=by
 unfold zeU zGT zoK;simp only [Wy.fin_bn,Wy.fin_i,Wy.fin_k,z9I h hd hs,zKW h hd,cond_true];cases zgb a <;>rfl
theorem zCq {d:Nat} {a:yC} (h:zo d a) (hd:d<=100) (hs:zP a<=4611686018427387904):zon a=(true,zoK a):=by
 unfold zon z3P zoK;simp only [Wy.fin_bn,Wy.fin_i,Wy.fin_k,zbek h hd hs,cond_true];cases zgb a <;>rfl
def zcy (x:At):yC:=[⟨1,[⟨x,1⟩]⟩]
theorem zK7 (x:At):(zf7 x).2=zcy x:=by
 unfold zf7 zIB;rw [At.eta]; rfl
theorem zF3 (x:At):(znY x).2=zcy x:=by
 unfold znY z0p;rw [At.eta]; rfl
theorem zRE {d:Nat} {x:At} (h:zdd (zo d) x):zo (d+1) (zcy x):=by
 refine ⟨by simp [zcy],λt ht=> ?_⟩
 simp only [zcy,qh] at ht;subst ht;refine ⟨by simp,λf hf=> ?_⟩
 simp only [qh] at hf;subst hf; exact h
theorem z4V (x:At):zP (zcy x)=2+zfO x:=by
 rw [zcy,zeS,zuw,zdo,zjq];simp only [List.length_singleton]; omega
theorem zbc5 (x:At):(zhw x).2=zcy x:=by
 unfold zhw zCM;rw [At.eta]; rfl
theorem zbij {x y:At} (h:zcy x=zcy y):x=y:=by
 simp only [zcy,qj,and_true] at h;have:=congrArg TO.Fs h;simp only [qj,and_true] at this;exact congrArg FO.At this
theorem zbdj {d:Nat} {x:At} (hx:zdd (zo d) x) (hd:d<=99) (y:At):znp x y=(true,decide (x=y)):=by
 unfold znp zGk;rw [At.eta,At.eta,zbc5,zbc5,Wy.fin_bn,zsO (zRE hx) (by omega),cond_true,Wy.fin_k]
 have:decide (zcy x=zcy y)=decide (x=y):=by
  rw [decide_eq_decide];exact ⟨zbij,λh=>by rw [h]⟩
 rw [this]
theorem zblP {d:Nat} (s:yD) (f:Fc) (hs:s.length<=1000000) (hf:zdd (zo d) f.At) (hd:d<=99):zcJ s f=(true,s.any λg=>decide (f.Exp<=g.Exp)&&decide (f.At=g.At)):=by
 unfold zcJ zjf
 have hw:zdU=zVM (λ(g:Fc×Unit) x=>ze2 x g.1):=by
  funext x y
  unfold zdU zj6 zVM z1A;rw [Fc.eta2,Fc.eta2]
 have:zc6 s f=IG (λ(g:Fc×Unit) x=>ze2 x g.1) (s.length+f.At.Ag.length+f.At.Items.length+(Int.ofNat s.length).toNat +Int.toNat (0:Int)+(1000:Nat)) (f,()) s:=by
  unfold zc6 zkE zkb;rw [hw,Fc.eta2]; rfl
 rw [Fc.eta2]
 exact zlO (this.trans (zNP _ _ _ _ _ (by omega) (λx _=>by
  show ze2 x f=_;unfold ze2 zAb;rw [At.eta,At.eta];simp only [Wy.fin_i,Wy.fin_bn,Wy.fin_k,zbdj hf hd,cond_true];cases decide (f.Exp<=x.Exp) <;>rfl) (by omega)))
theorem z7T {d:Nat} {s:Term} (hs:zcs (zo d) s.Fs) (hd:d<=99) {t:Term} (ht:t.Fs.length<=1000000):zgO s t=(true,dvF s.Fs t.Fs):=by
 unfold zgO zGW
 have h3:zcO s.Fs t=(true,s.Fs.any λf=> !t.Fs.any λg=>decide (f.Exp<=g.Exp)&&decide (f.At=g.At)):=by
  unfold zcO zjD
  have hw:zd7=zVM (λ(g:Term×Unit) x=>zgq x g.1):=by
   funext x y
   unfold zd7 zkD zVM z1A;rw [Fc.eta2]
  have:zdg s.Fs t=IG (λ(g:Term×Unit) x=>zgq x g.1) (s.Fs.length+t.Fs.length+(Int.ofNat s.Fs.length).toNat +Int.toNat (0:Int)+(1000:Nat)) (t,()) s.Fs:=by
   unfold zdg zkR zkA;rw [hw]; rfl
  exact zlO (this.trans (zNP _ _ _ _ _ (by have:=hs.1; omega) (λx hx=>by
   show zgq x t=_;unfold zgq zDY;rw [Fc.eta2,Wy.fin_bn,zblP _ _ ht (hs.2 x hx) hd,cond_true,Wy.fin_k]) (by omega)))
 rw [Wy.fin_bn,h3,cond_true,Wy.fin_k];unfold dvF;simp [List.all_eq_not_any_not]
def txV (v:Value):List UInt8:=if v.Kind=0 then zjw v.Int else if v.Kind=1 then 39::(v.Text.data.toList.flatMap esc++[39]) else if v.Int=1 then [84,82,85,69] else [70,65,76,83,69]
def txR (r:RowID):List UInt8:=116::(zjw r.Table++46::zjw r.Seq)
def fnT (f:Int):List UInt8:=if f=0 then [67,79,85,78,84] else if f=1 then [83,85,77] else if f=2 then [77,73,78] else [77,65,88]
def opT (o:Int):List UInt8:=if o=5 then [61] else if o=6 then [60,62] else if o=7 then [60] else if o=8 then [60,61] else if o=9 then [62] else [62,61]
def zV2 (ts:List (List UInt8)):List UInt8:=if ts=[] then [48] else zfe ts [32,43,32]
def z0v (c:Int) (fs:List (List UInt8)):List UInt8:=if fs=[] then zjw c else if c=1 then zfe fs [42] else zjw c++42::zfe fs [42]
def zRC (x:List UInt8) (e:Int):List UInt8:=if e=1 then x else x++94::zjw e
def zdK (k:Int) (r:RowID) (xs:List (List UInt8)) (f:Int) (is:List (List UInt8)) (o:Int) (b:Value):List UInt8:=
 if k=0 then txR r
 else if k=1 then [109,111,110,117,115,91]++(xs.getD 0 []++([44,32]++(xs.getD 1 []++[93])))
 else if k=2 then [100,101,108,116,97,91]++(xs.getD 0 []++[93])
 else if k=3 then [97,98,115,101,110,116,91]++(xs.getD 0 []++[93])
 else [116,101,115,116,91]++(fnT f++([123]++(zfe is [59,32]++([125,32]++(opT o++([32]++(txV b++[93])))))))
mutual
def txA:At->List UInt8
 | ⟨k,r,a,f,i,o,b⟩=>zdK k r (z8h a) f (z8E i) o b
def zOm:yD->List (List UInt8)
 | []=>[]
 | ⟨x,e⟩::l=>zRC (txA x) e::zOm l
def zV7:yC->List (List UInt8)
 | []=>[]
 | ⟨c,fs⟩::l=>z0v c (zOm fs)::zV7 l
def z8h:yA->List (List UInt8)
 | []=>[]
 | a::l=>zV2 (zV7 a)::z8h l
def z8E:yE->List (List UInt8)
 | []=>[]
 | ⟨v,a⟩::l=>(txV v++([58,32]++zV2 (zV7 a)))::z8E l
end
def txF (f:Fc):List UInt8:=zRC (txA f.At) f.Exp
def txT (t:Term):List UInt8:=z0v t.Cf (zOm t.Fs)
def txN (a:yC):List UInt8:=zV2 (zV7 a)
def txI (w:Wd):List UInt8:=txV w.Value++([58,32]++txN w.Ann)
theorem zCK:∀ l,zOm l=l.map txF
 | []=>by rw [zOm]; rfl
 | x::r=>by rw [zOm,zCK r]; rfl
theorem zVc:∀ l,zV7 l=l.map txT
 | []=>by rw [zV7]; rfl
 | x::r=>by rw [zV7,zVc r]; rfl
theorem znM:∀ l,z8h l=l.map txN
 | []=>by rw [z8h]; rfl
 | x::r=>by rw [z8h,znM r]; rfl
theorem zPc:∀ l,z8E l=l.map txI
 | []=>by rw [z8E]; rfl
 | x::r=>by rw [z8E,zPc r]; rfl
theorem zbla (x:At):txA x=zdK x.Kind x.Row (z8h x.Ag) x.Func (z8E x.Items) x.Op x.Bd:=by cases x; rw [txA]
def txL (l:yD):List UInt8:=zfe (zOm l) [42]
theorem zUT {v:Value} (h:zwH v=true):(txV v).length<=512:=by
 have ht:=zyv h;unfold txV;have h1:=zq8 v.Int;have h2:=z8u v.Text.data.toList;have h3:v.Text.data.toList.length=v.Text.size:=by rw [Array.length_toList]; rfl
 split
 ·omega
 ·split
  ·simp only [qf,qg,List.length_nil]; omega
  ·split <;>simp
theorem zbj6 (r:RowID):(txR r).length<=44:=by
 have h1:=zq8 r.Table;have h2:=zq8 r.Seq;simp only [txR,qf,qg]; omega
theorem zbdU (f:Int):(fnT f).length<=5:=by unfold fnT; (repeat' split) <;>simp
theorem zbei (f:Int):(opT f).length<=2:=by unfold opT; (repeat' split) <;>simp
theorem zVr {α:Type} (t:α->List UInt8) (m:α->Nat) (s:List UInt8):∀ l:List α,(∀ x∈l,(t x).length+s.length<=m x)->(zfe (l.map t) s).length<=(l.map m).sum
 | [],_=>by simp [zfe]
 | [x],h=>by
  have:=h x (by simp)
  simp only [List.map,zfe,List.sum_cons,List.sum_nil]; omega
 | x::y::r,h=>by
  have h1:=h x (by simp)
  have h2:=zVr t m s (y::r) λz hz=>h z (List.mem_cons_of_mem _ hz)
  simp only [List.map,zfe,qg,List.sum_cons] at h2 ⊢;omega
theorem z4a:∀ l:yD,(l.map λf=>1000+1000*zfO f.At).sum=1000*(l.length+zbM l)
 | []=>by rw [zjq]; rfl
 | f::r=>by rw [List.map_cons,List.sum_cons,z4a r,zdo,qf]; omega
theorem z9V:∀ l:yC,(l.map λt=>1000+1000*(t.Fs.length+zbM t.Fs)).sum=1000*zP l
 | []=>by rw [zuw]; rfl
 | f::r=>by rw [List.map_cons,List.sum_cons,z9V r,zeS]; omega
theorem zbab:∀ l:yE,(l.map λt=>1000+1000*zP t.Ann).sum=1000*zdy l
 | []=>by rw [zgk]; rfl
 | f::r=>by rw [List.map_cons,List.sum_cons,zbab r,zi2]; omega
theorem zbjM {x:At} {e:Int} (h:(txA x).length<=700+1000*zfO x):(zRC (txA x) e).length+1<=1000+1000*zfO x:=by
 have:=zq8 e;unfold zRC;split
 ·omega
 ·simp only [qg,qf]; omega
theorem zbcY {l:yD} (h:∀ f∈l,(txA f.At).length<=700+1000*zfO f.At):(txL l).length<=1000*(l.length+zbM l):=by
 unfold txL;rw [zCK, <- z4a];exact zVr txF (λf=>1000+1000*zfO f.At) [42] l λf hf=>zbjM (h f hf)
theorem z1R:∀ (m:Nat),(∀ a,zbD m a=true->(txN a).length<=1+1000*zP a)/\(∀ x,zen (zbD m) x=true->(txA x).length<=700+1000*zfO x)
 | m=>by
  have hA:∀ (V:yC->Bool),(∀ a,V a=true->(txN a).length<=1+1000*zP a)->∀ x,zen V x=true->(txA x).length<=700+1000*zfO x:=by
   intro V hV x hx;rw [zhW];cases zdL.1 hx with
   | var r h=>
    rw [txA]; have:=zbj6 r;simp only [zdK,if_true]; omega
   | mon a b ha hb _ _ _=>
    have h1:=hV a ha; have h2:=hV b hb;rw [txA,znM];simp only [zdK,zfm,zhn,zgk,List.map,List.getD_cons_zero,List.getD_cons_succ,qg,qf,List.length_nil];simp only [show ¬ (1:Int)=0 by decide,if_false,if_true,qg,qf,List.length_nil]
    omega
   | del a ha _ _ _=>
    have h1:=hV a ha;rw [txA,znM];simp only [zdK,zfm,zhn,zgk,List.map,List.getD_cons_zero];simp only [show ¬ (2:Int)=0 by decide,show ¬ (2:Int)=1 by decide,if_false,if_true,qg,qf,List.length_nil]
    omega
   | abs a ha _ _=>
    have h1:=hV a ha;rw [txA,znM];simp only [zdK,zfm,zhn,zgk,List.map,List.getD_cons_zero];simp only [show ¬ (3:Int)=0 by decide,show ¬ (3:Int)=1 by decide,show ¬ (3:Int)=2 by decide,if_false,if_true,qg,qf,List.length_nil]
    omega
   | tst f l o b hl hi hs hf=>
    obtain ⟨_,hb,hit⟩:=zvb hf;have h1:=zbdU f; have h2:=zbei o; have h3:=zUT hb
    have h4:(zfe (l.map txI) [59,32]).length<=1000*zdy l:=by
     rw [<- zbab];refine zVr txI (λw=>1000+1000*zP w.Ann) [59,32] l λw hw=> ?_
     have h5:=hV _ (hi w hw).1; have h6:=zUT (hit w hw).1;simp only [txI,qg,qf,List.length_nil]; omega
    rw [txA,zPc];simp only [zdK,zhn];simp only [show ¬ (4:Int)=0 by decide,show ¬ (4:Int)=1 by decide,show ¬ (4:Int)=2 by decide,show ¬ (4:Int)=3 by decide,if_false,qg,qf,List.length_nil]
    omega
  have hN:∀ a,zbD m a=true->(txN a).length<=1+1000*zP a:=by
   induction m with
   | zero=>intro a h; cases h
   | succ m ih=>
    intro a h;unfold txN zV2;split
    ·simp
    ·rw [zVc, <- z9V];refine Nat.le_trans (zVr txT (λt=>1000+1000*(t.Fs.length+zbM t.Fs)) [32,43,32] a λt ht=> ?_) (Nat.le_add_left _ _)
     have hok:=(zyo h ht).2;have h5:=zbcY (l:=t.Fs) λf hf=>hA _ ih _ (zq3 hok hf).2
     have h6:=zq8 t.Cf;have e:(zfe (zOm t.Fs) [42]).length=(txL t.Fs).length:=rfl;unfold txT z0v;simp only [qf,List.length_nil];split
     ·omega
     ·split
      ·omega
      ·simp only [qg,qf]; omega
  exact ⟨hN,hA _ hN⟩
theorem znG {n:Int} (h:wf3 n): -9223372036854775808<=n/\n<=9223372036854775807:=by
 have h:(Lit.int .i64 n).wf=true:=h;have:IntKind.i64.min<=n/\n<=IntKind.i64.max:=by simpa [Lit.wf] using h
 exact ⟨this.1,this.2⟩
def rng (n:Int):Prop:= -9223372036854775808<=n/\n<=9223372036854775807
instance (n:Int):Decidable (rng n):=by unfold rng; infer_instance
theorem z5J {n:Int} (h:rng n):strconv_Itoa n=(true,bs (zjw n)):=by
 unfold strconv_Itoa zWv zQ8;rw [decide_eq_true h.1,decide_eq_true h.2]; rfl
theorem zbeD {n:Int} (h:rng n):zjW n 10=(true,bs (zjw n)):=by
 unfold zjW zzh zQ8;rw [decide_eq_true h.1,decide_eq_true h.2]; rfl
theorem okS (n m:Nat) (h:n+m<=9223372036854775807):decide (n+m<=9223372036854775807)=true:=decide_eq_true h
theorem zbg9 {r:RowID} (h:zDq r=true) (h1:rng r.Table) (h2:rng r.Seq):zzF r=(true,bs (txR r)):=by
 unfold zzF zRB txR;have l1:=zq8 r.Table;have l2:=zq8 r.Seq;rw [show ByteArray.mk #[(116:UInt8)]=bs [116] from rfl,show ByteArray.mk #[(46:UInt8)]=bs [46] from rfl]
 simp only [Wy.fin_bn,Wy.fin_i,Wy.fin_k,zGA,h,z5J h1,z5J h2,cond_true,cond_false,Bool.not_true,zHU,zw0,qg,qf,List.length_nil];rw [okS _ _ (by omega),okS _ _ (by omega),okS _ _ (by omega)]
 simp
theorem zbbx {v:Value} (h:zwH v=true) (hr:rng v.Int):zwN v=(true,bs (txV v)):=by
 unfold zwN zT1 txV strings_ReplaceAll;have ht:=zyv h;rw [show ByteArray.mk #[(39:UInt8)]=bs [39] from rfl,show ByteArray.mk #[(39:UInt8),(39:UInt8)]=bs [39,39] from rfl]
 simp only [Wy.fin_bn,Wy.fin_i,Wy.fin_k,zJL,h,zbeD hr,z9j _ ht,cond_true,cond_false,Bool.not_true,zHU,zw0,qg,qf,List.length_nil];have h2:=z8u v.Text.data.toList;have h3:v.Text.data.toList.length=v.Text.size:=by rw [Array.length_toList]; rfl
 rw [okS _ _ (by omega),okS _ _ (by omega)]
 by_cases k0:v.Kind=0
 ·simp [k0]
 by_cases k1:v.Kind=1
 ·simp [k1]
 simp only [zhL,k0,k1,decide_false,cond_false,if_false];by_cases i1:v.Int=1
 ·simp only [i1,decide_true,cond_true,if_true]; rfl
 ·simp only [i1,decide_false,cond_false,if_false]; rfl
theorem zbjk {f:Int} (h0:0<=f) (h3:f<=3):(decide ((0:Int)<=f)&&decide (f<Int.ofNat zci.snd.length))=true/\zci.snd.getD f.toNat default=bs (fnT f):=by
 have hc:f=0\/f=1\/f=2\/f=3:=by omega
 rcases hc with rfl | rfl | rfl | rfl <;>exact ⟨rfl,rfl⟩
theorem zbjF {o:Int} (h0:5<=o) (h3:o<=10):(decide ((0:Int)<=IntKind.i64.wrap (o - 5))&&decide (IntKind.i64.wrap (o - 5)<Int.ofNat zd5.snd.length))=true/\zd5.snd.getD (IntKind.i64.wrap (o - 5)).toNat default=bs (opT o):=by
 have hc:o=5\/o=6\/o=7\/o=8\/o=9\/o=10:=by omega
 rcases hc with rfl | rfl | rfl | rfl | rfl | rfl <;>exact ⟨rfl,rfl⟩
theorem z3F {m:Nat} {x:At} (h:zen (zbD m) x=true) (hi:x.Items.length<=1024):zfO x<=4195328:=by
 rw [zhW];cases zdL.1 h with
 | var r h=>rw [zhn,zgk]; omega
 | mon a b ha hb _ _ _=>
  have h1:=(ze1 ha).2.1; have h2:=(ze1 hb).2.1;simp only [zfm,zhn,zgk]; omega
 | del a ha _ _ _=>
  have h1:=(ze1 ha).2.1;simp only [zfm,zhn,zgk]; omega
 | abs a ha _ _=>
  have h1:=(ze1 ha).2.1;simp only [zfm,zhn,zgk]; omega
 | tst f l o b hl hv hs hf=>
  have h1:∀ l:yE,(∀ w∈l,zP w.Ann<=4096)->zdy l<=l.length*4097:=λl=>by
   induction l with
   | nil=>intro _; rw [zgk]; omega
   | cons w r ih=>
    intro h;have:=h w (by simp)
    have:=ih λw hw=>h w (by simp [hw])
    rw [zi2,qf,Nat.add_mul]; omega
  have:=h1 l λw hw=>(ze1 (hv w hw).1).2.1
  have:=Nat.mul_le_mul hi (Nat.le_refl 4097);simp only [zhn] at this ⊢; omega
section
variable (gA:At->Bool×ByteArray) (gF:yD->Bool×ByteArray) (gT:yC->Bool×ByteArray)
theorem zbkA (l:yD) (hl:l.length<=1000) (hg:∀ f∈l,gA f.At=(true,bs (txA f.At))/\(txA f.At).length<=4200000000/\rng f.Exp):zhi gA l=(true,bs (txL l)):=by
 have hreach:zN=70368744177664:=rfl;unfold zhi zwL
 have:=zee (W:=zmY gA) (z:=default) l.length (λi=>((),l,(l.length:Int),(i:Int),())) (λi=>((l.take i).map λf=>bs (txF f),())) (λ_=>true) default (l.map λf=>bs (txF f))
  (λi hi H K D=>by
   show (zfQ gA l l.length i ((l.take i).map λf=>bs (txF f))).ev H K D=_
   unfold zfQ;obtain ⟨h1,h2,h3⟩:=hg _ (zp hi);have l1:=zq8 (l.getD i default).Exp;rw [show ByteArray.mk #[(94:UInt8)]=bs [94] from rfl]
   simp only [At.eta,Wy.ev_i,Wy.ev_k,Wy.ev_h,Wy.ev_bn,Wy.ev_d,tT,hi,h1,z5J h3,zHU,zw0,qg,qf,List.length_nil];rw [okS _ _ (by omega),okS _ _ (by omega),zL (by omega),zhu hi,List.map_append]
   have hb:decide ((((l.take i).map λf=>bs (txF f)).length+1)*16<=zN)=true:=by simp only [qe,List.length_map,List.length_take]; omega
   generalize ((l.take i).map λf=>bs (txF f))=out at hb ⊢
   have hb':decide ((out.length+(0+1))*16<=zN)=true:=hb;simp only [hb,hb',cond_true,List.map_cons,List.map_nil,txF,zRC,zAE];by_cases he:(l.getD i default).Exp=1
   ·simp only [he,decide_true,Bool.not_true,cond_false,if_true]
   ·simp only [he,decide_false,Bool.not_false,cond_true,if_false,List.singleton_append])
  (λH K D=>by
   show (zfQ gA l l.length l.length ((l.take l.length).map λf=>bs (txF f))).ev H K D=_
   unfold zfQ;simp only [Wy.ev_i,Wy.ev_k,tT,Nat.lt_irrefl,List.take_length]) (l.length+(Int.ofNat l.length).toNat +Int.toNat (0:Int)+(0:Nat)+(1:Nat)) (by omega)
 rw [show zeH (λ_=>true) l.length 0=true from zed.2 λ_ _ _=>rfl] at this
 have e:zv5 gA (l.length+(Int.ofNat l.length).toNat +Int.toNat (0:Int)+(0:Nat)+(1:Nat)) l (Int.ofNat l.length) (0:Int) []=(true,(l.map txF).map bs):=by rw [List.map_map]; exact this
 have hlen:(zfe (l.map txF) [42]).length<=140737488355328:=by
  refine Nat.le_trans (zYU (B:=4200001000) (l.map txF) [42] λx hx=> ?_) (by
   rw [List.length_map]; have:=Nat.mul_le_mul hl (Nat.le_refl 4200001000); omega)
  obtain ⟨f,hf,rfl⟩:=List.mem_map.1 hx;have:=(hg f hf).2.1;have:=zq8 f.Exp;unfold txF zRC;split
  ·simp only [qf,List.length_nil]; omega
  ·simp only [qg,qf,List.length_nil]; omega
 rw [Wy.fin_bn,e,show ByteArray.mk #[(42:UInt8)]=bs [42] from rfl]
 unfold strings_Join;simp only [cond_true,Wy.fin_bn,Wy.fin_k,z5h _ _ (by rw [List.length_map]; omega) hlen]
 unfold txL;rw [zCK]
theorem zbko (a:yC) (hl:a.length<=1000) (hlen:(txN a).length<=140737488355328) (hg:∀ t∈a,gF t.Fs=(true,bs (txL t.Fs))/\(txL t.Fs).length<=4200000000/\rng t.Cf):zpS gF a=(true,bs (txN a)):=by
 have hreach:zN=70368744177664:=rfl;unfold zpS zIh;by_cases h0:a=[]
 ·subst h0;have e:txN []=[48]:=by unfold txN; rw [zV7]; rfl
  rw [e]; rfl
 have hne:(Int.ofNat a.length==(0:Int))=false:=by
  rw [beq_eq_false_iff_ne]; intro e;have:(a.length:Int)=0:=e;exact h0 (List.length_eq_zero_iff.1 (by omega))
 have:=zee (W:=zy3 gF) (z:=default) a.length (λi=>((),a,(a.length:Int),(i:Int),())) (λi=>((a.take i).map λf=>bs (txT f),())) (λ_=>true) default (a.map λf=>bs (txT f))
  (λi hi H K D=>by
   show (zms gF a a.length i ((a.take i).map λf=>bs (txT f))).ev H K D=_
   unfold zms;obtain ⟨h1,h2,h3⟩:=hg _ (zp hi);have l1:=zq8 (a.getD i default).Cf;rw [show ByteArray.mk #[(42:UInt8)]=bs [42] from rfl]
   have hL:decide ((i:Int)<(a.length:Int))=true:=by simp [hi]
   have hL':decide ((i:Int)<Int.ofNat a.length)=true:=hL;simp only [Wy.ev_i,Wy.ev_k,Wy.ev_h,Wy.ev_bn,Wy.ev_d,hL,hL',zfP,Bool.and_self,cond_true,Int.toNat_natCast,h1,zbeD h3,zHU,zw0,qg,qf,List.length_nil,show (Int.ofNat (a.getD i default).Fs.length==(0:Int))=((a.getD i default).Fs.length==0) from zzr _ 0]
   rw [okS _ _ (by omega),okS _ _ (by omega),zL (by omega),zhu hi,List.map_append]
   have hb:decide ((((a.take i).map λf=>bs (txT f)).length+1)*16<=zN)=true:=by simp only [qe,List.length_map,List.length_take]; omega
   generalize ((a.take i).map λf=>bs (txT f))=out at hb ⊢
   have hb':decide ((out.length+(0+1))*16<=zN)=true:=hb;simp only [hb,hb',cond_true,List.map_cons,List.map_nil,txT,z0v,zhL]
   have e0:(zOm (a.getD i default).Fs=[])↔(a.getD i default).Fs.length=0:=by
    rw [zCK,List.map_eq_nil_iff,List.length_eq_zero_iff]
   by_cases hf:(a.getD i default).Fs.length=0
   ·rw [if_pos (e0.2 hf),hf]; rfl
   ·rw [if_neg (λe=>hf (e0.1 e)),z5t,decide_eq_false hf]
    by_cases he:(a.getD i default).Cf=1
    ·simp only [he,decide_true,cond_true,cond_false,if_true,txL]
    ·simp only [he,decide_false,cond_false,if_false,txL,List.append_assoc,List.singleton_append])
  (λH K D=>by
   show (zms gF a a.length a.length ((a.take a.length).map λf=>bs (txT f))).ev H K D=_
   unfold zms;simp only [Wy.ev_i,Wy.ev_k,tT,Nat.lt_irrefl,List.take_length]) (a.length+(Int.ofNat a.length).toNat +Int.toNat (0:Int)+(0:Nat)+(1:Nat)) (by omega)
 rw [show zeH (λ_=>true) a.length 0=true from zed.2 λ_ _ _=>rfl] at this
 have e:zGX gF (a.length+(Int.ofNat a.length).toNat +Int.toNat (0:Int)+(0:Nat)+(1:Nat)) a (Int.ofNat a.length) (0:Int) []=(true,(a.map txT).map bs):=by rw [List.map_map]; exact this
 have ex:txN a=zfe (a.map txT) [32,43,32]:=by
  unfold txN zV2;rw [zVc,if_neg (by simpa using h0)]
 rw [ex] at hlen ⊢;rw [Wy.fin_i,hne,cond_false,Wy.fin_bn,e,show ByteArray.mk #[(32:UInt8),(43:UInt8),(32:UInt8)]=bs [32,43,32] from rfl]
 unfold strings_Join;simp only [cond_true,Wy.fin_bn,Wy.fin_k,z5h _ _ (by rw [List.length_map]; omega) hlen]
theorem zblm {V:yC->Bool} (x:At) (hx:zen V x=true) (hw:zgN x) (hi:x.Items.length<=1024) (hg:∀ a,(a∈x.Ag\/∃ w∈x.Items,a=w.Ann)->gT a=(true,bs (txN a))/\(txN a).length<=4200000000):zjE gT x=(true,bs (txA x)):=by
 have hreach:zN=70368744177664:=rfl;have W:=znZ hw;unfold zjE zA2;rw [zbla];cases zdL.1 hx with
 | var r h=>
  have hr:=W.2.2.2.2.1;simp only [Wy.fin_bn,Wy.fin_i,Wy.fin_k,zbg9 h (znG hr.1) (znG hr.2)];simp [zdK]
 | mon a b ha hb _ _ _=>
  obtain ⟨g1,l1⟩:=hg a (.inl (by simp))
  obtain ⟨g2,l2⟩:=hg b (.inl (by simp))
  rw [znM];simp only [List.map,zdK,List.getD_cons_zero,List.getD_cons_succ,show ¬ (1:Int)=0 by decide,if_false,if_true]
  rw [show ByteArray.mk #[(109:UInt8),(111:UInt8),(110:UInt8),(117:UInt8),(115:UInt8),(91:UInt8)]=bs [109,111,110,117,115,91] from rfl,show ByteArray.mk #[(44:UInt8),(32:UInt8)]=bs [44,32] from rfl,show ByteArray.mk #[(93:UInt8)]=bs [93] from rfl]
  simp only [cond_true,cond_false,Wy.fin_i,Wy.fin_bn,Wy.fin_k,show ((1:Int)==0)=false from rfl,show ((1:Int)==1)=true from rfl,show (decide ((0:Int)<=0)&&decide ((0:Int)<Int.ofNat [a,b].length))=true from rfl,show (decide ((0:Int)<=1)&&decide ((1:Int)<Int.ofNat [a,b].length))=true from rfl,show [a,b].getD (Int.toNat 0) default=a from rfl,show [a,b].getD (Int.toNat 1) default=b from rfl,g1,g2,zHU,zw0,List.length_append,List.length_cons,List.length_nil]
  rw [okS _ _ (by omega),okS _ _ (by omega),okS _ _ (by omega),okS _ _ (by omega)]
  simp
 | del a ha _ _ _=>
  obtain ⟨g1,l1⟩:=hg a (.inl (by simp))
  rw [znM];simp only [List.map,zdK,List.getD_cons_zero,show ¬ (2:Int)=0 by decide,show ¬ (2:Int)=1 by decide,if_false,if_true]
  rw [show ByteArray.mk #[(100:UInt8),(101:UInt8),(108:UInt8),(116:UInt8),(97:UInt8),(91:UInt8)]=bs [100,101,108,116,97,91] from rfl,show ByteArray.mk #[(93:UInt8)]=bs [93] from rfl]
  simp only [cond_true,cond_false,Wy.fin_i,Wy.fin_bn,Wy.fin_k,show ((2:Int)==0)=false from rfl,show ((2:Int)==1)=false from rfl,show ((2:Int)==2)=true from rfl,show (decide ((0:Int)<=0)&&decide ((0:Int)<Int.ofNat [a].length))=true from rfl,show [a].getD (Int.toNat 0) default=a from rfl,g1,zHU,zw0,List.length_append,List.length_cons,List.length_nil]
  rw [okS _ _ (by omega),okS _ _ (by omega)]
  simp
 | abs a ha _ _=>
  obtain ⟨g1,l1⟩:=hg a (.inl (by simp))
  rw [znM];simp only [List.map,zdK,List.getD_cons_zero,show ¬ (3:Int)=0 by decide,show ¬ (3:Int)=1 by decide,show ¬ (3:Int)=2 by decide,if_false,if_true]
  rw [show ByteArray.mk #[(97:UInt8),(98:UInt8),(115:UInt8),(101:UInt8),(110:UInt8),(116:UInt8),(91:UInt8)]=bs [97,98,115,101,110,116,91] from rfl,show ByteArray.mk #[(93:UInt8)]=bs [93] from rfl]
  simp only [cond_true,cond_false,Wy.fin_i,Wy.fin_bn,Wy.fin_k,show ((3:Int)==0)=false from rfl,show ((3:Int)==1)=false from rfl,show ((3:Int)==2)=false from rfl,show ((3:Int)==3)=true from rfl,show (decide ((0:Int)<=0)&&decide ((0:Int)<Int.ofNat [a].length))=true from rfl,show [a].getD (Int.toNat 0) default=a from rfl,g1,zHU,zw0,List.length_append,List.length_cons,List.length_nil]
  rw [okS _ _ (by omega),okS _ _ (by omega)]
  simp
 | tst f l o b hl hv hs hf=>
  obtain ⟨⟨f0,f3,o5,o10⟩,hb,hit⟩:=zvb hf;have hwl:=zgu W.2.1.1;have hwb:rng b.Int:=znG W.2.2.1.2.1
  have:=zee (W:=zoH gT) (z:=default) l.length (λi=>((),(),l,(l.length:Int),(i:Int),())) (λi=>((⟨4,⟨0,0⟩,[],f,l,o,b⟩:At),(l.take i).map λw=>bs (txI w),())) (λ_=>true) default ((⟨4,⟨0,0⟩,[],f,l,o,b⟩:At),l.map λw=>bs (txI w))
   (λi hi' H K D=>by
    show (zgE gT l l.length i (⟨4,⟨0,0⟩,[],f,l,o,b⟩:At) ((l.take i).map λw=>bs (txI w))).ev H K D=_
    unfold zgE;have hm:=zp hi';obtain ⟨g1,l1⟩:=hg _ (.inr ⟨_,hm,rfl⟩);have l2:=zUT (hit _ hm).1;rw [show ByteArray.mk #[(58:UInt8),(32:UInt8)]=bs [58,32] from rfl]
    simp only [Wy.ev_i,Wy.ev_k,Wy.ev_h,Wy.ev_bn,Wy.ev_d,tT,hi',zbbx (hit _ hm).1 (znG (hwl _ hm).1.2.1),g1,zHU,zw0,qg,qf,List.length_nil];rw [okS _ _ (by omega),okS _ _ (by omega),zL (by simp only at hi; omega),zhu hi',List.map_append]
    have hb:decide ((((l.take i).map λw=>bs (txI w)).length+1)*16<=zN)=true:=by simp only at hi; simp only [qe,List.length_map,List.length_take]; omega
    generalize ((l.take i).map λw=>bs (txI w))=out at hb ⊢
    have hb':decide ((out.length+(0+1))*16<=zN)=true:=hb;simp only [hb,hb',cond_true,List.map_cons,List.map_nil,txI,List.append_assoc])
   (λH K D=>by
    show (zgE gT l l.length l.length (⟨4,⟨0,0⟩,[],f,l,o,b⟩:At) ((l.take l.length).map λw=>bs (txI w))).ev H K D=_
    unfold zgE;simp only [Wy.ev_i,Wy.ev_k,tT,Nat.lt_irrefl,List.take_length]) (l.length+(Int.ofNat l.length).toNat +Int.toNat (0:Int)+([]:yA).length+l.length+(0:Nat)+(1:Nat)) (by omega)
  rw [show zeH (λ_=>true) l.length 0=true from zed.2 λ_ _ _=>rfl] at this
  have e:zyy gT (l.length+(Int.ofNat l.length).toNat +Int.toNat (0:Int)+([]:yA).length+l.length+(0:Nat)+(1:Nat)) l (Int.ofNat l.length) (0:Int) (⟨4,⟨0,0⟩,[],f,l,o,b⟩:At) []=(true,((⟨4,⟨0,0⟩,[],f,l,o,b⟩:At),(l.map txI).map bs)):=by rw [List.map_map]; exact this
  simp only at hi
  have hlen:(zfe (l.map txI) [59,32]).length<=5000000000000:=by
   refine Nat.le_trans (zYU (B:=4200001000) (l.map txI) [59,32] λy hy=> ?_) (by
    rw [List.length_map]; have:=Nat.mul_le_mul hi (Nat.le_refl 4200001000); omega)
   obtain ⟨w,hw,rfl⟩:=List.mem_map.1 hy;have h1:=(hg _ (.inr ⟨w,hw,rfl⟩)).2;have h2:=zUT (hit w hw).1;simp only [txI,qg,qf,List.length_nil]; omega
  have l3:=zbdU f;have l4:=zbei o;have l5:=zUT hb;rw [zPc];simp only [zdK,show ¬ (4:Int)=0 by decide,show ¬ (4:Int)=1 by decide,show ¬ (4:Int)=2 by decide,show ¬ (4:Int)=3 by decide,if_false]
  rw [show ByteArray.mk #[(116:UInt8),(101:UInt8),(115:UInt8),(116:UInt8),(91:UInt8)]=bs [116,101,115,116,91] from rfl,show ByteArray.mk #[(123:UInt8)]=bs [123] from rfl,show ByteArray.mk #[(125:UInt8),(32:UInt8)]=bs [125,32] from rfl,show ByteArray.mk #[(59:UInt8),(32:UInt8)]=bs [59,32] from rfl,show ByteArray.mk #[(32:UInt8)]=bs [32] from rfl,show ByteArray.mk #[(93:UInt8)]=bs [93] from rfl]
  simp only [Wy.fin_i,show ((4:Int)==0)=false from rfl,show ((4:Int)==1)=false from rfl,show ((4:Int)==2)=false from rfl,show ((4:Int)==3)=false from rfl,cond_false]
  unfold strings_Join;obtain ⟨fb,ft⟩:=zbjk f0 f3;obtain ⟨ob,ot⟩:=zbjF o5 o10;rw [e,z1E];simp only [Wy.fin_i,Wy.fin_k,Wy.fin_bn,fb,ft,ob,ot,z5h _ _ (show (l.map txI).length<=140737488355328 by rw [List.length_map]; omega) (show (zfe (l.map txI) [59,32]).length<=140737488355328 by omega),zbbx hb hwb,cond_true,zHU,zw0,List.length_append,List.length_cons,List.length_nil]
  rw [okS _ _ (by omega),okS _ _ (by omega),okS _ _ (by omega),okS _ _ (by omega),okS _ _ (by omega),okS _ _ (by omega),okS _ _ (by omega),okS _ _ (by omega)]
  simp
end
end Go.Proofs.YtljlfiomikifjaaGreatDoor
end
