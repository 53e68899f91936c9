/- Texts of this claim, joined (the program, its functions in plain words, and what they compute). -/
import Derived.Test.YtoknknbmfmddbaaGreatDoorGC6
set_option autoImplicit false
set_option linter.unusedVariables false
set_option linter.unusedSectionVars false
set_option linter.unusedSimpArgs false
set_option maxRecDepth 1000000
set_option maxHeartbeats 0
/- Small tests of annotations: searches, limits, kinds. -/
noncomputable section
namespace Go.Proofs.YtoknknbmfmddbaaGreatDoor
open Go Go.Ab
def zer (c:Nat->Bool):Nat->Nat->Bool
 | 0,_=>true
 | n+1,i=>c i&&zer c n (i+1)
theorem zdx {c:Nat->Bool}:∀ {n i},zer c n i=true↔∀ k,i<=k->k<i+n->c k=true
 | 0,i=>⟨λ_ k h1 h2=>by omega,λ_=>rfl⟩
 | n+1,i=>by
  simp only [zer,qc,zdx (n:=n)];constructor
  ·rintro ⟨h1,h2⟩ k h3 h4
   by_cases e:k=i
   ·rw [e]; exact h1
   ·exact h2 k (by omega) (by omega)
  ·intro h;exact ⟨h i (by omega) (by omega),λk h1 h2=>h k (by omega) (by omega)⟩
theorem z4J (c c':Nat->Bool):∀ n i,zer (λk=>c k&&c' k) n i=(zer c n i&&zer c' n i)
 | 0,_=>rfl
 | n+1,i=>by
  simp only [zer,z4J c c' n (i+1)];cases c i <;>cases c' i <;>simp
theorem z30 {τ:Type} [Inhabited τ] (p:τ->Bool) (l:List τ):∀ n i,i+n=l.length->zer (λk=>p (l.getD k default)) n i=(l.drop i).all p
 | 0,i,h=>by rw [zcu (by omega)]; rfl
 | n+1,i,h=>by
  rw [zbh (by omega),List.all_cons]
  simp only [zer,z30 p l n (i+1) (by omega)]
theorem zx3 {τ:Type} [Inhabited τ] (p:τ->Bool) (l:List τ):zer (λk=>p (l.getD k default)) l.length 0=l.all p:=by
 rw [z30 p l _ _ (by omega),List.drop_zero]
section
variable {α β ρ:Type}
theorem z48 {W:α->β->Wy α β ρ} {z:ρ} (N:Nat) (ex:Nat->α) (ey:Nat->β) (c:Nat->Bool) (no yes:ρ)
  (h:∀ i,i<N->∀ (H:α->β->Bool×ρ) K D,(W (ex i) (ey i)).ev H K D=bif c i then H (ex (i+1)) (ey (i+1)) else K no)
  (he:∀ (H:α->β->Bool×ρ) K D,(W (ex N) (ey N)).ev H K D=K yes):
  ∀ n i,N<i+n->i<=N->zx W z n (ex i) (ey i)=(true,bif zer c (N - i) i then yes else no)
 | 0,i,h1,h2=>by omega
 | n+1,i,h1,h2=>by
  show (W (ex i) (ey i)).ev (zx W z n) (λr=>(true,r)) (false,z)=_
  by_cases hi:i<N
  ·rw [h i hi,show N - i=(N - (i+1))+1 by omega]
   simp only [zer];cases c i with
   | false=>rfl
   | true=>rw [cond_true,z48 N ex ey c no yes h he n (i+1) (by omega) (by omega)]; rfl
  ·have:i=N:=by omega
   subst this;rw [he,Nat.sub_self]; rfl
theorem zcz {W:α->β->Wy α β ρ} {z:ρ} (N:Nat) (ex:Nat->α) (ey:Nat->β) (c:Nat->Bool) (no yes:ρ)
  (h:∀ i,i<N->∀ (H:α->β->Bool×ρ) K D,(W (ex i) (ey i)).ev H K D=bif c i then H (ex (i+1)) (ey (i+1)) else K no)
  (he:∀ (H:α->β->Bool×ρ) K D,(W (ex N) (ey N)).ev H K D=K yes) (n:Nat) (hn:N<n):zx W z n (ex 0) (ey 0)=(true,bif zer c N 0 then yes else no):=by
 have:=z48 (z:=z) N ex ey c no yes h he n 0 (by omega) (by omega)
 simpa using this
end
def ixf {α:Type} (p:α->Bool):List α->Nat->Int
 | [],_=> -1
 | x::r,i=>bif p x then (i:Int) else ixf p r (i+1)
theorem z6i {α:Type} (p:α->Bool):∀ (l:List α) (i:Nat),decide (ixf p l i≥(0:Int))=l.any p
 | [],i=>by simp [ixf]
 | x::r,i=>by
  rw [List.any_cons];cases h:p x with
  | true=>simp [ixf,h]
  | false=>simpa [ixf,h] using z6i p r (i+1)
section
variable {α γ:Type} [Inhabited α]
def z2X (p:γ->α->Bool×Bool) (s:List α) (g:γ) (t7:Int) (t8:Int):Wy (List α×γ×Int×Int×Unit) Unit (Int⊕Unit):=.i (decide (t8<t7)) (.i (decide ((0:Int)<=t8)&&decide (t8<Int.ofNat s.length)) (.bn (p g (s.getD t8.toNat default)) λr0=>.i (r0) (.k (.inl t8)) (.h (s,g,t7,(IntKind.i64.wrap (t8+(1:Int))),()) ())) .d) (.k (.inr ()))
def z7I (p:γ->α->Bool×Bool) (x:List α×γ×Int×Int×Unit) (y:Unit):Wy (List α×γ×Int×Int×Unit) Unit (Int⊕Unit):=z2X p x.1 x.2.1 x.2.2.1 x.2.2.2.1
def z7v (p:γ->α->Bool×Bool) (n:Nat) (s:List α) (g:γ) (t7:Int) (t8:Int):Bool×(Int⊕Unit):=zx (z7I p) (.inl default) n (s,g,t7,t8,()) ()
def IG (p:γ->α->Bool×Bool) (n:Nat) (g:γ) (s:List α):Bool×Int:=(.bn (z7v p n s g (Int.ofNat s.length) (0:Int)) λr2=>.i (isL r2) (.k (getL r2)) (.k (-1:Int)):Wy0 Int).fin default
def z7w (p:γ->α->Bool×Bool) (s:List α) (g:γ) (t7:Int) (t8:Int):Wy (List α×γ×Int×Int×Unit) Unit (Int⊕Unit):=.i (decide (t8<t7)) (.i (decide ((0:Int)<=t8)&&decide (t8<Int.ofNat s.length)) (.i ((p g (s.getD t8.toNat default)).snd) (.k (.inl t8)) (.h (s,g,t7,(IntKind.i64.wrap (t8+(1:Int))),()) ())) .d) (.k (.inr ()))
def zbdX (p:γ->α->Bool×Bool) (x:List α×γ×Int×Int×Unit) (y:Unit):Wy (List α×γ×Int×Int×Unit) Unit (Int⊕Unit):=z7w p x.1 x.2.1 x.2.2.1 x.2.2.2.1
def z7X (p:γ->α->Bool×Bool) (n:Nat) (s:List α) (g:γ) (t7:Int) (t8:Int):Bool×(Int⊕Unit):=zx (zbdX p) (.inl default) n (s,g,t7,t8,()) ()
def IH (p:γ->α->Bool×Bool) (n:Nat) (g:γ) (s:List α):Bool×Int:=(.bn (z7X p n s g (Int.ofNat s.length) (0:Int)) λr2=>.i (isL r2) (.k (getL r2)) (.k (-1:Int)):Wy0 Int).fin default
theorem z6J (p:γ->α->Bool×Bool) (P:α->Bool) (g:γ) (s:List α) (hs:s.length<=1000000000) (hp:∀ x∈s,p g x=(true,P x)):∀ (n i:Nat),s.length<i+n->i<=s.length->
  ∃ r,z7v p n s g s.length i=(true,r)/\((r=.inl (ixf P (s.drop i) i))\/(r=.inr ()/\ixf P (s.drop i) i= -1))
 | 0,i,h,h2=>by omega
 | n+1,i,h,h2=>by
  show ∃ r,(z2X p s g s.length i).ev (λx y=>z7v p n x.1 x.2.1 x.2.2.1 x.2.2.2.1) (λr=>(true,r)) (false,.inl default)=(true,r)/\_
  unfold z2X;by_cases hi:i<s.length
  ·simp only [Wy.ev_i,Wy.ev_k,Wy.ev_h,Wy.ev_bn,Wy.ev_d,tT,hi,hp _ (zm hi)];rw [zbh hi,zy (by omega)]
   simp only [ixf];cases P (s.getD i default) with
   | true=>exact ⟨_,rfl,.inl rfl⟩
   | false=>exact z6J p P g s hs hp n (i+1) (by omega) (by omega)
  ·simp only [Wy.ev_i,Wy.ev_k,Wy.ev_h,Wy.ev_bn,Wy.ev_d,tT,hi,zcu hi];exact ⟨_,rfl,.inr ⟨rfl,rfl⟩⟩
theorem zHb (p:γ->α->Bool×Bool) (P:α->Bool) (n:Nat) (g:γ) (s:List α) (hs:s.length<=1000000000) (hp:∀ x∈s,p g x=(true,P x)) (hn:s.length<n):IG p n g s=(true,ixf P s 0):=by
 unfold IG;obtain ⟨r,h1,h2⟩:=z6J p P g s hs hp n 0 (by omega) (by omega)
 rw [show ((0:Nat):Int)=(0:Int) from rfl] at h1
 rw [Wy.fin_bn,show Int.ofNat s.length=(s.length:Int) from rfl,h1]
 rw [List.drop_zero] at h2;rcases h2 with rfl | ⟨rfl,h2⟩
 ·rfl
 ·rw [h2]; rfl
theorem z59 (p:γ->α->Bool×Bool) (P:α->Bool) (g:γ) (s:List α) (hs:s.length<=1000000000) (hp:∀ x∈s,p g x=(true,P x)):∀ (n i:Nat),s.length<i+n->i<=s.length->
  ∃ r,z7X p n s g s.length i=(true,r)/\((r=.inl (ixf P (s.drop i) i))\/(r=.inr ()/\ixf P (s.drop i) i= -1))
 | 0,i,h,h2=>by omega
 | n+1,i,h,h2=>by
  show ∃ r,(z7w p s g s.length i).ev (λx y=>z7X p n x.1 x.2.1 x.2.2.1 x.2.2.2.1) (λr=>(true,r)) (false,.inl default)=(true,r)/\_
  unfold z7w;by_cases hi:i<s.length
  ·simp only [Wy.ev_i,Wy.ev_k,Wy.ev_h,Wy.ev_bn,Wy.ev_d,tT,hi,hp _ (zm hi)];rw [zbh hi,zy (by omega)]
   simp only [ixf];cases P (s.getD i default) with
   | true=>exact ⟨_,rfl,.inl rfl⟩
   | false=>exact z59 p P g s hs hp n (i+1) (by omega) (by omega)
  ·simp only [Wy.ev_i,Wy.ev_k,Wy.ev_h,Wy.ev_bn,Wy.ev_d,tT,hi,zcu hi];exact ⟨_,rfl,.inr ⟨rfl,rfl⟩⟩
theorem z7J (p:γ->α->Bool×Bool) (P:α->Bool) (n:Nat) (g:γ) (s:List α) (hs:s.length<=1000000000) (hp:∀ x∈s,p g x=(true,P x)) (hn:s.length<n):IH p n g s=(true,ixf P s 0):=by
 unfold IH;obtain ⟨r,h1,h2⟩:=z59 p P g s hs hp n 0 (by omega) (by omega)
 rw [show ((0:Nat):Int)=(0:Int) from rfl] at h1
 rw [Wy.fin_bn,show Int.ofNat s.length=(s.length:Int) from rfl,h1]
 rw [List.drop_zero] at h2;rcases h2 with rfl | ⟨rfl,h2⟩
 ·rfl
 ·rw [h2]; rfl
theorem zkj {α:Type} {s:List α} {P:α->Bool} {q:Bool×Int} (h:q=(true,ixf P s 0)):((.bn q λr0=>.k (decide (r0≥(0:Int))):Wy0 Bool).fin default)=(true,s.any P):=by
 rw [h,Wy.fin_bn,cond_true,Wy.fin_k,z6i]
end
theorem zf8 (a b:Int):(a==b)=decide (a=b):=by by_cases h:a=b <;>simp [h]
theorem zXa (a b:Nat):(a==b)=decide (a=b):=by by_cases h:a=b <;>simp [h]
theorem i0 (l:Nat):((l:Int)==0)=(l==0):=by
 rw [zf8,zXa]; congr 1; simp
def zwX (a:yB):Bool:=a.any λt=>t.Fs.length==0
theorem zOI (a:yB) (h:a.length<=1000000000):zeX a=(true,zwX a):=by
 unfold zeX zxv zdh zh2;have:zdO a=IH (λ(_:Unit) x=>zhc x) (a.length+(Int.ofNat a.length).toNat +Int.toNat (0:Int)+(1:Nat)) () a:=rfl
 rw [zkj (P:=λt:Term=>t.Fs.length==0) (this.trans (z7J _ _ _ _ _ h (λx _=>by
  unfold zhc zuR;rw [Wy.fin_k];congr 1;exact i0 x.Fs.length) (by omega)))]
 rfl
theorem zzc (a:yB) (h:a.length<=1000000000):zl5 a=(true,zwX a):=by
 unfold zl5 zJh zGH
 have:=zcz (W:=zGO) (z:=.inl default) a.length (λi=>(a,(i:Int),())) (λ_=>()) (λi=> !((a.getD i default).Fs.length==0)) (.inl true) (.inr ())
  (λi hi H K D=>by
   show (zof a i).ev H K D=_;unfold zof;simp only [Wy.ev_i,Wy.ev_k,Wy.ev_h,Wy.ev_bn,Wy.ev_d,tT,hi,i0];rw [zy (by omega)]
   cases (a.getD i default).Fs.length==0 <;>rfl)
  (λH K D=>by
   show (zof a a.length).ev H K D=_;unfold zof;simp only [Wy.ev_i,Wy.ev_k,tT,Nat.lt_irrefl]) (a.length+Int.toNat (0:Int)+(1:Nat)) (by omega)
 rw [show ((0:Nat):Int)=(0:Int) from rfl] at this
 rw [Wy.fin_bn,this,zx3 (λt:Term=> !(t.Fs.length==0)) a]
 have e:(a.all λt:Term=> !(t.Fs.length==0))= !zwX a:=by simp [zwX,List.all_eq_not_any_not]
 rw [e];cases zwX a <;>rfl
def isC:yB->Bool
 | [t]=>t.Fs.length==0
 | _=>false
theorem zQ7 (a:yB):zhz a=(true,isC a):=by
 unfold zhz zyS
 match a with
 | []=>rfl
 | [t]=>exact congrArg (Prod.mk true) (i0 t.Fs.length)
 | t::u::r=>
  have:((Int.ofNat (t::u::r).length)==(1:Int))=false:=by simp; omega
  rw [Wy.fin_i,this]; rfl
def zbdw (p:Fc->Bool):yC->Bool
 | [f]=>p f
 | _=>false
def isU:yB->Bool
 | [t]=>t.Cf==1&&zbdw (λf=>f.Exp==1&&(f.At.Kind==2||f.At.Kind==3||f.At.Kind==4)) t.Fs
 | _=>false
theorem zZ1 (x:At):zfF x=(true,x.Kind==3||x.Kind==4):=by
 unfold zfF zyR;rw [Wy.fin_i,Wy.fin_k,Wy.fin_k];cases x.Kind==3 <;>rfl
theorem zMg {τ:Type} (x y:τ) (r:List τ):((Int.ofNat (x::y::r).length)==(1:Int))=false:=by
 rw [beq_eq_false_iff_ne]; simp; omega
theorem z1r (a:yB):zk4 a=(true,isU a):=by
 unfold zk4 zCV
 match a with
 | []=>rfl
 | ⟨c,[]⟩::[]=>
  show (bif c != 1 then (true,false) else (true,false))=(true,c==1&&false)
  cases c != 1 <;>simp
 | ⟨c,[f]⟩::[]=>
  simp only [Wy.fin_i,Wy.fin_k,tT,isU,List.length_singleton,zZ1,Wy.fin_bn,Wy.fin_d];show (bif c != 1 then (true,false) else bif f.Exp==1 then bif f.At.Kind==2 then (true,true) else (true,f.At.Kind==3||f.At.Kind==4) else (true,false))=(true,c==1&&(f.Exp==1&&(f.At.Kind==2||f.At.Kind==3||f.At.Kind==4)))
  rw [show (c != 1)= !(c==1) from rfl]
  cases c==1 <;>cases f.Exp==1 <;>cases f.At.Kind==2 <;>simp
 | ⟨c,f::g::r⟩::[]=>
  simp only [Wy.fin_i,bne,zMg];show (bif !(c==1) then (true,false) else (true,false))=(true,c==1&&false)
  cases c==1 <;>rfl
 | t::u::r=>rw [Wy.fin_i,bne,zMg]; rfl
def isB:yB->Bool
 | [t]=>t.Cf==1&&zbdw (λf=>f.Exp==1&&decide (2<=f.At.Kind)) t.Fs
 | _=>false
theorem zLt (a:yB):zye a=(true,isB a):=by
 unfold zye zOi
 match a with
 | []=>rfl
 | ⟨c,[]⟩::[]=>
  show (bif c==1 then (true,false) else (true,false))=(true,c==1&&false)
  cases c==1 <;>rfl
 | ⟨c,[f]⟩::[]=>
  simp only [Wy.fin_i,Wy.fin_k,tT,List.length_singleton,Wy.fin_bn,Wy.fin_d];show (bif c==1 then bif decide (2<=f.At.Kind) then (true,f.Exp==1) else (true,false) else (true,false))=(true,c==1&&(f.Exp==1&&decide (2<=f.At.Kind)))
  cases c==1 <;>cases f.Exp==1 <;>cases decide (2<=f.At.Kind) <;>simp
 | ⟨c,f::g::r⟩::[]=>
  rw [Wy.fin_i];show (bif true then (Wy.i true (Wy.i (c==1) (Wy.i true (Wy.i (Int.ofNat (f::g::r).length==1) _ (.k false)) .d) (.k false)) .d:Wy0 Bool).fin default else _)=(true,c==1&&false)
  simp only [Wy.fin_i,Wy.fin_k,zMg,cond_true,cond_false];cases c==1 <;>rfl
 | t::u::r=>rw [Wy.fin_i,zMg]; rfl
theorem zM6 (a b:Nat):decide (a>b)= !decide (a<=b):=by
 by_cases h:a<=b
 ·have:¬ a>b:=by omega
  simp [h,this]
 ·have:a>b:=by omega
  simp [h,this]
def zzQ (t:Term):Bool:= !(decide (t.Fs.length>64)||t.Fs.any λf=>decide (f.Exp>64)||decide (f.At.Items.length>1024))
def zfj (a:yB):Bool:=decide (a.length<=512)&&decide (zbm a<=8)&&decide (zM a<=4096)&&a.all zzQ
theorem z7K (l:yC) (h:l.length<=1000000):zcs l=(true,l.any λf=>decide (f.Exp>64)||decide (f.At.Items.length>1024)):=by
 unfold zcs zih
 have hw:zdq=z7I (λ(_:Unit) x=>zf1 x):=by
  funext x y
  unfold zdq zi5 z7I z2X;rw [Fc.eta2]
 have:zcM l=IG (λ(_:Unit) x=>zf1 x) (l.length+(Int.ofNat l.length).toNat +Int.toNat (0:Int)+(1:Nat)) () l:=by
  unfold zcM zjl zi3;rw [hw]; rfl
 exact zkj (this.trans (zHb _ _ _ _ _ (by omega) (λx _=>by
  unfold zf1 zxc;rw [Wy.fin_i,Wy.fin_k,Wy.fin_k];have e:decide (Int.ofNat x.At.Items.length>(1024:Int))=decide (x.At.Items.length>1024):=zjQ _ 1024;rw [e];cases decide (x.Exp>64) <;>rfl) (by omega)))
theorem z1N {d:Nat} {a:yB} (h:zn d a) (hd:d<=100) (hs:zM a<=4611686018427387904):zk2 a=(true,zfj a):=by
 obtain ⟨h1,h2⟩:a.length<=1000000/\∀ t∈a,t.Fs.length<=1000000:=by
  cases d with
  | zero=>exact h.elim
  | succ d=>exact ⟨h.1,λt ht=>(h.2 t ht).1⟩
 have h3:zci a=(true,a.any λt=> !zzQ t):=by
  unfold zci zhO;have:zdN a=IG (λ(_:Unit) x=>zkm x) (a.length+(Int.ofNat a.length).toNat +Int.toNat (0:Int)+(1:Nat)) () a:=rfl
  exact zkj (this.trans (zHb _ _ _ _ _ (by omega) (λx hx=>by
   unfold zkm zzJ;rw [Wy.fin_i,Wy.fin_k,Wy.fin_bn,z7K _ (h2 x hx)];have e:decide (Int.ofNat x.Fs.length>(64:Int))=decide (x.Fs.length>64):=zjQ _ 64;rw [e];unfold zzQ;cases decide (x.Fs.length>64) <;>simp [Wy.fin_k]) (by omega)))
 unfold zk2 zCU;have n1:zx9 a=(true,(zbm a:Int)):=(zZG 1000 d a h (by omega) hd).1
 have n2:zB4 a=(true,(zM a:Int)):=(zXG 1000 d a h (by omega) hs).1
 simp only [Wy.fin_i,Wy.fin_k,Wy.fin_bn,n1,n2,h3,cond_true];have e1:decide (Int.ofNat a.length>(512:Int))= !decide (a.length<=512):=by rw [show decide (Int.ofNat a.length>(512:Int))=decide (a.length>512) from zjQ _ 512]; exact zM6 _ _
 have e2:decide ((zbm a:Int)>(8:Int))= !decide (zbm a<=8):=by rw [show decide ((zbm a:Int)>(8:Int))=decide (zbm a>8) from zjQ _ 8]; exact zM6 _ _
 have e3:decide ((zM a:Int)>(4096:Int))= !decide (zM a<=4096):=by rw [show decide ((zM a:Int)>(4096:Int))=decide (zM a>4096) from zjQ _ 4096]; exact zM6 _ _
 have e4:(a.any λt=> !zzQ t)= !a.all zzQ:=by simp [List.all_eq_not_any_not]
 rw [e1,e2,e3,e4];unfold zfj;cases decide (a.length<=512) <;>cases decide (zbm a<=8) <;>cases decide (zM a<=4096) <;>simp
theorem zbdL (a:yB) (i:Nat) (hi:i<a.length) (hl:(a.getD i default).Fs.length<=1000000) (fuel:Nat) (hf:(a.getD i default).Fs.length<fuel):
  zQ2 fuel a i 0=(true,bif (a.getD i default).Fs.any λf=>decide (f.Exp>64)||decide (f.At.Items.length>1024) then .inl false else .inr (a,(i:Int))):=by
 have:=zcz (W:=zQU) (z:=.inl default) (a.getD i default).Fs.length (λk=>(a,(i:Int),(k:Int),())) (λ_=>()) (λk=>(λf:Fc=> !(decide (f.Exp>64)||decide (f.At.Items.length>1024))) ((a.getD i default).Fs.getD k default)) (.inl false) (.inr (a,(i:Int)))
  (λk hk H K D=>by
   show (zvQ a i k).ev H K D=_;unfold zvQ;simp only [Wy.ev_i,Wy.ev_k,Wy.ev_h,Wy.ev_bn,Wy.ev_d,tT,hi,hk];rw [zy (by omega),show decide ((((a.getD i default).Fs.getD k default).At.Items.length:Int)>(1024:Int))=_ from zjQ _ 1024]
   cases decide (((a.getD i default).Fs.getD k default).Exp>64) <;>cases decide (1024<((a.getD i default).Fs.getD k default).At.Items.length) <;>rfl)
  (λH K D=>by
   show (zvQ a i (a.getD i default).Fs.length).ev H K D=_;unfold zvQ;simp only [Wy.ev_i,Wy.ev_k,Wy.ev_h,Wy.ev_bn,Wy.ev_d,tT,hi,Nat.lt_irrefl]) fuel hf
 rw [zx3 (λf:Fc=> !(decide (f.Exp>64)||decide (f.At.Items.length>1024)))] at this
 have e:((a.getD i default).Fs.all λf=> !(decide (f.Exp>64)||decide (f.At.Items.length>1024)))= !((a.getD i default).Fs.any λf=>decide (f.Exp>64)||decide (f.At.Items.length>1024)):=by simp [List.all_eq_not_any_not]
 rw [e] at this;refine this.trans ?_;cases (a.getD i default).Fs.any λf=>decide (f.Exp>64)||decide (f.At.Items.length>1024) <;>rfl
theorem z6M {d:Nat} {a:yB} (h:zn d a) (hd:d<=100) (hs:zM a<=4611686018427387904):zHC a=(true,zfj a):=by
 obtain ⟨h1,h2⟩:a.length<=1000000/\∀ t∈a,t.Fs.length<=1000000:=by
  cases d with
  | zero=>exact h.elim
  | succ d=>exact ⟨h.1,λt ht=>(h.2 t ht).1⟩
 have h3:zRl ((a.length+Int.toNat (0:Int)+(1:Nat))+zgt a) a 0=(true,bif a.all zzQ then .inr () else .inl false):=by
  have:=zcz (W:=zRc) (z:=.inl default) a.length (λk=>(a,(k:Int),())) (λ_=>()) (λk=>zzQ (a.getD k default)) (.inl false) (.inr ())
   (λk hk H K D=>by
    show (zwg a k).ev H K D=_;unfold zwg;have h4:=h2 _ (zm hk);have h5:=zJ1 a k hk;simp only [Wy.ev_i,Wy.ev_k,Wy.ev_h,Wy.ev_bn,Wy.ev_d,tT,hk];rw [zbdL a k hk h4 _ (by omega)]
    have e:decide (((a.getD k default).Fs.length:Int)>(64:Int))=decide ((a.getD k default).Fs.length>64):=zjQ _ 64;rw [e];unfold zzQ;cases decide ((a.getD k default).Fs.length>64) <;>cases ((a.getD k default).Fs.any λf=>decide (f.Exp>64)||decide (f.At.Items.length>1024))
    ·simp only [cond_false,cond_true,isL,getR]; rw [zy (by omega)]; rfl
    all_goals rfl)
   (λH K D=>by
    show (zwg a a.length).ev H K D=_;unfold zwg;simp only [Wy.ev_i,Wy.ev_k,Wy.ev_h,Wy.ev_bn,Wy.ev_d,tT,Nat.lt_irrefl]) ((a.length+Int.toNat (0:Int)+(1:Nat))+zgt a) (by omega)
  rw [zx3] at this;exact this
 unfold zHC zUJ;have n1:zQX a=(true,(zbm a:Int)):=(zZG 1000 d a h (by omega) hd).2
 have n2:zZv a=(true,(zM a:Int)):=(zXG 1000 d a h (by omega) hs).2
 simp only [Wy.fin_i,Wy.fin_k,Wy.fin_bn,n1,n2,h3,cond_true];have e1:decide (Int.ofNat a.length>(512:Int))= !decide (a.length<=512):=by rw [show decide (Int.ofNat a.length>(512:Int))=decide (a.length>512) from zjQ _ 512]; exact zM6 _ _
 have e2:decide ((zbm a:Int)>(8:Int))= !decide (zbm a<=8):=by rw [show decide ((zbm a:Int)>(8:Int))=decide (zbm a>8) from zjQ _ 8]; exact zM6 _ _
 have e3:decide ((zM a:Int)>(4096:Int))= !decide (zM a<=4096):=by rw [show decide ((zM a:Int)>(4096:Int))=decide (zM a>4096) from zjQ _ 4096]; exact zM6 _ _
 rw [e1,e2,e3];unfold zfj;cases decide (a.length<=512) <;>cases decide (zbm a<=8) <;>cases decide (zM a<=4096) <;>cases a.all zzQ <;>simp [isL,getL]
def zrx (v:Value):Bool:=(v.Kind==0&&v.Text.size==0)||(v.Kind==1&&v.Int==0&&decide (v.Text.size<=255))||(v.Kind==2&&v.Text.size==0&&(v.Int==0||v.Int==1))
theorem z4i (s:ByteArray):(s.toList==(ByteArray.mk #[]).toList)=(s.size==0):=by
 rw [zAJ];by_cases h:s.size=0
 ·have:s=ByteArray.mk #[]:=zEP (by
   have:s.data.toList.length=0:=by simpa using h
   rw [List.length_eq_zero_iff.1 this])
  subst this; rfl
 ·have:¬ s=ByteArray.mk #[]:=λe=>h (by rw [e]; rfl)
  simp [h,this]
theorem zyx (v:Value):zpw v=(true,zrx v):=by
 unfold zpw zQ1 zrx;simp only [z4i,Wy.fin_i,Wy.fin_k,zf8,zXa];have e:decide (Int.ofNat v.Text.size<=(255:Int))=decide (v.Text.size<=255):=zuf _ 255;rw [e];by_cases h0:v.Kind=0
 ·simp [h0]
 ·by_cases h1:v.Kind=1
  ·by_cases h2:v.Int=0 <;>simp [h1,h2]
  ·by_cases h2:v.Kind=2
   ·by_cases h3:v.Int=0
    ·simp [h2,h3]
    ·by_cases h4:v.Int=1 <;>simp [h2,h3,h4]
   ·simp [h0,h1,h2]
theorem zOO (v:Value):zD0 v=(true,zrx v):=by
 unfold zD0 zRk zrx;simp only [z4i,Wy.fin_i,Wy.fin_k,zf8,zXa];have e:decide (Int.ofNat v.Text.size<=(255:Int))=decide (v.Text.size<=255):=zuf _ 255;rw [e];by_cases h0:v.Kind=0
 ·simp [h0]
 ·by_cases h1:v.Kind=1
  ·by_cases h2:v.Int=0 <;>simp [h1,h2]
  ·by_cases h2:v.Kind=2
   ·by_cases h3:v.Int=0
    ·by_cases h4:v.Text.size=0 <;>simp [h2,h3,h4]
    ·by_cases h4:v.Text.size=0 <;>simp [h2,h3,h4]
   ·simp [h0,h1,h2]
def zKa (fn:Int) (b:Value) (w:Wd):Bool:=zrx w.Value&&(w.Value.Kind==b.Kind)&& !(fn==0&&w.Value.Int != 1)
def zzk (fn:Int) (l:yD) (op:Int) (b:Value):Bool:=decide (0<=fn)&&decide (fn<=3)&&decide (5<=op)&&decide (op<=10)&&zrx b&& !(decide (fn<=1)&&b.Kind != 0)&&l.all (zKa fn b)
theorem z9O (l:yD) (fn:Int) (b:Value) (h:l.length<=1000000):zbq l b fn=(true, !l.all (zKa fn b)):=by
 unfold zbq zgY;have:zdj l b fn=IG (λ(g:Value×(Int×Unit)×Unit) x=>zhD x g.1 g.2.1.1) (l.length+fn.toNat +(Int.ofNat l.length).toNat +Int.toNat (0:Int)+(1:Nat)) (b,(fn,()),()) l:=rfl
 have e:(!l.all (zKa fn b))=l.any λw=> !zKa fn b w:=by simp [List.all_eq_not_any_not]
 rw [e]
 exact zkj (this.trans (zHb _ _ _ _ _ (by omega) (λx _=>by
  show zhD x b fn=_;unfold zhD zyU zKa;simp only [Wy.fin_i,Wy.fin_k,Wy.fin_bn,zyx,cond_true,zf8,zry];cases zrx x.Value <;>by_cases h1:x.Value.Kind=b.Kind <;>by_cases h2:fn=0 <;>simp [zf8,zry,h1,h2]) (by omega)))
theorem zZr (fn:Int) (l:yD) (op:Int) (b:Value) (h:l.length<=1000000):zjN fn l op b=(true,zzk fn l op b):=by
 unfold zjN zCo zzk;simp only [Wy.fin_i,Wy.fin_k,Wy.fin_bn,zyx,z9O l fn b h,cond_true,zf8,zry];by_cases h1:fn<0
 ·have:¬ (0<=fn):=by omega
  simp [h1,this]
 by_cases h2:3<fn
 ·have:¬ (fn<=3):=by omega
  simp [h1,h2,this]
 by_cases h3:op<5
 ·have:¬ (5<=op):=by omega
  simp [h1,h2,h3,this]
 by_cases h4:10<op
 ·have:¬ (op<=10):=by omega
  simp [h1,h2,h3,h4,this]
 have g1:0<=fn:=by omega
 have g2:fn<=3:=by omega
 have g3:5<=op:=by omega
 have g4:op<=10:=by omega
 cases zrx b with
 | false=>simp [h1,h2,h3,h4]
 | true=>
  by_cases h5:fn=0
  ·subst h5; by_cases h6:b.Kind=0 <;>simp [h3,h4,h6,g3,g4]
  ·by_cases h7:fn=1
   ·subst h7; by_cases h6:b.Kind=0 <;>simp [h3,h4,h6,g3,g4]
   ·have:¬ fn<=1:=by omega
    simp [h1,h2,h3,h4,h5,h7,this,g1,g2,g3,g4]
theorem z4r (fn:Int) (l:yD) (op:Int) (b:Value) (h:l.length<=1000000):zD6 fn l op b=(true,zzk fn l op b):=by
 unfold zD6 zRq zzk
 have hl:zDe (fn.toNat +l.length+Int.toNat (0:Int)+(1:Nat)) fn l (0:Int) b=(true,bif l.all (zKa fn b) then .inr () else .inl false):=by
  have:=zcz (W:=zNf) (z:=.inl default) l.length (λk=>(fn,l,(),(k:Int),())) (λ_=>(b,())) (λk=>zKa fn b (l.getD k default)) (.inl false) (.inr ())
   (λk hk H K D=>by
    show (ztY fn l k b).ev H K D=_;unfold ztY zKa;simp only [Wy.ev_i,Wy.ev_k,Wy.ev_h,Wy.ev_bn,Wy.ev_d,tT,hk,zOO,zf8,zry];rw [zy (by omega)]
    cases zrx (l.getD k default).Value <;>cases decide ((l.getD k default).Value.Kind=b.Kind) <;>cases decide (fn=0) <;>cases decide ((l.getD k default).Value.Int=1) <;>rfl)
   (λH K D=>by
    show (ztY fn l l.length b).ev H K D=_;unfold ztY;simp only [Wy.ev_i,Wy.ev_k,Wy.ev_h,Wy.ev_bn,Wy.ev_d,tT,Nat.lt_irrefl]) (fn.toNat +l.length+Int.toNat (0:Int)+(1:Nat)) (by omega)
  rw [zx3] at this;exact this
 simp only [Wy.fin_i,Wy.fin_k,Wy.fin_bn,zOO,hl,cond_true,zf8,zry];by_cases h1:fn<0
 ·have:¬ (0<=fn):=by omega
  simp [h1,this]
 by_cases h2:3<fn
 ·have:¬ (fn<=3):=by omega
  simp [h1,h2,this]
 by_cases h3:op<5
 ·have:¬ (5<=op):=by omega
  simp [h1,h2,h3,this]
 by_cases h4:10<op
 ·have:¬ (op<=10):=by omega
  simp [h1,h2,h3,h4,this]
 have g1:0<=fn:=by omega
 have g2:fn<=3:=by omega
 have g3:5<=op:=by omega
 have g4:op<=10:=by omega
 cases zrx b with
 | false=>simp [h1,h2,h3,h4]
 | true=>
  by_cases h5:fn<=1
  ·by_cases h6:b.Kind=0
   ·cases l.all (zKa fn b) <;>simp [h1,h2,h3,h4,h5,h6,g1,g2,g3,g4,isL,getL]
   ·simp [h1,h2,h3,h4,h5,h6,g1,g2,g3,g4]
  ·cases l.all (zKa fn b) <;>simp [h1,h2,h3,h4,h5,g1,g2,g3,g4,isL,getL]
def bz (b:Value):Bool:=b.Kind==(0:Int)&&(b.Int==(0:Int)&&(b.Text.toList==(ByteArray.mk #[]).toList&&true))
def plA (x:At):Bool:=x.Func==0&&(x.Items.length==0)&&x.Op==0&&bz x.Bd
theorem z9y (x:At):zwx x=(true,plA x):=by
 unfold zwx zRr plA;simp only [Wy.fin_i,Wy.fin_k,Int.ofNat_eq_natCast,i0];show _=(true,_&&_&&_&&bz x.Bd);rw [show (x.Bd.Kind==(0:Int)&&(x.Bd.Int==(0:Int)&&(x.Bd.Text.toList==(ByteArray.mk #[]).toList&&true)))=bz x.Bd from rfl]
 cases x.Func==0 <;>cases x.Items.length==0 <;>cases x.Op==0 <;>rfl
def zQA (l:yD) (k:Nat):Bool:=decide (k=0)||decide (z8 (zba (l.getD (k - 1) default)) (zba (l.getD k default))<=0)
def zTF (l:yD):Bool:=zer (zQA l) l.length 0
theorem zTm (c:Nat->Bool):∀ n i,zer c (n+1) i=(zer c n i&&c (i+n))
 | 0,i=>by simp [zer]
 | n+1,i=>by
  rw [zer,zTm c n (i+1),zer,show i+1+n=i+(n+1) by omega,Bool.and_assoc]
theorem zRi {d:Nat} (l:yD) (hl:l.length<=1000000) (h:∀ w∈l,zn d w.Ann) (hd:d<=99):∀ (n i:Nat),i<l.length->i<n->zeo n l i=(true,bif zer (zQA l) (i+1) 0 then .inr () else .inl false)
 | 0,i,hi,hn=>by omega
 | n+1,i,hi,hn=>by
  show (zep l i).ev (λx y=>zeo n x.1 x.2.2.1) (λr=>(true,r)) (false,.inl default)=_
  unfold zep;have hg:decide ((i:Int)>(0:Int))=decide (0<i):=zjQ i 0;cases i with
  | zero=>simp [Wy.ev_i,Wy.ev_k,zer,zQA]
  | succ i=>
   have hi':i<l.length:=by omega
   have hw:IntKind.i64.wrap (((i+1:Nat):Int) - 1)=(i:Int):=by rw [zxU (by omega) (by omega)]; rfl
   have hp:decide (0<i+1)=true:=by simp
   simp only [Wy.ev_i,Wy.ev_k,Wy.ev_h,Wy.ev_bn,Wy.ev_d,hg,hp,hw,tT,hi,hi',zjx (h _ (zm hi)) hd];rw [zRi l hl h hd n i hi' (by omega),zTm _ (i+1),Nat.zero_add]
   have:zQA l (i+1)= !decide (z8 (zba (l.getD (i+1) default)) (zba (l.getD i default))<0):=by
    unfold zQA;rw [show i+1 - 1=i from rfl,zfV (zba (l.getD (i+1) default)) (zba (l.getD i default))]
    generalize z8 (zba (l.getD (i+1) default)) (zba (l.getD i default))=z;by_cases hz:z<0
    ·have:¬ (-z<=0):=by omega
     simp [hz,this]
    ·have:(-z<=0):=by omega
     simp [hz,this]
   rw [this];cases decide (z8 (zba (l.getD (i+1) default)) (zba (l.getD i default))<0) <;>simp
theorem z5T {d:Nat} (l:yD) (hl:l.length<=1000000) (h:∀ w∈l,zn d w.Ann) (hd:d<=99):zcj l=(true,zTF l):=by
 unfold zcj zhT zTF
 match l,hl,h with
 | [],_,_=>rfl
 | x::r,hl,h=>
  have hw:IntKind.i64.wrap (Int.ofNat (x::r).length - 1)=(r.length:Int):=by
   rw [qf] at hl;rw [show Int.ofNat (x::r).length=(((x::r).length:Nat):Int) from rfl,zxU (by simp) (by simp; omega)]; rfl
  rw [Wy.fin_bn,hw,zRi (x::r) hl h hd _ r.length (by simp) (by simp; omega)]
  cases zer (zQA (x::r)) (r.length+1) 0 with
  | true=>simp [Wy.fin_i,Wy.fin_k,isL]
  | false=>simp [Wy.fin_i,Wy.fin_k,isL,getL]
section
variable {τ:Type} [Inhabited τ]
theorem z3l (A B:List τ) (x:τ):(A++x::B).getD A.length default=x:=by
 rw [List.getD_eq_getElem?_getD,List.getElem?_append_right (Nat.le_refl _)]; simp
theorem z3P (A B:List τ) (x y:τ):(A++x::B).set A.length y=A++y::B:=by
 rw [List.set_append_right _ _ (Nat.le_refl _)]; simp
theorem zbbO (A B C:List τ) (x y:τ):(A++x::(B++y::C)).getD (A.length+1+B.length) default=y:=by
 have:=z3l (A++x::B) C y;rw [qg,qf,show A.length+(B.length+1)=A.length+1+B.length by omega,List.append_assoc,List.cons_append] at this
 exact this
theorem zbbZ (A B C:List τ) (x y z:τ):(A++x::(B++y::C)).set (A.length+1+B.length) z=A++x::(B++z::C):=by
 have:=z3P (A++x::B) C y z;rw [qg,qf,show A.length+(B.length+1)=A.length+1+B.length by omega,List.append_assoc,List.cons_append,List.append_assoc,List.cons_append] at this
 exact this
end
structure CW (U:Row->Prop):Prop where
 ends : ∀ x y, U x -> U y -> ∃ z, zcq x y = (true, z)
def ltW (x y:Row):Prop:=(zcq x y).2<0
theorem CW.eq {U:Row->Prop} (h:CW U) {x y:Row} (hx:U x) (hy:U y):zcq x y=(true,(zcq x y).2):=by
 obtain ⟨z,e⟩:=h.ends x y hx hy;rw [e]
theorem zbaN {U:Row->Prop} (hU:CW U) (P S:yF) (a b i:Int) (ha:a=(P.length:Int)):∀ (n:Nat) (L R:yF) (x:Row),(P++L++x::(R++S)).length<=1000000->L.length<n->U x->(∀ y∈L,U y)->
  ∃ L' R',zg8 n a b i ((P.length+L.length:Nat):Int) (P++L++x::(R++S))=(true,(a,b,i,P++L'++x::(R'++S)))/\L'++R'=L++R/\(∀ r∈R',r∈R\/ltW x r)/\(L'=[]\/∃ L0 y,L'=L0++[y]/\¬ ltW x y)
 | 0,L,R,x,hN,hn,_,_=>by omega
 | n+1,L,R,x,hN,hn,hx,hL=>by
  subst ha;simp only [qg,qf] at hN;show ∃ L' R',(zg2 P.length b i (P.length+L.length:Nat) (P++L++x::(R++S))).ev (λx y=>zg8 n x.2.1 x.2.2.1 x.2.2.2.2.1 x.2.2.2.2.2.1 y.1) (λr=>(true,r)) (false,default)=_/\_
  unfold zg2;rcases List.eq_nil_or_concat L with rfl | ⟨L0,y,rfl⟩
  ·have e:decide (((P.length+([]:yF).length:Nat):Int)>(P.length:Int))=false:=by rw [decide_eq_false_iff_not]; simp
   simp only [Wy.ev_i,Wy.ev_k,e,cond_false];exact ⟨[],R,rfl,rfl,λr hr=>.inl hr,.inl rfl⟩
  ·rw [List.concat_eq_append] at *;simp only [qg,List.length_singleton] at hN hn;have e:decide (((P.length+(L0++[y]).length:Nat):Int)>(P.length:Int))=true:=by rw [qe]; simp; omega
   have ed:P++(L0++[y])++x::(R++S)=(P++L0)++y::([]++x::(R++S)):=by simp
   have ej:((P.length+(L0++[y]).length:Nat):Int)=(((P++L0).length+1+([]:yF).length:Nat):Int):=by simp; omega
   have wj:IntKind.i64.wrap ((((P++L0).length+1+([]:yF).length:Nat):Int) - 1)=(((P++L0).length:Nat):Int):=by
    simp only [qg,List.length_nil];rw [ze5 (by omega) (by omega)]; omega
   have hlen:∀ u v:Row,((P++L0)++u::([]++v::(R++S))).length=P.length+L0.length+1+1+R.length+S.length:=λu v=>by simp only [qg,qf,List.length_nil]; omega
   have g1:∀ u v:Row,(decide ((0:Int)<=(((P++L0).length+1+([]:yF).length:Nat):Int))&&decide ((((P++L0).length+1+([]:yF).length:Nat):Int)<Int.ofNat ((P++L0)++u::([]++v::(R++S))).length))=true:=λu v=>by
    rw [hlen]; simp only [qc,qe,Int.ofNat_eq_natCast,qg,List.length_nil]; omega
   have g2:∀ u v:Row,(decide ((0:Int)<=(((P++L0).length:Nat):Int))&&decide ((((P++L0).length:Nat):Int)<Int.ofNat ((P++L0)++u::([]++v::(R++S))).length))=true:=λu v=>by
    rw [hlen]; simp only [qc,qe,Int.ofNat_eq_natCast,qg]; omega
   have g3:∀ u v:Row,decide ((P++L0).length+1+([]:yF).length<((P++L0)++u::([]++v::(R++S))).length)=true:=λu v=>by
    rw [hlen,qe]; simp only [qg,List.length_nil]; omega
   have g4:∀ u v:Row,decide ((P++L0).length<((P++L0)++u::([]++v::(R++S))).length)=true:=λu v=>by
    rw [hlen,qe]; simp only [qg]; omega
   obtain ⟨z,ez⟩:=hU.ends x y hx (hL y (by simp))
   have hz:ltW x y↔z<0:=by unfold ltW; rw [ez]
   rw [e,ed,ej,wj];simp only [Wy.ev_i,Wy.ev_k,Wy.ev_h,Wy.ev_bn,Wy.ev_d,Int.toNat_natCast,g1,g2,g3,g4,zbbO,z3l,zbbZ,z3P,cond_true,ez];by_cases hlt:z<0
   ·rw [decide_eq_true hlt,cond_true];obtain ⟨L',R',k1,k2,k3,k4⟩:=zbaN hU P S P.length b i rfl n L0 (y::R) x (by simp only [qg,qf]; omega) (by omega) hx (λz hz=>hL z (by simp [hz]))
    refine ⟨L',R', ?_,by rw [k2]; simp,λr hr=> ?_,k4⟩
    ·rw [<- k1];simp
    ·rcases k3 r hr with h | h
     ·rcases qd.1 h with rfl | h
      ·exact .inr (hz.2 hlt)
      ·exact .inl h
     ·exact .inr h
   ·rw [decide_eq_false hlt,cond_false];refine ⟨L0++[y],R, ?_,rfl,λr hr=>.inl hr,   .inr ⟨L0,y,rfl,λh=>hlt (hz.1 h)⟩⟩
    simp
abbrev zAd (l:yF):Prop:=l.Pairwise λx y=>¬ ltW y x
structure OW (U:Row->Prop):Prop extends CW U where
 asym:∀ x y,U x->U y->ltW x y->¬ ltW y x
 ntr:∀ x y z,U x->U y->U z->¬ ltW x y->¬ ltW y z->¬ ltW x z
def clW (v y:Row):Bool:=decide (¬ (zcq v y).2<0)&&decide (¬ (zcq y v).2<0)
theorem zU9 {v y:Row}:clW v y=true↔¬ ltW v y/\¬ ltW y v:=by unfold clW ltW; simp
structure PS (U:Row->Prop) (Z L:yF):Prop where
 perm:Z.Perm L
 stab:∀ v,U v->Z.filter (clW v)=L.filter (clW v)
theorem PS.refl {U:Row->Prop} (L:yF):PS U L L:=⟨.refl _,λ_ _=>rfl⟩
theorem PS.trans {U:Row->Prop} {A B C:yF} (h:PS U A B) (k:PS U B C):PS U A C:=⟨h.perm.trans k.perm,λv hv=>(h.stab v hv).trans (k.stab v hv)⟩
theorem PS.append {U:Row->Prop} {A B C D:yF} (h:PS U A B) (k:PS U C D):PS U (A++C) (B++D):=⟨h.perm.append k.perm,λv hv=>by rw [List.filter_append,List.filter_append,h.stab v hv,k.stab v hv]⟩
theorem PS.swap {U:Row->Prop} (h:OW U) {A B:yF} (hA:∀ y∈A,U y) (hB:∀ y∈B,U y) (hl:∀ a∈A,∀ b∈B,ltW a b\/ltW b a):PS U (A++B) (B++A):=⟨List.perm_append_comm,λv hv=>by
 rw [List.filter_append,List.filter_append];cases ea:A.filter (clW v) with
 | nil=>simp
 | cons a A'=>
  cases eb:B.filter (clW v) with
  | nil=>simp
  | cons b B'=>
   exfalso;obtain ⟨a1,a2⟩:=List.mem_filter.1 (show a∈A.filter (clW v) by rw [ea]; simp)
   obtain ⟨b1,b2⟩:=List.mem_filter.1 (show b∈B.filter (clW v) by rw [eb]; simp)
   obtain ⟨a3,a4⟩:=zU9.1 a2;obtain ⟨b3,b4⟩:=zU9.1 b2;rcases hl a a1 b b1 with h1 | h1
   ·exact h.ntr a v b (hA a a1) hv (hB b b1) a4 b3 h1
   ·exact h.ntr b v a (hB b b1) hv (hA a a1) b4 a3 h1⟩
theorem z7b {U:Row->Prop} (h:OW U) {L R:yF} {x:Row} (hx:U x) (hL:∀ y∈L++R,U y) (hs:zAd (L++R)) (h1:∀ r∈R,ltW x r) (h2:L=[]\/∃ L0 y,L=L0++[y]/\¬ ltW x y):zAd (L++x::R):=by
 have hs':=List.pairwise_append.1 hs;refine List.pairwise_append.2 ⟨hs'.1,qi.2 ⟨λr hr=>h.asym x r hx (hL r (by simp [hr])) (h1 r hr),hs'.2.1⟩,λy hy z hz=> ?_⟩
 rcases qd.1 hz with rfl | hz
 ·rcases h2 with rfl | ⟨L0,w,rfl,hw⟩
  ·cases hy
  ·rcases List.mem_append.1 hy with hy | hy
   ·have:=(List.pairwise_append.1 hs'.1).2.2 y hy w (by simp)
    exact h.ntr z w y hx (hL w (by simp)) (hL y (by simp [hy])) hw this
   ·rw [qh.1 hy]; exact hw
 ·exact hs'.2.2 y hy z hz
theorem zba1 {U:Row->Prop} (h:OW U) (P S:yF) (a b:Int) (ha:a=(P.length:Int)):∀ (n:Nat) (Z1 Z2:yF),(P++Z1++Z2++S).length<=1000000->b=((P.length+Z1.length+Z2.length:Nat):Int)->Z2.length<n->(∀ y∈Z1,U y)->(∀ y∈Z2,U y)->zAd Z1->Z1.length<=900->
  Z1.length+Z2.length<=900->∃ Z,zdl n a b ((P.length+Z1.length:Nat):Int) (P++Z1++Z2++S)=(true,P++Z++S)/\PS U Z (Z1++Z2)/\zAd Z
 | 0,Z1,Z2,hN,hb,hn,_,_,_,_,_=>by omega
 | n+1,Z1,Z2,hN,hb,hn,u1,u2,hs,h9,h99=>by
  simp only [qg] at hN;show ∃ Z,(zdm a b (P.length+Z1.length:Nat) (P++Z1++Z2++S)).ev (λx y=>zdl n x.2.1 x.2.2.1 x.2.2.2.2.1 y.1) (λr=>(true,r)) (false,default)=_/\_
  unfold zdm;cases Z2 with
  | nil=>
   have e:decide (((P.length+Z1.length:Nat):Int)<b)=false:=by rw [decide_eq_false_iff_not,hb]; simp
   simp only [Wy.ev_i,Wy.ev_k,e,cond_false];exact ⟨Z1,by simp,by rw [List.append_nil]; exact PS.refl _,hs⟩
  | cons x Z2=>
   simp only [qf] at hN hb hn h99;have e:decide (((P.length+Z1.length:Nat):Int)<b)=true:=by rw [qe,hb]; omega
   obtain ⟨L',R',k1,k2,k3,k4⟩:=zbaN h.toCW P (Z2++S) a b ((P.length+Z1.length:Nat):Int) ha (a.toNat +b.toNat +(P.length+Z1.length)+(P.length+Z1.length)+(P++Z1++x::Z2++S).length+1000) Z1 [] x (by simp only [qg,qf,List.length_nil]; omega) (by omega) (u2 x (by simp)) u1
   have ed:P++Z1++x::([]++(Z2++S))=P++Z1++x::Z2++S:=by simp
   rw [ed] at k1;simp only [Wy.ev_i,Wy.ev_k,Wy.ev_h,Wy.ev_bn,Wy.ev_d,e,cond_true,Int.toNat_natCast,k1];rw [List.append_nil] at k2
   have hlen:(L'++x::R').length=Z1.length+1:=by
    have:=congrArg List.length k2;simp only [qg,qf] at *; omega
   have hsl:zAd (L'++x::R'):=z7b h (u2 x (by simp)) (λy hy=>by rw [k2] at hy; exact u1 y hy) (by rw [k2]; exact hs) (λr hr=>by
    rcases k3 r hr with h | h
    ·cases h
    ·exact h) k4
   have hmem:∀ y∈L'++x::R',U y:=λy hy=>by
    rcases List.mem_append.1 hy with hy | hy
    ·exact u1 y (by rw [<- k2]; simp [hy])
    ·rcases qd.1 hy with rfl | hy
     ·exact u2 y (by simp)
     ·exact u1 y (by rw [<- k2]; simp [hy])
   obtain ⟨Z,m1,m2,m3⟩:=zba1 h P S a b ha n (L'++x::R') Z2 (by simp only [qg] at hlen ⊢; simp only [qf] at hlen ⊢; omega) (by rw [hb,hlen]; omega) (by omega) hmem (λy hy=>u2 y (by simp [hy])) hsl (by omega) (by omega)
   refine ⟨Z, ?_,m2.trans ?_,m3⟩
   ·have wi:IntKind.i64.wrap (((P.length+Z1.length:Nat):Int)+1)=((P.length+(L'++x::R').length:Nat):Int):=by rw [hlen,ze5 (by omega) (by omega)]; omega
    rw [wi, <- m1];congr 1;simp
   ·have hr:∀ r∈R',ltW x r:=λr hr=>(k3 r hr).resolve_left (by simp)
    have h1:PS U ([x]++R') (R'++[x]):=PS.swap h (λy hy=>by rw [qh.1 hy]; exact u2 x (by simp)) (λy hy=>hmem y (by simp [hy])) (λa ha b hb=>by rw [qh.1 ha]; exact .inl (hr b hb))
    have h2:=((PS.refl L').append h1).append (PS.refl Z2);rw [<- List.append_assoc L' R',k2] at h2
    simpa using h2
theorem zbeF {U:Row->Prop} (h:OW U) (P Z S:yF) (hN:(P++Z++S).length<=1000000) (u:∀ y∈Z,U y) (h9:Z.length<=900) (a b:Int) (ha:a=(P.length:Int)) (hb:b=((P.length+Z.length:Nat):Int)):
  ∃ Z',zcS (P++Z++S) a b=(true,P++Z'++S)/\PS U Z' Z/\zAd Z':=by
 simp only [qg] at hN;unfold zcS zma;have wa:IntKind.i64.wrap (a+1)=((P.length+1:Nat):Int):=by rw [ha,ze5 (by omega) (by omega)]; omega
 rw [wa];cases Z with
 | nil=>
  refine ⟨[], ?_,PS.refl _,.nil⟩;have e:decide (((P.length+1:Nat):Int)<b)=false:=by rw [decide_eq_false_iff_not,hb]; simp; omega
  have e1:∀ k,zdl (k+1) a b ((P.length+1:Nat):Int) (P++([]:yF)++S)=(true,P++([]:yF)++S):=λk=>by
   show (zdm a b (P.length+1:Nat) (P++([]:yF)++S)).ev _ _ _=_;unfold zdm;rw [Wy.ev_i,e]; rfl
  have e2:zdl (a.toNat +b.toNat +Int.toNat ((P.length+1:Nat):Int)+(P++([]:yF)++S).length+(1000:Nat)) a b ((P.length+1:Nat):Int) (P++([]:yF)++S)=(true,P++([]:yF)++S):=e1 (a.toNat +b.toNat +Int.toNat ((P.length+1:Nat):Int)+(P++([]:yF)++S).length+999);rw [Wy.fin_bn,e2]; rfl
 | cons x Z=>
  simp only [qf] at hN h9 hb;obtain ⟨Z',k1,k2,k3⟩:=zba1 h P S a b ha (a.toNat +b.toNat +Int.toNat ((P.length+1:Nat):Int)+(P++x::Z++S).length+(1000:Nat)) [x] Z (by simp only [qg,List.length_singleton]; omega) (by rw [hb]; simp only [List.length_singleton]; omega) (by omega) (λy hy=>u y (by rw [qh.1 hy]; simp)) (λy hy=>u y (by simp [hy])) (by simp) (by simp) (by simp only [List.length_singleton]; omega)
  have ed:P++[x]++Z++S=P++x::Z++S:=by simp
  rw [ed,show ([x]:yF).length=1 from rfl] at k1
  rw [Wy.fin_bn,k1];exact ⟨Z',rfl,k2,k3⟩
theorem z9A (k:Nat) {n bs a b:Int} (D:yF) (h:¬ b<=n):zj8 (k+1) n bs a b D=(true,(n,bs,a,D)):=by
 show (zkc n bs a b D).ev _ _ _=_;unfold zkc;rw [Wy.ev_i,decide_eq_false h]; rfl
theorem zbab (k:Nat) {n bs:Int} (D:yF) (h:¬ bs<n):zkb (k+1) n bs D=(true,D):=by
 show (zka n bs D).ev _ _ _=_;unfold zka;rw [Wy.ev_i,decide_eq_false h]; rfl
theorem zbbr {U:Row->Prop} (hU:OW U) {l:yF} (u:∀ y∈l,U y) (h4:l.length<20):∃ Z,zct l=(true,Z)/\PS U Z l/\zAd Z:=by
 suffices h:∃ Z,zfG l (Int.ofNat l.length)=(true,Z)/\PS U Z l/\zAd Z by
  obtain ⟨Z,k1,k2,k3⟩:=h;refine ⟨Z, ?_,k2,k3⟩;unfold zct zkY;rw [Wy.fin_bn,k1]; rfl
 rw [Int.ofNat_eq_natCast];unfold zfG zsr;have e2:zj8 (Int.toNat (l.length:Int)+Int.toNat (20:Int)+Int.toNat (0:Int)+Int.toNat (20:Int)+l.length+(1000:Nat)) l.length 20 0 20 l=(true,((l.length:Int),20,0,l)):=z9A (Int.toNat (l.length:Int)+Int.toNat (20:Int)+Int.toNat (0:Int)+Int.toNat (20:Int)+l.length+999) l (by omega)
 obtain ⟨Z,k1,k2,k3⟩:=zbeF hU [] l [] (by simp; omega) u (by omega) 0 (l.length:Int) (by simp) (by simp)
 have e7:zkb (Int.toNat (l.length:Int)+Int.toNat (20:Int)+Z.length+(1000:Nat)) l.length 20 Z=(true,Z):=zbab (Int.toNat (l.length:Int)+Int.toNat (20:Int)+Z.length+999) Z (by omega)
 rw [List.nil_append,List.append_nil,List.nil_append,List.append_nil] at k1;refine ⟨Z, ?_,k2,k3⟩;simp only [Wy.fin_bn,e2,k1,e7,cond_true,Wy.fin_k]
def zz3 (x:Row):yF->yF
 | []=>[x]
 | y::r=>if (zcq x y).2<0 then x::y::r else y::zz3 x r
def zHX (l:yF):yF:=l.foldl (λs x=>zz3 x s) []
theorem z1i (x:Row):∀ l,(zz3 x l).Perm (x::l)
 | []=>.refl _
 | y::r=>by
  rw [zz3];split
  ·exact .refl _
  ·exact ((z1i x r).cons y).trans (.swap x y r)
section
variable {U:Row->Prop} (h:OW U)
include h
theorem zYm {x:Row} (hx:U x):¬ ltW x x:=λk=>h.asym x x hx hx k k
theorem z4z {x:Row} (hx:U x):∀ l,(∀ y∈l,U y)->zAd l->zAd (zz3 x l)
 | [],_,_=>by simp [zz3]
 | y::r,u,a=>by
  have a':=qi.1 a;rw [zz3];split
  ·rename_i hlt;refine qi.2 ⟨λz hz=> ?_,a⟩
   have hy:¬ ltW y x:=h.asym x y hx (u y (by simp)) hlt
   rcases qd.1 hz with rfl | hz
   ·exact hy
   ·exact h.ntr z y x (u z (by simp [hz])) (u y (by simp)) hx (a'.1 z hz) hy
  ·rename_i hlt;refine qi.2 ⟨λz hz=> ?_,z4z hx r (λy hy=>u y (by simp [hy])) a'.2⟩
   rcases qd.1 ((z1i x r).mem_iff.1 hz) with rfl | hz
   ·exact hlt
   ·exact a'.1 z hz
theorem z6q {x:Row} (hx:U x):∀ l,(∀ y∈l,U y)->zAd l->PS U (zz3 x l) (l++[x])
 | [],_,_=>PS.refl _
 | y::r,u,a=>by
  have a':=qi.1 a;rw [zz3];split
  ·rename_i hlt;refine PS.swap h (A:=[x]) (B:=y::r) (λz hz=>by rw [qh.1 hz]; exact hx) u λz hz b hb=> ?_
   rw [qh.1 hz];rcases qd.1 hb with rfl | hb
   ·exact .inl hlt
   ·exact .inl (Classical.byContradiction λhn=>h.ntr x b y hx (u b (by simp [hb])) (u y (by simp)) hn (a'.1 b hb) hlt)
  ·exact (PS.refl (U:=U) [y]).append (z6q hx r (λy hy=>u y (by simp [hy])) a'.2)
theorem zWN:∀ l s,(∀ y∈s++l,U y)->zAd s->zAd (l.foldl (λs x=>zz3 x s) s)/\PS U (l.foldl (λs x=>zz3 x s) s) (s++l)
 | [],s,u,a=>⟨a,by rw [List.append_nil]; exact PS.refl _⟩
 | x::l,s,u,a=>by
  have hx:U x:=u x (by simp)
  have us:∀ y∈s,U y:=λy hy=>u y (by simp [hy])
  have p:=z6q h hx s us a
  obtain ⟨k1,k2⟩:=zWN l (zz3 x s) (λy hy=>by
   rcases List.mem_append.1 hy with hy | hy
   ·rcases List.mem_append.1 (p.perm.mem_iff.1 hy) with hy | hy
    ·exact us y hy
    ·rw [qh.1 hy]; exact hx
   ·exact u y (by simp [hy])) (z4z h hx s us a)
  refine ⟨k1,k2.trans ?_⟩;have:=p.append (PS.refl (U:=U) l)
  rwa [List.append_assoc] at this
theorem PS.uniq:∀ {Z L:yF},(∀ y∈L,U y)->zAd Z->zAd L->PS U Z L->Z=L
 | [],L,_,_,_,p=>p.perm.nil_eq
 | z::Z,[],_,_,_,p=>p.perm.eq_nil
 | z::Z,l::L,u,a,b,p=>by
  have hz:z∈l::L:=p.perm.mem_iff.1 (by simp)
  have hl:l∈z::Z:=p.perm.mem_iff.2 (by simp)
  have uz:=u z hz
  have h1:¬ ltW l z:=by
   rcases qd.1 hl with e | hl
   ·rw [e]; exact zYm h uz
   ·exact (qi.1 a).1 l hl
  have h2:¬ ltW z l:=by
   rcases qd.1 hz with e | hz
   ·rw [e]; exact zYm h (u l (by simp))
   ·exact (qi.1 b).1 z hz
  have c1:clW z z=true:=zU9.2 ⟨zYm h uz,zYm h uz⟩;have c2:clW z l=true:=zU9.2 ⟨h2,h1⟩;have f:=p.stab z uz;rw [List.filter_cons_of_pos c1,List.filter_cons_of_pos c2] at f;injection f with e f'
  subst e;refine congrArg _ (PS.uniq (λy hy=>u y (by simp [hy])) (qi.1 a).2 (qi.1 b).2 ⟨(List.perm_cons z).1 p.perm,λv hv=> ?_⟩)
  have f:=p.stab v hv;by_cases hc:clW v z=true
  ·rw [List.filter_cons_of_pos hc,List.filter_cons_of_pos hc] at f;injection f
  ·rw [List.filter_cons_of_neg hc,List.filter_cons_of_neg hc] at f;exact f
theorem zbbf {l:yF} (u:∀ y∈l,U y) (h4:l.length<20):zct l=(true,zHX l):=by
 obtain ⟨Z,k1,k2,k3⟩:=zbbr h u h4;obtain ⟨m1,m2⟩:=zWN h l [] u .nil;rw [k1];refine congrArg _ (PS.uniq h (λy hy=>u y (m2.perm.mem_iff.1 hy)) k3 m1 (k2.trans ?_))
 exact ⟨m2.perm.symm,λv hv=>(m2.stab v hv).symm⟩
end
section
variable {ρ:Type} (c:ρ->ρ->Int) (add:ρ->ρ->Option ρ)
def zd3:List ρ->ρ->Option (List ρ)
 | [],x=>some [x]
 | y::l,x=>if c y x<0 then (zd3 l x).map (y::·) else if c y x=0 then (add y x).map (· ::l) else some (x::y::l)
def zgq:ρ->List ρ->Option (List ρ)
 | w,[]=>some [w]
 | w,x::r=>if c w x=0 then (add w x).bind λz=>zgq z r else (zgq x r).map (w::·)
def mrg:List ρ->Option (List ρ)
 | []=>some []
 | x::r=>zgq c add x r
def zxE (x:ρ):List ρ->List ρ
 | []=>[x]
 | y::r=>if c x y<0 then x::y::r else y::zxE x r
structure MO (V:ρ->Prop):Prop where
 anti:∀ x y,V x->V y->(c x y<0↔0<c y x)
 trans:∀ x y z,V x->V y->V z->c x y<=0->c y z<=0->c x z<=0
 key:∀ x y z,V x->V y->add x y=some z->V z/\∀ w,V w->(c z w=c x w/\c w z=c w x)
variable {c add} {V:ρ->Prop} (h:MO c add V)
include h
theorem MO.zero {x y:ρ} (hx:V x) (hy:V y):c x y=0↔c y x=0:=by
 have h1:=h.anti x y hx hy;have h2:=h.anti y x hy hx;omega
theorem MO.lt1 {x y z:ρ} (hx:V x) (hy:V y) (hz:V z) (h1:c x y<0) (h2:c y z<=0):c x z<0:=by
 have a:=h.trans x y z hx hy hz (by omega) h2
 have b1:=h.anti x y hx hy;have b2:=h.anti y x hy hx;have b3:=h.anti x z hx hz;have b4:=h.anti z x hz hx;have b5:=h.anti y z hy hz;by_cases e:c x z=0
 ·have:=h.trans y z x hy hz hx h2 (by omega)
  omega
 ·omega
theorem MO.lt2 {x y z:ρ} (hx:V x) (hy:V y) (hz:V z) (h1:c x y<=0) (h2:c y z<0):c x z<0:=by
 have a:=h.trans x y z hx hy hz h1 (by omega)
 have b1:=h.anti x y hx hy;have b2:=h.anti y x hy hx;have b3:=h.anti x z hx hz;have b4:=h.anti z x hz hx;have b5:=h.anti y z hy hz;by_cases e:c x z=0
 ·have:=h.trans z x y hz hx hy (by omega) h1
  omega
 ·omega
theorem z1c:∀ (r:List ρ) (w:ρ) (M:List ρ),V w->(∀ y∈r,V y)->zgq c add w r=some M->∃ m t,M=m::t/\V m/\∀ x,V x->(c m x=c w x/\c x m=c x w)
 | [],w,M,hw,_,e=>by
  rw [zgq,qa] at e;exact ⟨w,[],e.symm,hw,λx _=>⟨rfl,rfl⟩⟩
 | x::r,w,M,hw,u,e=>by
  rw [zgq] at e;split at e
  ·cases ea:add w x with
   | none=>rw [ea] at e; cases e
   | some z=>
    rw [ea] at e;obtain ⟨k1,k2⟩:=h.key w x z hw (u x (by simp)) ea
    obtain ⟨m,t,e1,e2,e3⟩:=z1c r z M k1 (λy hy=>u y (by simp [hy])) e
    exact ⟨m,t,e1,e2,λy hy=>⟨(e3 y hy).1.trans (k2 y hy).1,(e3 y hy).2.trans (k2 y hy).2⟩⟩
  ·cases ea:zgq c add x r with
   | none=>rw [ea] at e; cases e
   | some M'=>
    rw [ea] at e;rw [Option.map_some,qa] at e;exact ⟨w,M',e.symm,hw,λx _=>⟨rfl,rfl⟩⟩
theorem z1O {r:List ρ} {w x:ρ} (hw:V w) (hx:V x) (u:∀ y∈r,V y) (hxw:c x w<0):(zgq c add w r).map (x::·)=(zgq c add w r).bind (λM=>zd3 c add M x):=by
 cases e:zgq c add w r with
 | none=>rfl
 | some M=>
  obtain ⟨m,t,rfl,e2,e3⟩:=z1c h r w M hw u e;have h1:=(h.anti x w hx hw).1 hxw;have h2:=(e3 x hx).1;rw [Option.map_some,Option.bind_some,zd3,if_neg (by omega),if_neg (by omega)]
theorem zXL {x:ρ} (hx:V x):∀ (r:List ρ) (w:ρ),V w->(∀ y∈r,V y)->(w::r).Pairwise (λa b=>c a b<=0)->c w x<=0->zgq c add w (zxE c x r)=(zgq c add w r).bind λM=>zd3 c add M x
 | [],w,hw,_,_,hle=>by
  rw [zxE,zgq,zgq,zgq,Option.bind_some,zd3,zd3];by_cases e:c w x=0
  ·rw [if_pos e,if_neg (by omega),if_pos e]; cases add w x <;>rfl
  ·rw [if_neg e,if_pos (by omega)]
 | y::r,w,hw,u,p,hle=>by
  have hy:V y:=u y (by simp)
  have ur:∀ y∈r,V y:=λy hy=>u y (by simp [hy])
  have p':=qi.1 p;have hwy:c w y<=0:=p'.1 y (by simp)
  have pr:=qi.1 p'.2;have ax:=h.anti x y hx hy;have ay:=h.anti y x hy hx;rw [zxE];by_cases hlt:c x y<0
  ·rw [if_pos hlt];have hwy':c w y<0:=h.lt2 hw hx hy hle hlt;rw [zgq];by_cases e:c w x=0
   ·rw [if_pos e];rw [show zgq c add w (y::r)=(zgq c add y r).map (w::·) by rw [zgq,if_neg (by omega)]]
    cases ea:add w x with
    | none=>
     rw [Option.bind_none];cases zgq c add y r with
     | none=>rfl
     | some M=>rw [Option.map_some,Option.bind_some,zd3,if_neg (by omega),if_pos e,ea]; rfl
    | some z=>
     obtain ⟨k1,k2⟩:=h.key w x z hw hx ea;rw [Option.bind_some,zgq,if_neg (by rw [(k2 y hy).1]; omega)]
     cases zgq c add y r with
     | none=>rfl
     | some M=>rw [Option.map_some,Option.map_some,Option.bind_some,zd3,if_neg (by omega),if_pos e,ea]; rfl
   ·rw [if_neg e];rw [show zgq c add w (y::r)=(zgq c add y r).map (w::·) by rw [zgq,if_neg (by omega)]]
    rw [zgq,if_neg (by omega),z1O h hy hx ur hlt]
    cases zgq c add y r with
    | none=>rfl
    | some M=>rw [Option.map_some,Option.bind_some,Option.bind_some,zd3,if_pos (by omega)]
  ·rw [if_neg hlt,zgq,zgq];by_cases e:c w y=0
   ·rw [if_pos e,if_pos e];cases ea:add w y with
    | none=>rfl
    | some z=>
     obtain ⟨k1,k2⟩:=h.key w y z hw hy ea;rw [Option.bind_some,Option.bind_some];exact zXL hx r z k1 ur (qi.2 ⟨λb hb=>by rw [(k2 b (ur b hb)).1]; exact p'.1 b (by simp [hb]),pr.2⟩) (by rw [(k2 x hx).1]; exact hle)
   ·rw [if_neg e,if_neg e,zXL hx r y hy ur p'.2 (by omega)]
    have hwx:c w x<0:=h.lt1 hw hy hx (by omega) (by omega)
    cases zgq c add y r with
    | none=>rfl
    | some M=>rw [Option.map_some,Option.bind_some,Option.bind_some,zd3,if_pos hwx]
theorem zbci {x:ρ} (hx:V x):∀ (r:List ρ),(∀ y∈r,V y)->r.Pairwise (λa b=>c a b<=0)->mrg c add (zxE c x r)=(mrg c add r).bind λM=>zd3 c add M x
 | [],_,_=>rfl
 | y::r,u,p=>by
  have hy:V y:=u y (by simp)
  have ur:∀ y∈r,V y:=λy hy=>u y (by simp [hy])
  rw [zxE];by_cases hlt:c x y<0
  ·rw [if_pos hlt];show zgq c add x (y::r)=(zgq c add y r).bind _;rw [zgq,if_neg (by omega),z1O h hy hx ur hlt]
  ·rw [if_neg hlt];have ax:=h.anti x y hx hy;have ay:=h.anti y x hy hx;exact zXL h hx r y hy ur p (by omega)
theorem zXy {x y:ρ}:∀ {r:List ρ},y∈zxE c x r->y=x\/y∈r
 | [],k=>by rw [zxE] at k; simp_all
 | z::r,k=>by
  rw [zxE] at k;split at k
  ·exact qd.1 k
  ·rcases qd.1 k with rfl | k
   ·exact .inr (by simp)
   ·exact (zXy k).imp id λk=>by simp [k]
theorem z3J {x:ρ} (hx:V x):∀ (r:List ρ),(∀ y∈r,V y)->r.Pairwise (λa b=>c a b<=0)->(zxE c x r).Pairwise λa b=>c a b<=0
 | [],_,_=>by simp [zxE]
 | y::r,u,p=>by
  have hy:V y:=u y (by simp)
  have p':=qi.1 p;rw [zxE];split
  ·rename_i hlt;refine qi.2 ⟨λz hz=> ?_,p⟩
   rcases qd.1 hz with rfl | hz
   ·omega
   ·exact h.trans x y z hx hy (u z (by simp [hz])) (by omega) (p'.1 z hz)
  ·rename_i hlt;have ax:=h.anti x y hx hy;have ay:=h.anti y x hy hx;refine qi.2 ⟨λz hz=> ?_,z3J hx r (λy hy=>u y (by simp [hy])) p'.2⟩
   rcases zXy h hz with rfl | hz
   ·omega
   ·exact p'.1 z hz
theorem z4y:∀ (l s:List ρ),(∀ y∈s++l,V y)->s.Pairwise (λa b=>c a b<=0)->mrg c add (l.foldl (λs x=>zxE c x s) s)=l.foldl (λo x=>o.bind λM=>zd3 c add M x) (mrg c add s)
 | [],s,_,_=>rfl
 | x::l,s,u,p=>by
  have hx:V x:=u x (by simp)
  have us:∀ y∈s,V y:=λy hy=>u y (by simp [hy])
  rw [List.foldl_cons,List.foldl_cons, <- zbci h hx s us p];refine z4y l (zxE c x s) (λy hy=> ?_) (z3J h hx s us p)
  rcases List.mem_append.1 hy with hy | hy
  ·rcases zXy h hy with rfl | hy
   ·exact hx
   ·exact us y hy
  ·exact u y (by simp [hy])
end
def zO1 {ρ:Type} (c:ρ->ρ->Int) (add:ρ->ρ->Option ρ):Option (List ρ)->ρ->Option (List ρ)
 | none,_=>none
 | some o,x=>match o.getLast? with
  | none=>some [x]
  | some w=>if c w x=0 then (add w x).map λz=>o.dropLast++[z] else some (o++[x])
theorem zTB {ρ:Type} (c:ρ->ρ->Int) (add:ρ->ρ->Option ρ):∀ l:List ρ,l.foldl (zO1 c add) none=none
 | []=>rfl
 | x::l=>zTB c add l
theorem zTv {ρ:Type} (c:ρ->ρ->Int) (add:ρ->ρ->Option ρ):∀ (l o:List ρ) (w:ρ),l.foldl (zO1 c add) (some (o++[w]))=(zgq c add w l).map (o++·)
 | [],o,w=>rfl
 | x::l,o,w=>by
  rw [List.foldl_cons,zgq];unfold zO1;simp only [List.getLast?_append,List.getLast?_singleton,Option.some_or,List.dropLast_concat];by_cases e:c w x=0
  ·rw [if_pos e,if_pos e];cases add w x with
   | none=>exact zTB c add l
   | some z=>exact zTv c add l o z
  ·rw [if_neg e,if_neg e];have:=zTv c add l (o++[w]) x;unfold zO1 at this;rw [this];cases zgq c add x l <;>simp
theorem zbbB {ρ:Type} (c:ρ->ρ->Int) (add:ρ->ρ->Option ρ):∀ l:List ρ,l.foldl (zO1 c add) (some [])=mrg c add l
 | []=>rfl
 | x::l=>by
  have:=zTv c add l [] x;simp only [List.nil_append] at this;show l.foldl (zO1 c add) (some [x])=zgq c add x l;rw [this]; cases zgq c add x l <;>rfl
end Go.Proofs.YtoknknbmfmddbaaGreatDoor
/- Relations: values and rows compared, columns, fitting rows: the program and the reference. -/
set_option maxRecDepth 100000
namespace Go.Proofs.YtoknknbmfmddbaaGreatDoor
open Go Go.Ab
def z49 (a b:Value):Int:=z8 (trV a) (trV b)
theorem ref01_Compare_eq' (a b:Value):zjr a b=(true,z49 a b):=zAb a b
theorem zYF (l:yG) (m:Int) (hl:l.length<=zX):∀ (n i:Nat),l.length<i+n->i<=l.length->∃ r,zDU n l m i=(true,r)/\(r=.inl false\/(r=.inr (l,m)/\∀ x∈l.drop i,x.Text.size<=300))
 | 0,i,h,h2=>by omega
 | n+1,i,h,h2=>by
  show ∃ r,(zDC l m i).ev (λx y=>zDU n x.1 x.2.1 x.2.2.1) (λr=>(true,r)) (false,.inl default)=(true,r)/\_
  unfold zDC;by_cases hi:i<l.length
  ·have hw:i<4611686018427387904:=by
    have:zX<4611686018427387904:=by decide
    omega
   have hs:decide (((l.getD i default).Text.size:Int)>(300:Int))=decide ((l.getD i default).Text.size>300):=zjQ _ 300;simp only [Wy.ev_i,Wy.ev_k,Wy.ev_h,Wy.ev_bn,Wy.ev_d,tT,hi];rw [hs];by_cases h3:(l.getD i default).Text.size>300
   ·rw [decide_eq_true h3];exact ⟨_,rfl,.inl rfl⟩
   ·rw [decide_eq_false h3,cond_false,zy hw];obtain ⟨r,h4,h5⟩:=zYF l m hl n (i+1) (by omega) (by omega)
    refine ⟨r,h4, ?_⟩;rcases h5 with h5 | ⟨h5,h6⟩
    ·exact .inl h5
    ·refine .inr ⟨h5,λx hx=> ?_⟩
     rw [zbh hi] at hx;rcases qd.1 hx with rfl | hx
     ·omega
     ·exact h6 x hx
  ·simp only [Wy.ev_i,Wy.ev_k,Wy.ev_h,Wy.ev_bn,Wy.ev_d,tT,hi];exact ⟨_,rfl,.inr ⟨rfl,λx hx=>by rw [zcu hi] at hx; cases hx⟩⟩
theorem z9P (l:yG) (m:Nat) (hl:l.length<=zX):∃ b,zwv l m=(true,b)/\(b=true->l.length<=m/\∀ x∈l,x.Text.size<=300):=by
 unfold zwv zRs;obtain ⟨r,h1,h2⟩:=zYF l m hl (l.length+(m:Int).toNat +Int.toNat (0:Int)+(1:Nat)) 0 (by omega) (by omega)
 rw [show ((0:Nat):Int)=(0:Int) from rfl] at h1
 rw [Wy.fin_bn,h1];rcases h2 with rfl | ⟨rfl,h2⟩
 ·exact ⟨false,rfl,λh=>by cases h⟩
 ·refine ⟨decide (l.length<=m), ?_,λh=>⟨of_decide_eq_true h,h2⟩⟩
  show (true,decide (Int.ofNat l.length<=(m:Int)))=_;rw [show decide (Int.ofNat l.length<=(m:Int))=decide (l.length<=m) from zuf _ _]
def zXO (c:Column):Bool:=decide (0<=c.Type_)&&decide (c.Type_<=2)
def zD1 (l:yH):Bool:=decide (l.length<=16)&&l.all zXO
def zVf (k:Int) (b:Value):Bool:=zrx b&&decide (b.Kind=k)
def zsy (l:yH) (row:yG):Bool:=decide (l.length=row.length)&&zer (λi=>zVf (l.getD i default).Type_ (row.getD i default)) l.length 0
theorem zQd (a b:Nat):decide (Int.ofNat a=Int.ofNat b)=decide (a=b):=by
 by_cases h:a=b
 ·rw [h]; simp
 ·rw [decide_eq_false h,decide_eq_false]; intro e; exact h (Int.ofNat.inj e)
theorem zbdU:zb0 ⟨default,0⟩=(true,false):=by kernel_rfl
theorem zbd8:zb0 ⟨default,1⟩=(true,false):=by kernel_rfl
theorem zbec:zb0 ⟨default,2⟩=(true,false):=by kernel_rfl
theorem zbek (c:Column):zb0 c=(true, !zXO c):=by
 have hc:zb0 c=zb0 ⟨default,c.Type_⟩:=rfl;rw [hc];unfold zXO;generalize c.Type_=t;by_cases h0:t<0
 ·unfold zb0 znH zpM zz8;rw [Wy.fin_bn,Wy.fin_i,decide_eq_true h0,decide_eq_false (show ¬ 0<=t by omega)]
  show (true,((ByteArray.mk #[]).toList==(ByteArray.mk #[]).toList))=_;rw [zAJ]; rfl
 ·by_cases h2:t>2
  ·unfold zb0 znH zpM zz8;rw [Wy.fin_bn,Wy.fin_i,Wy.fin_i,decide_eq_false h0,decide_eq_true h2,decide_eq_false (show ¬ t<=2 by omega),Bool.and_false]
   show (true,((ByteArray.mk #[]).toList==(ByteArray.mk #[]).toList))=_;rw [zAJ]; rfl
  ·rw [decide_eq_true (show 0<=t by omega),decide_eq_true (show t<=2 by omega)]
   have:t=0\/t=1\/t=2:=by omega
   rcases this with rfl | rfl | rfl
   ·exact zbdU
   ·exact zbd8
   ·exact zbec
theorem zK8 (l:yH) (hl:l.length<=1000000):zhu l=(true,zD1 l):=by
 have hc:zcr l=(true, !l.all zXO):=by
  unfold zcr zif;have:zdV l=IG (λ(_:Unit) x=>zb0 x) (l.length+(Int.ofNat l.length).toNat +Int.toNat (0:Int)+(1000:Nat)) () l:=rfl
  have e:(!l.all zXO)=l.any λc=> !zXO c:=by simp [List.all_eq_not_any_not]
  rw [e];exact zkj (this.trans (zHb _ _ _ _ _ (by omega) (λx _=>zbek x) (by omega)))
 unfold zhu zy1 zD1;have el:decide (Int.ofNat l.length<=(16:Int))=decide (l.length<=16):=zuf _ 16;rw [Wy.fin_i,Wy.fin_bn,hc,el];cases decide (l.length<=16) <;>cases l.all zXO <;>rfl
def zz1 (l:yH) (row:yG) (k:Nat):List pair:=(List.range k).map λi=>pair.mk (l.getD i default) (row.getD i default)
theorem z1F (l:yH) (row:yG) (k:Nat):zz1 l row (k+1)=zz1 l row k++[pair.mk (l.getD k default) (row.getD k default)]:=by
 unfold zz1; rw [List.range_succ,List.map_append]; rfl
theorem zWx (l:yH) (row:yG) (k:Nat):(zz1 l row k).length=k:=by simp [zz1]
theorem z33 (l:yH) (row:yG) (he:l.length=row.length) (hl:l.length<=1000000):∀ (n i:Nat),row.length<i+n->i<=row.length->zBs n l row row.length i (zz1 l row i)=(true,zz1 l row row.length)
 | 0,i,h,h2=>by omega
 | n+1,i,h,h2=>by
  show (zCz l row row.length i (zz1 l row i)).ev (zx zCp default n) (λr=>(true,r)) (false,default)=_
  unfold zCz;by_cases hi:i<row.length
  ·have hi':i<l.length:=by omega
   simp only [Wy.ev_i,Wy.ev_k,Wy.ev_h,Wy.ev_bn,Wy.ev_d,tT,hi,hi'];rw [decide_eq_true (show ((zz1 l row i).length+[pair.mk (l.getD i default) (row.getD i default)].length)*56<=zI from zs1 (by rw [zWx]; simp; omega) (by omega)),cond_true,zy (by omega), <- z1F]
   exact z33 l row he hl n (i+1) (by omega) (by omega)
  ·have:i=row.length:=by omega
   subst this;simp only [Wy.ev_i,Wy.ev_k,Wy.ev_h,Wy.ev_bn,Wy.ev_d,tT,Nat.lt_irrefl]
theorem z3s (l:yH) (row:yG) (p:pair->Bool):∀ k,(zz1 l row k).all p=zer (λi=>p (pair.mk (l.getD i default) (row.getD i default))) k 0
 | 0=>rfl
 | k+1=>by
  rw [z1F,List.all_append,z3s l row p k,zTm,Nat.zero_add];simp
theorem zZZ (l:yH) (row:yG) (hl:l.length<=1000000):zr4 l row=(true,zsy l row):=by
 unfold zr4 zLI zsy;rw [Wy.fin_i,zf8,zQd];by_cases he:l.length=row.length
 ·have hz:zx1 l row=(true,zz1 l row row.length):=by
   unfold zx1 zNn;have key:∀ n,row.length<n->zBs n l row (Int.ofNat row.length) 0 []=(true,zz1 l row row.length):=λn hn=>z33 l row he hl n 0 (by omega) (by omega)
   rw [Wy.fin_bn,key _ (by omega)]; rfl
  have hc:zb1 (zz1 l row row.length)=(true, !(zz1 l row row.length).all λp=>zVf p.c.Type_ p.v):=by
   generalize hq:zz1 l row row.length=q;have hql:q.length<=1000000:=by rw [<- hq,zWx]; omega
   unfold zb1 zgk;have:zc2 q=IG (λ(_:Unit) x=>zlT x) (q.length+(Int.ofNat q.length).toNat +Int.toNat (0:Int)+(1000:Nat)) () q:=rfl
   have e:(!q.all λp=>zVf p.c.Type_ p.v)=q.any λp=> !zVf p.c.Type_ p.v:=by simp [List.all_eq_not_any_not]
   rw [e]
   exact zkj (this.trans (zHb _ _ _ _ _ (by omega) (λx _=>by
    show zlT x=_;unfold zlT zFq zVf;simp only [Wy.fin_i,Wy.fin_k,Wy.fin_bn,zyx,cond_true,zry];cases zrx x.v <;>cases decide (x.v.Kind=x.c.Type_) <;>rfl) (by omega)))
  rw [decide_eq_true he,cond_true,Wy.fin_bn,hz,cond_true,Wy.fin_bn,hc,z3s,he];cases zer (λi=>zVf (l.getD i default).Type_ (row.getD i default)) row.length 0 <;>rfl
 ·rw [decide_eq_false he]; rfl
def zuj (l:yG):List TT:=l.map trV
theorem z4R:∀ {a b:yG},zuj a=zuj b->a=b
 | [],[],_=>rfl
 | [],_::_,h=>by cases h
 | _::_,[],h=>by cases h
 | x::a,y::b,h=>by
  have h':trV x::zuj a=trV y::zuj b:=h;injection h' with h1 h2
  rw [zZH h1,z4R h2]
def ztA (a b:yG):Int:=z8 (.l (zuj a)) (.l (zuj b))
theorem z3S (a b:yG):ztA a b=zbn (zuj a) (zuj b):=by unfold ztA; rw [z8]
theorem zoF (a b:yG):ztA b a= - ztA a b:=zfV _ _
theorem zBK (a b:yG):ztA a b=0↔a=b:=⟨λh=>z4R (TT.l.inj (zr1 _ _ h)),λh=>by subst h; exact zAu _⟩
theorem zLZ {x y z:yG} (h1:ztA x y<=0) (h2:ztA y z<=0):ztA x z<=0:=zsp _ _ _ h1 h2
theorem zBt (a b:yG) (ha:a.length<=1000000):zk1 a b=(true,ztA a b):=by
 unfold zk1 zCO;have e:zb5=CF zjw:=rfl;rw [e,Wy.fin_bn,zOw trV zjw a b ha (λx _ y _=>zAg x y),z3S]; rfl
theorem zev (x y:Row) (hx:x.Values.length<=1000000):zcq x y=(true,ztA x.Values y.Values):=by
 unfold zcq zER;rw [Wy.fin_bn,zBt _ _ hx]; rfl
theorem z32 (a b:yG) (ha:a.length<=1000000):∀ (n i:Nat),a.length<i+n->i<=a.length->i<=b.length->
  ∃ r,zuY n a b i=(true,r)/\((r=.inr (a,b)/\zbn (zuj (a.drop i)) (zuj (b.drop i))=if a.length=b.length then 0 else if a.length<b.length then -1 else 1)\/r=.inl (zbn (zuj (a.drop i)) (zuj (b.drop i))))
 | 0,i,h,h2,h3=>by omega
 | n+1,i,h,h2,h3=>by
  show ∃ r,(zvv a b i).ev (λx y=>zuY n x.1 x.2.1 x.2.2.1) (λr=>(true,r)) (false,.inl default)=(true,r)/\_
  unfold zvv;by_cases hi:i<a.length
  ·by_cases hj:i<b.length
   ·simp only [Wy.ev_i,Wy.ev_k,Wy.ev_h,Wy.ev_bn,Wy.ev_d,tT,hi,hj,ref01_Compare_eq'];rw [zbh hi,zbh hj]
    have ec:zbn (zuj (a.getD i default::a.drop (i+1))) (zuj (b.getD i default::b.drop (i+1)))=if z49 (a.getD i default) (b.getD i default)=0 then zbn (zuj (a.drop (i+1))) (zuj (b.drop (i+1))) else z49 (a.getD i default) (b.getD i default):=by
     unfold zuj z49; rw [List.map_cons,List.map_cons,zbn]
    rw [ec,zry,zy (by omega)]
    by_cases e:z49 (a.getD i default) (b.getD i default)=0
    ·rw [if_pos e,decide_eq_true e,Bool.not_true,cond_false];exact z32 a b ha n (i+1) (by omega) (by omega) (by omega)
    ·rw [if_neg e,decide_eq_false e,Bool.not_false,cond_true];exact ⟨_,rfl,.inr rfl⟩
   ·simp only [Wy.ev_i,Wy.ev_k,Wy.ev_h,Wy.ev_bn,Wy.ev_d,tT,hi,hj];refine ⟨_,rfl,.inl ⟨rfl, ?_⟩⟩;rw [zbh hi,zcu hj,if_neg (by omega),if_neg (by omega)]
    unfold zuj; rw [List.map_cons,List.map_nil,zbn]
  ·simp only [Wy.ev_i,Wy.ev_k,Wy.ev_h,Wy.ev_bn,Wy.ev_d,tT,hi];refine ⟨_,rfl,.inl ⟨rfl, ?_⟩⟩;rw [zcu hi];by_cases hj:i<b.length
   ·rw [zbh hj,if_neg (by omega),if_pos (by omega)]
    unfold zuj; rw [List.map_cons,List.map_nil,zbn]
   ·rw [zcu hj,if_pos (by omega)]
    unfold zuj; rw [List.map_nil,zbn]
theorem zQa (a b:yG) (ha:a.length<=1000000):zow a b=(true,ztA a b):=by
 obtain ⟨r,h1,h2⟩:=z32 a b ha (a.length+b.length+Int.toNat (0:Int)+(1:Nat)) 0 (by omega) (by omega) (by omega)
 rw [show ((0:Nat):Int)=(0:Int) from rfl] at h1
 rw [List.drop_zero,List.drop_zero, <- z3S] at h2;unfold zow zC6;rw [Wy.fin_bn,h1,cond_true];have hs:∀ b:Bool,zr7 b=(true,bif b then -1 else 1):=λb=>by cases b <;>rfl
 rcases h2 with ⟨rfl,h2⟩ | rfl
 ·have hb:(Int.ofNat a.length==Int.ofNat b.length)=decide (a.length=b.length):=by rw [zf8,zQd]
  have hl':decide (Int.ofNat a.length<Int.ofNat b.length)=decide (a.length<b.length):=by simp
  simp only [Wy.fin_i,Wy.fin_k,Wy.fin_bn,isL,getR,cond_false,hb,hs,cond_true];rw [h2];by_cases e:a.length=b.length
  ·rw [decide_eq_true e,if_pos e]; rfl
  ·rw [decide_eq_false e,if_neg e,cond_false];by_cases e2:a.length<b.length
   ·rw [if_pos e2];show (true,bif decide (Int.ofNat a.length<Int.ofNat b.length) then (-1:Int) else 1)=_
    rw [hl',decide_eq_true e2]; rfl
   ·rw [if_neg e2];show (true,bif decide (Int.ofNat a.length<Int.ofNat b.length) then (-1:Int) else 1)=_
    rw [hl',decide_eq_false e2]; rfl
 ·rfl
theorem zQ6 (a b:yG) (ha:a.length<=1000000):zyB a b=(true,decide (a=b)):=by
 unfold zyB zSE;rw [Wy.fin_bn,zQa a b ha,cond_true,Wy.fin_k,zf8];congr 1;rw [decide_eq_decide]; exact zBK a b
end Go.Proofs.YtoknknbmfmddbaaGreatDoor
namespace Go.Proofs.YtoknknbmfmddbaaGreatDoor
open Go Go.Ab
abbrev zOu:=yB×Int×Unit×Int×Unit
abbrev z0z:=Bool⊕(yB×Int)
abbrev zN6:=yB×Int×Unit
def zoC (zb2:At->Bool×Bool) (a:yB) (i:Int) (k:Int) (t:Term):Wy zOu (Term×Unit) z0z:=.i (decide (k<Int.ofNat t.Fs.length)) (.i (decide (0<=k)&&decide (k<Int.ofNat t.Fs.length)) (.i (decide ((t.Fs.getD k.toNat default).Exp<1)) (.k (.inl false)) (.i (decide ((t.Fs.getD k.toNat default).Exp>1)) (.i (decide ((t.Fs.getD k.toNat default).At.Kind≥3)) (.k (.inl false)) (.bn (zb2 (At.mk (t.Fs.getD k.toNat default).At.Kind (t.Fs.getD k.toNat default).At.Row (t.Fs.getD k.toNat default).At.Ag (t.Fs.getD k.toNat default).At.Func (t.Fs.getD k.toNat default).At.Items (t.Fs.getD k.toNat default).At.Op (t.Fs.getD k.toNat default).At.Bd)) λr1=>.i (!r1) (.k (.inl false)) (.i (decide (k>0)) (.i (decide (0<=IntKind.i64.wrap (k - 1))&&decide (IntKind.i64.wrap (k - 1)<Int.ofNat t.Fs.length)) (.bn (zop (At.mk (t.Fs.getD (IntKind.i64.wrap (k - 1)).toNat default).At.Kind (t.Fs.getD (IntKind.i64.wrap (k - 1)).toNat default).At.Row (t.Fs.getD (IntKind.i64.wrap (k - 1)).toNat default).At.Ag (t.Fs.getD (IntKind.i64.wrap (k - 1)).toNat default).At.Func (t.Fs.getD (IntKind.i64.wrap (k - 1)).toNat default).At.Items (t.Fs.getD (IntKind.i64.wrap (k - 1)).toNat default).At.Op (t.Fs.getD (IntKind.i64.wrap (k - 1)).toNat default).At.Bd) (At.mk (t.Fs.getD k.toNat default).At.Kind (t.Fs.getD k.toNat default).At.Row (t.Fs.getD k.toNat default).At.Ag (t.Fs.getD k.toNat default).At.Func (t.Fs.getD k.toNat default).At.Items (t.Fs.getD k.toNat default).At.Op (t.Fs.getD k.toNat default).At.Bd)) λr0=>.i (decide (r0≥0)) (.k (.inl false)) (.h (a,i,(),(IntKind.i64.wrap (k+1)),()) (t,()))) .d) (.h (a,i,(),(IntKind.i64.wrap (k+1)),()) (t,()))))) (.bn (zb2 (At.mk (t.Fs.getD k.toNat default).At.Kind (t.Fs.getD k.toNat default).At.Row (t.Fs.getD k.toNat default).At.Ag (t.Fs.getD k.toNat default).At.Func (t.Fs.getD k.toNat default).At.Items (t.Fs.getD k.toNat default).At.Op (t.Fs.getD k.toNat default).At.Bd)) λr3=>.i (!r3) (.k (.inl false)) (.i (decide (k>0)) (.i (decide (0<=IntKind.i64.wrap (k - 1))&&decide (IntKind.i64.wrap (k - 1)<Int.ofNat t.Fs.length)) (.bn (zop (At.mk (t.Fs.getD (IntKind.i64.wrap (k - 1)).toNat default).At.Kind (t.Fs.getD (IntKind.i64.wrap (k - 1)).toNat default).At.Row (t.Fs.getD (IntKind.i64.wrap (k - 1)).toNat default).At.Ag (t.Fs.getD (IntKind.i64.wrap (k - 1)).toNat default).At.Func (t.Fs.getD (IntKind.i64.wrap (k - 1)).toNat default).At.Items (t.Fs.getD (IntKind.i64.wrap (k - 1)).toNat default).At.Op (t.Fs.getD (IntKind.i64.wrap (k - 1)).toNat default).At.Bd) (At.mk (t.Fs.getD k.toNat default).At.Kind (t.Fs.getD k.toNat default).At.Row (t.Fs.getD k.toNat default).At.Ag (t.Fs.getD k.toNat default).At.Func (t.Fs.getD k.toNat default).At.Items (t.Fs.getD k.toNat default).At.Op (t.Fs.getD k.toNat default).At.Bd)) λr2=>.i (decide (r2≥0)) (.k (.inl false)) (.h (a,i,(),(IntKind.i64.wrap (k+1)),()) (t,()))) .d) (.h (a,i,(),(IntKind.i64.wrap (k+1)),()) (t,())))))) .d) (.k (.inr (a,i)))
def zGR (zb2:At->Bool×Bool) (x:zOu) (y:Term×Unit):=zoC zb2 x.1 x.2.1 x.2.2.2.1 y.1
def zy8 (zb2:At->Bool×Bool) (n:Nat) (a:yB) (i:Int) (k:Int) (t:Term):=zx (zGR zb2) (.inl default) n (a,i,(),k,()) (t,())
def zqE (zb2:At->Bool×Bool) (a:yB) (i:Int):Wy zN6 Unit (Bool⊕Unit):=.i (decide (i<Int.ofNat a.length)) (.i (decide (0<=i)&&decide (i<Int.ofNat a.length)) (.i (decide ((a.getD i.toNat default).Cf<1)) (.k (.inl false)) (.i (decide ((a.getD i.toNat default).Cf>1152921504606846976)) (.k (.inl false)) (.i (decide (i>0)) (.i (decide (0<=IntKind.i64.wrap (i - 1))&&decide (IntKind.i64.wrap (i - 1)<Int.ofNat a.length)) (.bn (zkS (a.getD (IntKind.i64.wrap (i - 1)).toNat default).Fs (a.getD i.toNat default).Fs) λr9=>.i (decide (r9≥0)) (.k (.inl false)) (.bn (zy8 zb2 ((a.length+i.toNat +Int.toNat 0+(a.getD i.toNat default).Fs.length+1)+zgt a) a i 0 (a.getD i.toNat default)) λr8=>.i (isL r8) (.k (.inl (getL r8))) (.h ((getR r8).1,(IntKind.i64.wrap ((getR r8).2+1)),()) ()))) .d) (.bn (zy8 zb2 ((a.length+i.toNat +Int.toNat 0+(a.getD i.toNat default).Fs.length+1)+zgt a) a i 0 (a.getD i.toNat default)) λr10=>.i (isL r10) (.k (.inl (getL r10))) (.h ((getR r10).1,(IntKind.i64.wrap ((getR r10).2+1)),()) ()))))) .d) (.k (.inr ()))
def zJT (zb2:At->Bool×Bool) (x:zN6) (y:Unit):=zqE zb2 x.1 x.2.1
def zJ9 (zb2:At->Bool×Bool) (n:Nat) (a:yB) (i:Int):=zx (zJT zb2) (.inl default) n (a,i,()) ()
def zLA (zb2:At->Bool×Bool) (a:yB):Wy0 (Bool):=.bn (zHC a) λr15=>.i (!r15) (.k false) (.bn (zJ9 zb2 ((a.length+Int.toNat 0+1)+zgt a) a 0) λr14=>.i (isL r14) (.k (getL r14)) (.k true))
def zzR (zb2:At->Bool×Bool) (a:yB):=(zLA zb2 a).fin default
abbrev zsP:=Unit×Int×Unit
def zkI (zdB:yB->Bool×Bool) (i:Int) (x_:At):Wy zsP (At×Unit) (Bool⊕At):=.i (decide (i<Int.ofNat x_.Ag.length)) (.i (decide (0<=i)&&decide (i<Int.ofNat x_.Ag.length)) (.i (Int.ofNat (List.length (x_.Ag.getD i.toNat default))==0) (.k (.inl false)) (.i (decide (0<=i)&&decide (i<Int.ofNat x_.Ag.length)) (.bn (zdB (x_.Ag.getD i.toNat default)) λr0=>.i (!r0) (.k (.inl false)) (.h ((),(IntKind.i64.wrap (i+1)),()) (x_,()))) .d)) .d) (.k (.inr x_))
def zBF (zdB:yB->Bool×Bool) (x:zsP) (y:At×Unit):=zkI zdB x.2.1 y.1
def zvp (zdB:yB->Bool×Bool) (n:Nat) (i:Int) (x_:At):=zx (zBF zdB) (.inl default) n ((),i,()) (x_,())
def zjI (zdB:yB->Bool×Bool) (i:Int) (x_:At):Wy zsP (At×Unit) (Bool⊕Unit):=.i (decide (i<Int.ofNat x_.Items.length)) (.i (decide (0<=i)&&decide (i<Int.ofNat x_.Items.length)) (.i (Int.ofNat (x_.Items.getD i.toNat default).Ann.length==0) (.k (.inl false)) (.i (decide (0<=i)&&decide (i<Int.ofNat x_.Items.length)) (.bn (zdB (x_.Items.getD i.toNat default).Ann) λr3=>.i (!r3) (.k (.inl false)) (.i (decide (i>0)) (.i (decide (0<=IntKind.i64.wrap (i - 1))&&decide (IntKind.i64.wrap (i - 1)<=i)&&decide (i<=Int.ofNat x_.Items.length)) (.i (decide (0<=i)&&decide (i<=IntKind.i64.wrap (i+1))&&decide (IntKind.i64.wrap (i+1)<=Int.ofNat x_.Items.length)) (.bn (zxO (List.take (i.toNat - (IntKind.i64.wrap (i - 1)).toNat) (List.drop (IntKind.i64.wrap (i - 1)).toNat x_.Items)) (List.take ((IntKind.i64.wrap (i+1)).toNat - i.toNat) (List.drop i.toNat x_.Items))) λr2=>.i (decide (r2>0)) (.k (.inl false)) (.h ((),(IntKind.i64.wrap (i+1)),()) (x_,()))) .d) .d) (.h ((),(IntKind.i64.wrap (i+1)),()) (x_,())))) .d)) .d) (.k (.inr ()))
def zAO (zdB:yB->Bool×Bool) (x:zsP) (y:At×Unit):=zjI zdB x.2.1 y.1
def zAR (zdB:yB->Bool×Bool) (n:Nat) (i:Int) (x_:At):=zx (zAO zdB) (.inl default) n ((),i,()) (x_,())
def zCR (zdB:yB->Bool×Bool) (x_:At):Wy0 (Bool):=.i (x_.Kind==0) (.i (decide (x_.Row.Table≥1)) (.i (decide (x_.Row.Seq≥1)) (.i (Int.ofNat x_.Ag.length==0) (.bn (zwx (At.mk x_.Kind x_.Row x_.Ag x_.Func x_.Items x_.Op x_.Bd)) λr6=>.k r6) (.k false)) (.k false)) (.k false)) (.i (!(x_.Row.Table==0&&(x_.Row.Seq==0&&true))) (.k false) (.bn (zvp zdB (Int.toNat 0+x_.Ag.length+x_.Items.length+1) 0 (At.mk x_.Kind x_.Row x_.Ag x_.Func x_.Items x_.Op x_.Bd)) λr17=>.i (isL r17) (.k (getL r17)) (.i ((getR r17).Kind==1) (.i (Int.ofNat (getR r17).Ag.length==2) (.bn (zwx (At.mk (getR r17).Kind (getR r17).Row (getR r17).Ag (getR r17).Func (getR r17).Items (getR r17).Op (getR r17).Bd)) λr8=>.i (r8) (.i (decide ((0:Int)<=(0:Int))&&decide (0<Int.ofNat (getR r17).Ag.length)) (.i (decide ((0:Int)<=(1:Int))&&decide (1<Int.ofNat (getR r17).Ag.length)) (.bn (zoQ ((getR r17).Ag.getD (Int.toNat 0) default) ((getR r17).Ag.getD (Int.toNat 1) default)) λr7=>.k (!r7)) .d) .d) (.k false)) (.k false)) (.i ((getR r17).Kind==2) (.i (Int.ofNat (getR r17).Ag.length==1) (.bn (zwx (At.mk (getR r17).Kind (getR r17).Row (getR r17).Ag (getR r17).Func (getR r17).Items (getR r17).Op (getR r17).Bd)) λr12=>.i (r12) (.i (decide ((0:Int)<=(0:Int))&&decide (0<Int.ofNat (getR r17).Ag.length)) (.i (Int.ofNat (List.length ((getR r17).Ag.getD (Int.toNat 0) default))==1) (.i (decide ((0:Int)<=(0:Int))&&decide (0<Int.ofNat (getR r17).Ag.length)) (.bn (zl5 ((getR r17).Ag.getD (Int.toNat 0) default)) λr10=>.i (!r10) (.i (decide ((0:Int)<=(0:Int))&&decide (0<Int.ofNat (getR r17).Ag.length)) (.bn (zye ((getR r17).Ag.getD (Int.toNat 0) default)) λr9=>.k (!r9)) .d) (.k false)) .d) (.i (decide ((0:Int)<=(0:Int))&&decide (0<Int.ofNat (getR r17).Ag.length)) (.bn (zye ((getR r17).Ag.getD (Int.toNat 0) default)) λr11=>.k (!r11)) .d)) .d) (.k false)) (.k false)) (.i ((getR r17).Kind==3) (.i (Int.ofNat (getR r17).Ag.length==1) (.bn (zwx (At.mk (getR r17).Kind (getR r17).Row (getR r17).Ag (getR r17).Func (getR r17).Items (getR r17).Op (getR r17).Bd)) λr14=>.i (r14) (.i (decide ((0:Int)<=(0:Int))&&decide (0<Int.ofNat (getR r17).Ag.length)) (.bn (zl5 ((getR r17).Ag.getD (Int.toNat 0) default)) λr13=>.k (!r13)) .d) (.k false)) (.k false)) (.i ((getR r17).Kind==4) (.i (Int.ofNat (getR r17).Ag.length != 0) (.k false) (.i (Int.ofNat (getR r17).Items.length==0) (.k false) (.i (decide (Int.ofNat (getR r17).Items.length>1024)) (.k false) (.bn (zD6 (getR r17).Func (getR r17).Items (getR r17).Op (getR r17).Bd) λr16=>.i (!r16) (.k false) (.bn (zAR zdB (Int.toNat 0+(getR r17).Ag.length+(getR r17).Items.length+1) 0 (At.mk (getR r17).Kind (getR r17).Row (getR r17).Ag (getR r17).Func (getR r17).Items (getR r17).Op (getR r17).Bd)) λr15=>.i (isL r15) (.k (getL r15)) (.k true)))))) (.k false)))))))
def ztD (zdB:yB->Bool×Bool) (x_:At):=(zCR zdB x_).fin default
def zHV:Nat->(yB->Bool×Bool)×(At->Bool×Bool)
 | 0=>(λ_=>(false,default),λ_=>(false,default))
 | n+1=>(zzR ((zHV n).2),ztD ((zHV n).1))
def zzM (n:Nat):yB->Bool×Bool:=(zHV n).1
def zzh (n:Nat):At->Bool×Bool:=(zHV n).2
theorem zXI (n:Nat):zzM (n+1)=zzR (zzh n):=rfl
theorem zP8 (n:Nat):zzh (n+1)=ztD (zzM n):=rfl
def zjp:yB->Bool×Bool:=zzM 1000
end Go.Proofs.YtoknknbmfmddbaaGreatDoor
end
