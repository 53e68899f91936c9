/- Texts of this claim, joined (the program, its functions in plain words, and what they compute). -/
import Derived.Test.YtnolcogncjijpaaGreatDoorGC6
import Derived.Test.YtnolcogncjijpaaGreatDoorGC2
import Derived.Test.YtnolcogncjijpaaGreatDoorGC5
import Derived.Test.YtnolcogncjijpaaGreatDoorGC3
import Derived.Test.YtnolcogncjijpaaGreatDoorGC4
import Derived.Test.YtnolcogncjijpaaGreatDoorGB1
set_option autoImplicit false
set_option linter.unusedVariables false
set_option linter.unusedSectionVars false
set_option linter.unusedSimpArgs false
set_option maxRecDepth 1000000
set_option maxHeartbeats 0
/- Small tests of annotations: searches, limits, kinds. -/
noncomputable section
namespace Go.Proofs.YtnolcogncjijpaaGreatDoor
open Go Go.Ab
def allN (c:Nat→Bool):Nat→Nat→Bool
 | 0,_=>true
 | n+1,i=>c i&&allN c n (i+1)
theorem zea {c:Nat→Bool}:∀ {n i},allN c n i=true↔∀ k,i≤k→k<i+n→c k=true
 | 0,i=>⟨fun _ k h1 h2=>by omega,fun _=>rfl⟩
 | n+1,i=>by
  simp only [allN,Bool.and_eq_true,zea (n:=n)]
  constructor
  ·rintro ⟨h1,h2⟩ k h3 h4
   by_cases e:k=i
   ·rw [e]; exact h1
   ·exact h2 k (by omega) (by omega)
  ·intro h
   exact ⟨h i (by omega) (by omega),fun k h1 h2=>h k (by omega) (by omega)⟩
theorem zSp (c c':Nat→Bool):∀ n i,allN (fun k=>c k&&c' k) n i=(allN c n i&&allN c' n i)
 | 0,_=>rfl
 | n+1,i=>by
  simp only [allN,zSp c c' n (i+1)]
  cases c i <;>cases c' i <;>simp
theorem zSt {τ:Type} [Inhabited τ] (p:τ→Bool) (l:List τ):∀ n i,i+n=l.length→allN (fun k=>p (l.getD k default)) n i=(l.drop i).all p
 | 0,i,h=>by rw [zcE (by omega)]; rfl
 | n+1,i,h=>by
  rw [zbu (by omega),List.all_cons]
  simp only [allN,zSt p l n (i+1) (by omega)]
theorem zsi {τ:Type} [Inhabited τ] (p:τ→Bool) (l:List τ):allN (fun k=>p (l.getD k default)) l.length 0=l.all p:=by
 rw [zSt p l _ _ (by omega),List.drop_zero]
section
variable {α β ρ:Type}
theorem zTD {W:α→β→Wy α β ρ} {z:ρ} (N:Nat) (ex:Nat→α) (ey:Nat→β) (c:Nat→Bool) (no yes:ρ)
  (h:∀ i,i<N→∀ (H:α→β→Bool×ρ) K D,(W (ex i) (ey i)).ev H K D=bif c i then H (ex (i+1)) (ey (i+1)) else K no)
  (he:∀ (H:α→β→Bool×ρ) K D,(W (ex N) (ey N)).ev H K D=K yes):
  ∀ n i,N<i+n→i≤N→zX W z n (ex i) (ey i)=(true,bif allN c (N - i) i then yes else no)
 | 0,i,h1,h2=>by omega
 | n+1,i,h1,h2=>by
  show (W (ex i) (ey i)).ev (zX W z n) (fun r=>(true,r)) (false,z)=_
  by_cases hi:i<N
  ·rw [h i hi,show N - i=(N - (i+1))+1 by omega]
   simp only [allN]
   cases c i with
   | false=>rfl
   | true=>rw [cond_true,zTD N ex ey c no yes h he n (i+1) (by omega) (by omega)]; rfl
  ·have:i=N:=by omega
   subst this
   rw [he,Nat.sub_self]; rfl
theorem zdt {W:α→β→Wy α β ρ} {z:ρ} (N:Nat) (ex:Nat→α) (ey:Nat→β) (c:Nat→Bool) (no yes:ρ)
  (h:∀ i,i<N→∀ (H:α→β→Bool×ρ) K D,(W (ex i) (ey i)).ev H K D=bif c i then H (ex (i+1)) (ey (i+1)) else K no)
  (he:∀ (H:α→β→Bool×ρ) K D,(W (ex N) (ey N)).ev H K D=K yes) (n:Nat) (hn:N<n):zX W z n (ex 0) (ey 0)=(true,bif allN c N 0 then yes else no):=by
 have:=zTD (z:=z) N ex ey c no yes h he n 0 (by omega) (by omega)
 simpa using this
end
def ixf {α:Type} (p:α→Bool):List α→Nat→Int
 | [],_=> -1
 | x::r,i=>bif p x then (i:Int) else ixf p r (i+1)
theorem zUr {α:Type} (p:α→Bool):∀ (l:List α) (i:Nat),decide (ixf p l i≥(0:Int))=l.any p
 | [],i=>by simp [ixf]
 | x::r,i=>by
  rw [List.any_cons]
  cases h:p x with
  | true=>simp [ixf,h]
  | false=>simpa [ixf,h] using zUr p r (i+1)
section
variable {α γ:Type} [Inhabited α]
def zRZ (p:γ→α→Bool×Bool) (s:List α) (g:γ) (t7:Int) (t8:Int):Wy (List α×γ×Int×Int×Unit) (Unit) (Int⊕Unit):=.i (decide (t8<t7)) (.i (decide ((0:Int)≤t8)&&decide (t8<Int.ofNat s.length)) (.bn (p g (s.getD t8.toNat default)) fun r0=>.i (r0) (.k (.inl t8)) (.h (s,g,t7,(IntKind.i64.wrap (t8+(1:Int))),()) ())) .d) (.k (.inr ()))
def zVv (p:γ→α→Bool×Bool) (x:List α×γ×Int×Int×Unit) (y:Unit):Wy (List α×γ×Int×Int×Unit) (Unit) (Int⊕Unit):=zRZ p x.1 x.2.1 x.2.2.1 x.2.2.2.1
def zU6 (p:γ→α→Bool×Bool) (n:Nat) (s:List α) (g:γ) (t7:Int) (t8:Int):Bool×(Int⊕Unit):=zX (zVv p) (.inl default) n (s,g,t7,t8,()) ()
def IG (p:γ→α→Bool×Bool) (n:Nat) (g:γ) (s:List α):Bool×Int:=(.bn (zU6 p n s g (Int.ofNat s.length) (0:Int)) fun r2=>.i (isL r2) (.k (getL r2)) (.k (-1:Int)):Wy0 Int).fin default
def zVk (p:γ→α→Bool×Bool) (s:List α) (g:γ) (t7:Int) (t8:Int):Wy (List α×γ×Int×Int×Unit) (Unit) (Int⊕Unit):=.i (decide (t8<t7)) (.i (decide ((0:Int)≤t8)&&decide (t8<Int.ofNat s.length)) (.i ((p g (s.getD t8.toNat default)).snd) (.k (.inl t8)) (.h (s,g,t7,(IntKind.i64.wrap (t8+(1:Int))),()) ())) .d) (.k (.inr ()))
def zZE (p:γ→α→Bool×Bool) (x:List α×γ×Int×Int×Unit) (y:Unit):Wy (List α×γ×Int×Int×Unit) (Unit) (Int⊕Unit):=zVk p x.1 x.2.1 x.2.2.1 x.2.2.2.1
def zVd (p:γ→α→Bool×Bool) (n:Nat) (s:List α) (g:γ) (t7:Int) (t8:Int):Bool×(Int⊕Unit):=zX (zZE p) (.inl default) n (s,g,t7,t8,()) ()
def IH (p:γ→α→Bool×Bool) (n:Nat) (g:γ) (s:List α):Bool×Int:=(.bn (zVd p n s g (Int.ofNat s.length) (0:Int)) fun r2=>.i (isL r2) (.k (getL r2)) (.k (-1:Int)):Wy0 Int).fin default
theorem zUa (p:γ→α→Bool×Bool) (P:α→Bool) (g:γ) (s:List α) (hs:s.length≤1000000000) (hp:∀ x∈s,p g x=(true,P x)):∀ (n i:Nat),s.length<i+n→i≤s.length→
  ∃ r,zU6 p n s g s.length i=(true,r)∧((r=.inl (ixf P (s.drop i) i))∨(r=.inr ()∧ixf P (s.drop i) i= -1))
 | 0,i,h,h2=>by omega
 | n+1,i,h,h2=>by
  show ∃ r,(zRZ p s g s.length i).ev (fun x y=>zU6 p n x.1 x.2.1 x.2.2.1 x.2.2.2.1) (fun r=>(true,r)) (false,.inl default)=(true,r)∧_
  unfold zRZ
  by_cases hi:i<s.length
  ·simp only [Wy.ev_i,Wy.ev_k,Wy.ev_h,Wy.ev_bn,Wy.ev_d,tT,hi,hp _ (zx hi)]
   rw [zbu hi,zT (by omega)]
   simp only [ixf]
   cases P (s.getD i default) with
   | true=>exact ⟨_,rfl,.inl rfl⟩
   | false=>exact zUa p P g s hs hp n (i+1) (by omega) (by omega)
  ·simp only [Wy.ev_i,Wy.ev_k,Wy.ev_h,Wy.ev_bn,Wy.ev_d,tT,hi,zcE hi]
   exact ⟨_,rfl,.inr ⟨rfl,rfl⟩⟩
theorem zJw (p:γ→α→Bool×Bool) (P:α→Bool) (n:Nat) (g:γ) (s:List α) (hs:s.length≤1000000000) (hp:∀ x∈s,p g x=(true,P x)) (hn:s.length<n):IG p n g s=(true,ixf P s 0):=by
 unfold IG
 obtain ⟨r,h1,h2⟩:=zUa p P g s hs hp n 0 (by omega) (by omega)
 rw [show ((0:Nat):Int)=(0:Int) from rfl] at h1
 rw [Wy.fin_bn,show Int.ofNat s.length=(s.length:Int) from rfl,h1]
 rw [List.drop_zero] at h2
 rcases h2 with rfl | ⟨rfl,h2⟩
 ·rfl
 ·rw [h2]; rfl
theorem zUo (p:γ→α→Bool×Bool) (P:α→Bool) (g:γ) (s:List α) (hs:s.length≤1000000000) (hp:∀ x∈s,p g x=(true,P x)):∀ (n i:Nat),s.length<i+n→i≤s.length→
  ∃ r,zVd p n s g s.length i=(true,r)∧((r=.inl (ixf P (s.drop i) i))∨(r=.inr ()∧ixf P (s.drop i) i= -1))
 | 0,i,h,h2=>by omega
 | n+1,i,h,h2=>by
  show ∃ r,(zVk p s g s.length i).ev (fun x y=>zVd p n x.1 x.2.1 x.2.2.1 x.2.2.2.1) (fun r=>(true,r)) (false,.inl default)=(true,r)∧_
  unfold zVk
  by_cases hi:i<s.length
  ·simp only [Wy.ev_i,Wy.ev_k,Wy.ev_h,Wy.ev_bn,Wy.ev_d,tT,hi,hp _ (zx hi)]
   rw [zbu hi,zT (by omega)]
   simp only [ixf]
   cases P (s.getD i default) with
   | true=>exact ⟨_,rfl,.inl rfl⟩
   | false=>exact zUo p P g s hs hp n (i+1) (by omega) (by omega)
  ·simp only [Wy.ev_i,Wy.ev_k,Wy.ev_h,Wy.ev_bn,Wy.ev_d,tT,hi,zcE hi]
   exact ⟨_,rfl,.inr ⟨rfl,rfl⟩⟩
theorem zXM (p:γ→α→Bool×Bool) (P:α→Bool) (n:Nat) (g:γ) (s:List α) (hs:s.length≤1000000000) (hp:∀ x∈s,p g x=(true,P x)) (hn:s.length<n):IH p n g s=(true,ixf P s 0):=by
 unfold IH
 obtain ⟨r,h1,h2⟩:=zUo p P g s hs hp n 0 (by omega) (by omega)
 rw [show ((0:Nat):Int)=(0:Int) from rfl] at h1
 rw [Wy.fin_bn,show Int.ofNat s.length=(s.length:Int) from rfl,h1]
 rw [List.drop_zero] at h2
 rcases h2 with rfl | ⟨rfl,h2⟩
 ·rfl
 ·rw [h2]; rfl
theorem zmB {α:Type} {s:List α} {P:α→Bool} {q:Bool×Int} (h:q=(true,ixf P s 0)):((.bn q fun r0=>.k (decide (r0≥(0:Int))):Wy0 Bool).fin default)=(true,s.any P):=by
 rw [h,Wy.fin_bn,cond_true,Wy.fin_k,zUr]
end
theorem beqd (a b:Int):(a==b)=decide (a=b):=by by_cases h:a=b <;>simp [h]
theorem beqn (a b:Nat):(a==b)=decide (a=b):=by by_cases h:a=b <;>simp [h]
theorem i0 (l:Nat):((l:Int)==0)=(l==0):=by
 rw [beqd,beqn]; congr 1; simp
def hasC (a:List Term):Bool:=a.any fun t=>t.Factors.length==0
theorem zIz (a:List Term) (h:a.length≤1000000000):zej a=(true,hasC a):=by
 unfold zej zm4 zcN zdY
 have:zda a=IH (fun (_:Unit) x=>zfP x) (a.length+(Int.ofNat a.length).toNat +Int.toNat (0:Int)+(1:Nat)) () a:=rfl
 rw [zmB (P:=fun t:Term=>t.Factors.length==0) (this.trans (zXM _ _ _ _ _ h (fun x _=>by
  unfold zfP zlb
  rw [Wy.fin_k]
  congr 1
  exact i0 x.Factors.length) (by omega)))]
 rfl
theorem zuC (a:List Term) (h:a.length≤1000000000):zht a=(true,hasC a):=by
 unfold zht zvK zCM
 have:=zdt (W:=zoX) (z:=.inl default) a.length (fun i=>(a,(i:Int),())) (fun _=>()) (fun i=> !((a.getD i default).Factors.length==0)) (.inl true) (.inr ())
  (fun i hi H K D=>by
   show (zl3 a i).ev H K D=_
   unfold zl3
   simp only [Wy.ev_i,Wy.ev_k,Wy.ev_h,Wy.ev_bn,Wy.ev_d,tT,hi,i0]
   rw [zT (by omega)]
   cases (a.getD i default).Factors.length==0 <;>rfl)
  (fun H K D=>by
   show (zl3 a a.length).ev H K D=_
   unfold zl3
   simp only [Wy.ev_i,Wy.ev_k,tT,Nat.lt_irrefl]) (a.length+Int.toNat (0:Int)+(1:Nat)) (by omega)
 rw [show ((0:Nat):Int)=(0:Int) from rfl] at this
 rw [Wy.fin_bn,this,zsi (fun t:Term=> !(t.Factors.length==0)) a]
 have e:(a.all fun t:Term=> !(t.Factors.length==0))= !hasC a:=by simp [hasC,List.all_eq_not_any_not]
 rw [e]
 cases hasC a <;>rfl
def isC:List Term→Bool
 | [t]=>t.Factors.length==0
 | _=>false
theorem zKj (a:List Term):zgt a=(true,isC a):=by
 unfold zgt znO
 match a with
 | []=>rfl
 | [t]=>exact congrArg (Prod.mk true) (i0 t.Factors.length)
 | t::u::r=>
  have:((Int.ofNat (t::u::r).length)==(1:Int))=false:=by simp; omega
  rw [Wy.fin_i,this]; rfl
def oneF (p:Factor→Bool):List Factor→Bool
 | [f]=>p f
 | _=>false
def isU:List Term→Bool
 | [t]=>t.Coeff==1&&oneF (fun f=>f.Exp==1&&(f.Atom.Kind==2||f.Atom.Kind==3||f.Atom.Kind==4)) t.Factors
 | _=>false
theorem zQJ (x:Atom):zez x=(true,x.Kind==3||x.Kind==4):=by
 unfold zez znN
 rw [Wy.fin_i,Wy.fin_k,Wy.fin_k]
 cases x.Kind==3 <;>rfl
theorem len2 {τ:Type} (x y:τ) (r:List τ):((Int.ofNat (x::y::r).length)==(1:Int))=false:=by
 rw [beq_eq_false_iff_ne]; simp; omega
theorem zRu (a:List Term):zjM a=(true,isU a):=by
 unfold zjM zrt
 match a with
 | []=>rfl
 | ⟨c,[]⟩::[]=>
  show (bif c != 1 then (true,false) else (true,false))=(true,c==1&&false)
  cases c != 1 <;>simp
 | ⟨c,[f]⟩::[]=>
  simp only [Wy.fin_i,Wy.fin_k,tT,isU,List.length_singleton,zQJ,Wy.fin_bn,Wy.fin_d]
  show (bif c != 1 then (true,false) else bif f.Exp==1 then bif f.Atom.Kind==2 then (true,true) else (true,f.Atom.Kind==3||f.Atom.Kind==4) else (true,false))=(true,c==1&&(f.Exp==1&&(f.Atom.Kind==2||f.Atom.Kind==3||f.Atom.Kind==4)))
  rw [show (c != 1)= !(c==1) from rfl]
  cases c==1 <;>cases f.Exp==1 <;>cases f.Atom.Kind==2 <;>simp
 | ⟨c,f::g::r⟩::[]=>
  simp only [Wy.fin_i,bne,len2]
  show (bif !(c==1) then (true,false) else (true,false))=(true,c==1&&false)
  cases c==1 <;>rfl
 | t::u::r=>rw [Wy.fin_i,bne,len2]; rfl
def isB:List Term→Bool
 | [t]=>t.Coeff==1&&oneF (fun f=>f.Exp==1&&decide (2≤f.Atom.Kind)) t.Factors
 | _=>false
theorem zF3 (a:List Term):zmZ a=(true,isB a):=by
 unfold zmZ zzo
 match a with
 | []=>rfl
 | ⟨c,[]⟩::[]=>
  show (bif c==1 then (true,false) else (true,false))=(true,c==1&&false)
  cases c==1 <;>rfl
 | ⟨c,[f]⟩::[]=>
  simp only [Wy.fin_i,Wy.fin_k,tT,List.length_singleton,Wy.fin_bn,Wy.fin_d]
  show (bif c==1 then bif decide (2≤f.Atom.Kind) then (true,f.Exp==1) else (true,false) else (true,false))=(true,c==1&&(f.Exp==1&&decide (2≤f.Atom.Kind)))
  cases c==1 <;>cases f.Exp==1 <;>cases decide (2≤f.Atom.Kind) <;>simp
 | ⟨c,f::g::r⟩::[]=>
  rw [Wy.fin_i]
  show (bif true then (Wy.i true (Wy.i (c==1) (Wy.i true (Wy.i (Int.ofNat (f::g::r).length==1) _ (.k false)) .d) (.k false)) .d:Wy0 Bool).fin default else _)=(true,c==1&&false)
  simp only [Wy.fin_i,Wy.fin_k,len2,cond_true,cond_false]
  cases c==1 <;>rfl
 | t::u::r=>rw [Wy.fin_i,len2]; rfl
theorem zH8 (a b:Nat):decide (a>b)= !decide (a≤b):=by
 by_cases h:a≤b
 ·have:¬ a>b:=by omega
  simp [h,this]
 ·have:a>b:=by omega
  simp [h,this]
def withF (t:Term):Bool:= !(decide (t.Factors.length>64)||t.Factors.any fun f=>decide (f.Exp>64)||decide (f.Atom.Items.length>1024))
def zmy (a:List Term):Bool:=decide (a.length≤512)&&decide (zbt a≤8)&&decide (zP a≤4096)&&a.all withF
theorem zVo (l:List Factor) (h:l.length≤1000000):zb7 l=(true,l.any fun f=>decide (f.Exp>64)||decide (f.Atom.Items.length>1024)):=by
 unfold zb7 zd4
 have hw:zb8=zVv (fun (_:Unit) x=>ze3 x):=by
  funext x y
  unfold zb8 zh2 zVv zRZ
  rw [Factor.eta2]
 have:zcr l=IG (fun (_:Unit) x=>ze3 x) (l.length+(Int.ofNat l.length).toNat +Int.toNat (0:Int)+(1:Nat)) () l:=by
  unfold zcr zek zh0
  rw [hw]; rfl
 exact zmB (this.trans (zJw _ _ _ _ _ (by omega) (fun x _=>by
  unfold ze3 zmq
  rw [Wy.fin_i,Wy.fin_k,Wy.fin_k]
  have e:decide (Int.ofNat x.Atom.Items.length>(1024:Int))=decide (x.Atom.Items.length>1024):=zne _ 1024
  rw [e]
  cases decide (x.Exp>64) <;>rfl) (by omega)))
theorem zRm {d:Nat} {a:List Term} (h:zq d a) (hd:d≤100) (hs:zP a≤4611686018427387904):zjN a=(true,zmy a):=by
 obtain ⟨h1,h2⟩:a.length≤1000000∧∀ t∈a,t.Factors.length≤1000000:=by
  cases d with
  | zero=>exact h.elim
  | succ d=>exact ⟨h.1,fun t ht=>(h.2 t ht).1⟩
 have h3:zbY a=(true,a.any fun t=> !withF t):=by
  unfold zbY zdX
  have:zdc a=IG (fun (_:Unit) x=>zjo x) (a.length+(Int.ofNat a.length).toNat +Int.toNat (0:Int)+(1:Nat)) () a:=rfl
  exact zmB (this.trans (zJw _ _ _ _ _ (by omega) (fun x hx=>by
   unfold zjo zoD
   rw [Wy.fin_i,Wy.fin_k,Wy.fin_bn,zVo _ (h2 x hx)]
   have e:decide (Int.ofNat x.Factors.length>(64:Int))=decide (x.Factors.length>64):=zne _ 64
   rw [e]
   unfold withF
   cases decide (x.Factors.length>64) <;>simp [Wy.fin_k]) (by omega)))
 unfold zjN zrr
 have n1:ztp a=(true,(zbt a:Int)):=(zPW 1000 d a h (by omega) hd).1
 have n2:zyc a=(true,(zP a:Int)):=(zOl 1000 d a h (by omega) hs).1
 simp only [Wy.fin_i,Wy.fin_k,Wy.fin_bn,n1,n2,h3,cond_true]
 have e1:decide (Int.ofNat a.length>(512:Int))= !decide (a.length≤512):=by rw [show decide (Int.ofNat a.length>(512:Int))=decide (a.length>512) from zne _ 512]; exact zH8 _ _
 have e2:decide ((zbt a:Int)>(8:Int))= !decide (zbt a≤8):=by rw [show decide ((zbt a:Int)>(8:Int))=decide (zbt a>8) from zne _ 8]; exact zH8 _ _
 have e3:decide ((zP a:Int)>(4096:Int))= !decide (zP a≤4096):=by rw [show decide ((zP a:Int)>(4096:Int))=decide (zP a>4096) from zne _ 4096]; exact zH8 _ _
 have e4:(a.any fun t=> !withF t)= !a.all withF:=by simp [List.all_eq_not_any_not]
 rw [e1,e2,e3,e4]
 unfold zmy
 cases decide (a.length≤512) <;>cases decide (zbt a≤8) <;>cases decide (zP a≤4096) <;>simp
theorem zZn (a:List Term) (i:Nat) (hi:i<a.length) (hl:(a.getD i default).Factors.length≤1000000) (fuel:Nat) (hf:(a.getD i default).Factors.length<fuel):
  zJD fuel a i 0=(true,bif (a.getD i default).Factors.any fun f=>decide (f.Exp>64)||decide (f.Atom.Items.length>1024) then .inl false else .inr (a,(i:Int))):=by
 have:=zdt (W:=zvG) (z:=.inl default) (a.getD i default).Factors.length (fun k=>(a,(i:Int),(k:Int),())) (fun _=>()) (fun k=>(fun f:Factor=> !(decide (f.Exp>64)||decide (f.Atom.Items.length>1024))) ((a.getD i default).Factors.getD k default)) (.inl false) (.inr (a,(i:Int)))
  (fun k hk H K D=>by
   show (zq9 a i k).ev H K D=_
   unfold zq9
   simp only [Wy.ev_i,Wy.ev_k,Wy.ev_h,Wy.ev_bn,Wy.ev_d,tT,hi,hk]
   rw [zT (by omega),show decide ((((a.getD i default).Factors.getD k default).Atom.Items.length:Int)>(1024:Int))=_ from zne _ 1024]
   cases decide (((a.getD i default).Factors.getD k default).Exp>64) <;>cases decide (1024<((a.getD i default).Factors.getD k default).Atom.Items.length) <;>rfl)
  (fun H K D=>by
   show (zq9 a i (a.getD i default).Factors.length).ev H K D=_
   unfold zq9
   simp only [Wy.ev_i,Wy.ev_k,Wy.ev_h,Wy.ev_bn,Wy.ev_d,tT,hi,Nat.lt_irrefl]) fuel hf
 rw [zsi (fun f:Factor=> !(decide (f.Exp>64)||decide (f.Atom.Items.length>1024)))] at this
 have e:((a.getD i default).Factors.all fun f=> !(decide (f.Exp>64)||decide (f.Atom.Items.length>1024)))= !((a.getD i default).Factors.any fun f=>decide (f.Exp>64)||decide (f.Atom.Items.length>1024)):=by simp [List.all_eq_not_any_not]
 rw [e] at this
 refine this.trans ?_
 cases (a.getD i default).Factors.any fun f=>decide (f.Exp>64)||decide (f.Atom.Items.length>1024) <;>rfl
theorem zUz {d:Nat} {a:List Term} (h:zq d a) (hd:d≤100) (hs:zP a≤4611686018427387904):ztK a=(true,zmy a):=by
 obtain ⟨h1,h2⟩:a.length≤1000000∧∀ t∈a,t.Factors.length≤1000000:=by
  cases d with
  | zero=>exact h.elim
  | succ d=>exact ⟨h.1,fun t ht=>(h.2 t ht).1⟩
 have h3:zJZ ((a.length+Int.toNat (0:Int)+(1:Nat))+szTs a) a 0=(true,bif a.all withF then .inr () else .inl false):=by
  have:=zdt (W:=zvC) (z:=.inl default) a.length (fun k=>(a,(k:Int),())) (fun _=>()) (fun k=>withF (a.getD k default)) (.inl false) (.inr ())
   (fun k hk H K D=>by
    show (zqS a k).ev H K D=_
    unfold zqS
    have h4:=h2 _ (zx hk)
    have h5:=zEH a k hk
    simp only [Wy.ev_i,Wy.ev_k,Wy.ev_h,Wy.ev_bn,Wy.ev_d,tT,hk]
    rw [zZn a k hk h4 _ (by omega)]
    have e:decide (((a.getD k default).Factors.length:Int)>(64:Int))=decide ((a.getD k default).Factors.length>64):=zne _ 64
    rw [e]
    unfold withF
    cases decide ((a.getD k default).Factors.length>64) <;>cases ((a.getD k default).Factors.any fun f=>decide (f.Exp>64)||decide (f.Atom.Items.length>1024))
    ·simp only [cond_false,cond_true,isL,getR]; rw [zT (by omega)]; rfl
    all_goals rfl)
   (fun H K D=>by
    show (zqS a a.length).ev H K D=_
    unfold zqS
    simp only [Wy.ev_i,Wy.ev_k,Wy.ev_h,Wy.ev_bn,Wy.ev_d,tT,Nat.lt_irrefl]) ((a.length+Int.toNat (0:Int)+(1:Nat))+szTs a) (by omega)
  rw [zsi] at this
  exact this
 unfold ztK zDG
 have n1:zBL a=(true,(zbt a:Int)):=(zPW 1000 d a h (by omega) hd).2
 have n2:zIU a=(true,(zP a:Int)):=(zOl 1000 d a h (by omega) hs).2
 simp only [Wy.fin_i,Wy.fin_k,Wy.fin_bn,n1,n2,h3,cond_true]
 have e1:decide (Int.ofNat a.length>(512:Int))= !decide (a.length≤512):=by rw [show decide (Int.ofNat a.length>(512:Int))=decide (a.length>512) from zne _ 512]; exact zH8 _ _
 have e2:decide ((zbt a:Int)>(8:Int))= !decide (zbt a≤8):=by rw [show decide ((zbt a:Int)>(8:Int))=decide (zbt a>8) from zne _ 8]; exact zH8 _ _
 have e3:decide ((zP a:Int)>(4096:Int))= !decide (zP a≤4096):=by rw [show decide ((zP a:Int)>(4096:Int))=decide (zP a>4096) from zne _ 4096]; exact zH8 _ _
 rw [e1,e2,e3]
 unfold zmy
 cases decide (a.length≤512) <;>cases decide (zbt a≤8) <;>cases decide (zP a≤4096) <;>cases a.all withF <;>simp [isL,getL]
def valV (v:Value):Bool:=(v.Kind==0&&v.Text.size==0)||(v.Kind==1&&v.Int==0&&decide (v.Text.size≤255))||(v.Kind==2&&v.Text.size==0&&(v.Int==0||v.Int==1))
theorem zS4 (s:ByteArray):(s.toList==(ByteArray.mk #[]).toList)=(s.size==0):=by
 rw [zL4]
 by_cases h:s.size=0
 ·have:s=ByteArray.mk #[]:=zAb (by
   have:s.data.toList.length=0:=by simpa using h
   rw [List.length_eq_zero_iff.1 this])
  subst this; rfl
 ·have:¬ s=ByteArray.mk #[]:=fun e=>h (by rw [e]; rfl)
  simp [h,this]
theorem zzS (v:Value):zov v=(true,valV v):=by
 unfold zov zBM valV
 simp only [zS4,Wy.fin_i,Wy.fin_k,beqd,beqn]
 have e:decide (Int.ofNat v.Text.size≤(255:Int))=decide (v.Text.size≤255):=zsG _ 255
 rw [e]
 by_cases h0:v.Kind=0
 ·simp [h0]
 ·by_cases h1:v.Kind=1
  ·by_cases h2:v.Int=0 <;>simp [h1,h2]
  ·by_cases h2:v.Kind=2
   ·by_cases h3:v.Int=0
    ·simp [h2,h3]
    ·by_cases h4:v.Int=1 <;>simp [h2,h3,h4]
   ·simp [h0,h1,h2]
theorem zHs (v:Value):zrl v=(true,valV v):=by
 unfold zrl zCc valV
 simp only [zS4,Wy.fin_i,Wy.fin_k,beqd,beqn]
 have e:decide (Int.ofNat v.Text.size≤(255:Int))=decide (v.Text.size≤255):=zsG _ 255
 rw [e]
 by_cases h0:v.Kind=0
 ·simp [h0]
 ·by_cases h1:v.Kind=1
  ·by_cases h2:v.Int=0 <;>simp [h1,h2]
  ·by_cases h2:v.Kind=2
   ·by_cases h3:v.Int=0
    ·by_cases h4:v.Text.size=0 <;>simp [h2,h3,h4]
    ·by_cases h4:v.Text.size=0 <;>simp [h2,h3,h4]
   ·simp [h0,h1,h2]
def fitI (fn:Int) (b:Value) (w:Weighted):Bool:=valV w.Value&&(w.Value.Kind==b.Kind)&& !(fn==0&&w.Value.Int != 1)
def fitK (fn:Int) (l:List Weighted) (op:Int) (b:Value):Bool:=decide (0≤fn)&&decide (fn≤3)&&decide (5≤op)&&decide (op≤10)&&valV b&& !(decide (fn≤1)&&b.Kind != 0)&&l.all (fitI fn b)
theorem zWK (l:List Weighted) (fn:Int) (b:Value) (h:l.length≤1000000):zbs l b fn=(true, !l.all (fitI fn b)):=by
 unfold zbs zdC
 have:zcQ l b fn=IG (fun (g:Value×(Int×Unit)×Unit) x=>zgj x g.1 g.2.1.1) (l.length+fn.toNat +(Int.ofNat l.length).toNat +Int.toNat (0:Int)+(1:Nat)) (b,(fn,()),()) l:=rfl
 have e:(!l.all (fitI fn b))=l.any fun w=> !fitI fn b w:=by simp [List.all_eq_not_any_not]
 rw [e]
 exact zmB (this.trans (zJw _ _ _ _ _ (by omega) (fun x _=>by
  show zgj x b fn=_
  unfold zgj znT fitI
  simp only [Wy.fin_i,Wy.fin_k,Wy.fin_bn,zzS,cond_true,beqd,bne0]
  cases valV x.Value <;>by_cases h1:x.Value.Kind=b.Kind <;>by_cases h2:fn=0 <;>simp [beqd,bne0,h1,h2]) (by omega)))
theorem zPy (fn:Int) (l:List Weighted) (op:Int) (b:Value) (h:l.length≤1000000):ziP fn l op b=(true,fitK fn l op b):=by
 unfold ziP zqp fitK
 simp only [Wy.fin_i,Wy.fin_k,Wy.fin_bn,zzS,zWK l fn b h,cond_true,beqd,bne0]
 by_cases h1:fn<0
 ·have:¬ (0≤fn):=by omega
  simp [h1,this]
 by_cases h2:3<fn
 ·have:¬ (fn≤3):=by omega
  simp [h1,h2,this]
 by_cases h3:op<5
 ·have:¬ (5≤op):=by omega
  simp [h1,h2,h3,this]
 by_cases h4:10<op
 ·have:¬ (op≤10):=by omega
  simp [h1,h2,h3,h4,this]
 have g1:0≤fn:=by omega
 have g2:fn≤3:=by omega
 have g3:5≤op:=by omega
 have g4:op≤10:=by omega
 cases valV b with
 | false=>simp [h1,h2,h3,h4]
 | true=>
  by_cases h5:fn=0
  ·subst h5; by_cases h6:b.Kind=0 <;>simp [h3,h4,h6,g3,g4]
  ·by_cases h7:fn=1
   ·subst h7; by_cases h6:b.Kind=0 <;>simp [h3,h4,h6,g3,g4]
   ·have:¬ fn≤1:=by omega
    simp [h1,h2,h3,h4,h5,h7,this,g1,g2,g3,g4]
theorem zR8 (fn:Int) (l:List Weighted) (op:Int) (b:Value) (h:l.length≤1000000):zrm fn l op b=(true,fitK fn l op b):=by
 unfold zrm zBV fitK
 have hl:zzQ (fn.toNat +l.length+Int.toNat (0:Int)+(1:Nat)) fn l (0:Int) b=(true,bif l.all (fitI fn b) then .inr () else .inl false):=by
  have:=zdt (W:=ztS) (z:=.inl default) l.length (fun k=>(fn,l,(),(k:Int),())) (fun _=>(b,())) (fun k=>fitI fn b (l.getD k default)) (.inl false) (.inr ())
   (fun k hk H K D=>by
    show (zpK fn l k b).ev H K D=_
    unfold zpK fitI
    simp only [Wy.ev_i,Wy.ev_k,Wy.ev_h,Wy.ev_bn,Wy.ev_d,tT,hk,zHs,beqd,bne0]
    rw [zT (by omega)]
    cases valV (l.getD k default).Value <;>cases decide ((l.getD k default).Value.Kind=b.Kind) <;>cases decide (fn=0) <;>cases decide ((l.getD k default).Value.Int=1) <;>rfl)
   (fun H K D=>by
    show (zpK fn l l.length b).ev H K D=_
    unfold zpK
    simp only [Wy.ev_i,Wy.ev_k,Wy.ev_h,Wy.ev_bn,Wy.ev_d,tT,Nat.lt_irrefl]) (fn.toNat +l.length+Int.toNat (0:Int)+(1:Nat)) (by omega)
  rw [zsi] at this
  exact this
 simp only [Wy.fin_i,Wy.fin_k,Wy.fin_bn,zHs,hl,cond_true,beqd,bne0]
 by_cases h1:fn<0
 ·have:¬ (0≤fn):=by omega
  simp [h1,this]
 by_cases h2:3<fn
 ·have:¬ (fn≤3):=by omega
  simp [h1,h2,this]
 by_cases h3:op<5
 ·have:¬ (5≤op):=by omega
  simp [h1,h2,h3,this]
 by_cases h4:10<op
 ·have:¬ (op≤10):=by omega
  simp [h1,h2,h3,h4,this]
 have g1:0≤fn:=by omega
 have g2:fn≤3:=by omega
 have g3:5≤op:=by omega
 have g4:op≤10:=by omega
 cases valV b with
 | false=>simp [h1,h2,h3,h4]
 | true=>
  by_cases h5:fn≤1
  ·by_cases h6:b.Kind=0
   ·cases l.all (fitI fn b) <;>simp [h1,h2,h3,h4,h5,h6,g1,g2,g3,g4,isL,getL]
   ·simp [h1,h2,h3,h4,h5,h6,g1,g2,g3,g4]
  ·cases l.all (fitI fn b) <;>simp [h1,h2,h3,h4,h5,g1,g2,g3,g4,isL,getL]
def bz (b:Value):Bool:=b.Kind==(0:Int)&&(b.Int==(0:Int)&&(b.Text.toList==(ByteArray.mk #[]).toList&&true))
def plA (x:Atom):Bool:=x.Func==0&&(x.Items.length==0)&&x.Op==0&&bz x.Bound
theorem zWM (x:Atom):zmA x=(true,plA x):=by
 unfold zmA zBJ plA
 simp only [Wy.fin_i,Wy.fin_k,Int.ofNat_eq_natCast,i0]
 show _=(true,_&&_&&_&&bz x.Bound)
 rw [show (x.Bound.Kind==(0:Int)&&(x.Bound.Int==(0:Int)&&(x.Bound.Text.toList==(ByteArray.mk #[]).toList&&true)))=bz x.Bound from rfl]
 cases x.Func==0 <;>cases x.Items.length==0 <;>cases x.Op==0 <;>rfl
def srtI (l:List Weighted) (k:Nat):Bool:=decide (k=0)||decide (cmpT (zbh (l.getD (k - 1) default)) (zbh (l.getD k default))≤0)
def srtW (l:List Weighted):Bool:=allN (srtI l) l.length 0
theorem zRp (c:Nat→Bool):∀ n i,allN c (n+1) i=(allN c n i&&c (i+n))
 | 0,i=>by simp [allN]
 | n+1,i=>by
  rw [allN,zRp c n (i+1),allN,show i+1+n=i+(n+1) by omega,Bool.and_assoc]
theorem zJV {d:Nat} (l:List Weighted) (hl:l.length≤1000000) (h:∀ w∈l,zq d w.Ann) (hd:d≤99):∀ (n i:Nat),i<l.length→i<n→zdO n l i=(true,bif allN (srtI l) (i+1) 0 then .inr () else .inl false)
 | 0,i,hi,hn=>by omega
 | n+1,i,hi,hn=>by
  show (zdQ l i).ev (fun x y=>zdO n x.1 x.2.2.1) (fun r=>(true,r)) (false,.inl default)=_
  unfold zdQ
  have hg:decide ((i:Int)>(0:Int))=decide (0<i):=zne i 0
  cases i with
  | zero=>simp [Wy.ev_i,Wy.ev_k,allN,srtI]
  | succ i=>
   have hi':i<l.length:=by omega
   have hw:IntKind.i64.wrap (((i+1:Nat):Int) - 1)=(i:Int):=by rw [zte (by omega) (by omega)]; rfl
   have hp:decide (0<i+1)=true:=by simp
   simp only [Wy.ev_i,Wy.ev_k,Wy.ev_h,Wy.ev_bn,Wy.ev_d,hg,hp,hw,tT,hi,hi',zlN (h _ (zx hi)) hd]
   rw [zJV l hl h hd n i hi' (by omega),zRp _ (i+1),Nat.zero_add]
   have:srtI l (i+1)= !decide (cmpT (zbh (l.getD (i+1) default)) (zbh (l.getD i default))<0):=by
    unfold srtI
    rw [show i+1 - 1=i from rfl,ziD (zbh (l.getD (i+1) default)) (zbh (l.getD i default))]
    generalize cmpT (zbh (l.getD (i+1) default)) (zbh (l.getD i default))=z
    by_cases hz:z<0
    ·have:¬ (-z≤0):=by omega
     simp [hz,this]
    ·have:(-z≤0):=by omega
     simp [hz,this]
   rw [this]
   cases decide (cmpT (zbh (l.getD (i+1) default)) (zbh (l.getD i default))<0) <;>simp
theorem zTY {d:Nat} (l:List Weighted) (hl:l.length≤1000000) (h:∀ w∈l,zq d w.Ann) (hd:d≤99):zbX l=(true,srtW l):=by
 unfold zbX zdZ srtW
 match l,hl,h with
 | [],_,_=>rfl
 | x::r,hl,h=>
  have hw:IntKind.i64.wrap (Int.ofNat (x::r).length - 1)=(r.length:Int):=by
   rw [List.length_cons] at hl
   rw [show Int.ofNat (x::r).length=(((x::r).length:Nat):Int) from rfl,zte (by simp) (by simp; omega)]; rfl
  rw [Wy.fin_bn,hw,zJV (x::r) hl h hd _ r.length (by simp) (by simp; omega)]
  cases allN (srtI (x::r)) (r.length+1) 0 with
  | true=>simp [Wy.fin_i,Wy.fin_k,isL]
  | false=>simp [Wy.fin_i,Wy.fin_k,isL,getL]
def rz (r:RowID):Bool:=r.Table==(0:Int)&&(r.Seq==(0:Int)&&true)
def znk (V:List Term→Bool) (l:List (List Term)):Bool:=l.all fun a=>V a&& !(a.length==0)
def zwh (V:List Term→Bool) (l:List Weighted):Bool:=l.all fun w=>V w.Ann&& !(w.Ann.length==0)
def ztR (r:RowID):Bool:=decide (r.Table≥1)&&decide (r.Seq≥1)
def zz1 (p:List Term→Bool):List (List Term)→Bool
 | [a]=>p a
 | _=>false
def zPi (p:List Term→List Term→Bool):List (List Term)→Bool
 | [a,b]=>p a b
 | _=>false
def zdT (V:List Term→Bool) (x:Atom):Bool:=
 znk V x.Args&&
 if x.Kind=0 then plA x&&ztR x.Row&&(x.Args.length==0)
 else rz x.Row&&
  if x.Kind=1 then plA x&&zPi (fun a b=> !decide (a=b)) x.Args
  else if x.Kind=2 then plA x&&zz1 (fun a=> !isC a&& !isU a) x.Args
  else if x.Kind=3 then plA x&&zz1 (fun a=> !hasC a) x.Args
  else if x.Kind=4 then (x.Args.length==0)&&decide (0<x.Items.length)&&zwh V x.Items&&srtW x.Items&&fitK x.Func x.Items x.Op x.Bound
  else false
def chkF (vat:Atom→Bool) (fs:List Factor) (k:Nat):Bool:=
 decide (1≤(fs.getD k default).Exp)&& !(((fs.getD k default).Atom.Kind==3||(fs.getD k default).Atom.Kind==4)&&(fs.getD k default).Exp != 1)&&
  (decide (k=0)||decide (cmpT (zdI (fs.getD (k - 1) default).Atom) (zdI (fs.getD k default).Atom)<0))&&vat (fs.getD k default).Atom
def okF (vat:Atom→Bool) (fs:List Factor):Bool:=allN (chkF vat fs) fs.length 0
def chkT (vat:Atom→Bool) (a:List Term) (i:Nat):Bool:=
 decide (1≤(a.getD i default).Coeff)&&decide ((a.getD i default).Coeff≤1152921504606846976)&&
  (decide (i=0)||decide (cmpL (zbC (a.getD (i - 1) default).Factors) (zbC (a.getD i default).Factors)<0))&&okF vat (a.getD i default).Factors
def vAnn (vat:Atom→Bool) (a:List Term):Bool:=zmy a&&allN (chkT vat a) a.length 0
def zbA:Nat→List Term→Bool
 | 0,_=>false
 | n+1,a=>vAnn (zdT (zbA n)) a
theorem zxD (r:RowID):znf r=(true,ztR r):=by
 unfold znf zzA ztR
 rw [Wy.fin_i,Wy.fin_k,Wy.fin_k]
 cases decide (r.Table≥1) <;>rfl
theorem zxJ {V:List Term→Bool} {x:Atom} (h:zdT V x=true):0≤x.Kind∧x.Kind≤4:=by
 unfold zdT at h
 by_cases h0:x.Kind=0
 ·omega
 by_cases h1:x.Kind=1
 ·omega
 by_cases h2:x.Kind=2
 ·omega
 by_cases h3:x.Kind=3
 ·omega
 by_cases h4:x.Kind=4
 ·omega
 simp [h0,h1,h2,h3,h4] at h
theorem zqz (l k:Nat):((Int.ofNat l)==(k:Int))=(l==k):=by
 rw [beqd,beqn]; congr 1; simp; omega
section
variable (V:List Term→Bool) (gW:List Weighted→Bool×Bool) (gA:List (List Term)→Bool×Bool) (c1:List Term→Bool×Bool) (c2:Weighted→Bool×Bool)
theorem zQv (x:Atom) {d:Nat} (hx:zcJ (zq d) x) (hd:d≤99) (hA:gA x.Args=(true, !znk V x.Args)) (hW:gW x.Items=(true, !zwh V x.Items)):
  zii gW gA c1 c2 x=(true,zdT V x):=by
 have hS:=zTY x.Items hx.1.2.1 (fun w hw=>(hx.2.2 w hw).2) hd
 have hF:=zPy x.Func x.Items x.Op x.Bound hx.1.2.1
 have hE:∀ a∈x.Args,∀ b,ziz a b=(true,decide (a=b)):=fun a ha b=>zyz (hx.2.1 a ha) (by omega) b
 have hC:∀ a∈x.Args,zej a=(true,hasC a):=fun a ha=>zIz a (by
  have:=hx.2.1 a ha
  cases d with
  | zero=>exact this.elim
  | succ d=>have:=this.1; omega)
 obtain ⟨k,r,l,f,its,o,b⟩:=x
 simp only at hA hW hS hF hE hC
 unfold zii zbR zdT plA
 simp only [zxD,hA,hW,hS,hF,Wy.fin_i,Wy.fin_k,Wy.fin_bn,cond_true]
 rw [show (b.Kind==(0:Int)&&(b.Int==(0:Int)&&(b.Text.toList==(ByteArray.mk #[]).toList&&true)))=bz b from rfl,
  show (r.Table==(0:Int)&&(r.Seq==(0:Int)&&true))=rz r from rfl,
  show (Int.ofNat its.length != 0)= !(its.length==0) from congrArg not (zqz its.length 0),show (f != 0)= !(f==0) from rfl,show (o != 0)= !(o==0) from rfl]
 generalize znk V l=A at *
 generalize zwh V its=W at *
 generalize bz b=B at *
 generalize (f==0)=F at *
 generalize (o==0)=O at *
 generalize rz r=R at *
 generalize ztR r=RO at *
 generalize srtW its=S at *
 generalize fitK f its o b=K at *
 have hgt:decide (Int.ofNat its.length>0)=decide (0<its.length):=zne its.length 0
 rw [hgt]
 generalize (its.length==0)=I at *
 generalize decide (0<its.length)=J at *
 by_cases h0:k=0
 ·subst h0
  simp only [zqz,show ((Int.ofNat l.length)==(0:Int))=(l.length==0) from zqz l.length 0]
  generalize (l.length==0)=L
  cases F <;>cases I <;>cases O <;>cases B <;>cases A <;>cases RO <;>rfl
 by_cases h1:k=1
 ·subst h1
  match l,hE with
  | [],_=>cases F <;>cases I <;>cases O <;>cases B <;>cases A <;>cases R <;>rfl
  | [u],_=>cases F <;>cases I <;>cases O <;>cases B <;>cases A <;>cases R <;>rfl
  | [u,v],hE=>
   have e:=hE u (by simp) v
   simp only [List.getD,List.length_cons,List.length_nil,Int.toNat_zero,List.getElem?_cons_zero,List.getElem?_cons_succ,Option.getD,show Int.toNat 1=1 from rfl,zPi]
   simp only [e]
   generalize decide (u=v)=E
   cases F <;>cases I <;>cases O <;>cases B <;>cases A <;>cases R <;>rfl
  | u::v::w::l,_=>
   have e:((Int.ofNat (u::v::w::l).length)==(2:Int))=false:=by rw [beq_eq_false_iff_ne]; simp; omega
   simp only [e]
   cases F <;>cases I <;>cases O <;>cases B <;>cases A <;>cases R <;>rfl
 by_cases h2:k=2
 ·subst h2
  match l with
  | []=>cases F <;>cases I <;>cases O <;>cases B <;>cases A <;>cases R <;>rfl
  | [u]=>
   simp only [List.getD,List.length_cons,List.length_nil,Int.toNat_zero,List.getElem?_cons_zero,Option.getD,zz1,zKj,zRu]
   generalize isC u=E
   generalize isU u=E'
   cases F <;>cases I <;>cases O <;>cases B <;>cases A <;>cases R <;>cases E <;>cases E' <;>rfl
  | u::v::l=>
   simp only [len2]
   cases F <;>cases I <;>cases O <;>cases B <;>cases A <;>cases R <;>rfl
 by_cases h3:k=3
 ·subst h3
  match l,hC with
  | [],_=>cases F <;>cases I <;>cases O <;>cases B <;>cases A <;>cases R <;>rfl
  | [u],hC=>
   have e:=hC u (by simp)
   simp only [List.getD,List.length_cons,List.length_nil,Int.toNat_zero,List.getElem?_cons_zero,Option.getD,zz1]
   simp only [e]
   generalize hasC u=E
   cases F <;>cases I <;>cases O <;>cases B <;>cases A <;>cases R <;>cases E <;>rfl
  | u::v::l,_=>
   simp only [len2]
   cases F <;>cases I <;>cases O <;>cases B <;>cases A <;>cases R <;>rfl
 by_cases h4:k=4
 ·subst h4
  simp only [show ((Int.ofNat l.length)==(0:Int))=(l.length==0) from zqz l.length 0]
  generalize (l.length==0)=L
  cases A <;>cases W <;>cases L <;>cases J <;>cases S <;>cases K <;>cases R <;>rfl
 simp only [beqd,h0,h1,h2,h3,h4,decide_false,if_false,cond_false]
 cases F <;>cases I <;>cases O <;>cases B <;>cases A <;>cases R <;>rfl
end
section
variable (V:List Term→Bool) (g:List Term→Bool×Bool)
theorem zZO (x:Atom) (hl:x.Args.length≤1000000) (hg:∀ a∈x.Args,g a=(true,V a)) (n:Nat) (hn:x.Args.length<n):zqy g n 0 x=(true,bif znk V x.Args then .inr x else .inl false):=by
 have:=zdt (W:=zmm g) (z:=.inl default) x.Args.length (fun i=>((),(i:Int),())) (fun _=>(x,())) (fun i=>(fun a:List Term=>V a&& !(a.length==0)) (x.Args.getD i default)) (.inl false) (.inr x)
  (fun i hi H K D=>by
   show (zje g i x).ev H K D=_
   unfold zje
   have hL:decide ((i:Int)<Int.ofNat x.Args.length)=true:=by simp [hi]
   simp only [Wy.ev_i,Wy.ev_k,Wy.ev_h,Wy.ev_bn,Wy.ev_d,hL,zem,Bool.and_self,cond_true,Int.toNat_natCast,hg _ (zx hi)]
   rw [zT (by omega),show (Int.ofNat (x.Args.getD i default).length==(0:Int))=((x.Args.getD i default).length==0) from zqz _ 0]
   cases V (x.Args.getD i default) <;>cases ((x.Args.getD i default).length==0) <;>rfl)
  (fun H K D=>by
   show (zje g x.Args.length x).ev H K D=_
   unfold zje
   have hL:decide ((x.Args.length:Int)<Int.ofNat x.Args.length)=false:=by simp
   simp only [Wy.ev_i,Wy.ev_k,hL,cond_false]) n hn
 rw [zsi (fun a:List Term=>V a&& !(a.length==0))] at this
 exact this
theorem zR1 {τ:Type} [Inhabited τ] (l:List τ) (i:Nat) (h:i<l.length):List.take 1 (List.drop i l)=[l.getD i default]:=by
 rw [zbu h]; rfl
theorem zXA (x y:TT):cmpL [x] [y]=cmpT x y:=by
 simp only [cmpL]
 split
 ·rename_i h; exact h.symm
 ·rfl
theorem zZq (x:Atom) {d:Nat} (hx:zcJ (zq d) x) (hd:d≤99) (hg:∀ a∈x.Items,g a.Ann=(true,V a.Ann)) (n:Nat) (hn:x.Items.length<n):zv5 g n 0 x=(true,bif zwh V x.Items&&srtW x.Items then .inr () else .inl false):=by
 have hl:x.Items.length≤1000000:=hx.1.2.1
 have:=zdt (W:=zlr g) (z:=.inl default) x.Items.length (fun i=>((),(i:Int),())) (fun _=>(x,())) (fun i=>(fun w:Weighted=>V w.Ann&& !(w.Ann.length==0)) (x.Items.getD i default)&&srtI x.Items i) (.inl false) (.inr ())
  (fun i hi H K D=>by
   show (ziO g i x).ev H K D=_
   unfold ziO
   have hL:decide ((i:Int)<Int.ofNat x.Items.length)=true:=by simp [hi]
   simp only [Wy.ev_i,Wy.ev_k,Wy.ev_h,Wy.ev_bn,Wy.ev_d,hL,zem,Bool.and_self,cond_true,Int.toNat_natCast,hg _ (zx hi)]
   rw [zT (by omega),show (Int.ofNat (x.Items.getD i default).Ann.length==(0:Int))=((x.Items.getD i default).Ann.length==0) from zqz _ 0]
   cases V (x.Items.getD i default).Ann <;>cases ((x.Items.getD i default).Ann.length==0) <;>try rfl
   simp only [cond_true,cond_false,Bool.not_true,Bool.not_false,Bool.and_self,Bool.true_and]
   cases i with
   | zero=>rfl
   | succ i=>
    have hi':i<x.Items.length:=by omega
    have hw:IntKind.i64.wrap (((i+1:Nat):Int) - 1)=(i:Int):=by rw [zte (by omega) (by omega)]; rfl
    have e1:(decide ((0:Int)≤(i:Int))&&decide ((i:Int)≤((i+1:Nat):Int))&&decide (((i+1:Nat):Int)≤Int.ofNat x.Items.length))=true:=by
     simp; try omega
    have e2:(decide (((i+1:Nat):Int)≤((i+1+1:Nat):Int))&&decide (((i+1+1:Nat):Int)≤Int.ofNat x.Items.length))=true:=by
     simp; try omega
    have e3:decide (((i+1:Nat):Int)>0)=true:=by simp; try omega
    simp only [hw,e1,e2,e3,cond_true,Bool.true_and,Int.toNat_natCast,show i+1 - i=1 by omega,show i+1+1 - (i+1)=1 by omega,zR1 _ _ hi,zR1 _ _ hi']
    rw [zwu (d:=d) (by simp) (fun w hw=>by
     rw [List.mem_singleton] at hw; subst hw; exact (hx.2.2 _ (zx hi')).2) hd,zkG,zkG]
    simp only [List.map,zXA,cond_true,srtI,show i+1 - 1=i from rfl]
    have e4:decide (i+1=0)=false:=by simp
    rw [e4,Bool.false_or]
    generalize cmpT (zbh (x.Items.getD i default)) (zbh (x.Items.getD (i+1) default))=z
    by_cases hz:z>0
    ·have:¬ z≤0:=by omega
     simp only [hz,this,decide_true,decide_false,cond_true,cond_false]
    ·have:z≤0:=by omega
     simp only [hz,this,decide_true,decide_false,cond_true,cond_false])
  (fun H K D=>by
   show (ziO g x.Items.length x).ev H K D=_
   unfold ziO
   have hL:decide ((x.Items.length:Int)<Int.ofNat x.Items.length)=false:=by simp
   simp only [Wy.ev_i,Wy.ev_k,hL,cond_false]) n hn
 rw [zSp (fun i=>(fun w:Weighted=>V w.Ann&& !(w.Ann.length==0)) (x.Items.getD i default)),zsi (fun w:Weighted=>V w.Ann&& !(w.Ann.length==0))] at this
 exact this
theorem zMF {A ρ:Type} (s:A) (k:A→Wy0 ρ) (z:ρ):(Wy.bn (true,s) k).fin z=(k s).fin z:=rfl
theorem zON (x:Atom) {d:Nat} (hx:zcJ (zq d) x) (hd:d≤99) (h10:x.Items.length≤1024) (hV:∀ a,V a=true→isB a=isU a) (hgA:∀ a∈x.Args,g a=(true,V a)) (hgI:∀ a∈x.Items,g a.Ann=(true,V a.Ann)):
  zl0 g x=(true,zdT V x):=by
 have hS:=fun n hn=>zZq V g x hx hd hgI n hn
 have hA:=fun n hn=>zZO V g x hx.1.1 hgA n hn
 have hF:=zR8 x.Func x.Items x.Op x.Bound hx.1.2.1
 have hE:∀ a∈x.Args,∀ b,zog a b=(true,decide (a=b)):=fun a ha b=>zBD (hx.2.1 a ha) (by omega) b
 have hC:∀ a∈x.Args,zht a=(true,hasC a):=fun a ha=>zuC a (by
  have:=hx.2.1 a ha
  cases d with
  | zero=>exact this.elim
  | succ d=>have:=this.1; omega)
 have hP:=zWM x
 unfold zl0 zrp zdT
 obtain ⟨s,hs1,hs2⟩:∃ s,zqy g ((Int.toNat (0:Int)+(1:Nat))+x.Args.length+x.Items.length) 0 x=(true,s)∧s=bif znk V x.Args then .inr x else .inl false:=⟨_,hA _ (by omega),rfl⟩
 rw [Atom.eta,hP,hs1]
 simp only [Wy.fin_i,Wy.fin_k,zMF]
 simp only [Wy.fin_i,Wy.fin_k,Wy.fin_bn,cond_true]
 rw [show (x.Row.Table==(0:Int)&&(x.Row.Seq==(0:Int)&&true))=rz x.Row from rfl]
 have b0:(x.Kind==(0:Int))=decide (x.Kind=0):=beqd _ _
 have b1:(x.Kind==(1:Int))=decide (x.Kind=1):=beqd _ _
 have b2:(x.Kind==(2:Int))=decide (x.Kind=2):=beqd _ _
 have b3:(x.Kind==(3:Int))=decide (x.Kind=3):=beqd _ _
 have b4:(x.Kind==(4:Int))=decide (x.Kind=4):=beqd _ _
 by_cases h0:x.Kind=0
 ·rw [b0]
  simp only [h0,decide_true,cond_true,if_true]
  rw [show (Int.ofNat x.Args.length==(0:Int))=(x.Args.length==0) from zqz _ 0]
  unfold ztR
  match hl:x.Args with
  | []=>cases decide (x.Row.Table≥1) <;>cases decide (x.Row.Seq≥1) <;>cases plA x <;>rfl
  | u::l=>cases decide (x.Row.Table≥1) <;>cases decide (x.Row.Seq≥1) <;>cases plA x <;>cases znk V (u::l) <;>rfl
 rw [b0]
 simp only [h0,decide_false,cond_false,if_false]
 cases hA:znk V x.Args with
 | false=>rw [hs2,hA]; cases rz x.Row <;>rfl
 | true=>
 rw [hA,cond_true] at hs2
 have hy:getR s=x:=by rw [hs2]; rfl
 have hy2:isL s=false:=by rw [hs2]; rfl
 rw [hy2]
 generalize getR s=y at hy ⊢
 subst hy
 cases rz y.Row with
 | false=>rfl
 | true=>
 simp only [Bool.not_true,cond_false,cond_true,isL,getR,Bool.true_and,Atom.eta,hP,hF,b1,b2,b3,b4]
 by_cases h1:y.Kind=1
 ·simp only [h1,decide_true,cond_true,if_true]
  match hl:y.Args with
  | []=>cases plA y <;>rfl
  | [u]=>cases plA y <;>rfl
  | [u,v]=>
   have e:=hE u (by rw [hl]; simp) v
   simp only [List.getD,List.length_cons,List.length_nil,Int.toNat_zero,List.getElem?_cons_zero,List.getElem?_cons_succ,Option.getD,show Int.toNat 1=1 from rfl,zPi]
   simp only [e]
   generalize decide (u=v)=E
   cases plA y <;>rfl
  | u::v::w::l=>
   have e:((Int.ofNat (u::v::w::l).length)==(2:Int))=false:=by rw [beq_eq_false_iff_ne]; simp; omega
   simp only [e]
   cases plA y <;>rfl
 simp only [h1,decide_false,cond_false,if_false]
 by_cases h2:y.Kind=2
 ·simp only [h2,decide_true,cond_true,if_true]
  match hl:y.Args with
  | []=>cases plA y <;>rfl
  | [u]=>
   have e:=hC u (by rw [hl]; simp)
   have eV:V u=true:=by
    rw [hl] at hA
    unfold znk at hA
    simp at hA
    exact hA.1
   simp only [List.getD,List.length_cons,List.length_nil,Int.toNat_zero,List.getElem?_cons_zero,Option.getD,zz1,zF3,e,hV u eV]
   match u with
   | []=>cases plA y <;>rfl
   | [t]=>
    have e1:hasC [t]=(t.Factors.length==0):=by simp [hasC]
    have e2:isC [t]=(t.Factors.length==0):=rfl
    rw [e1,e2]
    cases plA y <;>cases (t.Factors.length==0) <;>cases isU [t] <;>rfl
   | t::s::r=>
    simp only [len2]
    cases plA y <;>rfl
  | u::v::l=>
   simp only [len2]
   cases plA y <;>rfl
 simp only [h2,decide_false,cond_false,if_false]
 by_cases h3:y.Kind=3
 ·simp only [h3,decide_true,cond_true,if_true]
  match hl:y.Args with
  | []=>cases plA y <;>rfl
  | [u]=>
   have e:=hC u (by rw [hl]; simp)
   simp only [List.getD,List.length_cons,List.length_nil,Int.toNat_zero,List.getElem?_cons_zero,Option.getD,zz1]
   simp only [e]
   cases plA y <;>cases hasC u <;>rfl
  | u::v::l=>
   simp only [len2]
   cases plA y <;>rfl
 simp only [h3,decide_false,cond_false,if_false]
 by_cases h4:y.Kind=4
 ·have e10:decide (Int.ofNat y.Items.length>(1024:Int))=false:=by simp; omega
  rw [hS _ (by omega)]
  rw [e10]
  simp only [h4,decide_true,cond_true,if_true,cond_false]
  rw [show (Int.ofNat y.Args.length != (0:Int))= !(y.Args.length==0) from congrArg not (zqz y.Args.length 0),show (Int.ofNat y.Items.length==(0:Int))=(y.Items.length==0) from zqz y.Items.length 0]
  have e11:decide (0<y.Items.length)= !(y.Items.length==0):=by
   rw [beqn]
   by_cases h:y.Items.length=0
   ·simp [h]
   ·have:0<y.Items.length:=by omega
    simp [h,this]
  rw [e11]
  cases (y.Args.length==0) <;>cases (y.Items.length==0) <;>cases fitK y.Func y.Items y.Op y.Bound <;>cases zwh V y.Items <;>cases srtW y.Items <;>rfl
 simp only [h4,decide_false,cond_false,if_false]
end
section
variable (V:List Term→Bool) (vat:Atom→Bool)
theorem V_9 (g:Atom→Bool×Bool) (a t10:List Term) (t11 t12:Int) (t:Term) {d:Nat} (ht:zfw (zq d) t.Factors) (hd:d≤99) (hg:∀ f∈t.Factors,g f.Atom=(true,vat f.Atom)) (n:Nat) (hn:t.Factors.length<n):
  zpM g n a t10 t11 t12 t.Factors t.Factors.length 0 t=(true,bif okF vat t.Factors then .inr (a,t10,t11,t12) else .inl false):=by
 have hl:=ht.1
 exact zdt (W:=zlz g) (z:=.inl default) t.Factors.length (fun k=>(a,(),t10,t11,t12,t.Factors,(t.Factors.length:Int),(k:Int),())) (fun _=>(t,())) (chkF vat t.Factors) (.inl false) (.inr (a,t10,t11,t12))
  (fun k hk H K D=>by
   show (ziC g a t10 t11 t12 t.Factors t.Factors.length k t).ev H K D=_
   unfold ziC chkF
   have hgt:decide ((k:Int)>0)= !decide (k=0):=by
    by_cases h:k=0
    ·subst h; rfl
    ·have:0<k:=by omega
     simp [h,this]
   simp only [Atom.eta,Wy.ev_i,Wy.ev_k,Wy.ev_h,Wy.ev_bn,Wy.ev_d,tT,hk,zQJ,hg _ (zx hk),hgt]
   rw [zT (by omega)]
   have e1:decide ((t.Factors.getD k default).Exp<1)= !decide (1≤(t.Factors.getD k default).Exp):=by
    by_cases h:1≤(t.Factors.getD k default).Exp
    ·have:¬ (t.Factors.getD k default).Exp<1:=by omega
     simp only [h,this,decide_true,decide_false,Bool.not_true]
    ·have:(t.Factors.getD k default).Exp<1:=by omega
     simp only [h,this,decide_true,decide_false,Bool.not_false]
   rw [e1]
   generalize decide (1≤(t.Factors.getD k default).Exp)=E1
   generalize ((t.Factors.getD k default).Exp != 1)=E2
   generalize ((t.Factors.getD k default).Atom.Kind==3||(t.Factors.getD k default).Atom.Kind==4)=E3
   by_cases h0:k=0
   ·simp only [h0,decide_true,Bool.not_true,cond_false,Bool.true_or,Bool.and_true]
    cases E1 <;>cases E2 <;>cases E3 <;>cases vat (t.Factors.getD 0 default).Atom <;>rfl
   ·have hp:IntKind.i64.wrap ((k:Int) - 1)=((k - 1:Nat):Int):=zte (by omega) (by omega)
    have hk':k - 1<t.Factors.length:=by omega
    have hfx:zcJ (zq d) (t.Factors.getD (k - 1) default).Atom:=ht.2 _ (zx hk')
    have e2:∀ z:Int,decide (z≥0)= !decide (z<0):=fun z=>by
     by_cases h:z<0
     ·have:¬ z≥0:=by omega
      simp [h,this]
     ·have:z≥0:=by omega
      simp [h,this]
    simp only [h0,hp,tT,hk',zqT hfx hd,e2,Bool.false_or]
    generalize decide (cmpT (zdI (t.Factors.getD (k - 1) default).Atom) (zdI (t.Factors.getD k default).Atom)<0)=E4
    cases E1 <;>cases E2 <;>cases E3 <;>cases E4 <;>cases vat (t.Factors.getD k default).Atom <;>rfl)
  (fun H K D=>by
   show (ziC g a t10 t11 t12 t.Factors t.Factors.length t.Factors.length t).ev H K D=_
   unfold ziC
   simp only [Wy.ev_i,Wy.ev_k,tT,Nat.lt_irrefl]) n hn
theorem V_4 (g:Atom→Bool×Bool) (a:List Term) {d:Nat} (h:zq (d+1) a) (hd:d≤99) (hg:∀ t∈a,∀ f∈t.Factors,g f.Atom=(true,vat f.Atom)) (n:Nat) (hn:a.length<n):
  zwz g n a a a.length 0=(true,bif allN (chkT vat a) a.length 0 then .inr () else .inl false):=by
 have hl:=h.1
 exact zdt (W:=zly g) (z:=.inl default) a.length (fun k=>(a,a,(a.length:Int),(k:Int),())) (fun _=>()) (chkT vat a) (.inl false) (.inr ())
  (fun k hk H K D=>by
   show (ziI g a a a.length k).ev H K D=_
   unfold ziI chkT
   have ht:=h.2 _ (zx hk)
   have hgt:decide ((k:Int)>0)= !decide (k=0):=by
    by_cases h:k=0
    ·subst h; rfl
    ·have:0<k:=by omega
     simp [h,this]
   simp only [Atom.eta,Wy.ev_i,Wy.ev_k,Wy.ev_h,Wy.ev_bn,Wy.ev_d,tT,hk,hgt]
   rw [V_9 vat g a a a.length k _ ht hd (hg _ (zx hk)) _ (by omega)]
   have e1:decide ((a.getD k default).Coeff<1)= !decide (1≤(a.getD k default).Coeff):=by
    by_cases h:1≤(a.getD k default).Coeff
    ·have:¬ (a.getD k default).Coeff<1:=by omega
     simp only [h,this,decide_true,decide_false,Bool.not_true]
    ·have:(a.getD k default).Coeff<1:=by omega
     simp only [h,this,decide_true,decide_false,Bool.not_false]
   have e3:decide ((a.getD k default).Coeff>1152921504606846976)= !decide ((a.getD k default).Coeff≤1152921504606846976):=by
    by_cases h:(a.getD k default).Coeff≤1152921504606846976
    ·have:¬ (a.getD k default).Coeff>1152921504606846976:=by omega
     simp only [h,this,decide_true,decide_false,Bool.not_true]
    ·have:(a.getD k default).Coeff>1152921504606846976:=by omega
     simp only [h,this,decide_true,decide_false,Bool.not_false]
   rw [e1,e3]
   generalize decide (1≤(a.getD k default).Coeff)=E1
   generalize decide ((a.getD k default).Coeff≤1152921504606846976)=E2
   by_cases h0:k=0
   ·subst h0
    simp only [decide_true,Bool.not_true,cond_false,Bool.true_or,Bool.and_true]
    cases okF vat (a.getD 0 default).Factors <;>cases E1 <;>cases E2 <;>try rfl
   ·have hp:IntKind.i64.wrap ((k:Int) - 1)=((k - 1:Nat):Int):=zte (by omega) (by omega)
    have hk':k - 1<a.length:=by omega
    have hfx:zfw (zq d) (a.getD (k - 1) default).Factors:=h.2 _ (zx hk')
    have e2:∀ z:Int,decide (z≥0)= !decide (z<0):=fun z=>by
     by_cases h:z<0
     ·have:¬ z≥0:=by omega
      simp [h,this]
     ·have:z≥0:=by omega
      simp [h,this]
    simp only [h0,hp,tT,hk',zq0 hfx hd,e2,Bool.false_or]
    generalize decide (cmpL (zbC (a.getD (k - 1) default).Factors) (zbC (a.getD k default).Factors)<0)=E4
    cases okF vat (a.getD k default).Factors <;>cases E1 <;>cases E2 <;>cases E4 <;>try rfl
    simp only [cond_true,cond_false,Bool.not_true,isL,getR,Bool.and_self]
    rw [zT (by omega),decide_eq_false (show ¬ ((k - 1:Nat):Int)<0 by omega)]; rfl)
  (fun H K D=>by
   show (ziI g a a a.length a.length).ev H K D=_
   unfold ziI
   simp only [Wy.ev_i,Wy.ev_k,tT,Nat.lt_irrefl]) n hn
theorem zU3 (g:Atom→Bool×Bool) (a:List Term) {d:Nat} (h:zq (d+1) a) (hd:d≤99) (hs:zP a≤4611686018427387904) (hg:∀ t∈a,∀ f∈t.Factors,g f.Atom=(true,vat f.Atom)):zk9 g a=(true,vAnn vat a):=by
 unfold zk9 zqF vAnn
 have:=V_4 vat g a h hd hg (a.length+a.length+(Int.ofNat a.length).toNat +Int.toNat (0:Int)+(1:Nat)) (by omega)
 rw [show Int.ofNat a.length=(a.length:Int) from rfl] at *
 simp only [Wy.fin_i,Wy.fin_k,Wy.fin_bn,zRm h (by omega) hs,this,cond_true]
 cases zmy a <;>cases allN (chkT vat a) a.length 0 <;>rfl
theorem zZC (g:Atom→Bool×Bool) (a:List Term) (i:Int) (t:Term) {d:Nat} (ht:zfw (zq d) t.Factors) (hd:d≤99) (hg:∀ f∈t.Factors,g f.Atom=(true,vat f.Atom)) (hk:∀ x,vat x=true→0≤x.Kind∧x.Kind≤4) (n:Nat) (hn:t.Factors.length<n):
  zuH g n a i 0 t=(true,bif okF vat t.Factors then .inr (a,i) else .inl false):=by
 have hl:=ht.1
 exact zdt (W:=zo1 g) (z:=.inl default) t.Factors.length (fun k=>(a,i,(),(k:Int),())) (fun _=>(t,())) (chkF vat t.Factors) (.inl false) (.inr (a,i))
  (fun k hk1 H K D=>by
   show (zlU g a i k t).ev H K D=_
   unfold zlU chkF
   have hgt:decide ((k:Int)>0)= !decide (k=0):=by
    by_cases h:k=0
    ·subst h; rfl
    ·have:0<k:=by omega
     simp [h,this]
   simp only [Atom.eta,Wy.ev_i,Wy.ev_k,Wy.ev_h,Wy.ev_bn,Wy.ev_d,tT,hk1,hg _ (zx hk1),hgt]
   rw [zT (by omega)]
   have hk2:=hk (t.Factors.getD k default).Atom
   have e1:decide ((t.Factors.getD k default).Exp<1)= !decide (1≤(t.Factors.getD k default).Exp):=by
    by_cases h:1≤(t.Factors.getD k default).Exp
    ·have:¬ (t.Factors.getD k default).Exp<1:=by omega
     simp only [h,this,decide_true,decide_false,Bool.not_true]
    ·have:(t.Factors.getD k default).Exp<1:=by omega
     simp only [h,this,decide_true,decide_false,Bool.not_false]
   rw [e1]
   by_cases hx1:1≤(t.Factors.getD k default).Exp
   rotate_left
   ·simp only [hx1,decide_false,Bool.not_false,cond_true,Bool.false_and,cond_false]
   cases hv:vat (t.Factors.getD k default).Atom with
   | false=>
    rw [Bool.and_false]
    cases decide (1≤(t.Factors.getD k default).Exp) <;>cases decide ((t.Factors.getD k default).Exp>1) <;>cases decide ((t.Factors.getD k default).Atom.Kind≥3) <;>rfl
   | true=>
   obtain ⟨k1,k2⟩:=hk2 hv
   have e5:((t.Factors.getD k default).Atom.Kind==3||(t.Factors.getD k default).Atom.Kind==4)=decide ((t.Factors.getD k default).Atom.Kind≥3):=by
    rw [beqd,beqd, ← Bool.decide_or]
    congr 1
    apply propext; omega
   have e6:((t.Factors.getD k default).Exp != 1)=decide ((t.Factors.getD k default).Exp>1):=by
    rw [bne0, ← decide_not]
    congr 1
    apply propext; omega
   rw [e5,e6]
   simp only [hx1,decide_true,Bool.not_true,cond_false,Bool.true_and]
   generalize decide ((t.Factors.getD k default).Exp>1)=E2
   generalize decide ((t.Factors.getD k default).Atom.Kind≥3)=E3
   by_cases h0:k=0
   ·simp only [h0,decide_true,Bool.not_true,cond_false,Bool.true_or,Bool.and_true]
    cases E2 <;>cases E3 <;>rfl
   ·have hp:IntKind.i64.wrap ((k:Int) - 1)=((k - 1:Nat):Int):=zte (by omega) (by omega)
    have hk':k - 1<t.Factors.length:=by omega
    have hfx:zcJ (zq d) (t.Factors.getD (k - 1) default).Atom:=ht.2 _ (zx hk')
    have e2:∀ z:Int,decide (z≥0)= !decide (z<0):=fun z=>by
     by_cases h:z<0
     ·have:¬ z≥0:=by omega
      simp [h,this]
     ·have:z≥0:=by omega
      simp [h,this]
    simp only [h0,hp,tT,hk',zqB hfx hd,e2,Bool.false_or]
    generalize decide (cmpT (zdI (t.Factors.getD (k - 1) default).Atom) (zdI (t.Factors.getD k default).Atom)<0)=E4
    cases E2 <;>cases E3 <;>cases E4 <;>rfl)
  (fun H K D=>by
   show (zlU g a i t.Factors.length t).ev H K D=_
   unfold zlU
   simp only [Wy.ev_i,Wy.ev_k,tT,Nat.lt_irrefl]) n hn
theorem RV_4 (g:Atom→Bool×Bool) (a:List Term) {d:Nat} (h:zq (d+1) a) (hd:d≤99) (hg:∀ t∈a,∀ f∈t.Factors,g f.Atom=(true,vat f.Atom)) (hk:∀ x,vat x=true→0≤x.Kind∧x.Kind≤4) (n:Nat) (hn:a.length<n):
  zE1 g n a 0=(true,bif allN (chkT vat a) a.length 0 then .inr () else .inl false):=by
 have hl:=h.1
 exact zdt (W:=zqJ g) (z:=.inl default) a.length (fun k=>(a,(k:Int),())) (fun _=>()) (chkT vat a) (.inl false) (.inr ())
  (fun k hk1 H K D=>by
   show (zng g a k).ev H K D=_
   unfold zng chkT
   have ht:=h.2 _ (zx hk1)
   have hgt:decide ((k:Int)>0)= !decide (k=0):=by
    by_cases h:k=0
    ·subst h; rfl
    ·have:0<k:=by omega
     simp [h,this]
   simp only [Atom.eta,Wy.ev_i,Wy.ev_k,Wy.ev_h,Wy.ev_bn,Wy.ev_d,tT,hk1,hgt]
   rw [zZC vat g a k _ ht hd (hg _ (zx hk1)) hk _ (by omega)]
   have e1:decide ((a.getD k default).Coeff<1)= !decide (1≤(a.getD k default).Coeff):=by
    by_cases h:1≤(a.getD k default).Coeff
    ·have:¬ (a.getD k default).Coeff<1:=by omega
     simp only [h,this,decide_true,decide_false,Bool.not_true]
    ·have:(a.getD k default).Coeff<1:=by omega
     simp only [h,this,decide_true,decide_false,Bool.not_false]
   have e3:decide ((a.getD k default).Coeff>1152921504606846976)= !decide ((a.getD k default).Coeff≤1152921504606846976):=by
    by_cases h:(a.getD k default).Coeff≤1152921504606846976
    ·have:¬ (a.getD k default).Coeff>1152921504606846976:=by omega
     simp only [h,this,decide_true,decide_false,Bool.not_true]
    ·have:(a.getD k default).Coeff>1152921504606846976:=by omega
     simp only [h,this,decide_true,decide_false,Bool.not_false]
   rw [e1,e3]
   generalize decide (1≤(a.getD k default).Coeff)=E1
   generalize decide ((a.getD k default).Coeff≤1152921504606846976)=E2
   by_cases h0:k=0
   ·subst h0
    simp only [decide_true,Bool.not_true,cond_false,Bool.true_or,Bool.and_true]
    cases okF vat (a.getD 0 default).Factors <;>cases E1 <;>cases E2 <;>try rfl
   ·have hp:IntKind.i64.wrap ((k:Int) - 1)=((k - 1:Nat):Int):=zte (by omega) (by omega)
    have hk':k - 1<a.length:=by omega
    have hfx:zfw (zq d) (a.getD (k - 1) default).Factors:=h.2 _ (zx hk')
    have e2:∀ z:Int,decide (z≥0)= !decide (z<0):=fun z=>by
     by_cases h:z<0
     ·have:¬ z≥0:=by omega
      simp [h,this]
     ·have:z≥0:=by omega
      simp [h,this]
    simp only [h0,hp,tT,hk',znE hfx hd,e2,Bool.false_or]
    generalize decide (cmpL (zbC (a.getD (k - 1) default).Factors) (zbC (a.getD k default).Factors)<0)=E4
    cases okF vat (a.getD k default).Factors <;>cases E1 <;>cases E2 <;>cases E4 <;>try rfl
    simp only [cond_true,cond_false,Bool.not_true,isL,getR,Bool.and_self]
    rw [zT (by omega),decide_eq_false (show ¬ ((k - 1:Nat):Int)<0 by omega)]; rfl)
  (fun H K D=>by
   show (zng g a a.length).ev H K D=_
   unfold zng
   simp only [Wy.ev_i,Wy.ev_k,tT,Nat.lt_irrefl]) n hn
theorem zT0 (g:Atom→Bool×Bool) (a:List Term) {d:Nat} (h:zq (d+1) a) (hd:d≤99) (hs:zP a≤4611686018427387904) (hg:zmy a=true→∀ t∈a,∀ f∈t.Factors,g f.Atom=(true,vat f.Atom)) (hk:∀ x,vat x=true→0≤x.Kind∧x.Kind≤4):zqR g a=(true,vAnn vat a):=by
 unfold zqR zxq vAnn
 rw [Wy.fin_bn,zUz h (by omega) hs]
 cases hw:zmy a with
 | false=>rfl
 | true=>
  have:=RV_4 vat g a h hd (hg hw) hk ((a.length+Int.toNat (0:Int)+(1:Nat))+szTs a) (by omega)
  simp only [Wy.fin_i,Wy.fin_k,Wy.fin_bn,this,cond_true]
  cases allN (chkT vat a) a.length 0 <;>rfl
end
theorem zNq {l:List (List Term)} {a:List Term} (h:a∈l):zP a≤zel l:=by
 induction l with
 | nil=>cases h
 | cons b r ih=>
  rw [zef]
  rcases List.mem_cons.1 h with rfl | h
  ·omega
  ·have:=ih h; omega
theorem zK1 {l:List Weighted} {w:Weighted} (h:w∈l):zP w.Ann≤zcI l:=by
 induction l with
 | nil=>cases h
 | cons b r ih=>
  rw [zg7]
  rcases List.mem_cons.1 h with rfl | h
  ·omega
  ·have:=ih h; omega
theorem zL3 {m:Nat} {a:List Term} (h:zbA m a=true):isB a=isU a:=by
 cases m with
 | zero=>cases h
 | succ m=>
 match a with
 | []=>rfl
 | [t]=>
  simp only [zbA,vAnn,Bool.and_eq_true] at h
  have h1:=zea.1 h.2 0 (by omega) (by simp)
  simp only [chkT,Bool.and_eq_true] at h1
  have h2:=h1.2
  obtain ⟨c,fs⟩:=t
  match fs with
  | []=>rfl
  | [f]=>
   have h3:=zea.1 h2 0 (by omega) (by simp)
   simp only [chkF,Bool.and_eq_true] at h3
   have h4:=zxJ h3.2
   simp only [List.getD_cons_zero] at h4
   show (c==1&&(f.Exp==1&&decide (2≤f.Atom.Kind)))=(c==1&&(f.Exp==1&&(f.Atom.Kind==2||f.Atom.Kind==3||f.Atom.Kind==4)))
   have e:decide (2≤f.Atom.Kind)=(f.Atom.Kind==2||f.Atom.Kind==3||f.Atom.Kind==4):=by
    rw [beqd,beqd,beqd, ← Bool.decide_or, ← Bool.decide_or]
    congr 1
    apply propext; omega
   rw [e]
  | f::f'::r=>rfl
 | t::u::r=>rfl
theorem zZB (g) (l:List (List Term)):zce g l=IG (fun (_:Unit) x=>g x) (l.length+(Int.ofNat l.length).toNat +Int.toNat (0:Int)+(1:Nat)) () l:=rfl
theorem zZK (g) (l:List Weighted):zcD g l=IG (fun (_:Unit) x=>g x) (l.length+(Int.ofNat l.length).toNat +Int.toNat (0:Int)+(1:Nat)) () l:=rfl
theorem zGd:∀ n,
  (∀ d m a,zq d a→10*d≤n→d≤m→d≤100→zP a≤4611686018427387904→ziE n a=(true,zbA m a))∧
  (∀ d m x,zcJ (zq d) x→10*d+9≤n→d≤m→d≤99→zeJ x≤4611686018427387904→zkH n x=(true,zdT (zbA m) x))∧
  (∀ d m a,zq d a→10*d+6≤n→d≤m→d≤99→zP a≤4611686018427387904→zen n a=(true, !(zbA m a&& !(a.length==0))))∧
  (∀ d m (w:Weighted),zq d w.Ann→10*d+6≤n→d≤m→d≤99→zP w.Ann≤4611686018427387904→zeq n w=(true, !(zbA m w.Ann&& !(w.Ann.length==0))))∧
  (∀ d m (l:List (List Term)),l.length≤1000000→(∀ a∈l,zq d a∧zP a≤4611686018427387904)→10*d+7≤n→d≤m→d≤99→zcf n l=(true,ixf (fun a=> !(zbA m a&& !(a.length==0))) l 0))∧
  (∀ d m (l:List (List Term)),l.length≤1000000→(∀ a∈l,zq d a∧zP a≤4611686018427387904)→10*d+8≤n→d≤m→d≤99→zb0 n l=(true, !znk (zbA m) l))∧
  (∀ d m (l:List Weighted),l.length≤1000000→(∀ a∈l,zq d a.Ann∧zP a.Ann≤4611686018427387904)→10*d+7≤n→d≤m→d≤99→zcC n l=(true,ixf (fun a=> !(zbA m a.Ann&& !(a.Ann.length==0))) l 0))∧
  (∀ d m (l:List Weighted),l.length≤1000000→(∀ a∈l,zq d a.Ann∧zP a.Ann≤4611686018427387904)→10*d+8≤n→d≤m→d≤99→zcn n l=(true, !zwh (zbA m) l))
 | 0=>by
  refine ⟨?_, ?_, ?_, ?_, ?_, ?_, ?_, ?_⟩
  ·intro d m a h hd; have:d=0:=by omega
   subst this; exact h.elim
  all_goals (intros; omega)
 | n+1=>by
  obtain ⟨h1,h2,h3,h4,h5,h6,h7,h8⟩:=zGd n
  refine ⟨?_, ?_, ?_, ?_, ?_, ?_, ?_, ?_⟩
  ·intro d m a h hd hm hd2 hs
   cases d with
   | zero=>exact h.elim
   | succ d=>
    cases m with
    | zero=>omega
    | succ m=>
     rw [zHt]
     exact zU3 _ _ a h (by omega) hs fun t ht f hf=>h2 d m f.Atom ((h.2 t ht).2 f hf) (by omega) (by omega) (by omega) (by
      have:=zQw ht hf; rw [zf8]; omega)
  ·intro d m x h hd hm hd2 hs
   rw [zDm]
   rw [zf8] at hs
   exact zQv _ _ _ _ _ x h hd2 (h6 d m _ h.1.1 (fun a ha=>⟨h.2.1 a ha,by have:=zNq ha; omega⟩) (by omega) hm hd2)
    (h8 d m _ h.1.2.1 (fun a ha=>⟨(h.2.2 a ha).2,by have:=zK1 ha; omega⟩) (by omega) hm hd2)
  ·intro d m a h hd hm hd2 hs
   rw [zzi]
   unfold ziW zkU
   rw [Wy.fin_bn,h1 d m a h (by omega) hm (by omega) hs]
   simp only [cond_true,Wy.fin_i,Wy.fin_k,show (Int.ofNat a.length==(0:Int))=(a.length==0) from zqz a.length 0]
   cases zbA m a <;>simp
  ·intro d m a h hd hm hd2 hs
   rw [zzm]
   unfold ziT zkV
   rw [Wy.fin_bn,h1 d m a.Ann h (by omega) hm (by omega) hs]
   simp only [cond_true,Wy.fin_i,Wy.fin_k,show (Int.ofNat a.Ann.length==(0:Int))=(a.Ann.length==0) from zqz a.Ann.length 0]
   cases zbA m a.Ann <;>simp
  ·intro d m l hl h hd hm hd2
   rw [zkN,zZB]
   exact zJw _ _ _ _ _ (by omega) (fun x hx=>h3 d m x (h x hx).1 (by omega) hm hd2 (h x hx).2) (by omega)
  ·intro d m l hl h hd hm hd2
   rw [zj2]
   unfold zbZ zcT
   rw [zmB (h5 d m l hl h (by omega) hm hd2)]
   simp [znk,List.all_eq_not_any_not]
  ·intro d m l hl h hd hm hd2
   rw [zl2,zZK]
   exact zJw _ _ _ _ _ (by omega) (fun x hx=>h4 d m x (h x hx).1 (by omega) hm hd2 (h x hx).2) (by omega)
  ·intro d m l hl h hd hm hd2
   rw [zkS]
   unfold zcj zdg
   rw [zmB (h7 d m l hl h (by omega) hm hd2)]
   simp [zwh,List.all_eq_not_any_not]
theorem zTF {a:List Term} (h:zmy a=true) {t:Term} (ht:t∈a) {f:Factor} (hf:f∈t.Factors):f.Atom.Items.length≤1024∧f.Exp≤64∧t.Factors.length≤64:=by
 simp only [zmy,Bool.and_eq_true,List.all_eq_true] at h
 have:=h.2 t ht
 simp only [withF,Bool.not_eq_true',Bool.or_eq_false_iff,decide_eq_false_iff_not,List.any_eq_false] at this
 have h2:=this.2 f hf
 simp at h2
 omega
theorem zOZ:∀ n,
  (∀ d m a,zq d a→3*d≤n→d≤m→d≤100→zP a≤4611686018427387904→zqN n a=(true,zbA m a))∧
  (∀ d m x,zcJ (zq d) x→3*d+2≤n→d≤m→d≤99→zeJ x≤4611686018427387904→x.Items.length≤1024→zoY n x=(true,zdT (zbA m) x))
 | 0=>by
  refine ⟨?_, ?_⟩
  ·intro d m a h hd; have:d=0:=by omega
   subst this; exact h.elim
  ·intros; omega
 | n+1=>by
  obtain ⟨h1,h2⟩:=zOZ n
  refine ⟨?_, ?_⟩
  ·intro d m a h hd hm hd2 hs
   cases d with
   | zero=>exact h.elim
   | succ d=>
    cases m with
    | zero=>omega
    | succ m=>
     rw [zOm]
     exact zT0 _ _ a h (by omega) hs (fun hw t ht f hf=>h2 d m f.Atom ((h.2 t ht).2 f hf) (by omega) (by omega) (by omega) (by
      have:=zQw ht hf; rw [zf8]; omega) (zTF hw ht hf).1) fun x hx=>zxJ hx
  ·intro d m x h hd hm hd2 hs h10
   rw [zJs]
   rw [zf8] at hs
   exact zON _ _ x h hd2 h10 (fun a ha=>zL3 ha) (fun a ha=>h1 d m a (h.2.1 a ha) (by omega) hm (by omega) (by have:=zNq ha; omega))
    fun a ha=>h1 d m a.Ann (h.2.2 a ha).2 (by omega) hm (by omega) (by have:=zK1 ha; omega)
def zbB (a:List Term):Bool:=zbA 100 a
theorem zQ1 {d:Nat} {a:List Term} (h:zq d a) (hd:d≤100) (hs:zP a≤4611686018427387904):zci a=(true,zbB a):=(zGd 1000).1 d 100 a h (by omega) hd hd hs
theorem zPG {d:Nat} {a:List Term} (h:zq d a) (hd:d≤100) (hs:zP a≤4611686018427387904):zeL a=(true,zbB a):=(zOZ 1000).1 d 100 a h (by omega) hd hd hs
theorem zNk {τ:Type} [Inhabited τ] {l:List τ} {x:τ} (h:x∈l):∃ i,i<l.length∧l.getD i default=x:=by
 obtain ⟨i,hi,e⟩:=List.mem_iff_getElem.1 h
 exact ⟨i,hi,by rw [List.getD_eq_getElem?_getD,List.getElem?_eq_getElem hi]; exact e⟩
theorem zAt {vat:Atom→Bool} {a:List Term} (h:vAnn vat a=true):zmy a=true:=by
 simp only [vAnn,Bool.and_eq_true] at h; exact h.1
theorem zqf {vat:Atom→Bool} {a:List Term} (h:vAnn vat a=true) {t:Term} (ht:t∈a):(1≤t.Coeff∧t.Coeff≤1152921504606846976)∧okF vat t.Factors=true:=by
 simp only [vAnn,Bool.and_eq_true] at h
 obtain ⟨i,hi,rfl⟩:=zNk ht
 have:=zea.1 h.2 i (by omega) (by omega)
 simp only [chkT,Bool.and_eq_true,decide_eq_true_eq] at this
 exact ⟨this.1.1,this.2⟩
theorem zme {vat:Atom→Bool} {fs:List Factor} (h:okF vat fs=true) {f:Factor} (hf:f∈fs):(1≤f.Exp∧(f.Atom.Kind=3∨f.Atom.Kind=4→f.Exp=1))∧vat f.Atom=true:=by
 obtain ⟨i,hi,rfl⟩:=zNk hf
 have:=zea.1 h i (by omega) (by omega)
 simp only [chkF,Bool.and_eq_true,decide_eq_true_eq] at this
 refine ⟨⟨this.1.1.1,fun hk=> ?_⟩,this.2⟩
 have h2:=this.1.1.2
 rcases hk with hk | hk
 ·rw [hk] at h2; simpa using h2
 ·rw [hk] at h2; simpa using h2
theorem zYe {b:Value} (h:bz b=true):b=⟨0,0,ByteArray.mk #[]⟩:=by
 unfold bz at h
 rw [zL4] at h
 simp only [Bool.and_eq_true,beq_iff_eq,decide_eq_true_eq,and_true] at h
 obtain ⟨k,i,t⟩:=b
 simp only at h
 obtain ⟨rfl,rfl,rfl⟩:=h
 rfl
theorem zp1 {v:Value} (h:valV v=true):v.Text.size≤255:=by
 simp only [valV,Bool.or_eq_true,Bool.and_eq_true,beq_iff_eq,decide_eq_true_eq] at h
 omega
theorem zJC {x:Atom} (h:plA x=true):x.Func=0∧x.Items=[]∧x.Op=0∧x.Bound=⟨0,0,ByteArray.mk #[]⟩:=by
 simp only [plA,Bool.and_eq_true,beq_iff_eq] at h
 exact ⟨h.1.1.1,List.length_eq_zero_iff.1 h.1.1.2,h.1.2,zYe h.2⟩
theorem zYA {r:RowID} (h:rz r=true):r=⟨0,0⟩:=by
 simp only [rz,Bool.and_eq_true,beq_iff_eq,and_true] at h
 obtain ⟨t,s⟩:=r
 simp only at h
 obtain ⟨rfl,rfl⟩:=h; rfl
inductive VA (V:List Term→Bool):Atom→Prop
 | var (r:RowID) (h:ztR r=true):VA V ⟨0,r,[],0,[],0,⟨0,0,ByteArray.mk #[]⟩⟩
 | mon (a b:List Term) (ha:V a=true) (hb:V b=true) (ha0:a≠[]) (hb0:b≠[]) (h:a≠b):VA V ⟨1,⟨0,0⟩,[a,b],0,[],0,⟨0,0,ByteArray.mk #[]⟩⟩
 | del (a:List Term) (ha:V a=true) (ha0:a≠[]) (h:isC a=false) (h':isU a=false):VA V ⟨2,⟨0,0⟩,[a],0,[],0,⟨0,0,ByteArray.mk #[]⟩⟩
 | abs (a:List Term) (ha:V a=true) (ha0:a≠[]) (h:hasC a=false):VA V ⟨3,⟨0,0⟩,[a],0,[],0,⟨0,0,ByteArray.mk #[]⟩⟩
 | tst (f:Int) (l:List Weighted) (o:Int) (b:Value) (hl:l≠[]) (hi:∀ w∈l,V w.Ann=true∧w.Ann≠[]) (hs:srtW l=true) (hf:fitK f l o b=true):VA V ⟨4,⟨0,0⟩,[],f,l,o,b⟩
theorem zdp {V:List Term→Bool} {x:Atom}:zdT V x=true↔VA V x:=by
 constructor
 ·intro h
  have hk:=zxJ h
  obtain ⟨k,r,l,f,its,o,b⟩:=x
  simp only at hk
  unfold zdT at h
  simp only [Bool.and_eq_true] at h
  obtain ⟨h1,h2⟩:=h
  have ha:∀ a∈l,V a=true∧a≠[]:=fun a ha=>by
   have:=List.all_eq_true.1 h1 a ha
   simp only [Bool.and_eq_true,Bool.not_eq_true',beq_eq_false_iff_ne] at this
   exact ⟨this.1,fun e=>this.2 (by rw [e]; rfl)⟩
  by_cases h0:k=0
  ·subst h0
   simp only [if_true,Bool.and_eq_true,beq_iff_eq] at h2
   obtain ⟨e1,e2,e3,e4⟩:=zJC h2.1.1
   simp only at e1 e2 e3 e4
   subst e1 e2 e3 e4
   obtain rfl:l=[]:=List.length_eq_zero_iff.1 h2.2
   exact .var r h2.1.2
  simp only [h0,if_false,Bool.and_eq_true] at h2
  obtain ⟨hr,h2⟩:=h2
  have hr':=zYA hr
  subst hr'
  by_cases h0':k=1
  ·subst h0'
   simp only [if_true,Bool.and_eq_true] at h2
   obtain ⟨e1,e2,e3,e4⟩:=zJC h2.1
   simp only at e1 e2 e3 e4
   subst e1 e2 e3 e4
   match l,h2.2,ha with
   | [a,b],h3,ha=>exact .mon a b (ha a (by simp)).1 (ha b (by simp)).1 (ha a (by simp)).2 (ha b (by simp)).2 (by simpa [zPi] using h3)
  simp only [h0',if_false] at h2
  by_cases h2':k=2
  ·subst h2'
   simp only [if_true,Bool.and_eq_true] at h2
   obtain ⟨e1,e2,e3,e4⟩:=zJC h2.1
   simp only at e1 e2 e3 e4
   subst e1 e2 e3 e4
   match l,h2.2,ha with
   | [a],h3,ha=>
    simp only [zz1,Bool.and_eq_true,Bool.not_eq_true'] at h3
    exact .del a (ha a (by simp)).1 (ha a (by simp)).2 h3.1 h3.2
  simp only [h2',if_false] at h2
  by_cases h3':k=3
  ·subst h3'
   simp only [if_true,Bool.and_eq_true] at h2
   obtain ⟨e1,e2,e3,e4⟩:=zJC h2.1
   simp only at e1 e2 e3 e4
   subst e1 e2 e3 e4
   match l,h2.2,ha with
   | [a],h3,ha=>
    simp only [zz1,Bool.not_eq_true'] at h3
    exact .abs a (ha a (by simp)).1 (ha a (by simp)).2 h3
  simp only [h3',if_false] at h2
  have h4':k=4:=by omega
  subst h4'
  simp only [if_true,Bool.and_eq_true,beq_iff_eq,decide_eq_true_eq] at h2
  obtain ⟨⟨⟨⟨h3,h4⟩,h5⟩,h6⟩,h7⟩:=h2
  obtain rfl:l=[]:=List.length_eq_zero_iff.1 h3
  exact .tst f its o b (fun e=>by rw [e] at h4; simp at h4) (fun w hw=>by
   have:=List.all_eq_true.1 h5 w hw
   simp only [Bool.and_eq_true,Bool.not_eq_true',beq_eq_false_iff_ne] at this
   exact ⟨this.1,fun e=>this.2 (by rw [e]; rfl)⟩) h6 h7
 ·intro h
  have ne:∀ a:List Term,a≠[]→(a.length==0)=false:=fun a ha=>by
   rw [beq_eq_false_iff_ne]; exact fun e=>ha (List.length_eq_zero_iff.1 e)
  cases h with
  | var r h=>simp [zdT,znk,plA,bz,h]
  | mon a b ha hb ha0 hb0 h=>simp [zdT,znk,plA,bz,rz,zPi,ha,hb,ha0,hb0,h]
  | del a ha ha0 h h'=>simp [zdT,znk,plA,bz,rz,zz1,ha,ha0,h,h']
  | abs a ha ha0 h=>simp [zdT,znk,plA,bz,rz,zz1,ha,ha0,h]
  | tst f l o b hl hi hs hf=>
   have h1:zwh V l=true:=List.all_eq_true.2 fun w hw=>by rw [(hi w hw).1,ne _ (hi w hw).2]; rfl
   have h2:0<l.length:=by
    cases l with
    | nil=>exact absurd rfl hl
    | cons x r=>simp
   simp [zdT,znk,rz,h1,hs,hf,h2]
theorem ztN {a:List Term} (h:zmy a=true):a.length≤512∧zbt a≤8∧zP a≤4096∧∀ t∈a,t.Factors.length≤64∧∀ f∈t.Factors,f.Exp≤64∧f.Atom.Items.length≤1024:=by
 simp only [zmy,Bool.and_eq_true,List.all_eq_true,decide_eq_true_eq] at h
 refine ⟨h.1.1.1,h.1.1.2,h.1.2,fun t ht=> ?_⟩
 have:=h.2 t ht
 simp only [withF,Bool.not_eq_true',Bool.or_eq_false_iff,decide_eq_false_iff_not,List.any_eq_false] at this
 refine ⟨by omega,fun f hf=> ?_⟩
 have h2:=this.2 f hf
 simp at h2
 omega
theorem zU5 {a:List Term} {t:Term} (h:t∈a):zd1 t.Factors≤zbt a:=by
 induction a with
 | nil=>cases h
 | cons b r ih=>
  rw [zGL]
  rcases List.mem_cons.1 h with rfl | h
  ·omega
  ·have:=ih h; omega
theorem zQB {l:List Factor} {f:Factor} (h:f∈l):zmK f.Atom≤zd1 l:=by
 induction l with
 | nil=>cases h
 | cons b r ih=>
  rw [zxR]
  rcases List.mem_cons.1 h with rfl | h
  ·omega
  ·have:=ih h; omega
theorem zGJ {l:List (List Term)} {a:List Term} (h:a∈l):zbt a≤zkC l:=by
 induction l with
 | nil=>cases h
 | cons b r ih=>
  rw [zxm]
  rcases List.mem_cons.1 h with rfl | h
  ·omega
  ·have:=ih h; omega
theorem zR9 {l:List Weighted} {w:Weighted} (h:w∈l):zbt w.Ann≤zjD l:=by
 induction l with
 | nil=>cases h
 | cons b r ih=>
  rw [zvH]
  rcases List.mem_cons.1 h with rfl | h
  ·omega
  ·have:=ih h; omega
theorem zob {f:Int} {l:List Weighted} {o:Int} {b:Value} (h:fitK f l o b=true):(0≤f∧f≤3∧5≤o∧o≤10)∧valV b=true∧∀ w∈l,valV w.Value=true∧w.Value.Kind=b.Kind:=by
 simp only [fitK,Bool.and_eq_true,List.all_eq_true,decide_eq_true_eq] at h
 obtain ⟨⟨⟨⟨⟨⟨h1,h2⟩,h3⟩,h4⟩,h5⟩,h6⟩,h7⟩:=h
 refine ⟨⟨h1,h2,h3,h4⟩,h5,fun w hw=> ?_⟩
 have:=h7 w hw
 simp only [fitI,Bool.and_eq_true,beq_iff_eq] at this
 exact this.1
theorem zPm:∀ (m:Nat) (a:List Term),zbA m a=true→zq (zbt a+1) a
 | 0,a,h=>by cases h
 | m+1,a,h=>by
  have hw:=ztN (zAt h)
  refine ⟨by omega,fun t ht=> ?_⟩
  obtain ⟨_,hok⟩:=zqf h ht
  obtain ⟨h1,h2⟩:=hw.2.2.2 t ht
  refine ⟨by omega,fun f hf=> ?_⟩
  have hv:=zdp.1 (zme hok hf).2
  have hn:zmK f.Atom≤zbt a:=Nat.le_trans (zQB hf) (zU5 ht)
  have h3:=(h2 f hf).2
  generalize f.Atom=x at hv hn h3
  rw [zwU] at hn
  have ih:∀ b,zbA m b=true→zbt b+1≤zbt a→zq (zbt a) b:=fun b hb hl=>(zPm m b hb).mono hl
  cases hv with
  | var r h=>exact ⟨⟨by simp,by simp,by show (ByteArray.mk #[]).size≤_; decide⟩,fun a ha=>(by cases ha),fun w hw=>(by cases hw)⟩
  | mon b c hb hc _ _ _=>
   simp only at hn
   refine ⟨⟨by simp,by simp,by show (ByteArray.mk #[]).size≤_; decide⟩,fun y hy=> ?_,fun w hw=>(by cases hw)⟩
   have:=zGJ hy
   simp only at this
   simp only [List.mem_cons,List.not_mem_nil,or_false] at hy
   rcases hy with rfl | rfl
   ·exact ih _ hb (by simp at hn; omega)
   ·exact ih _ hc (by simp at hn; omega)
  | del b hb _ _ _=>
   refine ⟨⟨by simp,by simp,by show (ByteArray.mk #[]).size≤_; decide⟩,fun y hy=> ?_,fun w hw=>(by cases hw)⟩
   have:=zGJ hy
   simp only at this
   simp only [List.mem_cons,List.not_mem_nil,or_false] at hy
   subst hy
   exact ih _ hb (by simp at hn; omega)
  | abs b hb _ _=>
   refine ⟨⟨by simp,by simp,by show (ByteArray.mk #[]).size≤_; decide⟩,fun y hy=> ?_,fun w hw=>(by cases hw)⟩
   have:=zGJ hy
   simp only at this
   simp only [List.mem_cons,List.not_mem_nil,or_false] at hy
   subst hy
   exact ih _ hb (by simp at hn; omega)
  | tst fn l o b hl hi hs hf=>
   obtain ⟨_,hb,hit⟩:=zob hf
   refine ⟨⟨by simp,by simp only at h3 ⊢; omega,by have:=zp1 hb; simp only; omega⟩,fun y hy=>(by cases hy),fun w hw=>⟨by have:=zp1 (hit w hw).1; omega, ?_⟩⟩
   have:=zR9 hw
   simp only at this
   exact ih _ (hi w hw).1 (by simp at hn; omega)
theorem zeH {m:Nat} {a:List Term} (h:zbA m a=true):zq 9 a∧zP a≤4096∧a.length≤512:=by
 cases m with
 | zero=>cases h
 | succ m=>
 have hw:=ztN (zAt h)
 exact ⟨(zPm _ a h).mono (by omega),hw.2.2.1,hw.1⟩
theorem zRz {d m m':Nat} {a:List Term} (h:zq d a) (hd:d≤100) (h1:d≤m) (h2:d≤m') (hs:zP a≤4611686018427387904):zbA m a=zbA m' a:=by
 have e1:=(zGd 1000).1 d m a h (by omega) h1 hd hs
 have e2:=(zGd 1000).1 d m' a h (by omega) h2 hd hs
 rw [e1] at e2
 exact (Prod.mk.injEq _ _ _ _ ▸ e2).2
theorem zSd {m:Nat} {a:List Term} (h:zbA m a=true) (hm:9≤m):zbB a=true:=by
 obtain ⟨h1,h2,h3⟩:=zeH h
 rw [← h]; exact zRz h1 (by omega) (by omega) hm (by omega)
theorem zJt {m:Nat} {a:List Term} (h:zbB a=true) (hm:9≤m):zbA m a=true:=by
 obtain ⟨h1,h2,h3⟩:=zeH h
 rw [← h]; exact zRz h1 (by omega) hm (by omega) (by omega)
theorem VA.imp {V V':List Term→Bool} (hV:∀ a,V a=true→V' a=true) {x:Atom} (h:VA V x):VA V' x:=by
 cases h with
 | var r h=>exact .var r h
 | mon a b ha hb ha0 hb0 h=>exact .mon a b (hV a ha) (hV b hb) ha0 hb0 h
 | del a ha ha0 h h'=>exact .del a (hV a ha) ha0 h h'
 | abs a ha ha0 h=>exact .abs a (hV a ha) ha0 h
 | tst f l o b hl hi hs hf=>exact .tst f l o b hl (fun w hw=>⟨hV _ (hi w hw).1,(hi w hw).2⟩) hs hf
def vatA (x:Atom):Bool:=zdT zbB x
theorem zWk {m:Nat} (hm:9≤m):zdT (zbA m)=vatA:=by
 funext x
 rw [Bool.eq_iff_iff]
 unfold vatA
 rw [zdp,zdp]
 exact ⟨VA.imp fun a h=>zSd h hm,VA.imp fun a h=>zJt h hm⟩
theorem zVj (a:List Term):zbB a=vAnn vatA a:=by
 show vAnn (zdT (zbA 99)) a=_
 rw [zWk (by omega)]
theorem zOe {τ:Type} [Inhabited τ] {l:List τ} {i:Nat} (h:i<l.length):l.set i (l.getD i default)=l:=by
 rw [List.getD_eq_getElem?_getD,List.getElem?_eq_getElem h]; simp
section
variable (g:List Term→Bool×List Term) (gx:Atom→Bool×Atom)
theorem cp_7 (t8:List Term) (t9 t10:Int) (out:List Term) (t:Term) (l:List Factor) (hl:l.length≤1000000) (hg:∀ f∈l,gx f.Atom=(true,f.Atom)) (n:Nat) (hn:l.length<n):
  zvi gx n t8 t9 t10 l.length 0 out t l=(true,(t8,t9,t10,out,t,l)):=by
 have:=zdt (W:=zkI gx) (z:=default) l.length (fun i=>((),(),(),t8,t9,t10,(l.length:Int),(i:Int),())) (fun _=>(out,t,l,())) (fun _=>true) default (t8,t9,t10,out,t,l)
  (fun i hi H K D=>by
   show (zik gx t8 t9 t10 l.length i out t l).ev H K D=_
   unfold zik
   simp only [Atom.eta,Wy.ev_i,Wy.ev_k,Wy.ev_h,Wy.ev_bn,Wy.ev_d,tT,hi,hg _ (zx hi)]
   rw [zT (by omega)]
   have:(l.set i (⟨(l.getD i default).Atom,(l.getD i default).Exp⟩:Factor))=l:=zOe hi
   rw [this])
  (fun H K D=>by
   show (zik gx t8 t9 t10 l.length l.length out t l).ev H K D=_
   unfold zik
   simp only [Wy.ev_i,Wy.ev_k,tT,Nat.lt_irrefl]) n hn
 rw [show allN (fun _=>true) l.length 0=true from zea.2 fun _ _ _=>rfl] at this
 exact this
theorem cp_3 (a:List Term) (hl:a.length≤1000000) (hg:∀ t∈a,t.Factors.length≤1000000∧∀ f∈t.Factors,gx f.Atom=(true,f.Atom)) (n:Nat) (hn:a.length<n):
  zvt gx n a a.length 0 []=(true,a):=by
 have hreach:zQ=70368744177664:=rfl
 have:=zdt (W:=zkF gx) (z:=default) a.length (fun i=>((),a,(a.length:Int),(i:Int),())) (fun i=>(a.take i,())) (fun _=>true) default a
  (fun i hi H K D=>by
   show (zie gx a a.length i (a.take i)).ev H K D=_
   unfold zie zeo
   obtain ⟨h1,h2⟩:=hg _ (zx hi)
   have hb:decide ((a.getD i default).Factors.length*128≤zQ)=true:=by simp only [decide_eq_true_eq]; omega
   simp only [Wy.ev_i,Wy.ev_k,Wy.ev_h,Wy.ev_bn,Wy.ev_d,tT,hi,hb]
   rw [cp_7 gx a a.length i (a.take i) _ _ h1 h2 _ (by omega)]
   have hb2:decide (((a.take i).length+1)*32≤zQ)=true:=by simp only [decide_eq_true_eq,List.length_take]; omega
   simp only [cond_true,List.length_singleton,hb2]
   rw [zT (by omega),ziM hi])
  (fun H K D=>by
   show (zie gx a a.length a.length (a.take a.length)).ev H K D=_
   unfold zie
   simp only [Wy.ev_i,Wy.ev_k,tT,Nat.lt_irrefl,List.take_length]) n hn
 rw [show allN (fun _=>true) a.length 0=true from zea.2 fun _ _ _=>rfl] at this
 exact this
end
def txV (v:Value):List UInt8:=if v.Kind=0 then zhw v.Int else if v.Kind=1 then 39::(v.Text.data.toList.flatMap esc++[39]) else if v.Int=1 then [84,82,85,69] else [70,65,76,83,69]
def txR (r:RowID):List UInt8:=116::(zhw r.Table++46::zhw r.Seq)
def fnT (f:Int):List UInt8:=if f=0 then [67,79,85,78,84] else if f=1 then [83,85,77] else if f=2 then [77,73,78] else [77,65,88]
def opT (o:Int):List UInt8:=if o=5 then [61] else if o=6 then [60,62] else if o=7 then [60] else if o=8 then [60,61] else if o=9 then [62] else [62,61]
def zJm (ts:List (List UInt8)):List UInt8:=if ts=[] then [48] else zd9 ts [32,43,32]
def zMw (c:Int) (fs:List (List UInt8)):List UInt8:=if fs=[] then zhw c else if c=1 then zd9 fs [42] else zhw c++42::zd9 fs [42]
def zFW (x:List UInt8) (e:Int):List UInt8:=if e=1 then x else x++94::zhw e
def zcR (k:Int) (r:RowID) (xs:List (List UInt8)) (f:Int) (is:List (List UInt8)) (o:Int) (b:Value):List UInt8:=
 if k=0 then txR r
 else if k=1 then [109,111,110,117,115,91]++(xs.getD 0 []++([44,32]++(xs.getD 1 []++[93])))
 else if k=2 then [100,101,108,116,97,91]++(xs.getD 0 []++[93])
 else if k=3 then [97,98,115,101,110,116,91]++(xs.getD 0 []++[93])
 else [116,101,115,116,91]++(fnT f++([123]++(zd9 is [59,32]++([125,32]++(opT o++([32]++(txV b++[93])))))))
mutual
def txA:Atom→List UInt8
 | ⟨k,r,a,f,i,o,b⟩=>zcR k r (txAs a) f (txIs i) o b
def txFs:List Factor→List (List UInt8)
 | []=>[]
 | ⟨x,e⟩::l=>zFW (txA x) e::txFs l
def txTs:List Term→List (List UInt8)
 | []=>[]
 | ⟨c,fs⟩::l=>zMw c (txFs fs)::txTs l
def txAs:List (List Term)→List (List UInt8)
 | []=>[]
 | a::l=>zJm (txTs a)::txAs l
def txIs:List Weighted→List (List UInt8)
 | []=>[]
 | ⟨v,a⟩::l=>(txV v++([58,32]++zJm (txTs a)))::txIs l
end
def txF (f:Factor):List UInt8:=zFW (txA f.Atom) f.Exp
def txT (t:Term):List UInt8:=zMw t.Coeff (txFs t.Factors)
def txN (a:List Term):List UInt8:=zJm (txTs a)
def txI (w:Weighted):List UInt8:=txV w.Value++([58,32]++txN w.Ann)
theorem zs8:∀ l,txFs l=l.map txF
 | []=>by rw [txFs]; rfl
 | x::r=>by rw [txFs,zs8 r]; rfl
theorem zI1:∀ l,txTs l=l.map txT
 | []=>by rw [txTs]; rfl
 | x::r=>by rw [txTs,zI1 r]; rfl
theorem zkz:∀ l,txAs l=l.map txN
 | []=>by rw [txAs]; rfl
 | x::r=>by rw [txAs,zkz r]; rfl
theorem zEM:∀ l,txIs l=l.map txI
 | []=>by rw [txIs]; rfl
 | x::r=>by rw [txIs,zEM r]; rfl
theorem zZa (x:Atom):txA x=zcR x.Kind x.Row (txAs x.Args) x.Func (txIs x.Items) x.Op x.Bound:=by cases x; rw [txA]
def txL (l:List Factor):List UInt8:=zd9 (txFs l) [42]
theorem zHN {v:Value} (h:valV v=true):(txV v).length≤512:=by
 have ht:=zp1 h
 unfold txV
 have h1:=zmF v.Int
 have h2:=zP2 v.Text.data.toList
 have h3:v.Text.data.toList.length=v.Text.size:=by rw [Array.length_toList]; rfl
 split
 ·omega
 ·split
  ·simp only [List.length_cons,List.length_append,List.length_nil]; omega
  ·split <;>simp
theorem zXX (r:RowID):(txR r).length≤44:=by
 have h1:=zmF r.Table
 have h2:=zmF r.Seq
 simp only [txR,List.length_cons,List.length_append]; omega
theorem zUp (f:Int):(fnT f).length≤5:=by unfold fnT; (repeat' split) <;>simp
theorem zUH (f:Int):(opT f).length≤2:=by unfold opT; (repeat' split) <;>simp
theorem zJn {α:Type} (t:α→List UInt8) (m:α→Nat) (s:List UInt8):∀ l:List α,(∀ x∈l,(t x).length+s.length≤m x)→(zd9 (l.map t) s).length≤(l.map m).sum
 | [],_=>by simp [zd9]
 | [x],h=>by
  have:=h x (by simp)
  simp only [List.map,zd9,List.sum_cons,List.sum_nil]; omega
 | x::y::r,h=>by
  have h1:=h x (by simp)
  have h2:=zJn t m s (y::r) fun z hz=>h z (List.mem_cons_of_mem _ hz)
  simp only [List.map,zd9,List.length_append,List.sum_cons] at h2 ⊢
  omega
theorem zNH:∀ l:List Factor,(l.map fun f=>1000+1000*zeJ f.Atom).sum=1000*(l.length+zbM l)
 | []=>by rw [zpN]; rfl
 | f::r=>by rw [List.map_cons,List.sum_cons,zNH r,zeO,List.length_cons]; omega
theorem zRj:∀ l:List Term,(l.map fun t=>1000+1000*(t.Factors.length+zbM t.Factors)).sum=1000*zP l
 | []=>by rw [zxL]; rfl
 | f::r=>by rw [List.map_cons,List.sum_cons,zRj r,zi9]; omega
theorem zQQ:∀ l:List Weighted,(l.map fun t=>1000+1000*zP t.Ann).sum=1000*zcI l
 | []=>by rw [zeF]; rfl
 | f::r=>by rw [List.map_cons,List.sum_cons,zQQ r,zg7]; omega
theorem zYo {x:Atom} {e:Int} (h:(txA x).length≤700+1000*zeJ x):(zFW (txA x) e).length+1≤1000+1000*zeJ x:=by
 have:=zmF e
 unfold zFW
 split
 ·omega
 ·simp only [List.length_append,List.length_cons]; omega
theorem zSu {l:List Factor} (h:∀ f∈l,(txA f.Atom).length≤700+1000*zeJ f.Atom):(txL l).length≤1000*(l.length+zbM l):=by
 unfold txL
 rw [zs8, ← zNH]
 exact zJn txF (fun f=>1000+1000*zeJ f.Atom) [42] l fun f hf=>zYo (h f hf)
theorem zMI:∀ (m:Nat),(∀ a,zbA m a=true→(txN a).length≤1+1000*zP a)∧(∀ x,zdT (zbA m) x=true→(txA x).length≤700+1000*zeJ x)
 | m=>by
  have hA:∀ (V:List Term→Bool),(∀ a,V a=true→(txN a).length≤1+1000*zP a)→∀ x,zdT V x=true→(txA x).length≤700+1000*zeJ x:=by
   intro V hV x hx
   rw [zf8]
   cases zdp.1 hx with
   | var r h=>
    rw [txA]; have:=zXX r
    simp only [zcR,if_true]; omega
   | mon a b ha hb _ _ _=>
    have h1:=hV a ha; have h2:=hV b hb
    rw [txA,zkz]
    simp only [zcR,zef,zfx,zeF,List.map,List.getD_cons_zero,List.getD_cons_succ,List.length_append,List.length_cons,List.length_nil]
    simp only [show ¬ (1:Int)=0 by decide,if_false,if_true,List.length_append,List.length_cons,List.length_nil]
    omega
   | del a ha _ _ _=>
    have h1:=hV a ha
    rw [txA,zkz]
    simp only [zcR,zef,zfx,zeF,List.map,List.getD_cons_zero]
    simp only [show ¬ (2:Int)=0 by decide,show ¬ (2:Int)=1 by decide,if_false,if_true,List.length_append,List.length_cons,List.length_nil]
    omega
   | abs a ha _ _=>
    have h1:=hV a ha
    rw [txA,zkz]
    simp only [zcR,zef,zfx,zeF,List.map,List.getD_cons_zero]
    simp only [show ¬ (3:Int)=0 by decide,show ¬ (3:Int)=1 by decide,show ¬ (3:Int)=2 by decide,if_false,if_true,List.length_append,List.length_cons,List.length_nil]
    omega
   | tst f l o b hl hi hs hf=>
    obtain ⟨_,hb,hit⟩:=zob hf
    have h1:=zUp f; have h2:=zUH o; have h3:=zHN hb
    have h4:(zd9 (l.map txI) [59,32]).length≤1000*zcI l:=by
     rw [← zQQ]
     refine zJn txI (fun w=>1000+1000*zP w.Ann) [59,32] l fun w hw=> ?_
     have h5:=hV _ (hi w hw).1; have h6:=zHN (hit w hw).1
     simp only [txI,List.length_append,List.length_cons,List.length_nil]; omega
    rw [txA,zEM]
    simp only [zcR,zfx]
    simp only [show ¬ (4:Int)=0 by decide,show ¬ (4:Int)=1 by decide,show ¬ (4:Int)=2 by decide,show ¬ (4:Int)=3 by decide,if_false,List.length_append,List.length_cons,List.length_nil]
    omega
  have hN:∀ a,zbA m a=true→(txN a).length≤1+1000*zP a:=by
   induction m with
   | zero=>intro a h; cases h
   | succ m ih=>
    intro a h
    unfold txN zJm
    split
    ·simp
    ·rw [zI1, ← zRj]
     refine Nat.le_trans (zJn txT (fun t=>1000+1000*(t.Factors.length+zbM t.Factors)) [32,43,32] a fun t ht=> ?_) (Nat.le_add_left _ _)
     have hok:=(zqf h ht).2
     have h5:=zSu (l:=t.Factors) fun f hf=>hA _ ih _ (zme hok hf).2
     have h6:=zmF t.Coeff
     have e:(zd9 (txFs t.Factors) [42]).length=(txL t.Factors).length:=rfl
     unfold txT zMw
     simp only [List.length_cons,List.length_nil]
     split
     ·omega
     ·split
      ·omega
      ·simp only [List.length_append,List.length_cons]; omega
  exact ⟨hN,hA _ hN⟩
theorem zkv {n:Int} (h:wf3 n): -9223372036854775808≤n∧n≤9223372036854775807:=by
 have h:(Lit.int .i64 n).wf=true:=h
 have:IntKind.i64.min≤n∧n≤IntKind.i64.max:=by simpa [Lit.wf] using h
 exact ⟨this.1,this.2⟩
def rng (n:Int):Prop:= -9223372036854775808≤n∧n≤9223372036854775807
instance (n:Int):Decidable (rng n):=by unfold rng; infer_instance
theorem zN8 {n:Int} (h:rng n):strconv_Itoa n=(true,bs (zhw n)):=by
 unfold strconv_Itoa zJd zFH
 rw [decide_eq_true h.1,decide_eq_true h.2]; rfl
theorem zUg {n:Int} (h:rng n):zhU n 10=(true,bs (zhw n)):=by
 unfold zhU zqu zFH
 rw [decide_eq_true h.1,decide_eq_true h.2]; rfl
theorem okS (n m:Nat) (h:n+m≤9223372036854775807):decide (n+m≤9223372036854775807)=true:=decide_eq_true h
theorem zWT {r:RowID} (h:ztR r=true) (h1:rng r.Table) (h2:rng r.Seq):zrc r=(true,bs (txR r)):=by
 unfold zrc zxv txR
 have l1:=zmF r.Table
 have l2:=zmF r.Seq
 rw [show ByteArray.mk #[(116:UInt8)]=bs [116] from rfl,show ByteArray.mk #[(46:UInt8)]=bs [46] from rfl]
 simp only [Wy.fin_bn,Wy.fin_i,Wy.fin_k,zxD,h,zN8 h1,zN8 h2,cond_true,cond_false,Bool.not_true,zyd,zpH,List.length_append,List.length_cons,List.length_nil]
 rw [okS _ _ (by omega),okS _ _ (by omega),okS _ _ (by omega)]
 simp
theorem zS5 {v:Value} (h:valV v=true) (hr:rng v.Int):zpq v=(true,bs (txV v)):=by
 unfold zpq zzu txV strings_ReplaceAll
 have ht:=zp1 h
 rw [show ByteArray.mk #[(39:UInt8)]=bs [39] from rfl,show ByteArray.mk #[(39:UInt8),(39:UInt8)]=bs [39,39] from rfl]
 simp only [Wy.fin_bn,Wy.fin_i,Wy.fin_k,zzS,h,zUg hr,zQo _ ht,cond_true,cond_false,Bool.not_true,zyd,zpH,List.length_append,List.length_cons,List.length_nil]
 have h2:=zP2 v.Text.data.toList
 have h3:v.Text.data.toList.length=v.Text.size:=by rw [Array.length_toList]; rfl
 rw [okS _ _ (by omega),okS _ _ (by omega)]
 by_cases k0:v.Kind=0
 ·simp [k0]
 by_cases k1:v.Kind=1
 ·simp [k1]
 simp only [beqd,k0,k1,decide_false,cond_false,if_false]
 by_cases i1:v.Int=1
 ·simp only [i1,decide_true,cond_true,if_true]; rfl
 ·simp only [i1,decide_false,cond_false,if_false]; rfl
theorem zXT {f:Int} (h0:0≤f) (h3:f≤3):(decide ((0:Int)≤f)&&decide (f<Int.ofNat zbP.snd.length))=true∧zbP.snd.getD f.toNat default=bs (fnT f):=by
 have hc:f=0∨f=1∨f=2∨f=3:=by omega
 rcases hc with rfl | rfl | rfl | rfl <;>exact ⟨rfl,rfl⟩
theorem zXR {o:Int} (h0:5≤o) (h3:o≤10):(decide ((0:Int)≤IntKind.i64.wrap (o - 5))&&decide (IntKind.i64.wrap (o - 5)<Int.ofNat zc3.snd.length))=true∧zc3.snd.getD (IntKind.i64.wrap (o - 5)).toNat default=bs (opT o):=by
 have hc:o=5∨o=6∨o=7∨o=8∨o=9∨o=10:=by omega
 rcases hc with rfl | rfl | rfl | rfl | rfl | rfl <;>exact ⟨rfl,rfl⟩
theorem zNP {m:Nat} {x:Atom} (h:zdT (zbA m) x=true) (hi:x.Items.length≤1024):zeJ x≤4195328:=by
 rw [zf8]
 cases zdp.1 h with
 | var r h=>rw [zfx,zeF]; omega
 | mon a b ha hb _ _ _=>
  have h1:=(zeH ha).2.1; have h2:=(zeH hb).2.1
  simp only [zef,zfx,zeF]; omega
 | del a ha _ _ _=>
  have h1:=(zeH ha).2.1
  simp only [zef,zfx,zeF]; omega
 | abs a ha _ _=>
  have h1:=(zeH ha).2.1
  simp only [zef,zfx,zeF]; omega
 | tst f l o b hl hv hs hf=>
  have h1:∀ l:List Weighted,(∀ w∈l,zP w.Ann≤4096)→zcI l≤l.length*4097:=fun l=>by
   induction l with
   | nil=>intro _; rw [zeF]; omega
   | cons w r ih=>
    intro h
    have:=h w (by simp)
    have:=ih fun w hw=>h w (by simp [hw])
    rw [zg7,List.length_cons,Nat.add_mul]; omega
  have:=h1 l fun w hw=>(zeH (hv w hw).1).2.1
  have:=Nat.mul_le_mul hi (Nat.le_refl 4097)
  simp only [zfx] at this ⊢; omega
section
variable (gA:Atom→Bool×ByteArray) (gF:List Factor→Bool×ByteArray) (gT:List Term→Bool×ByteArray)
theorem zY9 (l:List Factor) (hl:l.length≤1000) (hg:∀ f∈l,gA f.Atom=(true,bs (txA f.Atom))∧(txA f.Atom).length≤4200000000∧rng f.Exp):zfk gA l=(true,bs (txL l)):=by
 have hreach:zQ=70368744177664:=rfl
 unfold zfk zkB
 have:=zdt (W:=zgB gA) (z:=default) l.length (fun i=>((),l,(l.length:Int),(i:Int),())) (fun i=>((l.take i).map fun f=>bs (txF f),())) (fun _=>true) default (l.map fun f=>bs (txF f))
  (fun i hi H K D=>by
   show (zer gA l l.length i ((l.take i).map fun f=>bs (txF f))).ev H K D=_
   unfold zer
   obtain ⟨h1,h2,h3⟩:=hg _ (zx hi)
   have l1:=zmF (l.getD i default).Exp
   rw [show ByteArray.mk #[(94:UInt8)]=bs [94] from rfl]
   simp only [Atom.eta,Wy.ev_i,Wy.ev_k,Wy.ev_h,Wy.ev_bn,Wy.ev_d,tT,hi,h1,zN8 h3,zyd,zpH,List.length_append,List.length_cons,List.length_nil]
   rw [okS _ _ (by omega),okS _ _ (by omega),zT (by omega),ziM hi,List.map_append]
   have hb:decide ((((l.take i).map fun f=>bs (txF f)).length+1)*16≤zQ)=true:=by simp only [decide_eq_true_eq,List.length_map,List.length_take]; omega
   generalize ((l.take i).map fun f=>bs (txF f))=out at hb ⊢
   have hb':decide ((out.length+(0+1))*16≤zQ)=true:=hb
   simp only [hb,hb',cond_true,List.map_cons,List.map_nil,txF,zFW,bne0]
   by_cases he:(l.getD i default).Exp=1
   ·simp only [he,decide_true,Bool.not_true,cond_false,if_true]
   ·simp only [he,decide_false,Bool.not_false,cond_true,if_false,List.singleton_append])
  (fun H K D=>by
   show (zer gA l l.length l.length ((l.take l.length).map fun f=>bs (txF f))).ev H K D=_
   unfold zer
   simp only [Wy.ev_i,Wy.ev_k,tT,Nat.lt_irrefl,List.take_length]) (l.length+(Int.ofNat l.length).toNat +Int.toNat (0:Int)+(0:Nat)+(1:Nat)) (by omega)
 rw [show allN (fun _=>true) l.length 0=true from zea.2 fun _ _ _=>rfl] at this
 have e:zoT gA (l.length+(Int.ofNat l.length).toNat +Int.toNat (0:Int)+(0:Nat)+(1:Nat)) l (Int.ofNat l.length) (0:Int) []=(true,(l.map txF).map bs):=by rw [List.map_map]; exact this
 have hlen:(zd9 (l.map txF) [42]).length≤140737488355328:=by
  refine Nat.le_trans (zLx (B:=4200001000) (l.map txF) [42] fun x hx=> ?_) (by
   rw [List.length_map]; have:=Nat.mul_le_mul hl (Nat.le_refl 4200001000); omega)
  obtain ⟨f,hf,rfl⟩:=List.mem_map.1 hx
  have:=(hg f hf).2.1
  have:=zmF f.Exp
  unfold txF zFW
  split
  ·simp only [List.length_cons,List.length_nil]; omega
  ·simp only [List.length_append,List.length_cons,List.length_nil]; omega
 rw [Wy.fin_bn,e,show ByteArray.mk #[(42:UInt8)]=bs [42] from rfl]
 unfold strings_Join
 simp only [cond_true,Wy.fin_bn,Wy.fin_k,zOp _ _ (by rw [List.length_map]; omega) hlen]
 unfold txL
 rw [zs8]
theorem zZg (a:List Term) (hl:a.length≤1000) (hlen:(txN a).length≤140737488355328) (hg:∀ t∈a,gF t.Factors=(true,bs (txL t.Factors))∧(txL t.Factors).length≤4200000000∧rng t.Coeff):zl4 gF a=(true,bs (txN a)):=by
 have hreach:zQ=70368744177664:=rfl
 unfold zl4 zrs
 by_cases h0:a=[]
 ·subst h0
  have e:txN []=[48]:=by unfold txN; rw [txTs]; rfl
  rw [e]; rfl
 have hne:(Int.ofNat a.length==(0:Int))=false:=by
  rw [beq_eq_false_iff_ne]; intro e
  have:(a.length:Int)=0:=e
  exact h0 (List.length_eq_zero_iff.1 (by omega))
 have:=zdt (W:=zmo gF) (z:=default) a.length (fun i=>((),a,(a.length:Int),(i:Int),())) (fun i=>((a.take i).map fun f=>bs (txT f),())) (fun _=>true) default (a.map fun f=>bs (txT f))
  (fun i hi H K D=>by
   show (zjF gF a a.length i ((a.take i).map fun f=>bs (txT f))).ev H K D=_
   unfold zjF
   obtain ⟨h1,h2,h3⟩:=hg _ (zx hi)
   have l1:=zmF (a.getD i default).Coeff
   rw [show ByteArray.mk #[(42:UInt8)]=bs [42] from rfl]
   have hL:decide ((i:Int)<(a.length:Int))=true:=by simp [hi]
   have hL':decide ((i:Int)<Int.ofNat a.length)=true:=hL
   simp only [Wy.ev_i,Wy.ev_k,Wy.ev_h,Wy.ev_bn,Wy.ev_d,hL,hL',zem,Bool.and_self,cond_true,Int.toNat_natCast,h1,zUg h3,zyd,zpH,List.length_append,List.length_cons,List.length_nil,show (Int.ofNat (a.getD i default).Factors.length==(0:Int))=((a.getD i default).Factors.length==0) from zqz _ 0]
   rw [okS _ _ (by omega),okS _ _ (by omega),zT (by omega),ziM hi,List.map_append]
   have hb:decide ((((a.take i).map fun f=>bs (txT f)).length+1)*16≤zQ)=true:=by simp only [decide_eq_true_eq,List.length_map,List.length_take]; omega
   generalize ((a.take i).map fun f=>bs (txT f))=out at hb ⊢
   have hb':decide ((out.length+(0+1))*16≤zQ)=true:=hb
   simp only [hb,hb',cond_true,List.map_cons,List.map_nil,txT,zMw,beqd]
   have e0:(txFs (a.getD i default).Factors=[])↔(a.getD i default).Factors.length=0:=by
    rw [zs8,List.map_eq_nil_iff,List.length_eq_zero_iff]
   by_cases hf:(a.getD i default).Factors.length=0
   ·rw [if_pos (e0.2 hf),hf]; rfl
   ·rw [if_neg (fun e=>hf (e0.1 e)),beqn,decide_eq_false hf]
    by_cases he:(a.getD i default).Coeff=1
    ·simp only [he,decide_true,cond_true,cond_false,if_true,txL]
    ·simp only [he,decide_false,cond_false,if_false,txL,List.append_assoc,List.singleton_append])
  (fun H K D=>by
   show (zjF gF a a.length a.length ((a.take a.length).map fun f=>bs (txT f))).ev H K D=_
   unfold zjF
   simp only [Wy.ev_i,Wy.ev_k,tT,Nat.lt_irrefl,List.take_length]) (a.length+(Int.ofNat a.length).toNat +Int.toNat (0:Int)+(0:Nat)+(1:Nat)) (by omega)
 rw [show allN (fun _=>true) a.length 0=true from zea.2 fun _ _ _=>rfl] at this
 have e:zxE gF (a.length+(Int.ofNat a.length).toNat +Int.toNat (0:Int)+(0:Nat)+(1:Nat)) a (Int.ofNat a.length) (0:Int) []=(true,(a.map txT).map bs):=by rw [List.map_map]; exact this
 have ex:txN a=zd9 (a.map txT) [32,43,32]:=by
  unfold txN zJm
  rw [zI1,if_neg (by simpa using h0)]
 rw [ex] at hlen ⊢
 rw [Wy.fin_i,hne,cond_false,Wy.fin_bn,e,show ByteArray.mk #[(32:UInt8),(43:UInt8),(32:UInt8)]=bs [32,43,32] from rfl]
 unfold strings_Join
 simp only [cond_true,Wy.fin_bn,Wy.fin_k,zOp _ _ (by rw [List.length_map]; omega) hlen]
theorem zY6 {V:List Term→Bool} (x:Atom) (hx:zdT V x=true) (hw:zfr x) (hi:x.Items.length≤1024) (hg:∀ a,(a∈x.Args∨∃ w∈x.Items,a=w.Ann)→gT a=(true,bs (txN a))∧(txN a).length≤4200000000):zhN gT x=(true,bs (txA x)):=by
 have hreach:zQ=70368744177664:=rfl
 have W:=zmf hw
 unfold zhN zmc
 rw [zZa]
 cases zdp.1 hx with
 | var r h=>
  have hr:=W.2.2.2.2.1
  simp only [Wy.fin_bn,Wy.fin_i,Wy.fin_k,zWT h (zkv hr.1) (zkv hr.2)]
  simp [zcR]
 | mon a b ha hb _ _ _=>
  obtain ⟨g1,l1⟩:=hg a (.inl (by simp))
  obtain ⟨g2,l2⟩:=hg b (.inl (by simp))
  rw [zkz]
  simp only [List.map,zcR,List.getD_cons_zero,List.getD_cons_succ,show ¬ (1:Int)=0 by decide,if_false,if_true]
  rw [show ByteArray.mk #[(109:UInt8),(111:UInt8),(110:UInt8),(117:UInt8),(115:UInt8),(91:UInt8)]=bs [109,111,110,117,115,91] from rfl,show ByteArray.mk #[(44:UInt8),(32:UInt8)]=bs [44,32] from rfl,show ByteArray.mk #[(93:UInt8)]=bs [93] from rfl]
  simp only [cond_true,cond_false,Wy.fin_i,Wy.fin_bn,Wy.fin_k,show ((1:Int)==0)=false from rfl,show ((1:Int)==1)=true from rfl,show (decide ((0:Int)≤0)&&decide ((0:Int)<Int.ofNat [a,b].length))=true from rfl,show (decide ((0:Int)≤1)&&decide ((1:Int)<Int.ofNat [a,b].length))=true from rfl,show [a,b].getD (Int.toNat 0) default=a from rfl,show [a,b].getD (Int.toNat 1) default=b from rfl,g1,g2,zyd,zpH,List.length_append,List.length_cons,List.length_nil]
  rw [okS _ _ (by omega),okS _ _ (by omega),okS _ _ (by omega),okS _ _ (by omega)]
  simp
 | del a ha _ _ _=>
  obtain ⟨g1,l1⟩:=hg a (.inl (by simp))
  rw [zkz]
  simp only [List.map,zcR,List.getD_cons_zero,show ¬ (2:Int)=0 by decide,show ¬ (2:Int)=1 by decide,if_false,if_true]
  rw [show ByteArray.mk #[(100:UInt8),(101:UInt8),(108:UInt8),(116:UInt8),(97:UInt8),(91:UInt8)]=bs [100,101,108,116,97,91] from rfl,show ByteArray.mk #[(93:UInt8)]=bs [93] from rfl]
  simp only [cond_true,cond_false,Wy.fin_i,Wy.fin_bn,Wy.fin_k,show ((2:Int)==0)=false from rfl,show ((2:Int)==1)=false from rfl,show ((2:Int)==2)=true from rfl,show (decide ((0:Int)≤0)&&decide ((0:Int)<Int.ofNat [a].length))=true from rfl,show [a].getD (Int.toNat 0) default=a from rfl,g1,zyd,zpH,List.length_append,List.length_cons,List.length_nil]
  rw [okS _ _ (by omega),okS _ _ (by omega)]
  simp
 | abs a ha _ _=>
  obtain ⟨g1,l1⟩:=hg a (.inl (by simp))
  rw [zkz]
  simp only [List.map,zcR,List.getD_cons_zero,show ¬ (3:Int)=0 by decide,show ¬ (3:Int)=1 by decide,show ¬ (3:Int)=2 by decide,if_false,if_true]
  rw [show ByteArray.mk #[(97:UInt8),(98:UInt8),(115:UInt8),(101:UInt8),(110:UInt8),(116:UInt8),(91:UInt8)]=bs [97,98,115,101,110,116,91] from rfl,show ByteArray.mk #[(93:UInt8)]=bs [93] from rfl]
  simp only [cond_true,cond_false,Wy.fin_i,Wy.fin_bn,Wy.fin_k,show ((3:Int)==0)=false from rfl,show ((3:Int)==1)=false from rfl,show ((3:Int)==2)=false from rfl,show ((3:Int)==3)=true from rfl,show (decide ((0:Int)≤0)&&decide ((0:Int)<Int.ofNat [a].length))=true from rfl,show [a].getD (Int.toNat 0) default=a from rfl,g1,zyd,zpH,List.length_append,List.length_cons,List.length_nil]
  rw [okS _ _ (by omega),okS _ _ (by omega)]
  simp
 | tst f l o b hl hv hs hf=>
  obtain ⟨⟨f0,f3,o5,o10⟩,hb,hit⟩:=zob hf
  have hwl:=zg6 W.2.1.1
  have hwb:rng b.Int:=zkv W.2.2.1.2.1
  have:=zdt (W:=zh3 gT) (z:=default) l.length (fun i=>((),(),l,(l.length:Int),(i:Int),())) (fun i=>((⟨4,⟨0,0⟩,[],f,l,o,b⟩:Atom),(l.take i).map fun w=>bs (txI w),())) (fun _=>true) default ((⟨4,⟨0,0⟩,[],f,l,o,b⟩:Atom),l.map fun w=>bs (txI w))
   (fun i hi' H K D=>by
    show (zeV gT l l.length i (⟨4,⟨0,0⟩,[],f,l,o,b⟩:Atom) ((l.take i).map fun w=>bs (txI w))).ev H K D=_
    unfold zeV
    have hm:=zx hi'
    obtain ⟨g1,l1⟩:=hg _ (.inr ⟨_,hm,rfl⟩)
    have l2:=zHN (hit _ hm).1
    rw [show ByteArray.mk #[(58:UInt8),(32:UInt8)]=bs [58,32] from rfl]
    simp only [Wy.ev_i,Wy.ev_k,Wy.ev_h,Wy.ev_bn,Wy.ev_d,tT,hi',zS5 (hit _ hm).1 (zkv (hwl _ hm).1.2.1),g1,zyd,zpH,List.length_append,List.length_cons,List.length_nil]
    rw [okS _ _ (by omega),okS _ _ (by omega),zT (by simp only at hi; omega),ziM hi',List.map_append]
    have hb:decide ((((l.take i).map fun w=>bs (txI w)).length+1)*16≤zQ)=true:=by simp only at hi; simp only [decide_eq_true_eq,List.length_map,List.length_take]; omega
    generalize ((l.take i).map fun w=>bs (txI w))=out at hb ⊢
    have hb':decide ((out.length+(0+1))*16≤zQ)=true:=hb
    simp only [hb,hb',cond_true,List.map_cons,List.map_nil,txI,List.append_assoc])
   (fun H K D=>by
    show (zeV gT l l.length l.length (⟨4,⟨0,0⟩,[],f,l,o,b⟩:Atom) ((l.take l.length).map fun w=>bs (txI w))).ev H K D=_
    unfold zeV
    simp only [Wy.ev_i,Wy.ev_k,tT,Nat.lt_irrefl,List.take_length]) (l.length+(Int.ofNat l.length).toNat +Int.toNat (0:Int)+([]:List (List Term)).length+l.length+(0:Nat)+(1:Nat)) (by omega)
  rw [show allN (fun _=>true) l.length 0=true from zea.2 fun _ _ _=>rfl] at this
  have e:zpW gT (l.length+(Int.ofNat l.length).toNat +Int.toNat (0:Int)+([]:List (List Term)).length+l.length+(0:Nat)+(1:Nat)) l (Int.ofNat l.length) (0:Int) (⟨4,⟨0,0⟩,[],f,l,o,b⟩:Atom) []=(true,((⟨4,⟨0,0⟩,[],f,l,o,b⟩:Atom),(l.map txI).map bs)):=by rw [List.map_map]; exact this
  simp only at hi
  have hlen:(zd9 (l.map txI) [59,32]).length≤5000000000000:=by
   refine Nat.le_trans (zLx (B:=4200001000) (l.map txI) [59,32] fun y hy=> ?_) (by
    rw [List.length_map]; have:=Nat.mul_le_mul hi (Nat.le_refl 4200001000); omega)
   obtain ⟨w,hw,rfl⟩:=List.mem_map.1 hy
   have h1:=(hg _ (.inr ⟨w,hw,rfl⟩)).2
   have h2:=zHN (hit w hw).1
   simp only [txI,List.length_append,List.length_cons,List.length_nil]; omega
  have l3:=zUp f
  have l4:=zUH o
  have l5:=zHN hb
  rw [zEM]
  simp only [zcR,show ¬ (4:Int)=0 by decide,show ¬ (4:Int)=1 by decide,show ¬ (4:Int)=2 by decide,show ¬ (4:Int)=3 by decide,if_false]
  rw [show ByteArray.mk #[(116:UInt8),(101:UInt8),(115:UInt8),(116:UInt8),(91:UInt8)]=bs [116,101,115,116,91] from rfl,show ByteArray.mk #[(123:UInt8)]=bs [123] from rfl,show ByteArray.mk #[(125:UInt8),(32:UInt8)]=bs [125,32] from rfl,show ByteArray.mk #[(59:UInt8),(32:UInt8)]=bs [59,32] from rfl,show ByteArray.mk #[(32:UInt8)]=bs [32] from rfl,show ByteArray.mk #[(93:UInt8)]=bs [93] from rfl]
  simp only [Wy.fin_i,show ((4:Int)==0)=false from rfl,show ((4:Int)==1)=false from rfl,show ((4:Int)==2)=false from rfl,show ((4:Int)==3)=false from rfl,cond_false]
  unfold strings_Join
  obtain ⟨fb,ft⟩:=zXT f0 f3
  obtain ⟨ob,ot⟩:=zXR o5 o10
  rw [e,zMF]
  simp only [Wy.fin_i,Wy.fin_k,Wy.fin_bn,fb,ft,ob,ot,zOp _ _ (show (l.map txI).length≤140737488355328 by rw [List.length_map]; omega) (show (zd9 (l.map txI) [59,32]).length≤140737488355328 by omega),zS5 hb hwb,cond_true,zyd,zpH,List.length_append,List.length_cons,List.length_nil]
  rw [okS _ _ (by omega),okS _ _ (by omega),okS _ _ (by omega),okS _ _ (by omega),okS _ _ (by omega),okS _ _ (by omega),okS _ _ (by omega),okS _ _ (by omega)]
  simp
end
end Go.Proofs.YtnolcogncjijpaaGreatDoor
end
