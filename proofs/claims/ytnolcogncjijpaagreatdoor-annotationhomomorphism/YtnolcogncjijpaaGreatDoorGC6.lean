/- Texts of this claim, joined (the program, its functions in plain words, and what they compute). -/
import Derived.Test.YtnolcogncjijpaaGreatDoorGC1
import Derived.Test.YtnolcogncjijpaaGreatDoorGC4
import Derived.Test.YtnolcogncjijpaaGreatDoorGA2
import Derived.Test.YtnolcogncjijpaaGreatDoorGC5
import Derived.Test.YtnolcogncjijpaaGreatDoorGC2
import Derived.Test.YtnolcogncjijpaaGreatDoorGC3
set_option autoImplicit false
set_option linter.unusedVariables false
set_option linter.unusedSectionVars false
set_option linter.unusedSimpArgs false
set_option maxRecDepth 1000000
set_option maxHeartbeats 0
noncomputable section
namespace Go.Proofs.YtnolcogncjijpaaGreatDoor
open Go Go.Ab
abbrev zzz:=List Term×Int×Int×Unit
abbrev ttTref05Fits1:=Bool⊕(List Term×Int)
abbrev zzT:=List Term×Int×Unit
def zqR (a:List Term) (i:Int) (k:Int):Wy zzz (Unit) ttTref05Fits1:=.i (decide (0≤i)&&decide (i<Int.ofNat a.length)) (.i (decide (k<Int.ofNat (a.getD i.toNat default).Factors.length)) (.i (decide (0≤i)&&decide (i<Int.ofNat a.length)) (.i (decide (0≤k)&&decide (k<Int.ofNat (a.getD i.toNat default).Factors.length)) (.i (decide (((a.getD i.toNat default).Factors.getD k.toNat default).Exp>64)) (.k (.inl false)) (.i (decide (0≤i)&&decide (i<Int.ofNat a.length)) (.i (decide (0≤k)&&decide (k<Int.ofNat (a.getD i.toNat default).Factors.length)) (.i (decide (Int.ofNat ((a.getD i.toNat default).Factors.getD k.toNat default).Atom.Items.length>1024)) (.k (.inl false)) (.h (a,i,(IntKind.i64.wrap (k+1)),()) ())) .d) .d)) .d) .d) (.k (.inr (a,i)))) .d
def zGA (x:zzz) (y:Unit):Wy zzz (Unit) ttTref05Fits1:=zqR x.1 x.2.1 x.2.2.1
def zGF (n:Nat) (a:List Term) (i:Int) (k:Int):Bool×ttTref05Fits1:=zQ (zGA) (.inl default) n (a,i,k,()) ()
def zqF (a:List Term) (i:Int):Wy zzT (Unit) (Bool⊕Unit):=.i (decide (i<Int.ofNat a.length)) (.i (decide (0≤i)&&decide (i<Int.ofNat a.length)) (.i (decide (Int.ofNat (a.getD i.toNat default).Factors.length>64)) (.k (.inl false)) (.bn (zGF ((a.length+i.toNat +Int.toNat 0+1)+szTs a) a i 0) fun r0=>.i (isL r0) (.k (.inl (getL r0))) (.h ((getR r0).1,(IntKind.i64.wrap ((getR r0).2+1)),()) ()))) .d) (.k (.inr ()))
def zGI (x:zzT) (y:Unit):Wy zzT (Unit) (Bool⊕Unit):=zqF x.1 x.2.1
def zGm (n:Nat) (a:List Term) (i:Int):Bool×(Bool⊕Unit):=zQ (zGI) (.inl default) n (a,i,()) ()
def zHL (a:List Term):Wy0 (Bool):=.i (decide (Int.ofNat a.length>512)) (.k false) (.bn (zGp a) fun r4=>.i (decide (r4>8)) (.k false) (.bn (zKU a) fun r3=>.i (decide (r3>4096)) (.k false) (.bn (zGm ((a.length+Int.toNat 0+1)+szTs a) a 0) fun r2=>.i (isL r2) (.k (getL r2)) (.k true))))
def zAZ (a:List Term):Bool×Bool:=(zHL a).fin default
def zGh (v:Value):Wy0 (Bool):=.i (v.Kind==0) (.k (v.Text.toList==(ByteArray.mk #[]).toList)) (.i (v.Kind==1) (.i (v.Int==0) (.k (decide (Int.ofNat v.Text.size≤255))) (.k false)) (.i (v.Kind==2) (.i (v.Text.toList==(ByteArray.mk #[]).toList) (.i (v.Int==0) (.k true) (.k (v.Int==1))) (.k false)) (.k false)))
def zyl (v:Value):Bool×Bool:=(zGh v).fin default
abbrev zx2:=Int×List Weighted×Unit×Int×Unit
def zps (fn:Int) (items:List Weighted) (i:Int) (bound:Value):Wy zx2 (Value×Unit) (Bool⊕Unit):=.i (decide (i<Int.ofNat items.length)) (.i (decide (0≤i)&&decide (i<Int.ofNat items.length)) (.bn (zyl (items.getD i.toNat default).Value) fun r0=>.i (!r0) (.k (.inl false)) (.i ((items.getD i.toNat default).Value.Kind != bound.Kind) (.k (.inl false)) (.i (fn==0) (.i ((items.getD i.toNat default).Value.Int != 1) (.k (.inl false)) (.h (fn,items,(),(IntKind.i64.wrap (i+1)),()) (bound,()))) (.h (fn,items,(),(IntKind.i64.wrap (i+1)),()) (bound,()))))) .d) (.k (.inr ()))
def zE4 (x:zx2) (y:Value×Unit):Wy zx2 (Value×Unit) (Bool⊕Unit):=zps x.1 x.2.1 x.2.2.2.1 y.1
def zxE (n:Nat) (fn:Int) (items:List Weighted) (i:Int) (bound:Value):Bool×(Bool⊕Unit):=zQ (zE4) (.inl default) n (fn,items,(),i,()) (bound,())
def zF5 (fn:Int) (items:List Weighted) (op:Int) (bound:Value):Wy0 (Bool):=.i (decide (fn<0)) (.k false) (.i (decide (fn>3)) (.k false) (.i (decide (op<5)) (.k false) (.i (decide (op>10)) (.k false) (.bn (zyl bound) fun r4=>.i (!r4) (.k false) (.i (decide (fn≤1)) (.i (bound.Kind != 0) (.k false) (.bn (zxE (fn.toNat +items.length+Int.toNat 0+1) fn items 0 bound) fun r2=>.i (isL r2) (.k (getL r2)) (.k true))) (.bn (zxE (fn.toNat +items.length+Int.toNat 0+1) fn items 0 bound) fun r3=>.i (isL r3) (.k (getL r3)) (.k true)))))))
def zyf (fn:Int) (items:List Weighted) (op:Int) (bound:Value):Bool×Bool:=(zF5 fn items op bound).fin default
def zF7 (x_:Atom):Wy0 (Bool):=.i (x_.Func==0) (.i (Int.ofNat x_.Items.length==0) (.i (x_.Op==0) (.k (x_.Bound.Kind==0&&(x_.Bound.Int==0&&(x_.Bound.Text.toList==(ByteArray.mk #[]).toList&&true)))) (.k false)) (.k false)) (.k false)
def zqZ (x_:Atom):Bool×Bool:=(zF7 x_).fin default
def zEW (a:List Term):Wy0 (Bool):=.i (Int.ofNat a.length==1) (.i (decide ((0:Int)≤(0:Int))&&decide (0<Int.ofNat a.length)) (.i ((a.getD (Int.toNat 0) default).Coeff==1) (.i (decide ((0:Int)≤(0:Int))&&decide (0<Int.ofNat a.length)) (.i (Int.ofNat (a.getD (Int.toNat 0) default).Factors.length==1) (.i (decide ((0:Int)≤(0:Int))&&decide (0<Int.ofNat a.length)) (.i (decide ((0:Int)≤(0:Int))&&decide (0<Int.ofNat (a.getD (Int.toNat 0) default).Factors.length)) (.i (decide (((a.getD (Int.toNat 0) default).Factors.getD (Int.toNat 0) default).Atom.Kind≥2)) (.i (decide ((0:Int)≤(0:Int))&&decide (0<Int.ofNat a.length)) (.i (decide ((0:Int)≤(0:Int))&&decide (0<Int.ofNat (a.getD (Int.toNat 0) default).Factors.length)) (.k (((a.getD (Int.toNat 0) default).Factors.getD (Int.toNat 0) default).Exp==1)) .d) .d) (.k false)) .d) .d) (.k false)) .d) (.k false)) .d) (.k false)
def zsW (a:List Term):Bool×Bool:=(zEW a).fin default
abbrev ztK:=List Term×Int×Unit
def zl1 (a:List Term) (i:Int):Wy ztK (Unit) (Bool⊕Unit):=.i (decide (i<Int.ofNat a.length)) (.i (decide (0≤i)&&decide (i<Int.ofNat a.length)) (.i (Int.ofNat (a.getD i.toNat default).Factors.length==0) (.k (.inl true)) (.h (a,(IntKind.i64.wrap (i+1)),()) ())) .d) (.k (.inr ()))
def zAe (x:ztK) (y:Unit):Wy ztK (Unit) (Bool⊕Unit):=zl1 x.1 x.2.1
def zAE (n:Nat) (a:List Term) (i:Int):Bool×(Bool⊕Unit):=zQ (zAe) (.inl default) n (a,i,()) ()
def zCa (a:List Term):Wy0 (Bool):=.bn (zAE (a.length+Int.toNat 0+1) a 0) fun r0=>.i (isL r0) (.k (getL r0)) (.k false)
def zko (a:List Term):Bool×Bool:=(zCa a).fin default
def allN (c:Nat→Bool):Nat→Nat→Bool
 | 0,_=>true
 | n+1,i=>c i&&allN c n (i+1)
theorem zd8 {c:Nat→Bool}:∀ {n i},allN c n i=true↔∀ k,i≤k→k<i+n→c k=true
 | 0,i=>⟨fun _ k h1 h2=>by omega,fun _=>rfl⟩
 | n+1,i=>by
  simp only [allN,Bool.and_eq_true,zd8 (n:=n)]
  constructor
  ·rintro ⟨h1,h2⟩ k h3 h4
   by_cases e:k=i
   ·rw [e]; exact h1
   ·exact h2 k (by omega) (by omega)
  ·intro h
   exact ⟨h i (by omega) (by omega),fun k h1 h2=>h k (by omega) (by omega)⟩
theorem zOa (c c':Nat→Bool):∀ n i,allN (fun k=>c k&&c' k) n i=(allN c n i&&allN c' n i)
 | 0,_=>rfl
 | n+1,i=>by
  simp only [allN,zOa c c' n (i+1)]
  cases c i <;>cases c' i <;>simp
theorem zPk {τ:Type} [Inhabited τ] (p:τ→Bool) (l:List τ):∀ n i,i+n=l.length→allN (fun k=>p (l.getD k default)) n i=(l.drop i).all p
 | 0,i,h=>by rw [zcE (by omega)]; rfl
 | n+1,i,h=>by
  rw [zbm (by omega),List.all_cons]
  simp only [allN,zPk p l n (i+1) (by omega)]
theorem zsa {τ:Type} [Inhabited τ] (p:τ→Bool) (l:List τ):allN (fun k=>p (l.getD k default)) l.length 0=l.all p:=by
 rw [zPk p l _ _ (by omega),List.drop_zero]
section
variable {α β ρ:Type}
theorem zO0 {W:α→β→Wy α β ρ} {z:ρ} (N:Nat) (ex:Nat→α) (ey:Nat→β) (c:Nat→Bool) (no yes:ρ)
  (h:∀ i,i<N→∀ (H:α→β→Bool×ρ) K D,(W (ex i) (ey i)).ev H K D=bif c i then H (ex (i+1)) (ey (i+1)) else K no)
  (he:∀ (H:α→β→Bool×ρ) K D,(W (ex N) (ey N)).ev H K D=K yes):
  ∀ n i,N<i+n→i≤N→zQ W z n (ex i) (ey i)=(true,bif allN c (N - i) i then yes else no)
 | 0,i,h1,h2=>by omega
 | n+1,i,h1,h2=>by
  show (W (ex i) (ey i)).ev (zQ W z n) (fun r=>(true,r)) (false,z)=_
  by_cases hi:i<N
  ·rw [h i hi,show N - i=(N - (i+1))+1 by omega]
   simp only [allN]
   cases c i with
   | false=>rfl
   | true=>rw [cond_true,zO0 N ex ey c no yes h he n (i+1) (by omega) (by omega)]; rfl
  ·have:i=N:=by omega
   subst this
   rw [he,Nat.sub_self]; rfl
theorem zdB {W:α→β→Wy α β ρ} {z:ρ} (N:Nat) (ex:Nat→α) (ey:Nat→β) (c:Nat→Bool) (no yes:ρ)
  (h:∀ i,i<N→∀ (H:α→β→Bool×ρ) K D,(W (ex i) (ey i)).ev H K D=bif c i then H (ex (i+1)) (ey (i+1)) else K no)
  (he:∀ (H:α→β→Bool×ρ) K D,(W (ex N) (ey N)).ev H K D=K yes) (n:Nat) (hn:N<n):zQ W z n (ex 0) (ey 0)=(true,bif allN c N 0 then yes else no):=by
 have:=zO0 (z:=z) N ex ey c no yes h he n 0 (by omega) (by omega)
 simpa using this
end
def ixf {α:Type} (p:α→Bool):List α→Nat→Int
 | [],_=> -1
 | x::r,i=>bif p x then (i:Int) else ixf p r (i+1)
theorem zP7 {α:Type} (p:α→Bool):∀ (l:List α) (i:Nat),decide (ixf p l i≥(0:Int))=l.any p
 | [],i=>by simp [ixf]
 | x::r,i=>by
  rw [List.any_cons]
  cases h:p x with
  | true=>simp [ixf,h]
  | false=>simpa [ixf,h] using zP7 p r (i+1)
section
variable {α γ:Type} [Inhabited α]
def zNt (p:γ→α→Bool×Bool) (s:List α) (g:γ) (t7:Int) (t8:Int):Wy (List α×γ×Int×Int×Unit) (Unit) (Int⊕Unit):=.i (decide (t8<t7)) (.i (decide ((0:Int)≤t8)&&decide (t8<Int.ofNat s.length)) (.bn (p g (s.getD t8.toNat default)) fun r0=>.i (r0) (.k (.inl t8)) (.h (s,g,t7,(IntKind.i64.wrap (t8+(1:Int))),()) ())) .d) (.k (.inr ()))
def zQ1 (p:γ→α→Bool×Bool) (x:List α×γ×Int×Int×Unit) (y:Unit):Wy (List α×γ×Int×Int×Unit) (Unit) (Int⊕Unit):=zNt p x.1 x.2.1 x.2.2.1 x.2.2.2.1
def zRh (p:γ→α→Bool×Bool) (n:Nat) (s:List α) (g:γ) (t7:Int) (t8:Int):Bool×(Int⊕Unit):=zQ (zQ1 p) (.inl default) n (s,g,t7,t8,()) ()
def IG (p:γ→α→Bool×Bool) (n:Nat) (g:γ) (s:List α):Bool×Int:=(.bn (zRh p n s g (Int.ofNat s.length) (0:Int)) fun r2=>.i (isL r2) (.k (getL r2)) (.k (-1:Int)):Wy0 Int).fin default
def zRk (p:γ→α→Bool×Bool) (s:List α) (g:γ) (t7:Int) (t8:Int):Wy (List α×γ×Int×Int×Unit) (Unit) (Int⊕Unit):=.i (decide (t8<t7)) (.i (decide ((0:Int)≤t8)&&decide (t8<Int.ofNat s.length)) (.i ((p g (s.getD t8.toNat default)).snd) (.k (.inl t8)) (.h (s,g,t7,(IntKind.i64.wrap (t8+(1:Int))),()) ())) .d) (.k (.inr ()))
def zWg (p:γ→α→Bool×Bool) (x:List α×γ×Int×Int×Unit) (y:Unit):Wy (List α×γ×Int×Int×Unit) (Unit) (Int⊕Unit):=zRk p x.1 x.2.1 x.2.2.1 x.2.2.2.1
def zQ3 (p:γ→α→Bool×Bool) (n:Nat) (s:List α) (g:γ) (t7:Int) (t8:Int):Bool×(Int⊕Unit):=zQ (zWg p) (.inl default) n (s,g,t7,t8,()) ()
def IH (p:γ→α→Bool×Bool) (n:Nat) (g:γ) (s:List α):Bool×Int:=(.bn (zQ3 p n s g (Int.ofNat s.length) (0:Int)) fun r2=>.i (isL r2) (.k (getL r2)) (.k (-1:Int)):Wy0 Int).fin default
theorem zPV (p:γ→α→Bool×Bool) (P:α→Bool) (g:γ) (s:List α) (hs:s.length≤1000000000) (hp:∀ x∈s,p g x=(true,P x)):∀ (n i:Nat),s.length<i+n→i≤s.length→
  ∃ r,zRh p n s g s.length i=(true,r)∧((r=.inl (ixf P (s.drop i) i))∨(r=.inr ()∧ixf P (s.drop i) i= -1))
 | 0,i,h,h2=>by omega
 | n+1,i,h,h2=>by
  show ∃ r,(zNt p s g s.length i).ev (fun x y=>zRh p n x.1 x.2.1 x.2.2.1 x.2.2.2.1) (fun r=>(true,r)) (false,.inl default)=(true,r)∧_
  unfold zNt
  by_cases hi:i<s.length
  ·simp only [Wy.ev_i,Wy.ev_k,Wy.ev_h,Wy.ev_bn,Wy.ev_d,tT,hi,hp _ (zp hi)]
   rw [zbm hi,zM (by omega)]
   simp only [ixf]
   cases P (s.getD i default) with
   | true=>exact ⟨_,rfl,.inl rfl⟩
   | false=>exact zPV p P g s hs hp n (i+1) (by omega) (by omega)
  ·simp only [Wy.ev_i,Wy.ev_k,Wy.ev_h,Wy.ev_bn,Wy.ev_d,tT,hi,zcE hi]
   exact ⟨_,rfl,.inr ⟨rfl,rfl⟩⟩
theorem zFo (p:γ→α→Bool×Bool) (P:α→Bool) (n:Nat) (g:γ) (s:List α) (hs:s.length≤1000000000) (hp:∀ x∈s,p g x=(true,P x)) (hn:s.length<n):IG p n g s=(true,ixf P s 0):=by
 unfold IG
 obtain ⟨r,h1,h2⟩:=zPV p P g s hs hp n 0 (by omega) (by omega)
 rw [show ((0:Nat):Int)=(0:Int) from rfl] at h1
 rw [Wy.fin_bn,show Int.ofNat s.length=(s.length:Int) from rfl,h1]
 rw [List.drop_zero] at h2
 rcases h2 with rfl | ⟨rfl,h2⟩
 ·rfl
 ·rw [h2]; rfl
theorem zP6 (p:γ→α→Bool×Bool) (P:α→Bool) (g:γ) (s:List α) (hs:s.length≤1000000000) (hp:∀ x∈s,p g x=(true,P x)):∀ (n i:Nat),s.length<i+n→i≤s.length→
  ∃ r,zQ3 p n s g s.length i=(true,r)∧((r=.inl (ixf P (s.drop i) i))∨(r=.inr ()∧ixf P (s.drop i) i= -1))
 | 0,i,h,h2=>by omega
 | n+1,i,h,h2=>by
  show ∃ r,(zRk p s g s.length i).ev (fun x y=>zQ3 p n x.1 x.2.1 x.2.2.1 x.2.2.2.1) (fun r=>(true,r)) (false,.inl default)=(true,r)∧_
  unfold zRk
  by_cases hi:i<s.length
  ·simp only [Wy.ev_i,Wy.ev_k,Wy.ev_h,Wy.ev_bn,Wy.ev_d,tT,hi,hp _ (zp hi)]
   rw [zbm hi,zM (by omega)]
   simp only [ixf]
   cases P (s.getD i default) with
   | true=>exact ⟨_,rfl,.inl rfl⟩
   | false=>exact zP6 p P g s hs hp n (i+1) (by omega) (by omega)
  ·simp only [Wy.ev_i,Wy.ev_k,Wy.ev_h,Wy.ev_bn,Wy.ev_d,tT,hi,zcE hi]
   exact ⟨_,rfl,.inr ⟨rfl,rfl⟩⟩
theorem zTT (p:γ→α→Bool×Bool) (P:α→Bool) (n:Nat) (g:γ) (s:List α) (hs:s.length≤1000000000) (hp:∀ x∈s,p g x=(true,P x)) (hn:s.length<n):IH p n g s=(true,ixf P s 0):=by
 unfold IH
 obtain ⟨r,h1,h2⟩:=zP6 p P g s hs hp n 0 (by omega) (by omega)
 rw [show ((0:Nat):Int)=(0:Int) from rfl] at h1
 rw [Wy.fin_bn,show Int.ofNat s.length=(s.length:Int) from rfl,h1]
 rw [List.drop_zero] at h2
 rcases h2 with rfl | ⟨rfl,h2⟩
 ·rfl
 ·rw [h2]; rfl
theorem zmw {α:Type} {s:List α} {P:α→Bool} {q:Bool×Int} (h:q=(true,ixf P s 0)):((.bn q fun r0=>.k (decide (r0≥(0:Int))):Wy0 Bool).fin default)=(true,s.any P):=by
 rw [h,Wy.fin_bn,cond_true,Wy.fin_k,zP7]
end
theorem beqd (a b:Int):(a==b)=decide (a=b):=by by_cases h:a=b <;>simp [h]
theorem beqn (a b:Nat):(a==b)=decide (a=b):=by by_cases h:a=b <;>simp [h]
theorem i0 (l:Nat):((l:Int)==0)=(l==0):=by
 rw [beqd,beqn]; congr 1; simp
def hasC (a:List Term):Bool:=a.any fun t=>t.Factors.length==0
theorem zEm (a:List Term) (h:a.length≤1000000000):zet a=(true,hasC a):=by
 unfold zet zm8 zcQ zd4
 have:zdf a=IH (fun (_:Unit) x=>zf2 x) (a.length+(Int.ofNat a.length).toNat +Int.toNat (0:Int)+(1:Nat)) () a:=rfl
 rw [zmw (P:=fun t:Term=>t.Factors.length==0) (this.trans (zTT _ _ _ _ _ h (fun x _=>by
  unfold zf2 zkZ
  rw [Wy.fin_k]
  congr 1
  exact i0 x.Factors.length) (by omega)))]
 rfl
theorem ztH (a:List Term) (h:a.length≤1000000000):zko a=(true,hasC a):=by
 unfold zko zCa zAE
 have:=zdB (W:=zAe) (z:=.inl default) a.length (fun i=>(a,(i:Int),())) (fun _=>()) (fun i=> !((a.getD i default).Factors.length==0)) (.inl true) (.inr ())
  (fun i hi H K D=>by
   show (zl1 a i).ev H K D=_
   unfold zl1
   simp only [Wy.ev_i,Wy.ev_k,Wy.ev_h,Wy.ev_bn,Wy.ev_d,tT,hi,i0]
   rw [zM (by omega)]
   cases (a.getD i default).Factors.length==0 <;>rfl)
  (fun H K D=>by
   show (zl1 a a.length).ev H K D=_
   unfold zl1
   simp only [Wy.ev_i,Wy.ev_k,tT,Nat.lt_irrefl]) (a.length+Int.toNat (0:Int)+(1:Nat)) (by omega)
 rw [show ((0:Nat):Int)=(0:Int) from rfl] at this
 rw [Wy.fin_bn,this,zsa (fun t:Term=> !(t.Factors.length==0)) a]
 have e:(a.all fun t:Term=> !(t.Factors.length==0))= !hasC a:=by simp [hasC,List.all_eq_not_any_not]
 rw [e]
 cases hasC a <;>rfl
def isC:List Term→Bool
 | [t]=>t.Factors.length==0
 | _=>false
theorem zGC (a:List Term):zgF a=(true,isC a):=by
 unfold zgF znR
 match a with
 | []=>rfl
 | [t]=>exact congrArg (Prod.mk true) (i0 t.Factors.length)
 | t::u::r=>
  have:((Int.ofNat (t::u::r).length)==(1:Int))=false:=by simp; omega
  rw [Wy.fin_i,this]; rfl
def oneF (p:Factor→Bool):List Factor→Bool
 | [f]=>p f
 | _=>false
def isU:List Term→Bool
 | [t]=>t.Coeff==1&&oneF (fun f=>f.Exp==1&&(f.Atom.Kind==2||f.Atom.Kind==3||f.Atom.Kind==4)) t.Factors
 | _=>false
theorem zLT (x:Atom):zeN x=(true,x.Kind==3||x.Kind==4):=by
 unfold zeN znL
 rw [Wy.fin_i,Wy.fin_k,Wy.fin_k]
 cases x.Kind==3 <;>rfl
theorem len2 {τ:Type} (x y:τ) (r:List τ):((Int.ofNat (x::y::r).length)==(1:Int))=false:=by
 rw [beq_eq_false_iff_ne]; simp; omega
theorem zMZ (a:List Term):zjM a=(true,isU a):=by
 unfold zjM zrc
 match a with
 | []=>rfl
 | ⟨c,[]⟩::[]=>
  show (bif c != 1 then (true,false) else (true,false))=(true,c==1&&false)
  cases c != 1 <;>simp
 | ⟨c,[f]⟩::[]=>
  simp only [Wy.fin_i,Wy.fin_k,tT,isU,List.length_singleton,zLT,Wy.fin_bn,Wy.fin_d]
  show (bif c != 1 then (true,false) else bif f.Exp==1 then bif f.Atom.Kind==2 then (true,true) else (true,f.Atom.Kind==3||f.Atom.Kind==4) else (true,false))=(true,c==1&&(f.Exp==1&&(f.Atom.Kind==2||f.Atom.Kind==3||f.Atom.Kind==4)))
  rw [show (c != 1)= !(c==1) from rfl]
  cases c==1 <;>cases f.Exp==1 <;>cases f.Atom.Kind==2 <;>simp
 | ⟨c,f::g::r⟩::[]=>
  simp only [Wy.fin_i,bne,len2]
  show (bif !(c==1) then (true,false) else (true,false))=(true,c==1&&false)
  cases c==1 <;>rfl
 | t::u::r=>rw [Wy.fin_i,bne,len2]; rfl
def isB:List Term→Bool
 | [t]=>t.Coeff==1&&oneF (fun f=>f.Exp==1&&decide (2≤f.Atom.Kind)) t.Factors
 | _=>false
theorem zCT (a:List Term):zsW a=(true,isB a):=by
 unfold zsW zEW
 match a with
 | []=>rfl
 | ⟨c,[]⟩::[]=>
  show (bif c==1 then (true,false) else (true,false))=(true,c==1&&false)
  cases c==1 <;>rfl
 | ⟨c,[f]⟩::[]=>
  simp only [Wy.fin_i,Wy.fin_k,tT,List.length_singleton,Wy.fin_bn,Wy.fin_d]
  show (bif c==1 then bif decide (2≤f.Atom.Kind) then (true,f.Exp==1) else (true,false) else (true,false))=(true,c==1&&(f.Exp==1&&decide (2≤f.Atom.Kind)))
  cases c==1 <;>cases f.Exp==1 <;>cases decide (2≤f.Atom.Kind) <;>simp
 | ⟨c,f::g::r⟩::[]=>
  rw [Wy.fin_i]
  show (bif true then (Wy.i true (Wy.i (c==1) (Wy.i true (Wy.i (Int.ofNat (f::g::r).length==1) _ (.k false)) .d) (.k false)) .d:Wy0 Bool).fin default else _)=(true,c==1&&false)
  simp only [Wy.fin_i,Wy.fin_k,len2,cond_true,cond_false]
  cases c==1 <;>rfl
 | t::u::r=>rw [Wy.fin_i,len2]; rfl
theorem zD6 (a b:Nat):decide (a>b)= !decide (a≤b):=by
 by_cases h:a≤b
 ·have:¬ a>b:=by omega
  simp [h,this]
 ·have:a>b:=by omega
  simp [h,this]
def withF (t:Term):Bool:= !(decide (t.Factors.length>64)||t.Factors.any fun f=>decide (f.Exp>64)||decide (f.Atom.Items.length>1024))
def zfi (a:List Term):Bool:=decide (a.length≤512)&&decide (zbh a≤8)&&decide (zI a≤4096)&&a.all withF
theorem zQI (l:List Factor) (h:l.length≤1000000):zb5 l=(true,l.any fun f=>decide (f.Exp>64)||decide (f.Atom.Items.length>1024)):=by
 unfold zb5 zee
 have hw:zb6=zQ1 (fun (_:Unit) x=>zfb x):=by
  funext x y
  unfold zb6 zii zQ1 zNt
  rw [Factor.eta2]
 have:zco l=IG (fun (_:Unit) x=>zfb x) (l.length+(Int.ofNat l.length).toNat +Int.toNat (0:Int)+(1:Nat)) () l:=by
  unfold zco zer zh5
  rw [hw]; rfl
 exact zmw (this.trans (zFo _ _ _ _ _ (by omega) (fun x _=>by
  unfold zfb zl5
  rw [Wy.fin_i,Wy.fin_k,Wy.fin_k]
  have e:decide (Int.ofNat x.Atom.Items.length>(1024:Int))=decide (x.Atom.Items.length>1024):=zmW _ 1024
  rw [e]
  cases decide (x.Exp>64) <;>rfl) (by omega)))
theorem zMA {d:Nat} {a:List Term} (h:zm d a) (hd:d≤100) (hs:zI a≤4611686018427387904):zjI a=(true,zfi a):=by
 obtain ⟨h1,h2⟩:a.length≤1000000∧∀ t∈a,t.Factors.length≤1000000:=by
  cases d with
  | zero=>exact h.elim
  | succ d=>exact ⟨h.1,fun t ht=>(h.2 t ht).1⟩
 have h3:zbV a=(true,a.any fun t=> !withF t):=by
  unfold zbV zd6
  have:zdg a=IG (fun (_:Unit) x=>zjq x) (a.length+(Int.ofNat a.length).toNat +Int.toNat (0:Int)+(1:Nat)) () a:=rfl
  exact zmw (this.trans (zFo _ _ _ _ _ (by omega) (fun x hx=>by
   unfold zjq zop
   rw [Wy.fin_i,Wy.fin_k,Wy.fin_bn,zQI _ (h2 x hx)]
   have e:decide (Int.ofNat x.Factors.length>(64:Int))=decide (x.Factors.length>64):=zmW _ 64
   rw [e]
   unfold withF
   cases decide (x.Factors.length>64) <;>simp [Wy.fin_k]) (by omega)))
 unfold zjI zra
 have n1:zrX a=(true,(zbh a:Int)):=(zLN 1000 d a h (by omega) hd).1
 have n2:zwl a=(true,(zI a:Int)):=(zJS 1000 d a h (by omega) hs).1
 simp only [Wy.fin_i,Wy.fin_k,Wy.fin_bn,n1,n2,h3,cond_true]
 have e1:decide (Int.ofNat a.length>(512:Int))= !decide (a.length≤512):=by rw [show decide (Int.ofNat a.length>(512:Int))=decide (a.length>512) from zmW _ 512]; exact zD6 _ _
 have e2:decide ((zbh a:Int)>(8:Int))= !decide (zbh a≤8):=by rw [show decide ((zbh a:Int)>(8:Int))=decide (zbh a>8) from zmW _ 8]; exact zD6 _ _
 have e3:decide ((zI a:Int)>(4096:Int))= !decide (zI a≤4096):=by rw [show decide ((zI a:Int)>(4096:Int))=decide (zI a>4096) from zmW _ 4096]; exact zD6 _ _
 have e4:(a.any fun t=> !withF t)= !a.all withF:=by simp [List.all_eq_not_any_not]
 rw [e1,e2,e3,e4]
 unfold zfi
 cases decide (a.length≤512) <;>cases decide (zbh a≤8) <;>cases decide (zI a≤4096) <;>simp
theorem zVN (a:List Term) (i:Nat) (hi:i<a.length) (hl:(a.getD i default).Factors.length≤1000000) (fuel:Nat) (hf:(a.getD i default).Factors.length<fuel):
  zGF fuel a i 0=(true,bif (a.getD i default).Factors.any fun f=>decide (f.Exp>64)||decide (f.Atom.Items.length>1024) then .inl false else .inr (a,(i:Int))):=by
 have:=zdB (W:=zGA) (z:=.inl default) (a.getD i default).Factors.length (fun k=>(a,(i:Int),(k:Int),())) (fun _=>()) (fun k=>(fun f:Factor=> !(decide (f.Exp>64)||decide (f.Atom.Items.length>1024))) ((a.getD i default).Factors.getD k default)) (.inl false) (.inr (a,(i:Int)))
  (fun k hk H K D=>by
   show (zqR a i k).ev H K D=_
   unfold zqR
   simp only [Wy.ev_i,Wy.ev_k,Wy.ev_h,Wy.ev_bn,Wy.ev_d,tT,hi,hk]
   rw [zM (by omega),show decide ((((a.getD i default).Factors.getD k default).Atom.Items.length:Int)>(1024:Int))=_ from zmW _ 1024]
   cases decide (((a.getD i default).Factors.getD k default).Exp>64) <;>cases decide (1024<((a.getD i default).Factors.getD k default).Atom.Items.length) <;>rfl)
  (fun H K D=>by
   show (zqR a i (a.getD i default).Factors.length).ev H K D=_
   unfold zqR
   simp only [Wy.ev_i,Wy.ev_k,Wy.ev_h,Wy.ev_bn,Wy.ev_d,tT,hi,Nat.lt_irrefl]) fuel hf
 rw [zsa (fun f:Factor=> !(decide (f.Exp>64)||decide (f.Atom.Items.length>1024)))] at this
 have e:((a.getD i default).Factors.all fun f=> !(decide (f.Exp>64)||decide (f.Atom.Items.length>1024)))= !((a.getD i default).Factors.any fun f=>decide (f.Exp>64)||decide (f.Atom.Items.length>1024)):=by simp [List.all_eq_not_any_not]
 rw [e] at this
 refine this.trans ?_
 cases (a.getD i default).Factors.any fun f=>decide (f.Exp>64)||decide (f.Atom.Items.length>1024) <;>rfl
theorem zPS {d:Nat} {a:List Term} (h:zm d a) (hd:d≤100) (hs:zI a≤4611686018427387904):zAZ a=(true,zfi a):=by
 obtain ⟨h1,h2⟩:a.length≤1000000∧∀ t∈a,t.Factors.length≤1000000:=by
  cases d with
  | zero=>exact h.elim
  | succ d=>exact ⟨h.1,fun t ht=>(h.2 t ht).1⟩
 have h3:zGm ((a.length+Int.toNat (0:Int)+(1:Nat))+szTs a) a 0=(true,bif a.all withF then .inr () else .inl false):=by
  have:=zdB (W:=zGI) (z:=.inl default) a.length (fun k=>(a,(k:Int),())) (fun _=>()) (fun k=>withF (a.getD k default)) (.inl false) (.inr ())
   (fun k hk H K D=>by
    show (zqF a k).ev H K D=_
    unfold zqF
    have h4:=h2 _ (zp hk)
    have h5:=zCn a k hk
    simp only [Wy.ev_i,Wy.ev_k,Wy.ev_h,Wy.ev_bn,Wy.ev_d,tT,hk]
    rw [zVN a k hk h4 _ (by omega)]
    have e:decide (((a.getD k default).Factors.length:Int)>(64:Int))=decide ((a.getD k default).Factors.length>64):=zmW _ 64
    rw [e]
    unfold withF
    cases decide ((a.getD k default).Factors.length>64) <;>cases ((a.getD k default).Factors.any fun f=>decide (f.Exp>64)||decide (f.Atom.Items.length>1024))
    ·simp only [cond_false,cond_true,isL,getR]; rw [zM (by omega)]; rfl
    all_goals rfl)
   (fun H K D=>by
    show (zqF a a.length).ev H K D=_
    unfold zqF
    simp only [Wy.ev_i,Wy.ev_k,Wy.ev_h,Wy.ev_bn,Wy.ev_d,tT,Nat.lt_irrefl]) ((a.length+Int.toNat (0:Int)+(1:Nat))+szTs a) (by omega)
  rw [zsa] at this
  exact this
 unfold zAZ zHL
 have n1:zGp a=(true,(zbh a:Int)):=(zLN 1000 d a h (by omega) hd).2
 have n2:zKU a=(true,(zI a:Int)):=(zJS 1000 d a h (by omega) hs).2
 simp only [Wy.fin_i,Wy.fin_k,Wy.fin_bn,n1,n2,h3,cond_true]
 have e1:decide (Int.ofNat a.length>(512:Int))= !decide (a.length≤512):=by rw [show decide (Int.ofNat a.length>(512:Int))=decide (a.length>512) from zmW _ 512]; exact zD6 _ _
 have e2:decide ((zbh a:Int)>(8:Int))= !decide (zbh a≤8):=by rw [show decide ((zbh a:Int)>(8:Int))=decide (zbh a>8) from zmW _ 8]; exact zD6 _ _
 have e3:decide ((zI a:Int)>(4096:Int))= !decide (zI a≤4096):=by rw [show decide ((zI a:Int)>(4096:Int))=decide (zI a>4096) from zmW _ 4096]; exact zD6 _ _
 rw [e1,e2,e3]
 unfold zfi
 cases decide (a.length≤512) <;>cases decide (zbh a≤8) <;>cases decide (zI a≤4096) <;>cases a.all withF <;>simp [isL,getL]
def valV (v:Value):Bool:=(v.Kind==0&&v.Text.size==0)||(v.Kind==1&&v.Int==0&&decide (v.Text.size≤255))||(v.Kind==2&&v.Text.size==0&&(v.Int==0||v.Int==1))
theorem zPl (s:ByteArray):(s.toList==(ByteArray.mk #[]).toList)=(s.size==0):=by
 rw [zH9]
 by_cases h:s.size=0
 ·have:s=ByteArray.mk #[]:=zys (by
   have:s.data.toList.length=0:=by simpa using h
   rw [List.length_eq_zero_iff.1 this])
  subst this; rfl
 ·have:¬ s=ByteArray.mk #[]:=fun e=>h (by rw [e]; rfl)
  simp [h,this]
theorem zxC (v:Value):zor v=(true,valV v):=by
 unfold zor zzF valV
 simp only [zPl,Wy.fin_i,Wy.fin_k,beqd,beqn]
 have e:decide (Int.ofNat v.Text.size≤(255:Int))=decide (v.Text.size≤255):=zsp _ 255
 rw [e]
 by_cases h0:v.Kind=0
 ·simp [h0]
 ·by_cases h1:v.Kind=1
  ·by_cases h2:v.Int=0 <;>simp [h1,h2]
  ·by_cases h2:v.Kind=2
   ·by_cases h3:v.Int=0
    ·simp [h2,h3]
    ·by_cases h4:v.Int=1 <;>simp [h2,h3,h4]
   ·simp [h0,h1,h2]
theorem zEz (v:Value):zyl v=(true,valV v):=by
 unfold zyl zGh valV
 simp only [zPl,Wy.fin_i,Wy.fin_k,beqd,beqn]
 have e:decide (Int.ofNat v.Text.size≤(255:Int))=decide (v.Text.size≤255):=zsp _ 255
 rw [e]
 by_cases h0:v.Kind=0
 ·simp [h0]
 ·by_cases h1:v.Kind=1
  ·by_cases h2:v.Int=0 <;>simp [h1,h2]
  ·by_cases h2:v.Kind=2
   ·by_cases h3:v.Int=0
    ·by_cases h4:v.Text.size=0 <;>simp [h2,h3,h4]
    ·by_cases h4:v.Text.size=0 <;>simp [h2,h3,h4]
   ·simp [h0,h1,h2]
def fitI (fn:Int) (b:Value) (w:Weighted):Bool:=valV w.Value&&(w.Value.Kind==b.Kind)&& !(fn==0&&w.Value.Int != 1)
def fitK (fn:Int) (l:List Weighted) (op:Int) (b:Value):Bool:=decide (0≤fn)&&decide (fn≤3)&&decide (5≤op)&&decide (op≤10)&&valV b&& !(decide (fn≤1)&&b.Kind != 0)&&l.all (fitI fn b)
theorem zTr (l:List Weighted) (fn:Int) (b:Value) (h:l.length≤1000000):zbl l b fn=(true, !l.all (fitI fn b)):=by
 unfold zbl zdG
 have:zcN l b fn=IG (fun (g:Value×(Int×Unit)×Unit) x=>zgw x g.1 g.2.1.1) (l.length+fn.toNat +(Int.ofNat l.length).toNat +Int.toNat (0:Int)+(1:Nat)) (b,(fn,()),()) l:=rfl
 have e:(!l.all (fitI fn b))=l.any fun w=> !fitI fn b w:=by simp [List.all_eq_not_any_not]
 rw [e]
 exact zmw (this.trans (zFo _ _ _ _ _ (by omega) (fun x _=>by
  show zgw x b fn=_
  unfold zgw znT fitI
  simp only [Wy.fin_i,Wy.fin_k,Wy.fin_bn,zxC,cond_true,beqd,bne0]
  cases valV x.Value <;>by_cases h1:x.Value.Kind=b.Kind <;>by_cases h2:fn=0 <;>simp [beqd,bne0,h1,h2]) (by omega)))
theorem zLx (fn:Int) (l:List Weighted) (op:Int) (b:Value) (h:l.length≤1000000):ziK fn l op b=(true,fitK fn l op b):=by
 unfold ziK zqk fitK
 simp only [Wy.fin_i,Wy.fin_k,Wy.fin_bn,zxC,zTr l fn b h,cond_true,beqd,bne0]
 by_cases h1:fn<0
 ·have:¬ (0≤fn):=by omega
  simp [h1,this]
 by_cases h2:3<fn
 ·have:¬ (fn≤3):=by omega
  simp [h1,h2,this]
 by_cases h3:op<5
 ·have:¬ (5≤op):=by omega
  simp [h1,h2,h3,this]
 by_cases h4:10<op
 ·have:¬ (op≤10):=by omega
  simp [h1,h2,h3,h4,this]
 have g1:0≤fn:=by omega
 have g2:fn≤3:=by omega
 have g3:5≤op:=by omega
 have g4:op≤10:=by omega
 cases valV b with
 | false=>simp [h1,h2,h3,h4]
 | true=>
  by_cases h5:fn=0
  ·subst h5; by_cases h6:b.Kind=0 <;>simp [h3,h4,h6,g3,g4]
  ·by_cases h7:fn=1
   ·subst h7; by_cases h6:b.Kind=0 <;>simp [h3,h4,h6,g3,g4]
   ·have:¬ fn≤1:=by omega
    simp [h1,h2,h3,h4,h5,h7,this,g1,g2,g3,g4]
theorem zN6 (fn:Int) (l:List Weighted) (op:Int) (b:Value) (h:l.length≤1000000):zyf fn l op b=(true,fitK fn l op b):=by
 unfold zyf zF5 fitK
 have hl:zxE (fn.toNat +l.length+Int.toNat (0:Int)+(1:Nat)) fn l (0:Int) b=(true,bif l.all (fitI fn b) then .inr () else .inl false):=by
  have:=zdB (W:=zE4) (z:=.inl default) l.length (fun k=>(fn,l,(),(k:Int),())) (fun _=>(b,())) (fun k=>fitI fn b (l.getD k default)) (.inl false) (.inr ())
   (fun k hk H K D=>by
    show (zps fn l k b).ev H K D=_
    unfold zps fitI
    simp only [Wy.ev_i,Wy.ev_k,Wy.ev_h,Wy.ev_bn,Wy.ev_d,tT,hk,zEz,beqd,bne0]
    rw [zM (by omega)]
    cases valV (l.getD k default).Value <;>cases decide ((l.getD k default).Value.Kind=b.Kind) <;>cases decide (fn=0) <;>cases decide ((l.getD k default).Value.Int=1) <;>rfl)
   (fun H K D=>by
    show (zps fn l l.length b).ev H K D=_
    unfold zps
    simp only [Wy.ev_i,Wy.ev_k,Wy.ev_h,Wy.ev_bn,Wy.ev_d,tT,Nat.lt_irrefl]) (fn.toNat +l.length+Int.toNat (0:Int)+(1:Nat)) (by omega)
  rw [zsa] at this
  exact this
 simp only [Wy.fin_i,Wy.fin_k,Wy.fin_bn,zEz,hl,cond_true,beqd,bne0]
 by_cases h1:fn<0
 ·have:¬ (0≤fn):=by omega
  simp [h1,this]
 by_cases h2:3<fn
 ·have:¬ (fn≤3):=by omega
  simp [h1,h2,this]
 by_cases h3:op<5
 ·have:¬ (5≤op):=by omega
  simp [h1,h2,h3,this]
 by_cases h4:10<op
 ·have:¬ (op≤10):=by omega
  simp [h1,h2,h3,h4,this]
 have g1:0≤fn:=by omega
 have g2:fn≤3:=by omega
 have g3:5≤op:=by omega
 have g4:op≤10:=by omega
 cases valV b with
 | false=>simp [h1,h2,h3,h4]
 | true=>
  by_cases h5:fn≤1
  ·by_cases h6:b.Kind=0
   ·cases l.all (fitI fn b) <;>simp [h1,h2,h3,h4,h5,h6,g1,g2,g3,g4,isL,getL]
   ·simp [h1,h2,h3,h4,h5,h6,g1,g2,g3,g4]
  ·cases l.all (fitI fn b) <;>simp [h1,h2,h3,h4,h5,g1,g2,g3,g4,isL,getL]
def bz (b:Value):Bool:=b.Kind==(0:Int)&&(b.Int==(0:Int)&&(b.Text.toList==(ByteArray.mk #[]).toList&&true))
def plA (x:Atom):Bool:=x.Func==0&&(x.Items.length==0)&&x.Op==0&&bz x.Bound
theorem zTH (x:Atom):zqZ x=(true,plA x):=by
 unfold zqZ zF7 plA
 simp only [Wy.fin_i,Wy.fin_k,Int.ofNat_eq_natCast,i0]
 show _=(true,_&&_&&_&&bz x.Bound)
 rw [show (x.Bound.Kind==(0:Int)&&(x.Bound.Int==(0:Int)&&(x.Bound.Text.toList==(ByteArray.mk #[]).toList&&true)))=bz x.Bound from rfl]
 cases x.Func==0 <;>cases x.Items.length==0 <;>cases x.Op==0 <;>rfl
def srtI (l:List Weighted) (k:Nat):Bool:=decide (k=0)||decide (cmpT (zY (l.getD (k - 1) default)) (zY (l.getD k default))≤0)
def srtW (l:List Weighted):Bool:=allN (srtI l) l.length 0
theorem zMv (c:Nat→Bool):∀ n i,allN c (n+1) i=(allN c n i&&c (i+n))
 | 0,i=>by simp [allN]
 | n+1,i=>by
  rw [allN,zMv c n (i+1),allN,show i+1+n=i+(n+1) by omega,Bool.and_assoc]
theorem zGB {d:Nat} (l:List Weighted) (hl:l.length≤1000000) (h:∀ w∈l,zm d w.Ann) (hd:d≤99):∀ (n i:Nat),i<l.length→i<n→zd0 n l i=(true,bif allN (srtI l) (i+1) 0 then .inr () else .inl false)
 | 0,i,hi,hn=>by omega
 | n+1,i,hi,hn=>by
  show (zdW l i).ev (fun x y=>zd0 n x.1 x.2.2.1) (fun r=>(true,r)) (false,.inl default)=_
  unfold zdW
  have hg:decide ((i:Int)>(0:Int))=decide (0<i):=zmW i 0
  cases i with
  | zero=>simp [Wy.ev_i,Wy.ev_k,allN,srtI]
  | succ i=>
   have hi':i<l.length:=by omega
   have hw:IntKind.i64.wrap (((i+1:Nat):Int) - 1)=(i:Int):=by rw [zsi (by omega) (by omega)]; rfl
   have hp:decide (0<i+1)=true:=by simp
   simp only [Wy.ev_i,Wy.ev_k,Wy.ev_h,Wy.ev_bn,Wy.ev_d,hg,hp,hw,tT,hi,hi',ziC (h _ (zp hi)) hd]
   rw [zGB l hl h hd n i hi' (by omega),zMv _ (i+1),Nat.zero_add]
   have:srtI l (i+1)= !decide (cmpT (zY (l.getD (i+1) default)) (zY (l.getD i default))<0):=by
    unfold srtI
    rw [show i+1 - 1=i from rfl,zih (zY (l.getD (i+1) default)) (zY (l.getD i default))]
    generalize cmpT (zY (l.getD (i+1) default)) (zY (l.getD i default))=z
    by_cases hz:z<0
    ·have:¬ (-z≤0):=by omega
     simp [hz,this]
    ·have:(-z≤0):=by omega
     simp [hz,this]
   rw [this]
   cases decide (cmpT (zY (l.getD (i+1) default)) (zY (l.getD i default))<0) <;>simp
theorem zPD {d:Nat} (l:List Weighted) (hl:l.length≤1000000) (h:∀ w∈l,zm d w.Ann) (hd:d≤99):zbW l=(true,srtW l):=by
 unfold zbW zd3 srtW
 match l,hl,h with
 | [],_,_=>rfl
 | x::r,hl,h=>
  have hw:IntKind.i64.wrap (Int.ofNat (x::r).length - 1)=(r.length:Int):=by
   rw [List.length_cons] at hl
   rw [show Int.ofNat (x::r).length=(((x::r).length:Nat):Int) from rfl,zsi (by simp) (by simp; omega)]; rfl
  rw [Wy.fin_bn,hw,zGB (x::r) hl h hd _ r.length (by simp) (by simp; omega)]
  cases allN (srtI (x::r)) (r.length+1) 0 with
  | true=>simp [Wy.fin_i,Wy.fin_k,isL]
  | false=>simp [Wy.fin_i,Wy.fin_k,isL,getL]
abbrev zxT:=List Term×Int×Unit×Int×Unit
abbrev ttTref05Valid1:=Bool⊕(List Term×Int)
abbrev zxM:=List Term×Int×Unit
def zlY (zbJ:Atom→Bool×Bool) (a:List Term) (i:Int) (k:Int) (t:Term):Wy zxT (Term×Unit) ttTref05Valid1:=.i (decide (k<Int.ofNat t.Factors.length)) (.i (decide (0≤k)&&decide (k<Int.ofNat t.Factors.length)) (.i (decide ((t.Factors.getD k.toNat default).Exp<1)) (.k (.inl false)) (.i (decide ((t.Factors.getD k.toNat default).Exp>1)) (.i (decide ((t.Factors.getD k.toNat default).Atom.Kind≥3)) (.k (.inl false)) (.bn (zbJ (Atom.mk (t.Factors.getD k.toNat default).Atom.Kind (t.Factors.getD k.toNat default).Atom.Row (t.Factors.getD k.toNat default).Atom.Args (t.Factors.getD k.toNat default).Atom.Func (t.Factors.getD k.toNat default).Atom.Items (t.Factors.getD k.toNat default).Atom.Op (t.Factors.getD k.toNat default).Atom.Bound)) fun r1=>.i (!r1) (.k (.inl false)) (.i (decide (k>0)) (.i (decide (0≤IntKind.i64.wrap (k - 1))&&decide (IntKind.i64.wrap (k - 1)<Int.ofNat t.Factors.length)) (.bn (zlQ (Atom.mk (t.Factors.getD (IntKind.i64.wrap (k - 1)).toNat default).Atom.Kind (t.Factors.getD (IntKind.i64.wrap (k - 1)).toNat default).Atom.Row (t.Factors.getD (IntKind.i64.wrap (k - 1)).toNat default).Atom.Args (t.Factors.getD (IntKind.i64.wrap (k - 1)).toNat default).Atom.Func (t.Factors.getD (IntKind.i64.wrap (k - 1)).toNat default).Atom.Items (t.Factors.getD (IntKind.i64.wrap (k - 1)).toNat default).Atom.Op (t.Factors.getD (IntKind.i64.wrap (k - 1)).toNat default).Atom.Bound) (Atom.mk (t.Factors.getD k.toNat default).Atom.Kind (t.Factors.getD k.toNat default).Atom.Row (t.Factors.getD k.toNat default).Atom.Args (t.Factors.getD k.toNat default).Atom.Func (t.Factors.getD k.toNat default).Atom.Items (t.Factors.getD k.toNat default).Atom.Op (t.Factors.getD k.toNat default).Atom.Bound)) fun r0=>.i (decide (r0≥0)) (.k (.inl false)) (.h (a,i,(),(IntKind.i64.wrap (k+1)),()) (t,()))) .d) (.h (a,i,(),(IntKind.i64.wrap (k+1)),()) (t,()))))) (.bn (zbJ (Atom.mk (t.Factors.getD k.toNat default).Atom.Kind (t.Factors.getD k.toNat default).Atom.Row (t.Factors.getD k.toNat default).Atom.Args (t.Factors.getD k.toNat default).Atom.Func (t.Factors.getD k.toNat default).Atom.Items (t.Factors.getD k.toNat default).Atom.Op (t.Factors.getD k.toNat default).Atom.Bound)) fun r3=>.i (!r3) (.k (.inl false)) (.i (decide (k>0)) (.i (decide (0≤IntKind.i64.wrap (k - 1))&&decide (IntKind.i64.wrap (k - 1)<Int.ofNat t.Factors.length)) (.bn (zlQ (Atom.mk (t.Factors.getD (IntKind.i64.wrap (k - 1)).toNat default).Atom.Kind (t.Factors.getD (IntKind.i64.wrap (k - 1)).toNat default).Atom.Row (t.Factors.getD (IntKind.i64.wrap (k - 1)).toNat default).Atom.Args (t.Factors.getD (IntKind.i64.wrap (k - 1)).toNat default).Atom.Func (t.Factors.getD (IntKind.i64.wrap (k - 1)).toNat default).Atom.Items (t.Factors.getD (IntKind.i64.wrap (k - 1)).toNat default).Atom.Op (t.Factors.getD (IntKind.i64.wrap (k - 1)).toNat default).Atom.Bound) (Atom.mk (t.Factors.getD k.toNat default).Atom.Kind (t.Factors.getD k.toNat default).Atom.Row (t.Factors.getD k.toNat default).Atom.Args (t.Factors.getD k.toNat default).Atom.Func (t.Factors.getD k.toNat default).Atom.Items (t.Factors.getD k.toNat default).Atom.Op (t.Factors.getD k.toNat default).Atom.Bound)) fun r2=>.i (decide (r2≥0)) (.k (.inl false)) (.h (a,i,(),(IntKind.i64.wrap (k+1)),()) (t,()))) .d) (.h (a,i,(),(IntKind.i64.wrap (k+1)),()) (t,())))))) .d) (.k (.inr (a,i)))
def zAj (zbJ:Atom→Bool×Bool) (x:zxT) (y:Term×Unit):Wy zxT (Term×Unit) ttTref05Valid1:=zlY zbJ x.1 x.2.1 x.2.2.2.1 y.1
def ztP (zbJ:Atom→Bool×Bool) (n:Nat) (a:List Term) (i:Int) (k:Int) (t:Term):Bool×ttTref05Valid1:=zQ (zAj zbJ) (.inl default) n (a,i,(),k,()) (t,())
def zm0 (zbJ:Atom→Bool×Bool) (a:List Term) (i:Int):Wy zxM (Unit) (Bool⊕Unit):=.i (decide (i<Int.ofNat a.length)) (.i (decide (0≤i)&&decide (i<Int.ofNat a.length)) (.i (decide ((a.getD i.toNat default).Coeff<1)) (.k (.inl false)) (.i (decide ((a.getD i.toNat default).Coeff>1152921504606846976)) (.k (.inl false)) (.i (decide (i>0)) (.i (decide (0≤IntKind.i64.wrap (i - 1))&&decide (IntKind.i64.wrap (i - 1)<Int.ofNat a.length)) (.bn (zmv (a.getD (IntKind.i64.wrap (i - 1)).toNat default).Factors (a.getD i.toNat default).Factors) fun r9=>.i (decide (r9≥0)) (.k (.inl false)) (.bn (ztP zbJ (((a.length+i.toNat +Int.toNat 0+1)+(a.getD i.toNat default).Factors.length)+szTs a) a i 0 (a.getD i.toNat default)) fun r8=>.i (isL r8) (.k (.inl (getL r8))) (.h ((getR r8).1,(IntKind.i64.wrap ((getR r8).2+1)),()) ()))) .d) (.bn (ztP zbJ (((a.length+i.toNat +Int.toNat 0+1)+(a.getD i.toNat default).Factors.length)+szTs a) a i 0 (a.getD i.toNat default)) fun r10=>.i (isL r10) (.k (.inl (getL r10))) (.h ((getR r10).1,(IntKind.i64.wrap ((getR r10).2+1)),()) ()))))) .d) (.k (.inr ()))
def zBw (zbJ:Atom→Bool×Bool) (x:zxM) (y:Unit):Wy zxM (Unit) (Bool⊕Unit):=zm0 zbJ x.1 x.2.1
def zBr (zbJ:Atom→Bool×Bool) (n:Nat) (a:List Term) (i:Int):Bool×(Bool⊕Unit):=zQ (zBw zbJ) (.inl default) n (a,i,()) ()
def zDh (zbJ:Atom→Bool×Bool) (a:List Term):Wy0 (Bool):=.bn (zAZ a) fun r15=>.i (!r15) (.k false) (.bn (zBr zbJ ((a.length+Int.toNat 0+1)+szTs a) a 0) fun r14=>.i (isL r14) (.k (getL r14)) (.k true))
def zuA (zbJ:Atom→Bool×Bool) (a:List Term):Bool×Bool:=(zDh zbJ a).fin default
abbrev ziS:=Unit×Int×Unit
def zjG (zc5:List Term→Bool×Bool) (i:Int) (x_:Atom):Wy ziS (Atom×Unit) (Bool⊕Atom):=.i (decide (i<Int.ofNat x_.Args.length)) (.i (decide (0≤i)&&decide (i<Int.ofNat x_.Args.length)) (.i (Int.ofNat (List.length (x_.Args.getD i.toNat default))==0) (.k (.inl false)) (.i (decide (0≤i)&&decide (i<Int.ofNat x_.Args.length)) (.bn (zc5 (x_.Args.getD i.toNat default)) fun r0=>.i (!r0) (.k (.inl false)) (.h ((),(IntKind.i64.wrap (i+1)),()) (x_,()))) .d)) .d) (.k (.inr x_))
def zwO (zc5:List Term→Bool×Bool) (x:ziS) (y:Atom×Unit):Wy ziS (Atom×Unit) (Bool⊕Atom):=zjG zc5 x.2.1 y.1
def zqv (zc5:List Term→Bool×Bool) (n:Nat) (i:Int) (x_:Atom):Bool×(Bool⊕Atom):=zQ (zwO zc5) (.inl default) n ((),i,()) (x_,())
def ziM (zc5:List Term→Bool×Bool) (i:Int) (x_:Atom):Wy ziS (Atom×Unit) (Bool⊕Unit):=.i (decide (i<Int.ofNat x_.Items.length)) (.i (decide (0≤i)&&decide (i<Int.ofNat x_.Items.length)) (.i (Int.ofNat (x_.Items.getD i.toNat default).Ann.length==0) (.k (.inl false)) (.i (decide (0≤i)&&decide (i<Int.ofNat x_.Items.length)) (.bn (zc5 (x_.Items.getD i.toNat default).Ann) fun r3=>.i (!r3) (.k (.inl false)) (.i (decide (i>0)) (.i (decide (0≤IntKind.i64.wrap (i - 1))&&decide (IntKind.i64.wrap (i - 1)≤i)&&decide (i≤Int.ofNat x_.Items.length)) (.i (decide (0≤i)&&decide (i≤IntKind.i64.wrap (i+1))&&decide (IntKind.i64.wrap (i+1)≤Int.ofNat x_.Items.length)) (.bn (zsO (List.take (i.toNat - (IntKind.i64.wrap (i - 1)).toNat) (List.drop (IntKind.i64.wrap (i - 1)).toNat x_.Items)) (List.take ((IntKind.i64.wrap (i+1)).toNat - i.toNat) (List.drop i.toNat x_.Items))) fun r2=>.i (decide (r2>0)) (.k (.inl false)) (.h ((),(IntKind.i64.wrap (i+1)),()) (x_,()))) .d) .d) (.h ((),(IntKind.i64.wrap (i+1)),()) (x_,())))) .d)) .d) (.k (.inr ()))
def zvr (zc5:List Term→Bool×Bool) (x:ziS) (y:Atom×Unit):Wy ziS (Atom×Unit) (Bool⊕Unit):=ziM zc5 x.2.1 y.1
def zvp (zc5:List Term→Bool×Bool) (n:Nat) (i:Int) (x_:Atom):Bool×(Bool⊕Unit):=zQ (zvr zc5) (.inl default) n ((),i,()) (x_,())
def zw6 (zc5:List Term→Bool×Bool) (x_:Atom):Wy0 (Bool):=.i (x_.Kind==0) (.i (decide (x_.Row.Table≥1)) (.i (decide (x_.Row.Seq≥1)) (.i (Int.ofNat x_.Args.length==0) (.bn (zqZ (Atom.mk x_.Kind x_.Row x_.Args x_.Func x_.Items x_.Op x_.Bound)) fun r6=>.k r6) (.k false)) (.k false)) (.k false)) (.i (!(x_.Row.Table==0&&(x_.Row.Seq==0&&true))) (.k false) (.bn (zqv zc5 ((Int.toNat 0+1)+(Atom.mk x_.Kind x_.Row x_.Args x_.Func x_.Items x_.Op x_.Bound).Args.length+(Atom.mk x_.Kind x_.Row x_.Args x_.Func x_.Items x_.Op x_.Bound).Items.length) 0 (Atom.mk x_.Kind x_.Row x_.Args x_.Func x_.Items x_.Op x_.Bound)) fun r17=>.i (isL r17) (.k (getL r17)) (.i ((getR r17).Kind==1) (.i (Int.ofNat (getR r17).Args.length==2) (.bn (zqZ (Atom.mk (getR r17).Kind (getR r17).Row (getR r17).Args (getR r17).Func (getR r17).Items (getR r17).Op (getR r17).Bound)) fun r8=>.i (r8) (.i (decide ((0:Int)≤(0:Int))&&decide (0<Int.ofNat (getR r17).Args.length)) (.i (decide ((0:Int)≤(1:Int))&&decide (1<Int.ofNat (getR r17).Args.length)) (.bn (zs5 ((getR r17).Args.getD (Int.toNat 0) default) ((getR r17).Args.getD (Int.toNat 1) default)) fun r7=>.k (!r7)) .d) .d) (.k false)) (.k false)) (.i ((getR r17).Kind==2) (.i (Int.ofNat (getR r17).Args.length==1) (.bn (zqZ (Atom.mk (getR r17).Kind (getR r17).Row (getR r17).Args (getR r17).Func (getR r17).Items (getR r17).Op (getR r17).Bound)) fun r12=>.i (r12) (.i (decide ((0:Int)≤(0:Int))&&decide (0<Int.ofNat (getR r17).Args.length)) (.i (Int.ofNat (List.length ((getR r17).Args.getD (Int.toNat 0) default))==1) (.i (decide ((0:Int)≤(0:Int))&&decide (0<Int.ofNat (getR r17).Args.length)) (.bn (zko ((getR r17).Args.getD (Int.toNat 0) default)) fun r10=>.i (!r10) (.i (decide ((0:Int)≤(0:Int))&&decide (0<Int.ofNat (getR r17).Args.length)) (.bn (zsW ((getR r17).Args.getD (Int.toNat 0) default)) fun r9=>.k (!r9)) .d) (.k false)) .d) (.i (decide ((0:Int)≤(0:Int))&&decide (0<Int.ofNat (getR r17).Args.length)) (.bn (zsW ((getR r17).Args.getD (Int.toNat 0) default)) fun r11=>.k (!r11)) .d)) .d) (.k false)) (.k false)) (.i ((getR r17).Kind==3) (.i (Int.ofNat (getR r17).Args.length==1) (.bn (zqZ (Atom.mk (getR r17).Kind (getR r17).Row (getR r17).Args (getR r17).Func (getR r17).Items (getR r17).Op (getR r17).Bound)) fun r14=>.i (r14) (.i (decide ((0:Int)≤(0:Int))&&decide (0<Int.ofNat (getR r17).Args.length)) (.bn (zko ((getR r17).Args.getD (Int.toNat 0) default)) fun r13=>.k (!r13)) .d) (.k false)) (.k false)) (.i ((getR r17).Kind==4) (.i (Int.ofNat (getR r17).Args.length != 0) (.k false) (.i (Int.ofNat (getR r17).Items.length==0) (.k false) (.i (decide (Int.ofNat (getR r17).Items.length>1024)) (.k false) (.bn (zyf (getR r17).Func (getR r17).Items (getR r17).Op (getR r17).Bound) fun r16=>.i (!r16) (.k false) (.bn (zvp zc5 ((Int.toNat 0+1)+(Atom.mk (getR r17).Kind (getR r17).Row (getR r17).Args (getR r17).Func (getR r17).Items (getR r17).Op (getR r17).Bound).Args.length+(Atom.mk (getR r17).Kind (getR r17).Row (getR r17).Args (getR r17).Func (getR r17).Items (getR r17).Op (getR r17).Bound).Items.length) 0 (Atom.mk (getR r17).Kind (getR r17).Row (getR r17).Args (getR r17).Func (getR r17).Items (getR r17).Op (getR r17).Bound)) fun r15=>.i (isL r15) (.k (getL r15)) (.k true)))))) (.k false)))))))
def zoX (zc5:List Term→Bool×Bool) (x_:Atom):Bool×Bool:=(zw6 zc5 x_).fin default
def zAJ:Nat→(List Term→Bool×Bool)×(Atom→Bool×Bool)
 | 0=>(fun _=>(false,default),fun _=>(false,default))
 | n+1=>(zuA ((zAJ n).2),zoX ((zAJ n).1))
def zuF (n:Nat):List Term→Bool×Bool:=(zAJ n).1
def ztE (n:Nat):Atom→Bool×Bool:=(zAJ n).2
theorem zJ2 (n:Nat):zuF (n+1)=zuA (ztE n):=rfl
theorem zF3 (n:Nat):ztE (n+1)=zoX (zuF n):=rfl
def zfD:List Term→Bool×Bool:=zuF 1000
def rz (r:RowID):Bool:=r.Table==(0:Int)&&(r.Seq==(0:Int)&&true)
def zmV (V:List Term→Bool) (l:List (List Term)):Bool:=l.all fun a=>V a&& !(a.length==0)
def zvj (V:List Term→Bool) (l:List Weighted):Bool:=l.all fun w=>V w.Ann&& !(w.Ann.length==0)
def zrn (r:RowID):Bool:=decide (r.Table≥1)&&decide (r.Seq≥1)
def zyk (p:List Term→Bool):List (List Term)→Bool
 | [a]=>p a
 | _=>false
def zLr (p:List Term→List Term→Bool):List (List Term)→Bool
 | [a,b]=>p a b
 | _=>false
def zcO (V:List Term→Bool) (x:Atom):Bool:=
 zmV V x.Args&&
 if x.Kind=0 then plA x&&zrn x.Row&&(x.Args.length==0)
 else rz x.Row&&
  if x.Kind=1 then plA x&&zLr (fun a b=> !decide (a=b)) x.Args
  else if x.Kind=2 then plA x&&zyk (fun a=> !isC a&& !isU a) x.Args
  else if x.Kind=3 then plA x&&zyk (fun a=> !hasC a) x.Args
  else if x.Kind=4 then (x.Args.length==0)&&decide (0<x.Items.length)&&zvj V x.Items&&srtW x.Items&&fitK x.Func x.Items x.Op x.Bound
  else false
def chkF (vat:Atom→Bool) (fs:List Factor) (k:Nat):Bool:=
 decide (1≤(fs.getD k default).Exp)&& !(((fs.getD k default).Atom.Kind==3||(fs.getD k default).Atom.Kind==4)&&(fs.getD k default).Exp != 1)&&
  (decide (k=0)||decide (cmpT (zdP (fs.getD (k - 1) default).Atom) (zdP (fs.getD k default).Atom)<0))&&vat (fs.getD k default).Atom
def okF (vat:Atom→Bool) (fs:List Factor):Bool:=allN (chkF vat fs) fs.length 0
def chkT (vat:Atom→Bool) (a:List Term) (i:Nat):Bool:=
 decide (1≤(a.getD i default).Coeff)&&decide ((a.getD i default).Coeff≤1152921504606846976)&&
  (decide (i=0)||decide (cmpL (zbw (a.getD (i - 1) default).Factors) (zbw (a.getD i default).Factors)<0))&&okF vat (a.getD i default).Factors
def vAnn (vat:Atom→Bool) (a:List Term):Bool:=zfi a&&allN (chkT vat a) a.length 0
def z7:Nat→List Term→Bool
 | 0,_=>false
 | n+1,a=>vAnn (zcO (z7 n)) a
theorem zwy (r:RowID):znc r=(true,zrn r):=by
 unfold znc zxY zrn
 rw [Wy.fin_i,Wy.fin_k,Wy.fin_k]
 cases decide (r.Table≥1) <;>rfl
theorem zs2 {V:List Term→Bool} {x:Atom} (h:zcO V x=true):0≤x.Kind∧x.Kind≤4:=by
 unfold zcO at h
 by_cases h0:x.Kind=0
 ·omega
 by_cases h1:x.Kind=1
 ·omega
 by_cases h2:x.Kind=2
 ·omega
 by_cases h3:x.Kind=3
 ·omega
 by_cases h4:x.Kind=4
 ·omega
 simp [h0,h1,h2,h3,h4] at h
theorem zp9 (l k:Nat):((Int.ofNat l)==(k:Int))=(l==k):=by
 rw [beqd,beqn]; congr 1; simp; omega
section
variable (V:List Term→Bool) (gW:List Weighted→Bool×Bool) (gA:List (List Term)→Bool×Bool) (c1:List Term→Bool×Bool) (c2:Weighted→Bool×Bool)
theorem zL0 (x:Atom) {d:Nat} (hx:zcI (zm d) x) (hd:d≤99) (hA:gA x.Args=(true, !zmV V x.Args)) (hW:gW x.Items=(true, !zvj V x.Items)):
  zio gW gA c1 c2 x=(true,zcO V x):=by
 have hS:=zPD x.Items hx.1.2.1 (fun w hw=>(hx.2.2 w hw).2) hd
 have hF:=zLx x.Func x.Items x.Op x.Bound hx.1.2.1
 have hE:∀ a∈x.Args,∀ b,zes a b=(true,decide (a=b)):=fun a ha b=>zq9 (hx.2.1 a ha) (by omega) b
 have hC:∀ a∈x.Args,zet a=(true,hasC a):=fun a ha=>zEm a (by
  have:=hx.2.1 a ha
  cases d with
  | zero=>exact this.elim
  | succ d=>have:=this.1; omega)
 obtain ⟨k,r,l,f,its,o,b⟩:=x
 simp only at hA hW hS hF hE hC
 unfold zio zbO zcO plA
 simp only [zwy,hA,hW,hS,hF,Wy.fin_i,Wy.fin_k,Wy.fin_bn,cond_true]
 rw [show (b.Kind==(0:Int)&&(b.Int==(0:Int)&&(b.Text.toList==(ByteArray.mk #[]).toList&&true)))=bz b from rfl,
  show (r.Table==(0:Int)&&(r.Seq==(0:Int)&&true))=rz r from rfl,
  show (Int.ofNat its.length != 0)= !(its.length==0) from congrArg not (zp9 its.length 0),show (f != 0)= !(f==0) from rfl,show (o != 0)= !(o==0) from rfl]
 generalize zmV V l=A at *
 generalize zvj V its=W at *
 generalize bz b=B at *
 generalize (f==0)=F at *
 generalize (o==0)=O at *
 generalize rz r=R at *
 generalize zrn r=RO at *
 generalize srtW its=S at *
 generalize fitK f its o b=K at *
 have hgt:decide (Int.ofNat its.length>0)=decide (0<its.length):=zmW its.length 0
 rw [hgt]
 generalize (its.length==0)=I at *
 generalize decide (0<its.length)=J at *
 by_cases h0:k=0
 ·subst h0
  simp only [zp9,show ((Int.ofNat l.length)==(0:Int))=(l.length==0) from zp9 l.length 0]
  generalize (l.length==0)=L
  cases F <;>cases I <;>cases O <;>cases B <;>cases A <;>cases RO <;>rfl
 by_cases h1:k=1
 ·subst h1
  match l,hE with
  | [],_=>cases F <;>cases I <;>cases O <;>cases B <;>cases A <;>cases R <;>rfl
  | [u],_=>cases F <;>cases I <;>cases O <;>cases B <;>cases A <;>cases R <;>rfl
  | [u,v],hE=>
   have e:=hE u (by simp) v
   simp only [List.getD,List.length_cons,List.length_nil,Int.toNat_zero,List.getElem?_cons_zero,List.getElem?_cons_succ,Option.getD,show Int.toNat 1=1 from rfl,zLr]
   simp only [e]
   generalize decide (u=v)=E
   cases F <;>cases I <;>cases O <;>cases B <;>cases A <;>cases R <;>rfl
  | u::v::w::l,_=>
   have e:((Int.ofNat (u::v::w::l).length)==(2:Int))=false:=by rw [beq_eq_false_iff_ne]; simp; omega
   simp only [e]
   cases F <;>cases I <;>cases O <;>cases B <;>cases A <;>cases R <;>rfl
 by_cases h2:k=2
 ·subst h2
  match l with
  | []=>cases F <;>cases I <;>cases O <;>cases B <;>cases A <;>cases R <;>rfl
  | [u]=>
   simp only [List.getD,List.length_cons,List.length_nil,Int.toNat_zero,List.getElem?_cons_zero,Option.getD,zyk,zGC,zMZ]
   generalize isC u=E
   generalize isU u=E'
   cases F <;>cases I <;>cases O <;>cases B <;>cases A <;>cases R <;>cases E <;>cases E' <;>rfl
  | u::v::l=>
   simp only [len2]
   cases F <;>cases I <;>cases O <;>cases B <;>cases A <;>cases R <;>rfl
 by_cases h3:k=3
 ·subst h3
  match l,hC with
  | [],_=>cases F <;>cases I <;>cases O <;>cases B <;>cases A <;>cases R <;>rfl
  | [u],hC=>
   have e:=hC u (by simp)
   simp only [List.getD,List.length_cons,List.length_nil,Int.toNat_zero,List.getElem?_cons_zero,Option.getD,zyk]
   simp only [e]
   generalize hasC u=E
   cases F <;>cases I <;>cases O <;>cases B <;>cases A <;>cases R <;>cases E <;>rfl
  | u::v::l,_=>
   simp only [len2]
   cases F <;>cases I <;>cases O <;>cases B <;>cases A <;>cases R <;>rfl
 by_cases h4:k=4
 ·subst h4
  simp only [show ((Int.ofNat l.length)==(0:Int))=(l.length==0) from zp9 l.length 0]
  generalize (l.length==0)=L
  cases A <;>cases W <;>cases L <;>cases J <;>cases S <;>cases K <;>cases R <;>rfl
 simp only [beqd,h0,h1,h2,h3,h4,decide_false,if_false,cond_false]
 cases F <;>cases I <;>cases O <;>cases B <;>cases A <;>cases R <;>rfl
end
section
variable (V:List Term→Bool) (g:List Term→Bool×Bool)
theorem zV2 (x:Atom) (hl:x.Args.length≤1000000) (hg:∀ a∈x.Args,g a=(true,V a)) (n:Nat) (hn:x.Args.length<n):zqv g n 0 x=(true,bif zmV V x.Args then .inr x else .inl false):=by
 have:=zdB (W:=zwO g) (z:=.inl default) x.Args.length (fun i=>((),(i:Int),())) (fun _=>(x,())) (fun i=>(fun a:List Term=>V a&& !(a.length==0)) (x.Args.getD i default)) (.inl false) (.inr x)
  (fun i hi H K D=>by
   show (zjG g i x).ev H K D=_
   unfold zjG
   have hL:decide ((i:Int)<Int.ofNat x.Args.length)=true:=by simp [hi]
   simp only [Wy.ev_i,Wy.ev_k,Wy.ev_h,Wy.ev_bn,Wy.ev_d,hL,zez,Bool.and_self,cond_true,Int.toNat_natCast,hg _ (zp hi)]
   rw [zM (by omega),show (Int.ofNat (x.Args.getD i default).length==(0:Int))=((x.Args.getD i default).length==0) from zp9 _ 0]
   cases V (x.Args.getD i default) <;>cases ((x.Args.getD i default).length==0) <;>rfl)
  (fun H K D=>by
   show (zjG g x.Args.length x).ev H K D=_
   unfold zjG
   have hL:decide ((x.Args.length:Int)<Int.ofNat x.Args.length)=false:=by simp
   simp only [Wy.ev_i,Wy.ev_k,hL,cond_false]) n hn
 rw [zsa (fun a:List Term=>V a&& !(a.length==0))] at this
 exact this
theorem zNA {τ:Type} [Inhabited τ] (l:List τ) (i:Nat) (h:i<l.length):List.take 1 (List.drop i l)=[l.getD i default]:=by
 rw [zbm h]; rfl
theorem zTR (x y:TT):cmpL [x] [y]=cmpT x y:=by
 simp only [cmpL]
 split
 ·rename_i h; exact h.symm
 ·rfl
theorem zVU (x:Atom) {d:Nat} (hx:zcI (zm d) x) (hd:d≤99) (hg:∀ a∈x.Items,g a.Ann=(true,V a.Ann)) (n:Nat) (hn:x.Items.length<n):zvp g n 0 x=(true,bif zvj V x.Items&&srtW x.Items then .inr () else .inl false):=by
 have hl:x.Items.length≤1000000:=hx.1.2.1
 have:=zdB (W:=zvr g) (z:=.inl default) x.Items.length (fun i=>((),(i:Int),())) (fun _=>(x,())) (fun i=>(fun w:Weighted=>V w.Ann&& !(w.Ann.length==0)) (x.Items.getD i default)&&srtI x.Items i) (.inl false) (.inr ())
  (fun i hi H K D=>by
   show (ziM g i x).ev H K D=_
   unfold ziM
   have hL:decide ((i:Int)<Int.ofNat x.Items.length)=true:=by simp [hi]
   simp only [Wy.ev_i,Wy.ev_k,Wy.ev_h,Wy.ev_bn,Wy.ev_d,hL,zez,Bool.and_self,cond_true,Int.toNat_natCast,hg _ (zp hi)]
   rw [zM (by omega),show (Int.ofNat (x.Items.getD i default).Ann.length==(0:Int))=((x.Items.getD i default).Ann.length==0) from zp9 _ 0]
   cases V (x.Items.getD i default).Ann <;>cases ((x.Items.getD i default).Ann.length==0) <;>try rfl
   simp only [cond_true,cond_false,Bool.not_true,Bool.not_false,Bool.and_self,Bool.true_and]
   cases i with
   | zero=>rfl
   | succ i=>
    have hi':i<x.Items.length:=by omega
    have hw:IntKind.i64.wrap (((i+1:Nat):Int) - 1)=(i:Int):=by rw [zsi (by omega) (by omega)]; rfl
    have e1:(decide ((0:Int)≤(i:Int))&&decide ((i:Int)≤((i+1:Nat):Int))&&decide (((i+1:Nat):Int)≤Int.ofNat x.Items.length))=true:=by
     simp; try omega
    have e2:(decide (((i+1:Nat):Int)≤((i+1+1:Nat):Int))&&decide (((i+1+1:Nat):Int)≤Int.ofNat x.Items.length))=true:=by
     simp; try omega
    have e3:decide (((i+1:Nat):Int)>0)=true:=by simp; try omega
    simp only [hw,e1,e2,e3,cond_true,Bool.true_and,Int.toNat_natCast,show i+1 - i=1 by omega,show i+1+1 - (i+1)=1 by omega,zNA _ _ hi,zNA _ _ hi']
    rw [zu5 (d:=d) (by simp) (fun w hw=>by
     rw [List.mem_singleton] at hw; subst hw; exact (hx.2.2 _ (zp hi')).2) hd,zkI,zkI]
    simp only [List.map,zTR,cond_true,srtI,show i+1 - 1=i from rfl]
    have e4:decide (i+1=0)=false:=by simp
    rw [e4,Bool.false_or]
    generalize cmpT (zY (x.Items.getD i default)) (zY (x.Items.getD (i+1) default))=z
    by_cases hz:z>0
    ·have:¬ z≤0:=by omega
     simp only [hz,this,decide_true,decide_false,cond_true,cond_false]
    ·have:z≤0:=by omega
     simp only [hz,this,decide_true,decide_false,cond_true,cond_false])
  (fun H K D=>by
   show (ziM g x.Items.length x).ev H K D=_
   unfold ziM
   have hL:decide ((x.Items.length:Int)<Int.ofNat x.Items.length)=false:=by simp
   simp only [Wy.ev_i,Wy.ev_k,hL,cond_false]) n hn
 rw [zOa (fun i=>(fun w:Weighted=>V w.Ann&& !(w.Ann.length==0)) (x.Items.getD i default)),zsa (fun w:Weighted=>V w.Ann&& !(w.Ann.length==0))] at this
 exact this
theorem zI5 {A ρ:Type} (s:A) (k:A→Wy0 ρ) (z:ρ):(Wy.bn (true,s) k).fin z=(k s).fin z:=rfl
theorem zKT (x:Atom) {d:Nat} (hx:zcI (zm d) x) (hd:d≤99) (h10:x.Items.length≤1024) (hV:∀ a,V a=true→isB a=isU a) (hgA:∀ a∈x.Args,g a=(true,V a)) (hgI:∀ a∈x.Items,g a.Ann=(true,V a.Ann)):
  zoX g x=(true,zcO V x):=by
 have hS:=fun n hn=>zVU V g x hx hd hgI n hn
 have hA:=fun n hn=>zV2 V g x hx.1.1 hgA n hn
 have hF:=zN6 x.Func x.Items x.Op x.Bound hx.1.2.1
 have hE:∀ a∈x.Args,∀ b,zs5 a b=(true,decide (a=b)):=fun a ha b=>zzA (hx.2.1 a ha) (by omega) b
 have hC:∀ a∈x.Args,zko a=(true,hasC a):=fun a ha=>ztH a (by
  have:=hx.2.1 a ha
  cases d with
  | zero=>exact this.elim
  | succ d=>have:=this.1; omega)
 have hP:=zTH x
 unfold zoX zw6 zcO
 obtain ⟨s,hs1,hs2⟩:∃ s,zqv g ((Int.toNat (0:Int)+(1:Nat))+x.Args.length+x.Items.length) 0 x=(true,s)∧s=bif zmV V x.Args then .inr x else .inl false:=⟨_,hA _ (by omega),rfl⟩
 rw [Atom.eta,hP,hs1]
 simp only [Wy.fin_i,Wy.fin_k,zI5]
 simp only [Wy.fin_i,Wy.fin_k,Wy.fin_bn,cond_true]
 rw [show (x.Row.Table==(0:Int)&&(x.Row.Seq==(0:Int)&&true))=rz x.Row from rfl]
 have b0:(x.Kind==(0:Int))=decide (x.Kind=0):=beqd _ _
 have b1:(x.Kind==(1:Int))=decide (x.Kind=1):=beqd _ _
 have b2:(x.Kind==(2:Int))=decide (x.Kind=2):=beqd _ _
 have b3:(x.Kind==(3:Int))=decide (x.Kind=3):=beqd _ _
 have b4:(x.Kind==(4:Int))=decide (x.Kind=4):=beqd _ _
 by_cases h0:x.Kind=0
 ·rw [b0]
  simp only [h0,decide_true,cond_true,if_true]
  rw [show (Int.ofNat x.Args.length==(0:Int))=(x.Args.length==0) from zp9 _ 0]
  unfold zrn
  match hl:x.Args with
  | []=>cases decide (x.Row.Table≥1) <;>cases decide (x.Row.Seq≥1) <;>cases plA x <;>rfl
  | u::l=>cases decide (x.Row.Table≥1) <;>cases decide (x.Row.Seq≥1) <;>cases plA x <;>cases zmV V (u::l) <;>rfl
 rw [b0]
 simp only [h0,decide_false,cond_false,if_false]
 cases hA:zmV V x.Args with
 | false=>rw [hs2,hA]; cases rz x.Row <;>rfl
 | true=>
 rw [hA,cond_true] at hs2
 have hy:getR s=x:=by rw [hs2]; rfl
 have hy2:isL s=false:=by rw [hs2]; rfl
 rw [hy2]
 generalize getR s=y at hy ⊢
 subst hy
 cases rz y.Row with
 | false=>rfl
 | true=>
 simp only [Bool.not_true,cond_false,cond_true,isL,getR,Bool.true_and,Atom.eta,hP,hF,b1,b2,b3,b4]
 by_cases h1:y.Kind=1
 ·simp only [h1,decide_true,cond_true,if_true]
  match hl:y.Args with
  | []=>cases plA y <;>rfl
  | [u]=>cases plA y <;>rfl
  | [u,v]=>
   have e:=hE u (by rw [hl]; simp) v
   simp only [List.getD,List.length_cons,List.length_nil,Int.toNat_zero,List.getElem?_cons_zero,List.getElem?_cons_succ,Option.getD,show Int.toNat 1=1 from rfl,zLr]
   simp only [e]
   generalize decide (u=v)=E
   cases plA y <;>rfl
  | u::v::w::l=>
   have e:((Int.ofNat (u::v::w::l).length)==(2:Int))=false:=by rw [beq_eq_false_iff_ne]; simp; omega
   simp only [e]
   cases plA y <;>rfl
 simp only [h1,decide_false,cond_false,if_false]
 by_cases h2:y.Kind=2
 ·simp only [h2,decide_true,cond_true,if_true]
  match hl:y.Args with
  | []=>cases plA y <;>rfl
  | [u]=>
   have e:=hC u (by rw [hl]; simp)
   have eV:V u=true:=by
    rw [hl] at hA
    unfold zmV at hA
    simp at hA
    exact hA.1
   simp only [List.getD,List.length_cons,List.length_nil,Int.toNat_zero,List.getElem?_cons_zero,Option.getD,zyk,zCT,e,hV u eV]
   match u with
   | []=>cases plA y <;>rfl
   | [t]=>
    have e1:hasC [t]=(t.Factors.length==0):=by simp [hasC]
    have e2:isC [t]=(t.Factors.length==0):=rfl
    rw [e1,e2]
    cases plA y <;>cases (t.Factors.length==0) <;>cases isU [t] <;>rfl
   | t::s::r=>
    simp only [len2]
    cases plA y <;>rfl
  | u::v::l=>
   simp only [len2]
   cases plA y <;>rfl
 simp only [h2,decide_false,cond_false,if_false]
 by_cases h3:y.Kind=3
 ·simp only [h3,decide_true,cond_true,if_true]
  match hl:y.Args with
  | []=>cases plA y <;>rfl
  | [u]=>
   have e:=hC u (by rw [hl]; simp)
   simp only [List.getD,List.length_cons,List.length_nil,Int.toNat_zero,List.getElem?_cons_zero,Option.getD,zyk]
   simp only [e]
   cases plA y <;>cases hasC u <;>rfl
  | u::v::l=>
   simp only [len2]
   cases plA y <;>rfl
 simp only [h3,decide_false,cond_false,if_false]
 by_cases h4:y.Kind=4
 ·have e10:decide (Int.ofNat y.Items.length>(1024:Int))=false:=by simp; omega
  rw [hS _ (by omega)]
  rw [e10]
  simp only [h4,decide_true,cond_true,if_true,cond_false]
  rw [show (Int.ofNat y.Args.length != (0:Int))= !(y.Args.length==0) from congrArg not (zp9 y.Args.length 0),show (Int.ofNat y.Items.length==(0:Int))=(y.Items.length==0) from zp9 y.Items.length 0]
  have e11:decide (0<y.Items.length)= !(y.Items.length==0):=by
   rw [beqn]
   by_cases h:y.Items.length=0
   ·simp [h]
   ·have:0<y.Items.length:=by omega
    simp [h,this]
  rw [e11]
  cases (y.Args.length==0) <;>cases (y.Items.length==0) <;>cases fitK y.Func y.Items y.Op y.Bound <;>cases zvj V y.Items <;>cases srtW y.Items <;>rfl
 simp only [h4,decide_false,cond_false,if_false]
end
section
variable (V:List Term→Bool) (vat:Atom→Bool)
theorem V_9 (g:Atom→Bool×Bool) (a t10:List Term) (t11 t12:Int) (t:Term) {d:Nat} (ht:zfF (zm d) t.Factors) (hd:d≤99) (hg:∀ f∈t.Factors,g f.Atom=(true,vat f.Atom)) (n:Nat) (hn:t.Factors.length<n):
  zpl g n a t10 t11 t12 t.Factors t.Factors.length 0 t=(true,bif okF vat t.Factors then .inr (a,t10,t11,t12) else .inl false):=by
 have hl:=ht.1
 exact zdB (W:=zlp g) (z:=.inl default) t.Factors.length (fun k=>(a,(),t10,t11,t12,t.Factors,(t.Factors.length:Int),(k:Int),())) (fun _=>(t,())) (chkF vat t.Factors) (.inl false) (.inr (a,t10,t11,t12))
  (fun k hk H K D=>by
   show (ziO g a t10 t11 t12 t.Factors t.Factors.length k t).ev H K D=_
   unfold ziO chkF
   have hgt:decide ((k:Int)>0)= !decide (k=0):=by
    by_cases h:k=0
    ·subst h; rfl
    ·have:0<k:=by omega
     simp [h,this]
   simp only [Atom.eta,Wy.ev_i,Wy.ev_k,Wy.ev_h,Wy.ev_bn,Wy.ev_d,tT,hk,zLT,hg _ (zp hk),hgt]
   rw [zM (by omega)]
   have e1:decide ((t.Factors.getD k default).Exp<1)= !decide (1≤(t.Factors.getD k default).Exp):=by
    by_cases h:1≤(t.Factors.getD k default).Exp
    ·have:¬ (t.Factors.getD k default).Exp<1:=by omega
     simp only [h,this,decide_true,decide_false,Bool.not_true]
    ·have:(t.Factors.getD k default).Exp<1:=by omega
     simp only [h,this,decide_true,decide_false,Bool.not_false]
   rw [e1]
   generalize decide (1≤(t.Factors.getD k default).Exp)=E1
   generalize ((t.Factors.getD k default).Exp != 1)=E2
   generalize ((t.Factors.getD k default).Atom.Kind==3||(t.Factors.getD k default).Atom.Kind==4)=E3
   by_cases h0:k=0
   ·simp only [h0,decide_true,Bool.not_true,cond_false,Bool.true_or,Bool.and_true]
    cases E1 <;>cases E2 <;>cases E3 <;>cases vat (t.Factors.getD 0 default).Atom <;>rfl
   ·have hp:IntKind.i64.wrap ((k:Int) - 1)=((k - 1:Nat):Int):=zsi (by omega) (by omega)
    have hk':k - 1<t.Factors.length:=by omega
    have hfx:zcI (zm d) (t.Factors.getD (k - 1) default).Atom:=ht.2 _ (zp hk')
    have e2:∀ z:Int,decide (z≥0)= !decide (z<0):=fun z=>by
     by_cases h:z<0
     ·have:¬ z≥0:=by omega
      simp [h,this]
     ·have:z≥0:=by omega
      simp [h,this]
    simp only [h0,hp,tT,hk',zqL hfx hd,e2,Bool.false_or]
    generalize decide (cmpT (zdP (t.Factors.getD (k - 1) default).Atom) (zdP (t.Factors.getD k default).Atom)<0)=E4
    cases E1 <;>cases E2 <;>cases E3 <;>cases E4 <;>cases vat (t.Factors.getD k default).Atom <;>rfl)
  (fun H K D=>by
   show (ziO g a t10 t11 t12 t.Factors t.Factors.length t.Factors.length t).ev H K D=_
   unfold ziO
   simp only [Wy.ev_i,Wy.ev_k,tT,Nat.lt_irrefl]) n hn
theorem V_4 (g:Atom→Bool×Bool) (a:List Term) {d:Nat} (h:zm (d+1) a) (hd:d≤99) (hg:∀ t∈a,∀ f∈t.Factors,g f.Atom=(true,vat f.Atom)) (n:Nat) (hn:a.length<n):
  zvy g n a a a.length 0=(true,bif allN (chkT vat a) a.length 0 then .inr () else .inl false):=by
 have hl:=h.1
 exact zdB (W:=zlq g) (z:=.inl default) a.length (fun k=>(a,a,(a.length:Int),(k:Int),())) (fun _=>()) (chkT vat a) (.inl false) (.inr ())
  (fun k hk H K D=>by
   show (ziP g a a a.length k).ev H K D=_
   unfold ziP chkT
   have ht:=h.2 _ (zp hk)
   have hgt:decide ((k:Int)>0)= !decide (k=0):=by
    by_cases h:k=0
    ·subst h; rfl
    ·have:0<k:=by omega
     simp [h,this]
   simp only [Atom.eta,Wy.ev_i,Wy.ev_k,Wy.ev_h,Wy.ev_bn,Wy.ev_d,tT,hk,hgt]
   rw [V_9 vat g a a a.length k _ ht hd (hg _ (zp hk)) _ (by omega)]
   have e1:decide ((a.getD k default).Coeff<1)= !decide (1≤(a.getD k default).Coeff):=by
    by_cases h:1≤(a.getD k default).Coeff
    ·have:¬ (a.getD k default).Coeff<1:=by omega
     simp only [h,this,decide_true,decide_false,Bool.not_true]
    ·have:(a.getD k default).Coeff<1:=by omega
     simp only [h,this,decide_true,decide_false,Bool.not_false]
   have e3:decide ((a.getD k default).Coeff>1152921504606846976)= !decide ((a.getD k default).Coeff≤1152921504606846976):=by
    by_cases h:(a.getD k default).Coeff≤1152921504606846976
    ·have:¬ (a.getD k default).Coeff>1152921504606846976:=by omega
     simp only [h,this,decide_true,decide_false,Bool.not_true]
    ·have:(a.getD k default).Coeff>1152921504606846976:=by omega
     simp only [h,this,decide_true,decide_false,Bool.not_false]
   rw [e1,e3]
   generalize decide (1≤(a.getD k default).Coeff)=E1
   generalize decide ((a.getD k default).Coeff≤1152921504606846976)=E2
   by_cases h0:k=0
   ·subst h0
    simp only [decide_true,Bool.not_true,cond_false,Bool.true_or,Bool.and_true]
    cases okF vat (a.getD 0 default).Factors <;>cases E1 <;>cases E2 <;>try rfl
   ·have hp:IntKind.i64.wrap ((k:Int) - 1)=((k - 1:Nat):Int):=zsi (by omega) (by omega)
    have hk':k - 1<a.length:=by omega
    have hfx:zfF (zm d) (a.getD (k - 1) default).Factors:=h.2 _ (zp hk')
    have e2:∀ z:Int,decide (z≥0)= !decide (z<0):=fun z=>by
     by_cases h:z<0
     ·have:¬ z≥0:=by omega
      simp [h,this]
     ·have:z≥0:=by omega
      simp [h,this]
    simp only [h0,hp,tT,hk',zqN hfx hd,e2,Bool.false_or]
    generalize decide (cmpL (zbw (a.getD (k - 1) default).Factors) (zbw (a.getD k default).Factors)<0)=E4
    cases okF vat (a.getD k default).Factors <;>cases E1 <;>cases E2 <;>cases E4 <;>try rfl
    simp only [cond_true,cond_false,Bool.not_true,isL,getR,Bool.and_self]
    rw [zM (by omega),decide_eq_false (show ¬ ((k - 1:Nat):Int)<0 by omega)]; rfl)
  (fun H K D=>by
   show (ziP g a a a.length a.length).ev H K D=_
   unfold ziP
   simp only [Wy.ev_i,Wy.ev_k,tT,Nat.lt_irrefl]) n hn
theorem zRl (g:Atom→Bool×Bool) (a:List Term) {d:Nat} (h:zm (d+1) a) (hd:d≤99) (hs:zI a≤4611686018427387904) (hg:∀ t∈a,∀ f∈t.Factors,g f.Atom=(true,vat f.Atom)):zk5 g a=(true,vAnn vat a):=by
 unfold zk5 zqj vAnn
 have:=V_4 vat g a h hd hg (a.length+a.length+(Int.ofNat a.length).toNat +Int.toNat (0:Int)+(1:Nat)) (by omega)
 rw [show Int.ofNat a.length=(a.length:Int) from rfl] at *
 simp only [Wy.fin_i,Wy.fin_k,Wy.fin_bn,zMA h (by omega) hs,this,cond_true]
 cases zfi a <;>cases allN (chkT vat a) a.length 0 <;>rfl
theorem zWd (g:Atom→Bool×Bool) (a:List Term) (i:Int) (t:Term) {d:Nat} (ht:zfF (zm d) t.Factors) (hd:d≤99) (hg:∀ f∈t.Factors,g f.Atom=(true,vat f.Atom)) (hk:∀ x,vat x=true→0≤x.Kind∧x.Kind≤4) (n:Nat) (hn:t.Factors.length<n):
  ztP g n a i 0 t=(true,bif okF vat t.Factors then .inr (a,i) else .inl false):=by
 have hl:=ht.1
 exact zdB (W:=zAj g) (z:=.inl default) t.Factors.length (fun k=>(a,i,(),(k:Int),())) (fun _=>(t,())) (chkF vat t.Factors) (.inl false) (.inr (a,i))
  (fun k hk1 H K D=>by
   show (zlY g a i k t).ev H K D=_
   unfold zlY chkF
   have hgt:decide ((k:Int)>0)= !decide (k=0):=by
    by_cases h:k=0
    ·subst h; rfl
    ·have:0<k:=by omega
     simp [h,this]
   simp only [Atom.eta,Wy.ev_i,Wy.ev_k,Wy.ev_h,Wy.ev_bn,Wy.ev_d,tT,hk1,hg _ (zp hk1),hgt]
   rw [zM (by omega)]
   have hk2:=hk (t.Factors.getD k default).Atom
   have e1:decide ((t.Factors.getD k default).Exp<1)= !decide (1≤(t.Factors.getD k default).Exp):=by
    by_cases h:1≤(t.Factors.getD k default).Exp
    ·have:¬ (t.Factors.getD k default).Exp<1:=by omega
     simp only [h,this,decide_true,decide_false,Bool.not_true]
    ·have:(t.Factors.getD k default).Exp<1:=by omega
     simp only [h,this,decide_true,decide_false,Bool.not_false]
   rw [e1]
   by_cases hx1:1≤(t.Factors.getD k default).Exp
   rotate_left
   ·simp only [hx1,decide_false,Bool.not_false,cond_true,Bool.false_and,cond_false]
   cases hv:vat (t.Factors.getD k default).Atom with
   | false=>
    rw [Bool.and_false]
    cases decide (1≤(t.Factors.getD k default).Exp) <;>cases decide ((t.Factors.getD k default).Exp>1) <;>cases decide ((t.Factors.getD k default).Atom.Kind≥3) <;>rfl
   | true=>
   obtain ⟨k1,k2⟩:=hk2 hv
   have e5:((t.Factors.getD k default).Atom.Kind==3||(t.Factors.getD k default).Atom.Kind==4)=decide ((t.Factors.getD k default).Atom.Kind≥3):=by
    rw [beqd,beqd, ← Bool.decide_or]
    congr 1
    apply propext; omega
   have e6:((t.Factors.getD k default).Exp != 1)=decide ((t.Factors.getD k default).Exp>1):=by
    rw [bne0, ← decide_not]
    congr 1
    apply propext; omega
   rw [e5,e6]
   simp only [hx1,decide_true,Bool.not_true,cond_false,Bool.true_and]
   generalize decide ((t.Factors.getD k default).Exp>1)=E2
   generalize decide ((t.Factors.getD k default).Atom.Kind≥3)=E3
   by_cases h0:k=0
   ·simp only [h0,decide_true,Bool.not_true,cond_false,Bool.true_or,Bool.and_true]
    cases E2 <;>cases E3 <;>rfl
   ·have hp:IntKind.i64.wrap ((k:Int) - 1)=((k - 1:Nat):Int):=zsi (by omega) (by omega)
    have hk':k - 1<t.Factors.length:=by omega
    have hfx:zcI (zm d) (t.Factors.getD (k - 1) default).Atom:=ht.2 _ (zp hk')
    have e2:∀ z:Int,decide (z≥0)= !decide (z<0):=fun z=>by
     by_cases h:z<0
     ·have:¬ z≥0:=by omega
      simp [h,this]
     ·have:z≥0:=by omega
      simp [h,this]
    simp only [h0,hp,tT,hk',zqt hfx hd,e2,Bool.false_or]
    generalize decide (cmpT (zdP (t.Factors.getD (k - 1) default).Atom) (zdP (t.Factors.getD k default).Atom)<0)=E4
    cases E2 <;>cases E3 <;>cases E4 <;>rfl)
  (fun H K D=>by
   show (zlY g a i t.Factors.length t).ev H K D=_
   unfold zlY
   simp only [Wy.ev_i,Wy.ev_k,tT,Nat.lt_irrefl]) n hn
theorem RV_4 (g:Atom→Bool×Bool) (a:List Term) {d:Nat} (h:zm (d+1) a) (hd:d≤99) (hg:∀ t∈a,∀ f∈t.Factors,g f.Atom=(true,vat f.Atom)) (hk:∀ x,vat x=true→0≤x.Kind∧x.Kind≤4) (n:Nat) (hn:a.length<n):
  zBr g n a 0=(true,bif allN (chkT vat a) a.length 0 then .inr () else .inl false):=by
 have hl:=h.1
 exact zdB (W:=zBw g) (z:=.inl default) a.length (fun k=>(a,(k:Int),())) (fun _=>()) (chkT vat a) (.inl false) (.inr ())
  (fun k hk1 H K D=>by
   show (zm0 g a k).ev H K D=_
   unfold zm0 chkT
   have ht:=h.2 _ (zp hk1)
   have hgt:decide ((k:Int)>0)= !decide (k=0):=by
    by_cases h:k=0
    ·subst h; rfl
    ·have:0<k:=by omega
     simp [h,this]
   simp only [Atom.eta,Wy.ev_i,Wy.ev_k,Wy.ev_h,Wy.ev_bn,Wy.ev_d,tT,hk1,hgt]
   rw [zWd vat g a k _ ht hd (hg _ (zp hk1)) hk _ (by omega)]
   have e1:decide ((a.getD k default).Coeff<1)= !decide (1≤(a.getD k default).Coeff):=by
    by_cases h:1≤(a.getD k default).Coeff
    ·have:¬ (a.getD k default).Coeff<1:=by omega
     simp only [h,this,decide_true,decide_false,Bool.not_true]
    ·have:(a.getD k default).Coeff<1:=by omega
     simp only [h,this,decide_true,decide_false,Bool.not_false]
   have e3:decide ((a.getD k default).Coeff>1152921504606846976)= !decide ((a.getD k default).Coeff≤1152921504606846976):=by
    by_cases h:(a.getD k default).Coeff≤1152921504606846976
    ·have:¬ (a.getD k default).Coeff>1152921504606846976:=by omega
     simp only [h,this,decide_true,decide_false,Bool.not_true]
    ·have:(a.getD k default).Coeff>1152921504606846976:=by omega
     simp only [h,this,decide_true,decide_false,Bool.not_false]
   rw [e1,e3]
   generalize decide (1≤(a.getD k default).Coeff)=E1
   generalize decide ((a.getD k default).Coeff≤1152921504606846976)=E2
   by_cases h0:k=0
   ·subst h0
    simp only [decide_true,Bool.not_true,cond_false,Bool.true_or,Bool.and_true]
    cases okF vat (a.getD 0 default).Factors <;>cases E1 <;>cases E2 <;>try rfl
   ·have hp:IntKind.i64.wrap ((k:Int) - 1)=((k - 1:Nat):Int):=zsi (by omega) (by omega)
    have hk':k - 1<a.length:=by omega
    have hfx:zfF (zm d) (a.getD (k - 1) default).Factors:=h.2 _ (zp hk')
    have e2:∀ z:Int,decide (z≥0)= !decide (z<0):=fun z=>by
     by_cases h:z<0
     ·have:¬ z≥0:=by omega
      simp [h,this]
     ·have:z≥0:=by omega
      simp [h,this]
    simp only [h0,hp,tT,hk',znD hfx hd,e2,Bool.false_or]
    generalize decide (cmpL (zbw (a.getD (k - 1) default).Factors) (zbw (a.getD k default).Factors)<0)=E4
    cases okF vat (a.getD k default).Factors <;>cases E1 <;>cases E2 <;>cases E4 <;>try rfl
    simp only [cond_true,cond_false,Bool.not_true,isL,getR,Bool.and_self]
    rw [zM (by omega),decide_eq_false (show ¬ ((k - 1:Nat):Int)<0 by omega)]; rfl)
  (fun H K D=>by
   show (zm0 g a a.length).ev H K D=_
   unfold zm0
   simp only [Wy.ev_i,Wy.ev_k,tT,Nat.lt_irrefl]) n hn
theorem zPC (g:Atom→Bool×Bool) (a:List Term) {d:Nat} (h:zm (d+1) a) (hd:d≤99) (hs:zI a≤4611686018427387904) (hg:zfi a=true→∀ t∈a,∀ f∈t.Factors,g f.Atom=(true,vat f.Atom)) (hk:∀ x,vat x=true→0≤x.Kind∧x.Kind≤4):zuA g a=(true,vAnn vat a):=by
 unfold zuA zDh vAnn
 rw [Wy.fin_bn,zPS h (by omega) hs]
 cases hw:zfi a with
 | false=>rfl
 | true=>
  have:=RV_4 vat g a h hd (hg hw) hk ((a.length+Int.toNat (0:Int)+(1:Nat))+szTs a) (by omega)
  simp only [Wy.fin_i,Wy.fin_k,Wy.fin_bn,this,cond_true]
  cases allN (chkT vat a) a.length 0 <;>rfl
end
theorem zJH {l:List (List Term)} {a:List Term} (h:a∈l):zI a≤zex l:=by
 induction l with
 | nil=>cases h
 | cons b r ih=>
  rw [zeq]
  rcases List.mem_cons.1 h with rfl | h
  ·omega
  ·have:=ih h; omega
theorem zHp {l:List Weighted} {w:Weighted} (h:w∈l):zI w.Ann≤zcJ l:=by
 induction l with
 | nil=>cases h
 | cons b r ih=>
  rw [zhe]
  rcases List.mem_cons.1 h with rfl | h
  ·omega
  ·have:=ih h; omega
theorem zHk {m:Nat} {a:List Term} (h:z7 m a=true):isB a=isU a:=by
 cases m with
 | zero=>cases h
 | succ m=>
 match a with
 | []=>rfl
 | [t]=>
  simp only [z7,vAnn,Bool.and_eq_true] at h
  have h1:=zd8.1 h.2 0 (by omega) (by simp)
  simp only [chkT,Bool.and_eq_true] at h1
  have h2:=h1.2
  obtain ⟨c,fs⟩:=t
  match fs with
  | []=>rfl
  | [f]=>
   have h3:=zd8.1 h2 0 (by omega) (by simp)
   simp only [chkF,Bool.and_eq_true] at h3
   have h4:=zs2 h3.2
   simp only [List.getD_cons_zero] at h4
   show (c==1&&(f.Exp==1&&decide (2≤f.Atom.Kind)))=(c==1&&(f.Exp==1&&(f.Atom.Kind==2||f.Atom.Kind==3||f.Atom.Kind==4)))
   have e:decide (2≤f.Atom.Kind)=(f.Atom.Kind==2||f.Atom.Kind==3||f.Atom.Kind==4):=by
    rw [beqd,beqd,beqd, ← Bool.decide_or, ← Bool.decide_or]
    congr 1
    apply propext; omega
   rw [e]
  | f::f'::r=>rfl
 | t::u::r=>rfl
theorem zV5 (g) (l:List (List Term)):zcc g l=IG (fun (_:Unit) x=>g x) (l.length+(Int.ofNat l.length).toNat +Int.toNat (0:Int)+(1:Nat)) () l:=rfl
theorem zWe (g) (l:List Weighted):zcy g l=IG (fun (_:Unit) x=>g x) (l.length+(Int.ofNat l.length).toNat +Int.toNat (0:Int)+(1:Nat)) () l:=rfl
theorem zC0:∀ n,
  (∀ d m a,zm d a→10*d≤n→d≤m→d≤100→zI a≤4611686018427387904→ziR n a=(true,z7 m a))∧
  (∀ d m x,zcI (zm d) x→10*d+9≤n→d≤m→d≤99→zeC x≤4611686018427387904→zkO n x=(true,zcO (z7 m) x))∧
  (∀ d m a,zm d a→10*d+6≤n→d≤m→d≤99→zI a≤4611686018427387904→zeB n a=(true, !(z7 m a&& !(a.length==0))))∧
  (∀ d m (w:Weighted),zm d w.Ann→10*d+6≤n→d≤m→d≤99→zI w.Ann≤4611686018427387904→zeD n w=(true, !(z7 m w.Ann&& !(w.Ann.length==0))))∧
  (∀ d m (l:List (List Term)),l.length≤1000000→(∀ a∈l,zm d a∧zI a≤4611686018427387904)→10*d+7≤n→d≤m→d≤99→zce n l=(true,ixf (fun a=> !(z7 m a&& !(a.length==0))) l 0))∧
  (∀ d m (l:List (List Term)),l.length≤1000000→(∀ a∈l,zm d a∧zI a≤4611686018427387904)→10*d+8≤n→d≤m→d≤99→zb1 n l=(true, !zmV (z7 m) l))∧
  (∀ d m (l:List Weighted),l.length≤1000000→(∀ a∈l,zm d a.Ann∧zI a.Ann≤4611686018427387904)→10*d+7≤n→d≤m→d≤99→zcD n l=(true,ixf (fun a=> !(z7 m a.Ann&& !(a.Ann.length==0))) l 0))∧
  (∀ d m (l:List Weighted),l.length≤1000000→(∀ a∈l,zm d a.Ann∧zI a.Ann≤4611686018427387904)→10*d+8≤n→d≤m→d≤99→zcl n l=(true, !zvj (z7 m) l))
 | 0=>by
  refine ⟨?_, ?_, ?_, ?_, ?_, ?_, ?_, ?_⟩
  ·intro d m a h hd; have:d=0:=by omega
   subst this; exact h.elim
  all_goals (intros; omega)
 | n+1=>by
  obtain ⟨h1,h2,h3,h4,h5,h6,h7,h8⟩:=zC0 n
  refine ⟨?_, ?_, ?_, ?_, ?_, ?_, ?_, ?_⟩
  ·intro d m a h hd hm hd2 hs
   cases d with
   | zero=>exact h.elim
   | succ d=>
    cases m with
    | zero=>omega
    | succ m=>
     rw [zEg]
     exact zRl _ _ a h (by omega) hs fun t ht f hf=>h2 d m f.Atom ((h.2 t ht).2 f hf) (by omega) (by omega) (by omega) (by
      have:=zMc ht hf; rw [zf6]; omega)
  ·intro d m x h hd hm hd2 hs
   rw [zAH]
   rw [zf6] at hs
   exact zL0 _ _ _ _ _ x h hd2 (h6 d m _ h.1.1 (fun a ha=>⟨h.2.1 a ha,by have:=zJH ha; omega⟩) (by omega) hm hd2)
    (h8 d m _ h.1.2.1 (fun a ha=>⟨(h.2.2 a ha).2,by have:=zHp ha; omega⟩) (by omega) hm hd2)
  ·intro d m a h hd hm hd2 hs
   rw [zxx]
   unfold ziU zkW
   rw [Wy.fin_bn,h1 d m a h (by omega) hm (by omega) hs]
   simp only [cond_true,Wy.fin_i,Wy.fin_k,show (Int.ofNat a.length==(0:Int))=(a.length==0) from zp9 a.length 0]
   cases z7 m a <;>simp
  ·intro d m a h hd hm hd2 hs
   rw [zxP]
   unfold ziY zk7
   rw [Wy.fin_bn,h1 d m a.Ann h (by omega) hm (by omega) hs]
   simp only [cond_true,Wy.fin_i,Wy.fin_k,show (Int.ofNat a.Ann.length==(0:Int))=(a.Ann.length==0) from zp9 a.Ann.length 0]
   cases z7 m a.Ann <;>simp
  ·intro d m l hl h hd hm hd2
   rw [zkL,zV5]
   exact zFo _ _ _ _ _ (by omega) (fun x hx=>h3 d m x (h x hx).1 (by omega) hm hd2 (h x hx).2) (by omega)
  ·intro d m l hl h hd hm hd2
   rw [zjW]
   unfold zbY zcU
   rw [zmw (h5 d m l hl h (by omega) hm hd2)]
   simp [zmV,List.all_eq_not_any_not]
  ·intro d m l hl h hd hm hd2
   rw [zl0,zWe]
   exact zFo _ _ _ _ _ (by omega) (fun x hx=>h4 d m x (h x hx).1 (by omega) hm hd2 (h x hx).2) (by omega)
  ·intro d m l hl h hd hm hd2
   rw [zk1]
   unfold zch zdm
   rw [zmw (h7 d m l hl h (by omega) hm hd2)]
   simp [zvj,List.all_eq_not_any_not]
theorem zPz {a:List Term} (h:zfi a=true) {t:Term} (ht:t∈a) {f:Factor} (hf:f∈t.Factors):f.Atom.Items.length≤1024∧f.Exp≤64∧t.Factors.length≤64:=by
 simp only [zfi,Bool.and_eq_true,List.all_eq_true] at h
 have:=h.2 t ht
 simp only [withF,Bool.not_eq_true',Bool.or_eq_false_iff,decide_eq_false_iff_not,List.any_eq_false] at this
 have h2:=this.2 f hf
 simp at h2
 omega
theorem zKI:∀ n,
  (∀ d m a,zm d a→3*d≤n→d≤m→d≤100→zI a≤4611686018427387904→zuF n a=(true,z7 m a))∧
  (∀ d m x,zcI (zm d) x→3*d+2≤n→d≤m→d≤99→zeC x≤4611686018427387904→x.Items.length≤1024→ztE n x=(true,zcO (z7 m) x))
 | 0=>by
  refine ⟨?_, ?_⟩
  ·intro d m a h hd; have:d=0:=by omega
   subst this; exact h.elim
  ·intros; omega
 | n+1=>by
  obtain ⟨h1,h2⟩:=zKI n
  refine ⟨?_, ?_⟩
  ·intro d m a h hd hm hd2 hs
   cases d with
   | zero=>exact h.elim
   | succ d=>
    cases m with
    | zero=>omega
    | succ m=>
     rw [zJ2]
     exact zPC _ _ a h (by omega) hs (fun hw t ht f hf=>h2 d m f.Atom ((h.2 t ht).2 f hf) (by omega) (by omega) (by omega) (by
      have:=zMc ht hf; rw [zf6]; omega) (zPz hw ht hf).1) fun x hx=>zs2 hx
  ·intro d m x h hd hm hd2 hs h10
   rw [zF3]
   rw [zf6] at hs
   exact zKT _ _ x h hd2 h10 (fun a ha=>zHk ha) (fun a ha=>h1 d m a (h.2.1 a ha) (by omega) hm (by omega) (by have:=zJH ha; omega))
    fun a ha=>h1 d m a.Ann (h.2.2 a ha).2 (by omega) hm (by omega) (by have:=zHp ha; omega)
def zC (a:List Term):Bool:=z7 100 a
theorem zMO {d:Nat} {a:List Term} (h:zm d a) (hd:d≤100) (hs:zI a≤4611686018427387904):zbP a=(true,zC a):=(zC0 1000).1 d 100 a h (by omega) hd hd hs
theorem zLn {d:Nat} {a:List Term} (h:zm d a) (hd:d≤100) (hs:zI a≤4611686018427387904):zfD a=(true,zC a):=(zKI 1000).1 d 100 a h (by omega) hd hd hs
def zJw (a:List Term):Wy0 (List Term×Int):=.bn (zAZ a) fun r0=>.i (!r0) (.k ([],6)) (.k (a,0))
def zn3 (a:List Term):Bool×(List Term×Int):=(zJw a).fin default
def zHq (x_:Atom):Wy0 (List Term):=.k [TermOf.mk 1 [FactorOf.mk (Atom.mk x_.Kind x_.Row x_.Args x_.Func x_.Items x_.Op x_.Bound) 1]]
def zol (x_:Atom):Bool×List Term:=(zHq x_).fin default
def zPp:Wy0 (List Term):=.k [TermOf.mk 1 []]
def zHe:Bool×List Term:=(zPp).fin default
theorem zJo {τ:Type} [Inhabited τ] {l:List τ} {x:τ} (h:x∈l):∃ i,i<l.length∧l.getD i default=x:=by
 obtain ⟨i,hi,e⟩:=List.mem_iff_getElem.1 h
 exact ⟨i,hi,by rw [List.getD_eq_getElem?_getD,List.getElem?_eq_getElem hi]; exact e⟩
theorem zzc {vat:Atom→Bool} {a:List Term} (h:vAnn vat a=true):zfi a=true:=by
 simp only [vAnn,Bool.and_eq_true] at h; exact h.1
theorem zpM {vat:Atom→Bool} {a:List Term} (h:vAnn vat a=true) {t:Term} (ht:t∈a):(1≤t.Coeff∧t.Coeff≤1152921504606846976)∧okF vat t.Factors=true:=by
 simp only [vAnn,Bool.and_eq_true] at h
 obtain ⟨i,hi,rfl⟩:=zJo ht
 have:=zd8.1 h.2 i (by omega) (by omega)
 simp only [chkT,Bool.and_eq_true,decide_eq_true_eq] at this
 exact ⟨this.1.1,this.2⟩
theorem zmf {vat:Atom→Bool} {fs:List Factor} (h:okF vat fs=true) {f:Factor} (hf:f∈fs):(1≤f.Exp∧(f.Atom.Kind=3∨f.Atom.Kind=4→f.Exp=1))∧vat f.Atom=true:=by
 obtain ⟨i,hi,rfl⟩:=zJo hf
 have:=zd8.1 h i (by omega) (by omega)
 simp only [chkF,Bool.and_eq_true,decide_eq_true_eq] at this
 refine ⟨⟨this.1.1.1,fun hk=> ?_⟩,this.2⟩
 have h2:=this.1.1.2
 rcases hk with hk | hk
 ·rw [hk] at h2; simpa using h2
 ·rw [hk] at h2; simpa using h2
theorem zT4 {b:Value} (h:bz b=true):b=⟨0,0,ByteArray.mk #[]⟩:=by
 unfold bz at h
 rw [zH9] at h
 simp only [Bool.and_eq_true,beq_iff_eq,decide_eq_true_eq,and_true] at h
 obtain ⟨k,i,t⟩:=b
 simp only at h
 obtain ⟨rfl,rfl,rfl⟩:=h
 rfl
theorem zp4 {v:Value} (h:valV v=true):v.Text.size≤255:=by
 simp only [valV,Bool.or_eq_true,Bool.and_eq_true,beq_iff_eq,decide_eq_true_eq] at h
 omega
theorem zF1 {x:Atom} (h:plA x=true):x.Func=0∧x.Items=[]∧x.Op=0∧x.Bound=⟨0,0,ByteArray.mk #[]⟩:=by
 simp only [plA,Bool.and_eq_true,beq_iff_eq] at h
 exact ⟨h.1.1.1,List.length_eq_zero_iff.1 h.1.1.2,h.1.2,zT4 h.2⟩
theorem zT0 {r:RowID} (h:rz r=true):r=⟨0,0⟩:=by
 simp only [rz,Bool.and_eq_true,beq_iff_eq,and_true] at h
 obtain ⟨t,s⟩:=r
 simp only at h
 obtain ⟨rfl,rfl⟩:=h; rfl
inductive VA (V:List Term→Bool):Atom→Prop
 | var (r:RowID) (h:zrn r=true):VA V ⟨0,r,[],0,[],0,⟨0,0,ByteArray.mk #[]⟩⟩
 | mon (a b:List Term) (ha:V a=true) (hb:V b=true) (ha0:a≠[]) (hb0:b≠[]) (h:a≠b):VA V ⟨1,⟨0,0⟩,[a,b],0,[],0,⟨0,0,ByteArray.mk #[]⟩⟩
 | del (a:List Term) (ha:V a=true) (ha0:a≠[]) (h:isC a=false) (h':isU a=false):VA V ⟨2,⟨0,0⟩,[a],0,[],0,⟨0,0,ByteArray.mk #[]⟩⟩
 | abs (a:List Term) (ha:V a=true) (ha0:a≠[]) (h:hasC a=false):VA V ⟨3,⟨0,0⟩,[a],0,[],0,⟨0,0,ByteArray.mk #[]⟩⟩
 | tst (f:Int) (l:List Weighted) (o:Int) (b:Value) (hl:l≠[]) (hi:∀ w∈l,V w.Ann=true∧w.Ann≠[]) (hs:srtW l=true) (hf:fitK f l o b=true):VA V ⟨4,⟨0,0⟩,[],f,l,o,b⟩
theorem zcq {V:List Term→Bool} {x:Atom}:zcO V x=true↔VA V x:=by
 constructor
 ·intro h
  have hk:=zs2 h
  obtain ⟨k,r,l,f,its,o,b⟩:=x
  simp only at hk
  unfold zcO at h
  simp only [Bool.and_eq_true] at h
  obtain ⟨h1,h2⟩:=h
  have ha:∀ a∈l,V a=true∧a≠[]:=fun a ha=>by
   have:=List.all_eq_true.1 h1 a ha
   simp only [Bool.and_eq_true,Bool.not_eq_true',beq_eq_false_iff_ne] at this
   exact ⟨this.1,fun e=>this.2 (by rw [e]; rfl)⟩
  by_cases h0:k=0
  ·subst h0
   simp only [if_true,Bool.and_eq_true,beq_iff_eq] at h2
   obtain ⟨e1,e2,e3,e4⟩:=zF1 h2.1.1
   simp only at e1 e2 e3 e4
   subst e1 e2 e3 e4
   obtain rfl:l=[]:=List.length_eq_zero_iff.1 h2.2
   exact .var r h2.1.2
  simp only [h0,if_false,Bool.and_eq_true] at h2
  obtain ⟨hr,h2⟩:=h2
  have hr':=zT0 hr
  subst hr'
  by_cases h0':k=1
  ·subst h0'
   simp only [if_true,Bool.and_eq_true] at h2
   obtain ⟨e1,e2,e3,e4⟩:=zF1 h2.1
   simp only at e1 e2 e3 e4
   subst e1 e2 e3 e4
   match l,h2.2,ha with
   | [a,b],h3,ha=>exact .mon a b (ha a (by simp)).1 (ha b (by simp)).1 (ha a (by simp)).2 (ha b (by simp)).2 (by simpa [zLr] using h3)
  simp only [h0',if_false] at h2
  by_cases h2':k=2
  ·subst h2'
   simp only [if_true,Bool.and_eq_true] at h2
   obtain ⟨e1,e2,e3,e4⟩:=zF1 h2.1
   simp only at e1 e2 e3 e4
   subst e1 e2 e3 e4
   match l,h2.2,ha with
   | [a],h3,ha=>
    simp only [zyk,Bool.and_eq_true,Bool.not_eq_true'] at h3
    exact .del a (ha a (by simp)).1 (ha a (by simp)).2 h3.1 h3.2
  simp only [h2',if_false] at h2
  by_cases h3':k=3
  ·subst h3'
   simp only [if_true,Bool.and_eq_true] at h2
   obtain ⟨e1,e2,e3,e4⟩:=zF1 h2.1
   simp only at e1 e2 e3 e4
   subst e1 e2 e3 e4
   match l,h2.2,ha with
   | [a],h3,ha=>
    simp only [zyk,Bool.not_eq_true'] at h3
    exact .abs a (ha a (by simp)).1 (ha a (by simp)).2 h3
  simp only [h3',if_false] at h2
  have h4':k=4:=by omega
  subst h4'
  simp only [if_true,Bool.and_eq_true,beq_iff_eq,decide_eq_true_eq] at h2
  obtain ⟨⟨⟨⟨h3,h4⟩,h5⟩,h6⟩,h7⟩:=h2
  obtain rfl:l=[]:=List.length_eq_zero_iff.1 h3
  exact .tst f its o b (fun e=>by rw [e] at h4; simp at h4) (fun w hw=>by
   have:=List.all_eq_true.1 h5 w hw
   simp only [Bool.and_eq_true,Bool.not_eq_true',beq_eq_false_iff_ne] at this
   exact ⟨this.1,fun e=>this.2 (by rw [e]; rfl)⟩) h6 h7
 ·intro h
  have ne:∀ a:List Term,a≠[]→(a.length==0)=false:=fun a ha=>by
   rw [beq_eq_false_iff_ne]; exact fun e=>ha (List.length_eq_zero_iff.1 e)
  cases h with
  | var r h=>simp [zcO,zmV,plA,bz,h]
  | mon a b ha hb ha0 hb0 h=>simp [zcO,zmV,plA,bz,rz,zLr,ha,hb,ha0,hb0,h]
  | del a ha ha0 h h'=>simp [zcO,zmV,plA,bz,rz,zyk,ha,ha0,h,h']
  | abs a ha ha0 h=>simp [zcO,zmV,plA,bz,rz,zyk,ha,ha0,h]
  | tst f l o b hl hi hs hf=>
   have h1:zvj V l=true:=List.all_eq_true.2 fun w hw=>by rw [(hi w hw).1,ne _ (hi w hw).2]; rfl
   have h2:0<l.length:=by
    cases l with
    | nil=>exact absurd rfl hl
    | cons x r=>simp
   simp [zcO,zmV,rz,h1,hs,hf,h2]
theorem zqx {a:List Term} (h:zfi a=true):a.length≤512∧zbh a≤8∧zI a≤4096∧∀ t∈a,t.Factors.length≤64∧∀ f∈t.Factors,f.Exp≤64∧f.Atom.Items.length≤1024:=by
 simp only [zfi,Bool.and_eq_true,List.all_eq_true,decide_eq_true_eq] at h
 refine ⟨h.1.1.1,h.1.1.2,h.1.2,fun t ht=> ?_⟩
 have:=h.2 t ht
 simp only [withF,Bool.not_eq_true',Bool.or_eq_false_iff,decide_eq_false_iff_not,List.any_eq_false] at this
 refine ⟨by omega,fun f hf=> ?_⟩
 have h2:=this.2 f hf
 simp at h2
 omega
theorem zKS {a:List Term} {t:Term} (h:t∈a):zcR t.Factors≤zbh a:=by
 induction a with
 | nil=>cases h
 | cons b r ih=>
  rw [zq4]
  rcases List.mem_cons.1 h with rfl | h
  ·omega
  ·have:=ih h; omega
theorem zEB {l:List Factor} {f:Factor} (h:f∈l):zlw f.Atom≤zcR l:=by
 induction l with
 | nil=>cases h
 | cons b r ih=>
  rw [zil]
  rcases List.mem_cons.1 h with rfl | h
  ·omega
  ·have:=ih h; omega
theorem zDN {l:List (List Term)} {a:List Term} (h:a∈l):zbh a≤zkx l:=by
 induction l with
 | nil=>cases h
 | cons b r ih=>
  rw [zwh]
  rcases List.mem_cons.1 h with rfl | h
  ·omega
  ·have:=ih h; omega
theorem zOo {l:List Weighted} {w:Weighted} (h:w∈l):zbh w.Ann≤zjm l:=by
 induction l with
 | nil=>cases h
 | cons b r ih=>
  rw [zuz]
  rcases List.mem_cons.1 h with rfl | h
  ·omega
  ·have:=ih h; omega
theorem zoj {f:Int} {l:List Weighted} {o:Int} {b:Value} (h:fitK f l o b=true):(0≤f∧f≤3∧5≤o∧o≤10)∧valV b=true∧∀ w∈l,valV w.Value=true∧w.Value.Kind=b.Kind:=by
 simp only [fitK,Bool.and_eq_true,List.all_eq_true,decide_eq_true_eq] at h
 obtain ⟨⟨⟨⟨⟨⟨h1,h2⟩,h3⟩,h4⟩,h5⟩,h6⟩,h7⟩:=h
 refine ⟨⟨h1,h2,h3,h4⟩,h5,fun w hw=> ?_⟩
 have:=h7 w hw
 simp only [fitI,Bool.and_eq_true,beq_iff_eq] at this
 exact this.1
theorem zK3:∀ (m:Nat) (a:List Term),z7 m a=true→zm (zbh a+1) a
 | 0,a,h=>by cases h
 | m+1,a,h=>by
  have hw:=zqx (zzc h)
  refine ⟨by omega,fun t ht=> ?_⟩
  obtain ⟨_,hok⟩:=zpM h ht
  obtain ⟨h1,h2⟩:=hw.2.2.2 t ht
  refine ⟨by omega,fun f hf=> ?_⟩
  have hv:=zcq.1 (zmf hok hf).2
  have hn:zlw f.Atom≤zbh a:=Nat.le_trans (zEB hf) (zKS ht)
  have h3:=(h2 f hf).2
  generalize f.Atom=x at hv hn h3
  rw [zvX] at hn
  have ih:∀ b,z7 m b=true→zbh b+1≤zbh a→zm (zbh a) b:=fun b hb hl=>(zK3 m b hb).mono hl
  cases hv with
  | var r h=>exact ⟨⟨by simp,by simp,by show (ByteArray.mk #[]).size≤_; decide⟩,fun a ha=>(by cases ha),fun w hw=>(by cases hw)⟩
  | mon b c hb hc _ _ _=>
   simp only at hn
   refine ⟨⟨by simp,by simp,by show (ByteArray.mk #[]).size≤_; decide⟩,fun y hy=> ?_,fun w hw=>(by cases hw)⟩
   have:=zDN hy
   simp only at this
   simp only [List.mem_cons,List.not_mem_nil,or_false] at hy
   rcases hy with rfl | rfl
   ·exact ih _ hb (by simp at hn; omega)
   ·exact ih _ hc (by simp at hn; omega)
  | del b hb _ _ _=>
   refine ⟨⟨by simp,by simp,by show (ByteArray.mk #[]).size≤_; decide⟩,fun y hy=> ?_,fun w hw=>(by cases hw)⟩
   have:=zDN hy
   simp only at this
   simp only [List.mem_cons,List.not_mem_nil,or_false] at hy
   subst hy
   exact ih _ hb (by simp at hn; omega)
  | abs b hb _ _=>
   refine ⟨⟨by simp,by simp,by show (ByteArray.mk #[]).size≤_; decide⟩,fun y hy=> ?_,fun w hw=>(by cases hw)⟩
   have:=zDN hy
   simp only at this
   simp only [List.mem_cons,List.not_mem_nil,or_false] at hy
   subst hy
   exact ih _ hb (by simp at hn; omega)
  | tst fn l o b hl hi hs hf=>
   obtain ⟨_,hb,hit⟩:=zoj hf
   refine ⟨⟨by simp,by simp only at h3 ⊢; omega,by have:=zp4 hb; simp only; omega⟩,fun y hy=>(by cases hy),fun w hw=>⟨by have:=zp4 (hit w hw).1; omega, ?_⟩⟩
   have:=zOo hw
   simp only at this
   exact ih _ (hi w hw).1 (by simp at hn; omega)
theorem zew {m:Nat} {a:List Term} (h:z7 m a=true):zm 9 a∧zI a≤4096∧a.length≤512:=by
 cases m with
 | zero=>cases h
 | succ m=>
 have hw:=zqx (zzc h)
 exact ⟨(zK3 _ a h).mono (by omega),hw.2.2.1,hw.1⟩
theorem zMM {d m m':Nat} {a:List Term} (h:zm d a) (hd:d≤100) (h1:d≤m) (h2:d≤m') (hs:zI a≤4611686018427387904):z7 m a=z7 m' a:=by
 have e1:=(zC0 1000).1 d m a h (by omega) h1 hd hs
 have e2:=(zC0 1000).1 d m' a h (by omega) h2 hd hs
 rw [e1] at e2
 exact (Prod.mk.injEq _ _ _ _ ▸ e2).2
theorem zOM {m:Nat} {a:List Term} (h:z7 m a=true) (hm:9≤m):zC a=true:=by
 obtain ⟨h1,h2,h3⟩:=zew h
 rw [← h]; exact zMM h1 (by omega) (by omega) hm (by omega)
theorem zCt {m:Nat} {a:List Term} (h:zC a=true) (hm:9≤m):z7 m a=true:=by
 obtain ⟨h1,h2,h3⟩:=zew h
 rw [← h]; exact zMM h1 (by omega) hm (by omega) (by omega)
theorem VA.imp {V V':List Term→Bool} (hV:∀ a,V a=true→V' a=true) {x:Atom} (h:VA V x):VA V' x:=by
 cases h with
 | var r h=>exact .var r h
 | mon a b ha hb ha0 hb0 h=>exact .mon a b (hV a ha) (hV b hb) ha0 hb0 h
 | del a ha ha0 h h'=>exact .del a (hV a ha) ha0 h h'
 | abs a ha ha0 h=>exact .abs a (hV a ha) ha0 h
 | tst f l o b hl hi hs hf=>exact .tst f l o b hl (fun w hw=>⟨hV _ (hi w hw).1,(hi w hw).2⟩) hs hf
def vatA (x:Atom):Bool:=zcO zC x
theorem zR5 {m:Nat} (hm:9≤m):zcO (z7 m)=vatA:=by
 funext x
 rw [Bool.eq_iff_iff]
 unfold vatA
 rw [zcq,zcq]
 exact ⟨VA.imp fun a h=>zOM h hm,VA.imp fun a h=>zCt h hm⟩
theorem zLE (a:List Term):zC a=vAnn vatA a:=by
 show vAnn (zcO (z7 99)) a=_
 rw [zR5 (by omega)]
theorem zKm {τ:Type} [Inhabited τ] {l:List τ} {i:Nat} (h:i<l.length):l.set i (l.getD i default)=l:=by
 rw [List.getD_eq_getElem?_getD,List.getElem?_eq_getElem h]; simp
section
variable (g:List Term→Bool×List Term) (gx:Atom→Bool×Atom)
theorem cp_7 (t8:List Term) (t9 t10:Int) (out:List Term) (t:Term) (l:List Factor) (hl:l.length≤1000000) (hg:∀ f∈l,gx f.Atom=(true,f.Atom)) (n:Nat) (hn:l.length<n):
  zt3 gx n t8 t9 t10 l.length 0 out t l=(true,(t8,t9,t10,out,t,l)):=by
 have:=zdB (W:=zkF gx) (z:=default) l.length (fun i=>((),(),(),t8,t9,t10,(l.length:Int),(i:Int),())) (fun _=>(out,t,l,())) (fun _=>true) default (t8,t9,t10,out,t,l)
  (fun i hi H K D=>by
   show (zis gx t8 t9 t10 l.length i out t l).ev H K D=_
   unfold zis
   simp only [Atom.eta,Wy.ev_i,Wy.ev_k,Wy.ev_h,Wy.ev_bn,Wy.ev_d,tT,hi,hg _ (zp hi)]
   rw [zM (by omega)]
   have:(l.set i (⟨(l.getD i default).Atom,(l.getD i default).Exp⟩:Factor))=l:=zKm hi
   rw [this])
  (fun H K D=>by
   show (zis gx t8 t9 t10 l.length l.length out t l).ev H K D=_
   unfold zis
   simp only [Wy.ev_i,Wy.ev_k,tT,Nat.lt_irrefl]) n hn
 rw [show allN (fun _=>true) l.length 0=true from zd8.2 fun _ _ _=>rfl] at this
 exact this
theorem cp_3 (a:List Term) (hl:a.length≤1000000) (hg:∀ t∈a,t.Factors.length≤1000000∧∀ f∈t.Factors,gx f.Atom=(true,f.Atom)) (n:Nat) (hn:a.length<n):
  zus gx n a a.length 0 []=(true,a):=by
 have hreach:zK=70368744177664:=rfl
 have:=zdB (W:=zkP gx) (z:=default) a.length (fun i=>((),a,(a.length:Int),(i:Int),())) (fun i=>(a.take i,())) (fun _=>true) default a
  (fun i hi H K D=>by
   show (ziq gx a a.length i (a.take i)).ev H K D=_
   unfold ziq zey
   obtain ⟨h1,h2⟩:=hg _ (zp hi)
   have hb:decide ((a.getD i default).Factors.length*128≤zK)=true:=by simp only [decide_eq_true_eq]; omega
   simp only [Wy.ev_i,Wy.ev_k,Wy.ev_h,Wy.ev_bn,Wy.ev_d,tT,hi,hb]
   rw [cp_7 gx a a.length i (a.take i) _ _ h1 h2 _ (by omega)]
   have hb2:decide (((a.take i).length+1)*32≤zK)=true:=by simp only [decide_eq_true_eq,List.length_take]; omega
   simp only [cond_true,List.length_singleton,hb2]
   rw [zM (by omega),ziJ hi])
  (fun H K D=>by
   show (ziq gx a a.length a.length (a.take a.length)).ev H K D=_
   unfold ziq
   simp only [Wy.ev_i,Wy.ev_k,tT,Nat.lt_irrefl,List.take_length]) n hn
 rw [show allN (fun _=>true) a.length 0=true from zd8.2 fun _ _ _=>rfl] at this
 exact this
end
end Go.Proofs.YtnolcogncjijpaaGreatDoor
end
