/- Texts of this claim, joined (the program, its functions in plain words, and what they compute). -/
import Derived.Test.YtddkaehkimnklaaGreatDoorGC4
import Derived.Test.YtddkaehkimnklaaGreatDoorGB1
import Derived.Test.YtddkaehkimnklaaGreatDoorGC1
import Derived.Test.YtddkaehkimnklaaGreatDoorGA3
set_option autoImplicit false
set_option linter.unusedVariables false
set_option linter.unusedSectionVars false
set_option linter.unusedSimpArgs false
set_option maxRecDepth 1000000
set_option maxHeartbeats 0
/- Values: their comparison and their validity, on both sides; checks at places; slices.IndexFunc. -/
noncomputable section
namespace Go.Proofs.YtddkaehkimnklaaGreatDoor
open Go Go.Ab
theorem zy8 (x y:Int):zc4 x y=(true,cmpI x y):=by
 unfold zc4 zoh zj3 zqs cmpI
 by_cases h1:x<y
 ·simp [h1,Wy.fin_i,Wy.fin_k]
 ·by_cases h2:y<x <;>simp [h1,h2,Wy.fin_i,Wy.fin_k]
theorem zxO (x y:Int):zhv x y=(true,cmpI x y):=by
 unfold zhv zmy ziB zop cmpI
 by_cases h1:x<y
 ·simp [h1,Wy.fin_i,Wy.fin_k]
 ·by_cases h2:y<x <;>simp [h1,h2,Wy.fin_i,Wy.fin_k]
def zrS:List Int→Int
 | []=>0
 | x::r=>if x=0 then zrS r else x
theorem zEx (l:List Int) (hl:l.length≤1000000):∀ (n i:Nat),l.length<i+n→i≤l.length→∃ r,zs4 n 0 l l.length i=(true,r)∧(r=.inl (zrS (l.drop i))∨(r=.inr 0∧zrS (l.drop i)=0))
 | 0,i,h,h2=>by omega
 | n+1,i,h,h2=>by
  show ∃ r,(zs0 0 l l.length i).ev (fun x y=>zs4 n x.1 x.2.1 x.2.2.1 x.2.2.2.1) (fun r=>(true,r)) (false,.inl default)=(true,r)∧_
  unfold zs0
  by_cases hi:i<l.length
  ·simp only [Wy.ev_i,Wy.ev_k,Wy.ev_h,Int.ofNat_eq_natCast,zDq,zCa,decide_true,decide_false,Bool.and_self,Bool.true_and,Bool.and_true,cond_true,cond_false,Int.toNat_natCast,Bool.not_true,Bool.not_false,hi]
   obtain ⟨r,h1,h3⟩:=zEx l hl n (i+1) (by omega) (by omega)
   rw [ztS hi,zjl (by omega),h1]
   generalize l.getD i default=x
   by_cases hx:x=0
   ·have e:(x != 0)=false:=by simp [hx]
    simp only [e,cond_false,zrS,hx,if_true]
    exact ⟨r,rfl,h3⟩
   ·have e:(x != 0)=true:=by simp [hx]
    simp only [e,cond_true,zrS,hx,if_false]
    exact ⟨_,rfl,.inl rfl⟩
  ·simp only [Wy.ev_i,Wy.ev_k,Wy.ev_h,Int.ofNat_eq_natCast,zDq,zCa,decide_true,decide_false,Bool.and_self,Bool.true_and,Bool.and_true,cond_true,cond_false,Int.toNat_natCast,Bool.not_true,Bool.not_false,hi,ztV hi]
   exact ⟨_,rfl,.inr ⟨rfl,rfl⟩⟩
theorem zC7 (l:List Int) (hl:l.length≤1000000):zjc l=(true,zrS l):=by
 unfold zjc ztZ
 obtain ⟨r,h1,h2⟩:=zEx l hl (Int.toNat 0+l.length+(Int.ofNat l.length).toNat +Int.toNat 0+1000) 0 (by simp; omega) (by omega)
 rw [show ((0:Nat):Int)=(0:Int) from rfl] at h1
 rw [Wy.fin_bn,show Int.ofNat l.length=(l.length:Int) from rfl] at *
 rw [h1]
 rw [List.drop_zero] at h2
 rcases h2 with rfl | ⟨rfl,h2⟩
 ·rfl
 ·rw [h2]; rfl
theorem zAj (s:ByteArray):∀ (n i:Nat) (r:List UInt8),s.size≤i+n→ByteArray.toList.loop s i r=r.reverse++s.data.toList.drop i
 | 0,i,r,h=>by
  rw [ByteArray.toList.loop,if_neg (by omega),List.drop_eq_nil_of_le (by rw [← Lib.size_eq]; omega),List.append_nil]
 | n+1,i,r,h=>by
  rw [ByteArray.toList.loop]
  by_cases hi:i<s.size
  ·have hi':i<s.data.toList.length:=by rw [← Lib.size_eq]; exact hi
   rw [if_pos hi,zAj s n (i+1) _ (by omega),List.drop_eq_getElem_cons hi',List.reverse_cons,List.append_assoc]
   congr 1
   have:s.get! i=s.data.toList[i]:=by
    have h':i<s.data.size:=hi
    show s.data[i]! =s.data.toList[i]
    rw [getElem!_pos s.data i h']; rfl
   rw [this]; rfl
  ·rw [if_neg hi,List.drop_eq_nil_of_le (by rw [← Lib.size_eq]; omega),List.append_nil]
theorem toList_eq (s:ByteArray):s.toList=s.data.toList:=by
 rw [ByteArray.toList,zAj s s.size 0 [] (by omega)]; rfl
theorem zze {s t:ByteArray} (h:s.data.toList=t.data.toList):s=t:=by
 cases s; cases t
 congr 1
 exact Array.toList_inj.1 h
theorem zFk (s t:ByteArray):(s.toList==t.toList)=decide (s.data.toList=t.data.toList):=by
 rw [toList_eq,toList_eq]
 cases hb:(s.data.toList==t.data.toList) with
 | true=>rw [decide_eq_true (beq_iff_eq.1 hb)]
 | false=>rw [decide_eq_false (fun h=>by rw [beq_iff_eq.2 h] at hb; cases hb)]
theorem zyS (s t:ByteArray):(s.toList==t.toList)=decide (s=t):=by
 rw [zFk]
 by_cases h:s=t
 ·rw [decide_eq_true h,decide_eq_true (by rw [h])]
 ·rw [decide_eq_false h,decide_eq_false fun e=>h (zze e)]
theorem bne0 (z w:Int):(z != w)= !decide (z=w):=by by_cases h:z=w <;>simp [h]
theorem zys:∀ a b:List UInt8,Op.bytesLess a b=decide (Lib.compareBytes a b<0)
 | [],[]=>by simp [Op.bytesLess,Lib.compareBytes]
 | _::_,[]=>by simp [Op.bytesLess,Lib.compareBytes]
 | [],_::_=>by simp [Op.bytesLess,Lib.compareBytes]
 | x::a,y::b=>by
  simp only [Op.bytesLess,Lib.compareBytes]
  by_cases p:x<y
  ·simp [p]
  ·by_cases q:y<x
   ·have hne:¬ x=y:=fun e=>by subst e; exact p q
    simp [p,q,hne]
   ·have he:x=y:=UInt8.toNat_inj.1 (by rw [UInt8.lt_iff_toNat_lt] at p q; omega)
    subst he
    simp [p,zys a b]
theorem zAO (a b:Value):zgO a b=(true,cmpT (trV a) (trV b)):=by
 unfold zgO zq5 zl1 zuq
 rw [zyS,toList_eq,toList_eq,zys,zEY]
 simp only [trV,cmpT,cmpL,cmpI]
 simp only [Wy.fin_i,Wy.fin_bn,Wy.fin_k,cond_true,bne0]
 by_cases h1:a.Kind=b.Kind
 ·by_cases h2:a.Int=b.Int
  ·by_cases h3:a.Text=b.Text
   ·simp [h1,h2,h3,zFW]
   ·have h4:cmpT (trB a.Text) (trB b.Text)≠0:=fun e=>by
     have:=ztf _ _ (TT.l.inj (zwr _ _ e))
     exact h3 (zze this)
    have h5:=zDV (trB a.Text) (trB b.Text)
    simp only [trB,cmpT] at h4 h5
    simp only [trB,cmpT]
    rcases h5 with h5 | h5 | h5
    ·simp [h1,h2,h3,h5]
    ·exact absurd h5 h4
    ·simp [h1,h2,h3,h5]
  ·by_cases h3:a.Int<b.Int
   ·simp [h1,h2,h3]
   ·simp [h1,h2,h3,show b.Int<a.Int by omega]
 ·by_cases h3:a.Kind<b.Kind
  ·simp [h1,h3]
  ·simp [h1,h3,show b.Kind<a.Kind by omega]
theorem zAI (a b:Value):zbK a b=(true,cmpT (trV a) (trV b)):=by
 unfold zbK zqS
 have h:(strings_Compare a.Text b.Text).2=cmpT (trB a.Text) (trB b.Text):=by rw [← zEY]; rfl
 simp only [zy8,zxO,Wy.fin_bn,cond_true,h]
 rw [zC7 _ (by simp)]
 simp only [Wy.fin_k,cond_true,trV,cmpT,cmpL,zrS]
 rfl
theorem zj1 {z:Int} (h0: -4611686018427387904≤z) (h:z<4611686018427387904):IntKind.i64.wrap z=z:=zCo (by omega) (by omega)
def allN (c:Nat→Bool):Nat→Nat→Bool
 | 0,_=>true
 | n+1,i=>c i&&allN c n (i+1)
section
variable {α β ρ:Type}
end
def ixf {α:Type} (p:α→Bool):List α→Nat→Int
 | [],_=> -1
 | x::r,i=>bif p x then (i:Int) else ixf p r (i+1)
theorem zE2 {α:Type} (p:α→Bool):∀ (l:List α) (i:Nat),decide (ixf p l i≥(0:Int))=l.any p
 | [],i=>by simp [ixf]
 | x::r,i=>by
  rw [List.any_cons]
  cases h:p x with
  | true=>simp [ixf,h]
  | false=>simpa [ixf,h] using zE2 p r (i+1)
section
variable {α γ:Type} [Inhabited α]
def zFw (p:γ→α→Bool×Bool) (s:List α) (g:γ) (t7:Int) (t8:Int):Wy (List α×γ×Int×Int×Unit) (Unit) (Int⊕Unit):=.i (decide (t8<t7)) (.i (decide ((0:Int)≤t8)&&decide (t8<Int.ofNat s.length)) (.bn (p g (s.getD t8.toNat default)) fun r0=>.i (r0) (.k (.inl t8)) (.h (s,g,t7,(IntKind.i64.wrap (t8+(1:Int))),()) ())) .d) (.k (.inr ()))
def zIH (p:γ→α→Bool×Bool) (x:List α×γ×Int×Int×Unit) (y:Unit):Wy (List α×γ×Int×Int×Unit) (Unit) (Int⊕Unit):=zFw p x.1 x.2.1 x.2.2.1 x.2.2.2.1
def zFd (p:γ→α→Bool×Bool) (n:Nat) (s:List α) (g:γ) (t7:Int) (t8:Int):Bool×(Int⊕Unit):=zba (zIH p) (.inl default) n (s,g,t7,t8,()) ()
def IG (p:γ→α→Bool×Bool) (n:Nat) (g:γ) (s:List α):Bool×Int:=(.bn (zFd p n s g (Int.ofNat s.length) (0:Int)) fun r2=>.i (isL r2) (.k (getL r2)) (.k (-1:Int)):Wy0 Int).fin default
theorem zEJ (p:γ→α→Bool×Bool) (P:α→Bool) (g:γ) (s:List α) (hs:s.length≤1000000000) (hp:∀ x∈s,p g x=(true,P x)):∀ (n i:Nat),s.length<i+n→i≤s.length→
  ∃ r,zFd p n s g s.length i=(true,r)∧((r=.inl (ixf P (s.drop i) i))∨(r=.inr ()∧ixf P (s.drop i) i= -1))
 | 0,i,h,h2=>by omega
 | n+1,i,h,h2=>by
  show ∃ r,(zFw p s g s.length i).ev (fun x y=>zFd p n x.1 x.2.1 x.2.2.1 x.2.2.2.1) (fun r=>(true,r)) (false,.inl default)=(true,r)∧_
  unfold zFw
  by_cases hi:i<s.length
  ·simp only [Wy.ev_i,Wy.ev_k,Wy.ev_h,Wy.ev_bn,Wy.ev_d,tT,hi,hp _ (zh1 hi)]
   rw [ztS hi,zjl (by omega)]
   simp only [ixf]
   cases P (s.getD i default) with
   | true=>exact ⟨_,rfl,.inl rfl⟩
   | false=>exact zEJ p P g s hs hp n (i+1) (by omega) (by omega)
  ·simp only [Wy.ev_i,Wy.ev_k,Wy.ev_h,Wy.ev_bn,Wy.ev_d,tT,hi,ztV hi]
   exact ⟨_,rfl,.inr ⟨rfl,rfl⟩⟩
theorem zG5 (p:γ→α→Bool×Bool) (P:α→Bool) (n:Nat) (g:γ) (s:List α) (hs:s.length≤1000000000) (hp:∀ x∈s,p g x=(true,P x)) (hn:s.length<n):IG p n g s=(true,ixf P s 0):=by
 unfold IG
 obtain ⟨r,h1,h2⟩:=zEJ p P g s hs hp n 0 (by omega) (by omega)
 rw [show ((0:Nat):Int)=(0:Int) from rfl] at h1
 rw [Wy.fin_bn,show Int.ofNat s.length=(s.length:Int) from rfl,h1]
 rw [List.drop_zero] at h2
 rcases h2 with rfl | ⟨rfl,h2⟩
 ·rfl
 ·rw [h2]; rfl
theorem zAf {α:Type} {s:List α} {P:α→Bool} {q:Bool×Int} (h:q=(true,ixf P s 0)):((.bn q fun r0=>.k (decide (r0≥(0:Int))):Wy0 Bool).fin default)=(true,s.any P):=by
 rw [h,Wy.fin_bn,cond_true,Wy.fin_k,zE2]
end
theorem beqd (a b:Int):(a==b)=decide (a=b):=by by_cases h:a=b <;>simp [h]
theorem beqn (a b:Nat):(a==b)=decide (a=b):=by by_cases h:a=b <;>simp [h]
theorem i0 (l:Nat):((l:Int)==0)=(l==0):=by
 rw [beqd,beqn]; congr 1; simp
def valV (v:Value):Bool:=(v.Kind==0&&v.Text.size==0)||(v.Kind==1&&v.Int==0&&decide (v.Text.size≤255))||(v.Kind==2&&v.Text.size==0&&(v.Int==0||v.Int==1))
theorem zGC (s:ByteArray):(s.toList==(ByteArray.mk #[]).toList)=(s.size==0):=by
 rw [zyS]
 by_cases h:s.size=0
 ·have:s=ByteArray.mk #[]:=zze (by
   have:s.data.toList.length=0:=by simpa using h
   rw [List.length_eq_zero_iff.1 this])
  subst this; rfl
 ·have:¬ s=ByteArray.mk #[]:=fun e=>h (by rw [e]; rfl)
  simp [h,this]
theorem zxc (v:Value):zgJ v=(true,valV v):=by
 unfold zgJ zsV valV
 simp only [zGC,Wy.fin_i,Wy.fin_k,beqd,beqn]
 have e:decide (Int.ofNat v.Text.size≤(255:Int))=decide (v.Text.size≤255):=zwG _ 255
 rw [e]
 by_cases h0:v.Kind=0
 ·simp [h0]
 ·by_cases h1:v.Kind=1
  ·by_cases h2:v.Int=0 <;>simp [h1,h2]
  ·by_cases h2:v.Kind=2
   ·by_cases h3:v.Int=0
    ·simp [h2,h3]
    ·by_cases h4:v.Int=1 <;>simp [h2,h3,h4]
   ·simp [h0,h1,h2]
theorem zCE (c:Nat→Bool):∀ n i,allN c (n+1) i=(allN c n i&&c (i+n))
 | 0,i=>by simp [allN]
 | n+1,i=>by
  rw [allN,zCE c n (i+1),allN,show i+1+n=i+(n+1) by omega,Bool.and_assoc]
def cmpV (a b:Value):Int:=cmpT (trV a) (trV b)
theorem zCu (a b:Value):cmpV b a= - cmpV a b:=zvj _ _
theorem value_Compare_eq' (a b:Value):zbK a b=(true,cmpV a b):=zAI a b
theorem ref01_Compare_eq' (a b:Value):zgO a b=(true,cmpV a b):=zAO a b
def zgp:Nat→Scalar→Prop
 | 0,_=>False
 | n+1,e=>e.Args.length≤1000000∧∀ x∈e.Args,zgp n x
theorem zgp.succ:∀ (n:Nat) (e:Scalar),zgp n e→zgp (n+1) e
 | 0,_,h=>h.elim
 | n+1,e,h=>⟨h.1,fun x hx=>zgp.succ n x (h.2 x hx)⟩
theorem zgp.mono {n m:Nat} {e:Scalar} (h:zgp n e) (hm:n≤m):zgp m e:=by
 obtain ⟨k,rfl⟩:=Nat.exists_eq_add_of_le hm
 clear hm
 induction k with
 | zero=>exact h
 | succ k ih=>exact zgp.succ _ _ ih
theorem zs8:∀ {l:List Scalar},zki l→∀ x∈l,ziQ x
 | [],_,x,hx=>by simp at hx
 | y::r,h,x,hx=>by
  unfold zki at h
  rcases List.mem_cons.1 hx with rfl | hx
  ·exact h.1
  ·exact zs8 h.2 x hx
theorem zyn {e:Scalar} (h:ziQ e):zki e.Args∧e.Args.length≤roomLen:=by
 obtain ⟨k,c,v,o,a⟩:=e
 unfold ziQ at h
 exact h.2.2.2.2
theorem zBL (g:Scalar→Int→Bool×Int) (e:Scalar) (l:Nat) (hl:l≤1000) (hlen:e.Args.length≤roomLen)
  (hg:∀ x∈e.Args,∀ k:Nat,k<l→∃ w:Nat,g x k=(true,(w:Int))∧1≤w∧w≤k+1∧(w≤k→zgp (k+1) x)):
  ∀ (n i m:Nat),e.Args.length<i+n→i≤e.Args.length→1≤m→m≤l+1→i+1≤m→(m≤l→∀ x∈e.Args.take i,zgp l x)→
   ∃ w:Nat,zpi g n l m i e=(true,(w:Int))∧1≤w∧w≤l+1∧(w≤l→zgp (l+1) e)
 | 0,i,m,h,h2,_,_,_,_=>by omega
 | n+1,i,m,h,h2,h3,h4,h5,h6=>by
  show ∃ w:Nat,(zpg g l m i e).ev (fun x y=>zpi g n x.1 x.2.2.1 x.2.2.2.1 y.1) (fun r=>(true,r)) (false,default)=(true,(w:Int))∧_
  unfold zpg
  by_cases hi:i<e.Args.length
  ·by_cases hm:m≤l
   ·have hw:IntKind.i64.wrap ((l:Int) - (m:Int))=((l - m:Nat):Int):=by
     rw [zj1 (by omega) (by omega)]; omega
    have hx:=zh1 hi
    obtain ⟨w,w1,w2,w3,w4⟩:=hg _ hx (l - m) (by omega)
    have hw2:IntKind.i64.wrap ((m:Int)+(w:Int))=((m+w:Nat):Int):=by
     rw [zj1 (by omega) (by omega)]; omega
    have hi2:i<4611686018427387904:=by have:=hlen; have:roomLen<4611686018427387904:=by decide
                                       omega
    simp only [Wy.ev_i,Wy.ev_k,Wy.ev_h,Wy.ev_bn,Wy.ev_d,tT,hi,hm,hw,Scalar.eta,w1,hw2,zjl hi2,zwG]
    refine zBL g e l hl hlen hg n (i+1) (m+w) (by omega) (by omega) (by omega) (by omega) (by omega) fun hc x hx'=> ?_
    rw [zB4 hi] at hx'
    rcases List.mem_append.1 hx' with hx' | hx'
    ·exact h6 hm x hx'
    ·rw [List.mem_singleton] at hx'; subst hx'
     exact (w4 (by omega)).mono (by omega)
   ·simp only [Wy.ev_i,Wy.ev_k,Wy.ev_h,Wy.ev_bn,Wy.ev_d,tT,hi,hm,zwG]
    exact ⟨m,rfl,h3,h4,fun hc=>by omega⟩
  ·simp only [Wy.ev_i,Wy.ev_k,Wy.ev_h,Wy.ev_bn,Wy.ev_d,tT,hi]
   refine ⟨m,rfl,h3,h4,fun hc=>⟨by omega,fun x hx=>h6 hc x ?_⟩⟩
   rw [List.take_of_length_le (by omega)]; exact hx
theorem zGZ:∀ (l N:Nat),l<N→l≤1000→∀ e:Scalar,ziQ e→∃ w:Nat,zj0 N e l=(true,(w:Int))∧1≤w∧w≤l+1∧(w≤l→zgp (l+1) e):=by
 intro l
 induction l using Nat.strongRecOn with
 | ind l ih=>
  intro N hN hl e he
  obtain ⟨N,rfl⟩:∃ M,N=M+1:=⟨N - 1,by omega⟩
  rw [zAU]
  unfold zo9 zqB
  have ha:=zyn he
  obtain ⟨w,w1,w2⟩:=zBL (zj0 N) e l hl ha.2 (fun x hx k hk=>ih k hk N (by omega) (by omega) x (zs8 ha.1 x hx))
   ((l:Int).toNat +Int.toNat (1:Int)+Int.toNat (0:Int)+e.Args.length+(1:Nat)) 0 1 (by omega) (by omega) (by omega) (by omega) (by omega) (fun _ x hx=>by simp at hx)
  rw [show ((0:Nat):Int)=(0:Int) from rfl,show ((1:Nat):Int)=(1:Int) from rfl] at w1
  rw [Wy.fin_bn,Scalar.eta,w1]
  exact ⟨w,rfl,w2⟩
theorem zD3 (e:Scalar) (he:ziQ e):∃ w:Nat,zv1 e (30:Int)=(true,(w:Int))∧(w≤30→zgp 31 e):=by
 obtain ⟨w,w1,_,_,w2⟩:=zGZ 30 1000 (by omega) (by omega) e he
 exact ⟨w,w1,w2⟩
theorem zB1 (g:Scalar→Int→Bool×Bool) (e:Scalar) (hlen:e.Args.length≤1000000) (hg:∀ x∈e.Args,∃ b,g x 30=(true,b)):
  ∀ (n i:Nat),e.Args.length<i+n→i≤e.Args.length→∃ r,zrM g n (30:Int) i e=(true,r)
 | 0,i,h,h2=>by omega
 | n+1,i,h,h2=>by
  show ∃ r,(zrZ g (30:Int) i e).ev (fun x y=>zrM g n x.1 x.2.2.1 y.1) (fun r=>(true,r)) (false,.inl default)=(true,r)
  unfold zrZ
  by_cases hi:i<e.Args.length
  ·obtain ⟨b,hb⟩:=hg _ (zh1 hi)
   simp only [Wy.ev_i,Wy.ev_k,Wy.ev_h,Wy.ev_bn,Wy.ev_d,tT,hi,Scalar.eta,hb]
   cases b with
   | false=>exact ⟨_,rfl⟩
   | true=>
    rw [zjl (by omega)]
    exact zB1 g e hlen hg n (i+1) (by omega) (by omega)
  ·simp only [Wy.ev_i,Wy.ev_k,Wy.ev_h,Wy.ev_bn,Wy.ev_d,tT,hi]
   exact ⟨_,rfl⟩
theorem zBT:∀ (d N:Nat) (e:Scalar),d≤N→zgp d e→ziQ e→∃ b,zkv N e (30:Int)=(true,b)∧(b=true→e.Value.Text.size≤300)
 | 0,_,_,_,h,_=>h.elim
 | d+1,0,_,h,_,_=>by omega
 | d+1,N+1,e,h,hf,he=>by
  rw [zwS]
  unfold zoP zpc
  obtain ⟨w,w1,w2⟩:=zD3 e he
  have ha:=zyn he
  obtain ⟨r,hr⟩:=zB1 (zkv N) e hf.1 (fun x hx=>by
   obtain ⟨b,hb,_⟩:=zBT d N x (by omega) (hf.2 x hx) (zs8 ha.1 x hx)
   exact ⟨b,hb⟩) ((30:Int).toNat +Int.toNat (0:Int)+e.Args.length+(1:Nat)) 0 (by omega) (by omega)
  rw [show ((0:Nat):Int)=(0:Int) from rfl] at hr
  have hs:decide (Int.ofNat e.Value.Text.size>(300:Int))=decide (e.Value.Text.size>300):=zDt _ 300
  simp only [Wy.fin_i,Wy.fin_bn,Wy.fin_k,cond_true,Scalar.eta,w1,hr,hs]
  cases decide ((w:Int)>30)
  ·by_cases h3:e.Value.Text.size>300
   ·rw [decide_eq_true h3]; exact ⟨_,rfl,fun h=>by cases h⟩
   ·rw [decide_eq_false h3]
    simp only [cond_false]
    cases isL r
    ·exact ⟨_,rfl,fun _=>by omega⟩
    ·exact ⟨_,rfl,fun _=>by omega⟩
  ·exact ⟨_,rfl,fun h=>by cases h⟩
theorem zGw (e:Scalar) (he:ziQ e):∃ b,zzr e (30:Int)=(true,b)∧(b=true→zgp 31 e):=by
 obtain ⟨w,w1,w2⟩:=zD3 e he
 by_cases hw:w≤30
 ·obtain ⟨b,hb,_⟩:=zBT 31 1000 e (by omega) (w2 hw) he
  exact ⟨b,hb,fun _=>w2 hw⟩
 ·refine ⟨false, ?_,fun h=>by cases h⟩
  show zkv (999+1) e 30=_
  rw [zwS]
  unfold zoP zpc
  have hd:decide ((w:Int)>30)=true:=decide_eq_true (by omega)
  simp only [Wy.fin_i,Wy.fin_bn,Wy.fin_k,cond_true,Scalar.eta,w1,hd]
def zyb (s:Stats) (k:Int) (v:Value):Wy0 (Int):=.i (decide (0≤k)&&decide (k<Int.ofNat s.Columns.length)) (.i (s.Rows==0) (.k 0) (.bn (zgO v (s.Columns.getD k.toNat default).Min) fun r1=>.i (decide (r1<0)) (.k 0) (.bn (zgO v (s.Columns.getD k.toNat default).Max) fun r0=>.i (decide (r0>0)) (.k 0) (.i (!decide ((s.Columns.getD k.toNat default).Distinct=0)) (.k (if IntKind.i64.wrap (Int.tdiv 1000 (s.Columns.getD k.toNat default).Distinct)>1 then IntKind.i64.wrap (Int.tdiv 1000 (s.Columns.getD k.toNat default).Distinct) else 1)) .d)))) .d
def zpj (s:Stats) (k:Int) (v:Value):Bool×Int:=(zyb s k v).fin default
abbrev zvV:=Int×Unit×Unit×Int×Int×Unit
abbrev zv4:=Stats×Value×Unit
def zvO (k:Int) (n_:Int) (i:Int) (s:Stats) (v:Value):Wy zvV zv4 (Int):=.i (decide (0≤k)&&decide (k<Int.ofNat s.Columns.length)) (.i (decide (i<Int.ofNat (s.Columns.getD k.toNat default).Bounds.length)) (.i (decide (0≤k)&&decide (k<Int.ofNat s.Columns.length)) (.i (decide (0≤i)&&decide (i<Int.ofNat (s.Columns.getD k.toNat default).Bounds.length)) (.bn (zgO ((s.Columns.getD k.toNat default).Bounds.getD i.toNat default) v) fun r0=>.i (decide (r0<0)) (.h (k,(),(),(IntKind.i64.wrap (n_+125)),(IntKind.i64.wrap (i+1)),()) (s,v,())) (.h (k,(),(),n_,(IntKind.i64.wrap (i+1)),()) (s,v,()))) .d) .d) (.k n_)) .d
def zEq (x:zvV) (y:zv4):Wy zvV zv4 (Int):=zvO x.1 x.2.2.2.1 x.2.2.2.2.1 y.1 y.2.1
def zsc (n:Nat) (k:Int) (n_:Int) (i:Int) (s:Stats) (v:Value):Bool×Int:=zba (zEq) default n (k,(),(),n_,i,()) (s,v,())
def zBu (s:Stats) (k:Int) (v:Value):Wy0 (Int):=.bn (zsc (k.toNat +Int.toNat 0+Int.toNat 0+s.Columns.length+1000) k 0 0 s v) fun r2=>.k r2
def zuk (s:Stats) (k:Int) (v:Value):Bool×Int:=(zBu s k v).fin default
def zAX (s:Stats) (k:Int) (v:Value):Wy0 (Int):=.bn (zuk s k v) fun r1=>.bn (zpj s k v) fun r0=>.k (if IntKind.i64.wrap (r1+r0)<1000 then IntKind.i64.wrap (r1+r0) else 1000)
def zxW (s:Stats) (k:Int) (v:Value):Bool×Int:=(zAX s k v).fin default
def zpd (s:Stats) (op:Int) (k:Int) (v:Value):Wy0 (Int):=.i (op==5) (.bn (zpj s k v) fun r0=>.k r0) (.i (op==6) (.bn (zpj s k v) fun r1=>.k (IntKind.i64.wrap (1000 - r1))) (.i (op==7) (.bn (zuk s k v) fun r2=>.k r2) (.i (op==8) (.bn (zxW s k v) fun r3=>.k r3) (.i (op==9) (.bn (zxW s k v) fun r4=>.k (IntKind.i64.wrap (1000 - r4))) (.bn (zuk s k v) fun r5=>.k (IntKind.i64.wrap (1000 - r5)))))))
def znF (s:Stats) (op:Int) (k:Int) (v:Value):Bool×Int:=(zpd s op k v).fin default
def zV:Value:=⟨0,0,ByteArray.mk #[]⟩
theorem veq (a b:Value):(a.Kind==b.Kind&&(a.Int==b.Int&&(a.Text.toList==b.Text.toList&&true)))=decide (a=b):=by
 obtain ⟨k,n,s⟩:=a; obtain ⟨k',n',s'⟩:=b
 simp only [zyS,beqd,Bool.and_true,Value.mk.injEq]
 by_cases h1:k=k' <;>by_cases h2:n=n' <;>by_cases h3:s=s' <;>simp [h1,h2,h3]
theorem zIs (a:Value):(a.Kind==(0:Int)&&(a.Int==(0:Int)&&(a.Text.toList==(ByteArray.mk #[]).toList&&true)))=decide (a=zV):=veq a zV
theorem vyes (a:Value):(a.Kind==(2:Int)&&(a.Int==(1:Int)&&(a.Text.toList==(ByteArray.mk #[]).toList&&true)))=decide (a=⟨2,1,ByteArray.mk #[]⟩):=veq a ⟨2,1,ByteArray.mk #[]⟩
def zxT (k:Int) (b:Value):Bool:=valV b&&decide (b.Kind=k)
def srtB (l:List Value) (k:Nat):Bool:=decide (k=0)||decide (cmpV (l.getD (k - 1) default) (l.getD k default)≤0)
def okC (c:ColumnStats) (rows:Int):Bool:=
 if rows=0 then decide (c.Distinct=0)&&(decide (c.Min=zV)&&(decide (c.Max=zV)&&decide (c.Bounds.length=0)))
 else decide (1≤c.Distinct)&&(decide (c.Distinct≤rows)&&(valV c.Min&&(valV c.Max&&(decide (c.Min.Kind=c.Max.Kind)&&(decide (cmpV c.Min c.Max≤0)&&(decide (c.Bounds.length=8)&&(decide (c.Bounds.getD 7 default=c.Max)&&
  (c.Bounds.all (zxT c.Min.Kind)&&(decide (cmpV c.Min (c.Bounds.getD 0 default)≤0)&&allN (srtB c.Bounds) c.Bounds.length 0)))))))))
def okS (s:Stats):Bool:=decide (0≤s.Rows)&&(decide (s.Rows≤1000000)&&(decide (s.Columns.length≤16)&&s.Columns.all fun c=>okC c s.Rows))
def qP (d:Int):Int:=if Int.tdiv 1000 d>1 then Int.tdiv 1000 d else 1
theorem zD6 {d:Int} (h:1≤d):0≤Int.tdiv 1000 d∧Int.tdiv 1000 d≤1000:=by
 rw [Int.tdiv_eq_ediv_of_nonneg (by omega)]
 exact ⟨Int.ediv_nonneg (by omega) (by omega),Int.ediv_le_self _ (by omega)⟩
theorem zDW {d:Int} (h:1≤d):1≤qP d∧qP d≤1000:=by
 have:=zD6 h
 unfold qP; split <;>omega
theorem zEK {d:Int} (h:1≤d):(if IntKind.i64.wrap (Int.tdiv (1000:Int) d)>(1:Int) then IntKind.i64.wrap (Int.tdiv (1000:Int) d) else (1:Int))=qP d:=by
 have:=zD6 h
 rw [zj1 (by omega) (by omega)]; rfl
def eqP (s:Stats) (k:Nat) (v:Value):Int:=
 if s.Rows=0 then 0 else if cmpV v (s.Columns.getD k default).Min<0 then 0 else if cmpV v (s.Columns.getD k default).Max>0 then 0 else qP (s.Columns.getD k default).Distinct
def ltP (s:Stats) (k:Nat) (v:Value):Int:=((125*((s.Columns.getD k default).Bounds.filter fun b=>decide (cmpV b v<0)).length:Nat):Int)
def leP (s:Stats) (k:Nat) (v:Value):Int:=if ltP s k v+eqP s k v<1000 then ltP s k v+eqP s k v else 1000
def zfl (s:Stats) (op:Int) (k:Nat) (v:Value):Int:=
 if op=5 then eqP s k v else if op=6 then 1000 - eqP s k v else if op=7 then ltP s k v else if op=8 then leP s k v else if op=9 then 1000 - leP s k v else 1000 - ltP s k v
def maxP (a b:Int):Int:=if b>a then b else a
def zzS (s:Stats) (op:Int) (a b:Nat):Int:=
 let n:=if s.Rows>0 then qP (maxP (s.Columns.getD a default).Distinct (s.Columns.getD b default).Distinct) else 0
 if op=5 then n else if op=6 then 1000 - n else 333
def mirP (op:Int):Int:=if op=7 then 9 else if op=8 then 10 else if op=9 then 7 else if op=10 then 8 else op
def hasP (s:Stats) (k:Int):Bool:=decide (0≤k)&&decide (k<(s.Columns.length:Int))
def cmpP (s:Stats) (op:Int) (x y:Scalar):Int:=
 if (x.Kind=1∧hasP s x.Column=false)∨(y.Kind=1∧hasP s y.Column=false) then 333
 else if x.Kind=1∧y.Kind=0 then zfl s op x.Column.toNat y.Value
 else if x.Kind=0∧y.Kind=1 then zfl s (mirP op) y.Column.toNat x.Value
 else if x.Kind=1∧y.Kind=1 then zzS s op x.Column.toNat y.Column.toNat
 else 333
def yesV:Value:=⟨2,1,ByteArray.mk #[]⟩
def estP (s:Stats):Nat→Scalar→Int
 | 0,_=>0
 | n+1,e=>
  if e.Kind=0 then (if e.Value=yesV then 1000 else 0)
  else if e.Kind=1 then (if hasP s e.Column then eqP s e.Column.toNat yesV else 333)
  else if e.Kind≠2 then 333
  else if e.Op=13∧e.Args.length=1 then 1000 - estP s n (e.Args.getD 0 default)
  else if e.Args.length≠2 then 333
  else if e.Op=11 then Int.tdiv (estP s n (e.Args.getD 0 default)*estP s n (e.Args.getD 1 default)) 1000
  else if e.Op=12 then estP s n (e.Args.getD 0 default)+estP s n (e.Args.getD 1 default) - Int.tdiv (estP s n (e.Args.getD 0 default)*estP s n (e.Args.getD 1 default)) 1000
  else if e.Op<5∨e.Op>10 then 333
  else cmpP s e.Op (e.Args.getD 0 default) (e.Args.getD 1 default)
theorem zwW {s:Stats} (h:okS s=true):0≤s.Rows∧s.Rows≤1000000∧s.Columns.length≤16∧∀ c∈s.Columns,okC c s.Rows=true:=by
 unfold okS at h
 simp only [Bool.and_eq_true,decide_eq_true_eq,List.all_eq_true] at h
 exact ⟨h.1,h.2.1,h.2.2.1,h.2.2.2⟩
theorem zGs {c:ColumnStats} (h:okC c 0=true):c.Distinct=0∧c.Min=zV∧c.Max=zV∧c.Bounds=[]:=by
 unfold okC at h
 rw [if_pos rfl] at h
 simp only [Bool.and_eq_true,decide_eq_true_eq] at h
 exact ⟨h.1,h.2.1,h.2.2.1,List.length_eq_zero_iff.1 h.2.2.2⟩
theorem zwU {c:ColumnStats} {r:Int} (hr:r≠0) (h:okC c r=true):1≤c.Distinct∧c.Distinct≤r∧valV c.Min=true∧valV c.Max=true∧c.Min.Kind=c.Max.Kind∧cmpV c.Min c.Max≤0∧c.Bounds.length=8∧c.Bounds.getD 7 default=c.Max∧(∀ b∈c.Bounds,zxT c.Min.Kind b=true)∧cmpV c.Min (c.Bounds.getD 0 default)≤0∧allN (srtB c.Bounds) c.Bounds.length 0=true:=by
 unfold okC at h
 rw [if_neg hr] at h
 simp only [Bool.and_eq_true,decide_eq_true_eq,List.all_eq_true] at h
 exact ⟨h.1,h.2.1,h.2.2.1,h.2.2.2.1,h.2.2.2.2.1,h.2.2.2.2.2.1,h.2.2.2.2.2.2.1,h.2.2.2.2.2.2.2.1,h.2.2.2.2.2.2.2.2.1,h.2.2.2.2.2.2.2.2.2.1,h.2.2.2.2.2.2.2.2.2.2⟩
theorem zzz {s:Stats} (h:okS s=true) {k:Nat} (hk:k<s.Columns.length):(s.Columns.getD k default).Bounds.length≤8:=by
 obtain ⟨h1,h2,h3,h4⟩:=zwW h
 have hc:=h4 _ (zh1 hk)
 by_cases h0:s.Rows=0
 ·rw [h0] at hc; rw [(zGs hc).2.2.2]; simp
 ·rw [(zwU h0 hc).2.2.2.2.2.2.1]; exact Nat.le_refl _
theorem ztU {s:Stats} (h:okS s=true) {k:Nat} (hk:k<s.Columns.length) (v:Value):0≤ltP s k v∧ltP s k v≤1000:=by
 have h1:=zzz h hk
 have h2:=List.length_filter_le (fun b=>decide (cmpV b v<0)) (s.Columns.getD k default).Bounds
 unfold ltP
 omega
theorem zr6 {s:Stats} (h:okS s=true) {k:Nat} (hk:k<s.Columns.length) (v:Value):0≤eqP s k v∧eqP s k v≤1000:=by
 obtain ⟨h1,h2,h3,h4⟩:=zwW h
 have hc:=h4 _ (zh1 hk)
 unfold eqP
 by_cases h0:s.Rows=0
 ·rw [if_pos h0]; omega
 ·have:=zDW (zwU h0 hc).1
  rw [if_neg h0]
  split
  ·omega
  ·split <;>omega
theorem zB9 {s:Stats} (h:okS s=true) {k:Nat} (hk:k<s.Columns.length) (v:Value):0≤leP s k v∧leP s k v≤1000:=by
 have h1:=ztU h hk v
 have h2:=zr6 h hk v
 unfold leP; split <;>omega
theorem zBa {s:Stats} (h:okS s=true) {k:Nat} (hk:k<s.Columns.length) (op:Int) (v:Value):0≤zfl s op k v∧zfl s op k v≤1000:=by
 have h1:=ztU h hk v
 have h2:=zr6 h hk v
 have h3:=zB9 h hk v
 unfold zfl; repeat' split
 all_goals omega
theorem zGh {s:Stats} (h:okS s=true) {a b:Nat} (ha:a<s.Columns.length) (hb:b<s.Columns.length) (op:Int):0≤zzS s op a b∧zzS s op a b≤1000:=by
 obtain ⟨h1,h2,h3,h4⟩:=zwW h
 have hc:=h4 _ (zh1 ha)
 unfold zzS
 by_cases h0:s.Rows>0
 ·have hd:=(zwU (by omega) hc).1
  have hq:=zDW (d:=maxP (s.Columns.getD a default).Distinct (s.Columns.getD b default).Distinct) (by unfold maxP; split <;>omega)
  simp only [if_pos h0]
  repeat' split
  all_goals omega
 ·simp only [if_neg h0]
  repeat' split
  all_goals omega
theorem zrL {s:Stats} {k:Int}:hasP s k=true↔0≤k∧k.toNat<s.Columns.length:=by
 unfold hasP; simp only [Bool.and_eq_true,decide_eq_true_eq]; omega
theorem zGy {s:Stats} (h:okS s=true) (op:Int) (x y:Scalar):0≤cmpP s op x y∧cmpP s op x y≤1000:=by
 unfold cmpP
 split
 ·omega
 ·rename_i hn
  have hx:x.Kind=1→x.Column.toNat<s.Columns.length:=fun e=>by
   refine (zrL.1 ?_).2
   cases hh:hasP s x.Column with
   | true=>rfl
   | false=>exact absurd (.inl ⟨e,hh⟩) hn
  have hy:y.Kind=1→y.Column.toNat<s.Columns.length:=fun e=>by
   refine (zrL.1 ?_).2
   cases hh:hasP s y.Column with
   | true=>rfl
   | false=>exact absurd (.inr ⟨e,hh⟩) hn
  split
  ·rename_i e; exact zBa h (hx e.1) _ _
  ·split
   ·rename_i e; exact zBa h (hy e.2) _ _
   ·split
    ·rename_i e; exact zGh h (hx e.1) (hy e.2) _
    ·omega
theorem zCc {a b:Int} (ha:0≤a∧a≤1000) (hb:0≤b∧b≤1000):0≤a*b∧a*b≤1000000∧0≤Int.tdiv (a*b) 1000∧Int.tdiv (a*b) 1000≤a∧Int.tdiv (a*b) 1000≤b∧a+b - Int.tdiv (a*b) 1000≤1000:=by
 have h0:0≤a*b:=Int.mul_nonneg ha.1 hb.1
 have h1:a*b≤a*1000:=Int.mul_le_mul_of_nonneg_left hb.2 ha.1
 have h2:a*b≤1000*b:=Int.mul_le_mul_of_nonneg_right ha.2 hb.1
 have h3:0≤(1000 - a)*(1000 - b):=Int.mul_nonneg (by omega) (by omega)
 have h4:(1000 - a)*(1000 - b)=1000000 - 1000*a - 1000*b+a*b:=by
  rw [Int.sub_mul,Int.mul_sub,Int.mul_sub]; omega
 rw [Int.tdiv_eq_ediv_of_nonneg h0]
 refine ⟨h0,by omega,Int.ediv_nonneg h0 (by omega),by omega,by omega,by omega⟩
theorem zxy {s:Stats} (h:okS s=true):∀ (n:Nat) (e:Scalar),0≤estP s n e∧estP s n e≤1000
 | 0,_=>by simp [estP]
 | n+1,e=>by
  have h1:=zxy h n (e.Args.getD 0 default)
  have h2:=zxy h n (e.Args.getD 1 default)
  have h3:=zCc h1 h2
  have h4:=zGy h e.Op (e.Args.getD 0 default) (e.Args.getD 1 default)
  unfold estP
  split
  ·split <;>omega
  ·split
   ·split
    ·rename_i hh; exact zr6 h (zrL.1 hh).2 _
    ·omega
   ·repeat' split
    all_goals omega
theorem zzj (s:Stats):∀ (d n m:Nat) (e:Scalar),zgp d e→d≤n→d≤m→estP s n e=estP s m e
 | 0,_,_,_,h,_,_=>h.elim
 | d+1,0,_,_,_,h,_=>by omega
 | d+1,_,0,_,_,_,h=>by omega
 | d+1,n+1,m+1,e,h,hn,hm=>by
  have hx:∀ i,i<e.Args.length→estP s n (e.Args.getD i default)=estP s m (e.Args.getD i default):=fun i hi=>zzj s d n m _ (h.2 _ (zh1 hi)) (by omega) (by omega)
  unfold estP
  by_cases h1:e.Args.length=1
  ·rw [hx 0 (by omega)]
   simp [h1]
  ·by_cases h2:e.Args.length=2
   ·rw [hx 0 (by omega),hx 1 (by omega)]
   ·simp [h1,h2]
theorem ge0 (k:Int):decide (k≥(0:Int))=decide (0≤k):=rfl
theorem zB7 (s:Stats) (k:Nat) (v:Value) (hk:k<s.Columns.length) (hb:(s.Columns.getD k default).Bounds.length≤1000):
  ∀ (n i m:Nat),(s.Columns.getD k default).Bounds.length<i+n→i≤(s.Columns.getD k default).Bounds.length→m≤125*i→
   zsc n k m i s v=(true,((m+125*(((s.Columns.getD k default).Bounds.drop i).filter fun b=>decide (cmpV b v<0)).length:Nat):Int))
 | 0,i,m,h,h2,_=>by omega
 | n+1,i,m,h,h2,h3=>by
  show (zvO k m i s v).ev (fun x y=>zsc n x.1 x.2.2.2.1 x.2.2.2.2.1 y.1 y.2.1) (fun r=>(true,r)) (false,default)=_
  unfold zvO
  by_cases hi:i<(s.Columns.getD k default).Bounds.length
  ·have hw:IntKind.i64.wrap ((m:Int)+(125:Int))=((m+125:Nat):Int):=by
    rw [zj1 (by omega) (by omega)]; rfl
   simp only [Wy.ev_i,Wy.ev_k,Wy.ev_h,Wy.ev_bn,Wy.ev_d,tT,hi,hk,ref01_Compare_eq',hw,zjl (show i<4611686018427387904 by omega)]
   rw [ztS hi]
   by_cases hx:cmpV ((s.Columns.getD k default).Bounds.getD i default) v<0
   ·rw [decide_eq_true hx,cond_true,zB7 s k v hk hb n (i+1) (m+125) (by omega) (by omega) (by omega),List.filter_cons_of_pos (by simpa using hx),List.length_cons]
    congr 2; omega
   ·rw [decide_eq_false hx,cond_false,zB7 s k v hk hb n (i+1) m (by omega) (by omega) (by omega),List.filter_cons_of_neg (by simpa using hx)]
  ·simp only [Wy.ev_i,Wy.ev_k,Wy.ev_h,Wy.ev_bn,Wy.ev_d,tT,hi,hk,ztV hi]
   rfl
theorem zv3 {s:Stats} (h:okS s=true) {k:Nat} (hk:k<s.Columns.length) (v:Value):zuk s k v=(true,ltP s k v):=by
 have hb:=zzz h hk
 have hz:∀ (n:Nat),(s.Columns.getD k default).Bounds.length<n→zsc n k 0 0 s v=(true,ltP s k v):=fun n hn=>by
  have:=zB7 s k v hk (by omega) n 0 0 (by omega) (by omega) (by omega)
  rw [List.drop_zero,Nat.zero_add] at this
  exact this
 unfold zuk zBu
 rw [Wy.fin_bn,hz _ (by omega)]
 rfl
theorem zHM {s:Stats} {k:Nat} (hk:k<s.Columns.length):(decide ((0:Int)≤(k:Int))&&decide ((k:Int)<Int.ofNat s.Columns.length))=true:=by
 simp only [tT,hk]
theorem zv8 {s:Stats} (h:okS s=true) {k:Nat} (hk:k<s.Columns.length) (v:Value):zpj s k v=(true,eqP s k v):=by
 obtain ⟨h1,h2,h3,h4⟩:=zwW h
 have hc:=h4 _ (zh1 hk)
 unfold zpj zyb eqP
 simp only [Wy.fin_i,Wy.fin_bn,Wy.fin_k,zHM hk,cond_true,Int.toNat_natCast,ref01_Compare_eq',beqd]
 by_cases h0:s.Rows=0
 ·rw [decide_eq_true h0,if_pos h0]; rfl
 ·have hd:=(zwU h0 hc).1
  have hne:¬ (s.Columns.getD k default).Distinct=0:=by omega
  rw [decide_eq_false h0,if_neg h0,decide_eq_false hne,zEK hd]
  by_cases g1:cmpV v (s.Columns.getD k default).Min<0
  ·rw [decide_eq_true g1,if_pos g1]; rfl
  ·rw [decide_eq_false g1,if_neg g1]
   by_cases g2:cmpV v (s.Columns.getD k default).Max>0
   ·rw [decide_eq_true g2,if_pos g2]; rfl
   ·rw [decide_eq_false g2,if_neg g2]; rfl
theorem zAk {s:Stats} (h:okS s=true) {k:Nat} (hk:k<s.Columns.length) (v:Value):zxW s k v=(true,leP s k v):=by
 have h1:=ztU h hk v
 have h2:=zr6 h hk v
 unfold zxW zAX leP
 rw [Wy.fin_bn,zv3 h hk,cond_true,Wy.fin_bn,zv8 h hk,cond_true,Wy.fin_k,zj1 (by omega) (by omega)]
theorem zAY {x:Int} (h:0≤x∧x≤1000):IntKind.i64.wrap ((1000:Int) - x)=1000 - x:=zj1 (by omega) (by omega)
theorem zz4 {s:Stats} (h:okS s=true) (op:Int) {k:Nat} (hk:k<s.Columns.length) (v:Value):znF s op k v=(true,zfl s op k v):=by
 unfold znF zpd zfl
 simp only [Wy.fin_i,Wy.fin_bn,Wy.fin_k,zv3 h hk,zv8 h hk,zAk h hk,cond_true,beqd,zAY (zr6 h hk v),zAY (ztU h hk v),zAY (zB9 h hk v)]
 by_cases h5:op=5
 ·rw [decide_eq_true h5,if_pos h5]; rfl
 ·rw [decide_eq_false h5,if_neg h5,cond_false]
  by_cases h6:op=6
  ·rw [decide_eq_true h6,if_pos h6]; rfl
  ·rw [decide_eq_false h6,if_neg h6,cond_false]
   by_cases h7:op=7
   ·rw [decide_eq_true h7,if_pos h7]; rfl
   ·rw [decide_eq_false h7,if_neg h7,cond_false]
    by_cases h8:op=8
    ·rw [decide_eq_true h8,if_pos h8]; rfl
    ·rw [decide_eq_false h8,if_neg h8,cond_false]
     by_cases h9:op=9
     ·rw [decide_eq_true h9,if_pos h9]; rfl
     ·rw [decide_eq_false h9,if_neg h9]; rfl
theorem zBH (l:List Value) (m:Int) (hl:l.length≤roomLen):∀ (n i:Nat),l.length<i+n→i≤l.length→∃ r,zrF n l m i=(true,r)∧(r=.inl false∨(r=.inr (l,m)∧∀ x∈l.drop i,x.Text.size≤300))
 | 0,i,h,h2=>by omega
 | n+1,i,h,h2=>by
  show ∃ r,(zrI l m i).ev (fun x y=>zrF n x.1 x.2.1 x.2.2.1) (fun r=>(true,r)) (false,.inl default)=(true,r)∧_
  unfold zrI
  by_cases hi:i<l.length
  ·have hw:i<4611686018427387904:=by
    have:roomLen<4611686018427387904:=by decide
    omega
   have hs:decide (((l.getD i default).Text.size:Int)>(300:Int))=decide ((l.getD i default).Text.size>300):=zDt _ 300
   simp only [Wy.ev_i,Wy.ev_k,Wy.ev_h,Wy.ev_bn,Wy.ev_d,tT,hi]
   rw [hs]
   by_cases h3:(l.getD i default).Text.size>300
   ·rw [decide_eq_true h3]
    exact ⟨_,rfl,.inl rfl⟩
   ·rw [decide_eq_false h3,cond_false,zjl hw]
    obtain ⟨r,h4,h5⟩:=zBH l m hl n (i+1) (by omega) (by omega)
    refine ⟨r,h4, ?_⟩
    rcases h5 with h5 | ⟨h5,h6⟩
    ·exact .inl h5
    ·refine .inr ⟨h5,fun x hx=> ?_⟩
     rw [ztS hi] at hx
     rcases List.mem_cons.1 hx with rfl | hx
     ·omega
     ·exact h6 x hx
  ·simp only [Wy.ev_i,Wy.ev_k,Wy.ev_h,Wy.ev_bn,Wy.ev_d,tT,hi]
   exact ⟨_,rfl,.inr ⟨rfl,fun x hx=>by rw [ztV hi] at hx; cases hx⟩⟩
theorem zGu (l:List Value) (m:Nat) (hl:l.length≤roomLen):∃ b,zmv l m=(true,b)∧(b=true→l.length≤m∧∀ x∈l,x.Text.size≤300):=by
 unfold zmv ztd
 obtain ⟨r,h1,h2⟩:=zBH l m hl (l.length+(m:Int).toNat +Int.toNat (0:Int)+(1:Nat)) 0 (by omega) (by omega)
 rw [show ((0:Nat):Int)=(0:Int) from rfl] at h1
 rw [Wy.fin_bn,h1]
 rcases h2 with rfl | ⟨rfl,h2⟩
 ·exact ⟨false,rfl,fun h=>by cases h⟩
 ·refine ⟨decide (l.length≤m), ?_,fun h=>⟨of_decide_eq_true h,h2⟩⟩
  show (true,decide (Int.ofNat l.length≤(m:Int)))=_
  rw [show decide (Int.ofNat l.length≤(m:Int))=decide (l.length≤m) from zwG _ _]
def zIl (s:Stats):Prop:=s.Columns.length≤20∧∀ c∈s.Columns,c.Bounds.length≤20
theorem zBs (s:Stats) (hs:wf30 s):∀ (n i:Nat),s.Columns.length<i+n→i≤s.Columns.length→∃ r,zuf n i s=(true,r)∧(r=.inl false∨(r=.inr s∧∀ c∈s.Columns.drop i,c.Bounds.length≤20))
 | 0,i,h,h2=>by omega
 | n+1,i,h,h2=>by
  show ∃ r,(zut i s).ev (fun x y=>zuf n x.2.1 y.1) (fun r=>(true,r)) (false,.inl default)=(true,r)∧_
  unfold zut
  by_cases hi:i<s.Columns.length
  ·have hw:i<4611686018427387904:=by
    have:=hs.2.2.2
    have:roomLen<4611686018427387904:=by decide
    omega
   have hc:=hs.2.2.1 _ (zh1 hi)
   obtain ⟨b,hb,hb2⟩:=zGu (s.Columns.getD i default).Bounds 20 hc.2.2.2.2
   replace hb:zmv (s.Columns.getD i default).Bounds (20:Int)=(true,b):=hb
   simp only [Wy.ev_i,Wy.ev_k,Wy.ev_h,Wy.ev_bn,Wy.ev_d,tT,hi,hb]
   cases b with
   | false=>exact ⟨_,rfl,.inl rfl⟩
   | true=>
    simp only [Bool.not_true,cond_false]
    generalize decide (IntKind.i64.wrap _>(600:Int))=q
    cases q with
    | true=>exact ⟨_,rfl,.inl rfl⟩
    | false=>
     rw [cond_false,zjl hw]
     obtain ⟨r,h4,h5⟩:=zBs s hs n (i+1) (by omega) (by omega)
     refine ⟨r,h4, ?_⟩
     rcases h5 with h5 | ⟨h5,h6⟩
     ·exact .inl h5
     ·refine .inr ⟨h5,fun x hx=> ?_⟩
      rw [ztS hi] at hx
      rcases List.mem_cons.1 hx with rfl | hx
      ·exact (hb2 rfl).1
      ·exact h6 x hx
  ·simp only [Wy.ev_i,Wy.ev_k,Wy.ev_h,Wy.ev_bn,Wy.ev_d,tT,hi]
   exact ⟨_,rfl,.inr ⟨rfl,fun x hx=>by rw [ztV hi] at hx; cases hx⟩⟩
theorem zGI (s:Stats) (hs:wf30 s):∃ b,zsE s=(true,b)∧(b=true→zIl s):=by
 unfold zsE zvW
 obtain ⟨r,h1,h2⟩:=zBs s hs (Int.toNat (0:Int)+s.Columns.length+(1:Nat)) 0 (by omega) (by omega)
 rw [show ((0:Nat):Int)=(0:Int) from rfl] at h1
 rw [Wy.fin_bn,h1]
 rcases h2 with rfl | ⟨rfl,h2⟩
 ·exact ⟨false,rfl,fun h=>by cases h⟩
 ·refine ⟨decide (s.Columns.length≤20), ?_,fun h=>⟨of_decide_eq_true h,h2⟩⟩
  show (true,decide (Int.ofNat s.Columns.length≤(20:Int)))=_
  rw [show decide (Int.ofNat s.Columns.length≤(20:Int))=decide (s.Columns.length≤20) from zwG _ 20]
end Go.Proofs.YtddkaehkimnklaaGreatDoor
end
