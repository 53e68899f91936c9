/- Texts of this claim, joined (the program, its functions in plain words, and what they compute). -/
import Derived.Test.YtnolcogncjijpaaGreatDoorGC7
import Derived.Test.YtnolcogncjijpaaGreatDoorGC8
import Derived.Test.YtnolcogncjijpaaGreatDoorGC1
import Derived.Test.YtnolcogncjijpaaGreatDoorGA2
import Derived.Test.YtnolcogncjijpaaGreatDoorGC4
import Derived.Test.YtnolcogncjijpaaGreatDoorGC6
set_option autoImplicit false
set_option linter.unusedVariables false
set_option linter.unusedSectionVars false
set_option linter.unusedSimpArgs false
set_option maxRecDepth 1000000
set_option maxHeartbeats 0
/- Sums and products of annotations are those of a commutative semiring. -/
noncomputable section
namespace Go.Proofs.YtnolcogncjijpaaGreatDoor
open Go Go.Ab
theorem zMt {α:Type} {R:α→α→Prop} (ir:∀ x,¬ R x x) (asy:∀ x y,R x y→¬ R y x):∀ (a b:List α),a.Pairwise R→b.Pairwise R→(∀ x,x∈a↔x∈b)→a=b
 | [],[],_,_,_=>rfl
 | [],y::b,_,_,h=>by have:=(h y).2 (by simp); cases this
 | x::a,[],_,_,h=>by have:=(h x).1 (by simp); cases this
 | x::a,y::b,ha,hb,h=>by
  have ca:=List.pairwise_cons.1 ha
  have cb:=List.pairwise_cons.1 hb
  have e:x=y:=by
   rcases List.mem_cons.1 ((h x).1 (by simp)) with e | hx
   ·exact e
   ·rcases List.mem_cons.1 ((h y).2 (by simp)) with e | hy
    ·exact e.symm
    ·exact absurd (cb.1 x hx) (asy _ _ (ca.1 y hy))
  subst e
  rw [zMt ir asy a b ca.2 cb.2 fun z=>⟨fun hz=> ?_,fun hz=> ?_⟩]
  ·rcases List.mem_cons.1 ((h z).1 (by simp [hz])) with rfl | h1
   ·exact absurd (ca.1 z hz) (ir z)
   ·exact h1
  ·rcases List.mem_cons.1 ((h z).2 (by simp [hz])) with rfl | h1
   ·exact absurd (cb.1 z hz) (ir z)
   ·exact h1
def exA (x:Atom):List Factor→Int
 | []=>0
 | f::r=>(if f.Atom=x then f.Exp else 0)+exA x r
theorem zuM (x:Atom) (f:Factor) (r:List Factor):exA x (f::r)=(if f.Atom=x then f.Exp else 0)+exA x r:=rfl
def MF (l:List Factor):Prop:=Srf l∧∀ f∈l,eOK f∧1≤f.Exp
theorem MF.tail {f:Factor} {l:List Factor} (h:MF (f::l)):MF l:=⟨(List.pairwise_cons.1 h.1).2,fun g hg=>h.2 g (by simp [hg])⟩
theorem MF.nil:MF []:=⟨List.Pairwise.nil,fun f hf=>by cases hf⟩
theorem zJ0 {x:Atom}:∀ {l:List Factor},(∀ f∈l,f.Atom≠x)→exA x l=0
 | [],_=>rfl
 | f::r,h=>by rw [exA,if_neg (h f (by simp)),zJ0 fun g hg=>h g (by simp [hg])]; rfl
theorem cF_self' {x y:Factor} (h:x.Atom=y.Atom):cF x y=0:=by unfold cF; rw [h]; exact zHh _
theorem MF.ne {f:Factor} {l:List Factor} (h:MF (f::l)):∀ g∈l,g.Atom≠f.Atom:=fun g hg e=>by
 have:=(List.pairwise_cons.1 h.1).1 g hg
 rw [cF_self' e.symm] at this; omega
theorem zI1 {f:Factor}:∀ {l:List Factor},MF l→f∈l→exA f.Atom l=f.Exp
 | [],_,h=>by cases h
 | g::r,h,hf=>by
  rw [exA]
  rcases List.mem_cons.1 hf with rfl | hf
  ·rw [if_pos rfl,zJ0 h.ne]; omega
  ·rw [if_neg (fun e=>h.ne f hf e.symm),zI1 h.tail hf]; omega
theorem zI6 {x:Atom}:∀ {l:List Factor},MF l→(0≤exA x l∧(exA x l≠0→∃ f∈l,f.Atom=x))
 | [],_=>⟨Int.le_refl _,fun h=>absurd rfl h⟩
 | g::r,h=>by
  rw [exA]
  have:=zI6 (x:=x) h.tail
  have:=(h.2 g (by simp)).2
  by_cases e:g.Atom=x
  ·rw [if_pos e]
   exact ⟨by omega,fun _=>⟨g,by simp,e⟩⟩
  ·rw [if_neg e]
   refine ⟨by omega,fun h1=> ?_⟩
   obtain ⟨f,hf,e⟩:=(zI6 (x:=x) h.tail).2 (by omega)
   exact ⟨f,by simp [hf],e⟩
theorem zNX {x:Atom} {l:List Factor} (h:MF l) (hx:x.Kind=3∨x.Kind=4):exA x l=0∨exA x l=1:=by
 by_cases h0:exA x l=0
 ·exact .inl h0
 ·obtain ⟨f,hf,rfl⟩:=(zI6 h).2 h0
  rw [zI1 h hf]
  exact .inr ((h.2 f hf).1.2 hx)
theorem zSh {x y:Factor} (h1:x.Atom=y.Atom) (h2:x.Exp=y.Exp):x=y:=by cases x; cases y; simp_all
theorem zRX {a b:List Factor} (ha:MF a) (hb:MF b) (h:∀ x,exA x a=exA x b):a=b:=by
 refine zMt (R:=fun x y=>cF x y<0) (fun x=>by rw [cF_self' rfl]; omega) (fun x y h=>by rw [zLM x y]; omega) a b ha.1 hb.1 fun f=> ?_
 have key:∀ {a b:List Factor},MF a→MF b→(∀ x,exA x a=exA x b)→f∈a→f∈b:=fun {a b} ha hb h hf=>by
  have e:=h f.Atom
  rw [zI1 ha hf] at e
  have h1:=(ha.2 f hf).2
  obtain ⟨g,hg,e2⟩:=(zI6 (x:=f.Atom) hb).2 (by omega)
  rw [← e2,zI1 hb hg] at e
  rw [zSh e2.symm e]; exact hg
 exact ⟨key ha hb h,key hb ha fun x=>(h x).symm⟩
def cbE (x:Atom) (m n:Int):Int:=if x.Kind=3∨x.Kind=4 then (if m=0 then n else m) else m+n
theorem zTx {a b:List Factor}:Srf a→Srf b→Srf (zS a b):=by
 induction a,b using zS.induct with
 | case1 b=>intro _ hb; rw [zS]; exact hb
 | case2 x a=>intro ha _; rw [zS]; exact ha
 | case3 x a y b h ih=>
  intro ha hb
  have ca:=List.pairwise_cons.1 ha
  rw [zS,if_pos h]
  refine List.pairwise_cons.2 ⟨fun z hz=> ?_,ih ca.2 hb⟩
  obtain ⟨w,hw,e⟩:=znf hz
  have:cF x z=cF x w:=by unfold cF; rw [e]
  rw [this]
  rcases hw with hw | hw
  ·exact ca.1 w hw
  ·rcases List.mem_cons.1 hw with rfl | hw
   ·exact h
   ·exact zsx h ((List.pairwise_cons.1 hb).1 w hw)
 | case4 x a y b h h2 ih=>
  intro ha hb
  have cb:=List.pairwise_cons.1 hb
  rw [zS,if_neg h,if_pos h2]
  have h3:cF y x<0:=by rw [zLM x y]; omega
  refine List.pairwise_cons.2 ⟨fun z hz=> ?_,ih ha cb.2⟩
  obtain ⟨w,hw,e⟩:=znf hz
  have:cF y z=cF y w:=by unfold cF; rw [e]
  rw [this]
  rcases hw with hw | hw
  ·rcases List.mem_cons.1 hw with rfl | hw
   ·exact h3
   ·exact zsx h3 ((List.pairwise_cons.1 ha).1 w hw)
  ·exact cb.1 w hw
 | case5 x a y b h h2 ih=>
  intro ha hb
  have ca:=List.pairwise_cons.1 ha
  have cb:=List.pairwise_cons.1 hb
  have h0:x.Atom=y.Atom:=zIF (by omega)
  rw [zS,if_neg h,if_neg h2]
  have hA:(if x.Atom.Kind=3∨x.Atom.Kind=4 then x else ⟨x.Atom,x.Exp+y.Exp⟩:Factor).Atom=x.Atom:=by split <;>rfl
  refine List.pairwise_cons.2 ⟨fun z hz=> ?_,ih ca.2 cb.2⟩
  obtain ⟨w,hw,e⟩:=znf hz
  have:cF (if x.Atom.Kind=3∨x.Atom.Kind=4 then x else ⟨x.Atom,x.Exp+y.Exp⟩:Factor) z=cF x w:=by unfold cF; rw [e,hA]
  rw [this]
  rcases hw with hw | hw
  ·exact ca.1 w hw
  ·have:cF x w=cF y w:=by unfold cF; rw [h0]
   rw [this]; exact cb.1 w hw
theorem zTv {a b:List Factor}:(∀ f∈a,eOK f∧1≤f.Exp)→(∀ f∈b,eOK f∧1≤f.Exp)→∀ f∈zS a b,eOK f∧1≤f.Exp:=by
 induction a,b using zS.induct with
 | case1 b=>intro _ hb; rw [zS]; exact hb
 | case2 x a=>intro ha _; rw [zS]; exact ha
 | case3 x a y b h ih=>
  intro ha hb f hf
  rw [zS,if_pos h] at hf
  rcases List.mem_cons.1 hf with rfl | hf
  ·exact ha _ (by simp)
  ·exact ih (fun g hg=>ha g (by simp [hg])) hb f hf
 | case4 x a y b h h2 ih=>
  intro ha hb f hf
  rw [zS,if_neg h,if_pos h2] at hf
  rcases List.mem_cons.1 hf with rfl | hf
  ·exact hb _ (by simp)
  ·exact ih ha (fun g hg=>hb g (by simp [hg])) f hf
 | case5 x a y b h h2 ih=>
  intro ha hb f hf
  rw [zS,if_neg h,if_neg h2] at hf
  rcases List.mem_cons.1 hf with rfl | hf
  ·have h1:=ha x (by simp)
   have h2:=hb y (by simp)
   split
   ·exact h1
   ·rename_i hk
    exact ⟨⟨h1.1.1,fun h=>absurd h hk⟩,by show 1≤x.Exp+y.Exp; omega⟩
  ·exact ih (fun g hg=>ha g (by simp [hg])) (fun g hg=>hb g (by simp [hg])) f hf
theorem zq1 {a b:List Factor} (ha:MF a) (hb:MF b):MF (zS a b):=⟨zTx ha.1 hb.1,zTv ha.2 hb.2⟩
theorem zRa (x:Atom) (n:Int):cbE x 0 n=n:=by unfold cbE; split <;>simp
theorem cbE_0' (x:Atom) (n:Int):cbE x n 0=n:=by unfold cbE; split <;>simp; omega
theorem zEf {x:Factor} {l:List Factor} (h:∀ z∈l,cF x z<0):exA x.Atom l=0:=zJ0 fun f hf e=>by
 have:=h f hf; rw [cF_self' e.symm] at this; omega
theorem zBb (x:Atom) {a b:List Factor}:MF a→MF b→exA x (zS a b)=cbE x (exA x a) (exA x b):=by
 induction a,b using zS.induct with
 | case1 b=>intro _ hb; rw [zS,exA,zRa]
 | case2 y a=>intro ha _; rw [zS,show exA x []=0 from rfl,cbE_0']
 | case3 u a y b h ih=>
  intro ha hb
  rw [zS,if_pos h,zuM,zuM x u a,ih ha.tail hb]
  by_cases e:u.Atom=x
  ·subst e
   have h1:exA u.Atom a=0:=zEf (List.pairwise_cons.1 ha.1).1
   have h2:exA u.Atom (y::b)=0:=zEf fun z hz=>by
    rcases List.mem_cons.1 hz with rfl | hz
    ·exact h
    ·exact zsx h ((List.pairwise_cons.1 hb.1).1 z hz)
   rw [h1,h2,cbE_0',cbE_0']
  ·rw [if_neg e,Int.zero_add,Int.zero_add]
 | case4 u a y b h h2 ih=>
  intro ha hb
  have h3:cF y u<0:=by rw [zLM u y]; omega
  rw [zS,if_neg h,if_pos h2,zuM,zuM x y b,ih ha hb.tail]
  by_cases e:y.Atom=x
  ·subst e
   have h1:exA y.Atom b=0:=zEf (List.pairwise_cons.1 hb.1).1
   have h2:exA y.Atom (u::a)=0:=zEf fun z hz=>by
    rcases List.mem_cons.1 hz with rfl | hz
    ·exact h3
    ·exact zsx h3 ((List.pairwise_cons.1 ha.1).1 z hz)
   rw [h1,h2,zRa,zRa]
  ·rw [if_neg e,Int.zero_add,Int.zero_add]
 | case5 u a y b h h2 ih=>
  intro ha hb
  have h0:u.Atom=y.Atom:=zIF (by omega)
  rw [zS,if_neg h,if_neg h2,zuM,zuM x u a,zuM x y b,ih ha.tail hb.tail]
  have h1:=ha.2 u (by simp)
  by_cases e:u.Atom=x
  ·subst e
   have z1:exA u.Atom a=0:=zEf (List.pairwise_cons.1 ha.1).1
   have z2:exA u.Atom b=0:=by rw [h0]; exact zEf (List.pairwise_cons.1 hb.1).1
   rw [z1,z2,if_pos rfl,if_pos h0.symm]
   by_cases hk:u.Atom.Kind=3∨u.Atom.Kind=4
   ·have n0:¬ u.Exp+0=0:=by omega
    simp only [cbE,if_pos hk,if_neg n0,if_true]
   ·simp only [cbE,if_neg hk,if_true]
    omega
  ·have e':¬ y.Atom=x:=fun h=>e (h0.trans h)
   have hA:(if u.Atom.Kind=3∨u.Atom.Kind=4 then u else ⟨u.Atom,u.Exp+y.Exp⟩:Factor).Atom=u.Atom:=by split <;>rfl
   simp only [hA,e,e',if_false,Int.zero_add]
theorem zSm {a b:List Factor} (ha:MF a) (hb:MF b):zS a b=zS b a:=zRX (zq1 ha hb) (zq1 hb ha) fun x=>by
 rw [zBb x ha hb,zBb x hb ha]
 unfold cbE
 split
 ·rename_i hk
  rcases zNX ha hk with e | e <;>rcases zNX hb hk with e' | e' <;>simp [e,e']
 ·omega
theorem zQY {a b c:List Factor} (ha:MF a) (hb:MF b) (hc:MF c):zS (zS a b) c=zS a (zS b c):=zRX (zq1 (zq1 ha hb) hc) (zq1 ha (zq1 hb hc)) fun x=>by
 rw [zBb x (zq1 ha hb) hc,zBb x ha hb,zBb x ha (zq1 hb hc),zBb x hb hc]
 unfold cbE
 split
 ·by_cases h:exA x a=0 <;>simp [h]
 ·omega
def EqS (n m:Nat):Prop:=n=m∨(1152921504606846976≤n∧1152921504606846976≤m)
theorem EqS.refl (n:Nat):EqS n n:=.inl rfl
theorem EqS.symm {n m:Nat} (h:EqS n m):EqS m n:=by unfold EqS at *; omega
theorem EqS.trans {n m k:Nat} (h:EqS n m) (h':EqS m k):EqS n k:=by unfold EqS at *; omega
theorem EqS.add {n m n' m':Nat} (h:EqS n n') (h':EqS m m'):EqS (n+m) (n'+m'):=by unfold EqS at *; omega
theorem EqS.mul1 {n n':Nat} (k:Nat) (h:EqS n n'):EqS (n*k) (n'*k):=by
 rcases h with rfl | ⟨h1,h2⟩
 ·exact .refl _
 ·rcases Nat.eq_zero_or_pos k with rfl | hk
  ·exact .inl (by simp)
  ·exact .inr ⟨Nat.le_trans h1 (Nat.le_mul_of_pos_right n hk),Nat.le_trans h2 (Nat.le_mul_of_pos_right n' hk)⟩
theorem EqS.mul {n m n' m':Nat} (h:EqS n n') (h':EqS m m'):EqS (n*m) (n'*m'):=by
 refine (h.mul1 m).trans ?_
 rw [Nat.mul_comm n' m,Nat.mul_comm n' m']
 exact h'.mul1 n'
def evA (φ:List Factor→Nat):List Term→Nat
 | []=>0
 | t::r=>t.Coeff.toNat *φ t.Factors+evA φ r
theorem zK4 (φ:List Factor→Nat):∀ a b:List Term,evA φ (a++b)=evA φ a+evA φ b
 | [],b=>by simp [evA]
 | t::r,b=>by rw [List.cons_append,evA,evA,zK4 φ r b]; omega
theorem zSO {a b:Int} (ha:1≤a) (hb:1≤b):EqS (zoV a b).toNat (a.toNat +b.toNat):=by
 unfold zoV EqS
 split <;>omega
theorem zRG (φ:List Factor→Nat) {t:Term} (ht:cOK t):∀ {l:List Term},(∀ x∈l,cOK x)→EqS (evA φ (putA t l)) (t.Coeff.toNat *φ t.Factors+evA φ l)
 | [],_=>.inl rfl
 | x::r,h=>by
  unfold putA
  by_cases h1:cT x t<0
  ·rw [if_pos h1,evA,evA]
   refine ((EqS.refl _).add (zRG φ ht fun y hy=>h y (by simp [hy]))).trans (.inl ?_)
   omega
  ·rw [if_neg h1]
   by_cases h2:cT x t=0
   ·rw [if_pos h2,evA,evA,zEQ h2]
    show EqS ((zoV x.Coeff t.Coeff).toNat *φ t.Factors+evA φ r) (t.Coeff.toNat *φ t.Factors+(x.Coeff.toNat *φ t.Factors+evA φ r))
    refine ((zSO (h x (by simp)).1 ht.1).mul1 _ |>.add (.refl _)).trans (.inl ?_)
    rw [Nat.add_mul]; omega
   ·rw [if_neg h2]; exact .refl _
theorem zH7 (φ:List Factor→Nat):∀ (b:List Term) {a:List Term},(∀ x∈a,cOK x)→(∀ x∈b,cOK x)→EqS (evA φ (sumA a b)) (evA φ a+evA φ b)
 | [],a,_,_=>.inl rfl
 | t::r,a,ha,hb=>by
  refine (zH7 φ r (zNw (hb t (by simp)) ha) fun x hx=>hb x (by simp [hx])).trans ?_
  rw [evA]
  refine ((zRG φ (hb t (by simp)) ha).add (.refl _)).trans (.inl ?_)
  omega
theorem zu2 {φ ψ:List Factor→Nat}:∀ {a:List Term},(∀ t∈a,EqS (φ t.Factors) (ψ t.Factors))→EqS (evA φ a) (evA ψ a)
 | [],_=>.refl _
 | t::r,h=>by
  rw [evA,evA]
  exact ((EqS.refl _).mul (h t (by simp))).add (zu2 fun x hx=>h x (by simp [hx]))
theorem zEo {φ ψ:List Factor→Nat}:∀ {a:List Term},(∀ t∈a,φ t.Factors=ψ t.Factors)→evA φ a=evA ψ a
 | [],_=>rfl
 | t::r,h=>by rw [evA,evA,h t (by simp),zEo fun x hx=>h x (by simp [hx])]
theorem zP4 (φ ψ:List Factor→Nat):∀ a:List Term,evA (fun m=>φ m+ψ m) a=evA φ a+evA ψ a
 | []=>rfl
 | t::r=>by rw [evA,evA,evA,zP4 φ ψ r,Nat.mul_add]; omega
theorem zQu (φ:List Factor→Nat) (k:Nat):∀ a:List Term,evA (fun m=>k*φ m) a=k*evA φ a
 | []=>rfl
 | t::r=>by rw [evA,evA,zQu φ k r,Nat.mul_add,Nat.mul_left_comm]
theorem zKh (G:List Factor→List Factor→Nat):∀ a b:List Term,evA (fun m=>evA (fun n=>G m n) b) a=evA (fun n=>evA (fun m=>G m n) a) b
 | [],b=>by
  rw [evA]
  induction b with
  | nil=>rfl
  | cons t r ih=>rw [evA, ← ih,evA]; omega
 | t::r,b=>by
  rw [evA,zKh G r b, ← zQu, ← zP4]
  refine zEo fun s _=> ?_
  rw [evA]
def prW (φ:List Factor→Nat) (b:List Term) (m:List Factor):Nat:=evA (fun n=>φ (zS m n)) b
theorem zR4 {a b:Int} (ha:1≤a∧a≤1152921504606846976) (hb:1≤b∧b≤1152921504606846976):EqS (zo9 a b).toNat (a.toNat *b.toNat):=by
 have e:((a.toNat *b.toNat:Nat):Int)=a*b:=by rw [Int.natCast_mul,Int.toNat_of_nonneg (by omega),Int.toNat_of_nonneg (by omega)]
 have h:=zAU ha hb
 unfold zo9 at *
 split
 ·rename_i hlt
  right
  refine ⟨by omega, ?_⟩
  have:1152921504606846976≤a*b:=by
   rw [Int.tdiv_eq_ediv_of_nonneg (by omega)] at hlt
   by_cases hc:1152921504606846976≤a*b
   ·exact hc
   ·have:=(Int.le_ediv_iff_mul_le (c:=b) (a:=a) (b:=1152921504606846976) (by omega)).2 (by omega)
    omega
  omega
 ·left
  omega
theorem zTw (φ:List Factor→Nat) {a b:List Term} (ha:∀ x∈a,cOK x) (hb:∀ x∈b,cOK x):EqS (evA φ (zdb a b)) (evA (prW φ b) a):=by
 induction a with
 | nil=>exact .refl _
 | cons x a ih=>
  have hx:=ha x (by simp)
  show EqS (evA φ (b.map (zhx x)++zdb a b)) _
  rw [zK4,evA]
  refine EqS.add ?_ (ih fun y hy=>ha y (by simp [hy]))
  unfold prW
  clear ih
  induction b with
  | nil=>exact .inl (by simp [evA])
  | cons y b ih=>
   rw [List.map_cons,evA,evA,Nat.mul_add, ← Nat.mul_assoc]
   exact ((zR4 hx (hb y (by simp))).mul1 _).add (ih fun z hz=>hb z (by simp [hz]))
theorem zPN {a b:List Term} (ha:∀ x∈a,cOK x) (hb:∀ x∈b,cOK x):∀ t∈zdb a b,cOK t:=fun t ht=>by
 obtain ⟨x,hx,y,hy,rfl⟩:=zvF ht
 exact (zAU (ha x hx) (hb y hy)).1
theorem zSu {a b:List Term} (ha:∀ x∈a,cOK x) (hb:∀ x∈b,cOK x):∀ t∈zbn a b,cOK t:=zNG _ (fun _ h=>by cases h) (zPN ha hb)
theorem zOP (a b:List Term):Srs (zbn a b):=zBa _ _ List.Pairwise.nil
theorem zq2 (φ:List Factor→Nat) {a b:List Term} (ha:∀ x∈a,cOK x) (hb:∀ x∈b,cOK x):EqS (evA φ (zbn a b)) (evA (prW φ b) a):=by
 refine (zH7 φ (zdb a b) (fun _ h=>by cases h) (zPN ha hb)).trans ?_
 rw [evA,Nat.zero_add]
 exact zTw φ ha hb
def indA (m n:List Factor):Nat:=if n=m then 1 else 0
theorem zOY {m:List Factor}:∀ {l:List Term},(∀ t∈l,t.Factors≠m)→evA (indA m) l=0
 | [],_=>rfl
 | t::r,h=>by rw [evA,zOY fun x hx=>h x (by simp [hx]),indA,if_neg (h t (by simp)),Nat.mul_zero]
theorem zL3 {t:Term}:∀ {l:List Term},Srs l→t∈l→evA (indA t.Factors) l=t.Coeff.toNat
 | [],_,h=>by cases h
 | x::r,hs,h=>by
  have hc:=List.pairwise_cons.1 hs
  rw [evA]
  rcases List.mem_cons.1 h with rfl | h
  ·rw [zOY fun y hy e=>by
    have:=hc.1 y hy
    rw [ztd e.symm] at this; omega]
   simp [indA]
  ·rw [zL3 hc.2 h,indA,if_neg fun e=>by
    have:=hc.1 t h
    rw [ztd e] at this; omega]
   omega
theorem zL7 {m:List Factor}:∀ {l:List Term},evA (indA m) l≠0→∃ t∈l,t.Factors=m
 | [],h=>absurd rfl h
 | x::r,h=>by
  by_cases e:x.Factors=m
  ·exact ⟨x,by simp,e⟩
  ·rw [evA,indA,if_neg e,Nat.mul_zero,Nat.zero_add] at h
   obtain ⟨t,ht,e⟩:=zL7 (l:=r) h
   exact ⟨t,by simp [ht],e⟩
theorem zI2 {a b:List Term} (ha:Srs a) (hb:Srs b) (ca:∀ t∈a,cOK t) (cb:∀ t∈b,cOK t) (h:∀ φ,EqS (evA φ a) (evA φ b)):a=b:=by
 refine zMt (R:=fun x y=>cT x y<0) (fun x=>by rw [ztd rfl]; omega) (fun x y h=>by rw [zvq x y]; omega) a b ha hb fun t=> ?_
 have key:∀ {a b:List Term},Srs a→Srs b→(∀ t∈a,cOK t)→(∀ t∈b,cOK t)→(∀ φ,EqS (evA φ a) (evA φ b))→t∈a→t∈b:=fun {a b} ha hb ca cb h ht=>by
  have e:=h (indA t.Factors)
  rw [zL3 ha ht] at e
  have c1:=ca t ht
  unfold cOK at c1
  have hne:evA (indA t.Factors) b≠0:=by unfold EqS at e; omega
  obtain ⟨s,hs,e2⟩:=zL7 hne
  rw [← e2,zL3 hb hs] at e
  have c2:=cb s hs
  unfold cOK at c2
  have:t=s:=zLQ (by unfold EqS at e; omega) e2.symm
  rw [this]; exact hs
 exact ⟨key ha hb ca cb h,key hb ha cb ca fun φ=>(h φ).symm⟩
def PA (a:List Term):Prop:=Srs a∧∀ t∈a,cOK t∧MF t.Factors
theorem PA.c {a:List Term} (h:PA a):∀ t∈a,cOK t:=fun t ht=>(h.2 t ht).1
theorem zEL {a b:List Term} (ha:PA a) (hb:PA b):PA (sumA a b):=⟨zBa _ _ ha.1,fun t ht=>⟨zNG b ha.c hb.c t ht,by
 obtain ⟨x,hx,e⟩:=zte b a ha.1 ht
 rw [e]
 rcases hx with hx | hx
 ·exact (ha.2 x hx).2
 ·exact (hb.2 x hx).2⟩⟩
theorem zgD {a b:List Term} (ha:PA a) (hb:PA b):PA (zbn a b):=⟨zOP _ _,fun t ht=>⟨zSu ha.c hb.c t ht,by
 obtain ⟨x,hx,e⟩:=zte (zdb a b) [] List.Pairwise.nil ht
 rw [e]
 rcases hx with hx | hx
 ·cases hx
 ·obtain ⟨u,hu,v,hv,rfl⟩:=zvF hx
  exact zq1 (ha.2 u hu).2 (hb.2 v hv).2⟩⟩
theorem PA.nil:PA []:=⟨List.Pairwise.nil,fun t ht=>by cases ht⟩
theorem zHC {a b:List Term} (ha:PA a) (hb:PA b):zbn a b=zbn b a:=by
 refine zI2 (zgD ha hb).1 (zgD hb ha).1 (zgD ha hb).c (zgD hb ha).c fun φ=> ?_
 refine (zq2 φ ha.c hb.c).trans (.trans (.inl ?_) (zq2 φ hb.c ha.c).symm)
 unfold prW
 rw [zKh]
 exact zEo fun n hn=>zEo fun m hm=>by rw [zSm (ha.2 m hm).2 (hb.2 n hn).2]
theorem zkK {a b c:List Term} (ha:PA a) (hb:PA b) (hc:PA c):zbn (zbn a b) c=zbn a (zbn b c):=by
 have pab:=zgD ha hb
 have pbc:=zgD hb hc
 refine zI2 (zgD pab hc).1 (zgD ha pbc).1 (zgD pab hc).c (zgD ha pbc).c fun φ=> ?_
 refine (zq2 φ pab.c hc.c).trans ((zq2 _ ha.c hb.c).trans (.trans ?_ (zq2 φ ha.c pbc.c).symm))
 refine zu2 fun m hm=> ?_
 refine .trans ?_ (zq2 (fun p=>φ (zS m.Factors p)) hb.c hc.c).symm
 refine zu2 fun n hn=>.inl ?_
 exact zEo fun q hq=>by rw [zQY (ha.2 m hm).2 (hb.2 n hn).2 (hc.2 q hq).2]
theorem zFy {c:Int} (h:c≤1152921504606846976):zo9 c 1=c:=by
 unfold zo9
 rw [if_neg (by rw [Int.tdiv_one]; omega)]; omega
theorem zRS {a:List Term} (ha:∀ t∈a,cOK t):zdb a [⟨1,[]⟩]=a:=by
 induction a with
 | nil=>rfl
 | cons x a ih=>
  show zhx x ⟨1,[]⟩::zdb a [⟨1,[]⟩]=_
  rw [ih fun t ht=>ha t (by simp [ht])]
  congr 1
  unfold zhx
  rw [zFy (ha x (by simp)).2,zy9]
theorem zsC {a:List Term} (ha:PA a):zbn a [⟨1,[]⟩]=a:=by
 unfold zbn
 rw [zRS ha.c,sum_nil ha.1]
theorem zB7:PA [⟨1,[]⟩]:=⟨by simp,fun t ht=>by
 rw [List.mem_singleton] at ht; subst ht
 exact ⟨⟨by decide,by decide⟩,MF.nil⟩⟩
theorem zJW {a:List Term} (ha:PA a):zbn [⟨1,[]⟩] a=a:=by rw [zHC zB7 ha,zsC ha]
theorem zBq {τ:Type} [Inhabited τ] {R:τ→τ→Prop}:∀ {l:List τ},l.Pairwise R→∀ k,0<k→k<l.length→R (l.getD (k - 1) default) (l.getD k default)
 | [],_,k,_,h=>by simp at h
 | x::r,h,0,h0,_=>by omega
 | x::r,h,1,_,h1=>(List.pairwise_cons.1 h).1 _ (zp (by simpa using h1))
 | x::r,h,k+2,_,h1=>zBq (List.pairwise_cons.1 h).2 (k+1) (by omega) (by simp only [List.length_cons] at h1; omega)
def OKF (vat:Atom→Bool) (fs:List Factor):Prop:=Srf fs∧∀ f∈fs,(1≤f.Exp∧(f.Atom.Kind=3∨f.Atom.Kind=4→f.Exp=1))∧vat f.Atom=true
theorem zP0 {vat:Atom→Bool} {fs:List Factor}:okF vat fs=true↔OKF vat fs:=by
 constructor
 ·intro h
  refine ⟨zpv (R:=fun x y=>cF x y<0) (fun x y z h1 h2=>zsx h1 h2) _ fun k hk hl=> ?_,fun f hf=>zmf h hf⟩
  have:=zd8.1 h k (by omega) (by omega)
  simp only [chkF,Bool.and_eq_true,Bool.or_eq_true,decide_eq_true_eq] at this
  rcases this.1.2 with e | e
  ·omega
  ·exact e
 ·intro h
  refine zd8.2 fun k _ hk=> ?_
  have hm:=h.2 _ (zp (l:=fs) (i:=k) (by omega))
  simp only [chkF,Bool.and_eq_true,Bool.or_eq_true,decide_eq_true_eq,Bool.not_eq_true',Bool.and_eq_false_iff]
  refine ⟨⟨⟨hm.1.1, ?_⟩, ?_⟩,hm.2⟩
  ·by_cases hk:(fs.getD k default).Atom.Kind=3∨(fs.getD k default).Atom.Kind=4
   ·right; rw [hm.1.2 hk]; rfl
   ·left
    rw [Bool.or_eq_false_iff]
    constructor
    ·simpa using fun e=>hk (.inl e)
    ·simpa using fun e=>hk (.inr e)
  ·by_cases h0:k=0
   ·exact .inl h0
   ·exact .inr (zBq h.1 k (by omega) (by omega))
theorem zxJ {vat:Atom→Bool} {a:List Term}:vAnn vat a=true↔zfi a=true∧Srs a∧∀ t∈a,cOK t∧OKF vat t.Factors:=by
 constructor
 ·intro h
  have hall:=h
  simp only [vAnn,Bool.and_eq_true] at hall
  refine ⟨hall.1,zpv (R:=fun x y=>cT x y<0) (fun x y z h1 h2=>zBj h1 h2) a fun k hk hl=> ?_,fun t ht=>⟨(zpM h ht).1,zP0.1 (zpM h ht).2⟩⟩
  have:=zd8.1 hall.2 k (by omega) (by omega)
  simp only [chkT,Bool.and_eq_true,Bool.or_eq_true,decide_eq_true_eq] at this
  rcases this.1.2 with e | e
  ·omega
  ·exact e
 ·rintro ⟨h1,h2,h3⟩
  simp only [vAnn,Bool.and_eq_true]
  refine ⟨h1,zd8.2 fun k _ hk=> ?_⟩
  have hm:=h3 _ (zp (l:=a) (i:=k) (by omega))
  simp only [chkT,Bool.and_eq_true,Bool.or_eq_true,decide_eq_true_eq]
  refine ⟨⟨⟨hm.1.1,hm.1.2⟩, ?_⟩,zP0.2 hm.2⟩
  by_cases h0:k=0
  ·exact .inl h0
  ·exact .inr (zBq h2 k (by omega) (by omega))
def QA (a:List Term):Prop:=Srs a∧∀ t∈a,cOK t∧OKF vatA t.Factors
theorem zn5 {a:List Term}:zC a=true↔zfi a=true∧QA a:=by rw [zLE]; exact zxJ
theorem OKF.mf {fs:List Factor} (h:OKF vatA fs):MF fs:=⟨h.1,fun f hf=>⟨⟨zs2 (h.2 f hf).2,(h.2 f hf).1.2⟩,(h.2 f hf).1.1⟩⟩
theorem QA.pa {a:List Term} (h:QA a):PA a:=⟨h.1,fun t ht=>⟨(h.2 t ht).1,(h.2 t ht).2.mf⟩⟩
theorem zuK {a:List Term} (h:zC a=true):QA a:=(zn5.1 h).2
theorem zOx {a:List Term} (h:zC a=true):PA a:=(zuK h).pa
theorem MF.okf {fs:List Factor} (h:MF fs) (hv:∀ f∈fs,vatA f.Atom=true):OKF vatA fs:=⟨h.1,fun f hf=>⟨⟨(h.2 f hf).2,(h.2 f hf).1.2⟩,hv f hf⟩⟩
theorem OKF.join {a b:List Factor} (ha:OKF vatA a) (hb:OKF vatA b):OKF vatA (zS a b):=(zq1 ha.mf hb.mf).okf fun f hf=>by
 obtain ⟨y,hy,e⟩:=znf hf
 rw [e]
 rcases hy with hy | hy
 ·exact (ha.2 y hy).2
 ·exact (hb.2 y hy).2
theorem zVR {a b:List Term} (ha:QA a) (hb:QA b):QA (sumA a b):=⟨zBa _ _ ha.1,fun t ht=>⟨zNG b ha.pa.c hb.pa.c t ht,by
 obtain ⟨x,hx,e⟩:=zte b a ha.1 ht
 rw [e]
 rcases hx with hx | hx
 ·exact (ha.2 x hx).2
 ·exact (hb.2 x hx).2⟩⟩
theorem zUz {a b:List Term} (ha:QA a) (hb:QA b):QA (zbn a b):=⟨zOP _ _,fun t ht=>⟨zSu ha.pa.c hb.pa.c t ht,by
 obtain ⟨x,hx,e⟩:=zte (zdb a b) [] List.Pairwise.nil ht
 rw [e]
 rcases hx with hx | hx
 ·cases hx
 ·obtain ⟨u,hu,v,hv,rfl⟩:=zvF hx
  exact (ha.2 u hu).2.join (hb.2 v hv).2⟩⟩
theorem QA.nil:QA []:=⟨List.Pairwise.nil,fun t ht=>by cases ht⟩
theorem zUq {x:Atom} (h:vatA x=true):QA (oneA x):=⟨by simp [oneA],fun t ht=>by
 simp only [oneA,List.mem_singleton] at ht; subst ht
 refine ⟨⟨by simp,by simp⟩,by simp,fun f hf=> ?_⟩
 rw [List.mem_singleton] at hf; subst hf
 exact ⟨⟨by simp,fun _=>rfl⟩,h⟩⟩
theorem zEi {a:List Term} (h:(fitR a).2=0):zfi a=true∧fitR a=(a,0):=by
 unfold fitR at *
 cases hw:zfi a with
 | true=>exact ⟨rfl,rfl⟩
 | false=>rw [hw] at h; simp at h
theorem zI0 {ok:Bool} {r:List Term×Int} (h:(opR ok r).2=0):ok=true∧opR ok r=r:=by
 cases ok with
 | true=>exact ⟨rfl,rfl⟩
 | false=>simp [opR] at h
theorem zLs {a b:List Term} (h:(addR a b).2=0):(zC a=true∧zC b=true∧zC (sumA a b)=true)∧addR a b=(sumA a b,0):=by
 obtain ⟨h1,h2⟩:=zI0 h
 rw [Bool.and_eq_true] at h1
 unfold addR at h
 rw [h2] at h
 obtain ⟨h3,h4⟩:=zEi h
 exact ⟨⟨h1.1,h1.2,zn5.2 ⟨h3,zVR (zuK h1.1) (zuK h1.2)⟩⟩,h2.trans h4⟩
theorem zLl {a b:List Term} (h:(mulR a b).2=0):(zC a=true∧zC b=true∧zC (zbn a b)=true)∧mulR a b=(zbn a b,0):=by
 obtain ⟨h1,h2⟩:=zI0 h
 rw [Bool.and_eq_true] at h1
 unfold mulR at h
 rw [h2] at h
 obtain ⟨h3,h4⟩:=zEi h
 exact ⟨⟨h1.1,h1.2,zn5.2 ⟨h3,zUz (zuK h1.1) (zuK h1.2)⟩⟩,h2.trans h4⟩
theorem zA8 {a:List Term} (h:zfi a=true):fitR a=(a,0):=by unfold fitR; rw [h]; rfl
theorem zVd {a b:List Term} (ha:zC a=true) (hb:zC b=true) (h:zfi (sumA a b)=true):addR a b=(sumA a b,0):=by
 unfold addR; rw [ha,hb,zA8 h]; rfl
theorem zQe {a b:List Term} (ha:zC a=true) (hb:zC b=true) (h:zfi (zbn a b)=true):mulR a b=(zbn a b,0):=by
 unfold mulR; rw [ha,hb,zA8 h]; rfl
theorem zsB {x:Atom}:vatA x=true↔VA zC x:=zcq
theorem zSZ {a:List Term} (h:zC a=true) (h0:a≠[]) (h1:isC a=false) (h2:isU a=false):vatA (delA a)=true:=zsB.2 (VA.del a h h0 h1 h2)
theorem zS1 {a:List Term} (h:zC a=true) (h0:a≠[]) (h1:hasC a=false):vatA (absA a)=true:=zsB.2 (VA.abs a h h0 h1)
theorem zTb {a b:List Term} (h:zC a=true) (h':zC b=true) (h0:a≠[]) (h0':b≠[]) (h1:a≠b):vatA (monA a b)=true:=zsB.2 (VA.mon a b h h' h0 h0' h1)
theorem zQP {x:Atom} (h:vatA x=true) (hw:zfi (oneA x)=true):zC (oneA x)=true:=zn5.2 ⟨hw,zUq h⟩
theorem zTA {x:Atom}:isU (oneA x)=(x.Kind==2||x.Kind==3||x.Kind==4):=rfl
theorem zUQ {x:Atom} (h:x.Kind=3∨x.Kind=4):zbn (oneA x) (oneA x)=oneA x:=by
 have e:cF ⟨x,1⟩ ⟨x,1⟩=0:=cF_self' rfl
 show sumA [] [zhx ⟨1,[⟨x,1⟩]⟩ ⟨1,[⟨x,1⟩]⟩]=_
 have:zS [⟨x,1⟩] [⟨x,1⟩]=[⟨x,1⟩]:=by
  rw [zS,e,if_neg (by omega),if_neg (by omega),if_pos h,zS]
 unfold zhx
 simp only [this,zFy (show (1:Int)≤1152921504606846976 by omega)]
 rfl
def sbd {α β:Type} (x:Int⊕α) (k:α→Int⊕β):Int⊕β:=match x with
 | .inl e=>.inl e
 | .inr a=>k a
theorem zvz {α β:Type} (e:Int) (k:α→Int⊕β):sbd (.inl e) k=.inl e:=rfl
theorem zbF {α β:Type} (a:α) (k:α→Int⊕β):sbd (.inr a) k=k a:=rfl
def opS (r:List Term×Int):Int⊕List Term:=if r.2=0 then .inr r.1 else .inl r.2
def ofS:Int⊕List Term→List Term×Int
 | .inl e=>([],e)
 | .inr a=>(a,0)
theorem zvO {r:List Term×Int} (h:r.2=0∨r.1=[]):ofS (opS r)=r:=by
 obtain ⟨a,e⟩:=r
 simp only at h
 unfold opS
 by_cases he:e=0
 ·subst he; simp [ofS]
 ·rw [if_neg he]
  rcases h with h | h
  ·exact absurd h he
  ·subst h; rfl
theorem zOU {a:List Term}:opS (a,0)=.inr a:=rfl
def powS (b:List Term):Nat→List Term→Int⊕List Term
 | 0,p=>.inr p
 | n+1,p=>sbd (opS (mulR p b)) (powS b n)
mutual
def zdF (to:RowID→List Term):Atom→Int⊕List Term
 | ⟨k,r,a,f,i,o,b⟩=>if k=0 then .inr (to r) else
  sbd (zjF to a) fun xs=>if k=1 then opS (monR (xs.getD 0 default) (xs.getD 1 default)) else if k=2 then opS (delR (xs.getD 0 default)) else if k=3 then opS (absR (xs.getD 0 default)) else
   sbd (zfH to i) fun is=>opS (zqr f is o b)
def zdx (to:RowID→List Term):List Factor→List Term→Int⊕List Term
 | [],p=>.inr p
 | ⟨x,e⟩::r,p=>sbd (zdF to x) fun b=>sbd (powS b e.toNat p) fun q=>zdx to r q
def zbK (to:RowID→List Term):List Term→List Term→Int⊕List Term
 | [],s=>.inr s
 | ⟨c,fs⟩::r,s=>sbd (zdx to fs (cstA c)) fun p=>sbd (opS (addR s p)) fun q=>zbK to r q
def zjF (to:RowID→List Term):List (List Term)→Int⊕List (List Term)
 | []=>.inr []
 | a::r=>sbd (zbK to a []) fun b=>sbd (zjF to r) fun l=>.inr (b::l)
def zfH (to:RowID→List Term):List Weighted→Int⊕List Weighted
 | []=>.inr []
 | ⟨v,a⟩::r=>sbd (zbK to a []) fun b=>sbd (zfH to r) fun l=>.inr (⟨v,b⟩::l)
end
variable (to:RowID→List Term)
theorem zuB (p:List Term):zdx to [] p=.inr p:=by rw [zdx]
theorem ztc (f:Factor) (r:List Factor) (p:List Term):zdx to (f::r) p=sbd (zdF to f.Atom) fun b=>sbd (powS b f.Exp.toNat p) fun q=>zdx to r q:=by cases f; rw [zdx]
theorem zDm (s:List Term):zbK to [] s=.inr s:=by rw [zbK]
theorem zA6 (t:Term) (r s:List Term):zbK to (t::r) s=sbd (zdx to t.Factors (cstA t.Coeff)) fun p=>sbd (opS (addR s p)) fun q=>zbK to r q:=by cases t; rw [zbK]
theorem zmt:zjF to []=.inr []:=by rw [zjF]
theorem zjb (a:List Term) (r:List (List Term)):zjF to (a::r)=sbd (zbK to a []) fun b=>sbd (zjF to r) fun l=>.inr (b::l):=by rw [zjF]
theorem zui:zfH to []=.inr []:=by rw [zfH]
theorem zv3 (w:Weighted) (r:List Weighted):zfH to (w::r)=sbd (zbK to w.Ann []) fun b=>sbd (zfH to r) fun l=>.inr (⟨w.Value,b⟩::l):=by cases w; rw [zfH]
theorem zC1 (x:Atom):zdF to x=if x.Kind=0 then .inr (to x.Row) else
  sbd (zjF to x.Args) fun xs=>if x.Kind=1 then opS (monR (xs.getD 0 default) (xs.getD 1 default)) else if x.Kind=2 then opS (delR (xs.getD 0 default)) else if x.Kind=3 then opS (absR (xs.getD 0 default)) else
   sbd (zfH to x.Items) fun is=>opS (zqr x.Func is x.Op x.Bound):=by cases x; rw [zdF]
def GE {α:Type} (P:α→Prop):Int⊕α→Prop
 | .inl e=>e≠0
 | .inr a=>P a
abbrev GS:Int⊕List Term→Prop:=GE okA
theorem zDx {r:List Term×Int} (h:okR r):GS (opS r):=by
 unfold opS
 by_cases he:r.2=0
 ·rw [if_pos he]; exact h.1
 ·rw [if_neg he]; exact he
theorem zCX {α β:Type} {P:α→Prop} {Q:β→Prop} {x:Int⊕α} {k:α→Int⊕β} (hx:GE P x) (hk:∀ a,P a→GE Q (k a)):GE Q (sbd x k):=by
 cases x with
 | inl e=>exact hx
 | inr a=>exact hk a hx
theorem zKu {b:List Term} (hb:okA b):∀ (n:Nat) (p:List Term),okA p→GS (powS b n p)
 | 0,p,hp=>hp
 | n+1,p,hp=>zCX (zDx (zII hp hb)) fun q hq=>zKu hb n q hq
abbrev GL (n:Nat):Int⊕List (List Term)→Prop:=GE fun l=>l.length=n∧∀ a∈l,okA a
abbrev GI (i:List Weighted):Int⊕List Weighted→Prop:=GE fun l=>l.length=i.length∧∀ w∈l,okA w.Ann∧∃ v∈i,v.Value=w.Value
theorem zRi (w:Weighted):zzf w↔wf46 w.Value∧zfz w.Ann∧w.Ann.length≤roomLen:=by cases w; unfold zzf; exact Iff.rfl
theorem zRB {k f o:Int} {r:RowID} {a:List (List Term)} {i:List Weighted} {b:Value} (h1:wf3 k) (h2:wf25 r) (h3:zqI a∧a.length≤roomLen) (h4:wf3 f) (h5:znY i∧i.length≤roomLen) (h6:wf3 o) (h7:wf46 b):zfm ⟨k,r,a,f,i,o,b⟩:=by
 unfold zfm; exact ⟨h1,h2,h3,h4,h5,h6,h7⟩
theorem zIv {f o:Int} {l:List Weighted} {b:Value} (hl:l.length≤1000000) (h:∀ w∈l,okA w.Ann∧wf46 w.Value) (hf:wf3 f) (ho:wf3 o) (hb:wf46 b):okR (zqr f l o b):=by
 unfold zqr
 cases hk:fitK f l o b with
 | false=>exact ⟨ziQ,.inr rfl⟩
 | true=>
  cases hv:l.all fun w=>zC w.Ann with
  | false=>exact ⟨ziQ,.inr rfl⟩
  | true=>
   simp only [Bool.and_self,Bool.not_true,cond_false]
   cases decide (0<(zdR l).length) with
   | true=>
    obtain ⟨tf,ts⟩:=zBU hl hk hv
    have hr:roomLen=140737488351232:=rfl
    have hlen:(zdR l).length≤1000000:=by rw [zKM]; exact Nat.le_trans (List.length_filter_le _ _) hl
    refine zA7 ⟨⟨tf.mono (by omega),ts⟩,zxV _ fun t ht=> ?_,by simp [oneA,roomLen]⟩
    simp only [oneA,List.mem_singleton] at ht
    subst ht
    refine zG7 ⟨by simp,by simp⟩ (fun g hg=> ?_) (by simp)
    simp only [List.mem_singleton] at hg
    subst hg
    refine ⟨zRB (zHP (zHE (by omega))) ⟨zmG,zmG⟩ ⟨by unfold zqI; trivial,by simp⟩ hf ⟨zFX _ fun w hw=> ?_,by omega⟩ ho hb,⟨by simp,by simp⟩⟩
    have hm:=h w (zFK hw).1
    exact (zRi w).2 ⟨hm.2,hm.1.2⟩
   | false=>
    cases f==0&&mats o (cmpI 0 b.Int) with
    | true=>exact ⟨zI3 1 (by omega),.inl rfl⟩
    | false=>exact ⟨ziQ,.inl rfl⟩
theorem zxH {l:List (List Term)} (h:∀ a∈l,okA a) (i:Nat):okA (l.getD i default):=by
 by_cases hi:i<l.length
 ·exact h _ (zp hi)
 ·rw [List.getD_eq_getElem?_getD,List.getElem?_eq_none (by omega)]; exact ziQ
def okT (to:RowID→List Term):Prop:=∀ r,wf25 r→okA (to r)
variable {to}
mutual
theorem zNe (ht:okT to):∀ (x:Atom) (d:Nat),zfm x→zcI (zm d) x→GS (zdF to x)
 | ⟨k,r,a,f,i,o,b⟩=>fun d hw hi=>by
  have hw':=zmk hw
  simp only at hw'
  obtain ⟨⟨ha,hal⟩,⟨hit,hil⟩,hb,hk,hr,hf,ho⟩:=hw'
  obtain ⟨⟨l1,l2,_⟩,f1,f2⟩:=hi
  simp only at l1 l2 f1 f2
  rw [zdF]
  by_cases hk0:k=0
  ·rw [if_pos hk0]; exact ht r hr
  ·rw [if_neg hk0]
   have hA:=zHW ht a d (fun x hx=>(ziy ha x hx).1) f1
   refine zCX hA fun xs has=> ?_
   have h0:=zxH has.2 0
   have h1:=zxH has.2 1
   split
   ·exact zDx (zIZ h0 h1)
   ·split
    ·exact zDx (zI7 h0)
    ·split
     ·exact zDx (zIK h0)
     ·have hI:=zFk ht i d (fun x hx=>(zhd hit x hx).2.1) fun w hw=>(f2 w hw).2
      refine zCX hI fun is his=> ?_
      refine zDx (zIv (by omega) (fun w hw=>⟨(his.2 w hw).1, ?_⟩) hf ho hb)
      obtain ⟨v,hv,e⟩:=(his.2 w hw).2
      rw [← e]; exact (zhd hit v hv).1
theorem zCy (ht:okT to):∀ (l:List Factor) (d:Nat),(∀ f∈l,zfm f.Atom∧zcI (zm d) f.Atom)→∀ p,okA p→GS (zdx to l p)
 | [],_,_,p,hp=>by rw [zdx]; exact hp
 | ⟨x,e⟩::r,d,h,p,hp=>by
  rw [zdx]
  have hx:=zNe ht x d (h ⟨x,e⟩ (by simp)).1 (h ⟨x,e⟩ (by simp)).2
  refine zCX hx fun b hb=>zCX (zKu hb _ p hp) fun q hq=> ?_
  exact zCy ht r d (fun f hf=>h f (by simp [hf])) q hq
theorem zFL (ht:okT to):∀ (a:List Term) (d:Nat),zfz a→(∀ t∈a,∀ f∈t.Factors,zcI (zm d) f.Atom)→∀ s,okA s→GS (zbK to a s)
 | [],_,_,_,s,hs=>by rw [zbK]; exact hs
 | ⟨c,fs⟩::r,d,hw,hi,s,hs=>by
  rw [zbK]
  have hwt:=zoh hw ⟨c,fs⟩ (by simp)
  have hp:=zCy ht fs d (fun f hf=>⟨(zmZ (zlA (zqw hwt).2.1 f hf)).1,hi ⟨c,fs⟩ (by simp) f hf⟩) (cstA c) (zOv c)
  refine zCX hp fun p hp=>zCX (zDx (zIG hs hp)) fun q hq=> ?_
  exact zFL ht r d (zxV _ fun t ht=>zoh hw t (by simp [ht])) (fun t ht=>hi t (by simp [ht])) q hq
theorem zHW (ht:okT to):∀ (l:List (List Term)) (d:Nat),(∀ a∈l,zfz a)→(∀ a∈l,zm d a)→GL l.length (zjF to l)
 | [],_,_,_=>by rw [zjF]; exact ⟨rfl,fun a ha=>by cases ha⟩
 | a::r,d,h,hi=>by
  rw [zjF]
  have hf:=hi a (by simp)
  have h1:GS (zbK to a []):=by
   cases d with
   | zero=>exact hf.elim
   | succ d=>exact zFL ht a d (h a (by simp)) (fun t ht f hf'=>(hf.2 t ht).2 f hf') [] ziQ
  have h2:=zHW ht r d (fun b hb=>h b (by simp [hb])) (fun b hb=>hi b (by simp [hb]))
  revert h1 h2
  cases zbK to a [] with
  | inl e=>exact fun h _=>h
  | inr b=>
   cases zjF to r with
   | inl e=>exact fun _ h=>h
   | inr l=>
    intro h1 h2
    refine ⟨by simp [h2.1],fun x hx=> ?_⟩
    rcases List.mem_cons.1 hx with rfl | hx
    ·exact h1
    ·exact h2.2 x hx
theorem zFk (ht:okT to):∀ (l:List Weighted) (d:Nat),(∀ w∈l,zfz w.Ann)→(∀ w∈l,zm d w.Ann)→GI l (zfH to l)
 | [],_,_,_=>by rw [zfH]; exact ⟨rfl,fun a ha=>by cases ha⟩
 | ⟨v,a⟩::r,d,h,hi=>by
  rw [zfH]
  have hf:zm d a:=hi ⟨v,a⟩ (by simp)
  have h1:GS (zbK to a []):=by
   cases d with
   | zero=>exact hf.elim
   | succ d=>exact zFL ht a d (h ⟨v,a⟩ (by simp)) (fun t ht f hf'=>(hf.2 t ht).2 f hf') [] ziQ
  have h2:=zFk ht r d (fun b hb=>h b (by simp [hb])) (fun b hb=>hi b (by simp [hb]))
  revert h1 h2
  cases zbK to a [] with
  | inl e=>exact fun h _=>h
  | inr b=>
   cases zfH to r with
   | inl e=>exact fun _ h=>h
   | inr l=>
    intro h1 h2
    refine ⟨by simp [h2.1],fun x hx=> ?_⟩
    rcases List.mem_cons.1 hx with rfl | hx
    ·exact ⟨h1,⟨v,a⟩,by simp,rfl⟩
    ·obtain ⟨h3,w,hw,e⟩:=h2.2 x hx
     exact ⟨h3,w,by simp [hw],e⟩
end
abbrev zxR:=List Binding×Unit×Int×Unit
abbrev ttTref05bound1:=(List Term×Bool)⊕Unit
def zx5 (l:List Binding) (i:Int) (id:RowID):Wy zxR (RowID×Unit) ttTref05bound1:=.i (decide (i<Int.ofNat l.length)) (.i (decide (0≤i)&&decide (i<Int.ofNat l.length)) (.i ((l.getD i.toNat default).Row.Table==id.Table&&((l.getD i.toNat default).Row.Seq==id.Seq&&true)) (.i (decide (0≤i)&&decide (i<Int.ofNat l.length)) (.k (.inl ((l.getD i.toNat default).To,true))) .d) (.h (l,(),(IntKind.i64.wrap (i+1)),()) (id,()))) .d) (.k (.inr ()))
def zLO (x:zxR) (y:RowID×Unit):Wy zxR (RowID×Unit) ttTref05bound1:=zx5 x.1 x.2.2.1 y.1
def zxy (n:Nat) (l:List Binding) (i:Int) (id:RowID):Bool×ttTref05bound1:=zQ (zLO) (.inl default) n (l,(),i,()) (id,())
def zGx (l:List Binding) (id:RowID):Wy0 (List Term×Bool):=.bn (zxy (l.length+Int.toNat 0+1) l 0 id) fun r0=>.i (isL r0) (.k ((getL r0).1,(getL r0).2)) (.k ([],false))
def zDG (l:List Binding) (id:RowID):Bool×(List Term×Bool):=(zGx l id).fin default
abbrev zzH:=List Binding×Unit×Unit×Int×Unit
abbrev zz0:=Atom×List (List Term)×Unit
abbrev ttTref05atom2:=Int⊕(List Binding×Atom×List (List Term))
abbrev zzU:=List Binding×Unit×Unit×Unit×Int×Unit
abbrev zzM:=Atom×List (List Term)×List Weighted×Unit
abbrev ttTref05atom5:=Int⊕(Atom×List (List Term)×List Weighted)
def zwp (zcn:List Term→List Binding→Bool×(List Term×Int)) (l:List Binding) (i:Int) (x_:Atom) (args:List (List Term)):Wy zzH zz0 ttTref05atom2:=.i (decide (i<Int.ofNat x_.Args.length)) (.i (decide (0≤i)&&decide (i<Int.ofNat x_.Args.length)) (.bn (zcn (x_.Args.getD i.toNat default) l) fun r0=>.i (r0.2 != 0) (.k (.inl (r0.2))) (.i (decide ((args.length+[r0.1].length)*24≤zK)) (.h (l,(),(),(IntKind.i64.wrap (i+1)),()) (x_,(args++[r0.1]),())) .d)) .d) (.k (.inr (l,x_,args)))
def zK6 (zcn:List Term→List Binding→Bool×(List Term×Int)) (x:zzH) (y:zz0):Wy zzH zz0 ttTref05atom2:=zwp zcn x.1 x.2.2.2.1 y.1 y.2.1
def zwK (zcn:List Term→List Binding→Bool×(List Term×Int)) (n:Nat) (l:List Binding) (i:Int) (x_:Atom) (args:List (List Term)):Bool×ttTref05atom2:=zQ (zK6 zcn) (.inl default) n (l,(),(),i,()) (x_,args,())
def zuZ (zcn:List Term→List Binding→Bool×(List Term×Int)) (l:List Binding) (i:Int) (x_:Atom) (args:List (List Term)) (items:List Weighted):Wy zzU zzM ttTref05atom5:=.i (decide (i<Int.ofNat x_.Items.length)) (.i (decide (0≤i)&&decide (i<Int.ofNat x_.Items.length)) (.bn (zcn (x_.Items.getD i.toNat default).Ann l) fun r2=>.i (r2.2 != 0) (.k (.inl (r2.2))) (.i (decide (0≤i)&&decide (i<Int.ofNat x_.Items.length)) (.i (decide ((items.length+[WeightedOf.mk (x_.Items.getD i.toNat default).Value r2.1].length)*56≤zK)) (.h (l,(),(),(),(IntKind.i64.wrap (i+1)),()) (x_,args,(items++[WeightedOf.mk (x_.Items.getD i.toNat default).Value r2.1]),())) .d) .d)) .d) (.k (.inr (x_,args,items)))
def zKb (zcn:List Term→List Binding→Bool×(List Term×Int)) (x:zzU) (y:zzM):Wy zzU zzM ttTref05atom5:=zuZ zcn x.1 x.2.2.2.2.1 y.1 y.2.1 y.2.2.1
def zuO (zcn:List Term→List Binding→Bool×(List Term×Int)) (n:Nat) (l:List Binding) (i:Int) (x_:Atom) (args:List (List Term)) (items:List Weighted):Bool×ttTref05atom5:=zQ (zKb zcn) (.inl default) n (l,(),(),(),i,()) (x_,args,items,())
def zEj (zcn:List Term→List Binding→Bool×(List Term×Int)) (x_:Atom) (l:List Binding):Wy0 (List Term×Int):=.i (x_.Kind==0) (.bn (zDG l x_.Row) fun r5=>.i (r5.2) (.k (r5.1,0)) (.bn (zHT x_.Row) fun r4=>.k (r4,0))) (.bn (zwK zcn ((l.length+Int.toNat 0+0+1)+(Atom.mk x_.Kind x_.Row x_.Args x_.Func x_.Items x_.Op x_.Bound).Args.length+(Atom.mk x_.Kind x_.Row x_.Args x_.Func x_.Items x_.Op x_.Bound).Items.length) l 0 (Atom.mk x_.Kind x_.Row x_.Args x_.Func x_.Items x_.Op x_.Bound) []) fun r11=>.i (isL r11) (.k ([],getL r11)) (.bn (zuO zcn (((getR r11).1.length+Int.toNat 0+(getR r11).2.2.length+0+1)+(Atom.mk (getR r11).2.1.Kind (getR r11).2.1.Row (getR r11).2.1.Args (getR r11).2.1.Func (getR r11).2.1.Items (getR r11).2.1.Op (getR r11).2.1.Bound).Args.length+(Atom.mk (getR r11).2.1.Kind (getR r11).2.1.Row (getR r11).2.1.Args (getR r11).2.1.Func (getR r11).2.1.Items (getR r11).2.1.Op (getR r11).2.1.Bound).Items.length) (getR r11).1 0 (Atom.mk (getR r11).2.1.Kind (getR r11).2.1.Row (getR r11).2.1.Args (getR r11).2.1.Func (getR r11).2.1.Items (getR r11).2.1.Op (getR r11).2.1.Bound) (getR r11).2.2 []) fun r10=>.i (isL r10) (.k ([],getL r10)) (.i ((getR r10).1.Kind==1) (.i (decide ((0:Int)≤(0:Int))&&decide (0<Int.ofNat (getR r10).2.1.length)) (.i (decide ((0:Int)≤(1:Int))&&decide (1<Int.ofNat (getR r10).2.1.length)) (.bn (zDA ((getR r10).2.1.getD (Int.toNat 0) default) ((getR r10).2.1.getD (Int.toNat 1) default)) fun r6=>.k (r6.1,r6.2)) .d) .d) (.i ((getR r10).1.Kind==2) (.i (decide ((0:Int)≤(0:Int))&&decide (0<Int.ofNat (getR r10).2.1.length)) (.bn (zDX ((getR r10).2.1.getD (Int.toNat 0) default)) fun r7=>.k (r7.1,r7.2)) .d) (.i ((getR r10).1.Kind==3) (.i (decide ((0:Int)≤(0:Int))&&decide (0<Int.ofNat (getR r10).2.1.length)) (.bn (zCf ((getR r10).2.1.getD (Int.toNat 0) default)) fun r8=>.k (r8.1,r8.2)) .d) (.bn (zA2 (getR r10).1.Func (getR r10).2.2 (getR r10).1.Op (getR r10).1.Bound) fun r9=>.k (r9.1,r9.2)))))))
def zwm (zcn:List Term→List Binding→Bool×(List Term×Int)) (x_:Atom) (l:List Binding):Bool×(List Term×Int):=(zEj zcn x_ l).fin default
abbrev zuN:=List Term×List Binding×List Term×Int×List Term×Int×List Term×Int×Int×Unit
abbrev ttTref05replace1:=List Term×List Binding×List Term×Int×List Term×Int×Int
abbrev zuV:=List Term×List Binding×List Term×Int×List Term×Int×Unit
abbrev ttTref05replace3:=Int⊕(List Term×List Binding×List Term×Int×List Term)
abbrev zuR:=List Term×List Binding×List Term×Int×Unit
abbrev ttTref05replace5:=Int⊕List Term
def zrg (zb9:Atom→List Binding→Bool×(List Term×Int)) (a:List Term) (l:List Binding) (out_:List Term) (i:Int) (t:List Term) (k:Int) (x_:List Term) (e:Int) (n_:Int):Wy zuN (Unit) ttTref05replace1:=.i (decide (0≤i)&&decide (i<Int.ofNat a.length)) (.i (decide (0≤k)&&decide (k<Int.ofNat (a.getD i.toNat default).Factors.length)) (.i (decide (n_<((a.getD i.toNat default).Factors.getD k.toNat default).Exp)) (.i (e==0) (.bn (zIl t x_) fun r8=>.h (a,l,out_,i,(r8.1),k,x_,(r8.2),(IntKind.i64.wrap (n_+1)),()) ()) (.k (a,l,out_,i,t,k,e))) (.k (a,l,out_,i,t,k,e))) .d) .d
def zGU (zb9:Atom→List Binding→Bool×(List Term×Int)) (x:zuN) (y:Unit):Wy zuN (Unit) ttTref05replace1:=zrg zb9 x.1 x.2.1 x.2.2.1 x.2.2.2.1 x.2.2.2.2.1 x.2.2.2.2.2.1 x.2.2.2.2.2.2.1 x.2.2.2.2.2.2.2.1 x.2.2.2.2.2.2.2.2.1
def zrb (zb9:Atom→List Binding→Bool×(List Term×Int)) (n:Nat) (a:List Term) (l:List Binding) (out_:List Term) (i:Int) (t:List Term) (k:Int) (x_:List Term) (e:Int) (n_:Int):Bool×ttTref05replace1:=zQ (zGU zb9) default n (a,l,out_,i,t,k,x_,e,n_,()) ()
def zsI (zb9:Atom→List Binding→Bool×(List Term×Int)) (a:List Term) (l:List Binding) (out_:List Term) (i:Int) (t:List Term) (k:Int):Wy zuV (Unit) ttTref05replace3:=.i (decide (0≤i)&&decide (i<Int.ofNat a.length)) (.i (decide (k<Int.ofNat (a.getD i.toNat default).Factors.length)) (.i (decide (0≤i)&&decide (i<Int.ofNat a.length)) (.i (decide (0≤k)&&decide (k<Int.ofNat (a.getD i.toNat default).Factors.length)) (.bn (zb9 (Atom.mk ((a.getD i.toNat default).Factors.getD k.toNat default).Atom.Kind ((a.getD i.toNat default).Factors.getD k.toNat default).Atom.Row ((a.getD i.toNat default).Factors.getD k.toNat default).Atom.Args ((a.getD i.toNat default).Factors.getD k.toNat default).Atom.Func ((a.getD i.toNat default).Factors.getD k.toNat default).Atom.Items ((a.getD i.toNat default).Factors.getD k.toNat default).Atom.Op ((a.getD i.toNat default).Factors.getD k.toNat default).Atom.Bound) l) fun r11=>.bn (zrb zb9 ((a.length+l.length+out_.length+i.toNat +t.length+k.toNat +r11.1.length+r11.2.toNat +Int.toNat 0+1)+szTs a+szTs out_+szTs t+szTs r11.1) a l out_ i t k r11.1 r11.2 0) fun r10=>.i (r10.2.2.2.2.2.2 != 0) (.k (.inl (r10.2.2.2.2.2.2))) (.h ((r10.1),(r10.2.1),(r10.2.2.1),(r10.2.2.2.1),(r10.2.2.2.2.1),(IntKind.i64.wrap (r10.2.2.2.2.2.1+1)),()) ())) .d) .d) (.k (.inr (a,l,out_,i,t)))) .d
def zIr (zb9:Atom→List Binding→Bool×(List Term×Int)) (x:zuV) (y:Unit):Wy zuV (Unit) ttTref05replace3:=zsI zb9 x.1 x.2.1 x.2.2.1 x.2.2.2.1 x.2.2.2.2.1 x.2.2.2.2.2.1
def zrU (zb9:Atom→List Binding→Bool×(List Term×Int)) (n:Nat) (a:List Term) (l:List Binding) (out_:List Term) (i:Int) (t:List Term) (k:Int):Bool×ttTref05replace3:=zQ (zIr zb9) (.inl default) n (a,l,out_,i,t,k,()) ()
def zr0 (zb9:Atom→List Binding→Bool×(List Term×Int)) (a:List Term) (l:List Binding) (out_:List Term) (i:Int):Wy zuR (Unit) ttTref05replace5:=.i (decide (i<Int.ofNat a.length)) (.i (decide (0≤i)&&decide (i<Int.ofNat a.length)) (.bn (zDy (a.getD i.toNat default).Coeff) fun r16=>.bn (zrU zb9 ((a.length+l.length+out_.length+i.toNat +r16.length+Int.toNat 0+1)+szTs a+szTs out_+szTs r16) a l out_ i r16 0) fun r15=>.i (isL r15) (.k (.inl (getL r15))) (.bn (zIm (getR r15).2.2.1 (getR r15).2.2.2.2) fun r14=>.i (r14.2 != 0) (.k (.inl (r14.2))) (.h ((getR r15).1,(getR r15).2.1,(r14.1),(IntKind.i64.wrap ((getR r15).2.2.2.1+1)),()) ()))) .d) (.k (.inr out_))
def zIB (zb9:Atom→List Binding→Bool×(List Term×Int)) (x:zuR) (y:Unit):Wy zuR (Unit) ttTref05replace5:=zr0 zb9 x.1 x.2.1 x.2.2.1 x.2.2.2.1
def zsE (zb9:Atom→List Binding→Bool×(List Term×Int)) (n:Nat) (a:List Term) (l:List Binding) (out_:List Term) (i:Int):Bool×ttTref05replace5:=zQ (zIB zb9) (.inl default) n (a,l,out_,i,()) ()
def zAo (zb9:Atom→List Binding→Bool×(List Term×Int)) (a:List Term) (l:List Binding):Wy0 (List Term×Int):=.bn (zsE zb9 ((a.length+l.length+0+Int.toNat 0+1)+szTs a+szTs []) a l [] 0) fun r20=>.i (isL r20) (.k ([],getL r20)) (.k (getR r20,0))
def zrN (zb9:Atom→List Binding→Bool×(List Term×Int)) (a:List Term) (l:List Binding):Bool×(List Term×Int):=(zAo zb9 a l).fin default
def zwi:Nat→(List Term→List Binding→Bool×(List Term×Int))×(Atom→List Binding→Bool×(List Term×Int))
 | 0=>(fun _ _=>(false,default),fun _ _=>(false,default))
 | n+1=>(zrN ((zwi n).2),zwm ((zwi n).1))
def zry (n:Nat):List Term→List Binding→Bool×(List Term×Int):=(zwi n).1
def zwv (n:Nat):Atom→List Binding→Bool×(List Term×Int):=(zwi n).2
theorem zG5 (n:Nat):zry (n+1)=zrN (zwv n):=rfl
theorem zK5 (n:Nat):zwv (n+1)=zwm (zry n):=rfl
def zGE:List Term→List Binding→Bool×(List Term×Int):=zry 1000
abbrev zri:=List Term×List Binding×Int×Unit
abbrev ttTref05Substitute1:=Int⊕(List Term×List Binding)
def zrh (a:List Term) (l:List Binding) (i:Int):Wy zri (Unit) ttTref05Substitute1:=.i (decide (i<Int.ofNat l.length)) (.i (decide (0≤i)&&decide (i<Int.ofNat l.length)) (.bn (zfD (l.getD i.toNat default).To) fun r0=>.i (!r0) (.k (.inl 1)) (.h (a,l,(IntKind.i64.wrap (i+1)),()) ())) .d) (.k (.inr (a,l)))
def zGT (x:zri) (y:Unit):Wy zri (Unit) ttTref05Substitute1:=zrh x.1 x.2.1 x.2.2.1
def zrd (n:Nat) (a:List Term) (l:List Binding) (i:Int):Bool×ttTref05Substitute1:=zQ (zGT) (.inl default) n (a,l,i,()) ()
def zyo (a:List Term) (l:List Binding):Wy0 (List Term×Int):=.bn (zfD a) fun r4=>.i (!r4) (.k ([],1)) (.bn (zrd (a.length+l.length+Int.toNat 0+1) a l 0) fun r3=>.i (isL r3) (.k ([],getL r3)) (.bn (zGE (getR r3).1 (getR r3).2) fun r2=>.k (r2.1,r2.2)))
def zCj (a:List Term) (l:List Binding):Bool×(List Term×Int):=(zyo a l).fin default
def toA:List Binding→RowID→List Term
 | [],r=>varA r
 | b::l,r=>if b.Row=r then b.To else toA l r
def okB (l:List Binding):Prop:=l.length≤1000∧∀ b∈l,okA b.To
theorem zSv:∀ {l:List Binding},(∀ b∈l,okA b.To)→okT (toA l)
 | [],_,r,hr=>by rw [toA]; exact zVi hr
 | b::l,h,r,hr=>by
  rw [toA]
  split
  ·exact h b (by simp)
  ·exact zSv (fun c hc=>h c (by simp [hc])) r hr
theorem zQp (a b:RowID):(a.Table==b.Table&&(a.Seq==b.Seq&&true))=decide (a=b):=by
 obtain ⟨t,s⟩:=a; obtain ⟨t',s'⟩:=b
 rw [Bool.and_true,beqd,beqd, ← Bool.decide_and]
 congr 1
 simp
theorem zSK (a b:RowID):(a.Table==b.Table&&a.Seq==b.Seq)=decide (a=b):=by rw [← zQp,Bool.and_true]
theorem zQb:∀ (l:List Binding) (r:RowID) (i:Nat),(ixf (fun b=>decide (b.Row=r)) l i= -1∧toA l r=varA r)∨∃ j,j<l.length∧ixf (fun b=>decide (b.Row=r)) l i=((i+j:Nat):Int)∧toA l r=(l.getD j default).To
 | [],r,i=>.inl ⟨rfl,rfl⟩
 | b::l,r,i=>by
  rw [ixf,toA]
  by_cases h:b.Row=r
  ·rw [decide_eq_true h,cond_true,if_pos h]
   exact .inr ⟨0,by simp,rfl,rfl⟩
  ·rw [decide_eq_false h,cond_false,if_neg h]
   rcases zQb l r (i+1) with ⟨h1,h2⟩ | ⟨j,h1,h2,h3⟩
   ·exact .inl ⟨h1,h2⟩
   ·exact .inr ⟨j+1,by simp; omega,by rw [h2]; congr 1; omega,h3⟩
theorem zWl {l:List Binding} (h:okB l) (r:RowID):zg6 r l=(true,toA l r):=by
 unfold zg6 zlN
 have hi:zb7 l r=(true,ixf (fun b=>decide (b.Row=r)) l 0):=by
  have e:zb7 l r=IH (fun (g:RowID×Unit) x=>ze9 x g.1) (l.length+(Int.ofNat l.length).toNat +Int.toNat (0:Int)+(1:Nat)) (r,()) l:=rfl
  rw [e]
  exact zTT _ _ _ _ _ (by have:=h.1; omega) (fun x _=>by
   unfold ze9 zjZ
   rw [Wy.fin_k,zQp]) (by omega)
 rw [Wy.fin_bn,hi]
 rcases zQb l r 0 with ⟨h1,h2⟩ | ⟨j,h1,h2,h3⟩
 ·rw [h1,h2]
  simp only [cond_true,Wy.fin_i,Wy.fin_bn,Wy.fin_k,(zSg r).1]
  rfl
 ·rw [Nat.zero_add] at h2
  rw [h2,h3]
  have hm:=h.2 _ (zp h1)
  have e1:decide ((j:Int)≥(0:Int))=true:=by simp
  simp only [cond_true,Wy.fin_i,Wy.fin_bn,Wy.fin_k,e1,tT,h1,zzg hm.1.1 (show (12:Nat)≤100 by omega)]
theorem zS6 {l:List Binding} (h:okB l) (r:RowID):∃ b q,zDG l r=(true,(b,q))∧((q=true∧b=toA l r)∨(q=false∧toA l r=varA r)):=by
 have key:∀ (n i:Nat),l.length<i+n→i≤l.length→∃ x,zxy n l i r=(true,x)∧((x=.inl (toA (l.drop i) r,true))∨(x=.inr ()∧toA (l.drop i) r=varA r)):=by
  intro n
  induction n with
  | zero=>intro i h1 h2; omega
  | succ n ih=>
   intro i h1 h2
   have hlen:=h.1
   show ∃ x,(zx5 l i r).ev (fun x y=>zxy n x.1 x.2.2.1 y.1) (fun r=>(true,r)) (false,.inl default)=(true,x)∧_
   unfold zx5
   by_cases hi:i<l.length
   ·simp only [Wy.ev_i,Wy.ev_k,Wy.ev_h,Wy.ev_bn,Wy.ev_d,tT,hi,zSK]
    rw [zbm hi,toA]
    by_cases hr:(l.getD i default).Row=r
    ·rw [decide_eq_true hr,if_pos hr,cond_true]
     exact ⟨_,rfl,.inl rfl⟩
    ·rw [decide_eq_false hr,if_neg hr,cond_false,zM (by omega)]
     exact ih (i+1) (by omega) (by omega)
   ·simp only [Wy.ev_i,Wy.ev_k,Wy.ev_h,Wy.ev_bn,Wy.ev_d,tT,hi]
    rw [zcE hi]
    exact ⟨_,rfl,.inr ⟨rfl,rfl⟩⟩
 obtain ⟨x,h1,h2⟩:=key (l.length+Int.toNat (0:Int)+(1:Nat)) 0 (by omega) (by omega)
 unfold zDG zGx
 rw [show ((0:Nat):Int)=(0:Int) from rfl] at h1
 rw [Wy.fin_bn,h1]
 rw [List.drop_zero] at h2
 rcases h2 with rfl | ⟨rfl,h2⟩
 ·exact ⟨_,_,rfl,.inl ⟨rfl,rfl⟩⟩
 ·exact ⟨_,_,rfl,.inr ⟨rfl,h2⟩⟩
def RS (s:Int⊕List Term) (e:Int) (p:List Term):Prop:=match s with
 | .inl x=>e=x∧x≠0
 | .inr q=>e=0∧p=q
theorem zTJ (r:List Term×Int):RS (opS r) r.2 r.1:=by
 unfold opS
 by_cases h:r.2=0
 ·rw [if_pos h]; exact ⟨h,rfl⟩
 ·rw [if_neg h]; exact ⟨rfl,h⟩
theorem zN8 (b:List Term) (s:Int⊕List Term):sbd s (powS b 0)=s:=by cases s <;>rfl
section
variable (g:Atom→List Binding→Bool×(List Term×Int)) (to:List Binding)
theorem zRo (b:List Term) (hb:okA b) (t16:List Term) (t17 t18:Int) (t26:List Factor) (t27 t28:Int) (N:Nat) (hN:N≤1000000) (sum:List Term):
  ∀ (n i:Nat) (e:Int) (p:List Term) (s:Int⊕List Term),N<i+n→i≤N→GS s→RS s e p→∃ e' p',znh g n to b e t16 t17 t18 t26 t27 t28 N i sum p=(true,(to,e',t16,t17,t18,t26,t27,t28,sum,p'))∧RS (sbd s (powS b (N - i))) e' p'
 | 0,i,e,p,s,h1,h2,_,_=>by omega
 | n+1,i,e,p,s,h1,h2,hs,hr=>by
  show ∃ e' p',(zm7 g to b e t16 t17 t18 t26 t27 t28 N i sum p).ev (fun x y=>znh g n x.1.1.1 x.2.2.2.1 x.2.2.2.2.1 x.2.2.2.2.2.1 x.2.2.2.2.2.2.1 x.2.2.2.2.2.2.2.1 x.2.2.2.2.2.2.2.2.1 x.2.2.2.2.2.2.2.2.2.1 x.2.2.2.2.2.2.2.2.2.2.1 x.2.2.2.2.2.2.2.2.2.2.2.1 x.2.2.2.2.2.2.2.2.2.2.2.2.1 y.1 y.2.1) (fun r=>(true,r)) (false,default)=_∧_
  unfold zm7
  by_cases hi:i<N
  ·have hk:N - i=(N - (i+1))+1:=by omega
   cases s with
   | inl x=>
    obtain ⟨rfl,hx⟩:=hr
    have he:(e==(0:Int))=false:=by simp [hx]
    simp only [Wy.ev_i,Wy.ev_k,Wy.ev_h,Wy.ev_bn,Wy.ev_d,zut,hi,decide_true,cond_true,he,cond_false,zM (show i<4611686018427387904 by omega)]
    exact zRo b hb t16 t17 t18 t26 t27 t28 N hN sum n (i+1) e p (.inl e) (by omega) (by omega) hs ⟨rfl,hx⟩
   | inr q=>
    obtain ⟨rfl,rfl⟩:=hr
    have hp:okA p:=hs
    simp only [Wy.ev_i,Wy.ev_k,Wy.ev_h,Wy.ev_bn,Wy.ev_d,zut,hi,decide_true,cond_true,(zOd hp hb).1,zM (show i<4611686018427387904 by omega),show ((0:Int)==0)=true from rfl]
    rw [hk]
    exact zRo b hb t16 t17 t18 t26 t27 t28 N hN sum n (i+1) (mulR p b).2 (mulR p b).1 (opS (mulR p b)) (by omega) (by omega) (zDx (zII hp hb)) (zTJ _)
  ·have hk:N - i=0:=by omega
   simp only [Wy.ev_i,Wy.ev_k,zut,hi,decide_false,cond_false]
   rw [hk,zN8]
   exact ⟨e,p,rfl,hr⟩
def AG (l:List Factor):Prop:=∀ f∈l,(g f.Atom to=(true,ofS (zdF (toA to) f.Atom))∧GS (zdF (toA to) f.Atom))∧0≤f.Exp∧f.Exp≤1000000
theorem zRY {s:Int⊕List Term} (h:GS s):okA (ofS s).1:=by
 cases s with
 | inl e=>exact ziQ
 | inr a=>exact h
theorem zNK {s:Int⊕List Term} (h:GS s) (p:List Term):RS (sbd s fun _=>.inr p) (ofS s).2 p:=by
 cases s with
 | inl e=>exact ⟨rfl,h⟩
 | inr a=>exact ⟨rfl,rfl⟩
theorem zOn {s:Int⊕List Term} (h:GS s) {p:List Term} (hp:okA p):GS (sbd s fun _=>.inr p):=zCX h fun _ _=>hp
theorem zMy {s:Int⊕List Term} (p:List Term) (N:Nat):sbd (sbd s fun _=>.inr p) (powS (ofS s).1 N)=sbd s fun b=>powS b N p:=by
 cases s <;>rfl
theorem rp_7 (l:List Factor) (hl:l.length≤1000000) (hg:AG g to l) (t16:List Term) (t17 t18:Int) (sum:List Term):
  ∀ (n i:Nat) (p:List Term),l.length<i+n→i≤l.length→okA p→znC g n to t16 t17 t18 l l.length i sum p=(true,match zdx (toA to) (l.drop i) p with
   | .inl e=>.inl e
   | .inr q=>.inr (to,t16,t17,t18,sum,q))
 | 0,i,p,h1,h2,_=>by omega
 | n+1,i,p,h1,h2,hp=>by
  show (znK g to t16 t17 t18 l l.length i sum p).ev (fun x y=>znC g n x.1.1.1 x.2.2.2.1 x.2.2.2.2.1 x.2.2.2.2.2.1 x.2.2.2.2.2.2.1 x.2.2.2.2.2.2.2.1 x.2.2.2.2.2.2.2.2.1 y.1 y.2.1) (fun r=>(true,r)) (false,.inl default)=_
  unfold znK
  by_cases hi:i<l.length
  ·obtain ⟨⟨hf,hG⟩,e0,e1⟩:=hg _ (zp hi)
   obtain ⟨N,hN⟩:∃ N:Nat,(l.getD i default).Exp=(N:Int):=⟨_,(Int.toNat_of_nonneg e0).symm⟩
   obtain ⟨e',p',h11,hrs⟩:=zRo g to (ofS (zdF (toA to) (l.getD i default).Atom)).1 (zRY hG) t16 t17 t18 l l.length i N (by omega) sum
    (to.length+(ofS (zdF (toA to) (l.getD i default).Atom)).1.length+(ofS (zdF (toA to) (l.getD i default).Atom)).2.toNat +t16.length+t17.toNat +t18.toNat +l.length+(l.length:Int).toNat +(i:Int).toNat +(N:Int).toNat +Int.toNat (0:Int)+sum.length+p.length+(1:Nat)) 0 _ p _ (by omega) (by omega) (zOn hG hp) (zNK hG p)
   rw [zMy,Nat.sub_zero] at hrs
   rw [show ((0:Nat):Int)=(0:Int) from rfl] at h11
   rw [zbm hi,ztc,hN,Int.toNat_natCast]
   simp only [Wy.ev_i,Wy.ev_k,Wy.ev_h,Wy.ev_bn,Wy.ev_d,tT,hi,Atom.eta,hf,hN,bne0]
   rw [show Int.toNat (l.length:Int)=l.length from Int.toNat_natCast _,show Int.toNat (i:Int)=i from Int.toNat_natCast _,show Int.toNat (N:Int)=N from Int.toNat_natCast _] at h11
   rw [h11]
   have hS:=hG
   revert hrs hS
   cases zdF (toA to) (l.getD i default).Atom with
   | inl x=>
    rintro ⟨rfl,hx⟩ _
    simp [hx,zvz]
   | inr b=>
    intro hrs hb
    simp only [zbF] at hrs ⊢
    have hq:=zKu (b:=b) hb N p hp
    revert hrs hq
    cases powS b N p with
    | inl x=>
     rintro ⟨rfl,hx⟩ _
     simp [hx,zvz]
    | inr q=>
     rintro ⟨rfl,rfl⟩ hq
     simp only [zbF,decide_true,Bool.not_true,cond_true,cond_false,zM (show i<4611686018427387904 by omega)]
     exact rp_7 l hl hg t16 t17 t18 sum n (i+1) p' (by omega) (by omega) hq
  ·simp only [Wy.ev_i,Wy.ev_k,Wy.ev_h,Wy.ev_bn,Wy.ev_d,tT,hi]
   rw [zcE hi,zuB]
theorem rp_3 (l:List Term) (hl:l.length≤1000000) (hg:∀ t∈l,t.Factors.length≤1000000∧AG g to t.Factors) (hok:∀ t∈l,∀ p,okA p→GS (zdx (toA to) t.Factors p)):
  ∀ (n i:Nat) (s:List Term),l.length<i+n→i≤l.length→okA s→znS g n to l l.length i s=(true,zbK (toA to) (l.drop i) s)
 | 0,i,s,h1,h2,_=>by omega
 | n+1,i,s,h1,h2,hs=>by
  show (znE g to l l.length i s).ev (fun x y=>znS g n x.1.1.1 x.2.2.1 x.2.2.2.1 x.2.2.2.2.1 y.1) (fun r=>(true,r)) (false,.inl default)=_
  unfold znE
  by_cases hi:i<l.length
  ·have ht:=hg _ (zp hi)
   have hc:=zOv (l.getD i default).Coeff
   have h7:=rp_7 g to (l.getD i default).Factors ht.1 ht.2 l l.length i s (to.length+l.length+(l.length:Int).toNat +(i:Int).toNat +(l.getD i default).Factors.length+((l.getD i default).Factors.length:Int).toNat +Int.toNat (0:Int)+s.length+(cstA (l.getD i default).Coeff).length+(1:Nat)) 0 (cstA (l.getD i default).Coeff) (by omega) (by omega) hc
   rw [show ((0:Nat):Int)=(0:Int) from rfl,List.drop_zero] at h7
   simp only [Int.toNat_natCast] at h7
   rw [zbm hi,zA6]
   simp only [Wy.ev_i,Wy.ev_k,Wy.ev_h,Wy.ev_bn,Wy.ev_d,tT,hi,(zO6 _).1]
   rw [h7]
   have hS:=hok _ (zp hi) _ hc
   revert hS
   cases zdx (toA to) (l.getD i default).Factors (cstA (l.getD i default).Coeff) with
   | inl e=>intro _; rfl
   | inr p=>
    intro hp
    have hp:okA p:=hp
    simp only [zbF,isL,getR,cond_true,cond_false,(zNU hs hp).1,bne0]
    have hG:=zIG hs hp
    unfold opS
    by_cases he:(addR s p).2=0
    ·rw [if_pos he,decide_eq_true he,zbF,zM (show i<4611686018427387904 by omega)]
     exact rp_3 l hl hg hok n (i+1) _ (by omega) (by omega) hG.1
    ·rw [if_neg he,decide_eq_false he]; rfl
  ·simp only [Wy.ev_i,Wy.ev_k,Wy.ev_h,Wy.ev_bn,Wy.ev_d,tT,hi]
   rw [zcE hi,zDm]
theorem rp_b (a:List Term) (hl:a.length≤1000000) (hg:∀ t∈a,t.Factors.length≤1000000∧AG g to t.Factors) (hok:∀ t∈a,∀ p,okA p→GS (zdx (toA to) t.Factors p)):zjn g a to=(true,ofS (zbK (toA to) a [])):=by
 unfold zjn zoq
 have h3:=rp_3 g to a hl hg hok (to.length+a.length+(Int.ofNat a.length).toNat +Int.toNat (0:Int)+(0:Nat)+(1:Nat)) 0 [] (by omega) (by omega) ziQ
 rw [show ((0:Nat):Int)=(0:Int) from rfl,List.drop_zero] at h3
 rw [Wy.fin_bn,show Int.ofNat a.length=(a.length:Int) from rfl] at *
 rw [h3]
 cases zbK (toA to) a [] <;>rfl
end
section
variable (g:List Term→List Binding→Bool×(List Term×Int)) (to:List Binding)
theorem rp_5 (x:Atom) (l:List (List Term)) (hl:l.length≤1000000) (hg:∀ a∈l,g a to=(true,ofS (zbK (toA to) a []))∧GS (zbK (toA to) a [])):
  ∀ (n i:Nat) (xs:List (List Term)),l.length<i+n→i≤l.length→xs.length≤i→zh6 g n to l l.length i x xs=(true,match zjF (toA to) (l.drop i) with
   | .inl e=>.inl e
   | .inr ys=>.inr (to,x,xs++ys))
 | 0,i,xs,h1,h2,_=>by omega
 | n+1,i,xs,h1,h2,hx=>by
  have hreach:zK=70368744177664:=rfl
  show (zk0 g to l l.length i x xs).ev (fun x y=>zh6 g n x.1.1.1 x.2.2.2.1 x.2.2.2.2.1 x.2.2.2.2.2.1 y.1 y.2.1) (fun r=>(true,r)) (false,.inl default)=_
  unfold zk0
  by_cases hi:i<l.length
  ·obtain ⟨hf,hG⟩:=hg _ (zp hi)
   have hb:decide ((xs.length+1)*24≤zK)=true:=by simp only [decide_eq_true_eq]; omega
   rw [zbm hi,zjb]
   simp only [Wy.ev_i,Wy.ev_k,Wy.ev_h,Wy.ev_bn,Wy.ev_d,tT,hi,hf,bne0,List.length_singleton,hb]
   revert hG
   cases zbK (toA to) (l.getD i default) [] with
   | inl e=>intro he; simp [ofS,show e≠0 from he,zvz]
   | inr b=>
    intro _
    simp only [ofS,decide_true,Bool.not_true,cond_false,zbF,zM (show i<4611686018427387904 by omega)]
    rw [rp_5 x l hl hg n (i+1) (xs++[b]) (by omega) (by omega) (by simp; omega)]
    cases zjF (toA to) (l.drop (i+1)) with
    | inl e=>rfl
    | inr ys=>simp [zbF]
  ·simp only [Wy.ev_i,Wy.ev_k,Wy.ev_h,Wy.ev_bn,Wy.ev_d,tT,hi]
   rw [zcE hi,zmt]; simp
theorem zTY (x:Atom) (l:List Weighted) (hl:l.length≤1000000) (hg:∀ w∈l,g w.Ann to=(true,ofS (zbK (toA to) w.Ann []))∧GS (zbK (toA to) w.Ann [])):
  ∀ (n i:Nat) (xs:List Weighted),l.length<i+n→i≤l.length→xs.length≤i→zhy g n to l l.length i x xs=(true,match zfH (toA to) (l.drop i) with
   | .inl e=>.inl e
   | .inr ys=>.inr (x,xs++ys))
 | 0,i,xs,h1,h2,_=>by omega
 | n+1,i,xs,h1,h2,hx=>by
  have hreach:zK=70368744177664:=rfl
  show (zkA g to l l.length i x xs).ev (fun x y=>zhy g n x.1.1.1 x.2.2.2.1 x.2.2.2.2.1 x.2.2.2.2.2.1 y.1 y.2.1) (fun r=>(true,r)) (false,.inl default)=_
  unfold zkA
  by_cases hi:i<l.length
  ·obtain ⟨hf,hG⟩:=hg _ (zp hi)
   have hb:decide ((xs.length+1)*56≤zK)=true:=by simp only [decide_eq_true_eq]; omega
   rw [zbm hi,zv3]
   simp only [Wy.ev_i,Wy.ev_k,Wy.ev_h,Wy.ev_bn,Wy.ev_d,tT,hi,hf,bne0,List.length_singleton,hb]
   revert hG
   cases zbK (toA to) (l.getD i default).Ann [] with
   | inl e=>intro he; simp [ofS,show e≠0 from he,zvz]
   | inr b=>
    intro _
    simp only [ofS,decide_true,Bool.not_true,cond_false,zbF,zM (show i<4611686018427387904 by omega)]
    rw [zTY x l hl hg n (i+1) (xs++[WeightedOf.mk (l.getD i default).Value b]) (by omega) (by omega) (by simp; omega)]
    cases zfH (toA to) (l.drop (i+1)) with
    | inl e=>rfl
    | inr ys=>simp [zbF]
  ·simp only [Wy.ev_i,Wy.ev_k,Wy.ev_h,Wy.ev_bn,Wy.ev_d,tT,hi]
   rw [zcE hi,zui]; simp
structure XG (x:Atom):Prop where
 va:vatA x=true
 lens:x.Args.length≤1000000∧x.Items.length<20
 ga:∀ a∈x.Args,g a to=(true,ofS (zbK (toA to) a []))∧GS (zbK (toA to) a [])
 gi:∀ w∈x.Items,g w.Ann to=(true,ofS (zbK (toA to) w.Ann []))∧GS (zbK (toA to) w.Ann [])
 sa:GL x.Args.length (zjF (toA to) x.Args)
 si:GI x.Items (zfH (toA to) x.Items)
 wf:zfm x
theorem zPZ {f o:Int} {i l:List Weighted} {b:Value} (h20:i.length<20) (hl:l.length=i.length∧∀ w∈l,okA w.Ann∧∃ v∈i,v.Value=w.Value):zll f l o b=(true,zqr f l o b)∧zA2 f l o b=(true,zqr f l o b):=by
 have h1:∀ w∈l,zm 12 w.Ann∧zI w.Ann≤4611686018427387904:=fun w hw=>(hl.2 w hw).1.1
 have h2:(l.filter hasA).length<20:=Nat.lt_of_le_of_lt (List.length_filter_le _ _) (by omega)
 exact ⟨zU9 f l o b (by omega) h1 (by omega) h2,zSI f l o b (by omega) h1 (by omega)⟩
theorem zMS {x:Atom} (h:vatA x=true):(x.Kind=1→x.Args.length=2)∧(x.Kind=2∨x.Kind=3→x.Args.length=1):=by
 cases zsB.1 h <;>simp
theorem zUj (hto:okB to) (x:Atom) (h:XG g to x):zgZ g x to=(true,ofS (zdF (toA to) x)):=by
 unfold zgZ zlF
 have h5:=rp_5 g to x x.Args h.lens.1 h.ga (to.length+x.Args.length+(Int.ofNat x.Args.length).toNat +Int.toNat (0:Int)+x.Args.length+x.Items.length+(0:Nat)+(1:Nat)) 0 [] (by omega) (by omega) (by simp)
 rw [show ((0:Nat):Int)=(0:Int) from rfl,List.drop_zero] at h5
 have h5':zh6 g (to.length+x.Args.length+(Int.ofNat x.Args.length).toNat +Int.toNat (0:Int)+x.Args.length+x.Items.length+(0:Nat)+(1:Nat)) to x.Args (Int.ofNat x.Args.length) 0 x []=_:=h5
 have h21:=zTY g to x x.Items (by have:=h.lens.2; omega) h.gi (to.length+x.Items.length+(Int.ofNat x.Items.length).toNat +Int.toNat (0:Int)+x.Args.length+x.Items.length+(0:Nat)+(1:Nat)) 0 [] (by omega) (by omega) (by simp)
 rw [show ((0:Nat):Int)=(0:Int) from rfl,List.drop_zero] at h21
 have h21':zhy g (to.length+x.Items.length+(Int.ofNat x.Items.length).toNat +Int.toNat (0:Int)+x.Args.length+x.Items.length+(0:Nat)+(1:Nat)) to x.Items (Int.ofNat x.Items.length) 0 x []=_:=h21
 rw [Atom.eta,zC1]
 have b0:=beqd x.Kind 0
 have b1:=beqd x.Kind 1
 have b2:=beqd x.Kind 2
 have b3:=beqd x.Kind 3
 simp only [Wy.fin_i,Wy.fin_bn,Wy.fin_k,zWl hto,cond_true,h5',List.nil_append]
 by_cases hk0:x.Kind=0
 ·rw [b0,decide_eq_true hk0,if_pos hk0]; rfl
 ·rw [b0,decide_eq_false hk0,if_neg hk0,cond_false]
  have hA:=h.sa
  have hlen:=zMS h.va
  revert hA
  cases zjF (toA to) x.Args with
  | inl e=>intro _; rfl
  | inr xs=>
   intro hxs
   have hxl:xs.length=x.Args.length∧∀ a∈xs,okA a:=hxs
   have o0:=zxH hxl.2 0
   have o1:=zxH hxl.2 1
   simp only [isL,getR,cond_false,zbF]
   by_cases hk1:x.Kind=1
   ·have:=hlen.1 hk1
    rw [b1,decide_eq_true hk1,if_pos hk1]
    simp only [cond_true,show Int.toNat (0:Int)=0 from rfl,show Int.toNat (1:Int)=1 from rfl,(zKi o0 o1).1,zvO (zIZ o0 o1).2]
    simp [hxl.1,this]
   ·rw [b1,decide_eq_false hk1,if_neg hk1,cond_false]
    by_cases hk2:x.Kind=2
    ·have:=hlen.2 (.inl hk2)
     rw [b2,decide_eq_true hk2,if_pos hk2]
     simp only [cond_true,show Int.toNat (0:Int)=0 from rfl,show Int.toNat (1:Int)=1 from rfl,(zJ7 o0).1,zvO (zI7 o0).2]
     simp [hxl.1,this]
    ·rw [b2,decide_eq_false hk2,if_neg hk2,cond_false]
     by_cases hk3:x.Kind=3
     ·have:=hlen.2 (.inr hk3)
      rw [b3,decide_eq_true hk3,if_pos hk3]
      simp only [cond_true,show Int.toNat (0:Int)=0 from rfl,show Int.toNat (1:Int)=1 from rfl,(zIc o0).1,zvO (zIK o0).2]
      simp [hxl.1,this]
     ·rw [b3,decide_eq_false hk3,if_neg hk3,cond_false,Atom.eta,h21']
      have hI:=h.si
      revert hI
      cases zfH (toA to) x.Items with
      | inl e=>intro _; rfl
      | inr is=>
       intro his
       have ht:=zPZ (f:=x.Func) (o:=x.Op) (b:=x.Bound) h.lens.2 his
       simp only [cond_true,cond_false,List.nil_append,ht.1,zbF]
       have hw:=zmk h.wf
       have hl:is.length=x.Items.length∧∀ w∈is,okA w.Ann∧∃ v∈x.Items,v.Value=w.Value:=his
       rw [zvO (zIv (by have:=h.lens.2; omega) (fun w hw'=>⟨(hl.2 w hw').1,by
        obtain ⟨v,hv,e⟩:=(hl.2 w hw').2
        rw [← e]; exact (zhd hw.2.1.1 v hv).1⟩) hw.2.2.2.2.2.1 hw.2.2.2.2.2.2 hw.2.2.1).2]
end
theorem zPj:∀ (l:List Factor) (k:Nat),k<l.length→(l.getD k default).Exp.toNat≤szFs l
 | [],k,h=>by simp at h
 | f::r,0,_=>by show f.Exp.toNat≤_; rw [szFs]; omega
 | f::r,k+1,h=>by
  have:=zPj r k (by simpa using h)
  show (r.getD k default).Exp.toNat≤_
  rw [szFs]; omega
theorem zOz:∀ (l:List Term) (k:Nat),k<l.length→szFs (l.getD k default).Factors≤szTs l
 | [],k,h=>by simp at h
 | f::r,0,_=>by show szFs f.Factors≤_; rw [szTs]; omega
 | f::r,k+1,h=>by
  have:=zOz r k (by simpa using h)
  show szFs (r.getD k default).Factors≤_
  rw [szTs]; omega
section
variable (g:Atom→List Binding→Bool×(List Term×Int)) (l:List Binding)
theorem zTP (a:List Term) (i k:Nat) (hi:i<a.length) (hk:k<(a.getD i default).Factors.length) (out b:List Term) (hb:okA b) (N:Nat) (hN:((a.getD i default).Factors.getD k default).Exp=N) (hN':N≤1000000):
  ∀ (n j:Nat) (e:Int) (p:List Term) (s:Int⊕List Term),N<j+n→j≤N→GS s→RS s e p→∃ e' p',zrb g n a l out i p k b e j=(true,(a,l,out,(i:Int),p',(k:Int),e'))∧RS (sbd s (powS b (N - j))) e' p'
 | 0,j,e,p,s,h1,h2,_,_=>by omega
 | n+1,j,e,p,s,h1,h2,hs,hr=>by
  show ∃ e' p',(zrg g a l out i p k b e j).ev (fun x y=>zrb g n x.1 x.2.1 x.2.2.1 x.2.2.2.1 x.2.2.2.2.1 x.2.2.2.2.2.1 x.2.2.2.2.2.2.1 x.2.2.2.2.2.2.2.1 x.2.2.2.2.2.2.2.2.1) (fun r=>(true,r)) (false,default)=_∧_
  unfold zrg
  simp only [Wy.ev_i,Wy.ev_k,Wy.ev_h,Wy.ev_bn,Wy.ev_d,tT,hi,hk,hN]
  by_cases hj:j<N
  ·have hk:N - j=(N - (j+1))+1:=by omega
   cases s with
   | inl x=>
    obtain ⟨rfl,hx⟩:=hr
    have he:(e==(0:Int))=false:=by simp [hx]
    simp only [hj,decide_true,cond_true,he,cond_false]
    exact ⟨e,p,rfl,rfl,hx⟩
   | inr q=>
    obtain ⟨rfl,rfl⟩:=hr
    have hp:okA p:=hs
    simp only [hj,decide_true,cond_true,(zOd hp hb).2,zM (show j<4611686018427387904 by omega),show ((0:Int)==0)=true from rfl]
    rw [hk]
    exact zTP a i _ hi (by assumption) out b hb N hN hN' n (j+1) (mulR p b).2 (mulR p b).1 (opS (mulR p b)) (by omega) (by omega) (zDx (zII hp hb)) (zTJ _)
  ·have hk:N - j=0:=by omega
   simp only [hj,decide_false,cond_false]
   rw [hk,zN8]
   exact ⟨e,p,rfl,hr⟩
theorem rr_7 (a:List Term) (hal:a.length≤1000000) (i:Nat) (hi:i<a.length) (hl:(a.getD i default).Factors.length≤1000000) (hg:AG g l (a.getD i default).Factors) (out:List Term):
  ∀ (n k:Nat) (p:List Term),(a.getD i default).Factors.length<k+n→k≤(a.getD i default).Factors.length→okA p→zrU g n a l out i p k=(true,match zdx (toA l) ((a.getD i default).Factors.drop k) p with
   | .inl e=>.inl e
   | .inr q=>.inr (a,l,out,(i:Int),q))
 | 0,k,p,h1,h2,_=>by omega
 | n+1,k,p,h1,h2,hp=>by
  show (zsI g a l out i p k).ev (fun x y=>zrU g n x.1 x.2.1 x.2.2.1 x.2.2.2.1 x.2.2.2.2.1 x.2.2.2.2.2.1) (fun r=>(true,r)) (false,.inl default)=_
  unfold zsI
  by_cases hk:k<(a.getD i default).Factors.length
  ·obtain ⟨⟨hf,hG⟩,e0,e1⟩:=hg _ (zp hk)
   obtain ⟨N,hN⟩:∃ N:Nat,((a.getD i default).Factors.getD k default).Exp=(N:Int):=⟨_,(Int.toNat_of_nonneg e0).symm⟩
   have hsz:=Nat.le_trans (zPj _ k hk) (zOz a i hi)
   rw [hN,Int.toNat_natCast] at hsz
   obtain ⟨e',p',h11,hrs⟩:=zTP g l a i k hi hk out (ofS (zdF (toA l) ((a.getD i default).Factors.getD k default).Atom)).1 (zRY hG) N hN (by omega)
    ((a.length+l.length+out.length+(i:Int).toNat +p.length+(k:Int).toNat +(ofS (zdF (toA l) ((a.getD i default).Factors.getD k default).Atom)).1.length+(ofS (zdF (toA l) ((a.getD i default).Factors.getD k default).Atom)).2.toNat +Int.toNat (0:Int)+(1:Nat))+szTs a+szTs out+szTs p+szTs (ofS (zdF (toA l) ((a.getD i default).Factors.getD k default).Atom)).1) 0 _ p _ (by omega) (by omega) (zOn hG hp) (zNK hG p)
   rw [zMy,Nat.sub_zero] at hrs
   rw [show ((0:Nat):Int)=(0:Int) from rfl] at h11
   rw [zbm hk,ztc,hN,Int.toNat_natCast]
   simp only [Wy.ev_i,Wy.ev_k,Wy.ev_h,Wy.ev_bn,Wy.ev_d,tT,hi,hk,Atom.eta,hf,bne0]
   simp only [Int.toNat_natCast] at h11
   rw [h11]
   have hS:=hG
   revert hrs hS
   cases zdF (toA l) ((a.getD i default).Factors.getD k default).Atom with
   | inl x=>
    rintro ⟨rfl,hx⟩ _
    simp [hx,zvz]
   | inr b=>
    intro hrs hb
    simp only [zbF] at hrs ⊢
    have hq:=zKu (b:=b) hb N p hp
    revert hrs hq
    cases powS b N p with
    | inl x=>
     rintro ⟨rfl,hx⟩ _
     simp [hx,zvz]
    | inr q=>
     rintro ⟨rfl,rfl⟩ hq
     simp only [zbF,decide_true,Bool.not_true,cond_true,cond_false,zM (show k<4611686018427387904 by omega)]
     exact rr_7 a hal i hi hl hg out n (k+1) p' (by omega) (by omega) hq
  ·simp only [Wy.ev_i,Wy.ev_k,Wy.ev_h,Wy.ev_bn,Wy.ev_d,tT,hi,hk]
   rw [zcE hk,zuB]
theorem rr_3 (a:List Term) (hal:a.length≤1000000) (hg:∀ t∈a,t.Factors.length≤1000000∧AG g l t.Factors) (hok:∀ t∈a,∀ p,okA p→GS (zdx (toA l) t.Factors p)):
  ∀ (n i:Nat) (s:List Term),a.length<i+n→i≤a.length→okA s→zsE g n a l s i=(true,zbK (toA l) (a.drop i) s)
 | 0,i,s,h1,h2,_=>by omega
 | n+1,i,s,h1,h2,hs=>by
  show (zr0 g a l s i).ev (fun x y=>zsE g n x.1 x.2.1 x.2.2.1 x.2.2.2.1) (fun r=>(true,r)) (false,.inl default)=_
  unfold zr0
  by_cases hi:i<a.length
  ·have ht:=hg _ (zp hi)
   have hc:=zOv (a.getD i default).Coeff
   have hsz:=szTs_get' a i hi
   have h7:=rr_7 g l a hal i hi ht.1 ht.2 s ((a.length+l.length+s.length+(i:Int).toNat +(cstA (a.getD i default).Coeff).length+Int.toNat (0:Int)+(1:Nat))+szTs a+szTs s+szTs (cstA (a.getD i default).Coeff)) 0 (cstA (a.getD i default).Coeff) (by omega) (by omega) hc
   rw [show ((0:Nat):Int)=(0:Int) from rfl,List.drop_zero] at h7
   simp only [Int.toNat_natCast] at h7
   rw [zbm hi,zA6]
   simp only [Wy.ev_i,Wy.ev_k,Wy.ev_h,Wy.ev_bn,Wy.ev_d,tT,hi,(zO6 _).2]
   rw [h7]
   have hS:=hok _ (zp hi) _ hc
   revert hS
   cases zdx (toA l) (a.getD i default).Factors (cstA (a.getD i default).Coeff) with
   | inl e=>intro _; rfl
   | inr p=>
    intro hp
    have hp:okA p:=hp
    simp only [zbF,isL,getR,cond_true,cond_false,(zNU hs hp).2,bne0]
    have hG:=zIG hs hp
    unfold opS
    by_cases he:(addR s p).2=0
    ·rw [if_pos he,decide_eq_true he,zbF,zM (show i<4611686018427387904 by omega)]
     exact rr_3 a hal hg hok n (i+1) _ (by omega) (by omega) hG.1
    ·rw [if_neg he,decide_eq_false he]; rfl
  ·simp only [Wy.ev_i,Wy.ev_k,Wy.ev_h,Wy.ev_bn,Wy.ev_d,tT,hi]
   rw [zcE hi,zDm]
theorem rr_b (a:List Term) (hal:a.length≤1000000) (hg:∀ t∈a,t.Factors.length≤1000000∧AG g l t.Factors) (hok:∀ t∈a,∀ p,okA p→GS (zdx (toA l) t.Factors p)):zrN g a l=(true,ofS (zbK (toA l) a [])):=by
 unfold zrN zAo
 have h3:=rr_3 g l a hal hg hok ((a.length+l.length+(0:Nat)+Int.toNat (0:Int)+(1:Nat))+szTs a+szTs []) 0 [] (by omega) (by omega) ziQ
 rw [show ((0:Nat):Int)=(0:Int) from rfl,List.drop_zero] at h3
 rw [Wy.fin_bn,h3]
 cases zbK (toA l) a [] <;>rfl
end
section
variable (g:List Term→List Binding→Bool×(List Term×Int)) (l:List Binding)
theorem rr_8 (x:Atom) (hl:x.Args.length≤1000000) (hg:∀ a∈x.Args,g a l=(true,ofS (zbK (toA l) a []))∧GS (zbK (toA l) a [])):
  ∀ (n i:Nat) (xs:List (List Term)),x.Args.length<i+n→i≤x.Args.length→xs.length≤i→zwK g n l i x xs=(true,match zjF (toA l) (x.Args.drop i) with
   | .inl e=>.inl e
   | .inr ys=>.inr (l,x,xs++ys))
 | 0,i,xs,h1,h2,_=>by omega
 | n+1,i,xs,h1,h2,hx=>by
  have hreach:zK=70368744177664:=rfl
  show (zwp g l i x xs).ev (fun x y=>zwK g n x.1 x.2.2.2.1 y.1 y.2.1) (fun r=>(true,r)) (false,.inl default)=_
  unfold zwp
  by_cases hi:i<x.Args.length
  ·obtain ⟨hf,hG⟩:=hg _ (zp hi)
   have hb:decide ((xs.length+1)*24≤zK)=true:=by simp only [decide_eq_true_eq]; omega
   rw [zbm hi,zjb]
   simp only [Wy.ev_i,Wy.ev_k,Wy.ev_h,Wy.ev_bn,Wy.ev_d,tT,hi,hf,bne0,List.length_singleton,hb]
   revert hG
   cases zbK (toA l) (x.Args.getD i default) [] with
   | inl e=>intro he; simp [ofS,show e≠0 from he,zvz]
   | inr b=>
    intro _
    simp only [ofS,decide_true,Bool.not_true,cond_false,zbF,zM (show i<4611686018427387904 by omega)]
    rw [rr_8 x hl hg n (i+1) (xs++[b]) (by omega) (by omega) (by simp; omega)]
    cases zjF (toA l) (x.Args.drop (i+1)) with
    | inl e=>rfl
    | inr ys=>simp [zbF]
  ·simp only [Wy.ev_i,Wy.ev_k,Wy.ev_h,Wy.ev_bn,Wy.ev_d,tT,hi]
   rw [zcE hi,zmt]; simp
theorem zTO (x:Atom) (as_:List (List Term)) (hl:x.Items.length≤1000000) (hg:∀ w∈x.Items,g w.Ann l=(true,ofS (zbK (toA l) w.Ann []))∧GS (zbK (toA l) w.Ann [])):
  ∀ (n i:Nat) (xs:List Weighted),x.Items.length<i+n→i≤x.Items.length→xs.length≤i→zuO g n l i x as_ xs=(true,match zfH (toA l) (x.Items.drop i) with
   | .inl e=>.inl e
   | .inr ys=>.inr (x,as_,xs++ys))
 | 0,i,xs,h1,h2,_=>by omega
 | n+1,i,xs,h1,h2,hx=>by
  have hreach:zK=70368744177664:=rfl
  show (zuZ g l i x as_ xs).ev (fun x y=>zuO g n x.1 x.2.2.2.2.1 y.1 y.2.1 y.2.2.1) (fun r=>(true,r)) (false,.inl default)=_
  unfold zuZ
  by_cases hi:i<x.Items.length
  ·obtain ⟨hf,hG⟩:=hg _ (zp hi)
   have hb:decide ((xs.length+1)*56≤zK)=true:=by simp only [decide_eq_true_eq]; omega
   rw [zbm hi,zv3]
   simp only [Wy.ev_i,Wy.ev_k,Wy.ev_h,Wy.ev_bn,Wy.ev_d,tT,hi,hf,bne0,List.length_singleton,hb]
   revert hG
   cases zbK (toA l) (x.Items.getD i default).Ann [] with
   | inl e=>intro he; simp [ofS,show e≠0 from he,zvz]
   | inr b=>
    intro _
    simp only [ofS,decide_true,Bool.not_true,cond_false,zbF,zM (show i<4611686018427387904 by omega)]
    rw [zTO x as_ hl hg n (i+1) (xs++[WeightedOf.mk (x.Items.getD i default).Value b]) (by omega) (by omega) (by simp; omega)]
    cases zfH (toA l) (x.Items.drop (i+1)) with
    | inl e=>rfl
    | inr ys=>simp [zbF]
  ·simp only [Wy.ev_i,Wy.ev_k,Wy.ev_h,Wy.ev_bn,Wy.ev_d,tT,hi]
   rw [zcE hi,zui]; simp
theorem zTa {x:Atom} (h:vatA x=true) (hk:x.Kind=1∨x.Kind=2∨x.Kind=3):x.Items=[]:=by
 cases zsB.1 h <;>simp_all
theorem zVc (hto:okB l) (x:Atom) (h:XG g l x):zwm g x l=(true,ofS (zdF (toA l) x)):=by
 unfold zwm zEj
 have h8:=rr_8 g l x h.lens.1 h.ga ((l.length+Int.toNat (0:Int)+(0:Nat)+(1:Nat))+x.Args.length+x.Items.length) 0 [] (by omega) (by omega) (by simp)
 rw [show ((0:Nat):Int)=(0:Int) from rfl,List.drop_zero] at h8
 have h16:=fun xs:List (List Term)=>zTO g l x xs (by have:=h.lens.2; omega) h.gi ((l.length+Int.toNat (0:Int)+xs.length+(0:Nat)+(1:Nat))+x.Args.length+x.Items.length) 0 [] (by omega) (by omega) (by simp)
 simp only [show ((0:Nat):Int)=(0:Int) from rfl,List.drop_zero,List.nil_append] at h16
 have b0:=beqd x.Kind 0
 have b1:=beqd x.Kind 1
 have b2:=beqd x.Kind 2
 have b3:=beqd x.Kind 3
 rw [Atom.eta,zC1]
 simp only [Wy.fin_i,Wy.fin_bn,Wy.fin_k,cond_true,h8,List.nil_append]
 by_cases hk0:x.Kind=0
 ·rw [b0,decide_eq_true hk0,if_pos hk0]
  obtain ⟨b,q,h1,h2⟩:=zS6 hto x.Row
  simp only [cond_true,h1]
  rcases h2 with ⟨rfl,rfl⟩ | ⟨rfl,h2⟩
  ·rfl
  ·rw [h2]; simp only [cond_false,(zSg x.Row).2]; rfl
 ·rw [b0,decide_eq_false hk0,if_neg hk0,cond_false]
  have hA:=h.sa
  have hlen:=zMS h.va
  revert hA
  cases zjF (toA l) x.Args with
  | inl e=>intro _; rfl
  | inr xs=>
   intro hxs
   have hxl:xs.length=x.Args.length∧∀ a∈xs,okA a:=hxs
   have o0:=zxH hxl.2 0
   have o1:=zxH hxl.2 1
   simp only [isL,getR,cond_false,zbF,Atom.eta,h16]
   by_cases hk:x.Kind=1∨x.Kind=2∨x.Kind=3
   ·rw [zTa h.va hk,zui]
    simp only [cond_true,cond_false,isL,getR]
    rcases hk with hk1 | hk2 | hk3
    ·have:=hlen.1 hk1
     rw [b1,decide_eq_true hk1,if_pos hk1]
     simp only [cond_true,show Int.toNat (0:Int)=0 from rfl,show Int.toNat (1:Int)=1 from rfl,(zKi o0 o1).2,zvO (zIZ o0 o1).2]
     simp [hxl.1,this]
    ·have:=hlen.2 (.inl hk2)
     have n1:¬ x.Kind=1:=by omega
     rw [b1,decide_eq_false n1,if_neg n1,cond_false,b2,decide_eq_true hk2,if_pos hk2]
     simp only [cond_true,show Int.toNat (0:Int)=0 from rfl,(zJ7 o0).2,zvO (zI7 o0).2]
     simp [hxl.1,this]
    ·have:=hlen.2 (.inr hk3)
     have n1:¬ x.Kind=1:=by omega
     have n2:¬ x.Kind=2:=by omega
     rw [b1,decide_eq_false n1,if_neg n1,cond_false,b2,decide_eq_false n2,if_neg n2,cond_false,b3,decide_eq_true hk3,if_pos hk3]
     simp only [cond_true,show Int.toNat (0:Int)=0 from rfl,(zIc o0).2,zvO (zIK o0).2]
     simp [hxl.1,this]
   ·have n1:¬ x.Kind=1:=fun e=>hk (.inl e)
    have n2:¬ x.Kind=2:=fun e=>hk (.inr (.inl e))
    have n3:¬ x.Kind=3:=fun e=>hk (.inr (.inr e))
    rw [if_neg n1,if_neg n2,if_neg n3]
    have hI:=h.si
    revert hI
    cases zfH (toA l) x.Items with
    | inl e=>intro _; rfl
    | inr is=>
     intro his
     have ht:=zPZ (f:=x.Func) (o:=x.Op) (b:=x.Bound) h.lens.2 his
     simp only [cond_true,cond_false,isL,getR,b1,b2,b3,decide_eq_false n1,decide_eq_false n2,decide_eq_false n3,ht.2,zbF]
     have hw:=zmk h.wf
     have hl:is.length=x.Items.length∧∀ w∈is,okA w.Ann∧∃ v∈x.Items,v.Value=w.Value:=his
     rw [zvO (zIv (by have:=h.lens.2; omega) (fun w hw'=>⟨(hl.2 w hw').1,by
      obtain ⟨v,hv,e⟩:=(hl.2 w hw').2
      rw [← e]; exact (zhd hw.2.1.1 v hv).1⟩) hw.2.2.2.2.2.1 hw.2.2.2.2.2.2 hw.2.2.1).2]
end
theorem zJu:∀ {l:List (List Term)} {a:List Term},a∈l→zei a≤zmR l
 | [],_,h=>by cases h
 | x::r,a,h=>by
  rw [zHr]
  rcases List.mem_cons.1 h with rfl | h
  ·omega
  ·have:=zJu h; omega
theorem zHK:∀ {l:List Weighted} {w:Weighted},w∈l→zei w.Ann≤zjj l
 | [],_,h=>by cases h
 | x::r,a,h=>by
  rw [zzS]
  rcases List.mem_cons.1 h with rfl | h
  ·omega
  ·have:=zHK h; omega
theorem zEF:∀ {l:List Factor} {f:Factor},f∈l→zxB f.Atom≤zf8 l
 | [],_,h=>by cases h
 | x::r,a,h=>by
  rw [zDq]
  rcases List.mem_cons.1 h with rfl | h
  ·omega
  ·have:=zEF h; omega
theorem zKF:∀ {l:List Term} {t:Term},t∈l→zf8 t.Factors≤zei l
 | [],_,h=>by cases h
 | x::r,a,h=>by
  rw [zDC]
  rcases List.mem_cons.1 h with rfl | h
  ·omega
  ·have:=zKF h; omega
theorem zHA:∀ {l:List Weighted},(∀ w∈l,w.Ann≠[])→l.length≤zjj l
 | [],_=>by simp
 | x::r,h=>by
  rw [zzS]
  have:=zHA (l:=r) fun w hw=>h w (by simp [hw])
  have h1:1≤zei x.Ann:=by
   have:=h x (by simp)
   cases hx:x.Ann with
   | nil=>exact absurd hx this
   | cons t r=>rw [zDC]; omega
  simp only [List.length_cons]
  omega
mutual
def zCg:Atom→Prop
 | ⟨_,_,a,_,i,_,_⟩=>i.length<20∧zEr a∧zBf i
def zsL:List Factor→Prop
 | []=>True
 | ⟨x,_⟩::r=>zCg x∧zsL r
def zeo:List Term→Prop
 | []=>True
 | ⟨_,fs⟩::r=>zsL fs∧zeo r
def zEr:List (List Term)→Prop
 | []=>True
 | a::r=>zeo a∧zEr r
def zBf:List Weighted→Prop
 | []=>True
 | ⟨_,a⟩::r=>zeo a∧zBf r
end
theorem zFN (x:Atom):zCg x↔x.Items.length<20∧zEr x.Args∧zBf x.Items:=by cases x; rw [zCg]
theorem zlC:∀ {l:List Factor},zsL l↔∀ f∈l,zCg f.Atom
 | []=>by rw [zsL]; simp
 | ⟨x,e⟩::r=>by rw [zsL,zlC (l:=r)]; simp
theorem zmC:∀ {l:List Term},zeo l↔∀ t∈l,zsL t.Factors
 | []=>by rw [zeo]; simp
 | ⟨x,e⟩::r=>by rw [zeo,zmC (l:=r)]; simp
theorem zAS:∀ {l:List (List Term)},zEr l↔∀ a∈l,zeo a
 | []=>by rw [zEr]; simp
 | a::r=>by rw [zEr,zAS (l:=r)]; simp
theorem zye:∀ {l:List Weighted},zBf l↔∀ w∈l,zeo w.Ann
 | []=>by rw [zBf]; simp
 | ⟨x,e⟩::r=>by rw [zBf,zye (l:=r)]; simp
theorem zMH {m:Nat} {a:List Term} (h:z7 (m+1) a=true):zfi a=true∧∀ t∈a,t.Factors.length≤64∧∀ f∈t.Factors,(1≤f.Exp∧f.Exp≤64)∧f.Atom.Items.length≤1024∧zcO (z7 m) f.Atom=true:=by
 have hw:=zzc h
 refine ⟨hw,fun t ht=> ?_⟩
 obtain ⟨l1,l2⟩:=(zqx hw).2.2.2 t ht
 refine ⟨l1,fun f hf=> ?_⟩
 obtain ⟨⟨e1,_⟩,hv⟩:=zmf (zpM h ht).2 hf
 exact ⟨⟨e1,(l2 f hf).1⟩,(l2 f hf).2,hv⟩
theorem zJi:∀ (m:Nat) (a:List Term),z7 m a=true→z7 (m+1) a=true
 | 0,_,h=>by cases h
 | m+1,a,h=>by
  have h':vAnn (zcO (z7 m)) a=true:=h
  obtain ⟨h1,h2,h3⟩:=zxJ.1 h'
  refine (zxJ (vat:=zcO (z7 (m+1)))).2 ⟨h1,h2,fun t ht=>⟨(h3 t ht).1,(h3 t ht).2.1,fun f hf=>⟨((h3 t ht).2.2 f hf).1, ?_⟩⟩⟩
  exact zcq.2 ((zcq.1 ((h3 t ht).2.2 f hf).2).imp (zJi m))
theorem zsS:∀ {m:Nat} {a:List Term},z7 m a=true→zC a=true:=by
 intro m a h
 have key:∀ k,z7 (m+k) a=true:=fun k=>by
  induction k with
  | zero=>exact h
  | succ k ih=>exact zJi _ _ ih
 exact zOM (key 9) (by omega)
theorem zTq {m:Nat} {x:Atom} (h:zcO (z7 m) x=true) (hm:m≤99):vatA x=true:=by
 refine zsB.2 ((zcq.1 h).imp fun a ha=> ?_)
 exact zsS ha
theorem zJn {V:List Term→Bool} {x:Atom} (h:zcO V x=true):(∀ a∈x.Args,V a=true)∧∀ w∈x.Items,V w.Ann=true∧w.Ann≠[]:=by
 constructor
 ·cases zcq.1 h <;>simp_all
 ·cases zcq.1 h <;>simp_all
theorem zFO:∀ (m:Nat) (a:List Term),z7 m a=true→zei a≤38→zeo a
 | 0,_,h,_=>by cases h
 | m+1,a,h,hs=>by
  obtain ⟨_,w2⟩:=zMH h
  refine zmC.2 fun t ht=>zlC.2 fun f hf=>(zFN _).2 ?_
  have hv:=((w2 t ht).2 f hf).2.2
  have h1:=zEF hf
  have h2:=zKF ht
  have h3:=zKP f.Atom
  obtain ⟨hargs,hitems⟩:=zJn hv
  refine ⟨by have:=zHA fun w hw=>(hitems w hw).2; omega,zAS.2 fun b hb=>zFO m b (hargs b hb) (by have:=zJu hb; omega),zye.2 fun w hw=>zFO m w.Ann (hitems w hw).1 (by have:=zHK hw; omega)⟩
theorem zIW {l:List Binding} (hl:okB l):∀ n,
  (∀ m a,z7 m a=true→m≤99→zfz a→zeo a→2*m≤n→(zjc n a l=(true,ofS (zbK (toA l) a []))∧zry n a l=(true,ofS (zbK (toA l) a [])))∧GS (zbK (toA l) a []))∧
  (∀ m x,zcO (z7 m) x=true→m≤99→zfm x→x.Items.length≤1024→zCg x→2*m+1≤n→(zgS n x l=(true,ofS (zdF (toA l) x))∧zwv n x l=(true,ofS (zdF (toA l) x)))∧GS (zdF (toA l) x))
 | 0=>by
  refine ⟨fun m a h _ _ _ hm=> ?_,fun m x _ _ _ _ _ hm=>by omega⟩
  have:m=0:=by omega
  subst this; cases h
 | n+1=>by
  obtain ⟨h1,h2⟩:=zIW hl n
  have ht:okT (toA l):=zSv hl.2
  refine ⟨fun m a h h99 hw hs hm=> ?_,fun m x h h99 hw hi hs hm=> ?_⟩
  ·cases m with
   | zero=>cases h
   | succ m=>
    obtain ⟨w1,w2⟩:=zMH h
    obtain ⟨a1,a2,a3,a4⟩:=zqx w1
    have hwt:=fun t (ht:t∈a)=>zqw (zoh hw t ht)
    have hwf:=fun t (ht:t∈a) f (hf:f∈t.Factors)=>(zmZ (zlA (hwt t ht).2.1 f hf)).1
    have hA:∀ t∈a,∀ f∈t.Factors,((zgS n f.Atom l=(true,ofS (zdF (toA l) f.Atom))∧zwv n f.Atom l=(true,ofS (zdF (toA l) f.Atom)))∧GS (zdF (toA l) f.Atom)):=fun t ht f hf=>
     h2 m f.Atom ((w2 t ht).2 f hf).2.2 (by omega) (hwf t ht f hf) ((w2 t ht).2 f hf).2.1 (zlC.1 (zmC.1 hs t ht) f hf) (by omega)
    have hE:=fun t (ht:t∈a) f (hf:f∈t.Factors)=>((w2 t ht).2 f hf).1
    have hok:∀ t∈a,∀ p,okA p→GS (zdx (toA l) t.Factors p):=fun t ht' p hp=>zCy ht t.Factors 9 (fun f hf=>⟨hwf t ht' f hf,zp8 ((w2 t ht').2 f hf).2.2 ((w2 t ht').2 f hf).2.1⟩) p hp
    have hG:GS (zbK (toA l) a []):=zFL ht a 9 hw (fun t ht f hf=>zp8 ((w2 t ht).2 f hf).2.2 ((w2 t ht).2 f hf).2.1) [] ziQ
    refine ⟨⟨?_, ?_⟩,hG⟩
    ·rw [zCR]
     exact rp_b _ l a (by omega) (fun t ht=>⟨by have:=(w2 t ht).1; omega,fun f hf=>⟨⟨(hA t ht f hf).1.1,(hA t ht f hf).2⟩,by have:=(hE t ht f hf).1; omega,by have:=(hE t ht f hf).2; omega⟩⟩) hok
    ·rw [zG5]
     exact rr_b _ l a (by omega) (fun t ht=>⟨by have:=(w2 t ht).1; omega,fun f hf=>⟨⟨(hA t ht f hf).1.2,(hA t ht f hf).2⟩,by have:=(hE t ht f hf).1; omega,by have:=(hE t ht f hf).2; omega⟩⟩) hok
  ·have hf:=zp8 h hi
   have hw':=zmk hw
   have hv:=zTq h h99
   obtain ⟨h20,s1,s2⟩:=(zFN x).1 hs
   obtain ⟨hargs,hitems⟩:=zJn h
   have ga:=fun a (ha:a∈x.Args)=>h1 m a (hargs a ha) h99 (ziy hw'.1.1 a ha).1 (zAS.1 s1 a ha) (by omega)
   have gi:=fun w (hw:w∈x.Items)=>h1 m w.Ann (hitems w hw).1 h99 (zhd hw'.2.1.1 w hw).2.1 (zye.1 s2 w hw) (by omega)
   have sa:=zHW ht x.Args 9 (fun a ha=>(ziy hw'.1.1 a ha).1) hf.2.1
   have si:=zFk ht x.Items 9 (fun w hw=>(zhd hw'.2.1.1 w hw).2.1) fun w hw=>(hf.2.2 w hw).2
   refine ⟨⟨?_, ?_⟩,zNe ht x 9 hw hf⟩
   ·rw [zyB]
    exact zUj _ l hl x ⟨hv,⟨hf.1.1,h20⟩,fun a ha=>⟨(ga a ha).1.1,(ga a ha).2⟩,fun w hw=>⟨(gi w hw).1.1,(gi w hw).2⟩,sa,si,hw⟩
   ·rw [zK5]
    exact zVc _ l hl x ⟨hv,⟨hf.1.1,h20⟩,fun a ha=>⟨(ga a ha).1.2,(ga a ha).2⟩,fun w hw=>⟨(gi w hw).1.2,(gi w hw).2⟩,sa,si,hw⟩
def monU (a b:List Term):List Term:=if b=[] then a else if a=[]∨a=b then [] else oneA (monA a b)
def delU (a:List Term):List Term:=if a=[]∨isU a=true then a else if isC a=true then [⟨1,[]⟩] else oneA (delA a)
def absU (a:List Term):List Term:=if a=[] then [⟨1,[]⟩] else if hasC a=true then [] else oneA (absA a)
def tstU (f:Int) (l:List Weighted) (o:Int) (b:Value):List Term:=
 if 0<(zdR l).length then oneA (tstA f (zdR l) o b) else if (f==0&&mats o (cmpI 0 b.Int))=true then [⟨1,[]⟩] else []
theorem zLB {a b:List Term} (h:(monR a b).2=0):(zC a=true∧zC b=true)∧monR a b=(monU a b,0):=by
 unfold monR at *
 obtain ⟨h1,h2⟩:=zI0 h
 rw [Bool.and_eq_true] at h1
 refine ⟨h1, ?_⟩
 rw [h2] at h ⊢
 unfold monU
 split at h
 ·rename_i hb; rw [if_pos hb,if_pos hb]
 ·rename_i hb
  rw [if_neg hb,if_neg hb]
  split at h
  ·rename_i hc; rw [if_pos hc,if_pos hc]
  ·rename_i hc; rw [if_neg hc,if_neg hc]; exact (zEi h).2
theorem zKJ {a:List Term} (h:(delR a).2=0):zC a=true∧delR a=(delU a,0):=by
 unfold delR at *
 obtain ⟨h1,h2⟩:=zI0 h
 refine ⟨h1, ?_⟩
 rw [h2] at h ⊢
 unfold delU
 split at h
 ·rename_i hb; rw [if_pos hb,if_pos hb]
 ·rename_i hb
  rw [if_neg hb,if_neg hb]
  split at h
  ·rename_i hc; rw [if_pos hc,if_pos hc]
  ·rename_i hc; rw [if_neg hc,if_neg hc]; exact (zEi h).2
theorem zK1 {a:List Term} (h:(absR a).2=0):zC a=true∧absR a=(absU a,0):=by
 unfold absR at *
 obtain ⟨h1,h2⟩:=zI0 h
 refine ⟨h1, ?_⟩
 rw [h2] at h ⊢
 unfold absU
 split at h
 ·rename_i hb; rw [if_pos hb,if_pos hb]
 ·rename_i hb
  rw [if_neg hb,if_neg hb]
  split at h
  ·rename_i hc; rw [if_pos hc,if_pos hc]
  ·rename_i hc; rw [if_neg hc,if_neg hc]; exact (zEi h).2
theorem zUC {f o:Int} {l:List Weighted} {b:Value} (h:(zqr f l o b).2=0):(fitK f l o b=true∧∀ w∈l,zC w.Ann=true)∧zqr f l o b=(tstU f l o b,0):=by
 unfold zqr at *
 cases hk:fitK f l o b with
 | false=>rw [hk] at h; cases h
 | true=>
  rw [hk] at h
  cases hv:l.all fun w=>zC w.Ann with
  | false=>rw [hv] at h; cases h
  | true=>
   rw [hv] at h
   refine ⟨⟨rfl,fun w hw=>List.all_eq_true.1 hv w hw⟩, ?_⟩
   simp only [Bool.and_self,Bool.not_true,cond_false] at h ⊢
   unfold tstU
   by_cases hl:0<(zdR l).length
   ·rw [decide_eq_true hl,cond_true] at h
    rw [decide_eq_true hl,cond_true,if_pos hl]
    exact (zEi h).2
   ·rw [decide_eq_false hl,cond_false,if_neg hl]
    cases (f==0&&mats o (cmpI 0 b.Int)) <;>rfl
theorem zEx (x:Atom) (h:0≤x.Kind∧x.Kind≤4):PA (oneA x):=⟨by simp [oneA],fun t ht=>by
 simp only [oneA,List.mem_singleton] at ht; subst ht
 refine ⟨⟨by simp,by simp⟩,by simp,fun f hf=> ?_⟩
 rw [List.mem_singleton] at hf; subst hf
 exact ⟨⟨h,fun _=>rfl⟩,by simp⟩⟩
theorem zUr {a b:List Term} (ha:PA a):PA (monU a b):=by
 unfold monU
 split
 ·exact ha
 ·split
  ·exact PA.nil
  ·exact zEx _ (by simp [monA])
theorem zU2 {a:List Term} (ha:PA a):PA (delU a):=by
 unfold delU
 split
 ·exact ha
 ·split
  ·exact zB7
  ·exact zEx _ (by simp [delA])
theorem zU3 (a:List Term):PA (absU a):=by
 unfold absU
 split
 ·exact zB7
 ·split
  ·exact PA.nil
  ·exact zEx _ (by simp [absA])
theorem zPX (f:Int) (l:List Weighted) (o:Int) (b:Value):PA (tstU f l o b):=by
 unfold tstU
 split
 ·exact zEx _ (by simp [tstA])
 ·split
  ·exact zB7
  ·exact PA.nil
def IdP (a:List Term):Prop:=a=[]∨a=[⟨1,[]⟩]∨∃ x:Atom,(x.Kind=3∨x.Kind=4)∧a=oneA x
theorem IdP.sq {a:List Term} (h:IdP a):zbn a a=a:=by
 rcases h with rfl | rfl | ⟨x,hx,rfl⟩
 ·rfl
 ·exact zsC zB7
 ·exact zUQ hx
theorem zQa (a:List Term):IdP (absU a):=by
 unfold absU
 split
 ·exact .inr (.inl rfl)
 ·split
  ·exact .inl rfl
  ·exact .inr (.inr ⟨_,.inl rfl,rfl⟩)
theorem zMh (f:Int) (l:List Weighted) (o:Int) (b:Value):IdP (tstU f l o b):=by
 unfold tstU
 split
 ·exact .inr (.inr ⟨_,.inr rfl,rfl⟩)
 ·split
  ·exact .inr (.inl rfl)
  ·exact .inl rfl
def powA (b:List Term):Nat→List Term
 | 0=>[⟨1,[]⟩]
 | n+1=>zbn b (powA b n)
theorem zpg {b:List Term} (hb:PA b):∀ n,PA (powA b n)
 | 0=>zB7
 | n+1=>zgD hb (zpg hb n)
theorem zOm {b:List Term} (hb:PA b):∀ n m,powA b (n+m)=zbn (powA b n) (powA b m)
 | 0,m=>by rw [Nat.zero_add]; exact (zJW (zpg hb m)).symm
 | n+1,m=>by
  rw [Nat.add_right_comm]
  show zbn b (powA b (n+m))=zbn (zbn b (powA b n)) (powA b m)
  rw [zOm hb n m,zkK hb (zpg hb n) (zpg hb m)]
theorem zPe {b:List Term} (hb:PA b):powA b 1=b:=zsC hb
theorem zNN {b:List Term} (hb:PA b):∀ (n:Nat) {p q:List Term},PA p→powS b n p=.inr q→q=zbn p (powA b n)
 | 0,p,q,hp,h=>by cases h; exact (zsC hp).symm
 | n+1,p,q,hp,h=>by
  unfold powS opS at h
  by_cases h0:(mulR p b).2=0
  ·rw [if_pos h0,zbF,(zLl h0).2] at h
   rw [zNN hb n (zgD hp hb) h]
   show zbn (zbn p b) (powA b n)=zbn p (zbn b (powA b n))
   rw [zkK hp hb (zpg hb n)]
  ·rw [if_neg h0] at h; cases h
section
variable (σ:Atom→List Term)
def mvA:List Factor→List Term
 | []=>[⟨1,[]⟩]
 | f::r=>zbn (powA (σ f.Atom) f.Exp.toNat) (mvA r)
def evU:List Term→List Term→List Term
 | [],s=>s
 | t::r,s=>evU r (sumA s (zbn [⟨t.Coeff,[]⟩] (mvA σ t.Factors)))
def SG (x:Atom):Prop:=PA (σ x)∧(x.Kind=3∨x.Kind=4→IdP (σ x))
variable {σ}
theorem zod:∀ {l:List Factor},(∀ f∈l,SG σ f.Atom)→PA (mvA σ l)
 | [],_=>zB7
 | f::r,h=>zgD (zpg (h f (by simp)).1 _) (zod fun g hg=>h g (by simp [hg]))
theorem zFU {c:Int} (h:1≤c∧c≤1152921504606846976):PA [⟨c,[]⟩]:=⟨by simp,fun t ht=>by
 rw [List.mem_singleton] at ht; subst ht
 exact ⟨h,MF.nil⟩⟩
theorem zRU {a b c d:List Term} (ha:PA a) (hb:PA b) (hc:PA c) (hd:PA d):zbn (zbn a b) (zbn c d)=zbn (zbn a c) (zbn b d):=by
 rw [zkK ha hb (zgD hc hd),zkK ha hc (zgD hb hd), ← zkK hb hc hd,zHC hb hc,zkK hc hb hd]
theorem zSW {a b:List Factor}:MF a→MF b→(∀ f∈a,SG σ f.Atom)→(∀ f∈b,SG σ f.Atom)→mvA σ (zS a b)=zbn (mvA σ a) (mvA σ b):=by
 induction a,b using zS.induct with
 | case1 b=>intro _ _ _ hb; rw [zS]; exact (zJW (zod hb)).symm
 | case2 x a=>intro _ _ ha _; rw [zS]; exact (zsC (zod ha)).symm
 | case3 x a y b h ih=>
  intro ma mb ha hb
  rw [zS,if_pos h]
  show zbn (powA (σ x.Atom) x.Exp.toNat) (mvA σ (zS a (y::b)))=zbn (zbn (powA (σ x.Atom) x.Exp.toNat) (mvA σ a)) (mvA σ (y::b))
  rw [ih ma.tail mb (fun f hf=>ha f (by simp [hf])) hb,zkK (zpg (ha x (by simp)).1 _) (zod fun f hf=>ha f (by simp [hf])) (zod hb)]
 | case4 x a y b h h2 ih=>
  intro ma mb ha hb
  rw [zS,if_neg h,if_pos h2]
  show zbn (powA (σ y.Atom) y.Exp.toNat) (mvA σ (zS (x::a) b))=zbn (mvA σ (x::a)) (zbn (powA (σ y.Atom) y.Exp.toNat) (mvA σ b))
  have py:=zpg (hb y (by simp)).1 y.Exp.toNat
  have pa:=zod ha
  have pb:=zod (l:=b) fun f hf=>hb f (by simp [hf])
  rw [ih ma mb.tail ha (fun f hf=>hb f (by simp [hf])), ← zkK pa py pb,zHC pa py,zkK py pa pb]
 | case5 x a y b h h2 ih=>
  intro ma mb ha hb
  have h0:x.Atom=y.Atom:=zIF (by omega)
  have sx:=ha x (by simp)
  have px:=zpg sx.1 x.Exp.toNat
  have py:=zpg sx.1 y.Exp.toNat
  have pa:=zod (l:=a) fun f hf=>ha f (by simp [hf])
  have pb:=zod (l:=b) fun f hf=>hb f (by simp [hf])
  rw [zS,if_neg h,if_neg h2]
  show zbn (powA (σ (if x.Atom.Kind=3∨x.Atom.Kind=4 then x else ⟨x.Atom,x.Exp+y.Exp⟩:Factor).Atom) (if x.Atom.Kind=3∨x.Atom.Kind=4 then x else ⟨x.Atom,x.Exp+y.Exp⟩:Factor).Exp.toNat) (mvA σ (zS a b))=zbn (zbn (powA (σ x.Atom) x.Exp.toNat) (mvA σ a)) (zbn (powA (σ y.Atom) y.Exp.toNat) (mvA σ b))
  rw [ih ma.tail mb.tail (fun f hf=>ha f (by simp [hf])) (fun f hf=>hb f (by simp [hf])), ← h0,zRU px pa py pb]
  congr 1
  have e1:=ma.2 x (by simp)
  have e2:=mb.2 y (by simp)
  by_cases hk:x.Atom.Kind=3∨x.Atom.Kind=4
  ·rw [if_pos hk,e1.1.2 hk,e2.1.2 (h0 ▸ hk)]
   show powA (σ x.Atom) 1=zbn (powA (σ x.Atom) 1) (powA (σ x.Atom) 1)
   rw [zPe sx.1,(sx.2 hk).sq]
  ·rw [if_neg hk]
   show powA (σ x.Atom) (x.Exp+y.Exp).toNat=_
   rw [← zOm sx.1,Int.toNat_add (by omega) (by omega)]
def EA (σ:Atom→List Term) (a:List Term):Prop:=PA a∧∀ t∈a,∀ f∈t.Factors,SG σ f.Atom
theorem zQx {t:Term} (hc:cOK t) (h:∀ f∈t.Factors,SG σ f.Atom):PA (zbn [⟨t.Coeff,[]⟩] (mvA σ t.Factors)):=zgD (zFU hc) (zod h)
theorem zzi:∀ {a s:List Term},(∀ t∈a,cOK t∧∀ f∈t.Factors,SG σ f.Atom)→PA s→PA (evU σ a s)
 | [],s,_,hs=>hs
 | t::r,s,h,hs=>by
  rw [evU]
  exact zzi (fun u hu=>h u (by simp [hu])) (zEL hs (zQx (h t (by simp)).1 (h t (by simp)).2))
theorem zVz (φ:List Factor→Nat) {c:Int} (hc:1≤c∧c≤1152921504606846976) {v:List Term} (hv:PA v):EqS (evA φ (zbn [⟨c,[]⟩] v)) (c.toNat *evA φ v):=by
 refine (zq2 φ (zFU hc).c hv.c).trans (.inl ?_)
 show c.toNat *prW φ v []+0=_
 rw [Nat.add_zero]; congr 1
 unfold prW
 exact zEo fun t _=>by rw [zS]
theorem zzd (φ:List Factor→Nat):∀ {a s:List Term},(∀ t∈a,cOK t∧∀ f∈t.Factors,SG σ f.Atom)→PA s→EqS (evA φ (evU σ a s)) (evA φ s+evA (fun m=>evA φ (mvA σ m)) a)
 | [],s,_,_=>.inl rfl
 | t::r,s,h,hs=>by
  have ht:=h t (by simp)
  have pt:=zQx ht.1 ht.2
  refine (zzd φ (fun u hu=>h u (by simp [hu])) (zEL hs pt)).trans ?_
  rw [evA]
  refine ((zH7 φ _ hs.c pt.c).add (.refl _)).trans ?_
  refine (((EqS.refl _).add (zVz φ ht.1 (zod ht.2))).add (.refl _)).trans (.inl ?_)
  omega
theorem EA.p {a:List Term} (h:EA σ a):∀ t∈a,cOK t∧∀ f∈t.Factors,SG σ f.Atom:=fun t ht=>⟨h.1.c t ht,h.2 t ht⟩
theorem EA.sum {a b:List Term} (ha:EA σ a) (hb:EA σ b):EA σ (sumA a b):=⟨zEL ha.1 hb.1,fun t ht f hf=>by
 obtain ⟨x,hx,e⟩:=zte b a ha.1.1 ht
 rw [e] at hf
 rcases hx with hx | hx
 ·exact ha.2 x hx f hf
 ·exact hb.2 x hx f hf⟩
theorem EA.prod {a b:List Term} (ha:EA σ a) (hb:EA σ b):EA σ (zbn a b):=⟨zgD ha.1 hb.1,fun t ht f hf=>by
 obtain ⟨x,hx,e⟩:=zte (zdb a b) [] List.Pairwise.nil ht
 rw [e] at hf
 rcases hx with hx | hx
 ·cases hx
 ·obtain ⟨u,hu,v,hv,rfl⟩:=zvF hx
  obtain ⟨y,hy,e⟩:=znf hf
  rw [e]
  rcases hy with hy | hy
  ·exact ha.2 u hu y hy
  ·exact hb.2 v hv y hy⟩
theorem zT5 {a b:List Term} (ha:EA σ a) (hb:EA σ b):evU σ (sumA a b) []=sumA (evU σ a []) (evU σ b []):=by
 have pa:=zzi ha.p PA.nil
 have pb:=zzi hb.p PA.nil
 have pab:=zzi (ha.sum hb).p PA.nil
 refine zI2 pab.1 (zEL pa pb).1 pab.c (zEL pa pb).c fun φ=> ?_
 refine (zzd φ (ha.sum hb).p PA.nil).trans ?_
 refine (((EqS.refl _).add (zH7 _ b ha.1.c hb.1.c))).trans ?_
 refine .trans ?_ (zH7 φ _ pa.c pb.c).symm
 refine .trans (.inl ?_) ((zzd φ ha.p PA.nil).add (zzd φ hb.p PA.nil)).symm
 simp only [evA]; omega
theorem zTz {a b:List Term} (ha:EA σ a) (hb:EA σ b):evU σ (zbn a b) []=zbn (evU σ a []) (evU σ b []):=by
 have pa:=zzi ha.p PA.nil
 have pb:=zzi hb.p PA.nil
 have pab:=zzi (ha.prod hb).p PA.nil
 refine zI2 pab.1 (zgD pa pb).1 pab.c (zgD pa pb).c fun φ=> ?_
 refine (zzd φ (ha.prod hb).p PA.nil).trans ?_
 refine ((EqS.refl _).add (zq2 _ ha.1.c hb.1.c)).trans ?_
 refine .trans ?_ (zq2 φ pa.c pb.c).symm
 refine .trans ?_ (zzd _ ha.p PA.nil).symm
 refine EqS.add (.inl rfl) (zu2 fun x hx=> ?_)
 -- one monomial of a
 have h1:EqS (prW (fun m=>evA φ (mvA σ m)) b x.Factors) (evA (fun n=>evA (prW φ (mvA σ n)) (mvA σ x.Factors)) b):=zu2 fun y hy=>by
  show EqS (evA φ (mvA σ (zS x.Factors y.Factors))) _
  rw [zSW (ha.1.2 x hx).2 (hb.1.2 y hy).2 (ha.2 x hx) (hb.2 y hy)]
  exact zq2 φ (zod (ha.2 x hx)).c (zod (hb.2 y hy)).c
 refine h1.trans ?_
 rw [← zKh (fun m' n=>prW φ (mvA σ n) m') (mvA σ x.Factors) b]
 refine zu2 fun z hz=> ?_
 refine .trans ?_ (zzd (fun n'=>φ (zS z.Factors n')) hb.p PA.nil).symm
 exact .inl (by simp only [evA,prW]; omega)
theorem zHM {c:Int} (hc:1≤c∧c≤1152921504606846976):evU σ [⟨c,[]⟩] []=[⟨c,[]⟩]:=by
 show sumA [] (zbn [⟨c,[]⟩] [⟨1,[]⟩])=_
 rw [zsC (zFU hc)]; rfl
theorem zTm {x:Atom} (h:SG σ x):evU σ (oneA x) []=σ x:=by
 show sumA [] (zbn [⟨1,[]⟩] (zbn (powA (σ x) 1) [⟨1,[]⟩]))=_
 rw [zPe h.1,zsC h.1,zJW h.1,sum_nil h.1.1]
end
end Go.Proofs.YtnolcogncjijpaaGreatDoor
end
