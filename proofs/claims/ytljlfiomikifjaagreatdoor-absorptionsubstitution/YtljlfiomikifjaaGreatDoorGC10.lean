/- Texts of this claim, joined (the program, its functions in plain words, and what they compute). -/
import Derived.Test.YtljlfiomikifjaaGreatDoorGC9
set_option autoImplicit false
set_option linter.unusedVariables false
set_option linter.unusedSectionVars false
set_option linter.unusedSimpArgs false
set_option maxRecDepth 1000000
set_option maxHeartbeats 0
/- Results may be handed over again. -/
noncomputable section
namespace Go.Proofs.YtljlfiomikifjaaGreatDoor
open Go Go.Ab
theorem zUE {n:Int} (h:rng n):wf3 n:=by
 show (Lit.int .i64 n).wf=true;have:IntKind.i64.min≤n∧n≤IntKind.i64.max:=⟨h.1,h.2⟩
 simpa [Lit.wf] using this
theorem zVE {t:Term} (hc:rng t.Coeff) (hf:∀ f∈t.Factors,zgg f.Atom∧rng f.Exp) (hl:t.Factors.length≤1000000):zB2 t:=by
 obtain ⟨c,fs⟩:=t;unfold zB2;refine ⟨zUE hc,zLe fs fun f h=> ?_,by have:roomLen=140737488351232:=rfl; simp only at hl; omega⟩
 obtain ⟨x,e⟩:=f;unfold zwU;exact ⟨(hf _ h).1,zUE (hf _ h).2⟩
def okR (r:yC×Int):Prop:=okA r.1∧(r.2=0∨r.1=[])
theorem zjs:okA []:=⟨⟨zbdh 11,by rw [ztB]; omega⟩,by unfold zgr; trivial,by simp⟩
theorem zKo {a:yC} (h:okA a):okR (fitR a):=by
 unfold fitR;cases zeQ a with
 | true=>exact ⟨h,.inl rfl⟩
 | false=>exact ⟨zjs,.inr rfl⟩
theorem zPp {ok:Bool} {r:yC×Int} (h:ok=true→okR r):okR (opR ok r):=by
 unfold opR;cases ok with
 | true=>exact h rfl
 | false=>exact ⟨zjs,.inr rfl⟩
theorem zW7 {l:yC} (hl:l.length≤1000000) (h:∀ t∈l,GT t):okA l:=by
 obtain ⟨h1,h2⟩:=z7W hl h;refine ⟨⟨h1.mono (by omega),h2⟩,zGf l fun t ht=> ?_,by have:roomLen=140737488351232:=rfl; omega⟩
 have hg:=h t ht;exact zVE ⟨by have:=hg.1.1; omega,by have:=hg.1.2; omega⟩ (fun f hf=>⟨(hg.2.2 f hf).1.2.1,(hg.2.2 f hf).gF.2.2⟩) (by have:=hg.2.1; omega)
theorem z3B {a b:yC} (ha:okA a) (hb:okA b):okR (addR a b):=zPp fun hv=>by
 rw [qc] at hv;obtain ⟨sa,la,ta⟩:=zw2 hv.1 ha.2.1;obtain ⟨sb,lb,tb⟩:=zw2 hv.2 hb.2.1;exact zKo (zW7 (by have:=zKj b a; omega) (zPF b a sa (fun t ht=>(ta t ht).1) fun t ht=>(tb t ht).1))
theorem z4e {a b:yC} (ha:okA a) (hb:okA b):okR (mulR a b):=zPp fun hv=>by
 rw [qc] at hv;obtain ⟨sa,la,ta⟩:=zw2 hv.1 ha.2.1;obtain ⟨sb,lb,tb⟩:=zw2 hv.2 hb.2.1;have hpl:(zd5 a b).length≤1000000:=by rw [zV2]; have:=Nat.mul_le_mul la lb; omega
 exact zKo (zW7 (by have:=zKj (zd5 a b) []; simp at this; exact Nat.le_trans this hpl) (zPF (zd5 a b) [] .nil (fun t ht=>by cases ht) (zZy ta tb)))
theorem z6W {x:Atom} (hf:zcU (zr 9) x) (hs:zN (oneA x)≤4611686018427387904) (hw:zgg x):okA (oneA x):=by
 refine ⟨⟨(zM5 hf).mono (by omega),hs⟩,zGf _ fun t ht=> ?_,by simp [oneA,roomLen]⟩
 simp only [oneA,qh] at ht;subst ht;refine zVE ⟨by simp,by simp⟩ (fun f hf=> ?_) (by simp)
 simp only [qh] at hf;subst hf;exact ⟨hw,⟨by simp,by simp⟩⟩
theorem zWD {n:Int} (h: -1000≤n∧n≤1000):rng n:=⟨by omega,by omega⟩
theorem zp9:wf3 0:=zUE (zWD (by omega))
theorem zWc {l:yA} {k:Int} (hk:0≤k∧k≤4) (hl:l.length≤2) (h:∀ a∈l,zG a=true) (hw:∀ a∈l,okA a):okA (oneA ⟨k,⟨0,0⟩,l,0,[],0,⟨0,0,ByteArray.mk #[]⟩⟩):=by
 refine z6W ⟨⟨by simp only; omega,by simp,by show (ByteArray.mk #[]).size≤_; decide⟩,fun a ha=>(ze1 (h a ha)).1,fun w hw=>(by cases hw)⟩ (zRi hl h).2 ?_
 unfold zgg;have hr:roomLen=140737488351232:=rfl;refine ⟨zUE (zWD (by omega)),⟨zp9,zp9⟩,⟨zUV l fun a ha=>⟨(hw a ha).2.1,(hw a ha).2.2⟩,by omega⟩,zp9,⟨by unfold zs9; trivial,by simp⟩,zp9,⟨zp9,zp9, ?_⟩⟩
 show (ByteArray.mk #[]).size≤roomLen;rw [hr]; decide
theorem z4l {a b:yC} (ha:okA a) (hb:okA b):okR (monR a b):=zPp fun hv=>by
 rw [qc] at hv;split
 ·exact ⟨ha,.inl rfl⟩
 ·split
  ·exact ⟨zjs,.inl rfl⟩
  ·refine zKo (zWc (by omega) (by simp) (fun x hx=> ?_) fun x hx=> ?_)
   ·simp only [qd,List.not_mem_nil,or_false] at hx;rcases hx with rfl | rfl
    ·exact hv.1
    ·exact hv.2
   ·simp only [qd,List.not_mem_nil,or_false] at hx;rcases hx with rfl | rfl
    ·exact ha
    ·exact hb
theorem zXf (c:Int) (hc:1≤c∧c≤1152921504606846976):okA [⟨c,[]⟩]:=zW7 (by simp) fun t ht=>by
 rw [qh] at ht; subst ht;exact ⟨hc,by simp,fun f hf=>by cases hf⟩
theorem z3A {a:yC} (ha:okA a):okR (delR a):=zPp fun hv=>by
 split
 ·exact ⟨ha,.inl rfl⟩
 ·split
  ·exact ⟨zXf 1 (by omega),.inl rfl⟩
  ·exact zKo (zWc (by omega) (by simp) (fun x hx=>by rw [qh] at hx; subst hx; exact hv) fun x hx=>by rw [qh] at hx; subst hx; exact ha)
theorem z3k {a:yC} (ha:okA a):okR (absR a):=zPp fun hv=>by
 split
 ·exact ⟨zXf 1 (by omega),.inl rfl⟩
 ·split
  ·exact ⟨zjs,.inl rfl⟩
  ·exact zKo (zWc (by omega) (by simp) (fun x hx=>by rw [qh] at hx; subst hx; exact hv) fun x hx=>by rw [qh] at hx; subst hx; exact ha)
def cstA (n:Int):yC:=if n<1 then [] else [⟨if 1152921504606846976<n then 1152921504606846976 else n,[]⟩]
def varA (id:RowID):yC:=bif zxo id then oneA ⟨0,id,[],0,[],0,⟨0,0,ByteArray.mk #[]⟩⟩ else []
theorem z7N (n:Int):zqK n=(true,cstA n)∧zBQ n=(true,cstA n):=by
 unfold zqK zGv zBQ zTd cstA;by_cases h:n<1
 ·simp only [Wy.fin_i,Wy.fin_k,h,decide_true,cond_true,if_true]; exact ⟨trivial,trivial⟩
 ·simp only [Wy.fin_i,Wy.fin_k,h,decide_false,cond_false,if_false]; exact ⟨trivial,trivial⟩
theorem zbbg (id:RowID):zve id=(true,varA id)∧zCV id=(true,varA id):=by
 unfold zve zMa zCV zYR varA zxo;simp only [Wy.fin_i,Wy.fin_bn,Wy.fin_k,zD3,zGy,zQw,cond_true];unfold zxo
 have e1:decide (id.Table<1)= !decide (id.Table≥1):=by
  by_cases h:id.Table<1
  ·have:¬ id.Table≥1:=by omega
   simp only [h,this,decide_true,decide_false,Bool.not_false]
  ·have:id.Table≥1:=by omega
   simp only [h,this,decide_true,decide_false,Bool.not_true]
 have e2:decide (id.Seq<1)= !decide (id.Seq≥1):=by
  by_cases h:id.Seq<1
  ·have:¬ id.Seq≥1:=by omega
   simp only [h,this,decide_true,decide_false,Bool.not_false]
  ·have:id.Seq≥1:=by omega
   simp only [h,this,decide_true,decide_false,Bool.not_true]
 rw [e1,e2];cases decide (id.Table≥1) <;>cases decide (id.Seq≥1) <;>exact ⟨rfl,rfl⟩
theorem z7q (n:Int):okA (cstA n):=by
 unfold cstA;split
 ·exact zjs
 ·refine zXf _ ?_;split <;>omega
theorem zbft {id:RowID} (h:wf49 id):okA (varA id):=by
 unfold varA;cases hr:zxo id with
 | false=>exact zjs
 | true=>
  refine z6W ⟨⟨by simp,by simp,by show (ByteArray.mk #[]).size≤_; decide⟩,fun a ha=>(by cases ha),fun w hw=>(by cases hw)⟩ (by rw [z0R,zg8,zgx,zfx]; omega) ?_
  unfold zgg;refine ⟨zp9,h,⟨by unfold zxF; trivial,by simp⟩,zp9,⟨by unfold zs9; trivial,by simp⟩,zp9,⟨zp9,zp9, ?_⟩⟩
  show (ByteArray.mk #[]).size≤roomLen;have hr:roomLen=140737488351232:=rfl;rw [hr]; decide
theorem zbfa {a:yC} {n:Nat} (hn:n≤1000) (h:zr 12 a∧zek a≤n) (hw:wf23 a):okA a:=⟨⟨h.1,by have:=zJE a; omega⟩,hw.1,hw.2⟩
theorem z2X {α:Type} {R:α→α→Prop} (ir:∀ x,¬ R x x) (asy:∀ x y,R x y→¬ R y x):∀ (a b:List α),a.Pairwise R→b.Pairwise R→(∀ x,x∈a↔x∈b)→a=b
 | [],[],_,_,_=>rfl
 | [],y::b,_,_,h=>by have:=(h y).2 (by simp); cases this
 | x::a,[],_,_,h=>by have:=(h x).1 (by simp); cases this
 | x::a,y::b,ha,hb,h=>by
  have ca:=qi.1 ha;have cb:=qi.1 hb
  have e:x=y:=by
   rcases qd.1 ((h x).1 (by simp)) with e | hx
   ·exact e
   ·rcases qd.1 ((h y).2 (by simp)) with e | hy
    ·exact e.symm
    ·exact absurd (cb.1 x hx) (asy _ _ (ca.1 y hy))
  subst e;rw [z2X ir asy a b ca.2 cb.2 fun z=>⟨fun hz=> ?_,fun hz=> ?_⟩]
  ·rcases qd.1 ((h z).1 (by simp [hz])) with rfl | h1
   ·exact absurd (ca.1 z hz) (ir z)
   ·exact h1
  ·rcases qd.1 ((h z).2 (by simp [hz])) with rfl | h1
   ·exact absurd (cb.1 z hz) (ir z)
   ·exact h1
def exA (x:Atom):yD→Int
 | []=>0
 | f::r=>(if f.Atom=x then f.Exp else 0)+exA x r
theorem zCk (x:Atom) (f:Factor) (r:yD):exA x (f::r)=(if f.Atom=x then f.Exp else 0)+exA x r:=rfl
def MF (l:yD):Prop:=Srf l∧∀ f∈l,eOK f∧1≤f.Exp
theorem MF.tail {f:Factor} {l:yD} (h:MF (f::l)):MF l:=⟨(qi.1 h.1).2,fun g hg=>h.2 g (by simp [hg])⟩
theorem MF.nil:MF []:=⟨List.Pairwise.nil,fun f hf=>by cases hf⟩
theorem zZU {x:Atom}:∀ {l:yD},(∀ f∈l,f.Atom≠x)→exA x l=0
 | [],_=>rfl
 | f::r,h=>by rw [exA,if_neg (h f (by simp)),zZU fun g hg=>h g (by simp [hg])]; rfl
theorem cF_self' {x y:Factor} (h:x.Atom=y.Atom):cF x y=0:=by unfold cF; rw [h]; exact zGQ _
theorem MF.ne {f:Factor} {l:yD} (h:MF (f::l)):∀ g∈l,g.Atom≠f.Atom:=fun g hg e=>by
 have:=(qi.1 h.1).1 g hg;rw [cF_self' e.symm] at this; omega
theorem zC6 {f:Factor}:∀ {l:yD},MF l→f∈l→exA f.Atom l=f.Exp
 | [],_,h=>by cases h
 | g::r,h,hf=>by
  rw [exA];rcases qd.1 hf with rfl | hf
  ·rw [if_pos rfl,zZU h.ne]; omega
  ·rw [if_neg (fun e=>h.ne f hf e.symm),zC6 h.tail hf]; omega
theorem zvZ {x:Atom}:∀ {l:yD},MF l→(0≤exA x l∧(exA x l≠0→∃ f∈l,f.Atom=x))
 | [],_=>⟨Int.le_refl _,fun h=>absurd rfl h⟩
 | g::r,h=>by
  rw [exA];have:=zvZ (x:=x) h.tail;have:=(h.2 g (by simp)).2
  by_cases e:g.Atom=x
  ·rw [if_pos e];exact ⟨by omega,fun _=>⟨g,by simp,e⟩⟩
  ·rw [if_neg e];refine ⟨by omega,fun h1=> ?_⟩
   obtain ⟨f,hf,e⟩:=(zvZ (x:=x) h.tail).2 (by omega)
   exact ⟨f,by simp [hf],e⟩
theorem zGe {x:Atom} {l:yD} (h:MF l) (hx:x.Kind=3∨x.Kind=4):exA x l=0∨exA x l=1:=by
 by_cases h0:exA x l=0
 ·exact .inl h0
 ·obtain ⟨f,hf,rfl⟩:=(zvZ h).2 h0;rw [zC6 h hf];exact .inr ((h.2 f hf).1.2 hx)
theorem zbbP {x y:Factor} (h1:x.Atom=y.Atom) (h2:x.Exp=y.Exp):x=y:=by cases x; cases y; simp_all
theorem zbci {a b:yD} (ha:MF a) (hb:MF b) (h:∀ x,exA x a=exA x b):a=b:=by
 refine z2X (R:=fun x y=>cF x y<0) (fun x=>by rw [cF_self' rfl]; omega) (fun x y h=>by rw [z4c x y]; omega) a b ha.1 hb.1 fun f=> ?_
 have key:∀ {a b:yD},MF a→MF b→(∀ x,exA x a=exA x b)→f∈a→f∈b:=fun {a b} ha hb h hf=>by
  have e:=h f.Atom;rw [zC6 ha hf] at e;have h1:=(ha.2 f hf).2;obtain ⟨g,hg,e2⟩:=(zvZ (x:=f.Atom) hb).2 (by omega)
  rw [← e2,zC6 hb hg] at e;rw [zbbP e2.symm e]; exact hg
 exact ⟨key ha hb h,key hb ha fun x=>(h x).symm⟩
def cbE (x:Atom) (m n:Int):Int:=if x.Kind=3∨x.Kind=4 then (if m=0 then n else m) else m+n
theorem zbcr {a b:yD}:Srf a→Srf b→Srf (zbd a b):=by
 induction a,b using zbd.induct with
 | case1 b=>intro _ hb; rw [zbd]; exact hb
 | case2 x a=>intro ha _; rw [zbd]; exact ha
 | case3 x a y b h ih=>
  intro ha hb;have ca:=qi.1 ha;rw [zbd,if_pos h];refine qi.2 ⟨fun z hz=> ?_,ih ca.2 hb⟩
  obtain ⟨w,hw,e⟩:=zuH hz;have:cF x z=cF x w:=by unfold cF; rw [e]
  rw [this];rcases hw with hw | hw
  ·exact ca.1 w hw
  ·rcases qd.1 hw with rfl | hw
   ·exact h
   ·exact zAo h ((qi.1 hb).1 w hw)
 | case4 x a y b h h2 ih=>
  intro ha hb;have cb:=qi.1 hb;rw [zbd,if_neg h,if_pos h2];have h3:cF y x<0:=by rw [z4c x y]; omega
  refine qi.2 ⟨fun z hz=> ?_,ih ha cb.2⟩
  obtain ⟨w,hw,e⟩:=zuH hz;have:cF y z=cF y w:=by unfold cF; rw [e]
  rw [this];rcases hw with hw | hw
  ·rcases qd.1 hw with rfl | hw
   ·exact h3
   ·exact zAo h3 ((qi.1 ha).1 w hw)
  ·exact cb.1 w hw
 | case5 x a y b h h2 ih=>
  intro ha hb;have ca:=qi.1 ha;have cb:=qi.1 hb;have h0:x.Atom=y.Atom:=z2R (by omega)
  rw [zbd,if_neg h,if_neg h2];have hA:(if x.Atom.Kind=3∨x.Atom.Kind=4 then x else ⟨x.Atom,x.Exp+y.Exp⟩:Factor).Atom=x.Atom:=by split <;>rfl
  refine qi.2 ⟨fun z hz=> ?_,ih ca.2 cb.2⟩
  obtain ⟨w,hw,e⟩:=zuH hz;have:cF (if x.Atom.Kind=3∨x.Atom.Kind=4 then x else ⟨x.Atom,x.Exp+y.Exp⟩:Factor) z=cF x w:=by unfold cF; rw [e,hA]
  rw [this];rcases hw with hw | hw
  ·exact ca.1 w hw
  ·have:cF x w=cF y w:=by unfold cF; rw [h0]
   rw [this]; exact cb.1 w hw
theorem zbc3 {a b:yD}:(∀ f∈a,eOK f∧1≤f.Exp)→(∀ f∈b,eOK f∧1≤f.Exp)→∀ f∈zbd a b,eOK f∧1≤f.Exp:=by
 induction a,b using zbd.induct with
 | case1 b=>intro _ hb; rw [zbd]; exact hb
 | case2 x a=>intro ha _; rw [zbd]; exact ha
 | case3 x a y b h ih=>
  intro ha hb f hf;rw [zbd,if_pos h] at hf;rcases qd.1 hf with rfl | hf
  ·exact ha _ (by simp)
  ·exact ih (fun g hg=>ha g (by simp [hg])) hb f hf
 | case4 x a y b h h2 ih=>
  intro ha hb f hf;rw [zbd,if_neg h,if_pos h2] at hf;rcases qd.1 hf with rfl | hf
  ·exact hb _ (by simp)
  ·exact ih ha (fun g hg=>hb g (by simp [hg])) f hf
 | case5 x a y b h h2 ih=>
  intro ha hb f hf;rw [zbd,if_neg h,if_neg h2] at hf;rcases qd.1 hf with rfl | hf
  ·have h1:=ha x (by simp)
   have h2:=hb y (by simp)
   split
   ·exact h1
   ·rename_i hk;exact ⟨⟨h1.1.1,fun h=>absurd h hk⟩,by show 1≤x.Exp+y.Exp; omega⟩
  ·exact ih (fun g hg=>ha g (by simp [hg])) (fun g hg=>hb g (by simp [hg])) f hf
theorem zp2 {a b:yD} (ha:MF a) (hb:MF b):MF (zbd a b):=⟨zbcr ha.1 hb.1,zbc3 ha.2 hb.2⟩
theorem zbak (x:Atom) (n:Int):cbE x 0 n=n:=by unfold cbE; split <;>simp
theorem cbE_0' (x:Atom) (n:Int):cbE x n 0=n:=by unfold cbE; split <;>simp; omega
theorem zQE {x:Factor} {l:yD} (h:∀ z∈l,cF x z<0):exA x.Atom l=0:=zZU fun f hf e=>by
 have:=h f hf; rw [cF_self' e.symm] at this; omega
theorem zAy (x:Atom) {a b:yD}:MF a→MF b→exA x (zbd a b)=cbE x (exA x a) (exA x b):=by
 induction a,b using zbd.induct with
 | case1 b=>intro _ hb; rw [zbd,exA,zbak]
 | case2 y a=>intro ha _; rw [zbd,show exA x []=0 from rfl,cbE_0']
 | case3 u a y b h ih=>
  intro ha hb;rw [zbd,if_pos h,zCk,zCk x u a,ih ha.tail hb];by_cases e:u.Atom=x
  ·subst e;have h1:exA u.Atom a=0:=zQE (qi.1 ha.1).1
   have h2:exA u.Atom (y::b)=0:=zQE fun z hz=>by
    rcases qd.1 hz with rfl | hz
    ·exact h
    ·exact zAo h ((qi.1 hb.1).1 z hz)
   rw [h1,h2,cbE_0',cbE_0']
  ·rw [if_neg e,Int.zero_add,Int.zero_add]
 | case4 u a y b h h2 ih=>
  intro ha hb;have h3:cF y u<0:=by rw [z4c u y]; omega
  rw [zbd,if_neg h,if_pos h2,zCk,zCk x y b,ih ha hb.tail];by_cases e:y.Atom=x
  ·subst e;have h1:exA y.Atom b=0:=zQE (qi.1 hb.1).1
   have h2:exA y.Atom (u::a)=0:=zQE fun z hz=>by
    rcases qd.1 hz with rfl | hz
    ·exact h3
    ·exact zAo h3 ((qi.1 ha.1).1 z hz)
   rw [h1,h2,zbak,zbak]
  ·rw [if_neg e,Int.zero_add,Int.zero_add]
 | case5 u a y b h h2 ih=>
  intro ha hb;have h0:u.Atom=y.Atom:=z2R (by omega)
  rw [zbd,if_neg h,if_neg h2,zCk,zCk x u a,zCk x y b,ih ha.tail hb.tail];have h1:=ha.2 u (by simp)
  by_cases e:u.Atom=x
  ·subst e;have z1:exA u.Atom a=0:=zQE (qi.1 ha.1).1;have z2:exA u.Atom b=0:=by rw [h0]; exact zQE (qi.1 hb.1).1
   rw [z1,z2,if_pos rfl,if_pos h0.symm];by_cases hk:u.Atom.Kind=3∨u.Atom.Kind=4
   ·have n0:¬ u.Exp+0=0:=by omega
    simp only [cbE,if_pos hk,if_neg n0,if_true]
   ·simp only [cbE,if_neg hk,if_true];omega
  ·have e':¬ y.Atom=x:=fun h=>e (h0.trans h)
   have hA:(if u.Atom.Kind=3∨u.Atom.Kind=4 then u else ⟨u.Atom,u.Exp+y.Exp⟩:Factor).Atom=u.Atom:=by split <;>rfl
   simp only [hA,e,e',if_false,Int.zero_add]
theorem zbb0 {a b:yD} (ha:MF a) (hb:MF b):zbd a b=zbd b a:=zbci (zp2 ha hb) (zp2 hb ha) fun x=>by
 rw [zAy x ha hb,zAy x hb ha];unfold cbE;split
 ·rename_i hk;rcases zGe ha hk with e | e <;>rcases zGe hb hk with e' | e' <;>simp [e,e']
 ·omega
theorem z91 {a b c:yD} (ha:MF a) (hb:MF b) (hc:MF c):zbd (zbd a b) c=zbd a (zbd b c):=zbci (zp2 (zp2 ha hb) hc) (zp2 ha (zp2 hb hc)) fun x=>by
 rw [zAy x (zp2 ha hb) hc,zAy x ha hb,zAy x ha (zp2 hb hc),zAy x hb hc];unfold cbE;split
 ·by_cases h:exA x a=0 <;>simp [h]
 ·omega
def EqS (n m:Nat):Prop:=n=m∨(1152921504606846976≤n∧1152921504606846976≤m)
theorem EqS.refl (n:Nat):EqS n n:=.inl rfl
theorem EqS.symm {n m:Nat} (h:EqS n m):EqS m n:=by unfold EqS at *; omega
theorem EqS.trans {n m k:Nat} (h:EqS n m) (h':EqS m k):EqS n k:=by unfold EqS at *; omega
theorem EqS.add {n m n' m':Nat} (h:EqS n n') (h':EqS m m'):EqS (n+m) (n'+m'):=by unfold EqS at *; omega
theorem EqS.mul1 {n n':Nat} (k:Nat) (h:EqS n n'):EqS (n*k) (n'*k):=by
 rcases h with rfl | ⟨h1,h2⟩
 ·exact .refl _
 ·rcases Nat.eq_zero_or_pos k with rfl | hk
  ·exact .inl (by simp)
  ·exact .inr ⟨Nat.le_trans h1 (Nat.le_mul_of_pos_right n hk),Nat.le_trans h2 (Nat.le_mul_of_pos_right n' hk)⟩
theorem EqS.mul {n m n' m':Nat} (h:EqS n n') (h':EqS m m'):EqS (n*m) (n'*m'):=by
 refine (h.mul1 m).trans ?_;rw [Nat.mul_comm n' m,Nat.mul_comm n' m'];exact h'.mul1 n'
def evA (φ:yD→Nat):yC→Nat
 | []=>0
 | t::r=>t.Coeff.toNat *φ t.Factors+evA φ r
theorem z2E (φ:yD→Nat):∀ a b:yC,evA φ (a++b)=evA φ a+evA φ b
 | [],b=>by simp [evA]
 | t::r,b=>by rw [List.cons_append,evA,evA,z2E φ r b]; omega
theorem zbcM {a b:Int} (ha:1≤a) (hb:1≤b):EqS (zts a b).toNat (a.toNat +b.toNat):=by
 unfold zts EqS;split <;>omega
theorem zbcd (φ:yD→Nat) {t:Term} (ht:cOK t):∀ {l:yC},(∀ x∈l,cOK x)→EqS (evA φ (putA t l)) (t.Coeff.toNat *φ t.Factors+evA φ l)
 | [],_=>.inl rfl
 | x::r,h=>by
  unfold putA;by_cases h1:cT x t<0
  ·rw [if_pos h1,evA,evA];refine ((EqS.refl _).add (zbcd φ ht fun y hy=>h y (by simp [hy]))).trans (.inl ?_)
   omega
  ·rw [if_neg h1];by_cases h2:cT x t=0
   ·rw [if_pos h2,evA,evA,zQm h2];show EqS ((zts x.Coeff t.Coeff).toNat *φ t.Factors+evA φ r) (t.Coeff.toNat *φ t.Factors+(x.Coeff.toNat *φ t.Factors+evA φ r));refine ((zbcM (h x (by simp)).1 ht.1).mul1 _ |>.add (.refl _)).trans (.inl ?_)
    rw [Nat.add_mul]; omega
   ·rw [if_neg h2]; exact .refl _
theorem zbbJ (φ:yD→Nat):∀ (b:yC) {a:yC},(∀ x∈a,cOK x)→(∀ x∈b,cOK x)→EqS (evA φ (sumA a b)) (evA φ a+evA φ b)
 | [],a,_,_=>.inl rfl
 | t::r,a,ha,hb=>by
  refine (zbbJ φ r (z6d (hb t (by simp)) ha) fun x hx=>hb x (by simp [hx])).trans ?_
  rw [evA];refine ((zbcd φ (hb t (by simp)) ha).add (.refl _)).trans (.inl ?_)
  omega
theorem zWa {φ ψ:yD→Nat}:∀ {a:yC},(∀ t∈a,EqS (φ t.Factors) (ψ t.Factors))→EqS (evA φ a) (evA ψ a)
 | [],_=>.refl _
 | t::r,h=>by
  rw [evA,evA];exact ((EqS.refl _).mul (h t (by simp))).add (zWa fun x hx=>h x (by simp [hx]))
theorem zVI {φ ψ:yD→Nat}:∀ {a:yC},(∀ t∈a,φ t.Factors=ψ t.Factors)→evA φ a=evA ψ a
 | [],_=>rfl
 | t::r,h=>by rw [evA,evA,h t (by simp),zVI fun x hx=>h x (by simp [hx])]
theorem z87 (φ ψ:yD→Nat):∀ a:yC,evA (fun m=>φ m+ψ m) a=evA φ a+evA ψ a
 | []=>rfl
 | t::r=>by rw [evA,evA,evA,z87 φ ψ r,Nat.mul_add]; omega
theorem z9h (φ:yD→Nat) (k:Nat):∀ a:yC,evA (fun m=>k*φ m) a=k*evA φ a
 | []=>rfl
 | t::r=>by rw [evA,evA,z9h φ k r,Nat.mul_add,Nat.mul_left_comm]
theorem z7F (G:yD→yD→Nat):∀ a b:yC,evA (fun m=>evA (fun n=>G m n) b) a=evA (fun n=>evA (fun m=>G m n) a) b
 | [],b=>by
  rw [evA];induction b with
  | nil=>rfl
  | cons t r ih=>rw [evA, ← ih,evA]; omega
 | t::r,b=>by
  rw [evA,z7F G r b, ← z9h, ← z87];refine zVI fun s _=> ?_
  rw [evA]
def prW (φ:yD→Nat) (b:yC) (m:yD):Nat:=evA (fun n=>φ (zbd m n)) b
theorem zbbo {a b:Int} (ha:1≤a∧a≤1152921504606846976) (hb:1≤b∧b≤1152921504606846976):EqS (zvu a b).toNat (a.toNat *b.toNat):=by
 have e:((a.toNat *b.toNat:Nat):Int)=a*b:=by rw [Int.natCast_mul,Int.toNat_of_nonneg (by omega),Int.toNat_of_nonneg (by omega)]
 have h:=zJo ha hb;unfold zvu at *;split
 ·rename_i hlt
  right
  refine ⟨by omega, ?_⟩
  have:1152921504606846976≤a*b:=by
   rw [Int.tdiv_eq_ediv_of_nonneg (by omega)] at hlt
   by_cases hc:1152921504606846976≤a*b
   ·exact hc
   ·have:=(Int.le_ediv_iff_mul_le (c:=b) (a:=a) (b:=1152921504606846976) (by omega)).2 (by omega)
    omega
  omega
 ·left
  omega
theorem zbds (φ:yD→Nat) {a b:yC} (ha:∀ x∈a,cOK x) (hb:∀ x∈b,cOK x):EqS (evA φ (zd5 a b)) (evA (prW φ b) a):=by
 induction a with
 | nil=>exact .refl _
 | cons x a ih=>
  have hx:=ha x (by simp)
  show EqS (evA φ (b.map (zjg x)++zd5 a b)) _;rw [z2E,evA];refine EqS.add ?_ (ih fun y hy=>ha y (by simp [hy]))
  unfold prW;clear ih;induction b with
  | nil=>exact .inl (by simp [evA])
  | cons y b ih=>
   rw [List.map_cons,evA,evA,Nat.mul_add, ← Nat.mul_assoc];exact ((zbbo hx (hb y (by simp))).mul1 _).add (ih fun z hz=>hb z (by simp [hz]))
theorem z9H {a b:yC} (ha:∀ x∈a,cOK x) (hb:∀ x∈b,cOK x):∀ t∈zd5 a b,cOK t:=fun t ht=>by
 obtain ⟨x,hx,y,hy,rfl⟩:=zCT ht;exact (zJo (ha x hx) (hb y hy)).1
theorem zba8 {a b:yC} (ha:∀ x∈a,cOK x) (hb:∀ x∈b,cOK x):∀ t∈zcd a b,cOK t:=z59 _ (fun _ h=>by cases h) (z9H ha hb)
theorem z6B (a b:yC):Srs (zcd a b):=zKi _ _ List.Pairwise.nil
theorem zKn (φ:yD→Nat) {a b:yC} (ha:∀ x∈a,cOK x) (hb:∀ x∈b,cOK x):EqS (evA φ (zcd a b)) (evA (prW φ b) a):=by
 refine (zbbJ φ (zd5 a b) (fun _ h=>by cases h) (z9H ha hb)).trans ?_
 rw [evA,Nat.zero_add];exact zbds φ ha hb
def indA (m n:yD):Nat:=if n=m then 1 else 0
theorem z7Q {m:yD}:∀ {l:yC},(∀ t∈l,t.Factors≠m)→evA (indA m) l=0
 | [],_=>rfl
 | t::r,h=>by rw [evA,z7Q fun x hx=>h x (by simp [hx]),indA,if_neg (h t (by simp)),Nat.mul_zero]
theorem z3m {t:Term}:∀ {l:yC},Srs l→t∈l→evA (indA t.Factors) l=t.Coeff.toNat
 | [],_,h=>by cases h
 | x::r,hs,h=>by
  have hc:=qi.1 hs;rw [evA];rcases qd.1 h with rfl | h
  ·rw [z7Q fun y hy e=>by
    have:=hc.1 y hy;rw [zvG e.symm] at this; omega]
   simp [indA]
  ·rw [z3m hc.2 h,indA,if_neg fun e=>by
    have:=hc.1 t h;rw [zvG e] at this; omega]
   omega
theorem z9y {m:yD}:∀ {l:yC},evA (indA m) l≠0→∃ t∈l,t.Factors=m
 | [],h=>absurd rfl h
 | x::r,h=>by
  by_cases e:x.Factors=m
  ·exact ⟨x,by simp,e⟩
  ·rw [evA,indA,if_neg e,Nat.mul_zero,Nat.zero_add] at h;obtain ⟨t,ht,e⟩:=z9y (l:=r) h;exact ⟨t,by simp [ht],e⟩
theorem z9e {a b:yC} (ha:Srs a) (hb:Srs b) (ca:∀ t∈a,cOK t) (cb:∀ t∈b,cOK t) (h:∀ φ,EqS (evA φ a) (evA φ b)):a=b:=by
 refine z2X (R:=fun x y=>cT x y<0) (fun x=>by rw [zvG rfl]; omega) (fun x y h=>by rw [zC7 x y]; omega) a b ha hb fun t=> ?_
 have key:∀ {a b:yC},Srs a→Srs b→(∀ t∈a,cOK t)→(∀ t∈b,cOK t)→(∀ φ,EqS (evA φ a) (evA φ b))→t∈a→t∈b:=fun {a b} ha hb ca cb h ht=>by
  have e:=h (indA t.Factors);rw [z3m ha ht] at e;have c1:=ca t ht;unfold cOK at c1;have hne:evA (indA t.Factors) b≠0:=by unfold EqS at e; omega
  obtain ⟨s,hs,e2⟩:=z9y hne;rw [← e2,z3m hb hs] at e;have c2:=cb s hs;unfold cOK at c2;have:t=s:=z3q (by unfold EqS at e; omega) e2.symm
  rw [this]; exact hs
 exact ⟨key ha hb ca cb h,key hb ha cb ca fun φ=>(h φ).symm⟩
def PA (a:yC):Prop:=Srs a∧∀ t∈a,cOK t∧MF t.Factors
theorem PA.c {a:yC} (h:PA a):∀ t∈a,cOK t:=fun t ht=>(h.2 t ht).1
theorem z2g {a b:yC} (ha:PA a) (hb:PA b):PA (sumA a b):=⟨zKi _ _ ha.1,fun t ht=>⟨z59 b ha.c hb.c t ht,by
 obtain ⟨x,hx,e⟩:=zDb b a ha.1 ht;rw [e];rcases hx with hx | hx
 ·exact (ha.2 x hx).2
 ·exact (hb.2 x hx).2⟩⟩
theorem zmT {a b:yC} (ha:PA a) (hb:PA b):PA (zcd a b):=⟨z6B _ _,fun t ht=>⟨zba8 ha.c hb.c t ht,by
 obtain ⟨x,hx,e⟩:=zDb (zd5 a b) [] List.Pairwise.nil ht;rw [e];rcases hx with hx | hx
 ·cases hx
 ·obtain ⟨u,hu,v,hv,rfl⟩:=zCT hx;exact zp2 (ha.2 u hu).2 (hb.2 v hv).2⟩⟩
theorem PA.nil:PA []:=⟨List.Pairwise.nil,fun t ht=>by cases ht⟩
theorem z4p {a b:yC} (ha:PA a) (hb:PA b):zcd a b=zcd b a:=by
 refine z9e (zmT ha hb).1 (zmT hb ha).1 (zmT ha hb).c (zmT hb ha).c fun φ=> ?_
 refine (zKn φ ha.c hb.c).trans (.trans (.inl ?_) (zKn φ hb.c ha.c).symm);unfold prW;rw [z7F];exact zVI fun n hn=>zVI fun m hm=>by rw [zbb0 (ha.2 m hm).2 (hb.2 n hn).2]
theorem zD5 {a b c:yC} (ha:PA a) (hb:PA b) (hc:PA c):zcd (zcd a b) c=zcd a (zcd b c):=by
 have pab:=zmT ha hb;have pbc:=zmT hb hc;refine z9e (zmT pab hc).1 (zmT ha pbc).1 (zmT pab hc).c (zmT ha pbc).c fun φ=> ?_
 refine (zKn φ pab.c hc.c).trans ((zKn _ ha.c hb.c).trans (.trans ?_ (zKn φ ha.c pbc.c).symm));refine zWa fun m hm=> ?_
 refine .trans ?_ (zKn (fun p=>φ (zbd m.Factors p)) hb.c hc.c).symm
 refine zWa fun n hn=>.inl ?_
 exact zVI fun q hq=>by rw [z91 (ha.2 m hm).2 (hb.2 n hn).2 (hc.2 q hq).2]
theorem z1X {c:Int} (h:c≤1152921504606846976):zvu c 1=c:=by
 unfold zvu;rw [if_neg (by rw [Int.tdiv_one]; omega)]; omega
theorem zbbb {a:yC} (ha:∀ t∈a,cOK t):zd5 a [⟨1,[]⟩]=a:=by
 induction a with
 | nil=>rfl
 | cons x a ih=>
  show zjg x ⟨1,[]⟩::zd5 a [⟨1,[]⟩]=_;rw [ih fun t ht=>ha t (by simp [ht])]
  congr 1;unfold zjg;rw [z1X (ha x (by simp)).2,zHi]
theorem z0l {a:yC} (ha:PA a):zcd a [⟨1,[]⟩]=a:=by
 unfold zcd;rw [zbbb ha.c,sum_nil ha.1]
theorem zPz:PA [⟨1,[]⟩]:=⟨by simp,fun t ht=>by
 rw [qh] at ht; subst ht;exact ⟨⟨by decide,by decide⟩,MF.nil⟩⟩
theorem zbcP {a:yC} (ha:PA a):zcd [⟨1,[]⟩] a=a:=by rw [z4p zPz ha,z0l ha]
theorem zKF {τ:Type} [Inhabited τ] {R:τ→τ→Prop}:∀ {l:List τ},l.Pairwise R→∀ k,0<k→k<l.length→R (l.getD (k - 1) default) (l.getD k default)
 | [],_,k,_,h=>by simp at h
 | x::r,h,0,h0,_=>by omega
 | x::r,h,1,_,h1=>(qi.1 h).1 _ (zt (by simpa using h1))
 | x::r,h,k+2,_,h1=>zKF (qi.1 h).2 (k+1) (by omega) (by simp only [qf] at h1; omega)
def OKF (vat:Atom→Bool) (fs:yD):Prop:=Srf fs∧∀ f∈fs,(1≤f.Exp∧(f.Atom.Kind=3∨f.Atom.Kind=4→f.Exp=1))∧vat f.Atom=true
theorem z9P {vat:Atom→Bool} {fs:yD}:okF vat fs=true↔OKF vat fs:=by
 constructor
 ·intro h;refine ⟨zvl (R:=fun x y=>cF x y<0) (fun x y z h1 h2=>zAo h1 h2) _ fun k hk hl=> ?_,fun f hf=>zpe h hf⟩
  have:=zen.1 h k (by omega) (by omega)
  simp only [chkF,qc,Bool.or_eq_true,qe] at this;rcases this.1.2 with e | e
  ·omega
  ·exact e
 ·intro h;refine zen.2 fun k _ hk=> ?_
  have hm:=h.2 _ (zt (l:=fs) (i:=k) (by omega))
  simp only [chkF,qc,Bool.or_eq_true,qe,Bool.not_eq_true',Bool.and_eq_false_iff];refine ⟨⟨⟨hm.1.1, ?_⟩, ?_⟩,hm.2⟩
  ·by_cases hk:(fs.getD k default).Atom.Kind=3∨(fs.getD k default).Atom.Kind=4
   ·right; rw [hm.1.2 hk]; rfl
   ·left
    rw [Bool.or_eq_false_iff];constructor
    ·simpa using fun e=>hk (.inl e)
    ·simpa using fun e=>hk (.inr e)
  ·by_cases h0:k=0
   ·exact .inl h0
   ·exact .inr (zKF h.1 k (by omega) (by omega))
theorem zGc {vat:Atom→Bool} {a:yC}:vAnn vat a=true↔zeQ a=true∧Srs a∧∀ t∈a,cOK t∧OKF vat t.Factors:=by
 constructor
 ·intro h;have hall:=h;simp only [vAnn,qc] at hall;refine ⟨hall.1,zvl (R:=fun x y=>cT x y<0) (fun x y z h1 h2=>zFZ h1 h2) a fun k hk hl=> ?_,fun t ht=>⟨(zwv h ht).1,z9P.1 (zwv h ht).2⟩⟩
  have:=zen.1 hall.2 k (by omega) (by omega)
  simp only [chkT,qc,Bool.or_eq_true,qe] at this;rcases this.1.2 with e | e
  ·omega
  ·exact e
 ·rintro ⟨h1,h2,h3⟩
  simp only [vAnn,qc];refine ⟨h1,zen.2 fun k _ hk=> ?_⟩
  have hm:=h3 _ (zt (l:=a) (i:=k) (by omega))
  simp only [chkT,qc,Bool.or_eq_true,qe];refine ⟨⟨⟨hm.1.1,hm.1.2⟩, ?_⟩,z9P.2 hm.2⟩;by_cases h0:k=0
  ·exact .inl h0
  ·exact .inr (zKF h2 k (by omega) (by omega))
def QA (a:yC):Prop:=Srs a∧∀ t∈a,cOK t∧OKF vatA t.Factors
theorem zlV {a:yC}:zG a=true↔zeQ a=true∧QA a:=by rw [z19]; exact zGc
theorem OKF.mf {fs:yD} (h:OKF vatA fs):MF fs:=⟨h.1,fun f hf=>⟨⟨zAH (h.2 f hf).2,(h.2 f hf).1.2⟩,(h.2 f hf).1.1⟩⟩
theorem QA.pa {a:yC} (h:QA a):PA a:=⟨h.1,fun t ht=>⟨(h.2 t ht).1,(h.2 t ht).2.mf⟩⟩
theorem zzz {a:yC} (h:zG a=true):QA a:=(zlV.1 h).2
theorem zF1 {a:yC} (h:zG a=true):PA a:=(zzz h).pa
theorem zbaI {a:yC} (h:zG a=true):zeQ a=true:=(zlV.1 h).1
theorem MF.okf {fs:yD} (h:MF fs) (hv:∀ f∈fs,vatA f.Atom=true):OKF vatA fs:=⟨h.1,fun f hf=>⟨⟨(h.2 f hf).2,(h.2 f hf).1.2⟩,hv f hf⟩⟩
theorem OKF.join {a b:yD} (ha:OKF vatA a) (hb:OKF vatA b):OKF vatA (zbd a b):=(zp2 ha.mf hb.mf).okf fun f hf=>by
 obtain ⟨y,hy,e⟩:=zuH hf;rw [e];rcases hy with hy | hy
 ·exact (ha.2 y hy).2
 ·exact (hb.2 y hy).2
theorem zbfi {a b:yC} (ha:QA a) (hb:QA b):QA (sumA a b):=⟨zKi _ _ ha.1,fun t ht=>⟨z59 b ha.pa.c hb.pa.c t ht,by
 obtain ⟨x,hx,e⟩:=zDb b a ha.1 ht;rw [e];rcases hx with hx | hx
 ·exact (ha.2 x hx).2
 ·exact (hb.2 x hx).2⟩⟩
theorem zbeP {a b:yC} (ha:QA a) (hb:QA b):QA (zcd a b):=⟨z6B _ _,fun t ht=>⟨zba8 ha.pa.c hb.pa.c t ht,by
 obtain ⟨x,hx,e⟩:=zDb (zd5 a b) [] List.Pairwise.nil ht;rw [e];rcases hx with hx | hx
 ·cases hx
 ·obtain ⟨u,hu,v,hv,rfl⟩:=zCT hx;exact (ha.2 u hu).2.join (hb.2 v hv).2⟩⟩
theorem QA.nil:QA []:=⟨List.Pairwise.nil,fun t ht=>by cases ht⟩
theorem zbd2 {x:Atom} (h:vatA x=true):QA (oneA x):=⟨by simp [oneA],fun t ht=>by
 simp only [oneA,qh] at ht; subst ht;refine ⟨⟨by simp,by simp⟩,by simp,fun f hf=> ?_⟩
 rw [qh] at hf; subst hf;exact ⟨⟨by simp,fun _=>rfl⟩,h⟩⟩
theorem zQJ {a:yC} (h:(fitR a).2=0):zeQ a=true∧fitR a=(a,0):=by
 unfold fitR at *;cases hw:zeQ a with
 | true=>exact ⟨rfl,rfl⟩
 | false=>rw [hw] at h; simp at h
theorem zXu {ok:Bool} {r:yC×Int} (h:(opR ok r).2=0):ok=true∧opR ok r=r:=by
 cases ok with
 | true=>exact ⟨rfl,rfl⟩
 | false=>simp [opR] at h
theorem zba6 {a b:yC} (h:(addR a b).2=0):(zG a=true∧zG b=true∧zG (sumA a b)=true)∧addR a b=(sumA a b,0):=by
 obtain ⟨h1,h2⟩:=zXu h;rw [qc] at h1;unfold addR at h;rw [h2] at h;obtain ⟨h3,h4⟩:=zQJ h;exact ⟨⟨h1.1,h1.2,zlV.2 ⟨h3,zbfi (zzz h1.1) (zzz h1.2)⟩⟩,h2.trans h4⟩
theorem zbfC {a b:yC} (h:(mulR a b).2=0):(zG a=true∧zG b=true∧zG (zcd a b)=true)∧mulR a b=(zcd a b,0):=by
 obtain ⟨h1,h2⟩:=zXu h;rw [qc] at h1;unfold mulR at h;rw [h2] at h;obtain ⟨h3,h4⟩:=zQJ h;exact ⟨⟨h1.1,h1.2,zlV.2 ⟨h3,zbeP (zzz h1.1) (zzz h1.2)⟩⟩,h2.trans h4⟩
theorem zKm {a:yC} (h:zeQ a=true):fitR a=(a,0):=by unfold fitR; rw [h]; rfl
theorem zbeg {a b:yC} (ha:zG a=true) (hb:zG b=true) (h:zeQ (sumA a b)=true):addR a b=(sumA a b,0):=by
 unfold addR; rw [ha,hb,zKm h]; rfl
theorem z9t {a b:yC} (ha:zG a=true) (hb:zG b=true) (h:zeQ (zcd a b)=true):mulR a b=(zcd a b,0):=by
 unfold mulR; rw [ha,hb,zKm h]; rfl
theorem z5c:zG []=true:=zlV.2 ⟨by decide,QA.nil⟩
theorem zRr {x:Atom}:vatA x=true↔VA zG x:=zcL
theorem zbaw {x:Atom} (h:vatA x=true) (hw:zeQ (oneA x)=true):zG (oneA x)=true:=zlV.2 ⟨hw,zbd2 h⟩
def sbd {α β:Type} (x:Int⊕α) (k:α→Int⊕β):Int⊕β:=match x with
 | .inl e=>.inl e
 | .inr a=>k a
theorem zCQ {α β:Type} (e:Int) (k:α→Int⊕β):sbd (.inl e) k=.inl e:=rfl
theorem zb0 {α β:Type} (a:α) (k:α→Int⊕β):sbd (.inr a) k=k a:=rfl
def opS (r:yC×Int):Int⊕yC:=if r.2=0 then .inr r.1 else .inl r.2
def ofS:Int⊕yC→yC×Int
 | .inl e=>([],e)
 | .inr a=>(a,0)
theorem zCU {r:yC×Int} (h:r.2=0∨r.1=[]):ofS (opS r)=r:=by
 obtain ⟨a,e⟩:=r;simp only at h;unfold opS;by_cases he:e=0
 ·subst he; simp [ofS]
 ·rw [if_neg he];rcases h with h | h
  ·exact absurd h he
  ·subst h; rfl
theorem z6A {a:yC}:opS (a,0)=.inr a:=rfl
def powS (b:yC):Nat→yC→Int⊕yC
 | 0,p=>.inr p
 | n+1,p=>sbd (opS (mulR p b)) (powS b n)
mutual
def zdS (to:RowID→yC):Atom→Int⊕yC
 | ⟨k,r,a,f,i,o,b⟩=>if k=0 then .inr (to r) else
  sbd (ziE to a) fun xs=>if k=1 then opS (monR (xs.getD 0 default) (xs.getD 1 default)) else if k=2 then opS (delR (xs.getD 0 default)) else if k=3 then opS (absR (xs.getD 0 default)) else
   sbd (ze6 to i) fun is=>opS (ztM f is o b)
def zdj (to:RowID→yC):yD→yC→Int⊕yC
 | [],p=>.inr p
 | ⟨x,e⟩::r,p=>sbd (zdS to x) fun b=>sbd (powS b e.toNat p) fun q=>zdj to r q
def zbQ (to:RowID→yC):yC→yC→Int⊕yC
 | [],s=>.inr s
 | ⟨c,fs⟩::r,s=>sbd (zdj to fs (cstA c)) fun p=>sbd (opS (addR s p)) fun q=>zbQ to r q
def ziE (to:RowID→yC):yA→Int⊕yA
 | []=>.inr []
 | a::r=>sbd (zbQ to a []) fun b=>sbd (ziE to r) fun l=>.inr (b::l)
def ze6 (to:RowID→yC):yE→Int⊕yE
 | []=>.inr []
 | ⟨v,a⟩::r=>sbd (zbQ to a []) fun b=>sbd (ze6 to r) fun l=>.inr (⟨v,b⟩::l)
end
variable (to:RowID→yC)
theorem zB7 (p:yC):zdj to [] p=.inr p:=by rw [zdj]
theorem zAJ (f:Factor) (r:yD) (p:yC):zdj to (f::r) p=sbd (zdS to f.Atom) fun b=>sbd (powS b f.Exp.toNat p) fun q=>zdj to r q:=by cases f; rw [zdj]
theorem zNv (s:yC):zbQ to [] s=.inr s:=by rw [zbQ]
theorem zJH (t:Term) (r s:yC):zbQ to (t::r) s=sbd (zdj to t.Factors (cstA t.Coeff)) fun p=>sbd (opS (addR s p)) fun q=>zbQ to r q:=by cases t; rw [zbQ]
theorem zpT:ziE to []=.inr []:=by rw [ziE]
theorem zk3 (a:yC) (r:yA):ziE to (a::r)=sbd (zbQ to a []) fun b=>sbd (ziE to r) fun l=>.inr (b::l):=by rw [ziE]
theorem zBN:ze6 to []=.inr []:=by rw [ze6]
theorem zDT (w:Weighted) (r:yE):ze6 to (w::r)=sbd (zbQ to w.Ann []) fun b=>sbd (ze6 to r) fun l=>.inr (⟨w.Value,b⟩::l):=by cases w; rw [ze6]
theorem zNM (x:Atom):zdS to x=if x.Kind=0 then .inr (to x.Row) else
  sbd (ziE to x.Args) fun xs=>if x.Kind=1 then opS (monR (xs.getD 0 default) (xs.getD 1 default)) else if x.Kind=2 then opS (delR (xs.getD 0 default)) else if x.Kind=3 then opS (absR (xs.getD 0 default)) else
   sbd (ze6 to x.Items) fun is=>opS (ztM x.Func is x.Op x.Bound):=by cases x; rw [zdS]
def GE {α:Type} (P:α→Prop):Int⊕α→Prop
 | .inl e=>e≠0
 | .inr a=>P a
abbrev GS:Int⊕yC→Prop:=GE okA
theorem zM4 {r:yC×Int} (h:okR r):GS (opS r):=by
 unfold opS;by_cases he:r.2=0
 ·rw [if_pos he]; exact h.1
 ·rw [if_neg he]; exact he
theorem zNg {α β:Type} {P:α→Prop} {Q:β→Prop} {x:Int⊕α} {k:α→Int⊕β} (hx:GE P x) (hk:∀ a,P a→GE Q (k a)):GE Q (sbd x k):=by
 cases x with
 | inl e=>exact hx
 | inr a=>exact hk a hx
theorem z2G {b:yC} (hb:okA b):∀ (n:Nat) (p:yC),okA p→GS (powS b n p)
 | 0,p,hp=>hp
 | n+1,p,hp=>zNg (zM4 (z4e hp hb)) fun q hq=>z2G hb n q hq
abbrev GL (n:Nat):Int⊕yA→Prop:=GE fun l=>l.length=n∧∀ a∈l,okA a
abbrev GI (i:yE):Int⊕yE→Prop:=GE fun l=>l.length=i.length∧∀ w∈l,okA w.Ann∧∃ v∈i,v.Value=w.Value
theorem zbaA (w:Weighted):zHG w↔wf65 w.Value∧zgr w.Ann∧w.Ann.length≤roomLen:=by cases w; unfold zHG; exact Iff.rfl
theorem zbbt {k f o:Int} {r:RowID} {a:yA} {i:yE} {b:Value} (h1:wf3 k) (h2:wf49 r) (h3:zxF a∧a.length≤roomLen) (h4:wf3 f) (h5:zs9 i∧i.length≤roomLen) (h6:wf3 o) (h7:wf65 b):zgg ⟨k,r,a,f,i,o,b⟩:=by
 unfold zgg; exact ⟨h1,h2,h3,h4,h5,h6,h7⟩
theorem zVl {f o:Int} {l:yE} {b:Value} (hl:l.length≤1000000) (h:∀ w∈l,okA w.Ann∧wf65 w.Value) (hf:wf3 f) (ho:wf3 o) (hb:wf65 b):okR (ztM f l o b):=by
 unfold ztM;cases hk:fitK f l o b with
 | false=>exact ⟨zjs,.inr rfl⟩
 | true=>
  cases hv:l.all fun w=>zG w.Ann with
  | false=>exact ⟨zjs,.inr rfl⟩
  | true=>
   simp only [Bool.and_self,Bool.not_true,cond_false];cases decide (0<(zdX l).length) with
   | true=>
    obtain ⟨tf,ts⟩:=zKO hl hk hv;have hr:roomLen=140737488351232:=rfl;have hlen:(zdX l).length≤1000000:=by rw [z14]; exact Nat.le_trans (List.length_filter_le _ _) hl
    refine zKo ⟨⟨tf.mono (by omega),ts⟩,zGf _ fun t ht=> ?_,by simp [oneA,roomLen]⟩
    simp only [oneA,qh] at ht;subst ht;refine zVE ⟨by simp,by simp⟩ (fun g hg=> ?_) (by simp)
    simp only [qh] at hg;subst hg;refine ⟨zbbt (zUE (zWD (by omega))) ⟨zp9,zp9⟩ ⟨by unfold zxF; trivial,by simp⟩ hf ⟨zQ4 _ fun w hw=> ?_,by omega⟩ ho hb,⟨by simp,by simp⟩⟩
    have hm:=h w (zJI hw).1;exact (zbaA w).2 ⟨hm.2,hm.1.2⟩
   | false=>
    cases f==0&&mats o (cmpI 0 b.Int) with
    | true=>exact ⟨zXf 1 (by omega),.inl rfl⟩
    | false=>exact ⟨zjs,.inl rfl⟩
theorem zF9 {l:yA} (h:∀ a∈l,okA a) (i:Nat):okA (l.getD i default):=by
 by_cases hi:i<l.length
 ·exact h _ (zt hi)
 ·rw [List.getD_eq_getElem?_getD,List.getElem?_eq_none (by omega)]; exact zjs
def okT (to:RowID→yC):Prop:=∀ r,wf49 r→okA (to r)
variable {to}
mutual
theorem z4u (ht:okT to):∀ (x:Atom) (d:Nat),zgg x→zcU (zr d) x→GS (zdS to x)
 | ⟨k,r,a,f,i,o,b⟩=>fun d hw hi=>by
  have hw':=zpf hw;simp only at hw';obtain ⟨⟨ha,hal⟩,⟨hit,hil⟩,hb,hk,hr,hf,ho⟩:=hw';obtain ⟨⟨l1,l2,_⟩,f1,f2⟩:=hi;simp only at l1 l2 f1 f2;rw [zdS];by_cases hk0:k=0
  ·rw [if_pos hk0]; exact ht r hr
  ·rw [if_neg hk0];have hA:=zWS ht a d (fun x hx=>(zjX ha x hx).1) f1
   refine zNg hA fun xs has=> ?_
   have h0:=zF9 has.2 0;have h1:=zF9 has.2 1;split
   ·exact zM4 (z4l h0 h1)
   ·split
    ·exact zM4 (z3A h0)
    ·split
     ·exact zM4 (z3k h0)
     ·have hI:=zSi ht i d (fun x hx=>(zh5 hit x hx).2.1) fun w hw=>(f2 w hw).2
      refine zNg hI fun is his=> ?_
      refine zM4 (zVl (by omega) (fun w hw=>⟨(his.2 w hw).1, ?_⟩) hf ho hb)
      obtain ⟨v,hv,e⟩:=(his.2 w hw).2;rw [← e]; exact (zh5 hit v hv).1
theorem zLh (ht:okT to):∀ (l:yD) (d:Nat),(∀ f∈l,zgg f.Atom∧zcU (zr d) f.Atom)→∀ p,okA p→GS (zdj to l p)
 | [],_,_,p,hp=>by rw [zdj]; exact hp
 | ⟨x,e⟩::r,d,h,p,hp=>by
  rw [zdj];have hx:=z4u ht x d (h ⟨x,e⟩ (by simp)).1 (h ⟨x,e⟩ (by simp)).2
  refine zNg hx fun b hb=>zNg (z2G hb _ p hp) fun q hq=> ?_
  exact zLh ht r d (fun f hf=>h f (by simp [hf])) q hq
theorem zSj (ht:okT to):∀ (a:yC) (d:Nat),zgr a→(∀ t∈a,∀ f∈t.Factors,zcU (zr d) f.Atom)→∀ s,okA s→GS (zbQ to a s)
 | [],_,_,_,s,hs=>by rw [zbQ]; exact hs
 | ⟨c,fs⟩::r,d,hw,hi,s,hs=>by
  rw [zbQ];have hwt:=ztF hw ⟨c,fs⟩ (by simp)
  have hp:=zLh ht fs d (fun f hf=>⟨(zqH (zol (zwY hwt).2.1 f hf)).1,hi ⟨c,fs⟩ (by simp) f hf⟩) (cstA c) (z7q c)
  refine zNg hp fun p hp=>zNg (zM4 (z3B hs hp)) fun q hq=> ?_
  exact zSj ht r d (zGf _ fun t ht=>ztF hw t (by simp [ht])) (fun t ht=>hi t (by simp [ht])) q hq
theorem zWS (ht:okT to):∀ (l:yA) (d:Nat),(∀ a∈l,zgr a)→(∀ a∈l,zr d a)→GL l.length (ziE to l)
 | [],_,_,_=>by rw [ziE]; exact ⟨rfl,fun a ha=>by cases ha⟩
 | a::r,d,h,hi=>by
  rw [ziE];have hf:=hi a (by simp)
  have h1:GS (zbQ to a []):=by
   cases d with
   | zero=>exact hf.elim
   | succ d=>exact zSj ht a d (h a (by simp)) (fun t ht f hf'=>(hf.2 t ht).2 f hf') [] zjs
  have h2:=zWS ht r d (fun b hb=>h b (by simp [hb])) (fun b hb=>hi b (by simp [hb]))
  revert h1 h2;cases zbQ to a [] with
  | inl e=>exact fun h _=>h
  | inr b=>
   cases ziE to r with
   | inl e=>exact fun _ h=>h
   | inr l=>
    intro h1 h2;refine ⟨by simp [h2.1],fun x hx=> ?_⟩
    rcases qd.1 hx with rfl | hx
    ·exact h1
    ·exact h2.2 x hx
theorem zSi (ht:okT to):∀ (l:yE) (d:Nat),(∀ w∈l,zgr w.Ann)→(∀ w∈l,zr d w.Ann)→GI l (ze6 to l)
 | [],_,_,_=>by rw [ze6]; exact ⟨rfl,fun a ha=>by cases ha⟩
 | ⟨v,a⟩::r,d,h,hi=>by
  rw [ze6];have hf:zr d a:=hi ⟨v,a⟩ (by simp)
  have h1:GS (zbQ to a []):=by
   cases d with
   | zero=>exact hf.elim
   | succ d=>exact zSj ht a d (h ⟨v,a⟩ (by simp)) (fun t ht f hf'=>(hf.2 t ht).2 f hf') [] zjs
  have h2:=zSi ht r d (fun b hb=>h b (by simp [hb])) (fun b hb=>hi b (by simp [hb]))
  revert h1 h2;cases zbQ to a [] with
  | inl e=>exact fun h _=>h
  | inr b=>
   cases ze6 to r with
   | inl e=>exact fun _ h=>h
   | inr l=>
    intro h1 h2;refine ⟨by simp [h2.1],fun x hx=> ?_⟩
    rcases qd.1 hx with rfl | hx
    ·exact ⟨h1,⟨v,a⟩,by simp,rfl⟩
    ·obtain ⟨h3,w,hw,e⟩:=h2.2 x hx;exact ⟨h3,w,by simp [hw],e⟩
end
abbrev zFo:=yG×Unit×Int×Unit
abbrev zFy:=(yC×Bool)⊕Unit
def zFC (l:yG) (i:Int) (id:RowID):Wy zFo (RowID×Unit) zFy:=.i (decide (i<Int.ofNat l.length)) (.i (decide (0≤i)&&decide (i<Int.ofNat l.length)) (.i ((l.getD i.toNat default).Row.Table==id.Table&&((l.getD i.toNat default).Row.Seq==id.Seq&&true)) (.i (decide (0≤i)&&decide (i<Int.ofNat l.length)) (.k (.inl ((l.getD i.toNat default).To,true))) .d) (.h (l,(),(IntKind.i64.wrap (i+1)),()) (id,()))) .d) (.k (.inr ()))
def z4j (x:zFo) (y:RowID×Unit):Wy zFo (RowID×Unit) zFy:=zFC x.1 x.2.2.1 y.1
def zF7 (n:Nat) (l:yG) (i:Int) (id:RowID):Bool×zFy:=zI (z4j) (.inl default) n (l,(),i,()) (id,())
def zS0 (l:yG) (id:RowID):Wy0 (yC×Bool):=.bn (zF7 (l.length+Int.toNat 0+1) l 0 id) fun r0=>.i (isL r0) (.k ((getL r0).1,(getL r0).2)) (.k ([],false))
def zOh (l:yG) (id:RowID):Bool×(yC×Bool):=(zS0 l id).fin default
abbrev zIJ:=yG×Unit×Unit×Int×Unit
abbrev zIy:=Atom×yA×Unit
abbrev zHR:=Int⊕(yG×Atom×yA)
abbrev zIB:=yG×Unit×Unit×Unit×Int×Unit
abbrev zHX:=Atom×yA×yE×Unit
abbrev zIc:=Int⊕(Atom×yA×yE)
def zEw (zcG:yC→yG→Bool×(yC×Int)) (l:yG) (i:Int) (x_:Atom) (args:yA):Wy zIJ zIy zHR:=.i (decide (i<Int.ofNat x_.Args.length)) (.i (decide (0≤i)&&decide (i<Int.ofNat x_.Args.length)) (.bn (zcG (x_.Args.getD i.toNat default) l) fun r0=>.i (r0.2 != 0) (.k (.inl (r0.2))) (.i (decide ((args.length+[r0.1].length)*24≤reach)) (.h (l,(),(),(IntKind.i64.wrap (i+1)),()) (x_,(args++[r0.1]),())) .d)) .d) (.k (.inr (l,x_,args)))
def z05 (zcG:yC→yG→Bool×(yC×Int)) (x:zIJ) (y:zIy):Wy zIJ zIy zHR:=zEw zcG x.1 x.2.2.2.1 y.1 y.2.1
def zDP (zcG:yC→yG→Bool×(yC×Int)) (n:Nat) (l:yG) (i:Int) (x_:Atom) (args:yA):Bool×zHR:=zI (z05 zcG) (.inl default) n (l,(),(),i,()) (x_,args,())
def zCs (zcG:yC→yG→Bool×(yC×Int)) (l:yG) (i:Int) (x_:Atom) (args:yA) (items:yE):Wy zIB zHX zIc:=.i (decide (i<Int.ofNat x_.Items.length)) (.i (decide (0≤i)&&decide (i<Int.ofNat x_.Items.length)) (.bn (zcG (x_.Items.getD i.toNat default).Ann l) fun r2=>.i (r2.2 != 0) (.k (.inl (r2.2))) (.i (decide (0≤i)&&decide (i<Int.ofNat x_.Items.length)) (.i (decide ((items.length+[WeightedOf.mk (x_.Items.getD i.toNat default).Value r2.1].length)*56≤reach)) (.h (l,(),(),(),(IntKind.i64.wrap (i+1)),()) (x_,args,(items++[WeightedOf.mk (x_.Items.getD i.toNat default).Value r2.1]),())) .d) .d)) .d) (.k (.inr (x_,args,items)))
def z0b (zcG:yC→yG→Bool×(yC×Int)) (x:zIB) (y:zHX):Wy zIB zHX zIc:=zCs zcG x.1 x.2.2.2.2.1 y.1 y.2.1 y.2.2.1
def zCm (zcG:yC→yG→Bool×(yC×Int)) (n:Nat) (l:yG) (i:Int) (x_:Atom) (args:yA) (items:yE):Bool×zIc:=zI (z0b zcG) (.inl default) n (l,(),(),(),i,()) (x_,args,items,())
def zQC (zcG:yC→yG→Bool×(yC×Int)) (x_:Atom) (l:yG):Wy0 (yC×Int):=.i (x_.Kind==0) (.bn (zOh l x_.Row) fun r5=>.i (r5.2) (.k (r5.1,0)) (.bn (zCV x_.Row) fun r4=>.k (r4,0))) (.bn (zDP zcG (l.length+Int.toNat 0+x_.Args.length+x_.Items.length+0+1) l 0 (Atom.mk x_.Kind x_.Row x_.Args x_.Func x_.Items x_.Op x_.Bound) []) fun r11=>.i (isL r11) (.k ([],getL r11)) (.bn (zCm zcG ((getR r11).1.length+Int.toNat 0+(getR r11).2.1.Args.length+(getR r11).2.1.Items.length+(getR r11).2.2.length+0+1) (getR r11).1 0 (Atom.mk (getR r11).2.1.Kind (getR r11).2.1.Row (getR r11).2.1.Args (getR r11).2.1.Func (getR r11).2.1.Items (getR r11).2.1.Op (getR r11).2.1.Bound) (getR r11).2.2 []) fun r10=>.i (isL r10) (.k ([],getL r10)) (.i ((getR r10).1.Kind==1) (.i (decide ((0:Int)≤(0:Int))&&decide (0<Int.ofNat (getR r10).2.1.length)) (.i (decide ((0:Int)≤(1:Int))&&decide (1<Int.ofNat (getR r10).2.1.length)) (.bn (zOL ((getR r10).2.1.getD (Int.toNat 0) default) ((getR r10).2.1.getD (Int.toNat 1) default)) fun r6=>.k (r6.1,r6.2)) .d) .d) (.i ((getR r10).1.Kind==2) (.i (decide ((0:Int)≤(0:Int))&&decide (0<Int.ofNat (getR r10).2.1.length)) (.bn (zBW ((getR r10).2.1.getD (Int.toNat 0) default)) fun r7=>.k (r7.1,r7.2)) .d) (.i ((getR r10).1.Kind==3) (.i (decide ((0:Int)≤(0:Int))&&decide (0<Int.ofNat (getR r10).2.1.length)) (.bn (zKS ((getR r10).2.1.getD (Int.toNat 0) default)) fun r8=>.k (r8.1,r8.2)) .d) (.bn (zJy (getR r10).1.Func (getR r10).2.2 (getR r10).1.Op (getR r10).1.Bound) fun r9=>.k (r9.1,r9.2)))))))
def zDK (zcG:yC→yG→Bool×(yC×Int)) (x_:Atom) (l:yG):Bool×(yC×Int):=(zQC zcG x_ l).fin default
abbrev zCC:=yC×yG×yC×Int×yC×Int×yC×Int×Int×Unit
abbrev zCv:=yC×yG×yC×Int×yC×Int×Int
abbrev zCu:=yC×yG×yC×Int×yC×Int×Unit
abbrev zCx:=Int⊕(yC×yG×yC×Int×yC)
abbrev zCj:=yC×yG×yC×Int×Unit
abbrev zCB:=Int⊕yC
def zys (zct:Atom→yG→Bool×(yC×Int)) (a:yC) (l:yG) (out_:yC) (i:Int) (t:yC) (k:Int) (x_:yC) (e:Int) (n_:Int):Wy zCC (Unit) zCv:=.i (decide (0≤i)&&decide (i<Int.ofNat a.length)) (.i (decide (0≤k)&&decide (k<Int.ofNat (a.getD i.toNat default).Factors.length)) (.i (decide (n_<((a.getD i.toNat default).Factors.getD k.toNat default).Exp)) (.i (e==0) (.bn (zV3 t x_) fun r8=>.h (a,l,out_,i,(r8.1),k,x_,(r8.2),(IntKind.i64.wrap (n_+1)),()) ()) (.k (a,l,out_,i,t,k,e))) (.k (a,l,out_,i,t,k,e))) .d) .d
def zTG (zct:Atom→yG→Bool×(yC×Int)) (x:zCC) (y:Unit):Wy zCC (Unit) zCv:=zys zct x.1 x.2.1 x.2.2.1 x.2.2.2.1 x.2.2.2.2.1 x.2.2.2.2.2.1 x.2.2.2.2.2.2.1 x.2.2.2.2.2.2.2.1 x.2.2.2.2.2.2.2.2.1
def zyE (zct:Atom→yG→Bool×(yC×Int)) (n:Nat) (a:yC) (l:yG) (out_:yC) (i:Int) (t:yC) (k:Int) (x_:yC) (e:Int) (n_:Int):Bool×zCv:=zI (zTG zct) default n (a,l,out_,i,t,k,x_,e,n_,()) ()
def zzU (zct:Atom→yG→Bool×(yC×Int)) (a:yC) (l:yG) (out_:yC) (i:Int) (t:yC) (k:Int):Wy zCu (Unit) zCx:=.i (decide (0≤i)&&decide (i<Int.ofNat a.length)) (.i (decide (k<Int.ofNat (a.getD i.toNat default).Factors.length)) (.i (decide (0≤i)&&decide (i<Int.ofNat a.length)) (.i (decide (0≤k)&&decide (k<Int.ofNat (a.getD i.toNat default).Factors.length)) (.bn (zct (Atom.mk ((a.getD i.toNat default).Factors.getD k.toNat default).Atom.Kind ((a.getD i.toNat default).Factors.getD k.toNat default).Atom.Row ((a.getD i.toNat default).Factors.getD k.toNat default).Atom.Args ((a.getD i.toNat default).Factors.getD k.toNat default).Atom.Func ((a.getD i.toNat default).Factors.getD k.toNat default).Atom.Items ((a.getD i.toNat default).Factors.getD k.toNat default).Atom.Op ((a.getD i.toNat default).Factors.getD k.toNat default).Atom.Bound) l) fun r11=>.bn (zyE zct ((a.length+l.length+out_.length+i.toNat +t.length+k.toNat +r11.1.length+r11.2.toNat +Int.toNat 0+1)+szTs a+szTs out_+szTs t+szTs r11.1) a l out_ i t k r11.1 r11.2 0) fun r10=>.i (r10.2.2.2.2.2.2 != 0) (.k (.inl (r10.2.2.2.2.2.2))) (.h ((r10.1),(r10.2.1),(r10.2.2.1),(r10.2.2.2.1),(r10.2.2.2.2.1),(IntKind.i64.wrap (r10.2.2.2.2.2.1+1)),()) ())) .d) .d) (.k (.inr (a,l,out_,i,t)))) .d
def zVF (zct:Atom→yG→Bool×(yC×Int)) (x:zCu) (y:Unit):Wy zCu (Unit) zCx:=zzU zct x.1 x.2.1 x.2.2.1 x.2.2.2.1 x.2.2.2.2.1 x.2.2.2.2.2.1
def zzw (zct:Atom→yG→Bool×(yC×Int)) (n:Nat) (a:yC) (l:yG) (out_:yC) (i:Int) (t:yC) (k:Int):Bool×zCx:=zI (zVF zct) (.inl default) n (a,l,out_,i,t,k,()) ()
def zAq (zct:Atom→yG→Bool×(yC×Int)) (a:yC) (l:yG) (out_:yC) (i:Int):Wy zCj (Unit) zCB:=.i (decide (i<Int.ofNat a.length)) (.i (decide (0≤i)&&decide (i<Int.ofNat a.length)) (.bn (zBQ (a.getD i.toNat default).Coeff) fun r16=>.bn (zzw zct ((a.length+l.length+out_.length+i.toNat +r16.length+Int.toNat 0+1)+szTs a+szTs out_+szTs r16) a l out_ i r16 0) fun r15=>.i (isL r15) (.k (.inl (getL r15))) (.bn (zWA (getR r15).2.2.1 (getR r15).2.2.2.2) fun r14=>.i (r14.2 != 0) (.k (.inl (r14.2))) (.h ((getR r15).1,(getR r15).2.1,(r14.1),(IntKind.i64.wrap ((getR r15).2.2.2.1+1)),()) ()))) .d) (.k (.inr out_))
def zWt (zct:Atom→yG→Bool×(yC×Int)) (x:zCj) (y:Unit):Wy zCj (Unit) zCB:=zAq zct x.1 x.2.1 x.2.2.1 x.2.2.2.1
def zzI (zct:Atom→yG→Bool×(yC×Int)) (n:Nat) (a:yC) (l:yG) (out_:yC) (i:Int):Bool×zCB:=zI (zWt zct) (.inl default) n (a,l,out_,i,()) ()
def zIT (zct:Atom→yG→Bool×(yC×Int)) (a:yC) (l:yG):Wy0 (yC×Int):=.bn (zzI zct ((a.length+l.length+0+Int.toNat 0+1)+szTs a+szTs []) a l [] 0) fun r20=>.i (isL r20) (.k ([],getL r20)) (.k (getR r20,0))
def zyQ (zct:Atom→yG→Bool×(yC×Int)) (a:yC) (l:yG):Bool×(yC×Int):=(zIT zct a l).fin default
def zEe:Nat→(yC→yG→Bool×(yC×Int))×(Atom→yG→Bool×(yC×Int))
 | 0=>(fun _ _=>(false,default),fun _ _=>(false,default))
 | n+1=>(zyQ ((zEe n).2),zDK ((zEe n).1))
def zyW (n:Nat):yC→yG→Bool×(yC×Int):=(zEe n).1
def zDG (n:Nat):Atom→yG→Bool×(yC×Int):=(zEe n).2
theorem zVp (n:Nat):zyW (n+1)=zyQ (zDG n):=rfl
theorem z1W (n:Nat):zDG (n+1)=zDK (zyW n):=rfl
def zSR:yC→yG→Bool×(yC×Int):=zyW 1000
abbrev zyB:=yC×yG×Int×Unit
abbrev zyN:=Int⊕(yC×yG)
def zyF (a:yC) (l:yG) (i:Int):Wy zyB (Unit) zyN:=.i (decide (i<Int.ofNat l.length)) (.i (decide (0≤i)&&decide (i<Int.ofNat l.length)) (.bn (zfM (l.getD i.toNat default).To) fun r0=>.i (!r0) (.k (.inl 1)) (.h (a,l,(IntKind.i64.wrap (i+1)),()) ())) .d) (.k (.inr (a,l)))
def zTY (x:zyB) (y:Unit):Wy zyB (Unit) zyN:=zyF x.1 x.2.1 x.2.2.1
def zyA (n:Nat) (a:yC) (l:yG) (i:Int):Bool×zyN:=zI (zTY) (.inl default) n (a,l,i,()) ()
def zHb (a:yC) (l:yG):Wy0 (yC×Int):=.bn (zfM a) fun r4=>.i (!r4) (.k ([],1)) (.bn (zyA (a.length+l.length+Int.toNat 0+1) a l 0) fun r3=>.i (isL r3) (.k ([],getL r3)) (.bn (zSR (getR r3).1 (getR r3).2) fun r2=>.k (r2.1,r2.2)))
def zMg (a:yC) (l:yG):Bool×(yC×Int):=(zHb a l).fin default
def toA:yG→RowID→yC
 | [],r=>varA r
 | b::l,r=>if b.Row=r then b.To else toA l r
def okB (l:yG):Prop:=l.length≤1000∧∀ b∈l,okA b.To
theorem zbby:∀ {l:yG},(∀ b∈l,okA b.To)→okT (toA l)
 | [],_,r,hr=>by rw [toA]; exact zbft hr
 | b::l,h,r,hr=>by
  rw [toA];split
  ·exact h b (by simp)
  ·exact zbby (fun c hc=>h c (by simp [hc])) r hr
theorem z9M (a b:RowID):(a.Table==b.Table&&(a.Seq==b.Seq&&true))=decide (a=b):=by
 obtain ⟨t,s⟩:=a; obtain ⟨t',s'⟩:=b;rw [Bool.and_true,beqd,beqd, ← Bool.decide_and];congr 1;simp
theorem zbcO (a b:RowID):(a.Table==b.Table&&a.Seq==b.Seq)=decide (a=b):=by rw [← z9M,Bool.and_true]
theorem zXg:∀ (l:yG) (r:RowID) (i:Nat),(ixf (fun b=>decide (b.Row=r)) l i= -1∧toA l r=varA r)∨∃ j,j<l.length∧ixf (fun b=>decide (b.Row=r)) l i=((i+j:Nat):Int)∧toA l r=(l.getD j default).To
 | [],r,i=>.inl ⟨rfl,rfl⟩
 | b::l,r,i=>by
  rw [ixf,toA];by_cases h:b.Row=r
  ·rw [decide_eq_true h,cond_true,if_pos h];exact .inr ⟨0,by simp,rfl,rfl⟩
  ·rw [decide_eq_false h,cond_false,if_neg h];rcases zXg l r (i+1) with ⟨h1,h2⟩ | ⟨j,h1,h2,h3⟩
   ·exact .inl ⟨h1,h2⟩
   ·exact .inr ⟨j+1,by simp; omega,by rw [h2]; congr 1; omega,h3⟩
theorem zbgC {l:yG} (h:okB l) (r:RowID):zhT r l=(true,toA l r):=by
 unfold zhT zxP
 have hi:zcz l r=(true,ixf (fun b=>decide (b.Row=r)) l 0):=by
  have e:zcz l r=IH (fun (g:RowID×Unit) x=>zfV x g.1) (l.length+(Int.ofNat l.length).toNat +Int.toNat (0:Int)+(1:Nat)) (r,()) l:=rfl
  rw [e]
  exact zbdN _ _ _ _ _ (by have:=h.1; omega) (fun x _=>by
   unfold zfV zuI;rw [Wy.fin_k,z9M]) (by omega)
 rw [Wy.fin_bn,hi];rcases zXg l r 0 with ⟨h1,h2⟩ | ⟨j,h1,h2,h3⟩
 ·rw [h1,h2];simp only [cond_true,Wy.fin_i,Wy.fin_bn,Wy.fin_k,(zbbg r).1];rfl
 ·rw [Nat.zero_add] at h2;rw [h2,h3];have hm:=h.2 _ (zt h1);have e1:decide ((j:Int)≥(0:Int))=true:=by simp
  simp only [cond_true,Wy.fin_i,Wy.fin_bn,Wy.fin_k,e1,tT,h1,zGz hm.1.1 (show (12:Nat)≤100 by omega)]
theorem zbcY {l:yG} (h:okB l) (r:RowID):∃ b q,zOh l r=(true,(b,q))∧((q=true∧b=toA l r)∨(q=false∧toA l r=varA r)):=by
 have key:∀ (n i:Nat),l.length<i+n→i≤l.length→∃ x,zF7 n l i r=(true,x)∧((x=.inl (toA (l.drop i) r,true))∨(x=.inr ()∧toA (l.drop i) r=varA r)):=by
  intro n;induction n with
  | zero=>intro i h1 h2; omega
  | succ n ih=>
   intro i h1 h2;have hlen:=h.1;show ∃ x,(zFC l i r).ev (fun x y=>zF7 n x.1 x.2.2.1 y.1) (fun r=>(true,r)) (false,.inl default)=(true,x)∧_
   unfold zFC;by_cases hi:i<l.length
   ·simp only [Wy.ev_i,Wy.ev_k,Wy.ev_h,Wy.ev_bn,Wy.ev_d,tT,hi,zbcO];rw [zbB hi,toA];by_cases hr:(l.getD i default).Row=r
    ·rw [decide_eq_true hr,if_pos hr,cond_true];exact ⟨_,rfl,.inl rfl⟩
    ·rw [decide_eq_false hr,if_neg hr,cond_false,zR (by omega)]
     exact ih (i+1) (by omega) (by omega)
   ·simp only [Wy.ev_i,Wy.ev_k,Wy.ev_h,Wy.ev_bn,Wy.ev_d,tT,hi];rw [zc2 hi];exact ⟨_,rfl,.inr ⟨rfl,rfl⟩⟩
 obtain ⟨x,h1,h2⟩:=key (l.length+Int.toNat (0:Int)+(1:Nat)) 0 (by omega) (by omega)
 unfold zOh zS0;rw [show ((0:Nat):Int)=(0:Int) from rfl] at h1
 rw [Wy.fin_bn,h1];rw [List.drop_zero] at h2;rcases h2 with rfl | ⟨rfl,h2⟩
 ·exact ⟨_,_,rfl,.inl ⟨rfl,rfl⟩⟩
 ·exact ⟨_,_,rfl,.inr ⟨rfl,h2⟩⟩
def RS (s:Int⊕yC) (e:Int) (p:yC):Prop:=match s with
 | .inl x=>e=x∧x≠0
 | .inr q=>e=0∧p=q
theorem zbdF (r:yC×Int):RS (opS r) r.2 r.1:=by
 unfold opS;by_cases h:r.2=0
 ·rw [if_pos h]; exact ⟨h,rfl⟩
 ·rw [if_neg h]; exact ⟨rfl,h⟩
theorem z7J (b:yC) (s:Int⊕yC):sbd s (powS b 0)=s:=by cases s <;>rfl
section
variable (g:Atom→yG→Bool×(yC×Int)) (to:yG)
theorem z9W (b:yC) (hb:okA b) (t16:yC) (t17 t18:Int) (t26:yD) (t27 t28:Int) (N:Nat) (hN:N≤1000000) (sum:yC):
  ∀ (n i:Nat) (e:Int) (p:yC) (s:Int⊕yC),N<i+n→i≤N→GS s→RS s e p→∃ e' p',zqB g n to b e t16 t17 t18 t26 t27 t28 N i sum p=(true,(to,e',t16,t17,t18,t26,t27,t28,sum,p'))∧RS (sbd s (powS b (N - i))) e' p'
 | 0,i,e,p,s,h1,h2,_,_=>by omega
 | n+1,i,e,p,s,h1,h2,hs,hr=>by
  show ∃ e' p',(zrc g to b e t16 t17 t18 t26 t27 t28 N i sum p).ev (fun x y=>zqB g n x.1.1.1 x.2.2.2.1 x.2.2.2.2.1 x.2.2.2.2.2.1 x.2.2.2.2.2.2.1 x.2.2.2.2.2.2.2.1 x.2.2.2.2.2.2.2.2.1 x.2.2.2.2.2.2.2.2.2.1 x.2.2.2.2.2.2.2.2.2.2.1 x.2.2.2.2.2.2.2.2.2.2.2.1 x.2.2.2.2.2.2.2.2.2.2.2.2.1 y.1 y.2.1) (fun r=>(true,r)) (false,default)=_∧_
  unfold zrc;by_cases hi:i<N
  ·have hk:N - i=(N - (i+1))+1:=by omega
   cases s with
   | inl x=>
    obtain ⟨rfl,hx⟩:=hr;have he:(e==(0:Int))=false:=by simp [hx]
    simp only [Wy.ev_i,Wy.ev_k,Wy.ev_h,Wy.ev_bn,Wy.ev_d,zBL,hi,decide_true,cond_true,he,cond_false,zR (show i<4611686018427387904 by omega)]
    exact z9W b hb t16 t17 t18 t26 t27 t28 N hN sum n (i+1) e p (.inl e) (by omega) (by omega) hs ⟨rfl,hx⟩
   | inr q=>
    obtain ⟨rfl,rfl⟩:=hr;have hp:okA p:=hs;simp only [Wy.ev_i,Wy.ev_k,Wy.ev_h,Wy.ev_bn,Wy.ev_d,zBL,hi,decide_true,cond_true,(zbbB hp hb).1,zR (show i<4611686018427387904 by omega),show ((0:Int)==0)=true from rfl]
    rw [hk];exact z9W b hb t16 t17 t18 t26 t27 t28 N hN sum n (i+1) (mulR p b).2 (mulR p b).1 (opS (mulR p b)) (by omega) (by omega) (zM4 (z4e hp hb)) (zbdF _)
  ·have hk:N - i=0:=by omega
   simp only [Wy.ev_i,Wy.ev_k,zBL,hi,decide_false,cond_false];rw [hk,z7J];exact ⟨e,p,rfl,hr⟩
def AG (l:yD):Prop:=∀ f∈l,(g f.Atom to=(true,ofS (zdS (toA to) f.Atom))∧GS (zdS (toA to) f.Atom))∧0≤f.Exp∧f.Exp≤1000000
theorem zbbi {s:Int⊕yC} (h:GS s):okA (ofS s).1:=by
 cases s with
 | inl e=>exact zjs
 | inr a=>exact h
theorem z6Y {s:Int⊕yC} (h:GS s) (p:yC):RS (sbd s fun _=>.inr p) (ofS s).2 p:=by
 cases s with
 | inl e=>exact ⟨rfl,h⟩
 | inr a=>exact ⟨rfl,rfl⟩
theorem z6Q {s:Int⊕yC} (h:GS s) {p:yC} (hp:okA p):GS (sbd s fun _=>.inr p):=zNg h fun _ _=>hp
theorem z4U {s:Int⊕yC} (p:yC) (N:Nat):sbd (sbd s fun _=>.inr p) (powS (ofS s).1 N)=sbd s fun b=>powS b N p:=by
 cases s <;>rfl
theorem rp_7 (l:yD) (hl:l.length≤1000000) (hg:AG g to l) (t16:yC) (t17 t18:Int) (sum:yC):
  ∀ (n i:Nat) (p:yC),l.length<i+n→i≤l.length→okA p→zs8 g n to t16 t17 t18 l l.length i sum p=(true,match zdj (toA to) (l.drop i) p with
   | .inl e=>.inl e
   | .inr q=>.inr (to,t16,t17,t18,sum,q))
 | 0,i,p,h1,h2,_=>by omega
 | n+1,i,p,h1,h2,hp=>by
  show (zss g to t16 t17 t18 l l.length i sum p).ev (fun x y=>zs8 g n x.1.1.1 x.2.2.2.1 x.2.2.2.2.1 x.2.2.2.2.2.1 x.2.2.2.2.2.2.1 x.2.2.2.2.2.2.2.1 x.2.2.2.2.2.2.2.2.1 y.1 y.2.1) (fun r=>(true,r)) (false,.inl default)=_
  unfold zss;by_cases hi:i<l.length
  ·obtain ⟨⟨hf,hG⟩,e0,e1⟩:=hg _ (zt hi);obtain ⟨N,hN⟩:∃ N:Nat,(l.getD i default).Exp=(N:Int):=⟨_,(Int.toNat_of_nonneg e0).symm⟩
   obtain ⟨e',p',h11,hrs⟩:=z9W g to (ofS (zdS (toA to) (l.getD i default).Atom)).1 (zbbi hG) t16 t17 t18 l l.length i N (by omega) sum
    (to.length+(ofS (zdS (toA to) (l.getD i default).Atom)).1.length+(ofS (zdS (toA to) (l.getD i default).Atom)).2.toNat +t16.length+t17.toNat +t18.toNat +l.length+(l.length:Int).toNat +(i:Int).toNat +(N:Int).toNat +Int.toNat (0:Int)+sum.length+p.length+(1:Nat)) 0 _ p _ (by omega) (by omega) (z6Q hG hp) (z6Y hG p)
   rw [z4U,Nat.sub_zero] at hrs;rw [show ((0:Nat):Int)=(0:Int) from rfl] at h11
   rw [zbB hi,zAJ,hN,Int.toNat_natCast];simp only [Wy.ev_i,Wy.ev_k,Wy.ev_h,Wy.ev_bn,Wy.ev_d,tT,hi,Atom.eta,hf,hN,bne0];rw [show Int.toNat (l.length:Int)=l.length from Int.toNat_natCast _,show Int.toNat (i:Int)=i from Int.toNat_natCast _,show Int.toNat (N:Int)=N from Int.toNat_natCast _] at h11
   rw [h11];have hS:=hG;revert hrs hS;cases zdS (toA to) (l.getD i default).Atom with
   | inl x=>
    rintro ⟨rfl,hx⟩ _
    simp [hx,zCQ]
   | inr b=>
    intro hrs hb;simp only [zb0] at hrs ⊢;have hq:=z2G (b:=b) hb N p hp;revert hrs hq;cases powS b N p with
    | inl x=>
     rintro ⟨rfl,hx⟩ _
     simp [hx,zCQ]
    | inr q=>
     rintro ⟨rfl,rfl⟩ hq
     simp only [zb0,decide_true,Bool.not_true,cond_true,cond_false,zR (show i<4611686018427387904 by omega)]
     exact rp_7 l hl hg t16 t17 t18 sum n (i+1) p' (by omega) (by omega) hq
  ·simp only [Wy.ev_i,Wy.ev_k,Wy.ev_h,Wy.ev_bn,Wy.ev_d,tT,hi];rw [zc2 hi,zB7]
theorem rp_3 (l:yC) (hl:l.length≤1000000) (hg:∀ t∈l,t.Factors.length≤1000000∧AG g to t.Factors) (hok:∀ t∈l,∀ p,okA p→GS (zdj (toA to) t.Factors p)):
  ∀ (n i:Nat) (s:yC),l.length<i+n→i≤l.length→okA s→zs7 g n to l l.length i s=(true,zbQ (toA to) (l.drop i) s)
 | 0,i,s,h1,h2,_=>by omega
 | n+1,i,s,h1,h2,hs=>by
  show (zsI g to l l.length i s).ev (fun x y=>zs7 g n x.1.1.1 x.2.2.1 x.2.2.2.1 x.2.2.2.2.1 y.1) (fun r=>(true,r)) (false,.inl default)=_
  unfold zsI;by_cases hi:i<l.length
  ·have ht:=hg _ (zt hi);have hc:=z7q (l.getD i default).Coeff;have h7:=rp_7 g to (l.getD i default).Factors ht.1 ht.2 l l.length i s (to.length+l.length+(l.length:Int).toNat +(i:Int).toNat +(l.getD i default).Factors.length+((l.getD i default).Factors.length:Int).toNat +Int.toNat (0:Int)+s.length+(cstA (l.getD i default).Coeff).length+(1:Nat)) 0 (cstA (l.getD i default).Coeff) (by omega) (by omega) hc
   rw [show ((0:Nat):Int)=(0:Int) from rfl,List.drop_zero] at h7
   simp only [Int.toNat_natCast] at h7;rw [zbB hi,zJH];simp only [Wy.ev_i,Wy.ev_k,Wy.ev_h,Wy.ev_bn,Wy.ev_d,tT,hi,(z7N _).1];rw [h7];have hS:=hok _ (zt hi) _ hc;revert hS;cases zdj (toA to) (l.getD i default).Factors (cstA (l.getD i default).Coeff) with
   | inl e=>intro _; rfl
   | inr p=>
    intro hp;have hp:okA p:=hp;simp only [zb0,isL,getR,cond_true,cond_false,(zbbq hs hp).1,bne0];have hG:=z3B hs hp;unfold opS;by_cases he:(addR s p).2=0
    ·rw [if_pos he,decide_eq_true he,zb0,zR (show i<4611686018427387904 by omega)]
     exact rp_3 l hl hg hok n (i+1) _ (by omega) (by omega) hG.1
    ·rw [if_neg he,decide_eq_false he]; rfl
  ·simp only [Wy.ev_i,Wy.ev_k,Wy.ev_h,Wy.ev_bn,Wy.ev_d,tT,hi];rw [zc2 hi,zNv]
theorem rp_b (a:yC) (hl:a.length≤1000000) (hg:∀ t∈a,t.Factors.length≤1000000∧AG g to t.Factors) (hok:∀ t∈a,∀ p,okA p→GS (zdj (toA to) t.Factors p)):zlJ g a to=(true,ofS (zbQ (toA to) a [])):=by
 unfold zlJ zBH;have h3:=rp_3 g to a hl hg hok (to.length+a.length+(Int.ofNat a.length).toNat +Int.toNat (0:Int)+(0:Nat)+(1:Nat)) 0 [] (by omega) (by omega) zjs
 rw [show ((0:Nat):Int)=(0:Int) from rfl,List.drop_zero] at h3
 rw [Wy.fin_bn,show Int.ofNat a.length=(a.length:Int) from rfl] at *
 rw [h3];cases zbQ (toA to) a [] <;>rfl
end
section
variable (g:yC→yG→Bool×(yC×Int)) (to:yG)
theorem rp_5 (x:Atom) (l:yA) (hl:l.length≤1000000) (hg:∀ a∈l,g a to=(true,ofS (zbQ (toA to) a []))∧GS (zbQ (toA to) a [])):
  ∀ (n i:Nat) (xs:yA),l.length<i+n→i≤l.length→xs.length≤i→zjl g n to l l.length i x xs=(true,match ziE (toA to) (l.drop i) with
   | .inl e=>.inl e
   | .inr ys=>.inr (to,x,xs++ys))
 | 0,i,xs,h1,h2,_=>by omega
 | n+1,i,xs,h1,h2,hx=>by
  have hreach:reach=70368744177664:=rfl;show (zno g to l l.length i x xs).ev (fun x y=>zjl g n x.1.1.1 x.2.2.2.1 x.2.2.2.2.1 x.2.2.2.2.2.1 y.1 y.2.1) (fun r=>(true,r)) (false,.inl default)=_
  unfold zno;by_cases hi:i<l.length
  ·obtain ⟨hf,hG⟩:=hg _ (zt hi);have hb:decide ((xs.length+1)*24≤reach)=true:=by simp only [qe]; omega
   rw [zbB hi,zk3];simp only [Wy.ev_i,Wy.ev_k,Wy.ev_h,Wy.ev_bn,Wy.ev_d,tT,hi,hf,bne0,List.length_singleton,hb];revert hG;cases zbQ (toA to) (l.getD i default) [] with
   | inl e=>intro he; simp [ofS,show e≠0 from he,zCQ]
   | inr b=>
    intro _;simp only [ofS,decide_true,Bool.not_true,cond_false,zb0,zR (show i<4611686018427387904 by omega)]
    rw [rp_5 x l hl hg n (i+1) (xs++[b]) (by omega) (by omega) (by simp; omega)]
    cases ziE (toA to) (l.drop (i+1)) with
    | inl e=>rfl
    | inr ys=>simp [zb0]
  ·simp only [Wy.ev_i,Wy.ev_k,Wy.ev_h,Wy.ev_bn,Wy.ev_d,tT,hi];rw [zc2 hi,zpT]; simp
theorem zbdG (x:Atom) (l:yE) (hl:l.length≤1000000) (hg:∀ w∈l,g w.Ann to=(true,ofS (zbQ (toA to) w.Ann []))∧GS (zbQ (toA to) w.Ann [])):
  ∀ (n i:Nat) (xs:yE),l.length<i+n→i≤l.length→xs.length≤i→ziC g n to l l.length i x xs=(true,match ze6 (toA to) (l.drop i) with
   | .inl e=>.inl e
   | .inr ys=>.inr (x,xs++ys))
 | 0,i,xs,h1,h2,_=>by omega
 | n+1,i,xs,h1,h2,hx=>by
  have hreach:reach=70368744177664:=rfl;show (zmS g to l l.length i x xs).ev (fun x y=>ziC g n x.1.1.1 x.2.2.2.1 x.2.2.2.2.1 x.2.2.2.2.2.1 y.1 y.2.1) (fun r=>(true,r)) (false,.inl default)=_
  unfold zmS;by_cases hi:i<l.length
  ·obtain ⟨hf,hG⟩:=hg _ (zt hi);have hb:decide ((xs.length+1)*56≤reach)=true:=by simp only [qe]; omega
   rw [zbB hi,zDT];simp only [Wy.ev_i,Wy.ev_k,Wy.ev_h,Wy.ev_bn,Wy.ev_d,tT,hi,hf,bne0,List.length_singleton,hb];revert hG;cases zbQ (toA to) (l.getD i default).Ann [] with
   | inl e=>intro he; simp [ofS,show e≠0 from he,zCQ]
   | inr b=>
    intro _;simp only [ofS,decide_true,Bool.not_true,cond_false,zb0,zR (show i<4611686018427387904 by omega)]
    rw [zbdG x l hl hg n (i+1) (xs++[WeightedOf.mk (l.getD i default).Value b]) (by omega) (by omega) (by simp; omega)]
    cases ze6 (toA to) (l.drop (i+1)) with
    | inl e=>rfl
    | inr ys=>simp [zb0]
  ·simp only [Wy.ev_i,Wy.ev_k,Wy.ev_h,Wy.ev_bn,Wy.ev_d,tT,hi];rw [zc2 hi,zBN]; simp
structure XG (x:Atom):Prop where
 va:vatA x=true
 lens:x.Args.length≤1000000∧x.Items.length<20
 ga:∀ a∈x.Args,g a to=(true,ofS (zbQ (toA to) a []))∧GS (zbQ (toA to) a [])
 gi:∀ w∈x.Items,g w.Ann to=(true,ofS (zbQ (toA to) w.Ann []))∧GS (zbQ (toA to) w.Ann [])
 sa:GL x.Args.length (ziE (toA to) x.Args)
 si:GI x.Items (ze6 (toA to) x.Items)
 wf:zgg x
theorem z9F {f o:Int} {i l:yE} {b:Value} (h20:i.length<20) (hl:l.length=i.length∧∀ w∈l,okA w.Ann∧∃ v∈i,v.Value=w.Value):zob f l o b=(true,ztM f l o b)∧zJy f l o b=(true,ztM f l o b):=by
 have h1:∀ w∈l,zr 12 w.Ann∧zN w.Ann≤4611686018427387904:=fun w hw=>(hl.2 w hw).1.1
 have h2:(l.filter hasA).length<20:=Nat.lt_of_le_of_lt (List.length_filter_le _ _) (by omega)
 exact ⟨zbey f l o b (by omega) h1 (by omega) h2,zbdg f l o b (by omega) h1 (by omega)⟩
theorem z4V {x:Atom} (h:vatA x=true):(x.Kind=1→x.Args.length=2)∧(x.Kind=2∨x.Kind=3→x.Args.length=1):=by
 cases zRr.1 h <;>simp
theorem zbd0 (hto:okB to) (x:Atom) (h:XG g to x):zh2 g x to=(true,ofS (zdS (toA to) x)):=by
 unfold zh2 zxT;have h5:=rp_5 g to x x.Args h.lens.1 h.ga (to.length+x.Args.length+(Int.ofNat x.Args.length).toNat +Int.toNat (0:Int)+x.Args.length+x.Items.length+(0:Nat)+(1:Nat)) 0 [] (by omega) (by omega) (by simp)
 rw [show ((0:Nat):Int)=(0:Int) from rfl,List.drop_zero] at h5
 have h5':zjl g (to.length+x.Args.length+(Int.ofNat x.Args.length).toNat +Int.toNat (0:Int)+x.Args.length+x.Items.length+(0:Nat)+(1:Nat)) to x.Args (Int.ofNat x.Args.length) 0 x []=_:=h5;have h21:=zbdG g to x x.Items (by have:=h.lens.2; omega) h.gi (to.length+x.Items.length+(Int.ofNat x.Items.length).toNat +Int.toNat (0:Int)+x.Args.length+x.Items.length+(0:Nat)+(1:Nat)) 0 [] (by omega) (by omega) (by simp)
 rw [show ((0:Nat):Int)=(0:Int) from rfl,List.drop_zero] at h21
 have h21':ziC g (to.length+x.Items.length+(Int.ofNat x.Items.length).toNat +Int.toNat (0:Int)+x.Args.length+x.Items.length+(0:Nat)+(1:Nat)) to x.Items (Int.ofNat x.Items.length) 0 x []=_:=h21;rw [Atom.eta,zNM];have b0:=beqd x.Kind 0;have b1:=beqd x.Kind 1;have b2:=beqd x.Kind 2;have b3:=beqd x.Kind 3;simp only [Wy.fin_i,Wy.fin_bn,Wy.fin_k,zbgC hto,cond_true,h5',List.nil_append];by_cases hk0:x.Kind=0
 ·rw [b0,decide_eq_true hk0,if_pos hk0]; rfl
 ·rw [b0,decide_eq_false hk0,if_neg hk0,cond_false];have hA:=h.sa;have hlen:=z4V h.va;revert hA;cases ziE (toA to) x.Args with
  | inl e=>intro _; rfl
  | inr xs=>
   intro hxs;have hxl:xs.length=x.Args.length∧∀ a∈xs,okA a:=hxs;have o0:=zF9 hxl.2 0;have o1:=zF9 hxl.2 1;simp only [isL,getR,cond_false,zb0];by_cases hk1:x.Kind=1
   ·have:=hlen.1 hk1;rw [b1,decide_eq_true hk1,if_pos hk1];simp only [cond_true,show Int.toNat (0:Int)=0 from rfl,show Int.toNat (1:Int)=1 from rfl,(z6Z o0 o1).1,zCU (z4l o0 o1).2]
    simp [hxl.1,this]
   ·rw [b1,decide_eq_false hk1,if_neg hk1,cond_false];by_cases hk2:x.Kind=2
    ·have:=hlen.2 (.inl hk2);rw [b2,decide_eq_true hk2,if_pos hk2];simp only [cond_true,show Int.toNat (0:Int)=0 from rfl,show Int.toNat (1:Int)=1 from rfl,(z8q o0).1,zCU (z3A o0).2]
     simp [hxl.1,this]
    ·rw [b2,decide_eq_false hk2,if_neg hk2,cond_false];by_cases hk3:x.Kind=3
     ·have:=hlen.2 (.inr hk3);rw [b3,decide_eq_true hk3,if_pos hk3];simp only [cond_true,show Int.toNat (0:Int)=0 from rfl,show Int.toNat (1:Int)=1 from rfl,(z4H o0).1,zCU (z3k o0).2]
      simp [hxl.1,this]
     ·rw [b3,decide_eq_false hk3,if_neg hk3,cond_false,Atom.eta,h21'];have hI:=h.si;revert hI;cases ze6 (toA to) x.Items with
      | inl e=>intro _; rfl
      | inr is=>
       intro his;have ht:=z9F (f:=x.Func) (o:=x.Op) (b:=x.Bound) h.lens.2 his;simp only [cond_true,cond_false,List.nil_append,ht.1,zb0];have hw:=zpf h.wf;have hl:is.length=x.Items.length∧∀ w∈is,okA w.Ann∧∃ v∈x.Items,v.Value=w.Value:=his
       rw [zCU (zVl (by have:=h.lens.2; omega) (fun w hw'=>⟨(hl.2 w hw').1,by
        obtain ⟨v,hv,e⟩:=(hl.2 w hw').2;rw [← e]; exact (zh5 hw.2.1.1 v hv).1⟩) hw.2.2.2.2.2.1 hw.2.2.2.2.2.2 hw.2.2.1).2]
end
theorem z7k:∀ (l:yD) (k:Nat),k<l.length→(l.getD k default).Exp.toNat≤szFs l
 | [],k,h=>by simp at h
 | f::r,0,_=>by show f.Exp.toNat≤_; rw [szFs]; omega
 | f::r,k+1,h=>by
  have:=z7k r k (by simpa using h)
  show (r.getD k default).Exp.toNat≤_;rw [szFs]; omega
theorem z8g:∀ (l:yC) (k:Nat),k<l.length→szFs (l.getD k default).Factors≤szTs l
 | [],k,h=>by simp at h
 | f::r,0,_=>by show szFs f.Factors≤_; rw [szTs]; omega
 | f::r,k+1,h=>by
  have:=z8g r k (by simpa using h)
  show szFs (r.getD k default).Factors≤_;rw [szTs]; omega
section
variable (g:Atom→yG→Bool×(yC×Int)) (l:yG)
theorem zbdD (a:yC) (i k:Nat) (hi:i<a.length) (hk:k<(a.getD i default).Factors.length) (out b:yC) (hb:okA b) (N:Nat) (hN:((a.getD i default).Factors.getD k default).Exp=N) (hN':N≤1000000):
  ∀ (n j:Nat) (e:Int) (p:yC) (s:Int⊕yC),N<j+n→j≤N→GS s→RS s e p→∃ e' p',zyE g n a l out i p k b e j=(true,(a,l,out,(i:Int),p',(k:Int),e'))∧RS (sbd s (powS b (N - j))) e' p'
 | 0,j,e,p,s,h1,h2,_,_=>by omega
 | n+1,j,e,p,s,h1,h2,hs,hr=>by
  show ∃ e' p',(zys g a l out i p k b e j).ev (fun x y=>zyE g n x.1 x.2.1 x.2.2.1 x.2.2.2.1 x.2.2.2.2.1 x.2.2.2.2.2.1 x.2.2.2.2.2.2.1 x.2.2.2.2.2.2.2.1 x.2.2.2.2.2.2.2.2.1) (fun r=>(true,r)) (false,default)=_∧_
  unfold zys;simp only [Wy.ev_i,Wy.ev_k,Wy.ev_h,Wy.ev_bn,Wy.ev_d,tT,hi,hk,hN];by_cases hj:j<N
  ·have hk:N - j=(N - (j+1))+1:=by omega
   cases s with
   | inl x=>
    obtain ⟨rfl,hx⟩:=hr;have he:(e==(0:Int))=false:=by simp [hx]
    simp only [hj,decide_true,cond_true,he,cond_false];exact ⟨e,p,rfl,rfl,hx⟩
   | inr q=>
    obtain ⟨rfl,rfl⟩:=hr;have hp:okA p:=hs;simp only [hj,decide_true,cond_true,(zbbB hp hb).2,zR (show j<4611686018427387904 by omega),show ((0:Int)==0)=true from rfl]
    rw [hk];exact zbdD a i _ hi (by assumption) out b hb N hN hN' n (j+1) (mulR p b).2 (mulR p b).1 (opS (mulR p b)) (by omega) (by omega) (zM4 (z4e hp hb)) (zbdF _)
  ·have hk:N - j=0:=by omega
   simp only [hj,decide_false,cond_false];rw [hk,z7J];exact ⟨e,p,rfl,hr⟩
theorem rr_7 (a:yC) (hal:a.length≤1000000) (i:Nat) (hi:i<a.length) (hl:(a.getD i default).Factors.length≤1000000) (hg:AG g l (a.getD i default).Factors) (out:yC):
  ∀ (n k:Nat) (p:yC),(a.getD i default).Factors.length<k+n→k≤(a.getD i default).Factors.length→okA p→zzw g n a l out i p k=(true,match zdj (toA l) ((a.getD i default).Factors.drop k) p with
   | .inl e=>.inl e
   | .inr q=>.inr (a,l,out,(i:Int),q))
 | 0,k,p,h1,h2,_=>by omega
 | n+1,k,p,h1,h2,hp=>by
  show (zzU g a l out i p k).ev (fun x y=>zzw g n x.1 x.2.1 x.2.2.1 x.2.2.2.1 x.2.2.2.2.1 x.2.2.2.2.2.1) (fun r=>(true,r)) (false,.inl default)=_
  unfold zzU;by_cases hk:k<(a.getD i default).Factors.length
  ·obtain ⟨⟨hf,hG⟩,e0,e1⟩:=hg _ (zt hk);obtain ⟨N,hN⟩:∃ N:Nat,((a.getD i default).Factors.getD k default).Exp=(N:Int):=⟨_,(Int.toNat_of_nonneg e0).symm⟩;have hsz:=Nat.le_trans (z7k _ k hk) (z8g a i hi);rw [hN,Int.toNat_natCast] at hsz
   obtain ⟨e',p',h11,hrs⟩:=zbdD g l a i k hi hk out (ofS (zdS (toA l) ((a.getD i default).Factors.getD k default).Atom)).1 (zbbi hG) N hN (by omega)
    ((a.length+l.length+out.length+(i:Int).toNat +p.length+(k:Int).toNat +(ofS (zdS (toA l) ((a.getD i default).Factors.getD k default).Atom)).1.length+(ofS (zdS (toA l) ((a.getD i default).Factors.getD k default).Atom)).2.toNat +Int.toNat (0:Int)+(1:Nat))+szTs a+szTs out+szTs p+szTs (ofS (zdS (toA l) ((a.getD i default).Factors.getD k default).Atom)).1) 0 _ p _ (by omega) (by omega) (z6Q hG hp) (z6Y hG p)
   rw [z4U,Nat.sub_zero] at hrs;rw [show ((0:Nat):Int)=(0:Int) from rfl] at h11
   rw [zbB hk,zAJ,hN,Int.toNat_natCast];simp only [Wy.ev_i,Wy.ev_k,Wy.ev_h,Wy.ev_bn,Wy.ev_d,tT,hi,hk,Atom.eta,hf,bne0];simp only [Int.toNat_natCast] at h11;rw [h11];have hS:=hG;revert hrs hS;cases zdS (toA l) ((a.getD i default).Factors.getD k default).Atom with
   | inl x=>
    rintro ⟨rfl,hx⟩ _
    simp [hx,zCQ]
   | inr b=>
    intro hrs hb;simp only [zb0] at hrs ⊢;have hq:=z2G (b:=b) hb N p hp;revert hrs hq;cases powS b N p with
    | inl x=>
     rintro ⟨rfl,hx⟩ _
     simp [hx,zCQ]
    | inr q=>
     rintro ⟨rfl,rfl⟩ hq
     simp only [zb0,decide_true,Bool.not_true,cond_true,cond_false,zR (show k<4611686018427387904 by omega)]
     exact rr_7 a hal i hi hl hg out n (k+1) p' (by omega) (by omega) hq
  ·simp only [Wy.ev_i,Wy.ev_k,Wy.ev_h,Wy.ev_bn,Wy.ev_d,tT,hi,hk];rw [zc2 hk,zB7]
theorem rr_3 (a:yC) (hal:a.length≤1000000) (hg:∀ t∈a,t.Factors.length≤1000000∧AG g l t.Factors) (hok:∀ t∈a,∀ p,okA p→GS (zdj (toA l) t.Factors p)):
  ∀ (n i:Nat) (s:yC),a.length<i+n→i≤a.length→okA s→zzI g n a l s i=(true,zbQ (toA l) (a.drop i) s)
 | 0,i,s,h1,h2,_=>by omega
 | n+1,i,s,h1,h2,hs=>by
  show (zAq g a l s i).ev (fun x y=>zzI g n x.1 x.2.1 x.2.2.1 x.2.2.2.1) (fun r=>(true,r)) (false,.inl default)=_
  unfold zAq;by_cases hi:i<a.length
  ·have ht:=hg _ (zt hi);have hc:=z7q (a.getD i default).Coeff;have hsz:=szTs_get' a i hi;have h7:=rr_7 g l a hal i hi ht.1 ht.2 s ((a.length+l.length+s.length+(i:Int).toNat +(cstA (a.getD i default).Coeff).length+Int.toNat (0:Int)+(1:Nat))+szTs a+szTs s+szTs (cstA (a.getD i default).Coeff)) 0 (cstA (a.getD i default).Coeff) (by omega) (by omega) hc
   rw [show ((0:Nat):Int)=(0:Int) from rfl,List.drop_zero] at h7
   simp only [Int.toNat_natCast] at h7;rw [zbB hi,zJH];simp only [Wy.ev_i,Wy.ev_k,Wy.ev_h,Wy.ev_bn,Wy.ev_d,tT,hi,(z7N _).2];rw [h7];have hS:=hok _ (zt hi) _ hc;revert hS;cases zdj (toA l) (a.getD i default).Factors (cstA (a.getD i default).Coeff) with
   | inl e=>intro _; rfl
   | inr p=>
    intro hp;have hp:okA p:=hp;simp only [zb0,isL,getR,cond_true,cond_false,(zbbq hs hp).2,bne0];have hG:=z3B hs hp;unfold opS;by_cases he:(addR s p).2=0
    ·rw [if_pos he,decide_eq_true he,zb0,zR (show i<4611686018427387904 by omega)]
     exact rr_3 a hal hg hok n (i+1) _ (by omega) (by omega) hG.1
    ·rw [if_neg he,decide_eq_false he]; rfl
  ·simp only [Wy.ev_i,Wy.ev_k,Wy.ev_h,Wy.ev_bn,Wy.ev_d,tT,hi];rw [zc2 hi,zNv]
theorem rr_b (a:yC) (hal:a.length≤1000000) (hg:∀ t∈a,t.Factors.length≤1000000∧AG g l t.Factors) (hok:∀ t∈a,∀ p,okA p→GS (zdj (toA l) t.Factors p)):zyQ g a l=(true,ofS (zbQ (toA l) a [])):=by
 unfold zyQ zIT;have h3:=rr_3 g l a hal hg hok ((a.length+l.length+(0:Nat)+Int.toNat (0:Int)+(1:Nat))+szTs a+szTs []) 0 [] (by omega) (by omega) zjs
 rw [show ((0:Nat):Int)=(0:Int) from rfl,List.drop_zero] at h3
 rw [Wy.fin_bn,h3];cases zbQ (toA l) a [] <;>rfl
end
section
variable (g:yC→yG→Bool×(yC×Int)) (l:yG)
theorem rr_8 (x:Atom) (hl:x.Args.length≤1000000) (hg:∀ a∈x.Args,g a l=(true,ofS (zbQ (toA l) a []))∧GS (zbQ (toA l) a [])):
  ∀ (n i:Nat) (xs:yA),x.Args.length<i+n→i≤x.Args.length→xs.length≤i→zDP g n l i x xs=(true,match ziE (toA l) (x.Args.drop i) with
   | .inl e=>.inl e
   | .inr ys=>.inr (l,x,xs++ys))
 | 0,i,xs,h1,h2,_=>by omega
 | n+1,i,xs,h1,h2,hx=>by
  have hreach:reach=70368744177664:=rfl;show (zEw g l i x xs).ev (fun x y=>zDP g n x.1 x.2.2.2.1 y.1 y.2.1) (fun r=>(true,r)) (false,.inl default)=_
  unfold zEw;by_cases hi:i<x.Args.length
  ·obtain ⟨hf,hG⟩:=hg _ (zt hi);have hb:decide ((xs.length+1)*24≤reach)=true:=by simp only [qe]; omega
   rw [zbB hi,zk3];simp only [Wy.ev_i,Wy.ev_k,Wy.ev_h,Wy.ev_bn,Wy.ev_d,tT,hi,hf,bne0,List.length_singleton,hb];revert hG;cases zbQ (toA l) (x.Args.getD i default) [] with
   | inl e=>intro he; simp [ofS,show e≠0 from he,zCQ]
   | inr b=>
    intro _;simp only [ofS,decide_true,Bool.not_true,cond_false,zb0,zR (show i<4611686018427387904 by omega)]
    rw [rr_8 x hl hg n (i+1) (xs++[b]) (by omega) (by omega) (by simp; omega)]
    cases ziE (toA l) (x.Args.drop (i+1)) with
    | inl e=>rfl
    | inr ys=>simp [zb0]
  ·simp only [Wy.ev_i,Wy.ev_k,Wy.ev_h,Wy.ev_bn,Wy.ev_d,tT,hi];rw [zc2 hi,zpT]; simp
theorem zbdL (x:Atom) (as_:yA) (hl:x.Items.length≤1000000) (hg:∀ w∈x.Items,g w.Ann l=(true,ofS (zbQ (toA l) w.Ann []))∧GS (zbQ (toA l) w.Ann [])):
  ∀ (n i:Nat) (xs:yE),x.Items.length<i+n→i≤x.Items.length→xs.length≤i→zCm g n l i x as_ xs=(true,match ze6 (toA l) (x.Items.drop i) with
   | .inl e=>.inl e
   | .inr ys=>.inr (x,as_,xs++ys))
 | 0,i,xs,h1,h2,_=>by omega
 | n+1,i,xs,h1,h2,hx=>by
  have hreach:reach=70368744177664:=rfl;show (zCs g l i x as_ xs).ev (fun x y=>zCm g n x.1 x.2.2.2.2.1 y.1 y.2.1 y.2.2.1) (fun r=>(true,r)) (false,.inl default)=_
  unfold zCs;by_cases hi:i<x.Items.length
  ·obtain ⟨hf,hG⟩:=hg _ (zt hi);have hb:decide ((xs.length+1)*56≤reach)=true:=by simp only [qe]; omega
   rw [zbB hi,zDT];simp only [Wy.ev_i,Wy.ev_k,Wy.ev_h,Wy.ev_bn,Wy.ev_d,tT,hi,hf,bne0,List.length_singleton,hb];revert hG;cases zbQ (toA l) (x.Items.getD i default).Ann [] with
   | inl e=>intro he; simp [ofS,show e≠0 from he,zCQ]
   | inr b=>
    intro _;simp only [ofS,decide_true,Bool.not_true,cond_false,zb0,zR (show i<4611686018427387904 by omega)]
    rw [zbdL x as_ hl hg n (i+1) (xs++[WeightedOf.mk (x.Items.getD i default).Value b]) (by omega) (by omega) (by simp; omega)]
    cases ze6 (toA l) (x.Items.drop (i+1)) with
    | inl e=>rfl
    | inr ys=>simp [zb0]
  ·simp only [Wy.ev_i,Wy.ev_k,Wy.ev_h,Wy.ev_bn,Wy.ev_d,tT,hi];rw [zc2 hi,zBN]; simp
theorem zbcG {x:Atom} (h:vatA x=true) (hk:x.Kind=1∨x.Kind=2∨x.Kind=3):x.Items=[]:=by
 cases zRr.1 h <;>simp_all
theorem zbed (hto:okB l) (x:Atom) (h:XG g l x):zDK g x l=(true,ofS (zdS (toA l) x)):=by
 unfold zDK zQC;have h8:=rr_8 g l x h.lens.1 h.ga (l.length+Int.toNat (0:Int)+x.Args.length+x.Items.length+(0:Nat)+(1:Nat)) 0 [] (by omega) (by omega) (by simp)
 rw [show ((0:Nat):Int)=(0:Int) from rfl,List.drop_zero] at h8
 have h16:=fun xs:yA=>zbdL g l x xs (by have:=h.lens.2; omega) h.gi (l.length+Int.toNat (0:Int)+x.Args.length+x.Items.length+xs.length+(0:Nat)+(1:Nat)) 0 [] (by omega) (by omega) (by simp)
 simp only [show ((0:Nat):Int)=(0:Int) from rfl,List.drop_zero,List.nil_append] at h16
 have b0:=beqd x.Kind 0;have b1:=beqd x.Kind 1;have b2:=beqd x.Kind 2;have b3:=beqd x.Kind 3;rw [Atom.eta,zNM];simp only [Wy.fin_i,Wy.fin_bn,Wy.fin_k,cond_true,h8,List.nil_append];by_cases hk0:x.Kind=0
 ·rw [b0,decide_eq_true hk0,if_pos hk0];obtain ⟨b,q,h1,h2⟩:=zbcY hto x.Row;simp only [cond_true,h1];rcases h2 with ⟨rfl,rfl⟩ | ⟨rfl,h2⟩
  ·rfl
  ·rw [h2]; simp only [cond_false,(zbbg x.Row).2]; rfl
 ·rw [b0,decide_eq_false hk0,if_neg hk0,cond_false];have hA:=h.sa;have hlen:=z4V h.va;revert hA;cases ziE (toA l) x.Args with
  | inl e=>intro _; rfl
  | inr xs=>
   intro hxs;have hxl:xs.length=x.Args.length∧∀ a∈xs,okA a:=hxs;have o0:=zF9 hxl.2 0;have o1:=zF9 hxl.2 1;simp only [isL,getR,cond_false,zb0,Atom.eta,h16];by_cases hk:x.Kind=1∨x.Kind=2∨x.Kind=3
   ·rw [zbcG h.va hk,zBN];simp only [cond_true,cond_false,isL,getR];rcases hk with hk1 | hk2 | hk3
    ·have:=hlen.1 hk1;rw [b1,decide_eq_true hk1,if_pos hk1];simp only [cond_true,show Int.toNat (0:Int)=0 from rfl,show Int.toNat (1:Int)=1 from rfl,(z6Z o0 o1).2,zCU (z4l o0 o1).2]
     simp [hxl.1,this]
    ·have:=hlen.2 (.inl hk2);have n1:¬ x.Kind=1:=by omega
     rw [b1,decide_eq_false n1,if_neg n1,cond_false,b2,decide_eq_true hk2,if_pos hk2];simp only [cond_true,show Int.toNat (0:Int)=0 from rfl,(z8q o0).2,zCU (z3A o0).2]
     simp [hxl.1,this]
    ·have:=hlen.2 (.inr hk3);have n1:¬ x.Kind=1:=by omega
     have n2:¬ x.Kind=2:=by omega
     rw [b1,decide_eq_false n1,if_neg n1,cond_false,b2,decide_eq_false n2,if_neg n2,cond_false,b3,decide_eq_true hk3,if_pos hk3];simp only [cond_true,show Int.toNat (0:Int)=0 from rfl,(z4H o0).2,zCU (z3k o0).2]
     simp [hxl.1,this]
   ·have n1:¬ x.Kind=1:=fun e=>hk (.inl e)
    have n2:¬ x.Kind=2:=fun e=>hk (.inr (.inl e))
    have n3:¬ x.Kind=3:=fun e=>hk (.inr (.inr e))
    rw [if_neg n1,if_neg n2,if_neg n3];have hI:=h.si;revert hI;cases ze6 (toA l) x.Items with
    | inl e=>intro _; rfl
    | inr is=>
     intro his;have ht:=z9F (f:=x.Func) (o:=x.Op) (b:=x.Bound) h.lens.2 his;simp only [cond_true,cond_false,isL,getR,b1,b2,b3,decide_eq_false n1,decide_eq_false n2,decide_eq_false n3,ht.2,zb0];have hw:=zpf h.wf;have hl:is.length=x.Items.length∧∀ w∈is,okA w.Ann∧∃ v∈x.Items,v.Value=w.Value:=his
     rw [zCU (zVl (by have:=h.lens.2; omega) (fun w hw'=>⟨(hl.2 w hw').1,by
      obtain ⟨v,hv,e⟩:=(hl.2 w hw').2;rw [← e]; exact (zh5 hw.2.1.1 v hv).1⟩) hw.2.2.2.2.2.1 hw.2.2.2.2.2.2 hw.2.2.1).2]
end
theorem zZh:∀ {l:yA} {a:yC},a∈l→zek a≤zqe l
 | [],_,h=>by cases h
 | x::r,a,h=>by
  rw [zW2];rcases qd.1 h with rfl | h
  ·omega
  ·have:=zZh h; omega
theorem zUU:∀ {l:yE} {w:Weighted},w∈l→zek w.Ann≤zlm l
 | [],_,h=>by cases h
 | x::r,a,h=>by
  rw [zIk];rcases qd.1 h with rfl | h
  ·omega
  ·have:=zUU h; omega
theorem zPH:∀ {l:yD} {f:Factor},f∈l→zF4 f.Atom≤zg9 l
 | [],_,h=>by cases h
 | x::r,a,h=>by
  rw [zM9];rcases qd.1 h with rfl | h
  ·omega
  ·have:=zPH h; omega
theorem z0X:∀ {l:yC} {t:Term},t∈l→zg9 t.Factors≤zek l
 | [],_,h=>by cases h
 | x::r,a,h=>by
  rw [zNU];rcases qd.1 h with rfl | h
  ·omega
  ·have:=z0X h; omega
theorem zVw:∀ {l:yE},(∀ w∈l,w.Ann≠[])→l.length≤zlm l
 | [],_=>by simp
 | x::r,h=>by
  rw [zIk];have:=zVw (l:=r) fun w hw=>h w (by simp [hw])
  have h1:1≤zek x.Ann:=by
   have:=h x (by simp)
   cases hx:x.Ann with
   | nil=>exact absurd hx this
   | cons t r=>rw [zNU]; omega
  simp only [qf];omega
mutual
def zzt:Atom→Prop
 | ⟨_,_,a,_,i,_,_⟩=>i.length<20∧zPI a∧zKk i
def zCZ:yD→Prop
 | []=>True
 | ⟨x,_⟩::r=>zzt x∧zCZ r
def zbM:yC→Prop
 | []=>True
 | ⟨_,fs⟩::r=>zCZ fs∧zbM r
def zPI:yA→Prop
 | []=>True
 | a::r=>zbM a∧zPI r
def zKk:yE→Prop
 | []=>True
 | ⟨_,a⟩::r=>zbM a∧zKk r
end
theorem zAB (x:Atom):zzt x↔x.Items.length<20∧zPI x.Args∧zKk x.Items:=by cases x; rw [zzt]
theorem zx2:∀ {l:yD},zCZ l↔∀ f∈l,zzt f.Atom
 | []=>by rw [zCZ]; simp
 | ⟨x,e⟩::r=>by rw [zCZ,zx2 (l:=r)]; simp
theorem zHA:∀ {l:yC},zbM l↔∀ t∈l,zCZ t.Factors
 | []=>by rw [zbM]; simp
 | ⟨x,e⟩::r=>by rw [zbM,zHA (l:=r)]; simp
theorem zwV:∀ {l:yA},zPI l↔∀ a∈l,zbM a
 | []=>by rw [zPI]; simp
 | a::r=>by rw [zPI,zwV (l:=r)]; simp
theorem zut:∀ {l:yE},zKk l↔∀ w∈l,zbM w.Ann
 | []=>by rw [zKk]; simp
 | ⟨x,e⟩::r=>by rw [zKk,zut (l:=r)]; simp
theorem z4M {m:Nat} {a:yC} (h:zbj (m+1) a=true):zeQ a=true∧∀ t∈a,t.Factors.length≤64∧∀ f∈t.Factors,(1≤f.Exp∧f.Exp≤64)∧f.Atom.Items.length≤1024∧zdt (zbj m) f.Atom=true:=by
 have hw:=zGU h;refine ⟨hw,fun t ht=> ?_⟩
 obtain ⟨l1,l2⟩:=(zwN hw).2.2.2 t ht;refine ⟨l1,fun f hf=> ?_⟩
 obtain ⟨⟨e1,_⟩,hv⟩:=zpe (zwv h ht).2 hf;exact ⟨⟨e1,(l2 f hf).1⟩,(l2 f hf).2,hv⟩
theorem zY3:∀ (m:Nat) (a:yC),zbj m a=true→zbj (m+1) a=true
 | 0,_,h=>by cases h
 | m+1,a,h=>by
  have h':vAnn (zdt (zbj m)) a=true:=h;obtain ⟨h1,h2,h3⟩:=zGc.1 h';refine (zGc (vat:=zdt (zbj (m+1)))).2 ⟨h1,h2,fun t ht=>⟨(h3 t ht).1,(h3 t ht).2.1,fun f hf=>⟨((h3 t ht).2.2 f hf).1, ?_⟩⟩⟩
  exact zcL.2 ((zcL.1 ((h3 t ht).2.2 f hf).2).imp (zY3 m))
theorem zz9:∀ {m:Nat} {a:yC},zbj m a=true→zG a=true:=by
 intro m a h
 have key:∀ k,zbj (m+k) a=true:=fun k=>by
  induction k with
  | zero=>exact h
  | succ k ih=>exact zY3 _ _ ih
 exact z7U (key 9) (by omega)
theorem zbdk {m:Nat} {x:Atom} (h:zdt (zbj m) x=true) (hm:m≤99):vatA x=true:=by
 refine zRr.2 ((zcL.1 h).imp fun a ha=> ?_)
 exact zz9 ha
theorem zY6 {V:yC→Bool} {x:Atom} (h:zdt V x=true):(∀ a∈x.Args,V a=true)∧∀ w∈x.Items,V w.Ann=true∧w.Ann≠[]:=by
 constructor
 ·cases zcL.1 h <;>simp_all
 ·cases zcL.1 h <;>simp_all
theorem zZB:∀ (m:Nat) (a:yC),zbj m a=true→zek a≤38→zbM a
 | 0,_,h,_=>by cases h
 | m+1,a,h,hs=>by
  obtain ⟨_,w2⟩:=z4M h;refine zHA.2 fun t ht=>zx2.2 fun f hf=>(zAB _).2 ?_
  have hv:=((w2 t ht).2 f hf).2.2;have h1:=zPH hf;have h2:=z0X ht;have h3:=z2q f.Atom;obtain ⟨hargs,hitems⟩:=zY6 hv;refine ⟨by have:=zVw fun w hw=>(hitems w hw).2; omega,zwV.2 fun b hb=>zZB m b (hargs b hb) (by have:=zZh hb; omega),zut.2 fun w hw=>zZB m w.Ann (hitems w hw).1 (by have:=zUU hw; omega)⟩
theorem zXp {l:yG} (hl:okB l):∀ n,
  (∀ m a,zbj m a=true→m≤99→zgr a→zbM a→2*m≤n→(zlI n a l=(true,ofS (zbQ (toA l) a []))∧zyW n a l=(true,ofS (zbQ (toA l) a [])))∧GS (zbQ (toA l) a []))∧
  (∀ m x,zdt (zbj m) x=true→m≤99→zgg x→x.Items.length≤1024→zzt x→2*m+1≤n→(zhF n x l=(true,ofS (zdS (toA l) x))∧zDG n x l=(true,ofS (zdS (toA l) x)))∧GS (zdS (toA l) x))
 | 0=>by
  refine ⟨fun m a h _ _ _ hm=> ?_,fun m x _ _ _ _ _ hm=>by omega⟩
  have:m=0:=by omega
  subst this; cases h
 | n+1=>by
  obtain ⟨h1,h2⟩:=zXp hl n;have ht:okT (toA l):=zbby hl.2;refine ⟨fun m a h h99 hw hs hm=> ?_,fun m x h h99 hw hi hs hm=> ?_⟩
  ·cases m with
   | zero=>cases h
   | succ m=>
    obtain ⟨w1,w2⟩:=z4M h;obtain ⟨a1,a2,a3,a4⟩:=zwN w1;have hwt:=fun t (ht:t∈a)=>zwY (ztF hw t ht)
    have hwf:=fun t (ht:t∈a) f (hf:f∈t.Factors)=>(zqH (zol (hwt t ht).2.1 f hf)).1
    have hA:∀ t∈a,∀ f∈t.Factors,((zhF n f.Atom l=(true,ofS (zdS (toA l) f.Atom))∧zDG n f.Atom l=(true,ofS (zdS (toA l) f.Atom)))∧GS (zdS (toA l) f.Atom)):=fun t ht f hf=>
     h2 m f.Atom ((w2 t ht).2 f hf).2.2 (by omega) (hwf t ht f hf) ((w2 t ht).2 f hf).2.1 (zx2.1 (zHA.1 hs t ht) f hf) (by omega)
    have hE:=fun t (ht:t∈a) f (hf:f∈t.Factors)=>((w2 t ht).2 f hf).1
    have hok:∀ t∈a,∀ p,okA p→GS (zdj (toA l) t.Factors p):=fun t ht' p hp=>zLh ht t.Factors 9 (fun f hf=>⟨hwf t ht' f hf,zw7 ((w2 t ht').2 f hf).2.2 ((w2 t ht').2 f hf).2.1⟩) p hp
    have hG:GS (zbQ (toA l) a []):=zSj ht a 9 hw (fun t ht f hf=>zw7 ((w2 t ht).2 f hf).2.2 ((w2 t ht).2 f hf).2.1) [] zjs
    refine ⟨⟨?_, ?_⟩,hG⟩
    ·rw [zME];exact rp_b _ l a (by omega) (fun t ht=>⟨by have:=(w2 t ht).1; omega,fun f hf=>⟨⟨(hA t ht f hf).1.1,(hA t ht f hf).2⟩,by have:=(hE t ht f hf).1; omega,by have:=(hE t ht f hf).2; omega⟩⟩) hok
    ·rw [zVp];exact rr_b _ l a (by omega) (fun t ht=>⟨by have:=(w2 t ht).1; omega,fun f hf=>⟨⟨(hA t ht f hf).1.2,(hA t ht f hf).2⟩,by have:=(hE t ht f hf).1; omega,by have:=(hE t ht f hf).2; omega⟩⟩) hok
  ·have hf:=zw7 h hi;have hw':=zpf hw;have hv:=zbdk h h99;obtain ⟨h20,s1,s2⟩:=(zAB x).1 hs;obtain ⟨hargs,hitems⟩:=zY6 h;have ga:=fun a (ha:a∈x.Args)=>h1 m a (hargs a ha) h99 (zjX hw'.1.1 a ha).1 (zwV.1 s1 a ha) (by omega)
   have gi:=fun w (hw:w∈x.Items)=>h1 m w.Ann (hitems w hw).1 h99 (zh5 hw'.2.1.1 w hw).2.1 (zut.1 s2 w hw) (by omega)
   have sa:=zWS ht x.Args 9 (fun a ha=>(zjX hw'.1.1 a ha).1) hf.2.1
   have si:=zSi ht x.Items 9 (fun w hw=>(zh5 hw'.2.1.1 w hw).2.1) fun w hw=>(hf.2.2 w hw).2
   refine ⟨⟨?_, ?_⟩,z4u ht x 9 hw hf⟩
   ·rw [zHy];exact zbd0 _ l hl x ⟨hv,⟨hf.1.1,h20⟩,fun a ha=>⟨(ga a ha).1.1,(ga a ha).2⟩,fun w hw=>⟨(gi w hw).1.1,(gi w hw).2⟩,sa,si,hw⟩
   ·rw [z1W];exact zbed _ l hl x ⟨hv,⟨hf.1.1,h20⟩,fun a ha=>⟨(ga a ha).1.2,(ga a ha).2⟩,fun w hw=>⟨(gi w hw).1.2,(gi w hw).2⟩,sa,si,hw⟩
def monU (a b:yC):yC:=if b=[] then a else if a=[]∨a=b then [] else oneA (monA a b)
def delU (a:yC):yC:=if a=[]∨isU a=true then a else if isC a=true then [⟨1,[]⟩] else oneA (delA a)
def absU (a:yC):yC:=if a=[] then [⟨1,[]⟩] else if hasC a=true then [] else oneA (absA a)
def tstU (f:Int) (l:yE) (o:Int) (b:Value):yC:=
 if 0<(zdX l).length then oneA (tstA f (zdX l) o b) else if (f==0&&mats o (cmpI 0 b.Int))=true then [⟨1,[]⟩] else []
theorem zbfJ {a b:yC} (h:(monR a b).2=0):(zG a=true∧zG b=true)∧monR a b=(monU a b,0):=by
 unfold monR at *;obtain ⟨h1,h2⟩:=zXu h;rw [qc] at h1;refine ⟨h1, ?_⟩;rw [h2] at h ⊢;unfold monU;split at h
 ·rename_i hb; rw [if_pos hb,if_pos hb]
 ·rename_i hb;rw [if_neg hb,if_neg hb];split at h
  ·rename_i hc; rw [if_pos hc,if_pos hc]
  ·rename_i hc; rw [if_neg hc,if_neg hc]; exact (zQJ h).2
theorem zbfp {a:yC} (h:(delR a).2=0):zG a=true∧delR a=(delU a,0):=by
 unfold delR at *;obtain ⟨h1,h2⟩:=zXu h;refine ⟨h1, ?_⟩;rw [h2] at h ⊢;unfold delU;split at h
 ·rename_i hb; rw [if_pos hb,if_pos hb]
 ·rename_i hb;rw [if_neg hb,if_neg hb];split at h
  ·rename_i hc; rw [if_pos hc,if_pos hc]
  ·rename_i hc; rw [if_neg hc,if_neg hc]; exact (zQJ h).2
theorem zbf2 {a:yC} (h:(absR a).2=0):zG a=true∧absR a=(absU a,0):=by
 unfold absR at *;obtain ⟨h1,h2⟩:=zXu h;refine ⟨h1, ?_⟩;rw [h2] at h ⊢;unfold absU;split at h
 ·rename_i hb; rw [if_pos hb,if_pos hb]
 ·rename_i hb;rw [if_neg hb,if_neg hb];split at h
  ·rename_i hc; rw [if_pos hc,if_pos hc]
  ·rename_i hc; rw [if_neg hc,if_neg hc]; exact (zQJ h).2
theorem zbeM {f o:Int} {l:yE} {b:Value} (h:(ztM f l o b).2=0):(fitK f l o b=true∧∀ w∈l,zG w.Ann=true)∧ztM f l o b=(tstU f l o b,0):=by
 unfold ztM at *;cases hk:fitK f l o b with
 | false=>rw [hk] at h; cases h
 | true=>
  rw [hk] at h;cases hv:l.all fun w=>zG w.Ann with
  | false=>rw [hv] at h; cases h
  | true=>
   rw [hv] at h;refine ⟨⟨rfl,fun w hw=>List.all_eq_true.1 hv w hw⟩, ?_⟩
   simp only [Bool.and_self,Bool.not_true,cond_false] at h ⊢;unfold tstU;by_cases hl:0<(zdX l).length
   ·rw [decide_eq_true hl,cond_true] at h;rw [decide_eq_true hl,cond_true,if_pos hl];exact (zQJ h).2
   ·rw [decide_eq_false hl,cond_false,if_neg hl];cases (f==0&&mats o (cmpI 0 b.Int)) <;>rfl
theorem zPk (x:Atom) (h:0≤x.Kind∧x.Kind≤4):PA (oneA x):=⟨by simp [oneA],fun t ht=>by
 simp only [oneA,qh] at ht; subst ht;refine ⟨⟨by simp,by simp⟩,by simp,fun f hf=> ?_⟩
 rw [qh] at hf; subst hf;exact ⟨⟨h,fun _=>rfl⟩,by simp⟩⟩
theorem zbeN {a b:yC} (ha:PA a):PA (monU a b):=by
 unfold monU;split
 ·exact ha
 ·split
  ·exact PA.nil
  ·exact zPk _ (by simp [monA])
theorem zbeD {a:yC} (ha:PA a):PA (delU a):=by
 unfold delU;split
 ·exact ha
 ·split
  ·exact zPz
  ·exact zPk _ (by simp [delA])
theorem zbdS (a:yC):PA (absU a):=by
 unfold absU;split
 ·exact zPz
 ·split
  ·exact PA.nil
  ·exact zPk _ (by simp [absA])
theorem z9d (f:Int) (l:yE) (o:Int) (b:Value):PA (tstU f l o b):=by
 unfold tstU;split
 ·exact zPk _ (by simp [tstA])
 ·split
  ·exact zPz
  ·exact PA.nil
def IdP (a:yC):Prop:=a=[]∨a=[⟨1,[]⟩]∨∃ x:Atom,(x.Kind=3∨x.Kind=4)∧a=oneA x
theorem zbeX (a:yC):IdP (absU a):=by
 unfold absU;split
 ·exact .inr (.inl rfl)
 ·split
  ·exact .inl rfl
  ·exact .inr (.inr ⟨_,.inl rfl,rfl⟩)
theorem z82 (f:Int) (l:yE) (o:Int) (b:Value):IdP (tstU f l o b):=by
 unfold tstU;split
 ·exact .inr (.inr ⟨_,.inr rfl,rfl⟩)
 ·split
  ·exact .inr (.inl rfl)
  ·exact .inl rfl
def powA (b:yC):Nat→yC
 | 0=>[⟨1,[]⟩]
 | n+1=>zcd b (powA b n)
theorem zp8 {b:yC} (hb:PA b):∀ n,PA (powA b n)
 | 0=>zPz
 | n+1=>zmT hb (zp8 hb n)
theorem z8b {b:yC} (hb:PA b):∀ n m,powA b (n+m)=zcd (powA b n) (powA b m)
 | 0,m=>by rw [Nat.zero_add]; exact (zbcP (zp8 hb m)).symm
 | n+1,m=>by
  rw [Nat.add_right_comm];show zcd b (powA b (n+m))=zcd (zcd b (powA b n)) (powA b m);rw [z8b hb n m,zD5 hb (zp8 hb n) (zp8 hb m)]
theorem z7i {b:yC} (hb:PA b):∀ (n:Nat) {p q:yC},PA p→powS b n p=.inr q→q=zcd p (powA b n)
 | 0,p,q,hp,h=>by cases h; exact (z0l hp).symm
 | n+1,p,q,hp,h=>by
  unfold powS opS at h;by_cases h0:(mulR p b).2=0
  ·rw [if_pos h0,zb0,(zbfC h0).2] at h;rw [z7i hb n (zmT hp hb) h];show zcd (zcd p b) (powA b n)=zcd p (zcd b (powA b n));rw [zD5 hp hb (zp8 hb n)]
  ·rw [if_neg h0] at h; cases h
section
variable (σ:Atom→yC)
def mvA:yD→yC
 | []=>[⟨1,[]⟩]
 | f::r=>zcd (powA (σ f.Atom) f.Exp.toNat) (mvA r)
def evU:yC→yC→yC
 | [],s=>s
 | t::r,s=>evU r (sumA s (zcd [⟨t.Coeff,[]⟩] (mvA σ t.Factors)))
def SG (x:Atom):Prop:=PA (σ x)∧(x.Kind=3∨x.Kind=4→IdP (σ x))
variable {σ}
theorem zPr:∀ {l:yD},(∀ f∈l,SG σ f.Atom)→PA (mvA σ l)
 | [],_=>zPz
 | f::r,h=>zmT (zp8 (h f (by simp)).1 _) (zPr fun g hg=>h g (by simp [hg]))
theorem z6H {c:Int} (h:1≤c∧c≤1152921504606846976):PA [⟨c,[]⟩]:=⟨by simp,fun t ht=>by
 rw [qh] at ht; subst ht;exact ⟨h,MF.nil⟩⟩
def EA (σ:Atom→yC) (a:yC):Prop:=PA a∧∀ t∈a,∀ f∈t.Factors,SG σ f.Atom
theorem z9Y {t:Term} (hc:cOK t) (h:∀ f∈t.Factors,SG σ f.Atom):PA (zcd [⟨t.Coeff,[]⟩] (mvA σ t.Factors)):=zmT (z6H hc) (zPr h)
theorem zbba:∀ {a s:yC},(∀ t∈a,cOK t∧∀ f∈t.Factors,SG σ f.Atom)→PA s→PA (evU σ a s)
 | [],s,_,hs=>hs
 | t::r,s,h,hs=>by
  rw [evU];exact zbba (fun u hu=>h u (by simp [hu])) (z2g hs (z9Y (h t (by simp)).1 (h t (by simp)).2))
theorem EA.p {a:yC} (h:EA σ a):∀ t∈a,cOK t∧∀ f∈t.Factors,SG σ f.Atom:=fun t ht=>⟨h.1.c t ht,h.2 t ht⟩
theorem EA.sum {a b:yC} (ha:EA σ a) (hb:EA σ b):EA σ (sumA a b):=⟨z2g ha.1 hb.1,fun t ht f hf=>by
 obtain ⟨x,hx,e⟩:=zDb b a ha.1.1 ht;rw [e] at hf;rcases hx with hx | hx
 ·exact ha.2 x hx f hf
 ·exact hb.2 x hx f hf⟩
end
end Go.Proofs.YtljlfiomikifjaaGreatDoor
end
