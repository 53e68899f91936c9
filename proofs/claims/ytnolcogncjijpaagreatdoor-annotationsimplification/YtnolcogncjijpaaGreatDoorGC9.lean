/- Texts of this claim, joined (the program, its functions in plain words, and what they compute). -/
import Derived.Test.YtnolcogncjijpaaGreatDoorGC7
import Derived.Test.YtnolcogncjijpaaGreatDoorGC8
import Derived.Test.YtnolcogncjijpaaGreatDoorGC4
set_option autoImplicit false
set_option linter.unusedVariables false
set_option linter.unusedSectionVars false
set_option linter.unusedSimpArgs false
set_option maxRecDepth 1000000
set_option maxHeartbeats 0
/- Sums and products of annotations are those of a commutative semiring. -/
noncomputable section
namespace Go.Proofs.YtnolcogncjijpaaGreatDoor
open Go Go.Ab
def MF (l:List Factor):Prop:=Srf l∧∀ f∈l,eOK f∧1≤f.Exp
theorem MF.tail {f:Factor} {l:List Factor} (h:MF (f::l)):MF l:=⟨(List.pairwise_cons.1 h.1).2,fun g hg=>h.2 g (by simp [hg])⟩
theorem MF.nil:MF []:=⟨List.Pairwise.nil,fun f hf=>by cases hf⟩
theorem cF_self' {x y:Factor} (h:x.Atom=y.Atom):cF x y=0:=by unfold cF; rw [h]; exact zI4 _
theorem MF.ne {f:Factor} {l:List Factor} (h:MF (f::l)):∀ g∈l,g.Atom≠f.Atom:=fun g hg e=>by
 have:=(List.pairwise_cons.1 h.1).1 g hg
 rw [cF_self' e.symm] at this; omega
theorem zO0 {a b:List Factor}:Srf a→Srf b→Srf (zby a b):=by
 induction a,b using zby.induct with
 | case1 b=>intro _ hb; rw [zby]; exact hb
 | case2 x a=>intro ha _; rw [zby]; exact ha
 | case3 x a y b h ih=>
  intro ha hb
  have ca:=List.pairwise_cons.1 ha
  rw [zby,if_pos h]
  refine List.pairwise_cons.2 ⟨fun z hz=> ?_,ih ca.2 hb⟩
  obtain ⟨w,hw,e⟩:=zpq hz
  have:cF x z=cF x w:=by unfold cF; rw [e]
  rw [this]
  rcases hw with hw | hw
  ·exact ca.1 w hw
  ·rcases List.mem_cons.1 hw with rfl | hw
   ·exact h
   ·exact zw6 h ((List.pairwise_cons.1 hb).1 w hw)
 | case4 x a y b h h2 ih=>
  intro ha hb
  have cb:=List.pairwise_cons.1 hb
  rw [zby,if_neg h,if_pos h2]
  have h3:cF y x<0:=by rw [zQi x y]; omega
  refine List.pairwise_cons.2 ⟨fun z hz=> ?_,ih ha cb.2⟩
  obtain ⟨w,hw,e⟩:=zpq hz
  have:cF y z=cF y w:=by unfold cF; rw [e]
  rw [this]
  rcases hw with hw | hw
  ·rcases List.mem_cons.1 hw with rfl | hw
   ·exact h3
   ·exact zw6 h3 ((List.pairwise_cons.1 ha).1 w hw)
  ·exact cb.1 w hw
 | case5 x a y b h h2 ih=>
  intro ha hb
  have ca:=List.pairwise_cons.1 ha
  have cb:=List.pairwise_cons.1 hb
  have h0:x.Atom=y.Atom:=zLQ (by omega)
  rw [zby,if_neg h,if_neg h2]
  have hA:(if x.Atom.Kind=3∨x.Atom.Kind=4 then x else ⟨x.Atom,x.Exp+y.Exp⟩:Factor).Atom=x.Atom:=by split <;>rfl
  refine List.pairwise_cons.2 ⟨fun z hz=> ?_,ih ca.2 cb.2⟩
  obtain ⟨w,hw,e⟩:=zpq hz
  have:cF (if x.Atom.Kind=3∨x.Atom.Kind=4 then x else ⟨x.Atom,x.Exp+y.Exp⟩:Factor) z=cF x w:=by unfold cF; rw [e,hA]
  rw [this]
  rcases hw with hw | hw
  ·exact ca.1 w hw
  ·have:cF x w=cF y w:=by unfold cF; rw [h0]
   rw [this]; exact cb.1 w hw
theorem zOL {a b:List Factor}:(∀ f∈a,eOK f∧1≤f.Exp)→(∀ f∈b,eOK f∧1≤f.Exp)→∀ f∈zby a b,eOK f∧1≤f.Exp:=by
 induction a,b using zby.induct with
 | case1 b=>intro _ hb; rw [zby]; exact hb
 | case2 x a=>intro ha _; rw [zby]; exact ha
 | case3 x a y b h ih=>
  intro ha hb f hf
  rw [zby,if_pos h] at hf
  rcases List.mem_cons.1 hf with rfl | hf
  ·exact ha _ (by simp)
  ·exact ih (fun g hg=>ha g (by simp [hg])) hb f hf
 | case4 x a y b h h2 ih=>
  intro ha hb f hf
  rw [zby,if_neg h,if_pos h2] at hf
  rcases List.mem_cons.1 hf with rfl | hf
  ·exact hb _ (by simp)
  ·exact ih ha (fun g hg=>hb g (by simp [hg])) f hf
 | case5 x a y b h h2 ih=>
  intro ha hb f hf
  rw [zby,if_neg h,if_neg h2] at hf
  rcases List.mem_cons.1 hf with rfl | hf
  ·have h1:=ha x (by simp)
   have h2:=hb y (by simp)
   split
   ·exact h1
   ·rename_i hk
    exact ⟨⟨h1.1.1,fun h=>absurd h hk⟩,by show 1≤x.Exp+y.Exp; omega⟩
  ·exact ih (fun g hg=>ha g (by simp [hg])) (fun g hg=>hb g (by simp [hg])) f hf
theorem zPE {a b:List Factor} (ha:MF a) (hb:MF b):MF (zby a b):=⟨zO0 ha.1 hb.1,zOL ha.2 hb.2⟩
def EqS (n m:Nat):Prop:=n=m∨(1152921504606846976≤n∧1152921504606846976≤m)
theorem EqS.refl (n:Nat):EqS n n:=.inl rfl
theorem EqS.symm {n m:Nat} (h:EqS n m):EqS m n:=by unfold EqS at *; omega
theorem EqS.trans {n m k:Nat} (h:EqS n m) (h':EqS m k):EqS n k:=by unfold EqS at *; omega
theorem EqS.add {n m n' m':Nat} (h:EqS n n') (h':EqS m m'):EqS (n+m) (n'+m'):=by unfold EqS at *; omega
theorem EqS.mul1 {n n':Nat} (k:Nat) (h:EqS n n'):EqS (n*k) (n'*k):=by
 rcases h with rfl | ⟨h1,h2⟩
 ·exact .refl _
 ·rcases Nat.eq_zero_or_pos k with rfl | hk
  ·exact .inl (by simp)
  ·exact .inr ⟨Nat.le_trans h1 (Nat.le_mul_of_pos_right n hk),Nat.le_trans h2 (Nat.le_mul_of_pos_right n' hk)⟩
theorem EqS.mul {n m n' m':Nat} (h:EqS n n') (h':EqS m m'):EqS (n*m) (n'*m'):=by
 refine (h.mul1 m).trans ?_
 rw [Nat.mul_comm n' m,Nat.mul_comm n' m']
 exact h'.mul1 n'
def PA (a:List Term):Prop:=Srs a∧∀ t∈a,cOK t∧MF t.Factors
theorem PA.c {a:List Term} (h:PA a):∀ t∈a,cOK t:=fun t ht=>(h.2 t ht).1
theorem PA.nil:PA []:=⟨List.Pairwise.nil,fun t ht=>by cases ht⟩
theorem zHH {c:Int} (h:c≤1152921504606846976):zrg c 1=c:=by
 unfold zrg
 rw [if_neg (by rw [Int.tdiv_one]; omega)]; omega
theorem zNB {a:List Term} (ha:∀ t∈a,cOK t):zfW a [⟨1,[]⟩]=a:=by
 induction a with
 | nil=>rfl
 | cons x a ih=>
  show ziF x ⟨1,[]⟩::zfW a [⟨1,[]⟩]=_
  rw [ih fun t ht=>ha t (by simp [ht])]
  congr 1
  unfold ziF
  rw [zHH (ha x (by simp)).2,zxO]
theorem zKg {a:List Term} (ha:PA a):ztz a [⟨1,[]⟩]=a:=by
 unfold ztz
 rw [zNB ha.c,sum_nil ha.1]
theorem zAZ {τ:Type} [Inhabited τ] {R:τ→τ→Prop}:∀ {l:List τ},l.Pairwise R→∀ k,0<k→k<l.length→R (l.getD (k - 1) default) (l.getD k default)
 | [],_,k,_,h=>by simp at h
 | x::r,h,0,h0,_=>by omega
 | x::r,h,1,_,h1=>(List.pairwise_cons.1 h).1 _ (zH (by simpa using h1))
 | x::r,h,k+2,_,h1=>zAZ (List.pairwise_cons.1 h).2 (k+1) (by omega) (by simp only [List.length_cons] at h1; omega)
def OKF (vat:Atom→Bool) (fs:List Factor):Prop:=Srf fs∧∀ f∈fs,(1≤f.Exp∧(f.Atom.Kind=3∨f.Atom.Kind=4→f.Exp=1))∧vat f.Atom=true
theorem zLW {vat:Atom→Bool} {fs:List Factor}:okF vat fs=true↔OKF vat fs:=by
 constructor
 ·intro h
  refine ⟨zrj (R:=fun x y=>cF x y<0) (fun x y z h1 h2=>zw6 h1 h2) _ fun k hk hl=> ?_,fun f hf=>znE h hf⟩
  have:=zd1.1 h k (by omega) (by omega)
  simp only [chkF,Bool.and_eq_true,Bool.or_eq_true,decide_eq_true_eq] at this
  rcases this.1.2 with e | e
  ·omega
  ·exact e
 ·intro h
  refine zd1.2 fun k _ hk=> ?_
  have hm:=h.2 _ (zH (l:=fs) (i:=k) (by omega))
  simp only [chkF,Bool.and_eq_true,Bool.or_eq_true,decide_eq_true_eq,Bool.not_eq_true',Bool.and_eq_false_iff]
  refine ⟨⟨⟨hm.1.1, ?_⟩, ?_⟩,hm.2⟩
  ·by_cases hk:(fs.getD k default).Atom.Kind=3∨(fs.getD k default).Atom.Kind=4
   ·right; rw [hm.1.2 hk]; rfl
   ·left
    rw [Bool.or_eq_false_iff]
    constructor
    ·simpa using fun e=>hk (.inl e)
    ·simpa using fun e=>hk (.inr e)
  ·by_cases h0:k=0
   ·exact .inl h0
   ·exact .inr (zAZ h.1 k (by omega) (by omega))
theorem zO3 {vat:Atom→Bool} {a:List Term}:vAnn vat a=true↔zhL a=true∧Srs a∧∀ t∈a,cOK t∧OKF vat t.Factors:=by
 constructor
 ·intro h
  have hall:=h
  simp only [vAnn,Bool.and_eq_true] at hall
  refine ⟨hall.1,zrj (R:=fun x y=>cT x y<0) (fun x y z h1 h2=>zAc h1 h2) a fun k hk hl=> ?_,fun t ht=>⟨(zqW h ht).1,zLW.1 (zqW h ht).2⟩⟩
  have:=zd1.1 hall.2 k (by omega) (by omega)
  simp only [chkT,Bool.and_eq_true,Bool.or_eq_true,decide_eq_true_eq] at this
  rcases this.1.2 with e | e
  ·omega
  ·exact e
 ·rintro ⟨h1,h2,h3⟩
  simp only [vAnn,Bool.and_eq_true]
  refine ⟨h1,zd1.2 fun k _ hk=> ?_⟩
  have hm:=h3 _ (zH (l:=a) (i:=k) (by omega))
  simp only [chkT,Bool.and_eq_true,Bool.or_eq_true,decide_eq_true_eq]
  refine ⟨⟨⟨hm.1.1,hm.1.2⟩, ?_⟩,zLW.2 hm.2⟩
  by_cases h0:k=0
  ·exact .inl h0
  ·exact .inr (zAZ h2 k (by omega) (by omega))
def QA (a:List Term):Prop:=Srs a∧∀ t∈a,cOK t∧OKF vatA t.Factors
theorem zyl {a:List Term}:zbD a=true↔zhL a=true∧QA a:=by rw [zHi]; exact zO3
theorem OKF.mf {fs:List Factor} (h:OKF vatA fs):MF fs:=⟨h.1,fun f hf=>⟨⟨zu0 (h.2 f hf).2,(h.2 f hf).1.2⟩,(h.2 f hf).1.1⟩⟩
theorem QA.pa {a:List Term} (h:QA a):PA a:=⟨h.1,fun t ht=>⟨(h.2 t ht).1,(h.2 t ht).2.mf⟩⟩
theorem zOn {a:List Term} (h:zbD a=true):QA a:=(zyl.1 h).2
theorem zLc {a:List Term} (h:zbD a=true):PA a:=(zOn h).pa
theorem zMQ {a:List Term} (h:zbD a=true):zhL a=true:=(zyl.1 h).1
theorem MF.okf {fs:List Factor} (h:MF fs) (hv:∀ f∈fs,vatA f.Atom=true):OKF vatA fs:=⟨h.1,fun f hf=>⟨⟨(h.2 f hf).2,(h.2 f hf).1.2⟩,hv f hf⟩⟩
theorem OKF.join {a b:List Factor} (ha:OKF vatA a) (hb:OKF vatA b):OKF vatA (zby a b):=(zPE ha.mf hb.mf).okf fun f hf=>by
 obtain ⟨y,hy,e⟩:=zpq hf
 rw [e]
 rcases hy with hy | hy
 ·exact (ha.2 y hy).2
 ·exact (hb.2 y hy).2
theorem QA.nil:QA []:=⟨List.Pairwise.nil,fun t ht=>by cases ht⟩
theorem zOs {c:Int} (h:1≤c∧c≤1152921504606846976):QA [⟨c,[]⟩]:=⟨by simp,fun t ht=>by
 rw [List.mem_singleton] at ht; subst ht
 exact ⟨h,List.Pairwise.nil,fun f hf=>by cases hf⟩⟩
theorem zPF {x:Atom} (h:vatA x=true):QA (oneA x):=⟨by simp [oneA],fun t ht=>by
 simp only [oneA,List.mem_singleton] at ht; subst ht
 refine ⟨⟨by simp,by simp⟩,by simp,fun f hf=> ?_⟩
 rw [List.mem_singleton] at hf; subst hf
 exact ⟨⟨by simp,fun _=>rfl⟩,h⟩⟩
theorem zLi {a:List Term} (h:(fitR a).2=0):zhL a=true∧fitR a=(a,0):=by
 unfold fitR at *
 cases hw:zhL a with
 | true=>exact ⟨rfl,rfl⟩
 | false=>rw [hw] at h; simp at h
theorem zPA {a:List Term} (h:zhL a=true):fitR a=(a,0):=by unfold fitR; rw [h]; rfl
theorem zMw {a b:List Term} (ha:zbD a=true) (hb:zbD b=true) (h:zhL (ztz a b)=true):mulR a b=(ztz a b,0):=by
 unfold mulR; rw [ha,hb,zPA h]; rfl
theorem zJz:zbD []=true:=zyl.2 ⟨by decide,QA.nil⟩
theorem zLE {c:Int} (h:1≤c∧c≤1152921504606846976):zbD [⟨c,[]⟩]=true:=zyl.2 ⟨by
 simp only [zhL,withF,zxd,zh1,zwT,zC9,zmq,zr3]; rfl,zOs h⟩
theorem zEY:zbD [⟨1,[]⟩]=true:=zLE (by omega)
theorem zOK {a:List Term} (h:zbD a=true):mulR a [⟨1,[]⟩]=(a,0):=by
 rw [zMw h zEY (by rw [zKg (zLc h)]; exact zMQ h),zKg (zLc h)]
theorem zLh {x:Atom}:vatA x=true↔VA zbD x:=zeQ
theorem zOy {a:List Term} (h:zbD a=true) (h0:a≠[]) (h1:isC a=false) (h2:isU a=false):vatA (delA a)=true:=zLh.2 (VA.del a h h0 h1 h2)
theorem zO9 {a:List Term} (h:zbD a=true) (h0:a≠[]) (h1:hasC a=false):vatA (absA a)=true:=zLh.2 (VA.abs a h h0 h1)
theorem zHa {x:Atom} (h:vatA x=true) (hw:zhL (oneA x)=true):zbD (oneA x)=true:=zyl.2 ⟨hw,zPF h⟩
theorem zPR {x:Atom} (h:x.Kind=3∨x.Kind=4):ztz (oneA x) (oneA x)=oneA x:=by
 have e:cF ⟨x,1⟩ ⟨x,1⟩=0:=cF_self' rfl
 show sumA [] [ziF ⟨1,[⟨x,1⟩]⟩ ⟨1,[⟨x,1⟩]⟩]=_
 have:zby [⟨x,1⟩] [⟨x,1⟩]=[⟨x,1⟩]:=by
  rw [zby,e,if_neg (by omega),if_neg (by omega),if_pos h,zby]
 unfold ziF
 simp only [this,zHH (show (1:Int)≤1152921504606846976 by omega)]
 rfl
theorem ne0 (z:Int):(z != 0)= !decide (z=0):=bne0 z 0
theorem zDW {a:List Term} (h:okA a) (b:List Term):zca a b=(true,decide (a=b)):=zqh h.1.1 (by omega) b
theorem zQJ {a b:List Term} (oa:okA a) (ob:okA b) (va:zbD a=true) (vb:zbD b=true):zeg 1 a b=(true,true):=by
 show (zhE a b).ev (zN zei default 0) (fun r=>(true,r)) (false,default)=_
 unfold zhE
 simp only [Wy.ev_i,Wy.ev_bn,Wy.ev_k,Wy.ev_d,(zDN oa ob).1,cond_true,zw3,ne0,beqd,zDW oa]
 by_cases h:(monR a b).2=0
 ·by_cases ha:a=[]
  ·simp [h,ha]
  ·by_cases hb:b=[]
   ·simp [h,ha,hb]
   ·by_cases hab:a=b
    ·simp [h,ha,hb,hab]
    ·have e:monR a b=fitR (oneA (monA a b)):=by
      unfold monR opR
      rw [va,vb,if_neg hb,if_neg (by simp [ha,hab])]; rfl
     rw [e] at h
     rw [e,(zLi h).2]
     simp only [ha,hb,hab,decide_false,decide_true,cond_false,Bool.not_true]
     simp [oneA,monA,zDW oa,zDW ob]
 ·simp [h]
theorem zQv {a b n:List Term} {i:Int} (oa:okA a) (ob:okA b) (va:zbD a=true) (vb:zbD b=true) (hn:absR a=(n,i)):zel 1 a b i n=(true,true):=by
 show (zhG a b i n).ev (zN zef default 0) (fun r=>(true,r)) (false,default)=_
 unfold zhG
 have on:okA n:=by have:=(zMh oa).1; rwa [hn] at this
 simp only [Wy.ev_i,Wy.ev_bn,Wy.ev_k,Wy.ev_d,(zQ1 on on).1,cond_true,zw3,ne0,beqd,zQJ oa ob va vb]
 by_cases hi:i=0
 ·by_cases h0:n=[]
  ·simp [hi,h0]
  ·have key:mulR n n=(n,0):=by
    subst hi
    unfold absR opR at hn
    rw [va,cond_true] at hn
    by_cases ha:a=[]
    ·rw [if_pos ha] at hn
     cases hn
     exact zOK zEY
    ·rw [if_neg ha] at hn
     by_cases hc:hasC a=true
     ·rw [if_pos hc] at hn; cases hn; exact absurd rfl h0
     ·rw [if_neg hc] at hn
      have h1:=zLi (a:=oneA (absA a)) (by rw [hn])
      rw [h1.2] at hn
      cases hn
      have hv:=zHa (zO9 va ha (by simpa using hc)) h1.1
      have hs:=zPR (x:=absA a) (.inl rfl)
      rw [zMw hv hv (by rw [hs]; exact h1.1),hs]
   simp only [key,zDW on]
   simp [hi,h0]
 ·simp [hi]
theorem zQ7 {a b:List Term} (oa:okA a) (ob:okA b) (va:zbD a=true) (vb:zbD b=true):zhD 1 a b=(true,true):=by
 show (zhI a b).ev (zN zeh default 0) (fun r=>(true,r)) (false,default)=_
 unfold zhI
 simp only [Wy.ev_i,Wy.ev_bn,Wy.ev_k,Wy.ev_d,(zNS oa).1,cond_true,zw3,beqd,zQv oa ob va vb (i:=(absR a).2) (n:=(absR a).1) rfl,zDW (zMh oa).1]
 by_cases ha:a=[]
 ·have:absR a=([⟨1,[]⟩],0):=by unfold absR opR; rw [va,if_pos ha]; rfl
  have e1:zkb.snd=[⟨1,[]⟩]:=rfl
  rw [this,e1]; simp [ha]
 ·simp [ha]
theorem zQs {a b d:List Term} {h:Int} (oa:okA a) (ob:okA b) (va:zbD a=true) (vb:zbD b=true) (hd:delR a=(d,h)):zlD 1 a b h d=(true,true):=by
 show (zhH a b h d).ev (zN zee default 0) (fun r=>(true,r)) (false,default)=_
 unfold zhH
 have od:okA d:=by have:=(zPX oa).1; rwa [hd] at this
 simp only [Wy.ev_i,Wy.ev_bn,Wy.ev_k,Wy.ev_d,(zKo od).1,cond_true,zw3,ne0,beqd,zQ7 oa ob va vb]
 by_cases hh:h=0
 ·have key:delR d=(d,0)∧(d=[]↔a=[]):=by
   subst hh
   unfold delR opR at hd
   rw [va,cond_true] at hd
   by_cases h1:a=[]∨isU a=true
   ·rw [if_pos h1] at hd
    cases hd
    refine ⟨?_,Iff.rfl⟩
    unfold delR opR
    rw [va,cond_true,if_pos h1]
   ·rw [if_neg h1] at hd
    by_cases h2:isC a=true
    ·rw [if_pos h2] at hd
     cases hd
     refine ⟨?_,by simp; exact fun e=>h1 (.inl e)⟩
     unfold delR opR
     rw [zEY]
     rfl
    ·rw [if_neg h2] at hd
     have h3:=zLi (a:=oneA (delA a)) (by rw [hd])
     rw [h3.2] at hd
     cases hd
     have hv:=zHa (zOy va (fun e=>h1 (.inl e)) (by simpa using h2) (by simpa using fun e=>h1 (.inr e))) h3.1
     refine ⟨?_,by simp [oneA]; exact fun e=>h1 (.inl e)⟩
     unfold delR opR
     rw [hv,cond_true,if_pos (.inr rfl)]
  rw [key.1]
  simp only [zDW od]
  by_cases ha:a=[]
  ·simp [hh,ha,key.2.2 ha]
  ·have hd0:¬ d=[]:=fun e=>ha (key.2.1 e)
   simp [hh,ha,hd0]
 ·simp [hh]
theorem zRp {a b:List Term} (oa:okA a) (ob:okA b) (va:zbD a=true) (vb:zbD b=true):zmi 1 a b=(true,true):=by
 show (zh2 a b).ev (zN zeC default 0) (fun r=>(true,r)) (false,default)=_
 unfold zh2
 have m1:monR a []=(a,0):=by unfold monR opR; rw [va,zJz,if_pos rfl]; rfl
 have m2:monR [] a=([],0):=by
  unfold monR opR
  rw [va,zJz]
  by_cases ha:a=[]
  ·rw [if_pos ha]; rfl
  ·rw [if_neg ha,if_pos (.inl rfl)]; rfl
 have m3:monR a a=([],0):=by
  unfold monR opR
  rw [va]
  by_cases ha:a=[]
  ·rw [if_pos ha,ha]; rfl
  ·rw [if_neg ha,if_pos (.inr rfl)]; rfl
 simp only [Wy.ev_i,Wy.ev_bn,Wy.ev_k,Wy.ev_d,(zDN oa zCx).1,(zDN zCx oa).1,(zDN oa oa).1,(zKo oa).1,m1,m2,m3,cond_true,zDW oa,zQs oa ob va vb (h:=(delR a).2) (d:=(delR a).1) rfl]
 simp
theorem zDj (a b:List Term) (ha:wf23 a) (hb:wf23 b):zc6 a b=(true,true):=by
 obtain ⟨q,h1,h2⟩:=zQM 60 (by omega) [a,b] (by simp) (fun x hx=>by
  simp only [List.mem_cons,List.not_mem_nil,or_false] at hx
  rcases hx with rfl | rfl
  ·exact ha
  ·exact hb)
 replace h1:zuy (60:Int) [a,b]=(true,q):=h1
 have key:zmh 1 a b=(true,true):=by
  show (zh3 a b).ev (zN zeD default 0) (fun r=>(true,r)) (false,default)=_
  unfold zh3
  rw [Wy.ev_bn,h1]
  cases q with
  | false=>rfl
  | true=>
   have oa:=zLZ (by omega) (h2 rfl a (by simp)) ha
   have ob:=zLZ (by omega) (h2 rfl b (by simp)) hb
   simp only [Wy.ev_i,Wy.ev_bn,Wy.ev_k,Wy.ev_d,cond_true,oa.valid,ob.valid,Bool.not_true,cond_false]
   cases va:zbD a with
   | false=>rfl
   | true=>
    cases vb:zbD b with
    | false=>rfl
    | true=>
     simp only [Bool.not_true,cond_false,zRp oa ob va vb,cond_true]
 unfold zc6 zin
 rw [Wy.fin_bn,key]
 rfl
end Go.Proofs.YtnolcogncjijpaaGreatDoor
end
