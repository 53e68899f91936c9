/- Texts of this claim, joined (the program, its functions in plain words, and what they compute). -/
import Derived.Test.YtljlfiomikifjaaGreatDoorGC8
set_option autoImplicit false
set_option linter.unusedVariables false
set_option linter.unusedSectionVars false
set_option linter.unusedSimpArgs false
set_option maxRecDepth 1000000
set_option maxHeartbeats 0
/- Sums and products of zH9 lists: two ways of computing them. -/
noncomputable section
namespace Go.Proofs.YtljlfiomikifjaaGreatDoor
open Go Go.Ab
def zDG (a b:Int):Int:=if 1152921504606846976<a+b then 1152921504606846976 else a+b
def cT (x y:Term):Int:=cmpL (zbF x.Factors) (zbF y.Factors)
theorem zZy {x y:Term} (h:cT x y=0):x.Factors=y.Factors:=zzD _ _ (zHB _ _ h)
theorem zMz {x y:Term} (h:x.Factors=y.Factors):cT x y=0:=by unfold cT; rw [h]; exact zSG _
def putA (t:Term):yC→yC
 | []=>[t]
 | x::r=>if cT x t<0 then x::putA t r else if cT x t=0 then ⟨zDG x.Coeff t.Coeff,t.Factors⟩::r else t::x::r
abbrev Srs (l:yC):Prop:=l.Pairwise fun x y=>cT x y<0
abbrev Dst (l:yC):Prop:=l.Pairwise fun x y=>x.Factors≠y.Factors
theorem Srs.dst {l:yC} (h:Srs l):Dst l:=h.imp fun {x y} hxy e=>by rw [zMz e] at hxy; omega
def SM (l:yC) (t y:Term):Prop:=(y∈l∧y.Factors≠t.Factors)∨(y.Factors=t.Factors∧((∃ x∈l,x.Factors=t.Factors∧y.Coeff=zDG x.Coeff t.Coeff)∨((∀ x∈l,x.Factors≠t.Factors)∧y.Coeff=t.Coeff)))
theorem z4P {x y:Term} (h1:x.Coeff=y.Coeff) (h2:x.Factors=y.Factors):x=y:=by cases x; cases y; simp_all
theorem zOg {x y z:Term} (h1:cT x y<0) (h2:cT y z<0):cT x z<0:=z13 h1 h2
theorem z5c (x y:Term):cT y x= - cT x y:=zDX _ _
theorem z5h {x t y:Term} {r:yC} (hx:x.Factors≠t.Factors) (hr:∀ z∈r,x.Factors≠z.Factors):SM (x::r) t y↔y=x∨SM r t y:=by
 unfold SM;constructor
 ·rintro (⟨h1,h2⟩ | ⟨h1,⟨z,hz,h2,h3⟩ | ⟨h2,h3⟩⟩)
  ·rcases qd.1 h1 with rfl | h1
   ·exact .inl rfl
   ·exact .inr (.inl ⟨h1,h2⟩)
  ·rcases qd.1 hz with rfl | hz
   ·exact absurd h2 hx
   ·exact .inr (.inr ⟨h1,.inl ⟨z,hz,h2,h3⟩⟩)
  ·exact .inr (.inr ⟨h1,.inr ⟨fun z hz=>h2 z (by simp [hz]),h3⟩⟩)
 ·rintro (rfl | ⟨h1,h2⟩ | ⟨h1,⟨z,hz,h2,h3⟩ | ⟨h2,h3⟩⟩)
  ·exact .inl ⟨by simp,hx⟩
  ·exact .inl ⟨by simp [h1],h2⟩
  ·exact .inr ⟨h1,.inl ⟨z,by simp [hz],h2,h3⟩⟩
  ·exact .inr ⟨h1,.inr ⟨fun z hz=>by
    rcases qd.1 hz with rfl | hz
    ·exact hx
    ·exact h2 z hz,h3⟩⟩
theorem z4V {t y:Term} {l:yC} (h:∀ z∈l,z.Factors≠t.Factors):SM l t y↔y=t∨y∈l:=by
 unfold SM;constructor
 ·rintro (⟨h1,h2⟩ | ⟨h1,⟨z,hz,h2,h3⟩ | ⟨h2,h3⟩⟩)
  ·exact .inr h1
  ·exact absurd h2 (h z hz)
  ·exact .inl (z4P h3 h1)
 ·rintro (rfl | h1)
  ·exact .inr ⟨rfl,.inr ⟨h,rfl⟩⟩
  ·exact .inl ⟨h1,h y h1⟩
theorem z9O {x t y:Term} {r:yC} (hx:x.Factors=t.Factors) (hr:∀ z∈r,z.Factors≠t.Factors):SM (x::r) t y↔y=⟨zDG x.Coeff t.Coeff,t.Factors⟩∨y∈r:=by
 unfold SM;constructor
 ·rintro (⟨h1,h2⟩ | ⟨h1,⟨z,hz,h2,h3⟩ | ⟨h2,h3⟩⟩)
  ·rcases qd.1 h1 with rfl | h1
   ·exact absurd hx h2
   ·exact .inr h1
  ·rcases qd.1 hz with rfl | hz
   ·exact .inl (z4P h3 h1)
   ·exact absurd h2 (hr z hz)
  ·exact absurd hx (h2 x (by simp))
 ·rintro (rfl | h1)
  ·exact .inr ⟨rfl,.inl ⟨x,by simp,hx,rfl⟩⟩
  ·exact .inl ⟨by simp [h1],hr y h1⟩
theorem zTW {t y:Term}:∀ {l:yC},Srs l→(y∈putA t l↔SM l t y)
 | [],_=>by rw [z4V (by simp)]; simp [putA]
 | x::r,h=>by
  have hc:=qi.1 h;have hd:=qi.1 h.dst;unfold putA;by_cases h1:cT x t<0
  ·rw [if_pos h1,qd,z5h (fun e=>by rw [zMz e] at h1; omega) hd.1,zTW hc.2]
  ·rw [if_neg h1];by_cases h2:cT x t=0
   ·rw [if_pos h2,List.mem_cons,z9O (zZy h2) fun z hz e=>by
     have:=hc.1 z hz; rw [zMz ((zZy h2).trans e.symm)] at this; omega]
   ·rw [if_neg h2,z4V fun z hz e=>by
     have a:=z5c x t;rcases qd.1 hz with rfl | hz
     ·exact h2 (zMz e)
     ·have b:=zOg (show cT t x<0 by omega) (hc.1 z hz)
      rw [zMz e.symm] at b; omega]
    rw [qd]
theorem zMB {t:Term}:∀ {l:yC},Srs l→Srs (putA t l)
 | [],_=>by simp [putA]
 | x::r,h=>by
  have hc:=qi.1 h;unfold putA;by_cases h1:cT x t<0
  ·rw [if_pos h1];refine qi.2 ⟨fun z hz=> ?_,zMB hc.2⟩
   rcases (zTW hc.2).1 hz with ⟨h2,_⟩ | ⟨h2,_⟩
   ·exact hc.1 z h2
   ·have:cT x z=cT x t:=by unfold cT; rw [h2]
    rw [this]; exact h1
  ·rw [if_neg h1];by_cases h2:cT x t=0
   ·rw [if_pos h2];refine qi.2 ⟨fun z hz=> ?_,hc.2⟩
    have:=hc.1 z hz;unfold cT at this ⊢;rw [← zZy h2]; exact this
   ·rw [if_neg h2];have a:=z5c x t;refine qi.2 ⟨fun z hz=> ?_,h⟩
    rcases qd.1 hz with rfl | hz
    ·omega
    ·exact zOg (show cT t x<0 by omega) (hc.1 z hz)
def sumA (a b:yC):yC:=b.foldl (fun a t=>putA t a) a
theorem z0y:∀ (b a:yC),Srs a→Srs (sumA a b)
 | [],_,h=>h
 | t::r,a,h=>z0y r (putA t a) (zMB h)
theorem zMC {y:Term}:∀ (b a:yC),Srs a→y∈sumA a b→∃ x,(x∈a∨x∈b)∧y.Factors=x.Factors
 | [],a,_,h=>⟨y,.inl h,rfl⟩
 | t::r,a,hs,h=>by
  obtain ⟨x,hx,e⟩:=zMC r (putA t a) (zMB hs) h;rcases hx with hx | hx
  ·rcases (zTW hs).1 hx with ⟨h1,_⟩ | ⟨h1,_⟩
   ·exact ⟨x,.inl h1,e⟩
   ·exact ⟨t,.inr (by simp),e.trans h1⟩
  ·exact ⟨x,.inr (by simp [hx]),e⟩
theorem z6l {a b:Int} (ha:1≤a) (hb:1≤b):1≤zDG a b∧zDG a b≤1152921504606846976:=by
 unfold zDG;split
 ·omega
 ·omega
def cOK (t:Term):Prop:=1≤t.Coeff∧t.Coeff≤1152921504606846976
theorem z5G {t:Term} (ht:cOK t):∀ {l:yC},(∀ x∈l,cOK x)→∀ x∈putA t l,cOK x
 | [],_,x,hx=>by simp only [putA,qh] at hx; subst hx; exact ht
 | y::r,h,x,hx=>by
  unfold putA at hx;split at hx
  ·rcases qd.1 hx with rfl | hx
   ·exact h _ (by simp)
   ·exact z5G ht (fun z hz=>h z (by simp [hz])) x hx
  ·split at hx
   ·rcases qd.1 hx with rfl | hx
    ·exact z6l (h y (by simp)).1 ht.1
    ·exact h x (by simp [hx])
   ·rcases qd.1 hx with rfl | hx
    ·exact ht
    ·exact h x hx
theorem z8k:∀ (b:yC) {a:yC},(∀ x∈a,cOK x)→(∀ x∈b,cOK x)→∀ x∈sumA a b,cOK x
 | [],a,ha,_=>ha
 | t::r,a,ha,hb=>z8k r (z5G (hb t (by simp)) ha) fun x hx=>hb x (by simp [hx])
theorem z0e {t:Term}:∀ (l:yC),(putA t l).length≤l.length+1
 | []=>by simp [putA]
 | x::r=>by
  have:=z0e (t:=t) r;unfold putA;split
  ·simp only [qf]; omega
  ·split <;>simp
theorem zUd:∀ (b a:yC),(sumA a b).length≤a.length+b.length
 | [],a=>by simp [sumA]
 | t::r,a=>by
  have h1:=zUd r (putA t a);have h2:=z0e (t:=t) a;show (sumA (putA t a) r).length≤_;simp only [qf]; omega
def cF (x y:Factor):Int:=cmpT (zdI x.Atom) (zdI y.Atom)
theorem z0t {x y:Factor} (h:cF x y=0):x.Atom=y.Atom:=zPK _ _ (zwb _ _ h)
theorem zZQ (x y:Factor):cF y x= - cF x y:=zun _ _
theorem z1F {a b c:TT} (h1:cmpT a b<0) (h2:cmpT b c<0):cmpT a c<0:=by
 have h:=zPn a b c (by omega) (by omega)
 by_cases e:cmpT a c=0
 ·have e':=zwb a c e;subst e';have:=zun a b;omega
 ·omega
theorem zxh {x y z:Factor} (h1:cF x y<0) (h2:cF y z<0):cF x z<0:=z1F h1 h2
abbrev Srf (l:yD):Prop:=l.Pairwise fun x y=>cF x y<0
def facA (f:Factor):yD→yD
 | []=>[f]
 | x::r=>if cF x f<0 then x::facA f r else if cF x f=0 then (if f.Atom.Kind<3 then ⟨f.Atom,x.Exp+f.Exp⟩ else f)::r else f::x::r
def zbM:yD→yD→yD
 | [],b=>b
 | x::a,[]=>x::a
 | x::a,y::b=>if cF x y<0 then x::zbM a (y::b) else if 0<cF x y then y::zbM (x::a) b else (if x.Atom.Kind=3∨x.Atom.Kind=4 then x else ⟨x.Atom,x.Exp+y.Exp⟩)::zbM a b
termination_by a b=>a.length+b.length
theorem zKv (a:yD):zbM a []=a:=by cases a <;>rw [zbM]
theorem zH8 {m:Factor} {L b:yD} (h:∀ z∈b,cF m z<0):zbM (m::L) b=m::zbM L b:=by
 cases b with
 | nil=>rw [zKv,zKv]
 | cons z b=>rw [zbM,if_pos (h z (by simp))]
def eOK (f:Factor):Prop:=(0≤f.Atom.Kind∧f.Atom.Kind≤4)∧(f.Atom.Kind=3∨f.Atom.Kind=4→f.Exp=1)
theorem z3D {y:Factor} {b:yD} (hb:∀ z∈b,cF y z<0) (hy:eOK y):∀ {a:yD},(∀ x∈a,eOK x)→zbM (facA y a) b=zbM a (y::b)
 | [],_=>by
  rw [facA,zH8 hb,zbM,zbM]
 | x::a,ha=>by
  unfold facA;by_cases h1:cF x y<0
  ·rw [if_pos h1,zH8 fun z hz=>zxh h1 (hb z hz),z3D hb hy fun z hz=>ha z (by simp [hz]),zH8 (m:=x) (b:=y::b) fun z hz=>by
    rcases qd.1 hz with rfl | hz
    ·exact h1
    ·exact zxh h1 (hb z hz)]
  ·rw [if_neg h1];by_cases h2:cF x y=0
   ·have ea:=z0t h2
    rw [if_pos h2,zH8 fun z hz=>by
     have e:(if y.Atom.Kind<3 then (⟨y.Atom,x.Exp+y.Exp⟩:Factor) else y).Atom=y.Atom:=by split <;>rfl
     have:=hb z hz;unfold cF at this ⊢; rw [e]; exact this]
    rw [zbM,if_neg h1,if_neg (show ¬ 0<cF x y by omega)]
    congr 1;have hx:=ha x (by simp)
    obtain ⟨xa,xe⟩:=x;obtain ⟨ya,ye⟩:=y;simp only at ea;subst ea;obtain ⟨⟨k0,k4⟩,h3⟩:=hx;obtain ⟨_,h3'⟩:=hy;simp only at k0 k4 h3 h3' ⊢;by_cases hk:xa.Kind<3
    ·rw [if_pos hk,if_neg (by omega)]
    ·have hk':xa.Kind=3∨xa.Kind=4:=by omega
     rw [if_neg hk,if_pos hk',h3 hk',h3' hk']
   ·rw [if_neg h2,zH8 hb];rw [zbM,if_neg h1,if_pos (by omega)]
theorem zPz:∀ (b a:yD),Srf b→(∀ x∈a,eOK x)→(∀ x∈b,eOK x)→b.foldl (fun l f=>facA f l) a=zbM a b
 | [],a,_,_,_=>by rw [zKv]; rfl
 | y::b,a,hs,ha,hb=>by
  have hc:=qi.1 hs;have hy:=hb y (by simp)
  rw [List.foldl_cons,zPz b (facA y a) hc.2 (fun x hx=> ?_) fun x hx=>hb x (by simp [hx]),z3D hc.1 hy ha]
  -- kinds and exponents are kept
  clear hs hc hb;induction a with
  | nil=>simp only [facA,qh] at hx; subst hx; exact hy
  | cons z r ih=>
   unfold facA at hx;split at hx
   ·rcases qd.1 hx with rfl | hx
    ·exact ha _ (by simp)
    ·exact ih (fun w hw=>ha w (by simp [hw])) hx
   ·split at hx
    ·rcases qd.1 hx with rfl | hx
     ·split
      ·rename_i hk; exact ⟨hy.1,fun h=>by simp only at h; omega⟩
      ·exact hy
     ·exact ha x (by simp [hx])
    ·rcases qd.1 hx with rfl | hx
     ·exact hy
     ·exact ha x hx
theorem zsk {x:Factor}:∀ {a b:yD},x∈zbM a b→∃ y,(y∈a∨y∈b)∧x.Atom=y.Atom
 | [],b,h=>⟨x,.inr (by rwa [zbM] at h),rfl⟩
 | y::a,[],h=>⟨x,.inl (by rwa [zbM] at h),rfl⟩
 | y::a,z::b,h=>by
  rw [zbM] at h;split at h
  ·rcases qd.1 h with rfl | h
   ·exact ⟨x,.inl (by simp),rfl⟩
   ·obtain ⟨w,hw,e⟩:=zsk h;rcases hw with hw | hw
    ·exact ⟨w,.inl (by simp [hw]),e⟩
    ·exact ⟨w,.inr hw,e⟩
  ·split at h
   ·rcases qd.1 h with rfl | h
    ·exact ⟨x,.inr (by simp),rfl⟩
    ·obtain ⟨w,hw,e⟩:=zsk h;rcases hw with hw | hw
     ·exact ⟨w,.inl hw,e⟩
     ·exact ⟨w,.inr (by simp [hw]),e⟩
   ·rcases qd.1 h with rfl | h
    ·exact ⟨y,.inl (by simp),by split <;>rfl⟩
    ·obtain ⟨w,hw,e⟩:=zsk h;rcases hw with hw | hw
     ·exact ⟨w,.inl (by simp [hw]),e⟩
     ·exact ⟨w,.inr (by simp [hw]),e⟩
termination_by a b=>a.length+b.length
theorem zDq:∀ (a b:yD),(zbM a b).length≤a.length+b.length
 | [],b=>by rw [zbM]; simp
 | y::a,[]=>by rw [zbM]; simp
 | y::a,z::b=>by
  rw [zbM];split
  ·have:=zDq a (z::b); simp only [qf] at this ⊢; omega
  ·split
   ·have:=zDq (y::a) b; simp only [qf] at this ⊢; omega
   ·have:=zDq a b; simp only [qf] at this ⊢; omega
termination_by a b=>a.length+b.length
theorem zHN {x:Factor} {B:Int}:∀ {a b:yD},(∀ y∈a,1≤y.Exp∧y.Exp≤B)→(∀ y∈b,1≤y.Exp∧y.Exp≤B)→x∈zbM a b→1≤x.Exp∧x.Exp≤2*B
 | [],b,ha,hb,h=>by rw [zbM] at h; have:=hb x h; omega
 | y::a,[],ha,hb,h=>by rw [zbM] at h; have:=ha x h; omega
 | y::a,z::b,ha,hb,h=>by
  have hy:=ha y (by simp)
  have hz:=hb z (by simp)
  rw [zbM] at h;split at h
  ·rcases qd.1 h with rfl | h
   ·omega
   ·exact zHN (fun w hw=>ha w (by simp [hw])) hb h
  ·split at h
   ·rcases qd.1 h with rfl | h
    ·omega
    ·exact zHN ha (fun w hw=>hb w (by simp [hw])) h
   ·rcases qd.1 h with rfl | h
    ·split
     ·omega
     ·simp only; omega
    ·exact zHN (fun w hw=>ha w (by simp [hw])) (fun w hw=>hb w (by simp [hw])) h
termination_by a b=>a.length+b.length
def zBD (a b:Int):Int:=if Int.tdiv 1152921504606846976 b<a then 1152921504606846976 else a*b
def zmE (x y:Term):Term:=⟨zBD x.Coeff y.Coeff,zbM x.Factors y.Factors⟩
def zvq (a b:yC):yC:=a.flatMap fun x=>b.map (zmE x)
def zKQ (a b:yC):yC:=sumA [] (zvq a b)
theorem zZg {a b:Int} (ha:1≤a∧a≤1152921504606846976) (hb:1≤b∧b≤1152921504606846976):(1≤zBD a b∧zBD a b≤1152921504606846976)∧(¬ Int.tdiv 1152921504606846976 b<a→a*b≤1152921504606846976):=by
 have h1:¬ Int.tdiv 1152921504606846976 b<a→a*b≤1152921504606846976:=fun h=>by
  rw [Int.tdiv_eq_ediv_of_nonneg (by omega)] at h
  have h2:a≤1152921504606846976 / b:=by omega
  exact (Int.le_ediv_iff_mul_le (by omega)).1 h2
 refine ⟨?_,h1⟩;unfold zBD;split
 ·omega
 ·rename_i h;refine ⟨?_,h1 h⟩;have:=Int.mul_le_mul ha.1 hb.1 (by omega) (by omega)
  omega
theorem z01 {t:Term} {a b:yC} (h:t∈zvq a b):∃ x∈a,∃ y∈b,t=zmE x y:=by
 obtain ⟨x,hx,ht⟩:=List.mem_flatMap.1 h;obtain ⟨y,hy,rfl⟩:=List.mem_map.1 ht;exact ⟨x,hx,y,hy,rfl⟩
theorem z60 (a b:yC):(zvq a b).length=a.length*b.length:=by
 unfold zvq;induction a with
 | nil=>simp
 | cons x r ih=>rw [List.flatMap_cons,qg,ih,List.length_map,qf,Nat.add_mul]; omega
section
variable {α β ρ τ:Type} [Inhabited τ]
theorem zZM (p:τ→Bool):∀ l:List τ,l.take (l.takeWhile p).length=l.takeWhile p
 | []=>rfl
 | x::r=>by
  rw [List.takeWhile_cons];cases p x with
  | true=>simp [zZM p r]
  | false=>simp
theorem z0u (p:τ→Bool):∀ l:List τ,l.drop (l.takeWhile p).length=l.dropWhile p
 | []=>rfl
 | x::r=>by
  rw [List.takeWhile_cons,List.dropWhile_cons];cases p x with
  | true=>simp [z0u p r]
  | false=>simp
theorem z00 {W:α→β→Wy α β ρ} {z:ρ} (l:List τ) (p:τ→Bool) (ex:Nat→α) (ey:Nat→β) (res:Nat→ρ)
  (h:∀ i,i<l.length→∀ (H:α→β→Bool×ρ) K D,(W (ex i) (ey i)).ev H K D=bif p (l.getD i default) then H (ex (i+1)) (ey (i+1)) else K (res i))
  (he:∀ (H:α→β→Bool×ρ) K D,(W (ex l.length) (ey l.length)).ev H K D=K (res l.length)):
  ∀ n i,l.length<i+n→i≤l.length→zJ W z n (ex i) (ey i)=(true,res (i+((l.drop i).takeWhile p).length))
 | 0,i,h1,h2=>by omega
 | n+1,i,h1,h2=>by
  show (W (ex i) (ey i)).ev (zJ W z n) (fun r=>(true,r)) (false,z)=_
  by_cases hi:i<l.length
  ·rw [h i hi,zbT hi,List.takeWhile_cons];cases hp:p (l.getD i default) with
   | false=>simp
   | true=>
    rw [cond_true,z00 l p ex ey res h he n (i+1) (by omega) (by omega)]
    simp only [if_true,qf];congr 2; omega
  ·have:i=l.length:=by omega
   subst this;rw [he,zez hi]; rfl
theorem zY4 {W:α→β→Wy α β ρ} {z:ρ} (l:List τ) (p:τ→Bool) (ex:Nat→α) (ey:Nat→β) (res:Nat→ρ)
  (h:∀ i,i<l.length→∀ (H:α→β→Bool×ρ) K D,(W (ex i) (ey i)).ev H K D=bif p (l.getD i default) then H (ex (i+1)) (ey (i+1)) else K (res i))
  (he:∀ (H:α→β→Bool×ρ) K D,(W (ex l.length) (ey l.length)).ev H K D=K (res l.length)) (n:Nat) (hn:l.length<n):
  zJ W z n (ex 0) (ey 0)=(true,res (l.takeWhile p).length):=by
 have:=z00 (z:=z) l p ex ey res h he n 0 (by omega) (by omega)
 simpa using this
end
theorem z41 {τ:Type} (l:List τ) (k:Nat):List.take (k - Int.toNat 0) (List.drop (Int.toNat 0) l)=l.take k:=by simp
theorem zM1 {τ:Type} (l:List τ) (k:Nat):List.take ((Int.ofNat l.length).toNat - k) (List.drop k l)=l.drop k:=by
 simp only [Int.ofNat_eq_natCast,Int.toNat_natCast];rw [List.take_of_length_le (by simp)]
def hasA (w:Weighted):Bool:=decide (0<w.Ann.length)
def zmn (l:yE):yE:=zhE zbt (l.filter hasA)
def mats (op sign:Int):Bool:=bif op==5 then sign==0 else bif op==6 then sign != 0 else bif op==7 then decide (sign<0) else bif op==8 then decide (sign≤0) else bif op==9 then decide (sign>0) else decide (sign≥0)
def tstA (fn:Int) (l:yE) (op:Int) (b:Value):Atom:=⟨4,⟨0,0⟩,[],fn,l,op,b⟩
def zYk (fn:Int) (items:yE) (op:Int) (b:Value):yC×Int:=
 bif !(fitK fn items op b&&items.all fun w=>zd3 w.Ann) then ([],1) else
 bif decide (0<(zmn items).length) then fitR (oneA (tstA fn (zmn items) op b)) else
 bif fn==0&&mats op (cmpI 0 b.Int) then ([⟨1,[]⟩],0) else ([],0)
theorem zHb {l:yE} {w:Weighted} (h:w∈zmn l):w∈l∧w.Ann≠[]:=by
 have:=(zkb _ _).mem_iff.1 h;obtain ⟨h1,h2⟩:=List.mem_filter.1 this;refine ⟨h1,fun e=> ?_⟩
 rw [hasA,e] at h2; simp at h2
theorem zXT (l:yE):(zmn l).length=(l.filter hasA).length:=(zkb _ _).length_eq
theorem zS2 {B:Nat}:∀ l:yE,(∀ w∈l,zT w.Ann≤B)→zdt l≤l.length*(B+1)
 | [],_=>by rw [zl2]; simp
 | w::r,h=>by
  rw [ziV,qf];have h1:=h w (by simp)
  have h2:=zS2 r fun w hw=>h w (by simp [hw])
  rw [Nat.add_mul]; omega
theorem z7C {fn:Int} {l:yE} {op:Int} {b:Value} (hl:l.length≤1000000) (hf:fitK fn l op b=true) (hv:(l.all fun w=>zd3 w.Ann)=true):zA 10 (oneA (tstA fn (zmn l) op b))∧zT (oneA (tstA fn (zmn l) op b))≤4611686018427387904:=by
 obtain ⟨_,hb,hit⟩:=zA8 hf;have hvv:∀ w∈l,zd3 w.Ann=true:=fun w hw=>List.all_eq_true.1 hv w hw
 have hlen:(zmn l).length≤1000000:=by rw [zXT]; exact Nat.le_trans (List.length_filter_le _ _) hl
 constructor
 ·refine zKu ⟨⟨by simp [tstA],hlen,by have:=zAa hb; simp only [tstA]; omega⟩,fun y hy=>(by cases hy),fun w hw=> ?_⟩
  have hm:=(zHb hw).1;exact ⟨by have:=zAa (hit w hm).1; omega,(zgH (hvv w hm)).1⟩
 ·rw [z3q,ziS];have h1:zdt (zmn l)≤(zmn l).length*(4096+1):=zS2 _ fun w hw=>(zgH (hvv w (zHb hw).1)).2.1
  show 2+(zey []+zdt (zmn l))≤_;rw [zoq];have:=Nat.mul_le_mul hlen (Nat.le_refl (4096+1));omega
def insT (t:Term):yC→yC
 | []=>[t]
 | x::r=>if cT x t=0 then ⟨zDG x.Coeff t.Coeff,t.Factors⟩::r else t::x::r
def insF (f:Factor):yD→yD
 | []=>[f]
 | x::r=>if cF x f=0 then (if f.Atom.Kind<3 then ⟨f.Atom,x.Exp+f.Exp⟩ else f)::r else f::x::r
theorem z8U {t:Term} {l:yC} {k:Nat} (hk:k<l.length):insT t (l.drop k)=if cT (l.getD k default) t=0 then ⟨zDG (l.getD k default).Coeff t.Coeff,t.Factors⟩::l.drop (k+1) else t::l.drop k:=by
 rw [zbT hk]; rfl
theorem z9n {f:Factor} {l:yD} {k:Nat} (hk:k<l.length):insF f (l.drop k)=if cF (l.getD k default) f=0 then (if f.Atom.Kind<3 then ⟨f.Atom,(l.getD k default).Exp+f.Exp⟩ else f)::l.drop (k+1) else f::l.drop k:=by
 rw [zbT hk]; rfl
theorem z4T (t:Term):∀ l:yC,putA t l=l.takeWhile (fun x=>decide (cT x t<0))++insT t (l.dropWhile (fun x=>decide (cT x t<0)))
 | []=>rfl
 | x::r=>by
  rw [List.takeWhile_cons,List.dropWhile_cons];unfold putA;by_cases h:cT x t<0
  ·simp only [h,if_true,decide_true,List.cons_append];rw [z4T t r]
  ·simp only [h,if_false,decide_false,Bool.false_eq_true,List.nil_append]; rfl
theorem z4I (f:Factor):∀ l:yD,facA f l=l.takeWhile (fun x=>decide (cF x f<0))++insF f (l.dropWhile (fun x=>decide (cF x f<0)))
 | []=>rfl
 | x::r=>by
  rw [List.takeWhile_cons,List.dropWhile_cons];unfold facA;by_cases h:cF x f<0
  ·simp only [h,if_true,decide_true,List.cons_append];rw [z4I f r]
  ·simp only [h,if_false,decide_false,Bool.false_eq_true,List.nil_append]; rfl
theorem z82 {a b:Int} (ha:0≤a∧a≤1152921504606846976) (hb:0≤b∧b≤1152921504606846976):IntKind.i64.wrap (a+b)=a+b:=zkA (by omega) (by omega)
theorem z6N {τ:Type} (l:List τ) (p:τ→Bool):(l.takeWhile p).length≤l.length:=(List.takeWhile_prefix p).length_le
theorem beq0 (z:Int):(z==0)=decide (z=0):=beqd z 0
theorem z8Q {d:Nat} (l:yC) (t:Term) (hl:l.length≤1000000) (h:∀ x∈l,zdK (zA d) x.Factors) (hd:d≤99) (hc:∀ x∈l,cOK x) (ht:cOK t):zAi l t=(true,putA t l):=by
 have hreach:zbk=70368744177664:=rfl;unfold zAi zWd
 have hL:=zY4 (W:=zIW) (z:=default) l (fun x=>decide (cT x t<0)) (fun k=>(l,(),(k:Int),())) (fun _=>(t,())) (fun k=>(l,(k:Int),t))
  (fun k hk H K D=>by
   show (zxX l k t).ev H K D=_;unfold zxX;simp only [Wy.ev_i,Wy.ev_k,Wy.ev_h,Wy.ev_bn,Wy.ev_d,tT,hk,zrl (h _ (zS hk)) hd];rw [zbV (by omega)]; rfl)
  (fun H K D=>by
   show (zxX l l.length t).ev H K D=_;unfold zxX;simp only [Wy.ev_i,Wy.ev_k,tT,Nat.lt_irrefl]) (l.length+Int.toNat (0:Int)+t.Factors.length+(1:Nat)) (by omega)
 have hL:zTU (l.length+Int.toNat (0:Int)+t.Factors.length+(1:Nat)) l 0 t=_:=hL;rw [hL,zZV,z4T];have q1:=z6N l (fun x=>decide (cT x t<0))
 have q2:=zZM (fun x=>decide (cT x t<0)) l
 have q3:=z0u (fun x=>decide (cT x t<0)) l
 generalize (l.takeWhile fun x=>decide (cT x t<0)).length=k at q1 q2 q3 ⊢
 rw [← q2, ← q3];have g1:(decide ((0:Int)≤(0:Int))&&decide ((0:Int)≤(k:Int))&&decide ((k:Int)≤Int.ofNat l.length))=true:=by simp only [qc,qe,Int.ofNat_eq_natCast]; omega
 have g2:decide ((0+(l.take k).length)*32≤zbk)=true:=by simp only [qe,List.length_take]; omega
 have g4:∀ m:Nat,decide (((l.take k).length+[(⟨0,[]⟩:Term)].length)*32≤zbk)=true:=fun m=>by simp only [qe,List.length_take,List.length_singleton]; omega
 simp only [Wy.fin_i,Wy.fin_k,Wy.fin_bn,List.nil_append,Int.toNat_natCast,z41,zM1,g1,g2,cond_true];by_cases hk:k<l.length
 ·have g3:decide ((k:Int)<Int.ofNat l.length)=true:=by simp [hk]
  have g5:(decide ((0:Int)≤(k:Int))&&decide ((k:Int)<Int.ofNat l.length))=true:=by rw [g3]; simp
  have hm:=zS hk;simp only [g3,zgp,Bool.and_self,cond_true,zrl (h _ hm) hd];rw [beq0,z8U hk];have gw:IntKind.i64.wrap ((k:Int)+1)=((k+1:Nat):Int):=zbV (by omega)
  have gp:(zva (l.getD k default).Coeff t.Coeff).2=zDG (l.getD k default).Coeff t.Coeff:=by
   unfold zva zRu zDG;rw [Wy.fin_k,z82 ⟨by have:=(hc _ hm).1; omega,(hc _ hm).2⟩ ⟨by have:=ht.1; omega,ht.2⟩]
  have gk:(decide ((0:Int)≤(k:Int))&&decide ((k:Int)≤Int.ofNat l.length)&&decide (Int.ofNat l.length≤Int.ofNat l.length))=true:=by simp only [qc,qe,Int.ofNat_eq_natCast]; omega
  have gk':decide ((k:Int)≤Int.ofNat l.length)=true:=by simp only [qe,Int.ofNat_eq_natCast]; omega
  have gk1':decide (((k+1:Nat):Int)≤Int.ofNat l.length)=true:=by simp only [qe,Int.ofNat_eq_natCast]; omega
  have gk1:(decide ((0:Int)≤((k+1:Nat):Int))&&decide (((k+1:Nat):Int)≤Int.ofNat l.length)&&decide (Int.ofNat l.length≤Int.ofNat l.length))=true:=by simp only [qc,qe,Int.ofNat_eq_natCast]; omega
  have gb:∀ x:Term,decide (((l.take k).length+[x].length)*32≤zbk)=true:=fun x=>by simp only [qe,List.length_take,List.length_singleton]; omega
  have gc:∀ (x:Term) (m:Nat),decide (((l.take k++[x]).length+(l.drop m).length)*32≤zbk)=true:=fun x m=>by simp only [qe,List.length_take,List.length_drop,qg,List.length_singleton]; omega
  by_cases hz:cT (l.getD k default) t=0
  ·have hz':cmpL (zbF (l.getD k default).Factors) (zbF t.Factors)=0:=hz;simp only [hz,hz',if_true,decide_true,cond_true,gw,gp,zgp,Bool.true_and,gk1',Int.le_refl,decide_true,cond_true,Bool.and_self,gb,gc,Int.toNat_natCast,zM1,List.append_assoc,List.singleton_append]
  ·have hz':¬ cmpL (zbF (l.getD k default).Factors) (zbF t.Factors)=0:=hz;simp only [hz,hz',if_false,decide_false,cond_false,cond_true,zgp,Bool.true_and,gk',Int.le_refl,decide_true,cond_true,Bool.and_self,gb,gc,List.append_assoc,List.singleton_append]
 ·have hk':k=l.length:=by omega
  have g3:decide ((k:Int)<Int.ofNat l.length)=false:=by simp [hk]
  have gk:(decide ((0:Int)≤(k:Int))&&decide ((k:Int)≤Int.ofNat l.length)&&decide (Int.ofNat l.length≤Int.ofNat l.length))=true:=by simp only [qc,qe,Int.ofNat_eq_natCast]; omega
  have gb:∀ x:Term,decide (((l.take k).length+[x].length)*32≤zbk)=true:=fun x=>by simp only [qe,List.length_take,List.length_singleton]; omega
  have gc:∀ (x:Term) (m:Nat),decide (((l.take k++[x]).length+(l.drop m).length)*32≤zbk)=true:=fun x m=>by simp only [qe,List.length_take,List.length_drop,qg,List.length_singleton]; omega
  have gk':decide ((k:Int)≤Int.ofNat l.length)=true:=by simp only [qe,Int.ofNat_eq_natCast]; omega
  simp only [g3,zgp,Bool.true_and,gk',Int.le_refl,decide_true,Bool.and_self,gb,gc,cond_true,cond_false];rw [zez hk];simp [insT,insF]
theorem z8B {d:Nat} (l:yD) (f:Factor) (hl:l.length≤1000000) (h:∀ x∈l,zds (zA d) x.Atom) (hd:d≤99) (hc:∀ x∈l,0≤x.Exp∧x.Exp≤1000000) (ht:0≤f.Exp∧f.Exp≤1000000):zxG l f=(true,facA f l):=by
 have hreach:zbk=70368744177664:=rfl;unfold zxG zNC
 have hL:=zY4 (W:=zBk) (z:=default) l (fun x=>decide (cF x f<0)) (fun k=>(l,(),(k:Int),())) (fun _=>(f,())) (fun k=>(l,(k:Int),f))
  (fun k hk H K D=>by
   show (zrI l k f).ev H K D=_;unfold zrI;simp only [Atom.eta,Wy.ev_i,Wy.ev_k,Wy.ev_h,Wy.ev_bn,Wy.ev_d,tT,hk,zoj (h _ (zS hk)) hd];rw [zbV (by omega)]; rfl)
  (fun H K D=>by
   show (zrI l l.length f).ev H K D=_;unfold zrI;simp only [Wy.ev_i,Wy.ev_k,tT,Nat.lt_irrefl]) (l.length+Int.toNat (0:Int)+f.Atom.Args.length+f.Atom.Items.length+(1:Nat)) (by omega)
 have hL:zKi (l.length+Int.toNat (0:Int)+f.Atom.Args.length+f.Atom.Items.length+(1:Nat)) l 0 f=_:=hL;rw [Atom.eta,show (FactorOf.mk f.Atom f.Exp:Factor)=f from rfl,hL,zZV,z4I]
 have q1:=z6N l (fun x=>decide (cF x f<0))
 have q2:=zZM (fun x=>decide (cF x f<0)) l
 have q3:=z0u (fun x=>decide (cF x f<0)) l
 generalize (l.takeWhile fun x=>decide (cF x f<0)).length=k at q1 q2 q3 ⊢
 rw [← q2, ← q3];have g1:(decide ((0:Int)≤(0:Int))&&decide ((0:Int)≤(k:Int))&&decide ((k:Int)≤Int.ofNat l.length))=true:=by simp only [qc,qe,Int.ofNat_eq_natCast]; omega
 have g2:decide ((0+(l.take k).length)*128≤zbk)=true:=by simp only [qe,List.length_take]; omega
 have gb:∀ x:Factor,decide (((l.take k).length+[x].length)*128≤zbk)=true:=fun x=>by simp only [qe,List.length_take,List.length_singleton]; omega
 have gc:∀ (x:Factor) (m:Nat),decide (((l.take k++[x]).length+(l.drop m).length)*128≤zbk)=true:=fun x m=>by simp only [qe,List.length_take,List.length_drop,qg,List.length_singleton]; omega
 have gk:(decide ((0:Int)≤(k:Int))&&decide ((k:Int)≤Int.ofNat l.length)&&decide (Int.ofNat l.length≤Int.ofNat l.length))=true:=by simp only [qc,qe,Int.ofNat_eq_natCast]; omega
 have ef:(FactorOf.mk f.Atom f.Exp:Factor)=f:=rfl;simp only [Atom.eta,ef,Wy.fin_i,Wy.fin_k,Wy.fin_bn,List.nil_append,Int.toNat_natCast,z41,zM1,g1,g2,cond_true];by_cases hk:k<l.length
 ·have g3:decide ((k:Int)<Int.ofNat l.length)=true:=by simp [hk]
  have g5:(decide ((0:Int)≤(k:Int))&&decide ((k:Int)<Int.ofNat l.length))=true:=by rw [g3]; simp
  have hm:=zS hk;simp only [g3,zgp,Bool.and_self,cond_true,zoj (h _ hm) hd];rw [beq0,z9n hk];have gw:IntKind.i64.wrap ((k:Int)+1)=((k+1:Nat):Int):=zbV (by omega)
  have gp:IntKind.i64.wrap ((l.getD k default).Exp+f.Exp)=(l.getD k default).Exp+f.Exp:=by have:=hc _ hm; exact zkA (by omega) (by omega)
  have gk':decide ((k:Int)≤Int.ofNat l.length)=true:=by simp only [qe,Int.ofNat_eq_natCast]; omega
  have gk1':decide (((k+1:Nat):Int)≤Int.ofNat l.length)=true:=by simp only [qe,Int.ofNat_eq_natCast]; omega
  have gk1:(decide ((0:Int)≤((k+1:Nat):Int))&&decide (((k+1:Nat):Int)≤Int.ofNat l.length)&&decide (Int.ofNat l.length≤Int.ofNat l.length))=true:=by simp only [qc,qe,Int.ofNat_eq_natCast]; omega
  by_cases hz:cF (l.getD k default) f=0
  ·have hz':cmpT (zdI (l.getD k default).Atom) (zdI f.Atom)=0:=hz;by_cases hk3:f.Atom.Kind<3
   ·simp only [hz,hz',hk3,if_true,decide_true,cond_true,gw,gp,zgp,Bool.true_and,gk1',Int.le_refl,decide_true,cond_true,Bool.and_self,gb,gc,Int.toNat_natCast,zM1,List.append_assoc,List.singleton_append]
   ·simp only [hz,hz',hk3,if_true,if_false,decide_true,decide_false,cond_true,cond_false,gw,gp,zgp,Bool.true_and,gk1',Int.le_refl,decide_true,cond_true,Bool.and_self,gb,gc,Int.toNat_natCast,zM1,List.append_assoc,List.singleton_append]
  ·have hz':¬ cmpT (zdI (l.getD k default).Atom) (zdI f.Atom)=0:=hz;simp only [hz,hz',if_false,decide_false,cond_false,cond_true,zgp,Bool.true_and,gk',Int.le_refl,decide_true,cond_true,Bool.and_self,gb,gc,List.append_assoc,List.singleton_append]
 ·have g3:decide ((k:Int)<Int.ofNat l.length)=false:=by simp [hk]
  have gk':decide ((k:Int)≤Int.ofNat l.length)=true:=by simp only [qe,Int.ofNat_eq_natCast]; omega
  simp only [g3,zgp,Bool.true_and,gk',Int.le_refl,decide_true,Bool.and_self,gb,gc,cond_true,cond_false];rw [zez hk];simp [insT,insF]
theorem z7Q {a b:Int} (ha:1≤a∧a≤1152921504606846976) (hb:1≤b∧b≤1152921504606846976):zpg a b=(true,zBD a b)∧zy7 a b=(true,zBD a b):=by
 obtain ⟨h1,h2⟩:=zZg ha hb;have h0:(!decide (b=(0:Int)))=true:=by rw [decide_eq_false (by omega)]; rfl
 have hq:0≤Int.tdiv 1152921504606846976 b∧Int.tdiv 1152921504606846976 b≤1152921504606846976:=by
  rw [Int.tdiv_eq_ediv_of_nonneg (by omega)]
  exact ⟨Int.ediv_nonneg (by omega) (by omega),Int.ediv_le_self _ (by omega)⟩
 have hw:IntKind.i64.wrap (Int.tdiv 1152921504606846976 b)=Int.tdiv 1152921504606846976 b:=zkA (by omega) (by omega)
 have key:∀ w:Int,(w=if Int.tdiv 1152921504606846976 b<a then 1152921504606846976 else IntKind.i64.wrap (a*b))→w=zBD a b:=fun w e=>by
  rw [e]; unfold zBD;split
  ·rfl
  ·rename_i hn;have h3:=h2 hn;have h4:=Int.mul_nonneg (show 0≤a by omega) (show 0≤b by omega)
   exact zkA (by omega) (by omega)
 constructor
 ·unfold zpg zDP;rw [Wy.fin_i,h0,cond_true,Wy.fin_i,hw,Wy.fin_k,Wy.fin_k];by_cases hc:Int.tdiv 1152921504606846976 b<a
  ·rw [decide_eq_true hc,cond_true]; exact congrArg (Prod.mk true) (key _ (by rw [if_pos hc]))
  ·rw [decide_eq_false hc,cond_false]; exact congrArg (Prod.mk true) (key _ (by rw [if_neg hc]))
 ·unfold zy7 zPO;rw [Wy.fin_i,h0,cond_true,Wy.fin_i,hw,Wy.fin_k,Wy.fin_k];by_cases hc:Int.tdiv 1152921504606846976 b<a
  ·rw [decide_eq_true hc,cond_true]; exact congrArg (Prod.mk true) (key _ (by rw [if_pos hc]))
  ·rw [decide_eq_false hc,cond_false]; exact congrArg (Prod.mk true) (key _ (by rw [if_neg hc]))
theorem zxs {τ:Type} [Inhabited τ] {R:τ→τ→Prop} (ht:∀ x y z,R x y→R y z→R x z):∀ l:List τ,(∀ k,0<k→k<l.length→R (l.getD (k - 1) default) (l.getD k default))→l.Pairwise R
 | [],_=>.nil
 | [x],_=>by simp
 | x::y::r,h=>by
  have h1:R x y:=h 1 (by omega) (by simp)
  have h2:=zxs ht (y::r) fun k hk hl=>by
   have:=h (k+1) (by omega) (by simpa using hl)
   obtain ⟨j,rfl⟩:∃ j,k=j+1:=⟨k - 1,by omega⟩
   exact this
  refine qi.2 ⟨fun z hz=> ?_,h2⟩
  rcases qd.1 hz with rfl | hz
  ·exact h1
  ·exact ht x y z h1 ((qi.1 h2).1 z hz)
def GF (f:Factor):Prop:=(zhv (zc3 9) f.Atom=true∧zjl f.Atom∧f.Atom.Items.length≤1024)∧1≤f.Exp∧f.Exp≤1000000
def GT (t:Term):Prop:=cOK t∧t.Factors.length≤1000∧∀ f∈t.Factors,GF f
def VT (t:Term):Prop:=GT t∧Srf t.Factors∧t.Factors.length≤64∧∀ f∈t.Factors,eOK f∧f.Exp≤64
theorem zHJ {a:yC} (h:zd3 a=true) (hw:zhx a):Srs a∧a.length≤512∧∀ t∈a,VT t:=by
 have h9:=z2v h (Nat.le_refl 9);rw [zZu] at h;obtain ⟨w1,w2,w3,w4⟩:=zHw (zTu h);have hall:=h;simp only [vAnn,qc] at hall;refine ⟨zxs (R:=fun x y=>cT x y<0) (fun x y z h1 h2=>zOg h1 h2) a fun k hk hl=> ?_,w1,fun t ht=> ?_⟩
 ·have:=zm2.1 hall.2 k (by omega) (by omega)
  simp only [chkT,qc,Bool.or_eq_true,qe] at this;rcases this.1.2 with e | e
  ·omega
  ·exact e
 ·obtain ⟨hc,hok⟩:=zES h ht;obtain ⟨l1,l2⟩:=w4 t ht;have hwt:=zvE (zA3 (zxZ hw t ht)).2.1;refine ⟨⟨hc,by omega,fun f hf=> ?_⟩,zxs (R:=fun x y=>cF x y<0) (fun x y z h1 h2=>zxh h1 h2) _ fun k hk hl=> ?_,l1,fun f hf=> ?_⟩
  ·obtain ⟨⟨e1,_⟩,hv⟩:=zAO hok hf;exact ⟨⟨by rw [z6o (Nat.le_refl 9)]; exact hv,(zx4 (hwt f hf)).1,(l2 f hf).2⟩,e1,by have:=(l2 f hf).1; omega⟩
  ·have:=zm2.1 hok k (by omega) (by omega)
   simp only [chkF,qc,Bool.or_eq_true,qe] at this;rcases this.1.2 with e | e
   ·omega
   ·exact e
  ·obtain ⟨⟨_,e2⟩,hv⟩:=zAO hok hf;exact ⟨⟨zBu hv,e2⟩,(l2 f hf).1⟩
theorem zOP {m:Nat} {x:Atom} (h:zhv (zc3 m) x=true) (hi:x.Items.length≤1024):zds (zA 9) x:=by
 cases zkJ.1 h with
 | var r h=>exact ⟨⟨by simp,by simp,by show (ByteArray.mk #[]).size≤_; decide⟩,fun a ha=>(by cases ha),fun w hw=>(by cases hw)⟩
 | mon b c hb hc _ _ _=>
  refine ⟨⟨by simp,by simp,by show (ByteArray.mk #[]).size≤_; decide⟩,fun y hy=> ?_,fun w hw=>(by cases hw)⟩
  simp only [qd,List.not_mem_nil,or_false] at hy;rcases hy with rfl | rfl
  ·exact (zgH hb).1
  ·exact (zgH hc).1
 | del b hb _ _ _=>
  refine ⟨⟨by simp,by simp,by show (ByteArray.mk #[]).size≤_; decide⟩,fun y hy=> ?_,fun w hw=>(by cases hw)⟩
  rw [qh] at hy; subst hy; exact (zgH hb).1
 | abs b hb _ _=>
  refine ⟨⟨by simp,by simp,by show (ByteArray.mk #[]).size≤_; decide⟩,fun y hy=> ?_,fun w hw=>(by cases hw)⟩
  rw [qh] at hy; subst hy; exact (zgH hb).1
 | tst f l o b hl hv hs hf=>
  obtain ⟨_,hb,hit⟩:=zA8 hf;simp only at hi;exact ⟨⟨by simp,by simp only; omega,by have:=zAa hb; simp only; omega⟩,fun a ha=>(by cases ha),fun w hw=>⟨by have:=zAa (hit w hw).1; omega,(zgH (hv w hw).1).1⟩⟩
theorem GT.fine {t:Term} (h:GT t):zdK (zA 9) t.Factors:=⟨by have:=h.2.1; omega,fun f hf=>zOP (h.2.2 f hf).1.1 (h.2.2 f hf).1.2.2⟩
theorem GF.gF {f:Factor} (h:GF f):gF (zc3 9) f:=⟨h.1.1,h.1.2.1,by constructor <;>(have:=h.2; omega)⟩
theorem GT.inj {s t:Term} (hs:GT s) (ht:GT t) (h:bs (txL s.Factors)=bs (txL t.Factors)):s.Factors=t.Factors:=
 z89 (fun f hf=>(hs.2.2 f hf).gF) (fun f hf=>(ht.2.2 f hf).gF) (z95 h)
mutual
theorem z35:∀ x:Atom,zjm x≤zHy x
 | ⟨_,_,a,_,i,_,_⟩=>by
  rw [zjm,zHy];have h1:=zVZ a;have h2:=zTg i;omega
theorem zNH:∀ l:yD,zbS l≤ziW l
 | []=>by rw [zbS,ziW]; exact Nat.le_refl _
 | ⟨x,_⟩::r=>by
  rw [zbS,ziW];have h1:=z35 x;have h2:=zNH r;omega
theorem zHt:∀ l:yC,zT l≤zfl l
 | []=>by rw [zT,zfl]; exact Nat.le_refl _
 | ⟨_,fs⟩::r=>by
  rw [zT,zfl];have h1:=zNH fs;have h2:=zHt r;omega
theorem zVZ:∀ l:yA,zey l≤zrm l
 | []=>by rw [zey,zrm]; exact Nat.le_refl _
 | a::r=>by
  rw [zey,zrm];have h1:=zHt a;have h2:=zVZ r;omega
theorem zTg:∀ l:yE,zdt l≤l.length+zmY l
 | []=>by rw [zdt,zmY]; exact Nat.zero_le _
 | ⟨_,a⟩::r=>by
  rw [zdt,zmY];have h1:=zHt a;have h2:=zTg r;simp only [qf];omega
end
theorem z7P (d:Nat):zA (d+1) []:=⟨by simp,fun t ht=>by cases ht⟩
theorem zMY {B:Nat}:∀ l:yD,(∀ f∈l,zjm f.Atom≤B)→zbS l≤l.length*B
 | [],_=>by rw [ztI]; simp
 | f::r,h=>by
  have h1:=h f (by simp)
  have h2:=zMY r fun g hg=>h g (by simp [hg])
  rw [zek,qf,Nat.add_mul]; omega
theorem zYo {B:Nat}:∀ l:yC,(∀ t∈l,1+t.Factors.length+zbS t.Factors≤B)→zT l≤l.length*B
 | [],_=>by rw [zG3]; simp
 | f::r,h=>by
  have h1:=h f (by simp)
  have h2:=zYo r fun g hg=>h g (by simp [hg])
  rw [zlJ,qf,Nat.add_mul]; omega
theorem z93 {l:yC} (hl:l.length≤1000000) (h:∀ t∈l,GT t):zA 10 l∧zT l≤4611686018427387904:=by
 refine ⟨⟨hl,fun t ht=>(h t ht).fine⟩, ?_⟩
 refine Nat.le_trans (zYo (B:=4195330000) l fun t ht=> ?_) (by have:=Nat.mul_le_mul hl (Nat.le_refl 4195330000); omega)
 have hg:=h t ht;have h1:=zMY (B:=4195328) t.Factors fun f hf=>z4f (hg.2.2 f hf).1.1 (hg.2.2 f hf).1.2.2
 have:=Nat.mul_le_mul hg.2.1 (Nat.le_refl 4195328);have:=hg.2.1;omega
theorem z6h {t:Term} (ht:GT t) {l:yC} (hs:Srs l) (h:∀ x∈l,GT x):∀ x∈putA t l,GT x:=fun x hx=>by
 have hc:=z5G ht.1 (fun y hy=>(h y hy).1) x hx
 rcases (zTW hs).1 hx with ⟨h1,_⟩ | ⟨h1,_⟩
 ·exact h x h1
 ·exact ⟨hc,by rw [h1]; exact ht.2⟩
theorem zYH:∀ (b a:yC),Srs a→(∀ x∈a,GT x)→(∀ x∈b,GT x)→∀ x∈sumA a b,GT x
 | [],_,_,ha,_=>ha
 | t::r,a,hs,ha,hb=>zYH r (putA t a) (zMB hs) (z6h (hb t (by simp)) hs ha) fun x hx=>hb x (by simp [hx])
theorem zPc {x y:Term} (hx:VT x) (hy:VT y):GT (zmE x y):=by
 obtain ⟨gx,sx,lx,ex⟩:=hx;obtain ⟨gy,sy,ly,ey⟩:=hy;refine ⟨(zZg gx.1 gy.1).1,by have:=zDq x.Factors y.Factors; show (zbM x.Factors y.Factors).length≤1000; omega,fun f hf=> ?_⟩
 obtain ⟨g,hg,e⟩:=zsk hf;have hb:=zHN (B:=64) (fun z hz=>⟨(gx.2.2 z hz).2.1,(ex z hz).2⟩) (fun z hz=>⟨(gy.2.2 z hz).2.1,(ey z hz).2⟩) hf
 have hv:(zhv (zc3 9) g.Atom=true∧zjl g.Atom∧g.Atom.Items.length≤1024):=by
  rcases hg with hg | hg
  ·exact (gx.2.2 g hg).1
  ·exact (gy.2.2 g hg).1
 exact ⟨by rw [e]; exact hv,hb.1,by omega⟩
theorem z7S {a b:yC} (ha:∀ t∈a,VT t) (hb:∀ t∈b,VT t):∀ t∈zvq a b,GT t:=fun t ht=>by
 obtain ⟨x,hx,y,hy,rfl⟩:=z01 ht;exact zPc (ha x hx) (hb y hy)
theorem szTs_get' (a:yC) (i:Nat) (h:i<a.length):(a.getD i default).Factors.length≤szTs a:=zJo a i h
theorem z7r (a b:yC) (i:Int) (k:Nat) (hk:k<b.length) (out:yC) (c:Int) (x:Term) (hx:VT x) (hy:VT (b.getD k default)) (n:Nat) (hn:(b.getD k default).Factors.length<n):
  zGb n a b i k 0 out c x.Factors=(true,(a,b,i,(k:Int),out,c,zbM x.Factors (b.getD k default).Factors)):=by
 obtain ⟨gx,sx,lx,ex⟩:=hx;obtain ⟨gy0,sy,ly,ey⟩:=hy;have gy:∀ f∈(b.getD k default).Factors,GF f:=gy0.2.2;have sy:Srf (b.getD k default).Factors:=sy;clear gy0;generalize hF:(b.getD k default).Factors=F at *
 have key:∀ j,j<F.length→facA (F.getD j default) (zbM x.Factors (F.take j))=zbM x.Factors (F.take (j+1)):=fun j hj=>by
  have e1:=zPz (F.take j) x.Factors (sy.sublist (List.take_sublist _ _)) (fun z hz=>(ex z hz).1) fun z hz=>(ey z (List.mem_of_mem_take hz)).1
  have e2:=zPz (F.take (j+1)) x.Factors (sy.sublist (List.take_sublist _ _)) (fun z hz=>(ex z hz).1) fun z hz=>(ey z (List.mem_of_mem_take hz)).1
  rw [← e1, ← e2,z0j hj,List.foldl_append]; rfl
 have:=zlO (W:=zyL) (z:=default) F.length (fun j=>(a,b,(),i,(k:Int),(),(j:Int),())) (fun j=>(out,(c,zbM x.Factors (F.take j),()),())) (fun _=>true) default (a,b,i,(k:Int),out,c,zbM x.Factors F)
  (fun j hj H K D=>by
   show (znh a b i k j out c (zbM x.Factors (F.take j))).ev H K D=_;unfold znh;have hlen:=zDq x.Factors (F.take j);rw [List.length_take] at hlen;have hex:=fun z (hz:z∈zbM x.Factors (F.take j))=>zHN (B:=64) (fun z hz=>⟨(gx.2.2 z hz).2.1,(ex z hz).2⟩) (fun z hz=>⟨(gy z (List.mem_of_mem_take hz)).2.1,(ey z (List.mem_of_mem_take hz)).2⟩) hz
   have hfine:∀ z∈zbM x.Factors (F.take j),zds (zA 9) z.Atom:=fun z hz=>by
    obtain ⟨w,hw,e⟩:=zsk hz;rw [e];rcases hw with hw | hw
    ·exact zOP (gx.2.2 w hw).1.1 (gx.2.2 w hw).1.2.2
    ·exact zOP (gy w (List.mem_of_mem_take hw)).1.1 (gy w (List.mem_of_mem_take hw)).1.2.2
   have hm:=zS hj;have e1:decide ((k:Int)<Int.ofNat b.length)=true:=by simp [hk]
   have e2:decide ((j:Int)<Int.ofNat F.length)=true:=by simp [hj]
   have efx:(FactorOf.mk (F.getD j default).Atom (F.getD j default).Exp:Factor)=F.getD j default:=rfl;simp only [Atom.eta,Wy.ev_i,Wy.ev_k,Wy.ev_h,Wy.ev_bn,Wy.ev_d,zgp,Bool.and_self,cond_true,Int.toNat_natCast,hF,e1,e2,efx];rw [z8B (d:=9) _ _ (by omega) hfine (by omega) (fun z hz=>by have:=hex z hz; omega) (by have:=(gy _ hm).2; omega),cond_true,zbV (by omega),key j hj])
  (fun H K D=>by
   show (znh a b i k F.length out c (zbM x.Factors (F.take F.length))).ev H K D=_;unfold znh;have e1:decide ((k:Int)<Int.ofNat b.length)=true:=by simp [hk]
   have e2:decide ((F.length:Int)<Int.ofNat F.length)=false:=by simp
   simp only [Wy.ev_i,Wy.ev_k,zgp,Bool.and_self,cond_true,cond_false,Int.toNat_natCast,hF,e1,e2,List.take_length]) n hn
 rw [show allN (fun _=>true) F.length 0=true from zm2.2 fun _ _ _=>rfl] at this
 simp only [List.take_zero,zKv] at this;exact this
theorem z9e (a b:yC) (i:Nat) (hi:i<a.length) (hal:a.length≤512) (hbl:b.length≤512) (hx:VT (a.getD i default)) (hb:∀ t∈b,VT t) (out:yC) (ho:out.length≤i*512) (hs:Srs out) (hg:∀ t∈out,GT t) (n:Nat) (hn:b.length<n):
  zIx n a b i 0 out=(true,(a,b,(i:Int),sumA out (b.map (zmE (a.getD i default))))):=by
 have:=zep (W:=zzO) (z:=default) (l:=b) (fun k (o:yC)=>(a,b,(),(i:Int),(k:Int),())) (fun _ o=>(o,())) (fun y o=>.inl (putA (zmE (a.getD i default) y) o)) (fun o=>(a,b,(i:Int),o)) (fun k o=>(o.length≤i*512+k∧Srs o)∧∀ t∈o,GT t)
  (fun k o hk hI=>.inl ⟨_,rfl,⟨⟨by have:=z0e (t:=zmE (a.getD i default) (b.getD k default)) o; omega,zMB hI.1.2⟩,z6h (zPc hx (hb _ (zS hk))) hI.1.2 hI.2⟩,fun H K D=>by
   show (zo7 a b i k o).ev H K D=_;unfold zo7;have hy:=hb _ (zS hk);have hsz:=szTs_get' b k hk;simp only [Wy.ev_i,Wy.ev_k,Wy.ev_h,Wy.ev_bn,Wy.ev_d,tT,hk,hi,(z7Q hx.1.1 hy.1.1).2];rw [z7r a b i k hk o _ _ hx hy _ (by omega)]
   simp only [cond_true];have e:(TermOf.mk (zBD (a.getD i default).Coeff (b.getD k default).Coeff) (zbM (a.getD i default).Factors (b.getD k default).Factors):Term)=zmE (a.getD i default) (b.getD k default):=rfl;have hg:=zPc hx hy;rw [e,z8Q (d:=9) o _ (by omega) (fun z hz=>(hI.2 z hz).fine) (by omega) (fun z hz=>(hI.2 z hz).1) hg.1]
   simp only [cond_true];rw [zbV (by omega)]⟩)
  (fun o hI H K D=>by
   show (zo7 a b i b.length o).ev H K D=_;unfold zo7;simp only [Wy.ev_i,Wy.ev_k,tT,Nat.lt_irrefl]) n 0 out (by omega) (by omega) (show (out.length≤i*512+0∧Srs out)∧∀ t∈out,GT t from ⟨⟨Nat.le_trans ho (Nat.le_add_right _ _),hs⟩,hg⟩)
 rw [List.drop_zero,zen] at this
 have e:∀ (l:yC) (o:yC),l.foldl (fun s t=>putA (zmE (a.getD i default) t) s) o=sumA o (l.map (zmE (a.getD i default))):=fun l=>by
  induction l with
  | nil=>intro o; rfl
  | cons y r ih=>intro o; rw [List.foldl_cons,ih]; rfl
 rw [e] at this;exact this
theorem z4q (o:yC) (b:yC) (x:Term):(sumA o (b.map (zmE x))).length≤o.length+b.length:=by
 have:=zUd (b.map (zmE x)) o
 rwa [List.length_map] at this
theorem z7T (a b:yC) (ha:∀ t∈a,VT t) (hb:∀ t∈b,VT t) (hal:a.length≤512) (hbl:b.length≤512):zmS a b=(true,zKQ a b):=by
 unfold zmS zKN
 have:=zep (W:=zz1) (z:=default) (l:=a) (fun i (o:yC)=>(a,b,(),(i:Int),())) (fun _ o=>(o,())) (fun x o=>.inl (sumA o (b.map (zmE x)))) (fun o=>o) (fun i o=>(o.length≤i*512∧Srs o)∧∀ t∈o,GT t)
  (fun i o hi hI=>.inl ⟨_,rfl,⟨⟨by have:=z4q o b (a.getD i default); omega,z0y _ _ hI.1.2⟩,zYH _ _ hI.1.2 hI.2 fun t ht=>by
    obtain ⟨y,hy,rfl⟩:=List.mem_map.1 ht;exact zPc (ha _ (zS hi)) (hb y hy)⟩,fun H K D=>by
   show (zpa a b i o).ev H K D=_;unfold zpa;have e1:decide ((i:Int)<Int.ofNat a.length)=true:=by simp [hi]
   simp only [Wy.ev_i,Wy.ev_k,Wy.ev_h,Wy.ev_bn,Wy.ev_d,e1,cond_true];rw [z9e a b i hi hal hbl (ha _ (zS hi)) hb o hI.1.1 hI.1.2 hI.2 _ (by omega)]
   simp only [cond_true];rw [zbV (by omega)]⟩)
  (fun o hI H K D=>by
   show (zpa a b a.length o).ev H K D=_;unfold zpa;have e1:decide ((a.length:Int)<Int.ofNat a.length)=false:=by simp
   simp only [Wy.ev_i,Wy.ev_k,e1,cond_false]) ((a.length+b.length+Int.toNat (0:Int)+(0:Nat)+(1:Nat))+szTs a+szTs b+szTs []) 0 [] (by omega) (by omega) ⟨⟨by simp,.nil⟩,fun t ht=>by cases ht⟩
 rw [List.drop_zero,zen] at this
 have e:∀ (l:yC) (o:yC),l.foldl (fun s x=>sumA s (b.map (zmE x))) o=sumA o (zvq l b):=fun l=>by
  induction l with
  | nil=>intro o; rfl
  | cons y r ih=>
   intro o;rw [List.foldl_cons,ih];show _=(zvq (y::r) b).foldl (fun a t=>putA t a) o
   unfold zvq;rw [List.flatMap_cons,List.foldl_append]; rfl
 rw [e] at this;have this:zJn ((a.length+b.length+Int.toNat (0:Int)+(0:Nat)+(1:Nat))+szTs a+szTs b+szTs []) a b 0 []=(true,zKQ a b):=this;rw [Wy.fin_bn,this]; rfl
def okA (a:yC):Prop:=(zA 12 a∧zT a≤4611686018427387904)∧zhx a∧a.length≤roomLen
def opR (ok:Bool) (r:yC×Int):yC×Int:=bif ok then r else ([],1)
def addR (a b:yC):yC×Int:=opR (zd3 a&&zd3 b) (fitR (sumA a b))
def mulR (a b:yC):yC×Int:=opR (zd3 a&&zd3 b) (fitR (zKQ a b))
def monA (a b:yC):Atom:=⟨1,⟨0,0⟩,[a,b],0,[],0,⟨0,0,ByteArray.mk #[]⟩⟩
def delA (a:yC):Atom:=⟨2,⟨0,0⟩,[a],0,[],0,⟨0,0,ByteArray.mk #[]⟩⟩
def absA (a:yC):Atom:=⟨3,⟨0,0⟩,[a],0,[],0,⟨0,0,ByteArray.mk #[]⟩⟩
def monR (a b:yC):yC×Int:=opR (zd3 a&&zd3 b) (if b=[] then (a,0) else if a=[]∨a=b then ([],0) else fitR (oneA (monA a b)))
def delR (a:yC):yC×Int:=opR (zd3 a) (if a=[]∨isU a=true then (a,0) else if isC a=true then ([⟨1,[]⟩],0) else fitR (oneA (delA a)))
def absR (a:yC):yC×Int:=opR (zd3 a) (if a=[] then ([⟨1,[]⟩],0) else if hasC a=true then ([],0) else fitR (oneA (absA a)))
theorem okA.rvalid {a:yC} (h:okA a):zv9 a=(true,zd3 a):=z5w h.1.1 (by omega) h.1.2
theorem z8f {l:yA} {k:Int} (hl:l.length≤2) (h:∀ a∈l,zd3 a=true):zA 10 (oneA ⟨k,⟨0,0⟩,l,0,[],0,⟨0,0,ByteArray.mk #[]⟩⟩)∧zT (oneA ⟨k,⟨0,0⟩,l,0,[],0,⟨0,0,ByteArray.mk #[]⟩⟩)≤4611686018427387904:=by
 constructor
 ·exact zKu ⟨⟨by simp only; omega,by simp,by show (ByteArray.mk #[]).size≤_; decide⟩,fun a ha=>(zgH (h a ha)).1,fun w hw=>(by cases hw)⟩
 ·rw [z3q,ziS]
  have hb:∀ l:yA,(∀ a∈l,zd3 a=true)→zey l≤l.length*4096:=fun l=>by
   induction l with
   | nil=>intro _; rw [zoq]; simp
   | cons a r ih=>
    intro h;have h1:=(zgH (h a (by simp))).2.1
    have h2:=ih fun b hb=>h b (by simp [hb])
    rw [zgT,qf,Nat.add_mul]; omega
  have:=hb l h;show 2+(zey l+zdt [])≤_;rw [zl2];have:=Nat.mul_le_mul hl (Nat.le_refl 4096);omega
end Go.Proofs.YtljlfiomikifjaaGreatDoor
end
