/- Texts of this claim, joined (the program, its functions in plain words, and what they compute). -/
import Derived.Test.YtljlfiomikifjaaGreatDoorGC8
set_option autoImplicit false
set_option linter.unusedVariables false
set_option linter.unusedSectionVars false
set_option linter.unusedSimpArgs false
set_option maxRecDepth 1000000
set_option maxHeartbeats 0
/- Sums and products of zL1 lists: two ways of computing them. -/
noncomputable section
namespace Go.Proofs.YtljlfiomikifjaaGreatDoor
open Go Go.Ab
def zts (a b:Int):Int:=if 1152921504606846976<a+b then 1152921504606846976 else a+b
def cT (x y:Term):Int:=cmpL (zbA x.Factors) (zbA y.Factors)
theorem zQm {x y:Term} (h:cT x y=0):x.Factors=y.Factors:=zCa _ _ (zKh _ _ h)
theorem zvG {x y:Term} (h:x.Factors=y.Factors):cT x y=0:=by unfold cT; rw [h]; exact zVr _
def putA (t:Term):yC→yC
 | []=>[t]
 | x::r=>if cT x t<0 then x::putA t r else if cT x t=0 then ⟨zts x.Coeff t.Coeff,t.Factors⟩::r else t::x::r
def updA (t:Term):yC→yC
 | []=>[t]
 | x::r=>if x.Factors=t.Factors then ⟨zts x.Coeff t.Coeff,x.Factors⟩::r else x::updA t r
abbrev Srs (l:yC):Prop:=l.Pairwise fun x y=>cT x y<0
abbrev Dst (l:yC):Prop:=l.Pairwise fun x y=>x.Factors≠y.Factors
theorem Srs.dst {l:yC} (h:Srs l):Dst l:=h.imp fun {x y} hxy e=>by rw [zvG e] at hxy; omega
def SM (l:yC) (t y:Term):Prop:=(y∈l∧y.Factors≠t.Factors)∨(y.Factors=t.Factors∧((∃ x∈l,x.Factors=t.Factors∧y.Coeff=zts x.Coeff t.Coeff)∨((∀ x∈l,x.Factors≠t.Factors)∧y.Coeff=t.Coeff)))
theorem z3q {x y:Term} (h1:x.Coeff=y.Coeff) (h2:x.Factors=y.Factors):x=y:=by cases x; cases y; simp_all
theorem zFZ {x y z:Term} (h1:cT x y<0) (h2:cT y z<0):cT x z<0:=z5F h1 h2
theorem zC7 (x y:Term):cT y x= - cT x y:=zG4 _ _
theorem z03 {x t y:Term} {r:yC} (hx:x.Factors≠t.Factors) (hr:∀ z∈r,x.Factors≠z.Factors):SM (x::r) t y↔y=x∨SM r t y:=by
 unfold SM;constructor
 ·rintro (⟨h1,h2⟩ | ⟨h1,⟨z,hz,h2,h3⟩ | ⟨h2,h3⟩⟩)
  ·rcases qd.1 h1 with rfl | h1
   ·exact .inl rfl
   ·exact .inr (.inl ⟨h1,h2⟩)
  ·rcases qd.1 hz with rfl | hz
   ·exact absurd h2 hx
   ·exact .inr (.inr ⟨h1,.inl ⟨z,hz,h2,h3⟩⟩)
  ·exact .inr (.inr ⟨h1,.inr ⟨fun z hz=>h2 z (by simp [hz]),h3⟩⟩)
 ·rintro (rfl | ⟨h1,h2⟩ | ⟨h1,⟨z,hz,h2,h3⟩ | ⟨h2,h3⟩⟩)
  ·exact .inl ⟨by simp,hx⟩
  ·exact .inl ⟨by simp [h1],h2⟩
  ·exact .inr ⟨h1,.inl ⟨z,by simp [hz],h2,h3⟩⟩
  ·exact .inr ⟨h1,.inr ⟨fun z hz=>by
    rcases qd.1 hz with rfl | hz
    ·exact hx
    ·exact h2 z hz,h3⟩⟩
theorem z2T {t y:Term} {l:yC} (h:∀ z∈l,z.Factors≠t.Factors):SM l t y↔y=t∨y∈l:=by
 unfold SM;constructor
 ·rintro (⟨h1,h2⟩ | ⟨h1,⟨z,hz,h2,h3⟩ | ⟨h2,h3⟩⟩)
  ·exact .inr h1
  ·exact absurd h2 (h z hz)
  ·exact .inl (z3q h3 h1)
 ·rintro (rfl | h1)
  ·exact .inr ⟨rfl,.inr ⟨h,rfl⟩⟩
  ·exact .inl ⟨h1,h y h1⟩
theorem zbbL {x t y:Term} {r:yC} (hx:x.Factors=t.Factors) (hr:∀ z∈r,z.Factors≠t.Factors):SM (x::r) t y↔y=⟨zts x.Coeff t.Coeff,t.Factors⟩∨y∈r:=by
 unfold SM;constructor
 ·rintro (⟨h1,h2⟩ | ⟨h1,⟨z,hz,h2,h3⟩ | ⟨h2,h3⟩⟩)
  ·rcases qd.1 h1 with rfl | h1
   ·exact absurd hx h2
   ·exact .inr h1
  ·rcases qd.1 hz with rfl | hz
   ·exact .inl (z3q h3 h1)
   ·exact absurd h2 (hr z hz)
  ·exact absurd hx (h2 x (by simp))
 ·rintro (rfl | h1)
  ·exact .inr ⟨rfl,.inl ⟨x,by simp,hx,rfl⟩⟩
  ·exact .inl ⟨by simp [h1],hr y h1⟩
theorem zAQ {t y:Term}:∀ {l:yC},Srs l→(y∈putA t l↔SM l t y)
 | [],_=>by rw [z2T (by simp)]; simp [putA]
 | x::r,h=>by
  have hc:=qi.1 h;have hd:=qi.1 h.dst;unfold putA;by_cases h1:cT x t<0
  ·rw [if_pos h1,qd,z03 (fun e=>by rw [zvG e] at h1; omega) hd.1,zAQ hc.2]
  ·rw [if_neg h1];by_cases h2:cT x t=0
   ·rw [if_pos h2,List.mem_cons,zbbL (zQm h2) fun z hz e=>by
     have:=hc.1 z hz; rw [zvG ((zQm h2).trans e.symm)] at this; omega]
   ·rw [if_neg h2,z2T fun z hz e=>by
     have a:=zC7 x t;rcases qd.1 hz with rfl | hz
     ·exact h2 (zvG e)
     ·have b:=zFZ (show cT t x<0 by omega) (hc.1 z hz)
      rw [zvG e.symm] at b; omega]
    rw [qd]
theorem z3P {t y:Term}:∀ {l:yC},Dst l→(y∈updA t l↔SM l t y)
 | [],_=>by rw [z2T (by simp)]; simp [updA]
 | x::r,h=>by
  have hd:=qi.1 h;unfold updA;by_cases h2:x.Factors=t.Factors
  ·rw [if_pos h2,qd,zbbL h2 fun z hz e=>hd.1 z hz (h2.trans e.symm),h2]
  ·rw [if_neg h2,qd,z03 h2 hd.1,z3P hd.2]
theorem zAE {t:Term}:∀ {l:yC},Srs l→Srs (putA t l)
 | [],_=>by simp [putA]
 | x::r,h=>by
  have hc:=qi.1 h;unfold putA;by_cases h1:cT x t<0
  ·rw [if_pos h1];refine qi.2 ⟨fun z hz=> ?_,zAE hc.2⟩
   rcases (zAQ hc.2).1 hz with ⟨h2,_⟩ | ⟨h2,_⟩
   ·exact hc.1 z h2
   ·have:cT x z=cT x t:=by unfold cT; rw [h2]
    rw [this]; exact h1
  ·rw [if_neg h1];by_cases h2:cT x t=0
   ·rw [if_pos h2];refine qi.2 ⟨fun z hz=> ?_,hc.2⟩
    have:=hc.1 z hz;unfold cT at this ⊢;rw [← zQm h2]; exact this
   ·rw [if_neg h2];have a:=zC7 x t;refine qi.2 ⟨fun z hz=> ?_,h⟩
    rcases qd.1 hz with rfl | hz
    ·omega
    ·exact zFZ (show cT t x<0 by omega) (hc.1 z hz)
theorem z3Y {t:Term}:∀ {l:yC},Dst l→Dst (updA t l)
 | [],_=>by simp [updA]
 | x::r,h=>by
  have hc:=qi.1 h;unfold updA;by_cases h2:x.Factors=t.Factors
  ·rw [if_pos h2];exact qi.2 ⟨fun z hz=>hc.1 z hz,hc.2⟩
  ·rw [if_neg h2];refine qi.2 ⟨fun z hz=> ?_,z3Y hc.2⟩
   rcases (z3P hc.2).1 hz with ⟨h3,_⟩ | ⟨h3,_⟩
   ·exact hc.1 z h3
   ·rw [h3]; exact h2
theorem Dst.nodup {l:yC} (h:Dst l):l.Nodup:=h.imp fun {x y} hxy e=>hxy (by rw [e])
theorem zbdT {l l':yC} (h:l.Perm l') (t y:Term):SM l t y↔SM l' t y:=by
 unfold SM;simp only [h.mem_iff]
theorem zbbW {l l':yC} (t:Term) (h:l.Perm l') (hs:Srs l) (hd:Dst l'):(putA t l).Perm (updA t l'):=
 (List.perm_ext_iff_of_nodup (zAE hs).dst.nodup (z3Y hd).nodup).2 fun y=>by rw [zAQ hs,z3P hd,zbdT h]
def sumA (a b:yC):yC:=b.foldl (fun a t=>putA t a) a
def zNe (ts:yC):yC:=ts.foldl (fun a t=>updA t a) []
theorem zKi:∀ (b a:yC),Srs a→Srs (sumA a b)
 | [],_,h=>h
 | t::r,a,h=>zKi r (putA t a) (zAE h)
theorem z44:∀ (ts l l':yC),l.Perm l'→Srs l→Dst l'→(sumA l ts).Perm (ts.foldl (fun a t=>updA t a) l')∧Dst (ts.foldl (fun a t=>updA t a) l')
 | [],l,l',h,_,hd=>⟨h,hd⟩
 | t::r,l,l',h,hs,hd=>z44 r (putA t l) (updA t l') (zbbW t h hs hd) (zAE hs) (z3Y hd)
theorem z7g {t:Term}:∀ {l:yC},(∀ x∈l,cT x t<0)→putA t l=l++[t]
 | [],_=>rfl
 | x::r,h=>by
  unfold putA;rw [if_pos (h x (by simp)),z7g fun y hy=>h y (by simp [hy])]; rfl
theorem z3Q:∀ (r l:yC),Srs (l++r)→sumA l r=l++r
 | [],l,_=>by simp [sumA]
 | t::r,l,h=>by
  have e:sumA l (t::r)=sumA (putA t l) r:=rfl;have hp:=List.pairwise_append.1 h;rw [e,z7g fun x hx=>hp.2.2 x hx t (by simp),z3Q r (l++[t]) (by simpa using h)]
  simp
theorem sum_nil {a:yC} (h:Srs a):sumA [] a=a:=z3Q a [] h
theorem zbeU (a b:yC) (h:Srs a):sumA [] (a++b)=sumA a b:=by
 show (a++b).foldl (fun a t=>putA t a) []=_
 rw [List.foldl_append];show sumA (sumA [] a) b=_;rw [sum_nil h]
theorem zDb {y:Term}:∀ (b a:yC),Srs a→y∈sumA a b→∃ x,(x∈a∨x∈b)∧y.Factors=x.Factors
 | [],a,_,h=>⟨y,.inl h,rfl⟩
 | t::r,a,hs,h=>by
  obtain ⟨x,hx,e⟩:=zDb r (putA t a) (zAE hs) h;rcases hx with hx | hx
  ·rcases (zAQ hs).1 hx with ⟨h1,_⟩ | ⟨h1,_⟩
   ·exact ⟨x,.inl h1,e⟩
   ·exact ⟨t,.inr (by simp),e.trans h1⟩
  ·exact ⟨x,.inr (by simp [hx]),e⟩
theorem z5a {a b:Int} (ha:1≤a) (hb:1≤b):1≤zts a b∧zts a b≤1152921504606846976:=by
 unfold zts;split
 ·omega
 ·omega
def cOK (t:Term):Prop:=1≤t.Coeff∧t.Coeff≤1152921504606846976
theorem z6d {t:Term} (ht:cOK t):∀ {l:yC},(∀ x∈l,cOK x)→∀ x∈putA t l,cOK x
 | [],_,x,hx=>by simp only [putA,qh] at hx; subst hx; exact ht
 | y::r,h,x,hx=>by
  unfold putA at hx;split at hx
  ·rcases qd.1 hx with rfl | hx
   ·exact h _ (by simp)
   ·exact z6d ht (fun z hz=>h z (by simp [hz])) x hx
  ·split at hx
   ·rcases qd.1 hx with rfl | hx
    ·exact z5a (h y (by simp)).1 ht.1
    ·exact h x (by simp [hx])
   ·rcases qd.1 hx with rfl | hx
    ·exact ht
    ·exact h x hx
theorem z59:∀ (b:yC) {a:yC},(∀ x∈a,cOK x)→(∀ x∈b,cOK x)→∀ x∈sumA a b,cOK x
 | [],a,ha,_=>ha
 | t::r,a,ha,hb=>z59 r (z6d (hb t (by simp)) ha) fun x hx=>hb x (by simp [hx])
theorem zW5 {t:Term}:∀ (l:yC),(putA t l).length≤l.length+1
 | []=>by simp [putA]
 | x::r=>by
  have:=zW5 (t:=t) r;unfold putA;split
  ·simp only [qf]; omega
  ·split <;>simp
theorem zKj:∀ (b a:yC),(sumA a b).length≤a.length+b.length
 | [],a=>by simp [sumA]
 | t::r,a=>by
  have h1:=zKj r (putA t a);have h2:=zW5 (t:=t) a;show (sumA (putA t a) r).length≤_;simp only [qf]; omega
def cF (x y:Factor):Int:=cmpT (zdJ x.Atom) (zdJ y.Atom)
theorem z2R {x y:Factor} (h:cF x y=0):x.Atom=y.Atom:=z1n _ _ (zvo _ _ h)
theorem z4c (x y:Factor):cF y x= - cF x y:=zgH _ _
theorem z5W {a b c:TT} (h1:cmpT a b<0) (h2:cmpT b c<0):cmpT a c<0:=by
 have h:=zw0 a b c (by omega) (by omega)
 by_cases e:cmpT a c=0
 ·have e':=zvo a c e;subst e';have:=zgH a b;omega
 ·omega
theorem zAo {x y z:Factor} (h1:cF x y<0) (h2:cF y z<0):cF x z<0:=z5W h1 h2
abbrev Srf (l:yD):Prop:=l.Pairwise fun x y=>cF x y<0
def facA (f:Factor):yD→yD
 | []=>[f]
 | x::r=>if cF x f<0 then x::facA f r else if cF x f=0 then (if f.Atom.Kind<3 then ⟨f.Atom,x.Exp+f.Exp⟩ else f)::r else f::x::r
def zbd:yD→yD→yD
 | [],b=>b
 | x::a,[]=>x::a
 | x::a,y::b=>if cF x y<0 then x::zbd a (y::b) else if 0<cF x y then y::zbd (x::a) b else (if x.Atom.Kind=3∨x.Atom.Kind=4 then x else ⟨x.Atom,x.Exp+y.Exp⟩)::zbd a b
termination_by a b=>a.length+b.length
theorem zHi (a:yD):zbd a []=a:=by cases a <;>rw [zbd]
theorem zLP {m:Factor} {L b:yD} (h:∀ z∈b,cF m z<0):zbd (m::L) b=m::zbd L b:=by
 cases b with
 | nil=>rw [zHi,zHi]
 | cons z b=>rw [zbd,if_pos (h z (by simp))]
def eOK (f:Factor):Prop:=(0≤f.Atom.Kind∧f.Atom.Kind≤4)∧(f.Atom.Kind=3∨f.Atom.Kind=4→f.Exp=1)
theorem z6U {y:Factor} {b:yD} (hb:∀ z∈b,cF y z<0) (hy:eOK y):∀ {a:yD},(∀ x∈a,eOK x)→zbd (facA y a) b=zbd a (y::b)
 | [],_=>by
  rw [facA,zLP hb,zbd,zbd]
 | x::a,ha=>by
  unfold facA;by_cases h1:cF x y<0
  ·rw [if_pos h1,zLP fun z hz=>zAo h1 (hb z hz),z6U hb hy fun z hz=>ha z (by simp [hz]),zLP (m:=x) (b:=y::b) fun z hz=>by
    rcases qd.1 hz with rfl | hz
    ·exact h1
    ·exact zAo h1 (hb z hz)]
  ·rw [if_neg h1];by_cases h2:cF x y=0
   ·have ea:=z2R h2
    rw [if_pos h2,zLP fun z hz=>by
     have e:(if y.Atom.Kind<3 then (⟨y.Atom,x.Exp+y.Exp⟩:Factor) else y).Atom=y.Atom:=by split <;>rfl
     have:=hb z hz;unfold cF at this ⊢; rw [e]; exact this]
    rw [zbd,if_neg h1,if_neg (show ¬ 0<cF x y by omega)]
    congr 1;have hx:=ha x (by simp)
    obtain ⟨xa,xe⟩:=x;obtain ⟨ya,ye⟩:=y;simp only at ea;subst ea;obtain ⟨⟨k0,k4⟩,h3⟩:=hx;obtain ⟨_,h3'⟩:=hy;simp only at k0 k4 h3 h3' ⊢;by_cases hk:xa.Kind<3
    ·rw [if_pos hk,if_neg (by omega)]
    ·have hk':xa.Kind=3∨xa.Kind=4:=by omega
     rw [if_neg hk,if_pos hk',h3 hk',h3' hk']
   ·rw [if_neg h2,zLP hb];rw [zbd,if_neg h1,if_pos (by omega)]
theorem zRV:∀ (b a:yD),Srf b→(∀ x∈a,eOK x)→(∀ x∈b,eOK x)→b.foldl (fun l f=>facA f l) a=zbd a b
 | [],a,_,_,_=>by rw [zHi]; rfl
 | y::b,a,hs,ha,hb=>by
  have hc:=qi.1 hs;have hy:=hb y (by simp)
  rw [List.foldl_cons,zRV b (facA y a) hc.2 (fun x hx=> ?_) fun x hx=>hb x (by simp [hx]),z6U hc.1 hy ha]
  -- kinds and exponents are kept
  clear hs hc hb;induction a with
  | nil=>simp only [facA,qh] at hx; subst hx; exact hy
  | cons z r ih=>
   unfold facA at hx;split at hx
   ·rcases qd.1 hx with rfl | hx
    ·exact ha _ (by simp)
    ·exact ih (fun w hw=>ha w (by simp [hw])) hx
   ·split at hx
    ·rcases qd.1 hx with rfl | hx
     ·split
      ·rename_i hk; exact ⟨hy.1,fun h=>by simp only at h; omega⟩
      ·exact hy
     ·exact ha x (by simp [hx])
    ·rcases qd.1 hx with rfl | hx
     ·exact hy
     ·exact ha x hx
theorem zuH {x:Factor}:∀ {a b:yD},x∈zbd a b→∃ y,(y∈a∨y∈b)∧x.Atom=y.Atom
 | [],b,h=>⟨x,.inr (by rwa [zbd] at h),rfl⟩
 | y::a,[],h=>⟨x,.inl (by rwa [zbd] at h),rfl⟩
 | y::a,z::b,h=>by
  rw [zbd] at h;split at h
  ·rcases qd.1 h with rfl | h
   ·exact ⟨x,.inl (by simp),rfl⟩
   ·obtain ⟨w,hw,e⟩:=zuH h;rcases hw with hw | hw
    ·exact ⟨w,.inl (by simp [hw]),e⟩
    ·exact ⟨w,.inr hw,e⟩
  ·split at h
   ·rcases qd.1 h with rfl | h
    ·exact ⟨x,.inr (by simp),rfl⟩
    ·obtain ⟨w,hw,e⟩:=zuH h;rcases hw with hw | hw
     ·exact ⟨w,.inl hw,e⟩
     ·exact ⟨w,.inr (by simp [hw]),e⟩
   ·rcases qd.1 h with rfl | h
    ·exact ⟨y,.inl (by simp),by split <;>rfl⟩
    ·obtain ⟨w,hw,e⟩:=zuH h;rcases hw with hw | hw
     ·exact ⟨w,.inl (by simp [hw]),e⟩
     ·exact ⟨w,.inr (by simp [hw]),e⟩
termination_by a b=>a.length+b.length
theorem zKw:∀ (a b:yD),(zbd a b).length≤a.length+b.length
 | [],b=>by rw [zbd]; simp
 | y::a,[]=>by rw [zbd]; simp
 | y::a,z::b=>by
  rw [zbd];split
  ·have:=zKw a (z::b); simp only [qf] at this ⊢; omega
  ·split
   ·have:=zKw (y::a) b; simp only [qf] at this ⊢; omega
   ·have:=zKw a b; simp only [qf] at this ⊢; omega
termination_by a b=>a.length+b.length
theorem zKR {x:Factor} {B:Int}:∀ {a b:yD},(∀ y∈a,1≤y.Exp∧y.Exp≤B)→(∀ y∈b,1≤y.Exp∧y.Exp≤B)→x∈zbd a b→1≤x.Exp∧x.Exp≤2*B
 | [],b,ha,hb,h=>by rw [zbd] at h; have:=hb x h; omega
 | y::a,[],ha,hb,h=>by rw [zbd] at h; have:=ha x h; omega
 | y::a,z::b,ha,hb,h=>by
  have hy:=ha y (by simp)
  have hz:=hb z (by simp)
  rw [zbd] at h;split at h
  ·rcases qd.1 h with rfl | h
   ·omega
   ·exact zKR (fun w hw=>ha w (by simp [hw])) hb h
  ·split at h
   ·rcases qd.1 h with rfl | h
    ·omega
    ·exact zKR ha (fun w hw=>hb w (by simp [hw])) h
   ·rcases qd.1 h with rfl | h
    ·split
     ·omega
     ·simp only; omega
    ·exact zKR (fun w hw=>ha w (by simp [hw])) (fun w hw=>hb w (by simp [hw])) h
termination_by a b=>a.length+b.length
def zvu (a b:Int):Int:=if Int.tdiv 1152921504606846976 b<a then 1152921504606846976 else a*b
def zjg (x y:Term):Term:=⟨zvu x.Coeff y.Coeff,zbd x.Factors y.Factors⟩
def zd5 (a b:yC):yC:=a.flatMap fun x=>b.map (zjg x)
def zcd (a b:yC):yC:=sumA [] (zd5 a b)
theorem zJo {a b:Int} (ha:1≤a∧a≤1152921504606846976) (hb:1≤b∧b≤1152921504606846976):(1≤zvu a b∧zvu a b≤1152921504606846976)∧(¬ Int.tdiv 1152921504606846976 b<a→a*b≤1152921504606846976):=by
 have h1:¬ Int.tdiv 1152921504606846976 b<a→a*b≤1152921504606846976:=fun h=>by
  rw [Int.tdiv_eq_ediv_of_nonneg (by omega)] at h
  have h2:a≤1152921504606846976 / b:=by omega
  exact (Int.le_ediv_iff_mul_le (by omega)).1 h2
 refine ⟨?_,h1⟩;unfold zvu;split
 ·omega
 ·rename_i h;refine ⟨?_,h1 h⟩;have:=Int.mul_le_mul ha.1 hb.1 (by omega) (by omega)
  omega
theorem zCT {t:Term} {a b:yC} (h:t∈zd5 a b):∃ x∈a,∃ y∈b,t=zjg x y:=by
 obtain ⟨x,hx,ht⟩:=List.mem_flatMap.1 h;obtain ⟨y,hy,rfl⟩:=List.mem_map.1 ht;exact ⟨x,hx,y,hy,rfl⟩
theorem zV2 (a b:yC):(zd5 a b).length=a.length*b.length:=by
 unfold zd5;induction a with
 | nil=>simp
 | cons x r ih=>rw [List.flatMap_cons,qg,ih,List.length_map,qf,Nat.add_mul]; omega
abbrev zFH:=yE×Unit×Int×Int×Unit
abbrev zqf:=yE×Unit
abbrev zGa:=yE×Int×Int×yE
abbrev zFm:=yE×Unit×Int×Unit
def zvd (l:yE) (i:Int) (k:Int) (out_:yE):Wy zFH zqf zGa:=.i (decide (k<Int.ofNat out_.length)) (.i (decide (0≤k)&&decide (k≤IntKind.i64.wrap (k+1))&&decide (IntKind.i64.wrap (k+1)≤Int.ofNat out_.length)) (.i (decide (0≤i)&&decide (i≤IntKind.i64.wrap (i+1))&&decide (IntKind.i64.wrap (i+1)≤Int.ofNat l.length)) (.bn (zt3 (List.take ((IntKind.i64.wrap (k+1)).toNat - k.toNat) (List.drop k.toNat out_)) (List.take ((IntKind.i64.wrap (i+1)).toNat - i.toNat) (List.drop i.toNat l))) fun r0=>.i (decide (r0≤0)) (.h (l,(),i,(IntKind.i64.wrap (k+1)),()) (out_,())) (.k (l,i,k,out_))) .d) .d) (.k (l,i,k,out_))
def zQL (x:zFH) (y:zqf):Wy zFH zqf zGa:=zvd x.1 x.2.2.1 x.2.2.2.1 y.1
def zPx (n:Nat) (l:yE) (i:Int) (k:Int) (out_:yE):Bool×zGa:=zI (zQL) default n (l,(),i,k,()) (out_,())
def zv3 (l:yE) (i:Int) (out_:yE):Wy zFm zqf (yE):=.i (decide (i<Int.ofNat l.length)) (.i (decide (0≤i)&&decide (i<Int.ofNat l.length)) (.i (Int.ofNat (l.getD i.toNat default).Ann.length==0) (.h (l,(),(IntKind.i64.wrap (i+1)),()) (out_,())) (.bn (zPx (l.length+i.toNat +Int.toNat 0+out_.length+1) l i 0 out_) fun r2=>.i (decide ((0:Int)≤(0:Int))&&decide (0≤r2.2.2.1)&&decide (r2.2.2.1≤Int.ofNat r2.2.2.2.length)) (.i (decide ((0+(List.take (r2.2.2.1.toNat - Int.toNat 0) (List.drop (Int.toNat 0) r2.2.2.2)).length)*56≤reach)) (.i (decide (0≤r2.2.1)&&decide (r2.2.1<Int.ofNat r2.1.length)) (.i (decide ((([]++List.take (r2.2.2.1.toNat - Int.toNat 0) (List.drop (Int.toNat 0) r2.2.2.2)).length+[r2.1.getD r2.2.1.toNat default].length)*56≤reach)) (.i (decide (0≤r2.2.2.1)&&decide (r2.2.2.1≤Int.ofNat r2.2.2.2.length)&&decide (Int.ofNat r2.2.2.2.length≤Int.ofNat r2.2.2.2.length)) (.i (decide ((([]++List.take (r2.2.2.1.toNat - Int.toNat 0) (List.drop (Int.toNat 0) r2.2.2.2)++[r2.1.getD r2.2.1.toNat default]).length+(List.take ((Int.ofNat r2.2.2.2.length).toNat - r2.2.2.1.toNat) (List.drop r2.2.2.1.toNat r2.2.2.2)).length)*56≤reach)) (.h ((r2.1),(),(IntKind.i64.wrap (r2.2.1+1)),()) (([]++List.take (r2.2.2.1.toNat - Int.toNat 0) (List.drop (Int.toNat 0) r2.2.2.2)++[r2.1.getD r2.2.1.toNat default]++List.take ((Int.ofNat r2.2.2.2.length).toNat - r2.2.2.1.toNat) (List.drop r2.2.2.1.toNat r2.2.2.2)),())) .d) .d) .d) .d) .d) .d)) .d) (.k out_)
def zQS (x:zFm) (y:zqf):Wy zFm zqf (yE):=zv3 x.1 x.2.2.1 y.1
def zPq (n:Nat) (l:yE) (i:Int) (out_:yE):Bool×yE:=zI (zQS) default n (l,(),i,()) (out_,())
def zS8 (l:yE):Wy0 (yE):=.bn (zPq (l.length+Int.toNat 0+0+1) l 0 []) fun r4=>.k r4
def zOC (l:yE):Bool×yE:=(zS8 l).fin default
def zNu (op:Int) (sign:Int):Wy0 (Bool):=.i (op==5) (.k (sign==0)) (.i (op==6) (.k (sign != 0)) (.i (op==7) (.k (decide (sign<0))) (.i (op==8) (.k (decide (sign≤0))) (.i (op==9) (.k (decide (sign>0))) (.i (op==10) (.k (decide (sign≥0))) (.k false))))))
def zHN (op:Int) (sign:Int):Bool×Bool:=(zNu op sign).fin default
abbrev zHW:=Int×yE×Int×Unit×Int×Unit
abbrev zII:=Int⊕(Int×yE×Int×Value)
def zxA (fn:Int) (items:yE) (op:Int) (i:Int) (bound:Value):Wy zHW (Value×Unit) zII:=.i (decide (i<Int.ofNat items.length)) (.i (decide (0≤i)&&decide (i<Int.ofNat items.length)) (.bn (zfM (items.getD i.toNat default).Ann) fun r0=>.i (!r0) (.k (.inl 1)) (.h (fn,items,op,(),(IntKind.i64.wrap (i+1)),()) (bound,()))) .d) (.k (.inr (fn,items,op,bound)))
def zSL (x:zHW) (y:Value×Unit):Wy zHW (Value×Unit) zII:=zxA x.1 x.2.1 x.2.2.1 x.2.2.2.2.1 y.1
def zSV (n:Nat) (fn:Int) (items:yE) (op:Int) (i:Int) (bound:Value):Bool×zII:=zI (zSL) (.inl default) n (fn,items,op,(),i,()) (bound,())
def zWK (fn:Int) (items:yE) (op:Int) (bound:Value):Wy0 (yC×Int):=.bn (zyn fn items op bound) fun r7=>.i (!r7) (.k ([],1)) (.bn (zSV (fn.toNat +items.length+op.toNat +Int.toNat 0+1) fn items op 0 bound) fun r6=>.i (isL r6) (.k ([],getL r6)) (.bn (zOC (getR r6).2.1) fun r5=>.i (Int.ofNat r5.length==0) (.i ((getR r6).1==0) (.bn (zcM 0 (getR r6).2.2.2.Int) fun r3=>.bn (zHN (getR r6).2.2.1 r3) fun r2=>.i (r2) (.k (zGB.2,0)) (.k ([],0))) (.k ([],0))) (.bn (znJ (zm1 (Atom.mk 4 (RowID.mk 0 0) [] (getR r6).1 r5 (getR r6).2.2.1 (getR r6).2.2.2)).2) fun r4=>.k (r4.1,r4.2))))
def zJy (fn:Int) (items:yE) (op:Int) (bound:Value):Bool×(yC×Int):=(zWK fn items op bound).fin default
section
variable {α β ρ τ:Type} [Inhabited τ]
theorem zXr (p:τ→Bool):∀ l:List τ,l.take (l.takeWhile p).length=l.takeWhile p
 | []=>rfl
 | x::r=>by
  rw [List.takeWhile_cons];cases p x with
  | true=>simp [zXr p r]
  | false=>simp
theorem zW8 (p:τ→Bool):∀ l:List τ,l.drop (l.takeWhile p).length=l.dropWhile p
 | []=>rfl
 | x::r=>by
  rw [List.takeWhile_cons,List.dropWhile_cons];cases p x with
  | true=>simp [zW8 p r]
  | false=>simp
theorem zbgy (p:τ→Bool) (l:List τ):(l.takeWhile p).length≤l.length:=(List.takeWhile_prefix p).length_le
theorem z4z {W:α→β→Wy α β ρ} {z:ρ} (l:List τ) (p:τ→Bool) (ex:Nat→α) (ey:Nat→β) (res:Nat→ρ)
  (h:∀ i,i<l.length→∀ (H:α→β→Bool×ρ) K D,(W (ex i) (ey i)).ev H K D=bif p (l.getD i default) then H (ex (i+1)) (ey (i+1)) else K (res i))
  (he:∀ (H:α→β→Bool×ρ) K D,(W (ex l.length) (ey l.length)).ev H K D=K (res l.length)):
  ∀ n i,l.length<i+n→i≤l.length→zI W z n (ex i) (ey i)=(true,res (i+((l.drop i).takeWhile p).length))
 | 0,i,h1,h2=>by omega
 | n+1,i,h1,h2=>by
  show (W (ex i) (ey i)).ev (zI W z n) (fun r=>(true,r)) (false,z)=_
  by_cases hi:i<l.length
  ·rw [h i hi,zbB hi,List.takeWhile_cons];cases hp:p (l.getD i default) with
   | false=>simp
   | true=>
    rw [cond_true,z4z l p ex ey res h he n (i+1) (by omega) (by omega)]
    simp only [if_true,qf];congr 2; omega
  ·have:i=l.length:=by omega
   subst this;rw [he,zc2 hi]; rfl
theorem zQ3 {W:α→β→Wy α β ρ} {z:ρ} (l:List τ) (p:τ→Bool) (ex:Nat→α) (ey:Nat→β) (res:Nat→ρ)
  (h:∀ i,i<l.length→∀ (H:α→β→Bool×ρ) K D,(W (ex i) (ey i)).ev H K D=bif p (l.getD i default) then H (ex (i+1)) (ey (i+1)) else K (res i))
  (he:∀ (H:α→β→Bool×ρ) K D,(W (ex l.length) (ey l.length)).ev H K D=K (res l.length)) (n:Nat) (hn:l.length<n):
  zI W z n (ex 0) (ey 0)=(true,res (l.takeWhile p).length):=by
 have:=z4z (z:=z) l p ex ey res h he n 0 (by omega) (by omega)
 simpa using this
def rins (p:τ→Bool) (x:τ) (l:List τ):List τ:=l.takeWhile p++x::l.dropWhile p
theorem z42 (p:τ→Bool) (x y:τ) (r:List τ):rins p x (y::r)=bif p y then y::rins p x r else x::y::r:=by
 unfold rins;rw [List.takeWhile_cons,List.dropWhile_cons];cases p y <;>simp
theorem zGY (p:τ→Bool) (x:τ):∀ l:List τ,(rins p x l).Perm (x::l)
 | []=>.refl _
 | y::r=>by
  rw [z42];cases p y
  ·exact .refl _
  ·exact ((zGY p x r).cons y).trans (.swap x y r)
abbrev Srt (key:τ→TT) (l:List τ):Prop:=l.Pairwise fun x y=>cmpT (key x) (key y)≤0
theorem z6P (key:τ→TT) (x:τ):∀ l:List τ,Srt key l→Srt key (rins (fun y=>decide (cmpT (key y) (key x)≤0)) x l)
 | [],_=>by simp [rins]
 | y::r,h=>by
  have h:=qi.1 h;rw [z42];by_cases hp:cmpT (key y) (key x)≤0
  ·rw [decide_eq_true hp];refine qi.2 ⟨fun z hz=> ?_,z6P key x r h.2⟩
   rcases qd.1 ((zGY _ x r).mem_iff.1 hz) with rfl | hz
   ·exact hp
   ·exact h.1 z hz
  ·rw [decide_eq_false hp];have hxy:cmpT (key x) (key y)≤0:=by have:=zgH (key x) (key y); omega
   refine qi.2 ⟨fun z hz=> ?_,qi.2 h⟩
   rcases qd.1 hz with rfl | hz
   ·exact hxy
   ·exact zw0 _ _ _ hxy (h.1 z hz)
end
theorem z3o {τ:Type} (l:List τ) (k:Nat):List.take (k - Int.toNat 0) (List.drop (Int.toNat 0) l)=l.take k:=by simp
theorem zCY {τ:Type} (l:List τ) (k:Nat):List.take ((Int.ofNat l.length).toNat - k) (List.drop k l)=l.drop k:=by
 simp only [Int.ofNat_eq_natCast,Int.toNat_natCast];rw [List.take_of_length_le (by simp)]
theorem z6C (n:Nat):(n==0)= !decide (0<n):=by cases n <;>simp
def hasA (w:Weighted):Bool:=decide (0<w.Ann.length)
def zdX (l:yE):yE:=ziA zbe (l.filter hasA)
theorem zLL {d:Nat} {l:yE} (hl:l.length≤1000000) (h:∀ w∈l,zr d w.Ann) (hd:d≤99):SortOK zbe l:=by
 have e:∀ x∈l,∀ y,zbe x y=(true,cmpT (zbc x) (zbc y)):=fun x hx y=>zjW (h x hx) hd y
 refine ⟨by omega,fun x hx y _=>by rw [e x hx],fun x hx=> ?_,fun x hx y hy z hz h1 h2=> ?_,fun x hx y hy z hz h1 h2=> ?_,fun x hx y hy h1 h2=> ?_⟩
 ·rw [e x hx,zGQ]; omega
 ·rw [e x hx] at h1 ⊢; rw [e y hy] at h2;have h3:=zw0 _ _ _ (show cmpT (zbc x) (zbc y)≤0 by simp only at h1; omega) (show cmpT (zbc y) (zbc z)≤0 by simp only at h2; omega)
  simp only at h1 h2 ⊢;by_cases e0:cmpT (zbc x) (zbc z)=0
  ·have:=zvo _ _ e0;rw [← this,zgH (zbc x) (zbc y)] at h2;omega
  ·omega
 ·rw [e x hx] at h1 ⊢; rw [e y hy] at h2;simp only at h1 h2 ⊢;have a1:=zgH (zbc x) (zbc y);have a2:=zgH (zbc y) (zbc z);have a3:=zgH (zbc x) (zbc z);have:=zw0 (zbc z) (zbc y) (zbc x) (by omega) (by omega)
  omega
 ·rw [e x hx] at h1; rw [e y hy] at h2;simp only at h1 h2;have a1:=zgH (zbc x) (zbc y);exact z2b _ _ (zvo _ _ (by omega))
theorem zbea {d:Nat} (l:yE) (hl:l.length≤1000000) (h:∀ w∈l,zr d w.Ann) (hd:d≤99) (n:Nat) (hn:l.length<n):zE2 n l l.length 0 []=(true,l.filter hasA):=by
 have hreach:reach=70368744177664:=rfl;have hfl:∀ i,(List.filter hasA (l.take i)).length≤1000000:=fun i=>Nat.le_trans (List.length_filter_le _ _) (Nat.le_trans (by simp; omega) hl)
 have:=zef (W:=zyw) (z:=default) l.length (fun i=>((),l,(l.length:Int),(i:Int),())) (fun i=>((l.take i).filter hasA,())) (fun _=>true) default (l.filter hasA)
  (fun i hi H K D=>by
   show (zmt l l.length i ((l.take i).filter hasA)).ev H K D=_;unfold zmt;have hb2:decide (((List.filter hasA (l.take i)).length+1)*56≤reach)=true:=by have:=hfl i; simp only [qe]; omega
   have hgt:decide (((l.getD i default).Ann.length:Int)>0)=hasA (l.getD i default):=zoK _ 0;simp only [Wy.ev_i,Wy.ev_k,Wy.ev_h,Wy.ev_bn,Wy.ev_d,tT,hi,zGz (h _ (zt hi)) (by omega:d≤100),hgt,List.length_singleton,hb2]
   rw [zR (by omega),zkA hi,List.filter_append,List.filter_cons]
   cases hasA (l.getD i default) with
   | true=>simp
   | false=>simp)
  (fun H K D=>by
   show (zmt l l.length l.length ((l.take l.length).filter hasA)).ev H K D=_;unfold zmt;simp only [Wy.ev_i,Wy.ev_k,tT,Nat.lt_irrefl,List.take_length]) n hn
 rw [show allN (fun _=>true) l.length 0=true from zen.2 fun _ _ _=>rfl] at this
 exact this
theorem zbc6 {d:Nat} (l:yE) (hl:l.length≤1000000) (h:∀ w∈l,zr d w.Ann) (hd:d≤99) (h20:(l.filter hasA).length<20):zqP l=(true,zdX l):=by
 unfold zqP zHJ zbn zdX;have:=zbea l hl h hd (l.length+(Int.ofNat l.length).toNat +Int.toNat (0:Int)+(0:Nat)+(1:Nat)) (by omega)
 rw [show Int.ofNat l.length=(l.length:Int) from rfl] at *
 have ok:SortOK zbe (l.filter hasA):=zLL (d:=d) (by omega) (fun w hw=>h w (List.mem_filter.1 hw).1) hd
 rw [Wy.fin_bn,this];simp only [Wy.fin_bn,Wy.fin_k,cond_true,decide_eq_true ok,decide_eq_true h20,Bool.and_self]
def zy9 (w:Weighted) (out:yE):yE:=bif hasA w then rins (fun y=>decide (cmpT (zbc y) (zbc w)≤0)) w out else out
theorem zbdn {d:Nat} (l:yE) (i:Nat) (hi:i<l.length) (hl:l.length≤1000000) (out:yE) (ho:out.length≤1000000) (h:∀ w∈out,zr d w.Ann) (hd:d≤99) (n:Nat) (hn:out.length<n):
  zPx n l i 0 out=(true,(l,(i:Int),(((out.takeWhile fun y=>decide (cmpT (zbc y) (zbc (l.getD i default))≤0)).length:Nat):Int),out)):=by
 exact zQ3 (W:=zQL) (z:=default) out (fun y=>decide (cmpT (zbc y) (zbc (l.getD i default))≤0)) (fun k=>(l,(),(i:Int),(k:Int),())) (fun _=>(out,())) (fun k=>(l,(i:Int),(k:Int),out))
  (fun k hk H K D=>by
   show (zvd l i k out).ev H K D=_;unfold zvd;have e1:(decide ((k:Int)≤((k+1:Nat):Int))&&decide (((k+1:Nat):Int)≤Int.ofNat out.length))=true:=by simp; try omega
   have e2:(decide ((i:Int)≤((i+1:Nat):Int))&&decide (((i+1:Nat):Int)≤Int.ofNat l.length))=true:=by simp; try omega
   have e3:decide ((k:Int)<Int.ofNat out.length)=true:=by simp [hk]
   simp only [Wy.ev_i,Wy.ev_k,Wy.ev_h,Wy.ev_bn,Wy.ev_d,zR (show k<4611686018427387904 by omega),zR (show i<4611686018427387904 by omega),e1,e2,e3,zfc,Bool.true_and,cond_true,Int.toNat_natCast,show k+1 - k=1 by omega,show i+1 - i=1 by omega,z58 _ _ hi,z58 _ _ hk]
   rw [zC5 (d:=d) (by simp) (fun w hw=>by
    rw [qh] at hw; subst hw; exact h _ (zt hk)) hd,zna,zna]
   simp only [List.map,zbdy,cond_true])
  (fun H K D=>by
   show (zvd l i out.length out).ev H K D=_;unfold zvd;have e3:decide ((out.length:Int)<Int.ofNat out.length)=false:=by simp
   simp only [Wy.ev_i,Wy.ev_k,e3,cond_false]) n hn
theorem zbb3 (w:Weighted) (out:yE):(zy9 w out).length≤out.length+1:=by
 unfold zy9;cases hasA w with
 | false=>simp
 | true=>simp only [cond_true]; rw [(zGY _ w out).length_eq]; simp
theorem zbb8 {w y:Weighted} {out:yE} (h:y∈zy9 w out):y=w∨y∈out:=by
 unfold zy9 at h;cases hb:hasA w with
 | false=>rw [hb] at h; exact .inr h
 | true=>rw [hb] at h; exact qd.1 ((zGY _ w out).mem_iff.1 h)
theorem zbcl {d:Nat} (l:yE) (hl:l.length≤1000000) (h:∀ w∈l,zr d w.Ann) (hd:d≤99) (n:Nat) (hn:l.length<n):zPq n l 0 []=(true,l.foldl (fun out w=>zy9 w out) []):=by
 have hreach:reach=70368744177664:=rfl
 have:=zc3 (W:=zQS) (z:=default) (l:=l) (fun i (out:yE)=>(l,(),(i:Int),())) (fun _ out=>(out,())) (fun w out=>.inl (zy9 w out)) (fun out=>out) (fun i out=>out.length≤i∧∀ w∈out,zr d w.Ann)
  (fun i out hi hI=>.inl ⟨_,rfl,⟨by have:=zbb3 (l.getD i default) out; omega,fun w hw=>by
    rcases zbb8 hw with rfl | hw
    ·exact h _ (zt hi)
    ·exact hI.2 w hw⟩,fun H K D=>by
   show (zv3 l i out).ev H K D=_;unfold zv3;have e0:((l.getD i default).Ann.length==0)= !hasA (l.getD i default):=z6C _;have e3:decide ((i:Int)<Int.ofNat l.length)=true:=by simp [hi]
   simp only [Wy.ev_i,Wy.ev_k,Wy.ev_h,Wy.ev_bn,Wy.ev_d,e3,zfc,Bool.and_self,cond_true,Int.toNat_natCast,show (Int.ofNat (l.getD i default).Ann.length==(0:Int))=((l.getD i default).Ann.length==0) from zxe _ 0,e0]
   rw [zbdn l i hi hl out (by omega) hI.2 hd _ (by omega)]
   simp only [cond_true,z3o,zCY,List.nil_append,Int.toNat_natCast,e3,zfc,Bool.and_self,Int.le_refl,decide_true,Bool.true_and,Bool.and_true];have q1:=zbgy (fun y=>decide (cmpT (zbc y) (zbc (l.getD i default))≤0)) out
   have q2:decide (((out.takeWhile fun y=>decide (cmpT (zbc y) (zbc (l.getD i default))≤0)).length:Int)≤Int.ofNat out.length)=true:=by simp only [qe,Int.ofNat_eq_natCast]; omega
   have hb1:decide ((0+(out.take (out.takeWhile fun y=>decide (cmpT (zbc y) (zbc (l.getD i default))≤0)).length).length)*56≤reach)=true:=by simp only [qe,List.length_take]; omega
   have hb2:decide (((out.take (out.takeWhile fun y=>decide (cmpT (zbc y) (zbc (l.getD i default))≤0)).length).length+[l.getD i default].length)*56≤reach)=true:=by simp only [qe,List.length_take,List.length_singleton]; omega
   have hb3:decide (((out.take (out.takeWhile fun y=>decide (cmpT (zbc y) (zbc (l.getD i default))≤0)).length++[l.getD i default]).length+(out.drop (out.takeWhile fun y=>decide (cmpT (zbc y) (zbc (l.getD i default))≤0)).length).length)*56≤reach)=true:=by simp only [qe,qg,List.length_take,List.length_singleton,List.length_drop]; omega
   simp only [q2,hb1,hb2,hb3,cond_true];rw [zR (by omega),zXr,zW8]
   unfold zy9 rins;cases hasA (l.getD i default) <;>simp⟩)
  (fun out hI H K D=>by
   show (zv3 l l.length out).ev H K D=_;unfold zv3;have e3:decide ((l.length:Int)<Int.ofNat l.length)=false:=by simp
   simp only [Wy.ev_i,Wy.ev_k,e3,cond_false]) n 0 [] (by omega) (by omega) ⟨by simp,fun w hw=>by cases hw⟩
 rw [List.drop_zero,zc4] at this;exact this
theorem z2h:∀ (l out:yE),(l.foldl (fun out w=>zy9 w out) out).Perm (l.filter hasA++out)∧(Srt zbc out→Srt zbc (l.foldl (fun out w=>zy9 w out) out))
 | [],out=>⟨.refl _,fun h=>h⟩
 | w::r,out=>by
  obtain ⟨h1,h2⟩:=z2h r (zy9 w out);rw [List.foldl_cons,List.filter_cons];cases hb:hasA w with
  | false=>
   have e:zy9 w out=out:=by unfold zy9; rw [hb]; rfl
   rw [e] at h1 h2 ⊢;exact ⟨by simpa using h1,h2⟩
  | true=>
   have e:zy9 w out=rins (fun y=>decide (cmpT (zbc y) (zbc w)≤0)) w out:=by unfold zy9; rw [hb]; rfl
   rw [e] at h1 h2 ⊢;refine ⟨?_,fun h=>h2 (z6P zbc w out h)⟩
   simp only [if_true,List.cons_append];exact h1.trans (((zGY _ w out).append_left _).trans List.perm_middle)
theorem zbbO {d:Nat} (l:yE) (hl:l.length≤1000000) (h:∀ w∈l,zr d w.Ann) (hd:d≤99):zOC l=(true,zdX l):=by
 unfold zOC zS8;rw [Wy.fin_bn,zbcl l hl h hd _ (by omega)]
 simp only [cond_true,Wy.fin_k];congr 1;obtain ⟨h1,h2⟩:=z2h l [];rw [List.append_nil] at h1;have hm:∀ w∈l.filter hasA,zr d w.Ann:=fun w hw=>h w (List.mem_filter.1 hw).1
 refine (zLL (d:=d) (Nat.le_trans (List.length_filter_le _ _) hl) hm hd).unique h1 ?_;refine (h2 .nil).imp_of_mem fun {x y} hx hy hxy=> ?_
 rw [zjW (hm y (h1.mem_iff.1 hy)) hd,zgH (zbc x) (zbc y)];simp only; omega
def mats (op sign:Int):Bool:=bif op==5 then sign==0 else bif op==6 then sign != 0 else bif op==7 then decide (sign<0) else bif op==8 then decide (sign≤0) else bif op==9 then decide (sign>0) else decide (sign≥0)
theorem zbc7 (op sign:Int):zrj op sign=(true,mats op sign):=by
 unfold zrj zHa mats;simp only [Wy.fin_i,Wy.fin_k];cases op==5 <;>cases op==6 <;>cases op==7 <;>cases op==8 <;>cases op==9 <;>rfl
theorem zbaL {op sign:Int} (h1:5≤op) (h2:op≤10):zHN op sign=(true,mats op sign):=by
 unfold zHN zNu mats;simp only [Wy.fin_i,Wy.fin_k,beqd];by_cases a1:op=5
 ·simp [a1]
 by_cases a2:op=6
 ·simp [a2]
 by_cases a3:op=7
 ·simp [a3]
 by_cases a4:op=8
 ·simp [a4]
 by_cases a5:op=9
 ·simp [a5]
 have a6:op=10:=by omega
 simp [a6]
def tstA (fn:Int) (l:yE) (op:Int) (b:Value):Atom:=⟨4,⟨0,0⟩,[],fn,l,op,b⟩
def ztM (fn:Int) (items:yE) (op:Int) (b:Value):yC×Int:=
 bif !(fitK fn items op b&&items.all fun w=>zG w.Ann) then ([],1) else
 bif decide (0<(zdX items).length) then fitR (oneA (tstA fn (zdX items) op b)) else
 bif fn==0&&mats op (cmpI 0 b.Int) then ([⟨1,[]⟩],0) else ([],0)
theorem zJI {l:yE} {w:Weighted} (h:w∈zdX l):w∈l∧w.Ann≠[]:=by
 have:=(zk6 _ _).mem_iff.1 h;obtain ⟨h1,h2⟩:=List.mem_filter.1 this;refine ⟨h1,fun e=> ?_⟩
 rw [hasA,e] at h2; simp at h2
theorem z14 (l:yE):(zdX l).length=(l.filter hasA).length:=(zk6 _ _).length_eq
theorem zWx {B:Nat}:∀ l:yE,(∀ w∈l,zN w.Ann≤B)→zdm l≤l.length*(B+1)
 | [],_=>by rw [zfx]; simp
 | w::r,h=>by
  rw [zh4,qf];have h1:=h w (by simp)
  have h2:=zWx r fun w hw=>h w (by simp [hw])
  rw [Nat.add_mul]; omega
theorem zKO {fn:Int} {l:yE} {op:Int} {b:Value} (hl:l.length≤1000000) (hf:fitK fn l op b=true) (hv:(l.all fun w=>zG w.Ann)=true):zr 10 (oneA (tstA fn (zdX l) op b))∧zN (oneA (tstA fn (zdX l) op b))≤4611686018427387904:=by
 obtain ⟨_,hb,hit⟩:=ztN hf;have hvv:∀ w∈l,zG w.Ann=true:=fun w hw=>List.all_eq_true.1 hv w hw
 have hlen:(zdX l).length≤1000000:=by rw [z14]; exact Nat.le_trans (List.length_filter_le _ _) hl
 constructor
 ·refine zM5 ⟨⟨by simp [tstA],hlen,by have:=zwt hb; simp only [tstA]; omega⟩,fun y hy=>(by cases hy),fun w hw=> ?_⟩
  have hm:=(zJI hw).1;exact ⟨by have:=zwt (hit w hm).1; omega,(ze1 (hvv w hm)).1⟩
 ·rw [z0R,zg8];have h1:zdm (zdX l)≤(zdX l).length*(4096+1):=zWx _ fun w hw=>(ze1 (hvv w (zJI hw).1)).2.1
  show 2+(zfb []+zdm (zdX l))≤_;rw [zgx];have:=Nat.mul_le_mul hlen (Nat.le_refl (4096+1));omega
theorem zbew {d:Nat} (l:yE) (hl:l.length≤1000000) (h:∀ w∈l,zr d w.Ann∧zN w.Ann≤4611686018427387904) (hd:d≤99):zb8 l=(true, !l.all fun w=>zG w.Ann):=by
 unfold zb8 zgO;have:zdu l=IG (fun (_:Unit) x=>znp x) (l.length+(Int.ofNat l.length).toNat +Int.toNat (0:Int)+(1:Nat)) () l:=rfl
 rw [zk4 (P:=fun w=> !zG w.Ann) (this.trans (zJV _ _ _ _ _ (by omega) (fun x hx=>by
  unfold znp zEm;rw [Wy.fin_bn,z40 (h x hx).1 (by omega) (h x hx).2]; rfl) (by omega)))]
 simp [List.all_eq_not_any_not]
theorem zbey {d:Nat} (fn:Int) (l:yE) (op:Int) (b:Value) (hl:l.length≤1000000) (h:∀ w∈l,zr d w.Ann∧zN w.Ann≤4611686018427387904) (hd:d≤99) (h20:(l.filter hasA).length<20):
  zob fn l op b=(true,ztM fn l op b):=by
 unfold zob zI5 ztM;have hI:=zbc6 l hl (fun w hw=>(h w hw).1) hd h20
 have hgt:decide (Int.ofNat (zdX l).length>0)=decide (0<(zdX l).length):=zoK _ 0;simp only [Wy.fin_bn,Wy.fin_i,Wy.fin_k,z2J fn l op b hl,zbew l hl h hd,hI,cond_true,hgt];cases hf:fitK fn l op b with
 | false=>rfl
 | true=>
  cases hv:l.all fun w=>zG w.Ann with
  | false=>rfl
  | true=>
   simp only [Bool.not_true,cond_false,Bool.and_self];rw [zGy];have hx:(⟨4,⟨0,0⟩,[],fn,zdX l,op,b⟩:Atom)=tstA fn (zdX l) op b:=rfl;rw [hx,zAO (zKO hl hf hv).1 (by omega) (zKO hl hf hv).2]
   cases decide (0<(zdX l).length) with
   | true=>rfl
   | false=>
    simp only [cond_false,zxw,zbc7,cond_true];cases fn==0 with
    | false=>rfl
    | true=>
     cases mats op (cmpI 0 b.Int) <;>rfl
theorem zbdg {d:Nat} (fn:Int) (l:yE) (op:Int) (b:Value) (hl:l.length≤1000000) (h:∀ w∈l,zr d w.Ann∧zN w.Ann≤4611686018427387904) (hd:d≤99):
  zJy fn l op b=(true,ztM fn l op b):=by
 unfold zJy zWK ztM;have hI:=zbbO l hl (fun w hw=>(h w hw).1) hd
 have hgt:decide (0<(zdX l).length)= !((zdX l).length==0):=by rw [z6C,Bool.not_not]
 have hL:zSV (fn.toNat +l.length+op.toNat +Int.toNat (0:Int)+(1:Nat)) fn l op (0:Int) b=(true,bif l.all fun w=>zG w.Ann then .inr (fn,l,op,b) else .inl 1):=by
  have:=zef (W:=zSL) (z:=.inl default) l.length (fun i=>(fn,l,op,(),(i:Int),())) (fun _=>(b,())) (fun i=>(fun w:Weighted=>zG w.Ann) (l.getD i default)) (.inl 1) (.inr (fn,l,op,b))
   (fun i hi H K D=>by
    show (zxA fn l op i b).ev H K D=_;unfold zxA;have hx:=h _ (zt hi);simp only [Wy.ev_i,Wy.ev_k,Wy.ev_h,Wy.ev_bn,Wy.ev_d,tT,hi,z1c hx.1 (by omega) hx.2]
    rw [zR (by omega)]
    cases zG (l.getD i default).Ann <;>rfl)
   (fun H K D=>by
    show (zxA fn l op l.length b).ev H K D=_;unfold zxA;simp only [Wy.ev_i,Wy.ev_k,tT,Nat.lt_irrefl]) (fn.toNat +l.length+op.toNat +Int.toNat (0:Int)+(1:Nat)) (by omega)
  rw [zAa (fun w:Weighted=>zG w.Ann)] at this
  exact this
 simp only [Wy.fin_bn,Wy.fin_i,Wy.fin_k,z8r fn l op b hl,hL,cond_true,hgt];cases hf:fitK fn l op b with
 | false=>rfl
 | true=>
  cases hv:l.all fun w=>zG w.Ann with
  | false=>rfl
  | true=>
   simp only [Bool.not_true,cond_false,cond_true,Bool.and_self,isL,getR,hI];rw [show (Int.ofNat (zdX l).length==(0:Int))=((zdX l).length==0) from zxe _ 0,zQw]
   have hx:(⟨4,⟨0,0⟩,[],fn,zdX l,op,b⟩:Atom)=tstA fn (zdX l) op b:=rfl;rw [hx,zQA (zKO hl hf hv).1 (by omega) (zKO hl hf hv).2]
   cases ((zdX l).length==0) with
   | false=>rfl
   | true=>
    obtain ⟨⟨_,_,o1,o2⟩,_⟩:=ztN hf;simp only [cond_false,Bool.not_true,zoa,zbaL o1 o2,cond_true];cases fn==0 with
    | false=>rfl
    | true=>
     cases mats op (cmpI 0 b.Int) <;>rfl
def zZr (a:yC) (b:yC):Wy0 (yC×Int):=.bn (zfM a) fun r3=>.i (!r3) (.k ([],1)) (.bn (zfM b) fun r2=>.i (!r2) (.k ([],1)) (.bn (zoi a b) fun r1=>.bn (znJ r1) fun r0=>.k (r0.1,r0.2)))
def zV3 (a:yC) (b:yC):Bool×(yC×Int):=(zZr a b).fin default
def zYZ (a:yC) (b:yC):Wy0 (yC×Int):=.bn (zfM a) fun r3=>.i (!r3) (.k ([],1)) (.bn (zfM b) fun r2=>.i (!r2) (.k ([],1)) (.bn (zCO a b) fun r1=>.bn (znJ r1) fun r0=>.k (r0.1,r0.2)))
def zWA (a:yC) (b:yC):Bool×(yC×Int):=(zYZ a b).fin default
def insT (t:Term):yC→yC
 | []=>[t]
 | x::r=>if cT x t=0 then ⟨zts x.Coeff t.Coeff,t.Factors⟩::r else t::x::r
def insF (f:Factor):yD→yD
 | []=>[f]
 | x::r=>if cF x f=0 then (if f.Atom.Kind<3 then ⟨f.Atom,x.Exp+f.Exp⟩ else f)::r else f::x::r
theorem zbeL {t:Term} {l:yC} {k:Nat} (hk:k<l.length):insT t (l.drop k)=if cT (l.getD k default) t=0 then ⟨zts (l.getD k default).Coeff t.Coeff,t.Factors⟩::l.drop (k+1) else t::l.drop k:=by
 rw [zbB hk]; rfl
theorem zbev {f:Factor} {l:yD} {k:Nat} (hk:k<l.length):insF f (l.drop k)=if cF (l.getD k default) f=0 then (if f.Atom.Kind<3 then ⟨f.Atom,(l.getD k default).Exp+f.Exp⟩ else f)::l.drop (k+1) else f::l.drop k:=by
 rw [zbB hk]; rfl
theorem z9s (t:Term):∀ l:yC,putA t l=l.takeWhile (fun x=>decide (cT x t<0))++insT t (l.dropWhile (fun x=>decide (cT x t<0)))
 | []=>rfl
 | x::r=>by
  rw [List.takeWhile_cons,List.dropWhile_cons];unfold putA;by_cases h:cT x t<0
  ·simp only [h,if_true,decide_true,List.cons_append];rw [z9s t r]
  ·simp only [h,if_false,decide_false,Bool.false_eq_true,List.nil_append]; rfl
theorem z89 (f:Factor):∀ l:yD,facA f l=l.takeWhile (fun x=>decide (cF x f<0))++insF f (l.dropWhile (fun x=>decide (cF x f<0)))
 | []=>rfl
 | x::r=>by
  rw [List.takeWhile_cons,List.dropWhile_cons];unfold facA;by_cases h:cF x f<0
  ·simp only [h,if_true,decide_true,List.cons_append];rw [z89 f r]
  ·simp only [h,if_false,decide_false,Bool.false_eq_true,List.nil_append]; rfl
theorem z80 {a b:Int} (ha:0≤a∧a≤1152921504606846976) (hb:0≤b∧b≤1152921504606846976):IntKind.i64.wrap (a+b)=a+b:=zjt (by omega) (by omega)
theorem zbbM {τ:Type} (l:List τ) (p:τ→Bool):(l.takeWhile p).length≤l.length:=(List.takeWhile_prefix p).length_le
theorem beq0 (z:Int):(z==0)=decide (z=0):=beqd z 0
theorem z9S {d:Nat} (l:yC) (t:Term) (hl:l.length≤1000000) (h:∀ x∈l,zdQ (zr d) x.Factors) (hd:d≤99) (hc:∀ x∈l,cOK x) (ht:cOK t):zC9 l t=(true,putA t l):=by
 have hreach:reach=70368744177664:=rfl;unfold zC9 zZp
 have hL:=zQ3 (W:=zLB) (z:=default) l (fun x=>decide (cT x t<0)) (fun k=>(l,(),(k:Int),())) (fun _=>(t,())) (fun k=>(l,(k:Int),t))
  (fun k hk H K D=>by
   show (zzP l k t).ev H K D=_;unfold zzP;simp only [Wy.ev_i,Wy.ev_k,Wy.ev_h,Wy.ev_bn,Wy.ev_d,tT,hk,zs4 (h _ (zt hk)) hd];rw [zR (by omega)]; rfl)
  (fun H K D=>by
   show (zzP l l.length t).ev H K D=_;unfold zzP;simp only [Wy.ev_i,Wy.ev_k,tT,Nat.lt_irrefl]) (l.length+Int.toNat (0:Int)+t.Factors.length+(1:Nat)) (by omega)
 have hL:zVs (l.length+Int.toNat (0:Int)+t.Factors.length+(1:Nat)) l 0 t=_:=hL;rw [hL,zXo,z9s];have q1:=zbbM l (fun x=>decide (cT x t<0))
 have q2:=zXr (fun x=>decide (cT x t<0)) l
 have q3:=zW8 (fun x=>decide (cT x t<0)) l
 generalize (l.takeWhile fun x=>decide (cT x t<0)).length=k at q1 q2 q3 ⊢
 rw [← q2, ← q3];have g1:(decide ((0:Int)≤(0:Int))&&decide ((0:Int)≤(k:Int))&&decide ((k:Int)≤Int.ofNat l.length))=true:=by simp only [qc,qe,Int.ofNat_eq_natCast]; omega
 have g2:decide ((0+(l.take k).length)*32≤reach)=true:=by simp only [qe,List.length_take]; omega
 have g4:∀ m:Nat,decide (((l.take k).length+[(⟨0,[]⟩:Term)].length)*32≤reach)=true:=fun m=>by simp only [qe,List.length_take,List.length_singleton]; omega
 simp only [Wy.fin_i,Wy.fin_k,Wy.fin_bn,List.nil_append,Int.toNat_natCast,z3o,zCY,g1,g2,cond_true];by_cases hk:k<l.length
 ·have g3:decide ((k:Int)<Int.ofNat l.length)=true:=by simp [hk]
  have g5:(decide ((0:Int)≤(k:Int))&&decide ((k:Int)<Int.ofNat l.length))=true:=by rw [g3]; simp
  have hm:=zt hk;simp only [g3,zfc,Bool.and_self,cond_true,zs4 (h _ hm) hd];rw [beq0,zbeL hk];have gw:IntKind.i64.wrap ((k:Int)+1)=((k+1:Nat):Int):=zR (by omega)
  have gp:(zxq (l.getD k default).Coeff t.Coeff).2=zts (l.getD k default).Coeff t.Coeff:=by
   unfold zxq zUy zts;rw [Wy.fin_k,z80 ⟨by have:=(hc _ hm).1; omega,(hc _ hm).2⟩ ⟨by have:=ht.1; omega,ht.2⟩]
  have gk:(decide ((0:Int)≤(k:Int))&&decide ((k:Int)≤Int.ofNat l.length)&&decide (Int.ofNat l.length≤Int.ofNat l.length))=true:=by simp only [qc,qe,Int.ofNat_eq_natCast]; omega
  have gk':decide ((k:Int)≤Int.ofNat l.length)=true:=by simp only [qe,Int.ofNat_eq_natCast]; omega
  have gk1':decide (((k+1:Nat):Int)≤Int.ofNat l.length)=true:=by simp only [qe,Int.ofNat_eq_natCast]; omega
  have gk1:(decide ((0:Int)≤((k+1:Nat):Int))&&decide (((k+1:Nat):Int)≤Int.ofNat l.length)&&decide (Int.ofNat l.length≤Int.ofNat l.length))=true:=by simp only [qc,qe,Int.ofNat_eq_natCast]; omega
  have gb:∀ x:Term,decide (((l.take k).length+[x].length)*32≤reach)=true:=fun x=>by simp only [qe,List.length_take,List.length_singleton]; omega
  have gc:∀ (x:Term) (m:Nat),decide (((l.take k++[x]).length+(l.drop m).length)*32≤reach)=true:=fun x m=>by simp only [qe,List.length_take,List.length_drop,qg,List.length_singleton]; omega
  by_cases hz:cT (l.getD k default) t=0
  ·have hz':cmpL (zbA (l.getD k default).Factors) (zbA t.Factors)=0:=hz;simp only [hz,hz',if_true,decide_true,cond_true,gw,gp,zfc,Bool.true_and,gk1',Int.le_refl,decide_true,cond_true,Bool.and_self,gb,gc,Int.toNat_natCast,zCY,List.append_assoc,List.singleton_append]
  ·have hz':¬ cmpL (zbA (l.getD k default).Factors) (zbA t.Factors)=0:=hz;simp only [hz,hz',if_false,decide_false,cond_false,cond_true,zfc,Bool.true_and,gk',Int.le_refl,decide_true,cond_true,Bool.and_self,gb,gc,List.append_assoc,List.singleton_append]
 ·have hk':k=l.length:=by omega
  have g3:decide ((k:Int)<Int.ofNat l.length)=false:=by simp [hk]
  have gk:(decide ((0:Int)≤(k:Int))&&decide ((k:Int)≤Int.ofNat l.length)&&decide (Int.ofNat l.length≤Int.ofNat l.length))=true:=by simp only [qc,qe,Int.ofNat_eq_natCast]; omega
  have gb:∀ x:Term,decide (((l.take k).length+[x].length)*32≤reach)=true:=fun x=>by simp only [qe,List.length_take,List.length_singleton]; omega
  have gc:∀ (x:Term) (m:Nat),decide (((l.take k++[x]).length+(l.drop m).length)*32≤reach)=true:=fun x m=>by simp only [qe,List.length_take,List.length_drop,qg,List.length_singleton]; omega
  have gk':decide ((k:Int)≤Int.ofNat l.length)=true:=by simp only [qe,Int.ofNat_eq_natCast]; omega
  simp only [g3,zfc,Bool.true_and,gk',Int.le_refl,decide_true,Bool.and_self,gb,gc,cond_true,cond_false];rw [zc2 hk];simp [insT,insF]
theorem zbdR {d:Nat} (l:yD) (f:Factor) (hl:l.length≤1000000) (h:∀ x∈l,zcU (zr d) x.Atom) (hd:d≤99) (hc:∀ x∈l,0≤x.Exp∧x.Exp≤1000000) (ht:0≤f.Exp∧f.Exp≤1000000):zAk l f=(true,facA f l):=by
 have hreach:reach=70368744177664:=rfl;unfold zAk zPM
 have hL:=zQ3 (W:=zEo) (z:=default) l (fun x=>decide (cF x f<0)) (fun k=>(l,(),(k:Int),())) (fun _=>(f,())) (fun k=>(l,(k:Int),f))
  (fun k hk H K D=>by
   show (ztK l k f).ev H K D=_;unfold ztK;simp only [Atom.eta,Wy.ev_i,Wy.ev_k,Wy.ev_h,Wy.ev_bn,Wy.ev_d,tT,hk,zwS (h _ (zt hk)) hd];rw [zR (by omega)]; rfl)
  (fun H K D=>by
   show (ztK l l.length f).ev H K D=_;unfold ztK;simp only [Wy.ev_i,Wy.ev_k,tT,Nat.lt_irrefl]) (l.length+Int.toNat (0:Int)+f.Atom.Args.length+f.Atom.Items.length+(1:Nat)) (by omega)
 have hL:zNN (l.length+Int.toNat (0:Int)+f.Atom.Args.length+f.Atom.Items.length+(1:Nat)) l 0 f=_:=hL;rw [Atom.eta,show (FactorOf.mk f.Atom f.Exp:Factor)=f from rfl,hL,zXo,z89]
 have q1:=zbbM l (fun x=>decide (cF x f<0))
 have q2:=zXr (fun x=>decide (cF x f<0)) l
 have q3:=zW8 (fun x=>decide (cF x f<0)) l
 generalize (l.takeWhile fun x=>decide (cF x f<0)).length=k at q1 q2 q3 ⊢
 rw [← q2, ← q3];have g1:(decide ((0:Int)≤(0:Int))&&decide ((0:Int)≤(k:Int))&&decide ((k:Int)≤Int.ofNat l.length))=true:=by simp only [qc,qe,Int.ofNat_eq_natCast]; omega
 have g2:decide ((0+(l.take k).length)*128≤reach)=true:=by simp only [qe,List.length_take]; omega
 have gb:∀ x:Factor,decide (((l.take k).length+[x].length)*128≤reach)=true:=fun x=>by simp only [qe,List.length_take,List.length_singleton]; omega
 have gc:∀ (x:Factor) (m:Nat),decide (((l.take k++[x]).length+(l.drop m).length)*128≤reach)=true:=fun x m=>by simp only [qe,List.length_take,List.length_drop,qg,List.length_singleton]; omega
 have gk:(decide ((0:Int)≤(k:Int))&&decide ((k:Int)≤Int.ofNat l.length)&&decide (Int.ofNat l.length≤Int.ofNat l.length))=true:=by simp only [qc,qe,Int.ofNat_eq_natCast]; omega
 have ef:(FactorOf.mk f.Atom f.Exp:Factor)=f:=rfl;simp only [Atom.eta,ef,Wy.fin_i,Wy.fin_k,Wy.fin_bn,List.nil_append,Int.toNat_natCast,z3o,zCY,g1,g2,cond_true];by_cases hk:k<l.length
 ·have g3:decide ((k:Int)<Int.ofNat l.length)=true:=by simp [hk]
  have g5:(decide ((0:Int)≤(k:Int))&&decide ((k:Int)<Int.ofNat l.length))=true:=by rw [g3]; simp
  have hm:=zt hk;simp only [g3,zfc,Bool.and_self,cond_true,zwS (h _ hm) hd];rw [beq0,zbev hk];have gw:IntKind.i64.wrap ((k:Int)+1)=((k+1:Nat):Int):=zR (by omega)
  have gp:IntKind.i64.wrap ((l.getD k default).Exp+f.Exp)=(l.getD k default).Exp+f.Exp:=by have:=hc _ hm; exact zjt (by omega) (by omega)
  have gk':decide ((k:Int)≤Int.ofNat l.length)=true:=by simp only [qe,Int.ofNat_eq_natCast]; omega
  have gk1':decide (((k+1:Nat):Int)≤Int.ofNat l.length)=true:=by simp only [qe,Int.ofNat_eq_natCast]; omega
  have gk1:(decide ((0:Int)≤((k+1:Nat):Int))&&decide (((k+1:Nat):Int)≤Int.ofNat l.length)&&decide (Int.ofNat l.length≤Int.ofNat l.length))=true:=by simp only [qc,qe,Int.ofNat_eq_natCast]; omega
  by_cases hz:cF (l.getD k default) f=0
  ·have hz':cmpT (zdJ (l.getD k default).Atom) (zdJ f.Atom)=0:=hz;by_cases hk3:f.Atom.Kind<3
   ·simp only [hz,hz',hk3,if_true,decide_true,cond_true,gw,gp,zfc,Bool.true_and,gk1',Int.le_refl,decide_true,cond_true,Bool.and_self,gb,gc,Int.toNat_natCast,zCY,List.append_assoc,List.singleton_append]
   ·simp only [hz,hz',hk3,if_true,if_false,decide_true,decide_false,cond_true,cond_false,gw,gp,zfc,Bool.true_and,gk1',Int.le_refl,decide_true,cond_true,Bool.and_self,gb,gc,Int.toNat_natCast,zCY,List.append_assoc,List.singleton_append]
  ·have hz':¬ cmpT (zdJ (l.getD k default).Atom) (zdJ f.Atom)=0:=hz;simp only [hz,hz',if_false,decide_false,cond_false,cond_true,zfc,Bool.true_and,gk',Int.le_refl,decide_true,cond_true,Bool.and_self,gb,gc,List.append_assoc,List.singleton_append]
 ·have g3:decide ((k:Int)<Int.ofNat l.length)=false:=by simp [hk]
  have gk':decide ((k:Int)≤Int.ofNat l.length)=true:=by simp only [qe,Int.ofNat_eq_natCast]; omega
  simp only [g3,zfc,Bool.true_and,gk',Int.le_refl,decide_true,Bool.and_self,gb,gc,cond_true,cond_false];rw [zc2 hk];simp [insT,insF]
theorem zbfv (n:Nat) (h:n≤4000000):zd8 (n:Int)=(true,[]):=by
 have hreach:reach=70368744177664:=rfl;unfold zd8 zmU;have e0:IntKind.i64.wrap ((0:Int) - 0)=0:=rfl;have e1:IntKind.i64.wrap ((n:Int) - 0)=(n:Int):=by rw [zjt (by omega) (by omega)]; omega
 have e2:decide ((n:Int)<0)=false:=decide_eq_false (by omega)
 rw [Wy.fin_i,e2,cond_false,e0,e1];by_cases hn:(n:Int)>0
 ·have e3:(true&&(decide ((n:Int)*Int.ofNat (32:Nat)≤Int.ofNat reach)&&(decide ((n:Int)≤Int.ofNat reach)&& !Nat.beq (2:Nat) (0:Nat))))=true:=by
   simp only [qc,qe,Int.ofNat_eq_natCast];exact ⟨trivial,by rw [hreach]; omega,by rw [hreach]; omega,rfl⟩
  rw [Wy.fin_i,decide_eq_true hn,cond_true,Wy.fin_i,e3,cond_true,Wy.fin_k];simp
 ·rw [Wy.fin_i,decide_eq_false hn]; rfl
theorem zbdr (ls:yA) (hn:ls.length≤10) (h:∀ l∈ls,l.length≤300000):zdL ls=(true,ls.flatten):=by
 have hreach:reach=70368744177664:=rfl;unfold zdL zlT;have e:∀ l:yC,l∈ls→l.length≤300000:=h
 have h1:=zc3 (W:=zf8) (z:=default) (l:=ls) (fun i (n:Nat)=>(ls,(n:Int),ls,(ls.length:Int),(i:Int),())) (fun _ _=>()) (fun y n=>.inl (n+y.length)) (fun n=>(ls,(n:Int))) (fun i n=>n≤i*300000)
  (fun i n hi hI=>.inl ⟨_,rfl,by have:=e _ (zt hi); omega,fun H K D=>by
   show (zc8 ls n ls ls.length i).ev H K D=_;unfold zc8;have hle:=e _ (zt hi);have hw:IntKind.i64.wrap ((n:Int)+((ls.getD i default).length:Int))=((n+(ls.getD i default).length:Nat):Int):=zot (by omega)
   simp only [Wy.ev_i,Wy.ev_k,Wy.ev_h,Wy.ev_bn,Wy.ev_d,tT,hi,hw];have h0:decide (((n+(ls.getD i default).length:Nat):Int)<0)=false:=decide_eq_false (by omega)
   rw [h0,zR (by omega)]; rfl⟩)
  (fun n hI H K D=>by
   show (zc8 ls n ls ls.length ls.length).ev H K D=_;unfold zc8;simp only [Wy.ev_i,Wy.ev_k,tT,Nat.lt_irrefl]) (ls.length+Int.toNat (0:Int)+ls.length+(Int.ofNat ls.length).toNat +Int.toNat (0:Int)+(1:Nat)) 0 0 (by omega) (by omega) (by omega)
 rw [List.drop_zero,zc4] at h1;have h1:zk8 (ls.length+Int.toNat (0:Int)+ls.length+(Int.ofNat ls.length).toNat +Int.toNat (0:Int)+(1:Nat)) ls 0 ls (Int.ofNat ls.length) 0=_:=h1
 have hb:∀ (r:yA) (n:Nat),(∀ l∈r,l.length≤300000)→r.foldl (fun n (y:yC)=>n+y.length) n≤n+r.length*300000:=fun r=>by
  induction r with
  | nil=>intro n _; simp
  | cons y r ih=>
   intro n hr;have q1:=ih (n+y.length) fun l hl=>hr l (by simp [hl])
   have q2:=hr y (by simp)
   rw [List.foldl_cons,qf]; omega
 have hsz:=hb ls 0 h
 have h2:=zc3 (W:=zfP) (z:=default) (l:=ls) (fun i (out:yC)=>((),ls,(ls.length:Int),(i:Int),())) (fun _ out=>(out,())) (fun y out=>.inl (out++y)) (fun out=>out) (fun i out=>out.length≤i*300000)
  (fun i out hi hI=>.inl ⟨_,rfl,by have:=e _ (zt hi); simp only [qg]; omega,fun H K D=>by
   show (zcZ ls ls.length i out).ev H K D=_;unfold zcZ;have hle:=e _ (zt hi);have hr:decide ((out.length+(ls.getD i default).length)*32≤reach)=true:=by simp only [qe]; omega
   simp only [Wy.ev_i,Wy.ev_k,Wy.ev_h,Wy.ev_bn,Wy.ev_d,tT,hi,hr];rw [zR (by omega)]⟩)
  (fun out hI H K D=>by
   show (zcZ ls ls.length ls.length out).ev H K D=_;unfold zcZ;simp only [Wy.ev_i,Wy.ev_k,tT,Nat.lt_irrefl]) (ls.length+(Int.ofNat ls.length).toNat +Int.toNat (0:Int)+([]:yC).length+(1:Nat)) 0 [] (by omega) (by omega) (by simp)
 rw [List.drop_zero,zc4] at h2;have h2:zkZ (ls.length+(Int.ofNat ls.length).toNat +Int.toNat (0:Int)+([]:yC).length+(1:Nat)) ls (Int.ofNat ls.length) 0 []=_:=h2
 have hf:∀ (r:yA) (out:yC),r.foldl (fun out y=>out++y) out=out++r.flatten:=fun r=>by
  induction r with
  | nil=>intro out; simp
  | cons y r ih=>intro out; rw [List.foldl_cons,ih,List.flatten_cons,List.append_assoc]
 rw [Wy.fin_bn,h1,cond_true];simp only [Wy.fin_bn,zbfv _ (show ls.foldl (fun n (y:yC)=>n+y.length) 0≤4000000 by have:=Nat.mul_le_mul hn (Nat.le_refl 300000); omega),cond_true,h2,Wy.fin_k]
 rw [hf]; simp
theorem zbf0 (n:Nat) (h:n≤4000000):zei (n:Int)=(true,[]):=by
 have hreach:reach=70368744177664:=rfl;unfold zei zng;have e0:IntKind.i64.wrap ((0:Int) - 0)=0:=rfl;have e1:IntKind.i64.wrap ((n:Int) - 0)=(n:Int):=by rw [zjt (by omega) (by omega)]; omega
 have e2:decide ((n:Int)<0)=false:=decide_eq_false (by omega)
 rw [Wy.fin_i,e2,cond_false,e0,e1];by_cases hn:(n:Int)>0
 ·have e3:(true&&(decide ((n:Int)*Int.ofNat (128:Nat)≤Int.ofNat reach)&&(decide ((n:Int)≤Int.ofNat reach)&& !Nat.beq (11:Nat) (0:Nat))))=true:=by
   simp only [qc,qe,Int.ofNat_eq_natCast];exact ⟨trivial,by rw [hreach]; omega,by rw [hreach]; omega,rfl⟩
  rw [Wy.fin_i,decide_eq_true hn,cond_true,Wy.fin_i,e3,cond_true,Wy.fin_k];simp
 ·rw [Wy.fin_i,decide_eq_false hn]; rfl
theorem zbcs (ls:List (yD)) (hn:ls.length≤10) (h:∀ l∈ls,l.length≤300000):zdY ls=(true,ls.flatten):=by
 have hreach:reach=70368744177664:=rfl;unfold zdY zmE;have e:∀ l:yD,l∈ls→l.length≤300000:=h
 have h1:=zc3 (W:=zgf) (z:=default) (l:=ls) (fun i (n:Nat)=>(ls,(n:Int),ls,(ls.length:Int),(i:Int),())) (fun _ _=>()) (fun y n=>.inl (n+y.length)) (fun n=>(ls,(n:Int))) (fun i n=>n≤i*300000)
  (fun i n hi hI=>.inl ⟨_,rfl,by have:=e _ (zt hi); omega,fun H K D=>by
   show (zdl ls n ls ls.length i).ev H K D=_;unfold zdl;have hle:=e _ (zt hi);have hw:IntKind.i64.wrap ((n:Int)+((ls.getD i default).length:Int))=((n+(ls.getD i default).length:Nat):Int):=zot (by omega)
   simp only [Wy.ev_i,Wy.ev_k,Wy.ev_h,Wy.ev_bn,Wy.ev_d,tT,hi,hw];have h0:decide (((n+(ls.getD i default).length:Nat):Int)<0)=false:=decide_eq_false (by omega)
   rw [h0,zR (by omega)]; rfl⟩)
  (fun n hI H K D=>by
   show (zdl ls n ls ls.length ls.length).ev H K D=_;unfold zdl;simp only [Wy.ev_i,Wy.ev_k,tT,Nat.lt_irrefl]) (ls.length+Int.toNat (0:Int)+ls.length+(Int.ofNat ls.length).toNat +Int.toNat (0:Int)+(1:Nat)) 0 0 (by omega) (by omega) (by omega)
 rw [List.drop_zero,zc4] at h1;have h1:zlS (ls.length+Int.toNat (0:Int)+ls.length+(Int.ofNat ls.length).toNat +Int.toNat (0:Int)+(1:Nat)) ls 0 ls (Int.ofNat ls.length) 0=_:=h1
 have hb:∀ (r:List (yD)) (n:Nat),(∀ l∈r,l.length≤300000)→r.foldl (fun n (y:yD)=>n+y.length) n≤n+r.length*300000:=fun r=>by
  induction r with
  | nil=>intro n _; simp
  | cons y r ih=>
   intro n hr;have q1:=ih (n+y.length) fun l hl=>hr l (by simp [hl])
   have q2:=hr y (by simp)
   rw [List.foldl_cons,qf]; omega
 have hsz:=hb ls 0 h
 have h2:=zc3 (W:=zf7) (z:=default) (l:=ls) (fun i (out:yD)=>((),ls,(ls.length:Int),(i:Int),())) (fun _ out=>(out,())) (fun y out=>.inl (out++y)) (fun out=>out) (fun i out=>out.length≤i*300000)
  (fun i out hi hI=>.inl ⟨_,rfl,by have:=e _ (zt hi); simp only [qg]; omega,fun H K D=>by
   show (zdc ls ls.length i out).ev H K D=_;unfold zdc;have hle:=e _ (zt hi);have hr:decide ((out.length+(ls.getD i default).length)*128≤reach)=true:=by simp only [qe]; omega
   simp only [Wy.ev_i,Wy.ev_k,Wy.ev_h,Wy.ev_bn,Wy.ev_d,tT,hi,hr];rw [zR (by omega)]⟩)
  (fun out hI H K D=>by
   show (zdc ls ls.length ls.length out).ev H K D=_;unfold zdc;simp only [Wy.ev_i,Wy.ev_k,tT,Nat.lt_irrefl]) (ls.length+(Int.ofNat ls.length).toNat +Int.toNat (0:Int)+([]:yD).length+(1:Nat)) 0 [] (by omega) (by omega) (by simp)
 rw [List.drop_zero,zc4] at h2;have h2:zk7 (ls.length+(Int.ofNat ls.length).toNat +Int.toNat (0:Int)+([]:yD).length+(1:Nat)) ls (Int.ofNat ls.length) 0 []=_:=h2
 have hf:∀ (r:List (yD)) (out:yD),r.foldl (fun out y=>out++y) out=out++r.flatten:=fun r=>by
  induction r with
  | nil=>intro out; simp
  | cons y r ih=>intro out; rw [List.foldl_cons,ih,List.flatten_cons,List.append_assoc]
 rw [Wy.fin_bn,h1,cond_true];simp only [Wy.fin_bn,zbf0 _ (show ls.foldl (fun n (y:yD)=>n+y.length) 0≤4000000 by have:=Nat.mul_le_mul hn (Nat.le_refl 300000); omega),cond_true,h2,Wy.fin_k]
 rw [hf]; simp
theorem zHD {d:Nat} (hd:d≤99):∀ (n:Nat) (a b out:yD),a.length+b.length<n→a.length+b.length+out.length≤1000000→(∀ x∈a,zcU (zr d) x.Atom∧0≤x.Exp∧x.Exp≤1000000)→(∀ x∈b,0≤x.Exp∧x.Exp≤1000000)→
  ∃ a' b' out',zzR n a b out=(true,(a',b',out'))∧out'++(a'++b')=out++zbd a b∧a'.length≤a.length∧b'.length≤b.length∧out'.length≤out.length+a.length+b.length
 | 0,a,b,out,h,_,_,_=>by omega
 | n+1,a,b,out,h,hl,ha,hb=>by
  have hreach:reach=70368744177664:=rfl;show ∃ a' b' out',(zAm a b out).ev (fun x y=>zzR n x.1 x.2.1 y.1) (fun r=>(true,r)) (false,default)=_∧_
  unfold zAm
  match a,b,h,hl,ha,hb with
  | [],b,h,hl,ha,hb=>exact ⟨[],b,out,rfl,by rw [zbd]; simp,Nat.le_refl _,Nat.le_refl _,by omega⟩
  | x::a,[],h,hl,ha,hb=>
   have e1:decide (Int.ofNat (x::a).length>0)=true:=by simp
   refine ⟨x::a,[],out, ?_,by rw [zbd]; simp,Nat.le_refl _,Nat.le_refl _,by omega⟩
   rw [Wy.ev_i,e1,cond_true]; rfl
  | x::a,y::b,h,hl,ha,hb=>
   have hx:=ha x (by simp)
   have hy:=hb y (by simp)
   simp only [qf] at h hl;have e1:decide (Int.ofNat (x::a).length>0)=true:=by simp
   have e2:decide (Int.ofNat (y::b).length>0)=true:=by simp
   have e3:(decide ((0:Int)≤0)&&decide ((0:Int)<Int.ofNat (x::a).length))=true:=by simp
   have e4:(decide ((0:Int)≤0)&&decide ((0:Int)<Int.ofNat (y::b).length))=true:=by simp
   have e5:(x::a).getD (Int.toNat 0) default=x:=rfl;have e6:(y::b).getD (Int.toNat 0) default=y:=rfl;have e7:∀ z:Factor,decide ((out.length+[z].length)*128≤reach)=true:=fun z=>by simp only [qe,List.length_singleton]; omega
   have e8:(decide ((0:Int)≤1)&&decide ((1:Int)≤Int.ofNat (x::a).length)&&decide (Int.ofNat (x::a).length≤Int.ofNat (x::a).length))=true:=by simp; omega
   have e9:(decide ((0:Int)≤1)&&decide ((1:Int)≤Int.ofNat (y::b).length)&&decide (Int.ofNat (y::b).length≤Int.ofNat (y::b).length))=true:=by simp; omega
   have e10:List.take ((Int.ofNat (x::a).length).toNat - Int.toNat 1) (List.drop (Int.toNat 1) (x::a))=a:=by rw [show Int.toNat 1=1 from rfl,zCY]; rfl
   have e11:List.take ((Int.ofNat (y::b).length).toNat - Int.toNat 1) (List.drop (Int.toNat 1) (y::b))=b:=by rw [show Int.toNat 1=1 from rfl,zCY]; rfl
   have ea:∀ z∈a,zcU (zr d) z.Atom∧0≤z.Exp∧z.Exp≤1000000:=fun z hz=>ha z (by simp [hz])
   have eb:∀ z∈b,0≤z.Exp∧z.Exp≤1000000:=fun z hz=>hb z (by simp [hz])
   have ex:(FactorOf.mk x.Atom x.Exp:Factor)=x:=rfl;have ey:(FactorOf.mk y.Atom y.Exp:Factor)=y:=rfl;simp only [Wy.ev_i,Wy.ev_k,Wy.ev_h,Wy.ev_bn,Wy.ev_d,e1,e2,e3,e4,e5,e6,e7,e8,e9,e10,e11,cond_true,Atom.eta,zx5 hx.1 hd,z3c,ex,ey];rw [zbd];have hcf:cF x y=cmpT (zdJ x.Atom) (zdJ y.Atom):=rfl;rw [← hcf];by_cases h1:cF x y<0
   ·simp only [h1,decide_true,cond_true,if_true];obtain ⟨a',b',out',r1,r2,r3,r4,r5⟩:=zHD hd n a (y::b) (out++[x]) (by simp only [qf]; omega) (by simp only [qf,qg,List.length_nil]; omega) ea hb
    refine ⟨a',b',out',r1,by rw [r2]; simp,by simp only [qf]; omega,by simpa using r4,by simp only [qf,qg,List.length_nil] at r5 ⊢; omega⟩
   ·by_cases h2:0<cF x y
    ·have h2':cF x y>0:=h2;simp only [h1,h2,h2',decide_true,decide_false,cond_true,cond_false,if_true,if_false];obtain ⟨a',b',out',r1,r2,r3,r4,r5⟩:=zHD hd n (x::a) b (out++[y]) (by simp only [qf]; omega) (by simp only [qf,qg,List.length_nil]; omega) ha eb
     refine ⟨a',b',out',r1,by rw [r2]; simp,by simpa using r3,by simp only [qf]; omega,by simp only [qf,qg,List.length_nil] at r5 ⊢; omega⟩
    ·have h2':¬ cF x y>0:=h2;have hw:IntKind.i64.wrap (x.Exp+y.Exp)=x.Exp+y.Exp:=zjt (by omega) (by omega)
     simp only [h1,h2,h2',decide_false,cond_false,if_false,hw];have hk:(x.Atom.Kind==3||x.Atom.Kind==4)=decide (x.Atom.Kind=3∨x.Atom.Kind=4):=by rw [beqd,beqd, ← Bool.decide_or]
     rw [hk];by_cases h3:x.Atom.Kind=3∨x.Atom.Kind=4
     ·simp only [h3,decide_true,Bool.not_true,cond_false,if_true];obtain ⟨a',b',out',r1,r2,r3,r4,r5⟩:=zHD hd n a b (out++[x]) (by omega) (by simp only [qg,qf,List.length_nil]; omega) ea eb
      refine ⟨a',b',out',r1,by rw [r2]; simp,by simp only [qf]; omega,by simp only [qf]; omega,by simp only [qf,qg,List.length_nil] at r5 ⊢; omega⟩
     ·simp only [h3,decide_false,Bool.not_false,cond_true,if_false];obtain ⟨a',b',out',r1,r2,r3,r4,r5⟩:=zHD hd n a b (out++[⟨x.Atom,x.Exp+y.Exp⟩]) (by omega) (by simp only [qg,qf,List.length_nil]; omega) ea eb
      refine ⟨a',b',out',r1,by rw [r2]; simp,by simp only [qf]; omega,by simp only [qf]; omega,by simp only [qf,qg,List.length_nil] at r5 ⊢; omega⟩
theorem zbeF {d:Nat} (hd:d≤99) (a b:yD) (hl:a.length+b.length≤100000) (ha:∀ x∈a,zcU (zr d) x.Atom∧0≤x.Exp∧x.Exp≤1000000) (hb:∀ x∈b,0≤x.Exp∧x.Exp≤1000000):zn2 a b=(true,zbd a b):=by
 unfold zn2 zI2;obtain ⟨a',b',out',r1,r2,r3,r4,r5⟩:=zHD hd (a.length+b.length+(0:Nat)+(1:Nat)) a b [] (by omega) (by simp; omega) ha hb
 rw [Wy.fin_bn,r1,cond_true]
 have hc:=zbcs [out',a',b'] (by simp) (fun l hl'=>by
  simp only [qd,List.not_mem_nil,or_false] at hl';simp only [List.length_nil] at r5;rcases hl' with rfl | rfl | rfl <;>omega)
 simp only [Wy.fin_bn,hc,cond_true,Wy.fin_k];congr 1
 simpa using r2
theorem z8m {a b:Int} (ha:1≤a∧a≤1152921504606846976) (hb:1≤b∧b≤1152921504606846976):zrr a b=(true,zvu a b)∧zBZ a b=(true,zvu a b):=by
 obtain ⟨h1,h2⟩:=zJo ha hb;have h0:(!decide (b=(0:Int)))=true:=by rw [decide_eq_false (by omega)]; rfl
 have hq:0≤Int.tdiv 1152921504606846976 b∧Int.tdiv 1152921504606846976 b≤1152921504606846976:=by
  rw [Int.tdiv_eq_ediv_of_nonneg (by omega)]
  exact ⟨Int.ediv_nonneg (by omega) (by omega),Int.ediv_le_self _ (by omega)⟩
 have hw:IntKind.i64.wrap (Int.tdiv 1152921504606846976 b)=Int.tdiv 1152921504606846976 b:=zjt (by omega) (by omega)
 have key:∀ w:Int,(w=if Int.tdiv 1152921504606846976 b<a then 1152921504606846976 else IntKind.i64.wrap (a*b))→w=zvu a b:=fun w e=>by
  rw [e]; unfold zvu;split
  ·rfl
  ·rename_i hn;have h3:=h2 hn;have h4:=Int.mul_nonneg (show 0≤a by omega) (show 0≤b by omega)
   exact zjt (by omega) (by omega)
 constructor
 ·unfold zrr zGD;rw [Wy.fin_i,h0,cond_true,Wy.fin_i,hw,Wy.fin_k,Wy.fin_k];by_cases hc:Int.tdiv 1152921504606846976 b<a
  ·rw [decide_eq_true hc,cond_true]; exact congrArg (Prod.mk true) (key _ (by rw [if_pos hc]))
  ·rw [decide_eq_false hc,cond_false]; exact congrArg (Prod.mk true) (key _ (by rw [if_neg hc]))
 ·unfold zBZ zTe;rw [Wy.fin_i,h0,cond_true,Wy.fin_i,hw,Wy.fin_k,Wy.fin_k];by_cases hc:Int.tdiv 1152921504606846976 b<a
  ·rw [decide_eq_true hc,cond_true]; exact congrArg (Prod.mk true) (key _ (by rw [if_pos hc]))
  ·rw [decide_eq_false hc,cond_false]; exact congrArg (Prod.mk true) (key _ (by rw [if_neg hc]))
theorem zvl {τ:Type} [Inhabited τ] {R:τ→τ→Prop} (ht:∀ x y z,R x y→R y z→R x z):∀ l:List τ,(∀ k,0<k→k<l.length→R (l.getD (k - 1) default) (l.getD k default))→l.Pairwise R
 | [],_=>.nil
 | [x],_=>by simp
 | x::y::r,h=>by
  have h1:R x y:=h 1 (by omega) (by simp)
  have h2:=zvl ht (y::r) fun k hk hl=>by
   have:=h (k+1) (by omega) (by simpa using hl)
   obtain ⟨j,rfl⟩:∃ j,k=j+1:=⟨k - 1,by omega⟩
   exact this
  refine qi.2 ⟨fun z hz=> ?_,h2⟩
  rcases qd.1 hz with rfl | hz
  ·exact h1
  ·exact ht x y z h1 ((qi.1 h2).1 z hz)
def GF (f:Factor):Prop:=(zdt (zbj 9) f.Atom=true∧zgg f.Atom∧f.Atom.Items.length≤1024)∧1≤f.Exp∧f.Exp≤1000000
def GT (t:Term):Prop:=cOK t∧t.Factors.length≤1000∧∀ f∈t.Factors,GF f
def VT (t:Term):Prop:=GT t∧Srf t.Factors∧t.Factors.length≤64∧∀ f∈t.Factors,eOK f∧f.Exp≤64
theorem zw2 {a:yC} (h:zG a=true) (hw:zgr a):Srs a∧a.length≤512∧∀ t∈a,VT t:=by
 have h9:=zKX h (Nat.le_refl 9);rw [z19] at h;obtain ⟨w1,w2,w3,w4⟩:=zwN (zGU h);have hall:=h;simp only [vAnn,qc] at hall;refine ⟨zvl (R:=fun x y=>cT x y<0) (fun x y z h1 h2=>zFZ h1 h2) a fun k hk hl=> ?_,w1,fun t ht=> ?_⟩
 ·have:=zen.1 hall.2 k (by omega) (by omega)
  simp only [chkT,qc,Bool.or_eq_true,qe] at this;rcases this.1.2 with e | e
  ·omega
  ·exact e
 ·obtain ⟨hc,hok⟩:=zwv h ht;obtain ⟨l1,l2⟩:=w4 t ht;have hwt:=zol (zwY (ztF hw t ht)).2.1;refine ⟨⟨hc,by omega,fun f hf=> ?_⟩,zvl (R:=fun x y=>cF x y<0) (fun x y z h1 h2=>zAo h1 h2) _ fun k hk hl=> ?_,l1,fun f hf=> ?_⟩
  ·obtain ⟨⟨e1,_⟩,hv⟩:=zpe hok hf;exact ⟨⟨by rw [zbce (Nat.le_refl 9)]; exact hv,(zqH (hwt f hf)).1,(l2 f hf).2⟩,e1,by have:=(l2 f hf).1; omega⟩
  ·have:=zen.1 hok k (by omega) (by omega)
   simp only [chkF,qc,Bool.or_eq_true,qe] at this;rcases this.1.2 with e | e
   ·omega
   ·exact e
  ·obtain ⟨⟨_,e2⟩,hv⟩:=zpe hok hf;exact ⟨⟨zAH hv,e2⟩,(l2 f hf).1⟩
theorem zw7 {m:Nat} {x:Atom} (h:zdt (zbj m) x=true) (hi:x.Items.length≤1024):zcU (zr 9) x:=by
 cases zcL.1 h with
 | var r h=>exact ⟨⟨by simp,by simp,by show (ByteArray.mk #[]).size≤_; decide⟩,fun a ha=>(by cases ha),fun w hw=>(by cases hw)⟩
 | mon b c hb hc _ _ _=>
  refine ⟨⟨by simp,by simp,by show (ByteArray.mk #[]).size≤_; decide⟩,fun y hy=> ?_,fun w hw=>(by cases hw)⟩
  simp only [qd,List.not_mem_nil,or_false] at hy;rcases hy with rfl | rfl
  ·exact (ze1 hb).1
  ·exact (ze1 hc).1
 | del b hb _ _ _=>
  refine ⟨⟨by simp,by simp,by show (ByteArray.mk #[]).size≤_; decide⟩,fun y hy=> ?_,fun w hw=>(by cases hw)⟩
  rw [qh] at hy; subst hy; exact (ze1 hb).1
 | abs b hb _ _=>
  refine ⟨⟨by simp,by simp,by show (ByteArray.mk #[]).size≤_; decide⟩,fun y hy=> ?_,fun w hw=>(by cases hw)⟩
  rw [qh] at hy; subst hy; exact (ze1 hb).1
 | tst f l o b hl hv hs hf=>
  obtain ⟨_,hb,hit⟩:=ztN hf;simp only at hi;exact ⟨⟨by simp,by simp only; omega,by have:=zwt hb; simp only; omega⟩,fun a ha=>(by cases ha),fun w hw=>⟨by have:=zwt (hit w hw).1; omega,(ze1 (hv w hw).1).1⟩⟩
theorem GT.fine {t:Term} (h:GT t):zdQ (zr 9) t.Factors:=⟨by have:=h.2.1; omega,fun f hf=>zw7 (h.2.2 f hf).1.1 (h.2.2 f hf).1.2.2⟩
theorem GF.gF {f:Factor} (h:GF f):gF (zbj 9) f:=⟨h.1.1,h.1.2.1,by constructor <;>(have:=h.2; omega)⟩
theorem GT.text {t:Term} (h:GT t):zrq t.Factors=(true,bs (txL t.Factors)):=
 (z8j 1000).2.2 9 t.Factors h.2.1 (fun f hf=>⟨(h.2.2 f hf).1.1,(h.2.2 f hf).1.2.1,(h.2.2 f hf).1.2.2,(h.2.2 f hf).gF.2.2⟩) (by omega)
theorem GT.inj {s t:Term} (hs:GT s) (ht:GT t) (h:bs (txL s.Factors)=bs (txL t.Factors)):s.Factors=t.Factors:=
 zbeu (fun f hf=>(hs.2.2 f hf).gF) (fun f hf=>(ht.2.2 f hf).gF) (zbfN h)
def zpG:Int→yC→List (Go.Value×Int)
 | _,[]=>[]
 | i,t::r=>(.string (bs (txL t.Factors)),i)::zpG (i+1) r
def posA (k:ByteArray):yC→Option Nat
 | []=>none
 | t::r=>if k=bs (txL t.Factors) then some 0 else (posA k r).map (· +1)
theorem zND (k:ByteArray) (t:Term) (r:yC):posA k (t::r)=if k=bs (txL t.Factors) then some 0 else (posA k r).map (· +1):=rfl
theorem keyS (a b:ByteArray):zmg (.string a) (.string b)=decide (a=b):=by
 cases a with | mk x=>cases b with | mk y=>
 show (x==y)=_;by_cases h:x=y
 ·subst h; simp
 ·have:(x==y)=false:=by rw [beq_eq_false_iff_ne]; exact h
  rw [this]; simp [h]
theorem z8e (k:ByteArray):∀ (o:yC) (i:Int),zbaJ (.string k) (zpG i o)=(posA k o).isSome
 | [],i=>rfl
 | t::r,i=>by
  show (bif zmg (.string k) (.string (bs (txL t.Factors))) then true else zbaJ (.string k) (zpG (i+1) r))=_
  rw [keyS,z8e k r,zND];by_cases h:k=bs (txL t.Factors)
  ·rw [decide_eq_true h,if_pos h]; rfl
  ·rw [decide_eq_false h,if_neg h]; cases posA k r <;>rfl
theorem z7s (k:ByteArray):∀ (o:yC) (i:Int),zEn (.string k) (zpG i o)=(posA k o).map fun j:Nat=>i+(j:Int)
 | [],i=>rfl
 | t::r,i=>by
  show (bif zmg (.string k) (.string (bs (txL t.Factors))) then some i else zEn (.string k) (zpG (i+1) r))=_
  rw [keyS,z7s k r,zND];by_cases h:k=bs (txL t.Factors)
  ·rw [decide_eq_true h,if_pos h]; simp
  ·rw [decide_eq_false h,if_neg h];cases posA k r with
   | none=>rfl
   | some j=>
    have e:i+1+(j:Int)=i+((j+1:Nat):Int):=by omega
    simp only [cond_false,Option.map_some,e]
theorem z7R (k:ByteArray) (x:Int):∀ (o:yC) (i:Int),posA k o=none→zbaK (.string k) x (zpG i o)=zpG i o++[(.string k,x)]
 | [],i,_=>rfl
 | t::r,i,h=>by
  rw [zND] at h;by_cases hk:k=bs (txL t.Factors)
  ·rw [if_pos hk] at h; cases h
  ·rw [if_neg hk] at h;show (bif zmg (.string k) (.string (bs (txL t.Factors))) then _ else (.string (bs (txL t.Factors)),i)::zbaK (.string k) x (zpG (i+1) r))=_
   rw [keyS,decide_eq_false hk,z7R k x r (i+1) (by cases hp:posA k r with | none=>rfl | some j=>rw [hp] at h; cases h)]
   rfl
theorem z5b (t:Term):∀ (o:yC) (i:Int),zpG i (o++[t])=zpG i o++[(.string (bs (txL t.Factors)),i+(o.length:Int))]
 | [],i=>by simp [zpG]
 | x::r,i=>by
  have e:i+1+(r.length:Int)=i+((r.length+1:Nat):Int):=by omega
  simp only [List.cons_append,zpG,qf,z5b t r,e]
theorem z41 (y:Term):∀ (o:yC) (j:Nat) (i:Int),(o.getD j default).Factors=y.Factors→zpG i (o.set j y)=zpG i o
 | [],j,i,_=>rfl
 | x::r,0,i,h=>by simp only [List.set_cons_zero,zpG]; rw [show x.Factors=y.Factors from h]
 | x::r,j+1,i,h=>by simp only [List.set_cons_succ,zpG]; rw [z41 y r j (i+1) h]
theorem z9U {t:Term} (ht:GT t):∀ {o:yC},(∀ x∈o,GT x)→(match posA (bs (txL t.Factors)) o with
  | some j=>j<o.length∧(o.getD j default).Factors=t.Factors∧updA t o=o.set j ⟨zts (o.getD j default).Coeff t.Coeff,(o.getD j default).Factors⟩
  | none=>updA t o=o++[t])
 | [],_=>rfl
 | x::r,h=>by
  have ih:=z9U ht (o:=r) fun y hy=>h y (by simp [hy])
  rw [zND];unfold updA;by_cases hk:bs (txL t.Factors)=bs (txL x.Factors)
  ·have e:=GT.inj ht (h x (by simp)) hk
   rw [if_pos hk,if_pos e.symm];exact ⟨by simp,e.symm,rfl⟩
  ·have e:¬ x.Factors=t.Factors:=fun e=>hk (by rw [e])
   rw [if_neg hk,if_neg e];cases hp:posA (bs (txL t.Factors)) r with
   | none=>rw [hp] at ih; simp only [Option.map_none]; rw [ih]; rfl
   | some j=>
    rw [hp] at ih;obtain ⟨i1,i2,i3⟩:=ih;simp only [Option.map_some];exact ⟨by simp; exact i1,i2,by rw [i3]; rfl⟩
theorem zbb2 {t:Term} (ht:GT t) {o:yC} (ho:∀ x∈o,GT x):∀ x∈updA t o,GT x:=by
 induction o with
 | nil=>intro x hx; simp only [updA,qh] at hx; subst hx; exact ht
 | cons y r ih=>
  intro x hx;unfold updA at hx;split at hx
  ·rcases qd.1 hx with rfl | hx
   ·have:=ho y (by simp)
    exact ⟨z5a this.1.1 ht.1.1,this.2⟩
   ·exact ho x (by simp [hx])
  ·rcases qd.1 hx with rfl | hx
   ·exact ho x (by simp)
   ·exact ih (fun z hz=>ho z (by simp [hz])) x hx
theorem z4f (t:Term):∀ o:yC,(updA t o).length≤o.length+1
 | []=>by simp [updA]
 | y::r=>by
  have:=z4f t r;unfold updA;split
  ·simp
  ·simp only [qf]; omega
theorem zbcc (ts:yC) (hl:ts.length≤1000000) (h:∀ t∈ts,GT t) (n:Nat) (hn:ts.length<n):zvF n ts ts.length 0 [] []=(true,zNe ts):=by
 have hreach:reach=70368744177664:=rfl
 have h2:=zc3 (W:=zvr) (z:=default) (l:=ts) (fun i (out:yC)=>((),(),ts,(ts.length:Int),(i:Int),())) (fun _ out=>(zpG 0 out,out,())) (fun t out=>.inl (updA t out)) (fun out=>out) (fun i out=>out.length≤i∧∀ t∈out,GT t)
  (fun i out hi hI=>.inl ⟨_,rfl,⟨by have:=z4f (ts.getD i default) out; omega,zbb2 (h _ (zt hi)) hI.2⟩,fun H K D=>by
   show (zke ts ts.length i (zpG 0 out) out).ev H K D=_;unfold zke;have ht:=h _ (zt hi);have hp:=z9U ht hI.2;have hhas:=z8e (bs (txL (ts.getD i default).Factors)) out 0;have hget:=z7s (bs (txL (ts.getD i default).Factors)) out 0;simp only [Wy.ev_i,Wy.ev_k,Wy.ev_h,Wy.ev_bn,Wy.ev_d,tT,hi,ht.text];rw [hhas,hget,zR (by omega)]
   cases hpos:posA (bs (txL (ts.getD i default).Factors)) out with
   | none=>
    rw [hpos] at hp;have hb:decide ((out.length+[ts.getD i default].length)*32≤reach)=true:=by simp only [qe,List.length_singleton]; omega
    simp only [Option.isSome_none,cond_false,hb,cond_true];rw [z7R _ _ _ _ hpos,hp,z5b];simp
   | some j=>
    rw [hpos] at hp;obtain ⟨p1,p2,p3⟩:=hp;have hj:=hI.2 _ (zt p1);have hw:IntKind.i64.wrap ((out.getD j default).Coeff+(ts.getD i default).Coeff)=(out.getD j default).Coeff+(ts.getD i default).Coeff:=z80 ⟨by have:=hj.1.1; omega,hj.1.2⟩ ⟨by have:=ht.1.1; omega,ht.1.2⟩
    have e1:(0:Int)+(j:Int)=(j:Int):=by omega
    have e2:decide (j<out.length)=true:=decide_eq_true p1;simp only [Option.isSome_some,Option.map_some,Option.getD_some,e1,cond_true,tT,e2,hw];rw [p3,z41 ⟨zts (out.getD j default).Coeff (ts.getD i default).Coeff,(out.getD j default).Factors⟩ out j 0 rfl];rfl⟩)
  (fun out hI H K D=>by
   show (zke ts ts.length ts.length (zpG 0 out) out).ev H K D=_;unfold zke;simp only [Wy.ev_i,Wy.ev_k,tT,Nat.lt_irrefl]) n 0 [] (by omega) (by omega) ⟨by simp,fun t ht=>by cases ht⟩
 rw [List.drop_zero,zc4] at h2;exact h2
theorem z81:∀ (ts o:yC),(∀ t∈ts,GT t)→(∀ t∈o,GT t)→∀ x∈ts.foldl (fun a t=>updA t a) o,GT x
 | [],o,_,ho=>ho
 | t::r,o,h,ho=>z81 r (updA t o) (fun x hx=>h x (by simp [hx])) (zbb2 (h t (by simp)) ho)
theorem z4F:∀ (ts o:yC),(ts.foldl (fun a t=>updA t a) o).length≤o.length+ts.length
 | [],o=>by simp
 | t::r,o=>by
  have h1:=z4F r (updA t o);have h2:=z4f t o;rw [List.foldl_cons,qf]; omega
theorem z1h (ts:yC) (hl:ts.length≤1000000) (h:∀ t∈ts,GT t):zhX ts=(true,sumA [] ts):=by
 unfold zhX zDO;have hL:=zbcc ts hl h (ts.length+(Int.ofNat ts.length).toNat +Int.toNat (0:Int)+(0:Nat)+(0:Nat)+(1:Nat)) (by omega)
 have hL:zvF (ts.length+(Int.ofNat ts.length).toNat +Int.toNat (0:Int)+(0:Nat)+(0:Nat)+(1:Nat)) ts (Int.ofNat ts.length) 0 [] []=_:=hL;rw [Wy.fin_bn,hL,cond_true];obtain ⟨hp,hd⟩:=z44 ts [] [] .nil .nil .nil;have hs:=zKi ts [] .nil;have hg:∀ x∈zNe ts,GT x:=z81 ts [] h fun x hx=>by cases hx
 have hlen:(zNe ts).length≤1000000:=by have:=z4F ts []; simp at this; exact Nat.le_trans this hl
 have e:∀ x∈zNe ts,∀ y,zb1 x y=(true,cT x y):=fun x hx y=>zxX (hg x hx).fine (by omega) y
 have ok:SortOK zb1 (zNe ts):=by
  refine ⟨by omega,fun x hx y _=>by rw [e x hx],fun x hx=> ?_,fun x hx y hy z hz h1 h2=> ?_,fun x hx y hy z hz h1 h2=> ?_,fun x hx y hy h1 h2=> ?_⟩
  ·rw [e x hx]; have:=zvG (x:=x) (y:=x) rfl; simp only; omega
  ·rw [e x hx] at h1 ⊢; rw [e y hy] at h2;exact zFZ h1 h2
  ·rw [e x hx] at h1 ⊢; rw [e y hy] at h2;simp only at h1 h2 ⊢;have a1:=zC7 x y;have a2:=zC7 y z;have a3:=zC7 x z;have:=zJL (zbA z.Factors) (zbA y.Factors) (zbA x.Factors) (show cT z y≤0 by omega) (show cT y x≤0 by omega)
   have:cT z x≤0:=this;omega
  ·rw [e x hx] at h1; rw [e y hy] at h2;simp only at h1 h2;have a1:=zC7 x y;have hz:x.Factors=y.Factors:=zQm (by omega)
   by_cases hxy:x=y
   ·exact hxy
   ·exfalso
    -- two terms with the same factors are one
    have hdd:Dst (zNe ts):=hd;have:=List.pairwise_iff_getElem.1 hdd;obtain ⟨i,hi,ei⟩:=List.mem_iff_getElem.1 hx;obtain ⟨j,hj,ej⟩:=List.mem_iff_getElem.1 hy;rcases Nat.lt_trichotomy i j with hij | hij | hij
    ·exact this i j hi hj hij (by rw [ei,ej]; exact hz)
    ·subst hij; exact hxy (ei.symm.trans ej)
    ·exact this j i hj hi hij (by rw [ei,ej]; exact hz.symm)
 unfold zbP zz7;simp only [Wy.fin_bn,Wy.fin_k,decide_eq_true ok,cond_true];congr 1;refine (ok.unique (hp:(sumA [] ts).Perm (zNe ts)) ?_).symm;refine hs.imp_of_mem fun {x y} hx hy hxy=> ?_
 rw [e y ((hp:(sumA [] ts).Perm (zNe ts)).mem_iff.1 hy)];have:=zC7 x y;simp only; omega
mutual
theorem z8t:∀ x:Atom,ze4 x≤zF4 x
 | ⟨_,_,a,_,i,_,_⟩=>by
  rw [ze4,zF4];have h1:=zZq a;have h2:=zVA i;omega
theorem zO9:∀ l:yD,zbI l≤zg9 l
 | []=>by rw [zbI,zg9]; exact Nat.le_refl _
 | ⟨x,_⟩::r=>by
  rw [zbI,zg9];have h1:=z8t x;have h2:=zO9 r;omega
theorem zJE:∀ l:yC,zN l≤zek l
 | []=>by rw [zN,zek]; exact Nat.le_refl _
 | ⟨_,fs⟩::r=>by
  rw [zN,zek];have h1:=zO9 fs;have h2:=zJE r;omega
theorem zZq:∀ l:yA,zfb l≤zqe l
 | []=>by rw [zfb,zqe]; exact Nat.le_refl _
 | a::r=>by
  rw [zfb,zqe];have h1:=zJE a;have h2:=zZq r;omega
theorem zVA:∀ l:yE,zdm l≤l.length+zlm l
 | []=>by rw [zdm,zlm]; exact Nat.zero_le _
 | ⟨_,a⟩::r=>by
  rw [zdm,zlm];have h1:=zJE a;have h2:=zVA r;simp only [qf];omega
end
theorem zbdh (d:Nat):zr (d+1) []:=⟨by simp,fun t ht=>by cases ht⟩
def zS9 (a:yC) (b:yC):Wy0 (yC×Int):=.bn (zfM a) fun r3=>.i (!r3) (.k ([],1)) (.bn (zfM b) fun r2=>.i (!r2) (.k ([],1)) (.i (Int.ofNat b.length==0) (.k (a,0)) (.i (Int.ofNat a.length==0) (.k ([],0)) (.bn (ztx a b) fun r1=>.i (r1) (.k ([],0)) (.bn (znJ (zm1 (Atom.mk 1 (RowID.mk 0 0) [a,b] 0 [] 0 (Value.mk 0 0 (ByteArray.mk #[])))).2) fun r0=>.k (r0.1,r0.2))))))
def zOL (a:yC) (b:yC):Bool×(yC×Int):=(zS9 a b).fin default
def zPT (a:yC):Wy0 (yC×Int):=.bn (zfM a) fun r2=>.i (!r2) (.k ([],1)) (.i (Int.ofNat a.length==0) (.k (zGB.2,0)) (.bn (zir a) fun r1=>.i (r1) (.k ([],0)) (.bn (znJ (zm1 (Atom.mk 3 (RowID.mk 0 0) [a] 0 [] 0 (Value.mk 0 0 (ByteArray.mk #[])))).2) fun r0=>.k (r0.1,r0.2))))
def zKS (a:yC):Bool×(yC×Int):=(zPT a).fin default
theorem zQs {B:Nat}:∀ l:yD,(∀ f∈l,ze4 f.Atom≤B)→zbI l≤l.length*B
 | [],_=>by rw [ziv]; simp
 | f::r,h=>by
  have h1:=h f (by simp)
  have h2:=zQs r fun g hg=>h g (by simp [hg])
  rw [zdb,qf,Nat.add_mul]; omega
theorem z1b {B:Nat}:∀ l:yC,(∀ t∈l,1+t.Factors.length+zbI t.Factors≤B)→zN l≤l.length*B
 | [],_=>by rw [ztB]; simp
 | f::r,h=>by
  have h1:=h f (by simp)
  have h2:=z1b r fun g hg=>h g (by simp [hg])
  rw [zet,qf,Nat.add_mul]; omega
theorem z7W {l:yC} (hl:l.length≤1000000) (h:∀ t∈l,GT t):zr 10 l∧zN l≤4611686018427387904:=by
 refine ⟨⟨hl,fun t ht=>(h t ht).fine⟩, ?_⟩
 refine Nat.le_trans (z1b (B:=4195330000) l fun t ht=> ?_) (by have:=Nat.mul_le_mul hl (Nat.le_refl 4195330000); omega)
 have hg:=h t ht;have h1:=zQs (B:=4195328) t.Factors fun f hf=>zZi (hg.2.2 f hf).1.1 (hg.2.2 f hf).1.2.2
 have:=Nat.mul_le_mul hg.2.1 (Nat.le_refl 4195328);have:=hg.2.1;omega
theorem z6T {t:Term} (ht:GT t) {l:yC} (hs:Srs l) (h:∀ x∈l,GT x):∀ x∈putA t l,GT x:=fun x hx=>by
 have hc:=z6d ht.1 (fun y hy=>(h y hy).1) x hx
 rcases (zAQ hs).1 hx with ⟨h1,_⟩ | ⟨h1,_⟩
 ·exact h x h1
 ·exact ⟨hc,by rw [h1]; exact ht.2⟩
theorem zPF:∀ (b a:yC),Srs a→(∀ x∈a,GT x)→(∀ x∈b,GT x)→∀ x∈sumA a b,GT x
 | [],_,_,ha,_=>ha
 | t::r,a,hs,ha,hb=>zPF r (putA t a) (zAE hs) (z6T (hb t (by simp)) hs ha) fun x hx=>hb x (by simp [hx])
theorem zSh {x y:Term} (hx:VT x) (hy:VT y):GT (zjg x y):=by
 obtain ⟨gx,sx,lx,ex⟩:=hx;obtain ⟨gy,sy,ly,ey⟩:=hy;refine ⟨(zJo gx.1 gy.1).1,by have:=zKw x.Factors y.Factors; show (zbd x.Factors y.Factors).length≤1000; omega,fun f hf=> ?_⟩
 obtain ⟨g,hg,e⟩:=zuH hf;have hb:=zKR (B:=64) (fun z hz=>⟨(gx.2.2 z hz).2.1,(ex z hz).2⟩) (fun z hz=>⟨(gy.2.2 z hz).2.1,(ey z hz).2⟩) hf
 have hv:(zdt (zbj 9) g.Atom=true∧zgg g.Atom∧g.Atom.Items.length≤1024):=by
  rcases hg with hg | hg
  ·exact (gx.2.2 g hg).1
  ·exact (gy.2.2 g hg).1
 exact ⟨by rw [e]; exact hv,hb.1,by omega⟩
theorem zZy {a b:yC} (ha:∀ t∈a,VT t) (hb:∀ t∈b,VT t):∀ t∈zd5 a b,GT t:=fun t ht=>by
 obtain ⟨x,hx,y,hy,rfl⟩:=zCT ht;exact zSh (ha x hx) (hb y hy)
theorem zbe5 {x y:Term} (hx:VT x) (hy:VT y):zn2 x.Factors y.Factors=(true,zbd x.Factors y.Factors):=by
 obtain ⟨gx,sx,lx,ex⟩:=hx;obtain ⟨gy,sy,ly,ey⟩:=hy;exact zbeF (d:=9) (by omega) _ _ (by omega) (fun f hf=>⟨zw7 (gx.2.2 f hf).1.1 (gx.2.2 f hf).1.2.2,by have:=(gx.2.2 f hf).2; omega⟩) fun f hf=>by have:=(gy.2.2 f hf).2; omega
theorem zbgu (a b:yC) (i:Int) (x:Term) (hx:VT x) (hb:∀ t∈b,VT t) (hbl:b.length≤512) (terms:yC) (hl:terms.length≤1000000) (n:Nat) (hn:b.length<n):
  zI9 n b a a.length i b b.length 0 terms x=(true,(b,a,(a.length:Int),i,terms++b.map (zjg x))):=by
 have hreach:reach=70368744177664:=rfl
 have:=zef (W:=zBf) (z:=default) b.length (fun j=>(b,(),(),a,(a.length:Int),i,b,(b.length:Int),(j:Int),())) (fun j=>(terms++(b.take j).map (zjg x),x,())) (fun _=>true) default (b,a,(a.length:Int),i,terms++b.map (zjg x))
  (fun j hj H K D=>by
   show (zpc b a a.length i b b.length j (terms++(b.take j).map (zjg x)) x).ev H K D=_;unfold zpc;have hy:=hb _ (zt hj);have hr:decide (((terms++(b.take j).map (zjg x)).length+1)*32≤reach)=true:=by simp only [qe,qg,List.length_map,List.length_take]; omega
   simp only [Wy.ev_i,Wy.ev_k,Wy.ev_h,Wy.ev_bn,Wy.ev_d,tT,hj,(z8m hx.1.1 hy.1.1).1,zbe5 hx hy,List.length_singleton,hr];rw [zR (by omega),zkA hj,List.map_append, ← List.append_assoc]
   rfl)
  (fun H K D=>by
   show (zpc b a a.length i b b.length b.length (terms++(b.take b.length).map (zjg x)) x).ev H K D=_;unfold zpc;simp only [Wy.ev_i,Wy.ev_k,tT,Nat.lt_irrefl,List.take_length]) n hn
 rw [show allN (fun _=>true) b.length 0=true from zen.2 fun _ _ _=>rfl] at this
 simp only [List.take_zero,List.map_nil,List.append_nil] at this;exact this
theorem zbgB (a b:yC) (ha:∀ t∈a,VT t) (hb:∀ t∈b,VT t) (hal:a.length≤512) (hbl:b.length≤512) (n:Nat) (hn:a.length<n):
  zBb n b a a.length 0 []=(true,zd5 a b):=by
 have:=zef (W:=zBo) (z:=default) a.length (fun i=>(b,(),a,(a.length:Int),(i:Int),())) (fun i=>(zd5 (a.take i) b,())) (fun _=>true) default (zd5 a b)
  (fun i hi H K D=>by
   show (zoY b a a.length i (zd5 (a.take i) b)).ev H K D=_;unfold zoY;have hx:=ha _ (zt hi)
   have hlen:(zd5 (a.take i) b).length≤1000000:=by
    rw [zV2,List.length_take];have:=Nat.mul_le_mul (show min i a.length≤512 by omega) hbl
    omega
   simp only [Wy.ev_i,Wy.ev_k,Wy.ev_h,Wy.ev_bn,Wy.ev_d,tT,hi];rw [zbgu a b i _ hx hb hbl _ hlen _ (by omega)]
   simp only [cond_true];rw [zR (by omega),zkA hi]
   have e:zd5 (a.take i++[a.getD i default]) b=zd5 (a.take i) b++b.map (zjg (a.getD i default)):=by
    unfold zd5; rw [List.flatMap_append]; simp
   rw [e])
  (fun H K D=>by
   show (zoY b a a.length a.length (zd5 (a.take a.length) b)).ev H K D=_;unfold zoY;simp only [Wy.ev_i,Wy.ev_k,tT,Nat.lt_irrefl,List.take_length]) n hn
 rw [show allN (fun _=>true) a.length 0=true from zen.2 fun _ _ _=>rfl] at this
 exact this
theorem szTs_get' (a:yC) (i:Nat) (h:i<a.length):(a.getD i default).Factors.length≤szTs a:=zLO a i h
theorem zbcL (a b:yC) (i:Int) (k:Nat) (hk:k<b.length) (out:yC) (c:Int) (x:Term) (hx:VT x) (hy:VT (b.getD k default)) (n:Nat) (hn:(b.getD k default).Factors.length<n):
  zJc n a b i k 0 out c x.Factors=(true,(a,b,i,(k:Int),out,c,zbd x.Factors (b.getD k default).Factors)):=by
 obtain ⟨gx,sx,lx,ex⟩:=hx;obtain ⟨gy0,sy,ly,ey⟩:=hy;have gy:∀ f∈(b.getD k default).Factors,GF f:=gy0.2.2;have sy:Srf (b.getD k default).Factors:=sy;clear gy0;generalize hF:(b.getD k default).Factors=F at *
 have key:∀ j,j<F.length→facA (F.getD j default) (zbd x.Factors (F.take j))=zbd x.Factors (F.take (j+1)):=fun j hj=>by
  have e1:=zRV (F.take j) x.Factors (sy.sublist (List.take_sublist _ _)) (fun z hz=>(ex z hz).1) fun z hz=>(ey z (List.mem_of_mem_take hz)).1
  have e2:=zRV (F.take (j+1)) x.Factors (sy.sublist (List.take_sublist _ _)) (fun z hz=>(ex z hz).1) fun z hz=>(ey z (List.mem_of_mem_take hz)).1
  rw [← e1, ← e2,zkA hj,List.foldl_append]; rfl
 have:=zef (W:=zBr) (z:=default) F.length (fun j=>(a,b,(),i,(k:Int),(),(j:Int),())) (fun j=>(out,(c,zbd x.Factors (F.take j),()),())) (fun _=>true) default (a,b,i,(k:Int),out,c,zbd x.Factors F)
  (fun j hj H K D=>by
   show (zoR a b i k j out c (zbd x.Factors (F.take j))).ev H K D=_;unfold zoR;have hlen:=zKw x.Factors (F.take j);rw [List.length_take] at hlen;have hex:=fun z (hz:z∈zbd x.Factors (F.take j))=>zKR (B:=64) (fun z hz=>⟨(gx.2.2 z hz).2.1,(ex z hz).2⟩) (fun z hz=>⟨(gy z (List.mem_of_mem_take hz)).2.1,(ey z (List.mem_of_mem_take hz)).2⟩) hz
   have hfine:∀ z∈zbd x.Factors (F.take j),zcU (zr 9) z.Atom:=fun z hz=>by
    obtain ⟨w,hw,e⟩:=zuH hz;rw [e];rcases hw with hw | hw
    ·exact zw7 (gx.2.2 w hw).1.1 (gx.2.2 w hw).1.2.2
    ·exact zw7 (gy w (List.mem_of_mem_take hw)).1.1 (gy w (List.mem_of_mem_take hw)).1.2.2
   have hm:=zt hj;have e1:decide ((k:Int)<Int.ofNat b.length)=true:=by simp [hk]
   have e2:decide ((j:Int)<Int.ofNat F.length)=true:=by simp [hj]
   have efx:(FactorOf.mk (F.getD j default).Atom (F.getD j default).Exp:Factor)=F.getD j default:=rfl;simp only [Atom.eta,Wy.ev_i,Wy.ev_k,Wy.ev_h,Wy.ev_bn,Wy.ev_d,zfc,Bool.and_self,cond_true,Int.toNat_natCast,hF,e1,e2,efx];rw [zbdR (d:=9) _ _ (by omega) hfine (by omega) (fun z hz=>by have:=hex z hz; omega) (by have:=(gy _ hm).2; omega),cond_true,zR (by omega),key j hj])
  (fun H K D=>by
   show (zoR a b i k F.length out c (zbd x.Factors (F.take F.length))).ev H K D=_;unfold zoR;have e1:decide ((k:Int)<Int.ofNat b.length)=true:=by simp [hk]
   have e2:decide ((F.length:Int)<Int.ofNat F.length)=false:=by simp
   simp only [Wy.ev_i,Wy.ev_k,zfc,Bool.and_self,cond_true,cond_false,Int.toNat_natCast,hF,e1,e2,List.take_length]) n hn
 rw [show allN (fun _=>true) F.length 0=true from zen.2 fun _ _ _=>rfl] at this
 simp only [List.take_zero,zHi] at this;exact this
theorem zbdZ (a b:yC) (i:Nat) (hi:i<a.length) (hal:a.length≤512) (hbl:b.length≤512) (hx:VT (a.getD i default)) (hb:∀ t∈b,VT t) (out:yC) (ho:out.length≤i*512) (hs:Srs out) (hg:∀ t∈out,GT t) (n:Nat) (hn:b.length<n):
  zKV n a b i 0 out=(true,(a,b,(i:Int),sumA out (b.map (zjg (a.getD i default))))):=by
 have:=zc3 (W:=zCG) (z:=default) (l:=b) (fun k (o:yC)=>(a,b,(),(i:Int),(k:Int),())) (fun _ o=>(o,())) (fun y o=>.inl (putA (zjg (a.getD i default) y) o)) (fun o=>(a,b,(i:Int),o)) (fun k o=>(o.length≤i*512+k∧Srs o)∧∀ t∈o,GT t)
  (fun k o hk hI=>.inl ⟨_,rfl,⟨⟨by have:=zW5 (t:=zjg (a.getD i default) (b.getD k default)) o; omega,zAE hI.1.2⟩,z6T (zSh hx (hb _ (zt hk))) hI.1.2 hI.2⟩,fun H K D=>by
   show (zrb a b i k o).ev H K D=_;unfold zrb;have hy:=hb _ (zt hk);have hsz:=szTs_get' b k hk;simp only [Wy.ev_i,Wy.ev_k,Wy.ev_h,Wy.ev_bn,Wy.ev_d,tT,hk,hi,(z8m hx.1.1 hy.1.1).2];rw [zbcL a b i k hk o _ _ hx hy _ (by omega)]
   simp only [cond_true];have e:(TermOf.mk (zvu (a.getD i default).Coeff (b.getD k default).Coeff) (zbd (a.getD i default).Factors (b.getD k default).Factors):Term)=zjg (a.getD i default) (b.getD k default):=rfl;have hg:=zSh hx hy;rw [e,z9S (d:=9) o _ (by omega) (fun z hz=>(hI.2 z hz).fine) (by omega) (fun z hz=>(hI.2 z hz).1) hg.1]
   simp only [cond_true];rw [zR (by omega)]⟩)
  (fun o hI H K D=>by
   show (zrb a b i b.length o).ev H K D=_;unfold zrb;simp only [Wy.ev_i,Wy.ev_k,tT,Nat.lt_irrefl]) n 0 out (by omega) (by omega) (show (out.length≤i*512+0∧Srs out)∧∀ t∈out,GT t from ⟨⟨Nat.le_trans ho (Nat.le_add_right _ _),hs⟩,hg⟩)
 rw [List.drop_zero,zc4] at this
 have e:∀ (l:yC) (o:yC),l.foldl (fun s t=>putA (zjg (a.getD i default) t) s) o=sumA o (l.map (zjg (a.getD i default))):=fun l=>by
  induction l with
  | nil=>intro o; rfl
  | cons y r ih=>intro o; rw [List.foldl_cons,ih]; rfl
 rw [e] at this;exact this
theorem z8D (o:yC) (b:yC) (x:Term):(sumA o (b.map (zjg x))).length≤o.length+b.length:=by
 have:=zKj (b.map (zjg x)) o
 rwa [List.length_map] at this
theorem zbco (a b:yC) (ha:∀ t∈a,VT t) (hb:∀ t∈b,VT t) (hal:a.length≤512) (hbl:b.length≤512):zoi a b=(true,zcd a b):=by
 unfold zoi zNH
 have:=zc3 (W:=zCp) (z:=default) (l:=a) (fun i (o:yC)=>(a,b,(),(i:Int),())) (fun _ o=>(o,())) (fun x o=>.inl (sumA o (b.map (zjg x)))) (fun o=>o) (fun i o=>(o.length≤i*512∧Srs o)∧∀ t∈o,GT t)
  (fun i o hi hI=>.inl ⟨_,rfl,⟨⟨by have:=z8D o b (a.getD i default); omega,zKi _ _ hI.1.2⟩,zPF _ _ hI.1.2 hI.2 fun t ht=>by
    obtain ⟨y,hy,rfl⟩:=List.mem_map.1 ht;exact zSh (ha _ (zt hi)) (hb y hy)⟩,fun H K D=>by
   show (zqV a b i o).ev H K D=_;unfold zqV;have e1:decide ((i:Int)<Int.ofNat a.length)=true:=by simp [hi]
   simp only [Wy.ev_i,Wy.ev_k,Wy.ev_h,Wy.ev_bn,Wy.ev_d,e1,cond_true];rw [zbdZ a b i hi hal hbl (ha _ (zt hi)) hb o hI.1.1 hI.1.2 hI.2 _ (by omega)]
   simp only [cond_true];rw [zR (by omega)]⟩)
  (fun o hI H K D=>by
   show (zqV a b a.length o).ev H K D=_;unfold zqV;have e1:decide ((a.length:Int)<Int.ofNat a.length)=false:=by simp
   simp only [Wy.ev_i,Wy.ev_k,e1,cond_false]) ((a.length+b.length+Int.toNat (0:Int)+(0:Nat)+(1:Nat))+szTs a+szTs b+szTs []) 0 [] (by omega) (by omega) ⟨⟨by simp,.nil⟩,fun t ht=>by cases ht⟩
 rw [List.drop_zero,zc4] at this
 have e:∀ (l:yC) (o:yC),l.foldl (fun s x=>sumA s (b.map (zjg x))) o=sumA o (zd5 l b):=fun l=>by
  induction l with
  | nil=>intro o; rfl
  | cons y r ih=>
   intro o;rw [List.foldl_cons,ih];show _=(zd5 (y::r) b).foldl (fun a t=>putA t a) o
   unfold zd5;rw [List.flatMap_cons,List.foldl_append]; rfl
 rw [e] at this;have this:zLN ((a.length+b.length+Int.toNat (0:Int)+(0:Nat)+(1:Nat))+szTs a+szTs b+szTs []) a b 0 []=(true,zcd a b):=this;rw [Wy.fin_bn,this]; rfl
theorem zbeT (a b:yC) (ha:∀ t∈a,GT t) (hb:∀ t∈b,GT t) (hs:Srs a) (hal:a.length≤512) (hbl:b.length≤512):zCO a b=(true,sumA a b):=by
 unfold zCO zZl
 have:=zc3 (W:=zLd) (z:=default) (l:=b) (fun i (o:yC)=>(o,b,(i:Int),())) (fun _ o=>()) (fun x o=>.inl (putA x o)) (fun o=>o) (fun i o=>(o.length≤512+i∧Srs o)∧∀ t∈o,GT t)
  (fun i o hi hI=>.inl ⟨_,rfl,⟨⟨by have:=zW5 (t:=b.getD i default) o; omega,zAE hI.1.2⟩,z6T (hb _ (zt hi)) hI.1.2 hI.2⟩,fun H K D=>by
   show (zAn o b i).ev H K D=_;unfold zAn;simp only [Wy.ev_i,Wy.ev_k,Wy.ev_h,Wy.ev_bn,Wy.ev_d,tT,hi];rw [z9S (d:=9) o _ (by omega) (fun z hz=>(hI.2 z hz).fine) (by omega) (fun z hz=>(hI.2 z hz).1) (hb _ (zt hi)).1,cond_true,zR (by omega)]⟩)
  (fun o hI H K D=>by
   show (zAn o b b.length).ev H K D=_;unfold zAn;simp only [Wy.ev_i,Wy.ev_k,tT,Nat.lt_irrefl]) (a.length+b.length+Int.toNat (0:Int)+(1:Nat)) 0 a (by omega) (by omega) ⟨⟨by omega,hs⟩,ha⟩
 rw [List.drop_zero,zc4] at this;have this:zUC (a.length+b.length+Int.toNat (0:Int)+(1:Nat)) a b 0=(true,sumA a b):=this;rw [Wy.fin_bn,this]; rfl
def okA (a:yC):Prop:=(zr 12 a∧zN a≤4611686018427387904)∧zgr a∧a.length≤roomLen
def opR (ok:Bool) (r:yC×Int):yC×Int:=bif ok then r else ([],1)
def addR (a b:yC):yC×Int:=opR (zG a&&zG b) (fitR (sumA a b))
def mulR (a b:yC):yC×Int:=opR (zG a&&zG b) (fitR (zcd a b))
def monA (a b:yC):Atom:=⟨1,⟨0,0⟩,[a,b],0,[],0,⟨0,0,ByteArray.mk #[]⟩⟩
def delA (a:yC):Atom:=⟨2,⟨0,0⟩,[a],0,[],0,⟨0,0,ByteArray.mk #[]⟩⟩
def absA (a:yC):Atom:=⟨3,⟨0,0⟩,[a],0,[],0,⟨0,0,ByteArray.mk #[]⟩⟩
def monR (a b:yC):yC×Int:=opR (zG a&&zG b) (if b=[] then (a,0) else if a=[]∨a=b then ([],0) else fitR (oneA (monA a b)))
def delR (a:yC):yC×Int:=opR (zG a) (if a=[]∨isU a=true then (a,0) else if isC a=true then ([⟨1,[]⟩],0) else fitR (oneA (delA a)))
def absR (a:yC):yC×Int:=opR (zG a) (if a=[] then ([⟨1,[]⟩],0) else if hasC a=true then ([],0) else fitR (oneA (absA a)))
theorem okA.valid {a:yC} (h:okA a):zb2 a=(true,zG a):=z40 h.1.1 (by omega) h.1.2
theorem okA.rvalid {a:yC} (h:okA a):zfM a=(true,zG a):=z1c h.1.1 (by omega) h.1.2
theorem zbbq {a b:yC} (ha:okA a) (hb:okA b):zu2 a b=(true,addR a b)∧zWA a b=(true,addR a b):=by
 unfold zu2 zKv zWA zYZ addR;simp only [Wy.fin_bn,Wy.fin_i,Wy.fin_k,ha.valid,hb.valid,ha.rvalid,hb.rvalid,cond_true];cases va:zG a with
 | false=>first | exact ⟨trivial,trivial⟩ | exact ⟨rfl,rfl⟩ | exact ⟨trivial,rfl⟩ | exact ⟨rfl,trivial⟩
 | true=>
  cases vb:zG b with
  | false=>first | exact ⟨trivial,trivial⟩ | exact ⟨rfl,rfl⟩ | exact ⟨trivial,rfl⟩ | exact ⟨rfl,trivial⟩
  | true=>
   obtain ⟨sa,la,ta⟩:=zw2 va ha.2.1;obtain ⟨sb,lb,tb⟩:=zw2 vb hb.2.1;have ga:∀ t∈a,GT t:=fun t ht=>(ta t ht).1
   have gb:∀ t∈b,GT t:=fun t ht=>(tb t ht).1
   have hc:=zbdr [a,b] (by simp) (fun l hl=>by
    simp only [qd,List.not_mem_nil,or_false] at hl;rcases hl with rfl | rfl <;>omega)
   have e:[a,b].flatten=a++b:=by simp
   have hcol:=z1h (a++b) (by simp; omega) fun t ht=>by
    rcases List.mem_append.1 ht with ht | ht
    ·exact ga t ht
    ·exact gb t ht
   rw [e] at hc;rw [zbeU a b sa] at hcol;have hsl:(sumA a b).length≤1000000:=by have:=zKj b a; omega
   obtain ⟨f1,f2⟩:=z7W hsl (zPF b a sa ga gb);simp only [Bool.not_true,cond_false,Bool.and_self,hc,hcol,zAO f1 (by omega:10≤100) f2,zbeT a b ga gb sa la lb,zQA f1 (by omega:10≤100) f2,cond_true]
   first | exact ⟨trivial,trivial⟩ | exact ⟨rfl,rfl⟩ | exact ⟨trivial,rfl⟩ | exact ⟨rfl,trivial⟩
theorem zbbB {a b:yC} (ha:okA a) (hb:okA b):zvA a b=(true,mulR a b)∧zV3 a b=(true,mulR a b):=by
 unfold zvA zKB zV3 zZr mulR;simp only [Wy.fin_bn,Wy.fin_i,Wy.fin_k,ha.valid,hb.valid,ha.rvalid,hb.rvalid,cond_true];cases va:zG a with
 | false=>first | exact ⟨trivial,trivial⟩ | exact ⟨rfl,rfl⟩ | exact ⟨trivial,rfl⟩ | exact ⟨rfl,trivial⟩
 | true=>
  cases vb:zG b with
  | false=>first | exact ⟨trivial,trivial⟩ | exact ⟨rfl,rfl⟩ | exact ⟨trivial,rfl⟩ | exact ⟨rfl,trivial⟩
  | true=>
   obtain ⟨sa,la,ta⟩:=zw2 va ha.2.1;obtain ⟨sb,lb,tb⟩:=zw2 vb hb.2.1;have hm:=zbgB a b ta tb la lb (b.length+a.length+(Int.ofNat a.length).toNat +Int.toNat (0:Int)+(0:Nat)+(1:Nat)) (by omega)
   have hm:zBb (b.length+a.length+(Int.ofNat a.length).toNat +Int.toNat (0:Int)+(0:Nat)+(1:Nat)) b a (Int.ofNat a.length) 0 []=_:=hm;have hpl:(zd5 a b).length≤1000000:=by rw [zV2]; have:=Nat.mul_le_mul la lb; omega
   have hcol:=z1h (zd5 a b) hpl (zZy ta tb);have hsl:(zcd a b).length≤1000000:=by have:=zKj (zd5 a b) []; simp at this; exact Nat.le_trans this hpl
   obtain ⟨f1,f2⟩:=z7W hsl (zPF (zd5 a b) [] .nil (fun t ht=>by cases ht) (zZy ta tb))
   have f1:zr 10 (zcd a b):=f1;have f2:zN (zcd a b)≤4611686018427387904:=f2;have hcol:zhX (zd5 a b)=(true,zcd a b):=hcol;simp only [Bool.not_true,cond_false,Bool.and_self,hm,hcol,zAO f1 (by omega:10≤100) f2,zbco a b ta tb la lb,zQA f1 (by omega:10≤100) f2,cond_true]
   first | exact ⟨trivial,trivial⟩ | exact ⟨rfl,rfl⟩ | exact ⟨trivial,rfl⟩ | exact ⟨rfl,trivial⟩
theorem zRi {l:yA} {k:Int} (hl:l.length≤2) (h:∀ a∈l,zG a=true):zr 10 (oneA ⟨k,⟨0,0⟩,l,0,[],0,⟨0,0,ByteArray.mk #[]⟩⟩)∧zN (oneA ⟨k,⟨0,0⟩,l,0,[],0,⟨0,0,ByteArray.mk #[]⟩⟩)≤4611686018427387904:=by
 constructor
 ·exact zM5 ⟨⟨by simp only; omega,by simp,by show (ByteArray.mk #[]).size≤_; decide⟩,fun a ha=>(ze1 (h a ha)).1,fun w hw=>(by cases hw)⟩
 ·rw [z0R,zg8]
  have hb:∀ l:yA,(∀ a∈l,zG a=true)→zfb l≤l.length*4096:=fun l=>by
   induction l with
   | nil=>intro _; rw [zgx]; simp
   | cons a r ih=>
    intro h;have h1:=(ze1 (h a (by simp))).2.1
    have h2:=ih fun b hb=>h b (by simp [hb])
    rw [zeS,qf,Nat.add_mul]; omega
  have:=hb l h;show 2+(zfb l+zdm [])≤_;rw [zfx];have:=Nat.mul_le_mul hl (Nat.le_refl 4096);omega
theorem z3z (a:yC):(Int.ofNat a.length==(0:Int))=decide (a=[]):=by
 rw [show (Int.ofNat a.length==(0:Int))=(a.length==0) from zxe _ 0,beqn]
 congr 1;rw [List.length_eq_zero_iff]
theorem z6Z {a b:yC} (ha:okA a) (hb:okA b):zq0 a b=(true,monR a b)∧zOL a b=(true,monR a b):=by
 unfold zq0 zHf zOL zS9 monR;simp only [Wy.fin_bn,Wy.fin_i,Wy.fin_k,ha.valid,hb.valid,ha.rvalid,hb.rvalid,cond_true];cases va:zG a with
 | false=>first | exact ⟨trivial,trivial⟩ | exact ⟨rfl,rfl⟩ | exact ⟨trivial,rfl⟩ | exact ⟨rfl,trivial⟩
 | true=>
  cases vb:zG b with
  | false=>first | exact ⟨trivial,trivial⟩ | exact ⟨rfl,rfl⟩ | exact ⟨trivial,rfl⟩ | exact ⟨rfl,trivial⟩
  | true=>
   obtain ⟨f1,f2⟩:=zRi (l:=[a,b]) (k:=1) (by simp) (fun x hx=>by
    simp only [qd,List.not_mem_nil,or_false] at hx;rcases hx with rfl | rfl
    ·exact va
    ·exact vb)
   simp only [Bool.not_true,cond_false,Bool.and_self,z3z,zGz ha.1.1 (by omega:12≤100),zrI ha.1.1 (by omega:12≤100),zTh ha.1.1 (by omega:12≤100),zGy,zQw,zAO f1 (by omega:10≤100) f2,zQA f1 (by omega:10≤100) f2,cond_true,opR]
   by_cases hb0:b=[]
   ·simp only [hb0,decide_true,cond_true,if_true]; exact ⟨trivial,trivial⟩
   ·by_cases ha0:a=[]
    ·simp only [hb0,ha0,decide_true,decide_false,cond_true,cond_false,if_true,if_false,true_or]; exact ⟨trivial,trivial⟩
    ·by_cases hab:a=b
     ·simp only [hb0,ha0,hab,decide_true,decide_false,cond_true,cond_false,if_true,if_false,or_true]; exact ⟨trivial,trivial⟩
     ·simp only [hb0,ha0,hab,decide_false,cond_false,if_false,or_self]; first | exact ⟨trivial,trivial⟩ | exact ⟨rfl,rfl⟩ | exact ⟨trivial,rfl⟩ | exact ⟨rfl,trivial⟩
theorem z8q {a:yC} (ha:okA a):zrF a=(true,delR a)∧zBW a=(true,delR a):=by
 unfold zrF zHm zBW zSY delR;simp only [Wy.fin_bn,Wy.fin_i,Wy.fin_k,ha.valid,ha.rvalid,cond_true];cases va:zG a with
 | false=>first | exact ⟨trivial,trivial⟩ | exact ⟨rfl,rfl⟩ | exact ⟨trivial,rfl⟩ | exact ⟨rfl,trivial⟩
 | true=>
  obtain ⟨f1,f2⟩:=zRi (l:=[a]) (k:=2) (by simp) (fun x hx=>by rw [qh] at hx; subst hx; exact va)
  have hla:a.length≤1000000000:=by have:=(ze1 va).2.2; omega
  have hbu:isB a=isU a:=zWi va;simp only [Bool.not_true,cond_false,z3z,zGz ha.1.1 (by omega:12≤100),z4y,zTg,zNc,zBt a hla,zGy,zQw,zAO f1 (by omega:10≤100) f2,zQA f1 (by omega:10≤100) f2,cond_true,opR,hbu]
  rw [show fitR (oneA ⟨2,⟨0,0⟩,[a],0,[],0,⟨0,0,ByteArray.mk #[]⟩⟩)=fitR (oneA (delA a)) from rfl]
  clear f1 f2;generalize fitR (oneA (delA a))=R;by_cases h0:a=[]
  ·simp only [h0,decide_true,cond_true,if_true,true_or]; exact ⟨trivial,trivial⟩
  ·cases hu:isU a with
   | true=>simp only [h0,decide_false,cond_false,cond_true,if_true,or_true]; exact ⟨trivial,trivial⟩
   | false=>
    simp only [h0,decide_false,cond_false,if_false,or_self,Bool.false_eq_true]
    match a,h0 with
    | [t],_=>
     have e1:hasC [t]=(t.Factors.length==0):=by simp [hasC]
     have e2:isC [t]=(t.Factors.length==0):=rfl;rw [e1,e2];cases (t.Factors.length==0) with
     | true=>simp only [cond_true,if_true]; first | exact ⟨trivial,trivial⟩ | exact ⟨rfl,rfl⟩ | exact ⟨trivial,rfl⟩ | exact ⟨rfl,trivial⟩
     | false=>simp only [cond_false,cond_true,Bool.false_eq_true,if_false]; first | exact ⟨trivial,trivial⟩ | exact ⟨rfl,rfl⟩ | exact ⟨trivial,rfl⟩ | exact ⟨rfl,trivial⟩
    | t::s::r,_=>
     have e2:isC (t::s::r)=false:=rfl;simp only [len2,e2,cond_false,cond_true,Bool.false_eq_true,if_false]
     first | exact ⟨trivial,trivial⟩ | exact ⟨rfl,rfl⟩ | exact ⟨trivial,rfl⟩ | exact ⟨rfl,trivial⟩
theorem z4H {a:yC} (ha:okA a):zoP a=(true,absR a)∧zKS a=(true,absR a):=by
 unfold zoP zFg zKS zPT absR;simp only [Wy.fin_bn,Wy.fin_i,Wy.fin_k,ha.valid,ha.rvalid,cond_true];cases va:zG a with
 | false=>first | exact ⟨trivial,trivial⟩ | exact ⟨rfl,rfl⟩ | exact ⟨trivial,rfl⟩ | exact ⟨rfl,trivial⟩
 | true=>
  obtain ⟨f1,f2⟩:=zRi (l:=[a]) (k:=3) (by simp) (fun x hx=>by rw [qh] at hx; subst hx; exact va)
  have hla:a.length≤1000000000:=by have:=(ze1 va).2.2; omega
  simp only [Bool.not_true,cond_false,z3z,zPJ a hla,zBt a hla,zGy,zQw,zAO f1 (by omega:10≤100) f2,zQA f1 (by omega:10≤100) f2,cond_true,opR]
  by_cases h0:a=[]
  ·simp only [h0,decide_true,cond_true,if_true]; first | exact ⟨trivial,trivial⟩ | exact ⟨rfl,rfl⟩ | exact ⟨trivial,rfl⟩ | exact ⟨rfl,trivial⟩
  ·cases hu:hasC a with
   | true=>simp only [h0,decide_false,cond_false,cond_true,if_true,if_false]; exact ⟨trivial,trivial⟩
   | false=>simp only [h0,decide_false,cond_false,if_false,Bool.false_eq_true]; first | exact ⟨trivial,trivial⟩ | exact ⟨rfl,rfl⟩ | exact ⟨trivial,rfl⟩ | exact ⟨rfl,trivial⟩
end Go.Proofs.YtljlfiomikifjaaGreatDoor
end
