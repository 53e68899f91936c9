/- Texts of this claim, joined (the program, its functions in plain words, and what they compute). -/
import Derived.Test.YtljlfiomikifjaaGreatDoorGC8
set_option autoImplicit false
set_option linter.unusedVariables false
set_option linter.unusedSectionVars false
set_option linter.unusedSimpArgs false
set_option maxRecDepth 1000000
set_option maxHeartbeats 0
/- Sums and products of zPP lists: two ways of computing them. -/
noncomputable section
namespace Go.Proofs.YtljlfiomikifjaaGreatDoor
open Go Go.Ab
def zy0 (a b:Int):Int:=if 1152921504606846976<a+b then 1152921504606846976 else a+b
def cT (x y:Term):Int:=cmpL (zbz x.Factors) (zbz y.Factors)
theorem zXJ {x y:Term} (h:cT x y=0):x.Factors=y.Factors:=zCc _ _ (zKo _ _ h)
theorem zC1 {x y:Term} (h:x.Factors=y.Factors):cT x y=0:=by unfold cT; rw [h]; exact zWK _
def putA (t:Term):yC→yC
 | []=>[t]
 | x::r=>if cT x t<0 then x::putA t r else if cT x t=0 then ⟨zy0 x.Coeff t.Coeff,t.Factors⟩::r else t::x::r
def updA (t:Term):yC→yC
 | []=>[t]
 | x::r=>if x.Factors=t.Factors then ⟨zy0 x.Coeff t.Coeff,x.Factors⟩::r else x::updA t r
abbrev Srs (l:yC):Prop:=l.Pairwise fun x y=>cT x y<0
abbrev Dst (l:yC):Prop:=l.Pairwise fun x y=>x.Factors≠y.Factors
theorem Srs.dst {l:yC} (h:Srs l):Dst l:=h.imp fun {x y} hxy e=>by rw [zC1 e] at hxy; omega
def SM (l:yC) (t y:Term):Prop:=(y∈l∧y.Factors≠t.Factors)∨(y.Factors=t.Factors∧((∃ x∈l,x.Factors=t.Factors∧y.Coeff=zy0 x.Coeff t.Coeff)∨((∀ x∈l,x.Factors≠t.Factors)∧y.Coeff=t.Coeff)))
theorem z9S {x y:Term} (h1:x.Coeff=y.Coeff) (h2:x.Factors=y.Factors):x=y:=by cases x; cases y; simp_all
theorem zFw {x y z:Term} (h1:cT x y<0) (h2:cT y z<0):cT x z<0:=z6w h1 h2
theorem zFe (x y:Term):cT y x= - cT x y:=zHq _ _
theorem z1K {x t y:Term} {r:yC} (hx:x.Factors≠t.Factors) (hr:∀ z∈r,x.Factors≠z.Factors):SM (x::r) t y↔y=x∨SM r t y:=by
 unfold SM;constructor
 ·rintro (⟨h1,h2⟩ | ⟨h1,⟨z,hz,h2,h3⟩ | ⟨h2,h3⟩⟩)
  ·rcases qd.1 h1 with rfl | h1
   ·exact .inl rfl
   ·exact .inr (.inl ⟨h1,h2⟩)
  ·rcases qd.1 hz with rfl | hz
   ·exact absurd h2 hx
   ·exact .inr (.inr ⟨h1,.inl ⟨z,hz,h2,h3⟩⟩)
  ·exact .inr (.inr ⟨h1,.inr ⟨fun z hz=>h2 z (by simp [hz]),h3⟩⟩)
 ·rintro (rfl | ⟨h1,h2⟩ | ⟨h1,⟨z,hz,h2,h3⟩ | ⟨h2,h3⟩⟩)
  ·exact .inl ⟨by simp,hx⟩
  ·exact .inl ⟨by simp [h1],h2⟩
  ·exact .inr ⟨h1,.inl ⟨z,by simp [hz],h2,h3⟩⟩
  ·exact .inr ⟨h1,.inr ⟨fun z hz=>by
    rcases qd.1 hz with rfl | hz
    ·exact hx
    ·exact h2 z hz,h3⟩⟩
theorem z4s {t y:Term} {l:yC} (h:∀ z∈l,z.Factors≠t.Factors):SM l t y↔y=t∨y∈l:=by
 unfold SM;constructor
 ·rintro (⟨h1,h2⟩ | ⟨h1,⟨z,hz,h2,h3⟩ | ⟨h2,h3⟩⟩)
  ·exact .inr h1
  ·exact absurd h2 (h z hz)
  ·exact .inl (z9S h3 h1)
 ·rintro (rfl | h1)
  ·exact .inr ⟨rfl,.inr ⟨h,rfl⟩⟩
  ·exact .inl ⟨h1,h y h1⟩
theorem zba4 {x t y:Term} {r:yC} (hx:x.Factors=t.Factors) (hr:∀ z∈r,z.Factors≠t.Factors):SM (x::r) t y↔y=⟨zy0 x.Coeff t.Coeff,t.Factors⟩∨y∈r:=by
 unfold SM;constructor
 ·rintro (⟨h1,h2⟩ | ⟨h1,⟨z,hz,h2,h3⟩ | ⟨h2,h3⟩⟩)
  ·rcases qd.1 h1 with rfl | h1
   ·exact absurd hx h2
   ·exact .inr h1
  ·rcases qd.1 hz with rfl | hz
   ·exact .inl (z9S h3 h1)
   ·exact absurd h2 (hr z hz)
  ·exact absurd hx (h2 x (by simp))
 ·rintro (rfl | h1)
  ·exact .inr ⟨rfl,.inl ⟨x,by simp,hx,rfl⟩⟩
  ·exact .inl ⟨by simp [h1],hr y h1⟩
theorem zAC {t y:Term}:∀ {l:yC},Srs l→(y∈putA t l↔SM l t y)
 | [],_=>by rw [z4s (by simp)]; simp [putA]
 | x::r,h=>by
  have hc:=qi.1 h;have hd:=qi.1 h.dst;unfold putA;by_cases h1:cT x t<0
  ·rw [if_pos h1,qd,z1K (fun e=>by rw [zC1 e] at h1; omega) hd.1,zAC hc.2]
  ·rw [if_neg h1];by_cases h2:cT x t=0
   ·rw [if_pos h2,List.mem_cons,zba4 (zXJ h2) fun z hz e=>by
     have:=hc.1 z hz; rw [zC1 ((zXJ h2).trans e.symm)] at this; omega]
   ·rw [if_neg h2,z4s fun z hz e=>by
     have a:=zFe x t;rcases qd.1 hz with rfl | hz
     ·exact h2 (zC1 e)
     ·have b:=zFw (show cT t x<0 by omega) (hc.1 z hz)
      rw [zC1 e.symm] at b; omega]
    rw [qd]
theorem z4l {t y:Term}:∀ {l:yC},Dst l→(y∈updA t l↔SM l t y)
 | [],_=>by rw [z4s (by simp)]; simp [updA]
 | x::r,h=>by
  have hd:=qi.1 h;unfold updA;by_cases h2:x.Factors=t.Factors
  ·rw [if_pos h2,qd,zba4 h2 fun z hz e=>hd.1 z hz (h2.trans e.symm),h2]
  ·rw [if_neg h2,qd,z1K h2 hd.1,z4l hd.2]
theorem zAL {t:Term}:∀ {l:yC},Srs l→Srs (putA t l)
 | [],_=>by simp [putA]
 | x::r,h=>by
  have hc:=qi.1 h;unfold putA;by_cases h1:cT x t<0
  ·rw [if_pos h1];refine qi.2 ⟨fun z hz=> ?_,zAL hc.2⟩
   rcases (zAC hc.2).1 hz with ⟨h2,_⟩ | ⟨h2,_⟩
   ·exact hc.1 z h2
   ·have:cT x z=cT x t:=by unfold cT; rw [h2]
    rw [this]; exact h1
  ·rw [if_neg h1];by_cases h2:cT x t=0
   ·rw [if_pos h2];refine qi.2 ⟨fun z hz=> ?_,hc.2⟩
    have:=hc.1 z hz;unfold cT at this ⊢;rw [← zXJ h2]; exact this
   ·rw [if_neg h2];have a:=zFe x t;refine qi.2 ⟨fun z hz=> ?_,h⟩
    rcases qd.1 hz with rfl | hz
    ·omega
    ·exact zFw (show cT t x<0 by omega) (hc.1 z hz)
theorem z32 {t:Term}:∀ {l:yC},Dst l→Dst (updA t l)
 | [],_=>by simp [updA]
 | x::r,h=>by
  have hc:=qi.1 h;unfold updA;by_cases h2:x.Factors=t.Factors
  ·rw [if_pos h2];exact qi.2 ⟨fun z hz=>hc.1 z hz,hc.2⟩
  ·rw [if_neg h2];refine qi.2 ⟨fun z hz=> ?_,z32 hc.2⟩
   rcases (z4l hc.2).1 hz with ⟨h3,_⟩ | ⟨h3,_⟩
   ·exact hc.1 z h3
   ·rw [h3]; exact h2
theorem Dst.nodup {l:yC} (h:Dst l):l.Nodup:=h.imp fun {x y} hxy e=>hxy (by rw [e])
theorem zbdT {l l':yC} (h:l.Perm l') (t y:Term):SM l t y↔SM l' t y:=by
 unfold SM;simp only [h.mem_iff]
theorem zbba {l l':yC} (t:Term) (h:l.Perm l') (hs:Srs l) (hd:Dst l'):(putA t l).Perm (updA t l'):=
 (List.perm_ext_iff_of_nodup (zAL hs).dst.nodup (z32 hd).nodup).2 fun y=>by rw [zAC hs,z4l hd,zbdT h]
def sumA (a b:yC):yC:=b.foldl (fun a t=>putA t a) a
def zNX (ts:yC):yC:=ts.foldl (fun a t=>updA t a) []
theorem zPu:∀ (b a:yC),Srs a→Srs (sumA a b)
 | [],_,h=>h
 | t::r,a,h=>zPu r (putA t a) (zAL h)
theorem z5D:∀ (ts l l':yC),l.Perm l'→Srs l→Dst l'→(sumA l ts).Perm (ts.foldl (fun a t=>updA t a) l')∧Dst (ts.foldl (fun a t=>updA t a) l')
 | [],l,l',h,_,hd=>⟨h,hd⟩
 | t::r,l,l',h,hs,hd=>z5D r (putA t l) (updA t l') (zbba t h hs hd) (zAL hs) (z32 hd)
theorem z7H {t:Term}:∀ {l:yC},(∀ x∈l,cT x t<0)→putA t l=l++[t]
 | [],_=>rfl
 | x::r,h=>by
  unfold putA;rw [if_pos (h x (by simp)),z7H fun y hy=>h y (by simp [hy])]; rfl
theorem z4e:∀ (r l:yC),Srs (l++r)→sumA l r=l++r
 | [],l,_=>by simp [sumA]
 | t::r,l,h=>by
  have e:sumA l (t::r)=sumA (putA t l) r:=rfl;have hp:=List.pairwise_append.1 h;rw [e,z7H fun x hx=>hp.2.2 x hx t (by simp),z4e r (l++[t]) (by simpa using h)]
  simp
theorem sum_nil {a:yC} (h:Srs a):sumA [] a=a:=z4e a [] h
theorem zbej (a b:yC) (h:Srs a):sumA [] (a++b)=sumA a b:=by
 show (a++b).foldl (fun a t=>putA t a) []=_
 rw [List.foldl_append];show sumA (sumA [] a) b=_;rw [sum_nil h]
theorem zKq {y:Term}:∀ (b a:yC),Srs a→y∈sumA a b→∃ x,(x∈a∨x∈b)∧y.Factors=x.Factors
 | [],a,_,h=>⟨y,.inl h,rfl⟩
 | t::r,a,hs,h=>by
  obtain ⟨x,hx,e⟩:=zKq r (putA t a) (zAL hs) h;rcases hx with hx | hx
  ·rcases (zAC hs).1 hx with ⟨h1,_⟩ | ⟨h1,_⟩
   ·exact ⟨x,.inl h1,e⟩
   ·exact ⟨t,.inr (by simp),e.trans h1⟩
  ·exact ⟨x,.inr (by simp [hx]),e⟩
theorem z4T {a b:Int} (ha:1≤a) (hb:1≤b):1≤zy0 a b∧zy0 a b≤1152921504606846976:=by
 unfold zy0;split
 ·omega
 ·omega
def cOK (t:Term):Prop:=1≤t.Coeff∧t.Coeff≤1152921504606846976
theorem zbaZ {t:Term} (ht:cOK t):∀ {l:yC},(∀ x∈l,cOK x)→∀ x∈putA t l,cOK x
 | [],_,x,hx=>by simp only [putA,qh] at hx; subst hx; exact ht
 | y::r,h,x,hx=>by
  unfold putA at hx;split at hx
  ·rcases qd.1 hx with rfl | hx
   ·exact h _ (by simp)
   ·exact zbaZ ht (fun z hz=>h z (by simp [hz])) x hx
  ·split at hx
   ·rcases qd.1 hx with rfl | hx
    ·exact z4T (h y (by simp)).1 ht.1
    ·exact h x (by simp [hx])
   ·rcases qd.1 hx with rfl | hx
    ·exact ht
    ·exact h x hx
theorem zbax:∀ (b:yC) {a:yC},(∀ x∈a,cOK x)→(∀ x∈b,cOK x)→∀ x∈sumA a b,cOK x
 | [],a,ha,_=>ha
 | t::r,a,ha,hb=>zbax r (zbaZ (hb t (by simp)) ha) fun x hx=>hb x (by simp [hx])
theorem zXz {t:Term}:∀ (l:yC),(putA t l).length≤l.length+1
 | []=>by simp [putA]
 | x::r=>by
  have:=zXz (t:=t) r;unfold putA;split
  ·simp only [qf]; omega
  ·split <;>simp
theorem zKu:∀ (b a:yC),(sumA a b).length≤a.length+b.length
 | [],a=>by simp [sumA]
 | t::r,a=>by
  have h1:=zKu r (putA t a);have h2:=zXz (t:=t) a;show (sumA (putA t a) r).length≤_;simp only [qf]; omega
def cF (x y:Factor):Int:=cmpT (zdl x.Atom) (zdl y.Atom)
theorem z9v {x y:Factor} (h:cF x y=0):x.Atom=y.Atom:=zRf _ _ (ztd _ _ h)
theorem zbev (x y:Factor):cF y x= - cF x y:=zgG _ _
theorem z5K {a b c:TT} (h1:cmpT a b<0) (h2:cmpT b c<0):cmpT a c<0:=by
 have h:=zwO a b c (by omega) (by omega)
 by_cases e:cmpT a c=0
 ·have e':=ztd a c e;subst e';have:=zgG a b;omega
 ·omega
theorem zFd {x y z:Factor} (h1:cF x y<0) (h2:cF y z<0):cF x z<0:=z5K h1 h2
abbrev Srf (l:yD):Prop:=l.Pairwise fun x y=>cF x y<0
def facA (f:Factor):yD→yD
 | []=>[f]
 | x::r=>if cF x f<0 then x::facA f r else if cF x f=0 then (if f.Atom.Kind<3 then ⟨f.Atom,x.Exp+f.Exp⟩ else f)::r else f::x::r
def zbN:yD→yD→yD
 | [],b=>b
 | x::a,[]=>x::a
 | x::a,y::b=>if cF x y<0 then x::zbN a (y::b) else if 0<cF x y then y::zbN (x::a) b else (if x.Atom.Kind=3∨x.Atom.Kind=4 then x else ⟨x.Atom,x.Exp+y.Exp⟩)::zbN a b
termination_by a b=>a.length+b.length
theorem zNF (a:yD):zbN a []=a:=by cases a <;>rw [zbN]
theorem zMn {m:Factor} {L b:yD} (h:∀ z∈b,cF m z<0):zbN (m::L) b=m::zbN L b:=by
 cases b with
 | nil=>rw [zNF,zNF]
 | cons z b=>rw [zbN,if_pos (h z (by simp))]
def eOK (f:Factor):Prop:=(0≤f.Atom.Kind∧f.Atom.Kind≤4)∧(f.Atom.Kind=3∨f.Atom.Kind=4→f.Exp=1)
theorem z7C {y:Factor} {b:yD} (hb:∀ z∈b,cF y z<0) (hy:eOK y):∀ {a:yD},(∀ x∈a,eOK x)→zbN (facA y a) b=zbN a (y::b)
 | [],_=>by
  rw [facA,zMn hb,zbN,zbN]
 | x::a,ha=>by
  unfold facA;by_cases h1:cF x y<0
  ·rw [if_pos h1,zMn fun z hz=>zFd h1 (hb z hz),z7C hb hy fun z hz=>ha z (by simp [hz]),zMn (m:=x) (b:=y::b) fun z hz=>by
    rcases qd.1 hz with rfl | hz
    ·exact h1
    ·exact zFd h1 (hb z hz)]
  ·rw [if_neg h1];by_cases h2:cF x y=0
   ·have ea:=z9v h2
    rw [if_pos h2,zMn fun z hz=>by
     have e:(if y.Atom.Kind<3 then (⟨y.Atom,x.Exp+y.Exp⟩:Factor) else y).Atom=y.Atom:=by split <;>rfl
     have:=hb z hz;unfold cF at this ⊢; rw [e]; exact this]
    rw [zbN,if_neg h1,if_neg (show ¬ 0<cF x y by omega)]
    congr 1;have hx:=ha x (by simp)
    obtain ⟨xa,xe⟩:=x;obtain ⟨ya,ye⟩:=y;simp only at ea;subst ea;obtain ⟨⟨k0,k4⟩,h3⟩:=hx;obtain ⟨_,h3'⟩:=hy;simp only at k0 k4 h3 h3' ⊢;by_cases hk:xa.Kind<3
    ·rw [if_pos hk,if_neg (by omega)]
    ·have hk':xa.Kind=3∨xa.Kind=4:=by omega
     rw [if_neg hk,if_pos hk',h3 hk',h3' hk']
   ·rw [if_neg h2,zMn hb];rw [zbN,if_neg h1,if_pos (by omega)]
theorem zR3:∀ (b a:yD),Srf b→(∀ x∈a,eOK x)→(∀ x∈b,eOK x)→b.foldl (fun l f=>facA f l) a=zbN a b
 | [],a,_,_,_=>by rw [zNF]; rfl
 | y::b,a,hs,ha,hb=>by
  have hc:=qi.1 hs;have hy:=hb y (by simp)
  rw [List.foldl_cons,zR3 b (facA y a) hc.2 (fun x hx=> ?_) fun x hx=>hb x (by simp [hx]),z7C hc.1 hy ha]
  -- kinds and exponents are kept
  clear hs hc hb;induction a with
  | nil=>simp only [facA,qh] at hx; subst hx; exact hy
  | cons z r ih=>
   unfold facA at hx;split at hx
   ·rcases qd.1 hx with rfl | hx
    ·exact ha _ (by simp)
    ·exact ih (fun w hw=>ha w (by simp [hw])) hx
   ·split at hx
    ·rcases qd.1 hx with rfl | hx
     ·split
      ·rename_i hk; exact ⟨hy.1,fun h=>by simp only at h; omega⟩
      ·exact hy
     ·exact ha x (by simp [hx])
    ·rcases qd.1 hx with rfl | hx
     ·exact hy
     ·exact ha x hx
theorem zuj {x:Factor}:∀ {a b:yD},x∈zbN a b→∃ y,(y∈a∨y∈b)∧x.Atom=y.Atom
 | [],b,h=>⟨x,.inr (by rwa [zbN] at h),rfl⟩
 | y::a,[],h=>⟨x,.inl (by rwa [zbN] at h),rfl⟩
 | y::a,z::b,h=>by
  rw [zbN] at h;split at h
  ·rcases qd.1 h with rfl | h
   ·exact ⟨x,.inl (by simp),rfl⟩
   ·obtain ⟨w,hw,e⟩:=zuj h;rcases hw with hw | hw
    ·exact ⟨w,.inl (by simp [hw]),e⟩
    ·exact ⟨w,.inr hw,e⟩
  ·split at h
   ·rcases qd.1 h with rfl | h
    ·exact ⟨x,.inr (by simp),rfl⟩
    ·obtain ⟨w,hw,e⟩:=zuj h;rcases hw with hw | hw
     ·exact ⟨w,.inl hw,e⟩
     ·exact ⟨w,.inr (by simp [hw]),e⟩
   ·rcases qd.1 h with rfl | h
    ·exact ⟨y,.inl (by simp),by split <;>rfl⟩
    ·obtain ⟨w,hw,e⟩:=zuj h;rcases hw with hw | hw
     ·exact ⟨w,.inl (by simp [hw]),e⟩
     ·exact ⟨w,.inr (by simp [hw]),e⟩
termination_by a b=>a.length+b.length
theorem zMc:∀ (a b:yD),(zbN a b).length≤a.length+b.length
 | [],b=>by rw [zbN]; simp
 | y::a,[]=>by rw [zbN]; simp
 | y::a,z::b=>by
  rw [zbN];split
  ·have:=zMc a (z::b); simp only [qf] at this ⊢; omega
  ·split
   ·have:=zMc (y::a) b; simp only [qf] at this ⊢; omega
   ·have:=zMc a b; simp only [qf] at this ⊢; omega
termination_by a b=>a.length+b.length
theorem zMg {x:Factor} {B:Int}:∀ {a b:yD},(∀ y∈a,1≤y.Exp∧y.Exp≤B)→(∀ y∈b,1≤y.Exp∧y.Exp≤B)→x∈zbN a b→1≤x.Exp∧x.Exp≤2*B
 | [],b,ha,hb,h=>by rw [zbN] at h; have:=hb x h; omega
 | y::a,[],ha,hb,h=>by rw [zbN] at h; have:=ha x h; omega
 | y::a,z::b,ha,hb,h=>by
  have hy:=ha y (by simp)
  have hz:=hb z (by simp)
  rw [zbN] at h;split at h
  ·rcases qd.1 h with rfl | h
   ·omega
   ·exact zMg (fun w hw=>ha w (by simp [hw])) hb h
  ·split at h
   ·rcases qd.1 h with rfl | h
    ·omega
    ·exact zMg ha (fun w hw=>hb w (by simp [hw])) h
   ·rcases qd.1 h with rfl | h
    ·split
     ·omega
     ·simp only; omega
    ·exact zMg (fun w hw=>ha w (by simp [hw])) (fun w hw=>hb w (by simp [hw])) h
termination_by a b=>a.length+b.length
def zzL (a b:Int):Int:=if Int.tdiv 1152921504606846976 b<a then 1152921504606846976 else a*b
def zl1 (x y:Term):Term:=⟨zzL x.Coeff y.Coeff,zbN x.Factors y.Factors⟩
def zfS (a b:yC):yC:=a.flatMap fun x=>b.map (zl1 x)
def zuV (a b:yC):yC:=sumA [] (zfS a b)
theorem z1I {a b:Int} (ha:1≤a∧a≤1152921504606846976) (hb:1≤b∧b≤1152921504606846976):(1≤zzL a b∧zzL a b≤1152921504606846976)∧(¬ Int.tdiv 1152921504606846976 b<a→a*b≤1152921504606846976):=by
 have h1:¬ Int.tdiv 1152921504606846976 b<a→a*b≤1152921504606846976:=fun h=>by
  rw [Int.tdiv_eq_ediv_of_nonneg (by omega)] at h
  have h2:a≤1152921504606846976 / b:=by omega
  exact (Int.le_ediv_iff_mul_le (by omega)).1 h2
 refine ⟨?_,h1⟩;unfold zzL;split
 ·omega
 ·rename_i h;refine ⟨?_,h1 h⟩;have:=Int.mul_le_mul ha.1 hb.1 (by omega) (by omega)
  omega
theorem z5w {t:Term} {a b:yC} (h:t∈zfS a b):∃ x∈a,∃ y∈b,t=zl1 x y:=by
 obtain ⟨x,hx,ht⟩:=List.mem_flatMap.1 h;obtain ⟨y,hy,rfl⟩:=List.mem_map.1 ht;exact ⟨x,hx,y,hy,rfl⟩
theorem zW9 (a b:yC):(zfS a b).length=a.length*b.length:=by
 unfold zfS;induction a with
 | nil=>simp
 | cons x r ih=>rw [List.flatMap_cons,qg,ih,List.length_map,qf,Nat.add_mul]; omega
abbrev zFA:=yE×Unit×Int×Int×Unit
abbrev zpZ:=yE×Unit
abbrev zFx:=yE×Int×Int×yE
abbrev zFE:=yE×Unit×Int×Unit
def zvC (l:yE) (i:Int) (k:Int) (out_:yE):Wy zFA zpZ zFx:=.i (decide (k<Int.ofNat out_.length)) (.i (decide (0≤k)&&decide (k≤IntKind.i64.wrap (k+1))&&decide (IntKind.i64.wrap (k+1)≤Int.ofNat out_.length)) (.i (decide (0≤i)&&decide (i≤IntKind.i64.wrap (i+1))&&decide (IntKind.i64.wrap (i+1)≤Int.ofNat l.length)) (.bn (zty (List.take ((IntKind.i64.wrap (k+1)).toNat - k.toNat) (List.drop k.toNat out_)) (List.take ((IntKind.i64.wrap (i+1)).toNat - i.toNat) (List.drop i.toNat l))) fun r0=>.i (decide (r0≤0)) (.h (l,(),i,(IntKind.i64.wrap (k+1)),()) (out_,())) (.k (l,i,k,out_))) .d) .d) (.k (l,i,k,out_))
def zQ1 (x:zFA) (y:zpZ):Wy zFA zpZ zFx:=zvC x.1 x.2.2.1 x.2.2.2.1 y.1
def zP7 (n:Nat) (l:yE) (i:Int) (k:Int) (out_:yE):Bool×zFx:=zF (zQ1) default n (l,(),i,k,()) (out_,())
def zvf (l:yE) (i:Int) (out_:yE):Wy zFE zpZ (yE):=.i (decide (i<Int.ofNat l.length)) (.i (decide (0≤i)&&decide (i<Int.ofNat l.length)) (.i (Int.ofNat (l.getD i.toNat default).Ann.length==0) (.h (l,(),(IntKind.i64.wrap (i+1)),()) (out_,())) (.bn (zP7 (l.length+i.toNat +Int.toNat 0+out_.length+1) l i 0 out_) fun r2=>.i (decide ((0:Int)≤(0:Int))&&decide (0≤r2.2.2.1)&&decide (r2.2.2.1≤Int.ofNat r2.2.2.2.length)) (.i (decide ((0+(List.take (r2.2.2.1.toNat - Int.toNat 0) (List.drop (Int.toNat 0) r2.2.2.2)).length)*56≤reach)) (.i (decide (0≤r2.2.1)&&decide (r2.2.1<Int.ofNat r2.1.length)) (.i (decide ((([]++List.take (r2.2.2.1.toNat - Int.toNat 0) (List.drop (Int.toNat 0) r2.2.2.2)).length+[r2.1.getD r2.2.1.toNat default].length)*56≤reach)) (.i (decide (0≤r2.2.2.1)&&decide (r2.2.2.1≤Int.ofNat r2.2.2.2.length)&&decide (Int.ofNat r2.2.2.2.length≤Int.ofNat r2.2.2.2.length)) (.i (decide ((([]++List.take (r2.2.2.1.toNat - Int.toNat 0) (List.drop (Int.toNat 0) r2.2.2.2)++[r2.1.getD r2.2.1.toNat default]).length+(List.take ((Int.ofNat r2.2.2.2.length).toNat - r2.2.2.1.toNat) (List.drop r2.2.2.1.toNat r2.2.2.2)).length)*56≤reach)) (.h ((r2.1),(),(IntKind.i64.wrap (r2.2.1+1)),()) (([]++List.take (r2.2.2.1.toNat - Int.toNat 0) (List.drop (Int.toNat 0) r2.2.2.2)++[r2.1.getD r2.2.1.toNat default]++List.take ((Int.ofNat r2.2.2.2.length).toNat - r2.2.2.1.toNat) (List.drop r2.2.2.1.toNat r2.2.2.2)),())) .d) .d) .d) .d) .d) .d)) .d) (.k out_)
def zPr (x:zFE) (y:zpZ):Wy zFE zpZ (yE):=zvf x.1 x.2.2.1 y.1
def zQc (n:Nat) (l:yE) (i:Int) (out_:yE):Bool×yE:=zF (zPr) default n (l,(),i,()) (out_,())
def zTc (l:yE):Wy0 (yE):=.bn (zQc (l.length+Int.toNat 0+0+1) l 0 []) fun r4=>.k r4
def zN9 (l:yE):Bool×yE:=(zTc l).fin default
def zNZ (op:Int) (sign:Int):Wy0 (Bool):=.i (op==5) (.k (sign==0)) (.i (op==6) (.k (sign != 0)) (.i (op==7) (.k (decide (sign<0))) (.i (op==8) (.k (decide (sign≤0))) (.i (op==9) (.k (decide (sign>0))) (.i (op==10) (.k (decide (sign≥0))) (.k false))))))
def zIc (op:Int) (sign:Int):Bool×Bool:=(zNZ op sign).fin default
abbrev zIt:=Int×yE×Int×Unit×Int×Unit
abbrev zIF:=Int⊕(Int×yE×Int×Value)
def zxU (fn:Int) (items:yE) (op:Int) (i:Int) (bound:Value):Wy zIt (Value×Unit) zIF:=.i (decide (i<Int.ofNat items.length)) (.i (decide (0≤i)&&decide (i<Int.ofNat items.length)) (.bn (zeP (items.getD i.toNat default).Ann) fun r0=>.i (!r0) (.k (.inl 1)) (.h (fn,items,op,(),(IntKind.i64.wrap (i+1)),()) (bound,()))) .d) (.k (.inr (fn,items,op,bound)))
def zS9 (x:zIt) (y:Value×Unit):Wy zIt (Value×Unit) zIF:=zxU x.1 x.2.1 x.2.2.1 x.2.2.2.2.1 y.1
def zTt (n:Nat) (fn:Int) (items:yE) (op:Int) (i:Int) (bound:Value):Bool×zIF:=zF (zS9) (.inl default) n (fn,items,op,(),i,()) (bound,())
def zVm (fn:Int) (items:yE) (op:Int) (bound:Value):Wy0 (yC×Int):=.bn (zyf fn items op bound) fun r7=>.i (!r7) (.k ([],1)) (.bn (zTt (fn.toNat +items.length+op.toNat +Int.toNat 0+1) fn items op 0 bound) fun r6=>.i (isL r6) (.k ([],getL r6)) (.bn (zN9 (getR r6).2.1) fun r5=>.i (Int.ofNat r5.length==0) (.i ((getR r6).1==0) (.bn (zcL 0 (getR r6).2.2.2.Int) fun r3=>.bn (zIc (getR r6).2.2.1 r3) fun r2=>.i (r2) (.k (zGS.2,0)) (.k ([],0))) (.k ([],0))) (.bn (znh (zm4 (Atom.mk 4 (RowID.mk 0 0) [] (getR r6).1 r5 (getR r6).2.2.1 (getR r6).2.2.2)).2) fun r4=>.k (r4.1,r4.2))))
def zJ2 (fn:Int) (items:yE) (op:Int) (bound:Value):Bool×(yC×Int):=(zVm fn items op bound).fin default
section
variable {α β ρ τ:Type} [Inhabited τ]
theorem zXl (p:τ→Bool):∀ l:List τ,l.take (l.takeWhile p).length=l.takeWhile p
 | []=>rfl
 | x::r=>by
  rw [List.takeWhile_cons];cases p x with
  | true=>simp [zXl p r]
  | false=>simp
theorem zXv (p:τ→Bool):∀ l:List τ,l.drop (l.takeWhile p).length=l.dropWhile p
 | []=>rfl
 | x::r=>by
  rw [List.takeWhile_cons,List.dropWhile_cons];cases p x with
  | true=>simp [zXv p r]
  | false=>simp
theorem zbf4 (p:τ→Bool) (l:List τ):(l.takeWhile p).length≤l.length:=(List.takeWhile_prefix p).length_le
theorem z4S {W:α→β→Wy α β ρ} {z:ρ} (l:List τ) (p:τ→Bool) (ex:Nat→α) (ey:Nat→β) (res:Nat→ρ)
  (h:∀ i,i<l.length→∀ (H:α→β→Bool×ρ) K D,(W (ex i) (ey i)).ev H K D=bif p (l.getD i default) then H (ex (i+1)) (ey (i+1)) else K (res i))
  (he:∀ (H:α→β→Bool×ρ) K D,(W (ex l.length) (ey l.length)).ev H K D=K (res l.length)):
  ∀ n i,l.length<i+n→i≤l.length→zF W z n (ex i) (ey i)=(true,res (i+((l.drop i).takeWhile p).length))
 | 0,i,h1,h2=>by omega
 | n+1,i,h1,h2=>by
  show (W (ex i) (ey i)).ev (zF W z n) (fun r=>(true,r)) (false,z)=_
  by_cases hi:i<l.length
  ·rw [h i hi,zbs hi,List.takeWhile_cons];cases hp:p (l.getD i default) with
   | false=>simp
   | true=>
    rw [cond_true,z4S l p ex ey res h he n (i+1) (by omega) (by omega)]
    simp only [if_true,qf];congr 2; omega
  ·have:i=l.length:=by omega
   subst this;rw [he,zcs hi]; rfl
theorem zRy {W:α→β→Wy α β ρ} {z:ρ} (l:List τ) (p:τ→Bool) (ex:Nat→α) (ey:Nat→β) (res:Nat→ρ)
  (h:∀ i,i<l.length→∀ (H:α→β→Bool×ρ) K D,(W (ex i) (ey i)).ev H K D=bif p (l.getD i default) then H (ex (i+1)) (ey (i+1)) else K (res i))
  (he:∀ (H:α→β→Bool×ρ) K D,(W (ex l.length) (ey l.length)).ev H K D=K (res l.length)) (n:Nat) (hn:l.length<n):
  zF W z n (ex 0) (ey 0)=(true,res (l.takeWhile p).length):=by
 have:=z4S (z:=z) l p ex ey res h he n 0 (by omega) (by omega)
 simpa using this
def rins (p:τ→Bool) (x:τ) (l:List τ):List τ:=l.takeWhile p++x::l.dropWhile p
theorem z4U (p:τ→Bool) (x y:τ) (r:List τ):rins p x (y::r)=bif p y then y::rins p x r else x::y::r:=by
 unfold rins;rw [List.takeWhile_cons,List.dropWhile_cons];cases p y <;>simp
theorem zG3 (p:τ→Bool) (x:τ):∀ l:List τ,(rins p x l).Perm (x::l)
 | []=>.refl _
 | y::r=>by
  rw [z4U];cases p y
  ·exact .refl _
  ·exact ((zG3 p x r).cons y).trans (.swap x y r)
abbrev Srt (key:τ→TT) (l:List τ):Prop:=l.Pairwise fun x y=>cmpT (key x) (key y)≤0
theorem z7i (key:τ→TT) (x:τ):∀ l:List τ,Srt key l→Srt key (rins (fun y=>decide (cmpT (key y) (key x)≤0)) x l)
 | [],_=>by simp [rins]
 | y::r,h=>by
  have h:=qi.1 h;rw [z4U];by_cases hp:cmpT (key y) (key x)≤0
  ·rw [decide_eq_true hp];refine qi.2 ⟨fun z hz=> ?_,z7i key x r h.2⟩
   rcases qd.1 ((zG3 _ x r).mem_iff.1 hz) with rfl | hz
   ·exact hp
   ·exact h.1 z hz
  ·rw [decide_eq_false hp];have hxy:cmpT (key x) (key y)≤0:=by have:=zgG (key x) (key y); omega
   refine qi.2 ⟨fun z hz=> ?_,qi.2 h⟩
   rcases qd.1 hz with rfl | hz
   ·exact hxy
   ·exact zwO _ _ _ hxy (h.1 z hz)
end
theorem z4N {τ:Type} (l:List τ) (k:Nat):List.take (k - Int.toNat 0) (List.drop (Int.toNat 0) l)=l.take k:=by simp
theorem zCY {τ:Type} (l:List τ) (k:Nat):List.take ((Int.ofNat l.length).toNat - k) (List.drop k l)=l.drop k:=by
 simp only [Int.ofNat_eq_natCast,Int.toNat_natCast];rw [List.take_of_length_le (by simp)]
theorem z67 (n:Nat):(n==0)= !decide (0<n):=by cases n <;>simp
def hasA (w:Weighted):Bool:=decide (0<w.Ann.length)
def zd5 (l:yE):yE:=ziu zbd (l.filter hasA)
theorem zL7 {d:Nat} {l:yE} (hl:l.length≤1000000) (h:∀ w∈l,zo d w.Ann) (hd:d≤99):SortOK zbd l:=by
 have e:∀ x∈l,∀ y,zbd x y=(true,cmpT (zbc x) (zbc y)):=fun x hx y=>zjS (h x hx) hd y
 refine ⟨by omega,fun x hx y _=>by rw [e x hx],fun x hx=> ?_,fun x hx y hy z hz h1 h2=> ?_,fun x hx y hy z hz h1 h2=> ?_,fun x hx y hy h1 h2=> ?_⟩
 ·rw [e x hx,zCP]; omega
 ·rw [e x hx] at h1 ⊢; rw [e y hy] at h2;have h3:=zwO _ _ _ (show cmpT (zbc x) (zbc y)≤0 by simp only at h1; omega) (show cmpT (zbc y) (zbc z)≤0 by simp only at h2; omega)
  simp only at h1 h2 ⊢;by_cases e0:cmpT (zbc x) (zbc z)=0
  ·have:=ztd _ _ e0;rw [← this,zgG (zbc x) (zbc y)] at h2;omega
  ·omega
 ·rw [e x hx] at h1 ⊢; rw [e y hy] at h2;simp only at h1 h2 ⊢;have a1:=zgG (zbc x) (zbc y);have a2:=zgG (zbc y) (zbc z);have a3:=zgG (zbc x) (zbc z);have:=zwO (zbc z) (zbc y) (zbc x) (by omega) (by omega)
  omega
 ·rw [e x hx] at h1; rw [e y hy] at h2;simp only at h1 h2;have a1:=zgG (zbc x) (zbc y);exact z2T _ _ (ztd _ _ (by omega))
theorem zbek {d:Nat} (l:yE) (hl:l.length≤1000000) (h:∀ w∈l,zo d w.Ann) (hd:d≤99) (n:Nat) (hn:l.length<n):zE0 n l l.length 0 []=(true,l.filter hasA):=by
 have hreach:reach=70368744177664:=rfl;have hfl:∀ i,(List.filter hasA (l.take i)).length≤1000000:=fun i=>Nat.le_trans (List.length_filter_le _ _) (Nat.le_trans (by simp; omega) hl)
 have:=zeh (W:=zyy) (z:=default) l.length (fun i=>((),l,(l.length:Int),(i:Int),())) (fun i=>((l.take i).filter hasA,())) (fun _=>true) default (l.filter hasA)
  (fun i hi H K D=>by
   show (zmt l l.length i ((l.take i).filter hasA)).ev H K D=_;unfold zmt;have hb2:decide (((List.filter hasA (l.take i)).length+1)*56≤reach)=true:=by have:=hfl i; simp only [qe]; omega
   have hgt:decide (((l.getD i default).Ann.length:Int)>0)=hasA (l.getD i default):=zqF _ 0;simp only [Wy.ev_i,Wy.ev_k,Wy.ev_h,Wy.ev_bn,Wy.ev_d,tT,hi,zG7 (h _ (zt hi)) (by omega:d≤100),hgt,List.length_singleton,hb2]
   rw [zQ (by omega),zkm hi,List.filter_append,List.filter_cons]
   cases hasA (l.getD i default) with
   | true=>simp
   | false=>simp)
  (fun H K D=>by
   show (zmt l l.length l.length ((l.take l.length).filter hasA)).ev H K D=_;unfold zmt;simp only [Wy.ev_i,Wy.ev_k,tT,Nat.lt_irrefl,List.take_length]) n hn
 rw [show allN (fun _=>true) l.length 0=true from zeu.2 fun _ _ _=>rfl] at this
 exact this
theorem zbcX {d:Nat} (l:yE) (hl:l.length≤1000000) (h:∀ w∈l,zo d w.Ann) (hd:d≤99) (h20:(l.filter hasA).length<20):zqX l=(true,zd5 l):=by
 unfold zqX zGv zbl zd5;have:=zbek l hl h hd (l.length+(Int.ofNat l.length).toNat +Int.toNat (0:Int)+(0:Nat)+(1:Nat)) (by omega)
 rw [show Int.ofNat l.length=(l.length:Int) from rfl] at *
 have ok:SortOK zbd (l.filter hasA):=zL7 (d:=d) (by omega) (fun w hw=>h w (List.mem_filter.1 hw).1) hd
 rw [Wy.fin_bn,this];simp only [Wy.fin_bn,Wy.fin_k,cond_true,decide_eq_true ok,decide_eq_true h20,Bool.and_self]
def zzc (w:Weighted) (out:yE):yE:=bif hasA w then rins (fun y=>decide (cmpT (zbc y) (zbc w)≤0)) w out else out
theorem zbc1 {d:Nat} (l:yE) (i:Nat) (hi:i<l.length) (hl:l.length≤1000000) (out:yE) (ho:out.length≤1000000) (h:∀ w∈out,zo d w.Ann) (hd:d≤99) (n:Nat) (hn:out.length<n):
  zP7 n l i 0 out=(true,(l,(i:Int),(((out.takeWhile fun y=>decide (cmpT (zbc y) (zbc (l.getD i default))≤0)).length:Nat):Int),out)):=by
 exact zRy (W:=zQ1) (z:=default) out (fun y=>decide (cmpT (zbc y) (zbc (l.getD i default))≤0)) (fun k=>(l,(),(i:Int),(k:Int),())) (fun _=>(out,())) (fun k=>(l,(i:Int),(k:Int),out))
  (fun k hk H K D=>by
   show (zvC l i k out).ev H K D=_;unfold zvC;have e1:(decide ((k:Int)≤((k+1:Nat):Int))&&decide (((k+1:Nat):Int)≤Int.ofNat out.length))=true:=by simp; try omega
   have e2:(decide ((i:Int)≤((i+1:Nat):Int))&&decide (((i+1:Nat):Int)≤Int.ofNat l.length))=true:=by simp; try omega
   have e3:decide ((k:Int)<Int.ofNat out.length)=true:=by simp [hk]
   simp only [Wy.ev_i,Wy.ev_k,Wy.ev_h,Wy.ev_bn,Wy.ev_d,zQ (show k<4611686018427387904 by omega),zQ (show i<4611686018427387904 by omega),e1,e2,e3,ze8,Bool.true_and,cond_true,Int.toNat_natCast,show k+1 - k=1 by omega,show i+1 - i=1 by omega,z6F _ _ hi,z6F _ _ hk]
   rw [zC3 (d:=d) (by simp) (fun w hw=>by
    rw [qh] at hw; subst hw; exact h _ (zt hk)) hd,zmX,zmX]
   simp only [List.map,zbdB,cond_true])
  (fun H K D=>by
   show (zvC l i out.length out).ev H K D=_;unfold zvC;have e3:decide ((out.length:Int)<Int.ofNat out.length)=false:=by simp
   simp only [Wy.ev_i,Wy.ev_k,e3,cond_false]) n hn
theorem zbbz (w:Weighted) (out:yE):(zzc w out).length≤out.length+1:=by
 unfold zzc;cases hasA w with
 | false=>simp
 | true=>simp only [cond_true]; rw [(zG3 _ w out).length_eq]; simp
theorem zbbc {w y:Weighted} {out:yE} (h:y∈zzc w out):y=w∨y∈out:=by
 unfold zzc at h;cases hb:hasA w with
 | false=>rw [hb] at h; exact .inr h
 | true=>rw [hb] at h; exact qd.1 ((zG3 _ w out).mem_iff.1 h)
theorem zbcu {d:Nat} (l:yE) (hl:l.length≤1000000) (h:∀ w∈l,zo d w.Ann) (hd:d≤99) (n:Nat) (hn:l.length<n):zQc n l 0 []=(true,l.foldl (fun out w=>zzc w out) []):=by
 have hreach:reach=70368744177664:=rfl
 have:=zc3 (W:=zPr) (z:=default) (l:=l) (fun i (out:yE)=>(l,(),(i:Int),())) (fun _ out=>(out,())) (fun w out=>.inl (zzc w out)) (fun out=>out) (fun i out=>out.length≤i∧∀ w∈out,zo d w.Ann)
  (fun i out hi hI=>.inl ⟨_,rfl,⟨by have:=zbbz (l.getD i default) out; omega,fun w hw=>by
    rcases zbbc hw with rfl | hw
    ·exact h _ (zt hi)
    ·exact hI.2 w hw⟩,fun H K D=>by
   show (zvf l i out).ev H K D=_;unfold zvf;have e0:((l.getD i default).Ann.length==0)= !hasA (l.getD i default):=z67 _;have e3:decide ((i:Int)<Int.ofNat l.length)=true:=by simp [hi]
   simp only [Wy.ev_i,Wy.ev_k,Wy.ev_h,Wy.ev_bn,Wy.ev_d,e3,ze8,Bool.and_self,cond_true,Int.toNat_natCast,show (Int.ofNat (l.getD i default).Ann.length==(0:Int))=((l.getD i default).Ann.length==0) from zxa _ 0,e0]
   rw [zbc1 l i hi hl out (by omega) hI.2 hd _ (by omega)]
   simp only [cond_true,z4N,zCY,List.nil_append,Int.toNat_natCast,e3,ze8,Bool.and_self,Int.le_refl,decide_true,Bool.true_and,Bool.and_true];have q1:=zbf4 (fun y=>decide (cmpT (zbc y) (zbc (l.getD i default))≤0)) out
   have q2:decide (((out.takeWhile fun y=>decide (cmpT (zbc y) (zbc (l.getD i default))≤0)).length:Int)≤Int.ofNat out.length)=true:=by simp only [qe,Int.ofNat_eq_natCast]; omega
   have hb1:decide ((0+(out.take (out.takeWhile fun y=>decide (cmpT (zbc y) (zbc (l.getD i default))≤0)).length).length)*56≤reach)=true:=by simp only [qe,List.length_take]; omega
   have hb2:decide (((out.take (out.takeWhile fun y=>decide (cmpT (zbc y) (zbc (l.getD i default))≤0)).length).length+[l.getD i default].length)*56≤reach)=true:=by simp only [qe,List.length_take,List.length_singleton]; omega
   have hb3:decide (((out.take (out.takeWhile fun y=>decide (cmpT (zbc y) (zbc (l.getD i default))≤0)).length++[l.getD i default]).length+(out.drop (out.takeWhile fun y=>decide (cmpT (zbc y) (zbc (l.getD i default))≤0)).length).length)*56≤reach)=true:=by simp only [qe,qg,List.length_take,List.length_singleton,List.length_drop]; omega
   simp only [q2,hb1,hb2,hb3,cond_true];rw [zQ (by omega),zXl,zXv]
   unfold zzc rins;cases hasA (l.getD i default) <;>simp⟩)
  (fun out hI H K D=>by
   show (zvf l l.length out).ev H K D=_;unfold zvf;have e3:decide ((l.length:Int)<Int.ofNat l.length)=false:=by simp
   simp only [Wy.ev_i,Wy.ev_k,e3,cond_false]) n 0 [] (by omega) (by omega) ⟨by simp,fun w hw=>by cases hw⟩
 rw [List.drop_zero,zc4] at this;exact this
theorem z2z:∀ (l out:yE),(l.foldl (fun out w=>zzc w out) out).Perm (l.filter hasA++out)∧(Srt zbc out→Srt zbc (l.foldl (fun out w=>zzc w out) out))
 | [],out=>⟨.refl _,fun h=>h⟩
 | w::r,out=>by
  obtain ⟨h1,h2⟩:=z2z r (zzc w out);rw [List.foldl_cons,List.filter_cons];cases hb:hasA w with
  | false=>
   have e:zzc w out=out:=by unfold zzc; rw [hb]; rfl
   rw [e] at h1 h2 ⊢;exact ⟨by simpa using h1,h2⟩
  | true=>
   have e:zzc w out=rins (fun y=>decide (cmpT (zbc y) (zbc w)≤0)) w out:=by unfold zzc; rw [hb]; rfl
   rw [e] at h1 h2 ⊢;refine ⟨?_,fun h=>h2 (z7i zbc w out h)⟩
   simp only [if_true,List.cons_append];exact h1.trans (((zG3 _ w out).append_left _).trans List.perm_middle)
theorem zbbY {d:Nat} (l:yE) (hl:l.length≤1000000) (h:∀ w∈l,zo d w.Ann) (hd:d≤99):zN9 l=(true,zd5 l):=by
 unfold zN9 zTc;rw [Wy.fin_bn,zbcu l hl h hd _ (by omega)]
 simp only [cond_true,Wy.fin_k];congr 1;obtain ⟨h1,h2⟩:=z2z l [];rw [List.append_nil] at h1;have hm:∀ w∈l.filter hasA,zo d w.Ann:=fun w hw=>h w (List.mem_filter.1 hw).1
 refine (zL7 (d:=d) (Nat.le_trans (List.length_filter_le _ _) hl) hm hd).unique h1 ?_;refine (h2 .nil).imp_of_mem fun {x y} hx hy hxy=> ?_
 rw [zjS (hm y (h1.mem_iff.1 hy)) hd,zgG (zbc x) (zbc y)];simp only; omega
def mats (op sign:Int):Bool:=bif op==5 then sign==0 else bif op==6 then sign != 0 else bif op==7 then decide (sign<0) else bif op==8 then decide (sign≤0) else bif op==9 then decide (sign>0) else decide (sign≥0)
theorem zbcZ (op sign:Int):zrl op sign=(true,mats op sign):=by
 unfold zrl zGH mats;simp only [Wy.fin_i,Wy.fin_k];cases op==5 <;>cases op==6 <;>cases op==7 <;>cases op==8 <;>cases op==9 <;>rfl
theorem zbaw {op sign:Int} (h1:5≤op) (h2:op≤10):zIc op sign=(true,mats op sign):=by
 unfold zIc zNZ mats;simp only [Wy.fin_i,Wy.fin_k,beqd];by_cases a1:op=5
 ·simp [a1]
 by_cases a2:op=6
 ·simp [a2]
 by_cases a3:op=7
 ·simp [a3]
 by_cases a4:op=8
 ·simp [a4]
 by_cases a5:op=9
 ·simp [a5]
 have a6:op=10:=by omega
 simp [a6]
def tstA (fn:Int) (l:yE) (op:Int) (b:Value):Atom:=⟨4,⟨0,0⟩,[],fn,l,op,b⟩
def zyR (fn:Int) (items:yE) (op:Int) (b:Value):yC×Int:=
 bif !(fitK fn items op b&&items.all fun w=>zC w.Ann) then ([],1) else
 bif decide (0<(zd5 items).length) then fitR (oneA (tstA fn (zd5 items) op b)) else
 bif fn==0&&mats op (cmpI 0 b.Int) then ([⟨1,[]⟩],0) else ([],0)
theorem zJ4 {l:yE} {w:Weighted} (h:w∈zd5 l):w∈l∧w.Ann≠[]:=by
 have:=(zlx _ _).mem_iff.1 h;obtain ⟨h1,h2⟩:=List.mem_filter.1 this;refine ⟨h1,fun e=> ?_⟩
 rw [hasA,e] at h2; simp at h2
theorem z1s (l:yE):(zd5 l).length=(l.filter hasA).length:=(zlx _ _).length_eq
theorem zWm {B:Nat}:∀ l:yE,(∀ w∈l,zM w.Ann≤B)→zdn l≤l.length*(B+1)
 | [],_=>by rw [zfE]; simp
 | w::r,h=>by
  rw [zh6,qf];have h1:=h w (by simp)
  have h2:=zWm r fun w hw=>h w (by simp [hw])
  rw [Nat.add_mul]; omega
theorem zLM {fn:Int} {l:yE} {op:Int} {b:Value} (hl:l.length≤1000000) (hf:fitK fn l op b=true) (hv:(l.all fun w=>zC w.Ann)=true):zo 10 (oneA (tstA fn (zd5 l) op b))∧zM (oneA (tstA fn (zd5 l) op b))≤4611686018427387904:=by
 obtain ⟨_,hb,hit⟩:=ztj hf;have hvv:∀ w∈l,zC w.Ann=true:=fun w hw=>List.all_eq_true.1 hv w hw
 have hlen:(zd5 l).length≤1000000:=by rw [z1s]; exact Nat.le_trans (List.length_filter_le _ _) hl
 constructor
 ·refine zNN ⟨⟨by simp [tstA],hlen,by have:=zwt hb; simp only [tstA]; omega⟩,fun y hy=>(by cases hy),fun w hw=> ?_⟩
  have hm:=(zJ4 hw).1;exact ⟨by have:=zwt (hit w hm).1; omega,(ze2 (hvv w hm)).1⟩
 ·rw [z03,zg9];have h1:zdn (zd5 l)≤(zd5 l).length*(4096+1):=zWm _ fun w hw=>(ze2 (hvv w (zJ4 hw).1)).2.1
  show 2+(ze9 []+zdn (zd5 l))≤_;rw [zgA];have:=Nat.mul_le_mul hlen (Nat.le_refl (4096+1));omega
theorem zbd0 {d:Nat} (l:yE) (hl:l.length≤1000000) (h:∀ w∈l,zo d w.Ann∧zM w.Ann≤4611686018427387904) (hd:d≤99):zb6 l=(true, !l.all fun w=>zC w.Ann):=by
 unfold zb6 zgI;have:zdv l=IG (fun (_:Unit) x=>znD x) (l.length+(Int.ofNat l.length).toNat +Int.toNat (0:Int)+(1:Nat)) () l:=rfl
 rw [zh3 (P:=fun w=> !zC w.Ann) (this.trans (zDT _ _ _ _ _ (by omega) (fun x hx=>by
  unfold znD zDy;rw [Wy.fin_bn,zNt (h x hx).1 (by omega) (h x hx).2]; rfl) (by omega)))]
 simp [List.all_eq_not_any_not]
theorem zbdH {d:Nat} (fn:Int) (l:yE) (op:Int) (b:Value) (hl:l.length≤1000000) (h:∀ w∈l,zo d w.Ann∧zM w.Ann≤4611686018427387904) (hd:d≤99) (h20:(l.filter hasA).length<20):
  znV fn l op b=(true,zyR fn l op b):=by
 unfold znV zIP zyR;have hI:=zbcX l hl (fun w hw=>(h w hw).1) hd h20
 have hgt:decide (Int.ofNat (zd5 l).length>0)=decide (0<(zd5 l).length):=zqF _ 0;simp only [Wy.fin_bn,Wy.fin_i,Wy.fin_k,z1E fn l op b hl,zbd0 l hl h hd,hI,cond_true,hgt];cases hf:fitK fn l op b with
 | false=>rfl
 | true=>
  cases hv:l.all fun w=>zC w.Ann with
  | false=>rfl
  | true=>
   simp only [Bool.not_true,cond_false,Bool.and_self];rw [zGL];have hx:(⟨4,⟨0,0⟩,[],fn,zd5 l,op,b⟩:Atom)=tstA fn (zd5 l) op b:=rfl;rw [hx,zAW (zLM hl hf hv).1 (by omega) (zLM hl hf hv).2]
   cases decide (0<(zd5 l).length) with
   | true=>rfl
   | false=>
    simp only [cond_false,zwN,zbcZ,cond_true];cases fn==0 with
    | false=>rfl
    | true=>
     cases mats op (cmpI 0 b.Int) <;>rfl
theorem zbc8 {d:Nat} (fn:Int) (l:yE) (op:Int) (b:Value) (hl:l.length≤1000000) (h:∀ w∈l,zo d w.Ann∧zM w.Ann≤4611686018427387904) (hd:d≤99):
  zJ2 fn l op b=(true,zyR fn l op b):=by
 unfold zJ2 zVm zyR;have hI:=zbbY l hl (fun w hw=>(h w hw).1) hd
 have hgt:decide (0<(zd5 l).length)= !((zd5 l).length==0):=by rw [z67,Bool.not_not]
 have hL:zTt (fn.toNat +l.length+op.toNat +Int.toNat (0:Int)+(1:Nat)) fn l op (0:Int) b=(true,bif l.all fun w=>zC w.Ann then .inr (fn,l,op,b) else .inl 1):=by
  have:=zeh (W:=zS9) (z:=.inl default) l.length (fun i=>(fn,l,op,(),(i:Int),())) (fun _=>(b,())) (fun i=>(fun w:Weighted=>zC w.Ann) (l.getD i default)) (.inl 1) (.inr (fn,l,op,b))
   (fun i hi H K D=>by
    show (zxU fn l op i b).ev H K D=_;unfold zxU;have hx:=h _ (zt hi);simp only [Wy.ev_i,Wy.ev_k,Wy.ev_h,Wy.ev_bn,Wy.ev_d,tT,hi,z2R hx.1 (by omega) hx.2]
    rw [zQ (by omega)]
    cases zC (l.getD i default).Ann <;>rfl)
   (fun H K D=>by
    show (zxU fn l op l.length b).ev H K D=_;unfold zxU;simp only [Wy.ev_i,Wy.ev_k,tT,Nat.lt_irrefl]) (fn.toNat +l.length+op.toNat +Int.toNat (0:Int)+(1:Nat)) (by omega)
  rw [zz0 (fun w:Weighted=>zC w.Ann)] at this
  exact this
 simp only [Wy.fin_bn,Wy.fin_i,Wy.fin_k,z7k fn l op b hl,hL,cond_true,hgt];cases hf:fitK fn l op b with
 | false=>rfl
 | true=>
  cases hv:l.all fun w=>zC w.Ann with
  | false=>rfl
  | true=>
   simp only [Bool.not_true,cond_false,cond_true,Bool.and_self,isL,getR,hI];rw [show (Int.ofNat (zd5 l).length==(0:Int))=((zd5 l).length==0) from zxa _ 0,zQ7]
   have hx:(⟨4,⟨0,0⟩,[],fn,zd5 l,op,b⟩:Atom)=tstA fn (zd5 l) op b:=rfl;rw [hx,zPG (zLM hl hf hv).1 (by omega) (zLM hl hf hv).2]
   cases ((zd5 l).length==0) with
   | false=>rfl
   | true=>
    obtain ⟨⟨_,_,o1,o2⟩,_⟩:=ztj hf;simp only [cond_false,Bool.not_true,znY,zbaw o1 o2,cond_true];cases fn==0 with
    | false=>rfl
    | true=>
     cases mats op (cmpI 0 b.Int) <;>rfl
def zZJ (a:yC) (b:yC):Wy0 (yC×Int):=.bn (zeP a) fun r3=>.i (!r3) (.k ([],1)) (.bn (zeP b) fun r2=>.i (!r2) (.k ([],1)) (.bn (zoc a b) fun r1=>.bn (znh r1) fun r0=>.k (r0.1,r0.2)))
def zVy (a:yC) (b:yC):Bool×(yC×Int):=(zZJ a b).fin default
def zZQ (a:yC) (b:yC):Wy0 (yC×Int):=.bn (zeP a) fun r3=>.i (!r3) (.k ([],1)) (.bn (zeP b) fun r2=>.i (!r2) (.k ([],1)) (.bn (zCD a b) fun r1=>.bn (znh r1) fun r0=>.k (r0.1,r0.2)))
def zWR (a:yC) (b:yC):Bool×(yC×Int):=(zZQ a b).fin default
def insT (t:Term):yC→yC
 | []=>[t]
 | x::r=>if cT x t=0 then ⟨zy0 x.Coeff t.Coeff,t.Factors⟩::r else t::x::r
def insF (f:Factor):yD→yD
 | []=>[f]
 | x::r=>if cF x f=0 then (if f.Atom.Kind<3 then ⟨f.Atom,x.Exp+f.Exp⟩ else f)::r else f::x::r
theorem zbeH {t:Term} {l:yC} {k:Nat} (hk:k<l.length):insT t (l.drop k)=if cT (l.getD k default) t=0 then ⟨zy0 (l.getD k default).Coeff t.Coeff,t.Factors⟩::l.drop (k+1) else t::l.drop k:=by
 rw [zbs hk]; rfl
theorem zbeJ {f:Factor} {l:yD} {k:Nat} (hk:k<l.length):insF f (l.drop k)=if cF (l.getD k default) f=0 then (if f.Atom.Kind<3 then ⟨f.Atom,(l.getD k default).Exp+f.Exp⟩ else f)::l.drop (k+1) else f::l.drop k:=by
 rw [zbs hk]; rfl
theorem z9B (t:Term):∀ l:yC,putA t l=l.takeWhile (fun x=>decide (cT x t<0))++insT t (l.dropWhile (fun x=>decide (cT x t<0)))
 | []=>rfl
 | x::r=>by
  rw [List.takeWhile_cons,List.dropWhile_cons];unfold putA;by_cases h:cT x t<0
  ·simp only [h,if_true,decide_true,List.cons_append];rw [z9B t r]
  ·simp only [h,if_false,decide_false,Bool.false_eq_true,List.nil_append]; rfl
theorem z9n (f:Factor):∀ l:yD,facA f l=l.takeWhile (fun x=>decide (cF x f<0))++insF f (l.dropWhile (fun x=>decide (cF x f<0)))
 | []=>rfl
 | x::r=>by
  rw [List.takeWhile_cons,List.dropWhile_cons];unfold facA;by_cases h:cF x f<0
  ·simp only [h,if_true,decide_true,List.cons_append];rw [z9n f r]
  ·simp only [h,if_false,decide_false,Bool.false_eq_true,List.nil_append]; rfl
theorem z9f {a b:Int} (ha:0≤a∧a≤1152921504606846976) (hb:0≤b∧b≤1152921504606846976):IntKind.i64.wrap (a+b)=a+b:=zju (by omega) (by omega)
theorem zbbI {τ:Type} (l:List τ) (p:τ→Bool):(l.takeWhile p).length≤l.length:=(List.takeWhile_prefix p).length_le
theorem beq0 (z:Int):(z==0)=decide (z=0):=beqd z 0
theorem z9V {d:Nat} (l:yC) (t:Term) (hl:l.length≤1000000) (h:∀ x∈l,zcb (zo d) x.Factors) (hd:d≤99) (hc:∀ x∈l,cOK x) (ht:cOK t):zCE l t=(true,putA t l):=by
 have hreach:reach=70368744177664:=rfl;unfold zCE zZi
 have hL:=zRy (W:=zL8) (z:=default) l (fun x=>decide (cT x t<0)) (fun k=>(l,(),(k:Int),())) (fun _=>(t,())) (fun k=>(l,(k:Int),t))
  (fun k hk H K D=>by
   show (zAk l k t).ev H K D=_;unfold zAk;simp only [Wy.ev_i,Wy.ev_k,Wy.ev_h,Wy.ev_bn,Wy.ev_d,tT,hk,zss (h _ (zt hk)) hd];rw [zQ (by omega)]; rfl)
  (fun H K D=>by
   show (zAk l l.length t).ev H K D=_;unfold zAk;simp only [Wy.ev_i,Wy.ev_k,tT,Nat.lt_irrefl]) (l.length+Int.toNat (0:Int)+t.Factors.length+(1:Nat)) (by omega)
 have hL:zVw (l.length+Int.toNat (0:Int)+t.Factors.length+(1:Nat)) l 0 t=_:=hL;rw [hL,zXw,z9B];have q1:=zbbI l (fun x=>decide (cT x t<0))
 have q2:=zXl (fun x=>decide (cT x t<0)) l
 have q3:=zXv (fun x=>decide (cT x t<0)) l
 generalize (l.takeWhile fun x=>decide (cT x t<0)).length=k at q1 q2 q3 ⊢
 rw [← q2, ← q3];have g1:(decide ((0:Int)≤(0:Int))&&decide ((0:Int)≤(k:Int))&&decide ((k:Int)≤Int.ofNat l.length))=true:=by simp only [qc,qe,Int.ofNat_eq_natCast]; omega
 have g2:decide ((0+(l.take k).length)*32≤reach)=true:=by simp only [qe,List.length_take]; omega
 have g4:∀ m:Nat,decide (((l.take k).length+[(⟨0,[]⟩:Term)].length)*32≤reach)=true:=fun m=>by simp only [qe,List.length_take,List.length_singleton]; omega
 simp only [Wy.fin_i,Wy.fin_k,Wy.fin_bn,List.nil_append,Int.toNat_natCast,z4N,zCY,g1,g2,cond_true];by_cases hk:k<l.length
 ·have g3:decide ((k:Int)<Int.ofNat l.length)=true:=by simp [hk]
  have g5:(decide ((0:Int)≤(k:Int))&&decide ((k:Int)<Int.ofNat l.length))=true:=by rw [g3]; simp
  have hm:=zt hk;simp only [g3,ze8,Bool.and_self,cond_true,zss (h _ hm) hd];rw [beq0,zbeH hk];have gw:IntKind.i64.wrap ((k:Int)+1)=((k+1:Nat):Int):=zQ (by omega)
  have gp:(zwK (l.getD k default).Coeff t.Coeff).2=zy0 (l.getD k default).Coeff t.Coeff:=by
   unfold zwK zXf zy0;rw [Wy.fin_k,z9f ⟨by have:=(hc _ hm).1; omega,(hc _ hm).2⟩ ⟨by have:=ht.1; omega,ht.2⟩]
  have gk:(decide ((0:Int)≤(k:Int))&&decide ((k:Int)≤Int.ofNat l.length)&&decide (Int.ofNat l.length≤Int.ofNat l.length))=true:=by simp only [qc,qe,Int.ofNat_eq_natCast]; omega
  have gk':decide ((k:Int)≤Int.ofNat l.length)=true:=by simp only [qe,Int.ofNat_eq_natCast]; omega
  have gk1':decide (((k+1:Nat):Int)≤Int.ofNat l.length)=true:=by simp only [qe,Int.ofNat_eq_natCast]; omega
  have gk1:(decide ((0:Int)≤((k+1:Nat):Int))&&decide (((k+1:Nat):Int)≤Int.ofNat l.length)&&decide (Int.ofNat l.length≤Int.ofNat l.length))=true:=by simp only [qc,qe,Int.ofNat_eq_natCast]; omega
  have gb:∀ x:Term,decide (((l.take k).length+[x].length)*32≤reach)=true:=fun x=>by simp only [qe,List.length_take,List.length_singleton]; omega
  have gc:∀ (x:Term) (m:Nat),decide (((l.take k++[x]).length+(l.drop m).length)*32≤reach)=true:=fun x m=>by simp only [qe,List.length_take,List.length_drop,qg,List.length_singleton]; omega
  by_cases hz:cT (l.getD k default) t=0
  ·have hz':cmpL (zbz (l.getD k default).Factors) (zbz t.Factors)=0:=hz;simp only [hz,hz',if_true,decide_true,cond_true,gw,gp,ze8,Bool.true_and,gk1',Int.le_refl,decide_true,cond_true,Bool.and_self,gb,gc,Int.toNat_natCast,zCY,List.append_assoc,List.singleton_append]
  ·have hz':¬ cmpL (zbz (l.getD k default).Factors) (zbz t.Factors)=0:=hz;simp only [hz,hz',if_false,decide_false,cond_false,cond_true,ze8,Bool.true_and,gk',Int.le_refl,decide_true,cond_true,Bool.and_self,gb,gc,List.append_assoc,List.singleton_append]
 ·have hk':k=l.length:=by omega
  have g3:decide ((k:Int)<Int.ofNat l.length)=false:=by simp [hk]
  have gk:(decide ((0:Int)≤(k:Int))&&decide ((k:Int)≤Int.ofNat l.length)&&decide (Int.ofNat l.length≤Int.ofNat l.length))=true:=by simp only [qc,qe,Int.ofNat_eq_natCast]; omega
  have gb:∀ x:Term,decide (((l.take k).length+[x].length)*32≤reach)=true:=fun x=>by simp only [qe,List.length_take,List.length_singleton]; omega
  have gc:∀ (x:Term) (m:Nat),decide (((l.take k++[x]).length+(l.drop m).length)*32≤reach)=true:=fun x m=>by simp only [qe,List.length_take,List.length_drop,qg,List.length_singleton]; omega
  have gk':decide ((k:Int)≤Int.ofNat l.length)=true:=by simp only [qe,Int.ofNat_eq_natCast]; omega
  simp only [g3,ze8,Bool.true_and,gk',Int.le_refl,decide_true,Bool.and_self,gb,gc,cond_true,cond_false];rw [zcs hk];simp [insT,insF]
theorem zbeu {d:Nat} (l:yD) (f:Factor) (hl:l.length≤1000000) (h:∀ x∈l,zcV (zo d) x.Atom) (hd:d≤99) (hc:∀ x∈l,0≤x.Exp∧x.Exp≤1000000) (ht:0≤f.Exp∧f.Exp≤1000000):zzE l f=(true,facA f l):=by
 have hreach:reach=70368744177664:=rfl;unfold zzE zQk
 have hL:=zRy (W:=zEk) (z:=default) l (fun x=>decide (cF x f<0)) (fun k=>(l,(),(k:Int),())) (fun _=>(f,())) (fun k=>(l,(k:Int),f))
  (fun k hk H K D=>by
   show (ztV l k f).ev H K D=_;unfold ztV;simp only [Atom.eta,Wy.ev_i,Wy.ev_k,Wy.ev_h,Wy.ev_bn,Wy.ev_d,tT,hk,zpk (h _ (zt hk)) hd];rw [zQ (by omega)]; rfl)
  (fun H K D=>by
   show (ztV l l.length f).ev H K D=_;unfold ztV;simp only [Wy.ev_i,Wy.ev_k,tT,Nat.lt_irrefl]) (l.length+Int.toNat (0:Int)+f.Atom.Args.length+f.Atom.Items.length+(1:Nat)) (by omega)
 have hL:zNO (l.length+Int.toNat (0:Int)+f.Atom.Args.length+f.Atom.Items.length+(1:Nat)) l 0 f=_:=hL;rw [Atom.eta,show (FactorOf.mk f.Atom f.Exp:Factor)=f from rfl,hL,zXw,z9n]
 have q1:=zbbI l (fun x=>decide (cF x f<0))
 have q2:=zXl (fun x=>decide (cF x f<0)) l
 have q3:=zXv (fun x=>decide (cF x f<0)) l
 generalize (l.takeWhile fun x=>decide (cF x f<0)).length=k at q1 q2 q3 ⊢
 rw [← q2, ← q3];have g1:(decide ((0:Int)≤(0:Int))&&decide ((0:Int)≤(k:Int))&&decide ((k:Int)≤Int.ofNat l.length))=true:=by simp only [qc,qe,Int.ofNat_eq_natCast]; omega
 have g2:decide ((0+(l.take k).length)*128≤reach)=true:=by simp only [qe,List.length_take]; omega
 have gb:∀ x:Factor,decide (((l.take k).length+[x].length)*128≤reach)=true:=fun x=>by simp only [qe,List.length_take,List.length_singleton]; omega
 have gc:∀ (x:Factor) (m:Nat),decide (((l.take k++[x]).length+(l.drop m).length)*128≤reach)=true:=fun x m=>by simp only [qe,List.length_take,List.length_drop,qg,List.length_singleton]; omega
 have gk:(decide ((0:Int)≤(k:Int))&&decide ((k:Int)≤Int.ofNat l.length)&&decide (Int.ofNat l.length≤Int.ofNat l.length))=true:=by simp only [qc,qe,Int.ofNat_eq_natCast]; omega
 have ef:(FactorOf.mk f.Atom f.Exp:Factor)=f:=rfl;simp only [Atom.eta,ef,Wy.fin_i,Wy.fin_k,Wy.fin_bn,List.nil_append,Int.toNat_natCast,z4N,zCY,g1,g2,cond_true];by_cases hk:k<l.length
 ·have g3:decide ((k:Int)<Int.ofNat l.length)=true:=by simp [hk]
  have g5:(decide ((0:Int)≤(k:Int))&&decide ((k:Int)<Int.ofNat l.length))=true:=by rw [g3]; simp
  have hm:=zt hk;simp only [g3,ze8,Bool.and_self,cond_true,zpk (h _ hm) hd];rw [beq0,zbeJ hk];have gw:IntKind.i64.wrap ((k:Int)+1)=((k+1:Nat):Int):=zQ (by omega)
  have gp:IntKind.i64.wrap ((l.getD k default).Exp+f.Exp)=(l.getD k default).Exp+f.Exp:=by have:=hc _ hm; exact zju (by omega) (by omega)
  have gk':decide ((k:Int)≤Int.ofNat l.length)=true:=by simp only [qe,Int.ofNat_eq_natCast]; omega
  have gk1':decide (((k+1:Nat):Int)≤Int.ofNat l.length)=true:=by simp only [qe,Int.ofNat_eq_natCast]; omega
  have gk1:(decide ((0:Int)≤((k+1:Nat):Int))&&decide (((k+1:Nat):Int)≤Int.ofNat l.length)&&decide (Int.ofNat l.length≤Int.ofNat l.length))=true:=by simp only [qc,qe,Int.ofNat_eq_natCast]; omega
  by_cases hz:cF (l.getD k default) f=0
  ·have hz':cmpT (zdl (l.getD k default).Atom) (zdl f.Atom)=0:=hz;by_cases hk3:f.Atom.Kind<3
   ·simp only [hz,hz',hk3,if_true,decide_true,cond_true,gw,gp,ze8,Bool.true_and,gk1',Int.le_refl,decide_true,cond_true,Bool.and_self,gb,gc,Int.toNat_natCast,zCY,List.append_assoc,List.singleton_append]
   ·simp only [hz,hz',hk3,if_true,if_false,decide_true,decide_false,cond_true,cond_false,gw,gp,ze8,Bool.true_and,gk1',Int.le_refl,decide_true,cond_true,Bool.and_self,gb,gc,Int.toNat_natCast,zCY,List.append_assoc,List.singleton_append]
  ·have hz':¬ cmpT (zdl (l.getD k default).Atom) (zdl f.Atom)=0:=hz;simp only [hz,hz',if_false,decide_false,cond_false,cond_true,ze8,Bool.true_and,gk',Int.le_refl,decide_true,cond_true,Bool.and_self,gb,gc,List.append_assoc,List.singleton_append]
 ·have g3:decide ((k:Int)<Int.ofNat l.length)=false:=by simp [hk]
  have gk':decide ((k:Int)≤Int.ofNat l.length)=true:=by simp only [qe,Int.ofNat_eq_natCast]; omega
  simp only [g3,ze8,Bool.true_and,gk',Int.le_refl,decide_true,Bool.and_self,gb,gc,cond_true,cond_false];rw [zcs hk];simp [insT,insF]
theorem zbfl (n:Nat) (h:n≤4000000):zd7 (n:Int)=(true,[]):=by
 have hreach:reach=70368744177664:=rfl;unfold zd7 zmM;have e0:IntKind.i64.wrap ((0:Int) - 0)=0:=rfl;have e1:IntKind.i64.wrap ((n:Int) - 0)=(n:Int):=by rw [zju (by omega) (by omega)]; omega
 have e2:decide ((n:Int)<0)=false:=decide_eq_false (by omega)
 rw [Wy.fin_i,e2,cond_false,e0,e1];by_cases hn:(n:Int)>0
 ·have e3:(true&&(decide ((n:Int)*Int.ofNat (32:Nat)≤Int.ofNat reach)&&(decide ((n:Int)≤Int.ofNat reach)&& !Nat.beq (2:Nat) (0:Nat))))=true:=by
   simp only [qc,qe,Int.ofNat_eq_natCast];exact ⟨trivial,by rw [hreach]; omega,by rw [hreach]; omega,rfl⟩
  rw [Wy.fin_i,decide_eq_true hn,cond_true,Wy.fin_i,e3,cond_true,Wy.fin_k];simp
 ·rw [Wy.fin_i,decide_eq_false hn]; rfl
theorem zbci (ls:yA) (hn:ls.length≤10) (h:∀ l∈ls,l.length≤300000):zdM ls=(true,ls.flatten):=by
 have hreach:reach=70368744177664:=rfl;unfold zdM zlP;have e:∀ l:yC,l∈ls→l.length≤300000:=h
 have h1:=zc3 (W:=zf7) (z:=default) (l:=ls) (fun i (n:Nat)=>(ls,(n:Int),ls,(ls.length:Int),(i:Int),())) (fun _ _=>()) (fun y n=>.inl (n+y.length)) (fun n=>(ls,(n:Int))) (fun i n=>n≤i*300000)
  (fun i n hi hI=>.inl ⟨_,rfl,by have:=e _ (zt hi); omega,fun H K D=>by
   show (zdi ls n ls ls.length i).ev H K D=_;unfold zdi;have hle:=e _ (zt hi);have hw:IntKind.i64.wrap ((n:Int)+((ls.getD i default).length:Int))=((n+(ls.getD i default).length:Nat):Int):=zoa (by omega)
   simp only [Wy.ev_i,Wy.ev_k,Wy.ev_h,Wy.ev_bn,Wy.ev_d,tT,hi,hw];have h0:decide (((n+(ls.getD i default).length:Nat):Int)<0)=false:=decide_eq_false (by omega)
   rw [h0,zQ (by omega)]; rfl⟩)
  (fun n hI H K D=>by
   show (zdi ls n ls ls.length ls.length).ev H K D=_;unfold zdi;simp only [Wy.ev_i,Wy.ev_k,tT,Nat.lt_irrefl]) (ls.length+Int.toNat (0:Int)+ls.length+(Int.ofNat ls.length).toNat +Int.toNat (0:Int)+(1:Nat)) 0 0 (by omega) (by omega) (by omega)
 rw [List.drop_zero,zc4] at h1;have h1:zlg (ls.length+Int.toNat (0:Int)+ls.length+(Int.ofNat ls.length).toNat +Int.toNat (0:Int)+(1:Nat)) ls 0 ls (Int.ofNat ls.length) 0=_:=h1
 have hb:∀ (r:yA) (n:Nat),(∀ l∈r,l.length≤300000)→r.foldl (fun n (y:yC)=>n+y.length) n≤n+r.length*300000:=fun r=>by
  induction r with
  | nil=>intro n _; simp
  | cons y r ih=>
   intro n hr;have q1:=ih (n+y.length) fun l hl=>hr l (by simp [hl])
   have q2:=hr y (by simp)
   rw [List.foldl_cons,qf]; omega
 have hsz:=hb ls 0 h
 have h2:=zc3 (W:=zfM) (z:=default) (l:=ls) (fun i (out:yC)=>((),ls,(ls.length:Int),(i:Int),())) (fun _ out=>(out,())) (fun y out=>.inl (out++y)) (fun out=>out) (fun i out=>out.length≤i*300000)
  (fun i out hi hI=>.inl ⟨_,rfl,by have:=e _ (zt hi); simp only [qg]; omega,fun H K D=>by
   show (zcX ls ls.length i out).ev H K D=_;unfold zcX;have hle:=e _ (zt hi);have hr:decide ((out.length+(ls.getD i default).length)*32≤reach)=true:=by simp only [qe]; omega
   simp only [Wy.ev_i,Wy.ev_k,Wy.ev_h,Wy.ev_bn,Wy.ev_d,tT,hi,hr];rw [zQ (by omega)]⟩)
  (fun out hI H K D=>by
   show (zcX ls ls.length ls.length out).ev H K D=_;unfold zcX;simp only [Wy.ev_i,Wy.ev_k,tT,Nat.lt_irrefl]) (ls.length+(Int.ofNat ls.length).toNat +Int.toNat (0:Int)+([]:yC).length+(1:Nat)) 0 [] (by omega) (by omega) (by simp)
 rw [List.drop_zero,zc4] at h2;have h2:zkV (ls.length+(Int.ofNat ls.length).toNat +Int.toNat (0:Int)+([]:yC).length+(1:Nat)) ls (Int.ofNat ls.length) 0 []=_:=h2
 have hf:∀ (r:yA) (out:yC),r.foldl (fun out y=>out++y) out=out++r.flatten:=fun r=>by
  induction r with
  | nil=>intro out; simp
  | cons y r ih=>intro out; rw [List.foldl_cons,ih,List.flatten_cons,List.append_assoc]
 rw [Wy.fin_bn,h1,cond_true];simp only [Wy.fin_bn,zbfl _ (show ls.foldl (fun n (y:yC)=>n+y.length) 0≤4000000 by have:=Nat.mul_le_mul hn (Nat.le_refl 300000); omega),cond_true,h2,Wy.fin_k]
 rw [hf]; simp
theorem zbfJ (n:Nat) (h:n≤4000000):zeo (n:Int)=(true,[]):=by
 have hreach:reach=70368744177664:=rfl;unfold zeo znu;have e0:IntKind.i64.wrap ((0:Int) - 0)=0:=rfl;have e1:IntKind.i64.wrap ((n:Int) - 0)=(n:Int):=by rw [zju (by omega) (by omega)]; omega
 have e2:decide ((n:Int)<0)=false:=decide_eq_false (by omega)
 rw [Wy.fin_i,e2,cond_false,e0,e1];by_cases hn:(n:Int)>0
 ·have e3:(true&&(decide ((n:Int)*Int.ofNat (128:Nat)≤Int.ofNat reach)&&(decide ((n:Int)≤Int.ofNat reach)&& !Nat.beq (11:Nat) (0:Nat))))=true:=by
   simp only [qc,qe,Int.ofNat_eq_natCast];exact ⟨trivial,by rw [hreach]; omega,by rw [hreach]; omega,rfl⟩
  rw [Wy.fin_i,decide_eq_true hn,cond_true,Wy.fin_i,e3,cond_true,Wy.fin_k];simp
 ·rw [Wy.fin_i,decide_eq_false hn]; rfl
theorem zbcz (ls:List (yD)) (hn:ls.length≤10) (h:∀ l∈ls,l.length≤300000):zdS ls=(true,ls.flatten):=by
 have hreach:reach=70368744177664:=rfl;unfold zdS zmx;have e:∀ l:yD,l∈ls→l.length≤300000:=h
 have h1:=zc3 (W:=zgi) (z:=default) (l:=ls) (fun i (n:Nat)=>(ls,(n:Int),ls,(ls.length:Int),(i:Int),())) (fun _ _=>()) (fun y n=>.inl (n+y.length)) (fun n=>(ls,(n:Int))) (fun i n=>n≤i*300000)
  (fun i n hi hI=>.inl ⟨_,rfl,by have:=e _ (zt hi); omega,fun H K D=>by
   show (zdm ls n ls ls.length i).ev H K D=_;unfold zdm;have hle:=e _ (zt hi);have hw:IntKind.i64.wrap ((n:Int)+((ls.getD i default).length:Int))=((n+(ls.getD i default).length:Nat):Int):=zoa (by omega)
   simp only [Wy.ev_i,Wy.ev_k,Wy.ev_h,Wy.ev_bn,Wy.ev_d,tT,hi,hw];have h0:decide (((n+(ls.getD i default).length:Nat):Int)<0)=false:=decide_eq_false (by omega)
   rw [h0,zQ (by omega)]; rfl⟩)
  (fun n hI H K D=>by
   show (zdm ls n ls ls.length ls.length).ev H K D=_;unfold zdm;simp only [Wy.ev_i,Wy.ev_k,tT,Nat.lt_irrefl]) (ls.length+Int.toNat (0:Int)+ls.length+(Int.ofNat ls.length).toNat +Int.toNat (0:Int)+(1:Nat)) 0 0 (by omega) (by omega) (by omega)
 rw [List.drop_zero,zc4] at h1;have h1:zlN (ls.length+Int.toNat (0:Int)+ls.length+(Int.ofNat ls.length).toNat +Int.toNat (0:Int)+(1:Nat)) ls 0 ls (Int.ofNat ls.length) 0=_:=h1
 have hb:∀ (r:List (yD)) (n:Nat),(∀ l∈r,l.length≤300000)→r.foldl (fun n (y:yD)=>n+y.length) n≤n+r.length*300000:=fun r=>by
  induction r with
  | nil=>intro n _; simp
  | cons y r ih=>
   intro n hr;have q1:=ih (n+y.length) fun l hl=>hr l (by simp [hl])
   have q2:=hr y (by simp)
   rw [List.foldl_cons,qf]; omega
 have hsz:=hb ls 0 h
 have h2:=zc3 (W:=zf6) (z:=default) (l:=ls) (fun i (out:yD)=>((),ls,(ls.length:Int),(i:Int),())) (fun _ out=>(out,())) (fun y out=>.inl (out++y)) (fun out=>out) (fun i out=>out.length≤i*300000)
  (fun i out hi hI=>.inl ⟨_,rfl,by have:=e _ (zt hi); simp only [qg]; omega,fun H K D=>by
   show (zda ls ls.length i out).ev H K D=_;unfold zda;have hle:=e _ (zt hi);have hr:decide ((out.length+(ls.getD i default).length)*128≤reach)=true:=by simp only [qe]; omega
   simp only [Wy.ev_i,Wy.ev_k,Wy.ev_h,Wy.ev_bn,Wy.ev_d,tT,hi,hr];rw [zQ (by omega)]⟩)
  (fun out hI H K D=>by
   show (zda ls ls.length ls.length out).ev H K D=_;unfold zda;simp only [Wy.ev_i,Wy.ev_k,tT,Nat.lt_irrefl]) (ls.length+(Int.ofNat ls.length).toNat +Int.toNat (0:Int)+([]:yD).length+(1:Nat)) 0 [] (by omega) (by omega) (by simp)
 rw [List.drop_zero,zc4] at h2;have h2:zlD (ls.length+(Int.ofNat ls.length).toNat +Int.toNat (0:Int)+([]:yD).length+(1:Nat)) ls (Int.ofNat ls.length) 0 []=_:=h2
 have hf:∀ (r:List (yD)) (out:yD),r.foldl (fun out y=>out++y) out=out++r.flatten:=fun r=>by
  induction r with
  | nil=>intro out; simp
  | cons y r ih=>intro out; rw [List.foldl_cons,ih,List.flatten_cons,List.append_assoc]
 rw [Wy.fin_bn,h1,cond_true];simp only [Wy.fin_bn,zbfJ _ (show ls.foldl (fun n (y:yD)=>n+y.length) 0≤4000000 by have:=Nat.mul_le_mul hn (Nat.le_refl 300000); omega),cond_true,h2,Wy.fin_k]
 rw [hf]; simp
theorem zHf {d:Nat} (hd:d≤99):∀ (n:Nat) (a b out:yD),a.length+b.length<n→a.length+b.length+out.length≤1000000→(∀ x∈a,zcV (zo d) x.Atom∧0≤x.Exp∧x.Exp≤1000000)→(∀ x∈b,0≤x.Exp∧x.Exp≤1000000)→
  ∃ a' b' out',zAw n a b out=(true,(a',b',out'))∧out'++(a'++b')=out++zbN a b∧a'.length≤a.length∧b'.length≤b.length∧out'.length≤out.length+a.length+b.length
 | 0,a,b,out,h,_,_,_=>by omega
 | n+1,a,b,out,h,hl,ha,hb=>by
  have hreach:reach=70368744177664:=rfl;show ∃ a' b' out',(zAp a b out).ev (fun x y=>zAw n x.1 x.2.1 y.1) (fun r=>(true,r)) (false,default)=_∧_
  unfold zAp
  match a,b,h,hl,ha,hb with
  | [],b,h,hl,ha,hb=>exact ⟨[],b,out,rfl,by rw [zbN]; simp,Nat.le_refl _,Nat.le_refl _,by omega⟩
  | x::a,[],h,hl,ha,hb=>
   have e1:decide (Int.ofNat (x::a).length>0)=true:=by simp
   refine ⟨x::a,[],out, ?_,by rw [zbN]; simp,Nat.le_refl _,Nat.le_refl _,by omega⟩
   rw [Wy.ev_i,e1,cond_true]; rfl
  | x::a,y::b,h,hl,ha,hb=>
   have hx:=ha x (by simp)
   have hy:=hb y (by simp)
   simp only [qf] at h hl;have e1:decide (Int.ofNat (x::a).length>0)=true:=by simp
   have e2:decide (Int.ofNat (y::b).length>0)=true:=by simp
   have e3:(decide ((0:Int)≤0)&&decide ((0:Int)<Int.ofNat (x::a).length))=true:=by simp
   have e4:(decide ((0:Int)≤0)&&decide ((0:Int)<Int.ofNat (y::b).length))=true:=by simp
   have e5:(x::a).getD (Int.toNat 0) default=x:=rfl;have e6:(y::b).getD (Int.toNat 0) default=y:=rfl;have e7:∀ z:Factor,decide ((out.length+[z].length)*128≤reach)=true:=fun z=>by simp only [qe,List.length_singleton]; omega
   have e8:(decide ((0:Int)≤1)&&decide ((1:Int)≤Int.ofNat (x::a).length)&&decide (Int.ofNat (x::a).length≤Int.ofNat (x::a).length))=true:=by simp; omega
   have e9:(decide ((0:Int)≤1)&&decide ((1:Int)≤Int.ofNat (y::b).length)&&decide (Int.ofNat (y::b).length≤Int.ofNat (y::b).length))=true:=by simp; omega
   have e10:List.take ((Int.ofNat (x::a).length).toNat - Int.toNat 1) (List.drop (Int.toNat 1) (x::a))=a:=by rw [show Int.toNat 1=1 from rfl,zCY]; rfl
   have e11:List.take ((Int.ofNat (y::b).length).toNat - Int.toNat 1) (List.drop (Int.toNat 1) (y::b))=b:=by rw [show Int.toNat 1=1 from rfl,zCY]; rfl
   have ea:∀ z∈a,zcV (zo d) z.Atom∧0≤z.Exp∧z.Exp≤1000000:=fun z hz=>ha z (by simp [hz])
   have eb:∀ z∈b,0≤z.Exp∧z.Exp≤1000000:=fun z hz=>hb z (by simp [hz])
   have ex:(FactorOf.mk x.Atom x.Exp:Factor)=x:=rfl;have ey:(FactorOf.mk y.Atom y.Exp:Factor)=y:=rfl;simp only [Wy.ev_i,Wy.ev_k,Wy.ev_h,Wy.ev_bn,Wy.ev_d,e1,e2,e3,e4,e5,e6,e7,e8,e9,e10,e11,cond_true,Atom.eta,zxO hx.1 hd,z3R,ex,ey];rw [zbN];have hcf:cF x y=cmpT (zdl x.Atom) (zdl y.Atom):=rfl;rw [← hcf];by_cases h1:cF x y<0
   ·simp only [h1,decide_true,cond_true,if_true];obtain ⟨a',b',out',r1,r2,r3,r4,r5⟩:=zHf hd n a (y::b) (out++[x]) (by simp only [qf]; omega) (by simp only [qf,qg,List.length_nil]; omega) ea hb
    refine ⟨a',b',out',r1,by rw [r2]; simp,by simp only [qf]; omega,by simpa using r4,by simp only [qf,qg,List.length_nil] at r5 ⊢; omega⟩
   ·by_cases h2:0<cF x y
    ·have h2':cF x y>0:=h2;simp only [h1,h2,h2',decide_true,decide_false,cond_true,cond_false,if_true,if_false];obtain ⟨a',b',out',r1,r2,r3,r4,r5⟩:=zHf hd n (x::a) b (out++[y]) (by simp only [qf]; omega) (by simp only [qf,qg,List.length_nil]; omega) ha eb
     refine ⟨a',b',out',r1,by rw [r2]; simp,by simpa using r3,by simp only [qf]; omega,by simp only [qf,qg,List.length_nil] at r5 ⊢; omega⟩
    ·have h2':¬ cF x y>0:=h2;have hw:IntKind.i64.wrap (x.Exp+y.Exp)=x.Exp+y.Exp:=zju (by omega) (by omega)
     simp only [h1,h2,h2',decide_false,cond_false,if_false,hw];have hk:(x.Atom.Kind==3||x.Atom.Kind==4)=decide (x.Atom.Kind=3∨x.Atom.Kind=4):=by rw [beqd,beqd, ← Bool.decide_or]
     rw [hk];by_cases h3:x.Atom.Kind=3∨x.Atom.Kind=4
     ·simp only [h3,decide_true,Bool.not_true,cond_false,if_true];obtain ⟨a',b',out',r1,r2,r3,r4,r5⟩:=zHf hd n a b (out++[x]) (by omega) (by simp only [qg,qf,List.length_nil]; omega) ea eb
      refine ⟨a',b',out',r1,by rw [r2]; simp,by simp only [qf]; omega,by simp only [qf]; omega,by simp only [qf,qg,List.length_nil] at r5 ⊢; omega⟩
     ·simp only [h3,decide_false,Bool.not_false,cond_true,if_false];obtain ⟨a',b',out',r1,r2,r3,r4,r5⟩:=zHf hd n a b (out++[⟨x.Atom,x.Exp+y.Exp⟩]) (by omega) (by simp only [qg,qf,List.length_nil]; omega) ea eb
      refine ⟨a',b',out',r1,by rw [r2]; simp,by simp only [qf]; omega,by simp only [qf]; omega,by simp only [qf,qg,List.length_nil] at r5 ⊢; omega⟩
theorem zbec {d:Nat} (hd:d≤99) (a b:yD) (hl:a.length+b.length≤100000) (ha:∀ x∈a,zcV (zo d) x.Atom∧0≤x.Exp∧x.Exp≤1000000) (hb:∀ x∈b,0≤x.Exp∧x.Exp≤1000000):zn0 a b=(true,zbN a b):=by
 unfold zn0 zJa;obtain ⟨a',b',out',r1,r2,r3,r4,r5⟩:=zHf hd (a.length+b.length+(0:Nat)+(1:Nat)) a b [] (by omega) (by simp; omega) ha hb
 rw [Wy.fin_bn,r1,cond_true]
 have hc:=zbcz [out',a',b'] (by simp) (fun l hl'=>by
  simp only [qd,List.not_mem_nil,or_false] at hl';simp only [List.length_nil] at r5;rcases hl' with rfl | rfl | rfl <;>omega)
 simp only [Wy.fin_bn,hc,cond_true,Wy.fin_k];congr 1
 simpa using r2
theorem z64 {a b:Int} (ha:1≤a∧a≤1152921504606846976) (hb:1≤b∧b≤1152921504606846976):zrI a b=(true,zzL a b)∧zBT a b=(true,zzL a b):=by
 obtain ⟨h1,h2⟩:=z1I ha hb;have h0:(!decide (b=(0:Int)))=true:=by rw [decide_eq_false (by omega)]; rfl
 have hq:0≤Int.tdiv 1152921504606846976 b∧Int.tdiv 1152921504606846976 b≤1152921504606846976:=by
  rw [Int.tdiv_eq_ediv_of_nonneg (by omega)]
  exact ⟨Int.ediv_nonneg (by omega) (by omega),Int.ediv_le_self _ (by omega)⟩
 have hw:IntKind.i64.wrap (Int.tdiv 1152921504606846976 b)=Int.tdiv 1152921504606846976 b:=zju (by omega) (by omega)
 have key:∀ w:Int,(w=if Int.tdiv 1152921504606846976 b<a then 1152921504606846976 else IntKind.i64.wrap (a*b))→w=zzL a b:=fun w e=>by
  rw [e]; unfold zzL;split
  ·rfl
  ·rename_i hn;have h3:=h2 hn;have h4:=Int.mul_nonneg (show 0≤a by omega) (show 0≤b by omega)
   exact zju (by omega) (by omega)
 constructor
 ·unfold zrI zHt;rw [Wy.fin_i,h0,cond_true,Wy.fin_i,hw,Wy.fin_k,Wy.fin_k];by_cases hc:Int.tdiv 1152921504606846976 b<a
  ·rw [decide_eq_true hc,cond_true]; exact congrArg (Prod.mk true) (key _ (by rw [if_pos hc]))
  ·rw [decide_eq_false hc,cond_false]; exact congrArg (Prod.mk true) (key _ (by rw [if_neg hc]))
 ·unfold zBT zTa;rw [Wy.fin_i,h0,cond_true,Wy.fin_i,hw,Wy.fin_k,Wy.fin_k];by_cases hc:Int.tdiv 1152921504606846976 b<a
  ·rw [decide_eq_true hc,cond_true]; exact congrArg (Prod.mk true) (key _ (by rw [if_pos hc]))
  ·rw [decide_eq_false hc,cond_false]; exact congrArg (Prod.mk true) (key _ (by rw [if_neg hc]))
theorem zvy {τ:Type} [Inhabited τ] {R:τ→τ→Prop} (ht:∀ x y z,R x y→R y z→R x z):∀ l:List τ,(∀ k,0<k→k<l.length→R (l.getD (k - 1) default) (l.getD k default))→l.Pairwise R
 | [],_=>.nil
 | [x],_=>by simp
 | x::y::r,h=>by
  have h1:R x y:=h 1 (by omega) (by simp)
  have h2:=zvy ht (y::r) fun k hk hl=>by
   have:=h (k+1) (by omega) (by simpa using hl)
   obtain ⟨j,rfl⟩:∃ j,k=j+1:=⟨k - 1,by omega⟩
   exact this
  refine qi.2 ⟨fun z hz=> ?_,h2⟩
  rcases qd.1 hz with rfl | hz
  ·exact h1
  ·exact ht x y z h1 ((qi.1 h2).1 z hz)
def GF (f:Factor):Prop:=(zej (zbB 9) f.Atom=true∧zgn f.Atom∧f.Atom.Items.length≤1024)∧1≤f.Exp∧f.Exp≤1000000
def GT (t:Term):Prop:=cOK t∧t.Factors.length≤1000∧∀ f∈t.Factors,GF f
def VT (t:Term):Prop:=GT t∧Srf t.Factors∧t.Factors.length≤64∧∀ f∈t.Factors,eOK f∧f.Exp≤64
theorem zwJ {a:yC} (h:zC a=true) (hw:zgr a):Srs a∧a.length≤512∧∀ t∈a,VT t:=by
 have h9:=zZ9 h (Nat.le_refl 9);rw [z3m] at h;obtain ⟨w1,w2,w3,w4⟩:=zwz (zG9 h);have hall:=h;simp only [vAnn,qc] at hall;refine ⟨zvy (R:=fun x y=>cT x y<0) (fun x y z h1 h2=>zFw h1 h2) a fun k hk hl=> ?_,w1,fun t ht=> ?_⟩
 ·have:=zeu.1 hall.2 k (by omega) (by omega)
  simp only [chkT,qc,Bool.or_eq_true,qe] at this;rcases this.1.2 with e | e
  ·omega
  ·exact e
 ·obtain ⟨hc,hok⟩:=zwv h ht;obtain ⟨l1,l2⟩:=w4 t ht;have hwt:=zom (zwH (ztS hw t ht)).2.1;refine ⟨⟨hc,by omega,fun f hf=> ?_⟩,zvy (R:=fun x y=>cF x y<0) (fun x y z h1 h2=>zFd h1 h2) _ fun k hk hl=> ?_,l1,fun f hf=> ?_⟩
  ·obtain ⟨⟨e1,_⟩,hv⟩:=zpE hok hf;exact ⟨⟨by rw [zbbN (Nat.le_refl 9)]; exact hv,(zrz (hwt f hf)).1,(l2 f hf).2⟩,e1,by have:=(l2 f hf).1; omega⟩
  ·have:=zeu.1 hok k (by omega) (by omega)
   simp only [chkF,qc,Bool.or_eq_true,qe] at this;rcases this.1.2 with e | e
   ·omega
   ·exact e
  ·obtain ⟨⟨_,e2⟩,hv⟩:=zpE hok hf;exact ⟨⟨zDF hv,e2⟩,(l2 f hf).1⟩
theorem zxf {m:Nat} {x:Atom} (h:zej (zbB m) x=true) (hi:x.Items.length≤1024):zcV (zo 9) x:=by
 cases zdG.1 h with
 | var r h=>exact ⟨⟨by simp,by simp,by show (ByteArray.mk #[]).size≤_; decide⟩,fun a ha=>(by cases ha),fun w hw=>(by cases hw)⟩
 | mon b c hb hc _ _ _=>
  refine ⟨⟨by simp,by simp,by show (ByteArray.mk #[]).size≤_; decide⟩,fun y hy=> ?_,fun w hw=>(by cases hw)⟩
  simp only [qd,List.not_mem_nil,or_false] at hy;rcases hy with rfl | rfl
  ·exact (ze2 hb).1
  ·exact (ze2 hc).1
 | del b hb _ _ _=>
  refine ⟨⟨by simp,by simp,by show (ByteArray.mk #[]).size≤_; decide⟩,fun y hy=> ?_,fun w hw=>(by cases hw)⟩
  rw [qh] at hy; subst hy; exact (ze2 hb).1
 | abs b hb _ _=>
  refine ⟨⟨by simp,by simp,by show (ByteArray.mk #[]).size≤_; decide⟩,fun y hy=> ?_,fun w hw=>(by cases hw)⟩
  rw [qh] at hy; subst hy; exact (ze2 hb).1
 | tst f l o b hl hv hs hf=>
  obtain ⟨_,hb,hit⟩:=ztj hf;simp only at hi;exact ⟨⟨by simp,by simp only; omega,by have:=zwt hb; simp only; omega⟩,fun a ha=>(by cases ha),fun w hw=>⟨by have:=zwt (hit w hw).1; omega,(ze2 (hv w hw).1).1⟩⟩
theorem GT.fine {t:Term} (h:GT t):zcb (zo 9) t.Factors:=⟨by have:=h.2.1; omega,fun f hf=>zxf (h.2.2 f hf).1.1 (h.2.2 f hf).1.2.2⟩
theorem GF.gF {f:Factor} (h:GF f):gF (zbB 9) f:=⟨h.1.1,h.1.2.1,by constructor <;>(have:=h.2; omega)⟩
theorem GT.text {t:Term} (h:GT t):zrD t.Factors=(true,bs (txL t.Factors)):=
 (z6R 1000).2.2 9 t.Factors h.2.1 (fun f hf=>⟨(h.2.2 f hf).1.1,(h.2.2 f hf).1.2.1,(h.2.2 f hf).1.2.2,(h.2.2 f hf).gF.2.2⟩) (by omega)
theorem GT.inj {s t:Term} (hs:GT s) (ht:GT t) (h:bs (txL s.Factors)=bs (txL t.Factors)):s.Factors=t.Factors:=
 zbdW (fun f hf=>(hs.2.2 f hf).gF) (fun f hf=>(ht.2.2 f hf).gF) (zbeS h)
def zpz:Int→yC→List (Go.Value×Int)
 | _,[]=>[]
 | i,t::r=>(.string (bs (txL t.Factors)),i)::zpz (i+1) r
def posA (k:ByteArray):yC→Option Nat
 | []=>none
 | t::r=>if k=bs (txL t.Factors) then some 0 else (posA k r).map (· +1)
theorem zN4 (k:ByteArray) (t:Term) (r:yC):posA k (t::r)=if k=bs (txL t.Factors) then some 0 else (posA k r).map (· +1):=rfl
theorem keyS (a b:ByteArray):zl9 (.string a) (.string b)=decide (a=b):=by
 cases a with | mk x=>cases b with | mk y=>
 show (x==y)=_;by_cases h:x=y
 ·subst h; simp
 ·have:(x==y)=false:=by rw [beq_eq_false_iff_ne]; exact h
  rw [this]; simp [h]
theorem z6Q (k:ByteArray):∀ (o:yC) (i:Int),zbaM (.string k) (zpz i o)=(posA k o).isSome
 | [],i=>rfl
 | t::r,i=>by
  show (bif zl9 (.string k) (.string (bs (txL t.Factors))) then true else zbaM (.string k) (zpz (i+1) r))=_
  rw [keyS,z6Q k r,zN4];by_cases h:k=bs (txL t.Factors)
  ·rw [decide_eq_true h,if_pos h]; rfl
  ·rw [decide_eq_false h,if_neg h]; cases posA k r <;>rfl
theorem z73 (k:ByteArray):∀ (o:yC) (i:Int),zD6 (.string k) (zpz i o)=(posA k o).map fun j:Nat=>i+(j:Int)
 | [],i=>rfl
 | t::r,i=>by
  show (bif zl9 (.string k) (.string (bs (txL t.Factors))) then some i else zD6 (.string k) (zpz (i+1) r))=_
  rw [keyS,z73 k r,zN4];by_cases h:k=bs (txL t.Factors)
  ·rw [decide_eq_true h,if_pos h]; simp
  ·rw [decide_eq_false h,if_neg h];cases posA k r with
   | none=>rfl
   | some j=>
    have e:i+1+(j:Int)=i+((j+1:Nat):Int):=by omega
    simp only [cond_false,Option.map_some,e]
theorem z6N (k:ByteArray) (x:Int):∀ (o:yC) (i:Int),posA k o=none→zbaQ (.string k) x (zpz i o)=zpz i o++[(.string k,x)]
 | [],i,_=>rfl
 | t::r,i,h=>by
  rw [zN4] at h;by_cases hk:k=bs (txL t.Factors)
  ·rw [if_pos hk] at h; cases h
  ·rw [if_neg hk] at h;show (bif zl9 (.string k) (.string (bs (txL t.Factors))) then _ else (.string (bs (txL t.Factors)),i)::zbaQ (.string k) x (zpz (i+1) r))=_
   rw [keyS,decide_eq_false hk,z6N k x r (i+1) (by cases hp:posA k r with | none=>rfl | some j=>rw [hp] at h; cases h)]
   rfl
theorem z49 (t:Term):∀ (o:yC) (i:Int),zpz i (o++[t])=zpz i o++[(.string (bs (txL t.Factors)),i+(o.length:Int))]
 | [],i=>by simp [zpz]
 | x::r,i=>by
  have e:i+1+(r.length:Int)=i+((r.length+1:Nat):Int):=by omega
  simp only [List.cons_append,zpz,qf,z49 t r,e]
theorem z5h (y:Term):∀ (o:yC) (j:Nat) (i:Int),(o.getD j default).Factors=y.Factors→zpz i (o.set j y)=zpz i o
 | [],j,i,_=>rfl
 | x::r,0,i,h=>by simp only [List.set_cons_zero,zpz]; rw [show x.Factors=y.Factors from h]
 | x::r,j+1,i,h=>by simp only [List.set_cons_succ,zpz]; rw [z5h y r j (i+1) h]
theorem z9U {t:Term} (ht:GT t):∀ {o:yC},(∀ x∈o,GT x)→(match posA (bs (txL t.Factors)) o with
  | some j=>j<o.length∧(o.getD j default).Factors=t.Factors∧updA t o=o.set j ⟨zy0 (o.getD j default).Coeff t.Coeff,(o.getD j default).Factors⟩
  | none=>updA t o=o++[t])
 | [],_=>rfl
 | x::r,h=>by
  have ih:=z9U ht (o:=r) fun y hy=>h y (by simp [hy])
  rw [zN4];unfold updA;by_cases hk:bs (txL t.Factors)=bs (txL x.Factors)
  ·have e:=GT.inj ht (h x (by simp)) hk
   rw [if_pos hk,if_pos e.symm];exact ⟨by simp,e.symm,rfl⟩
  ·have e:¬ x.Factors=t.Factors:=fun e=>hk (by rw [e])
   rw [if_neg hk,if_neg e];cases hp:posA (bs (txL t.Factors)) r with
   | none=>rw [hp] at ih; simp only [Option.map_none]; rw [ih]; rfl
   | some j=>
    rw [hp] at ih;obtain ⟨i1,i2,i3⟩:=ih;simp only [Option.map_some];exact ⟨by simp; exact i1,i2,by rw [i3]; rfl⟩
theorem zbbw {t:Term} (ht:GT t) {o:yC} (ho:∀ x∈o,GT x):∀ x∈updA t o,GT x:=by
 induction o with
 | nil=>intro x hx; simp only [updA,qh] at hx; subst hx; exact ht
 | cons y r ih=>
  intro x hx;unfold updA at hx;split at hx
  ·rcases qd.1 hx with rfl | hx
   ·have:=ho y (by simp)
    exact ⟨z4T this.1.1 ht.1.1,this.2⟩
   ·exact ho x (by simp [hx])
  ·rcases qd.1 hx with rfl | hx
   ·exact ho x (by simp)
   ·exact ih (fun z hz=>ho z (by simp [hz])) x hx
theorem z36 (t:Term):∀ o:yC,(updA t o).length≤o.length+1
 | []=>by simp [updA]
 | y::r=>by
  have:=z36 t r;unfold updA;split
  ·simp
  ·simp only [qf]; omega
theorem zbbP (ts:yC) (hl:ts.length≤1000000) (h:∀ t∈ts,GT t) (n:Nat) (hn:ts.length<n):zvl n ts ts.length 0 [] []=(true,zNX ts):=by
 have hreach:reach=70368744177664:=rfl
 have h2:=zc3 (W:=zvq) (z:=default) (l:=ts) (fun i (out:yC)=>((),(),ts,(ts.length:Int),(i:Int),())) (fun _ out=>(zpz 0 out,out,())) (fun t out=>.inl (updA t out)) (fun out=>out) (fun i out=>out.length≤i∧∀ t∈out,GT t)
  (fun i out hi hI=>.inl ⟨_,rfl,⟨by have:=z36 (ts.getD i default) out; omega,zbbw (h _ (zt hi)) hI.2⟩,fun H K D=>by
   show (zkk ts ts.length i (zpz 0 out) out).ev H K D=_;unfold zkk;have ht:=h _ (zt hi);have hp:=z9U ht hI.2;have hhas:=z6Q (bs (txL (ts.getD i default).Factors)) out 0;have hget:=z73 (bs (txL (ts.getD i default).Factors)) out 0;simp only [Wy.ev_i,Wy.ev_k,Wy.ev_h,Wy.ev_bn,Wy.ev_d,tT,hi,ht.text];rw [hhas,hget,zQ (by omega)]
   cases hpos:posA (bs (txL (ts.getD i default).Factors)) out with
   | none=>
    rw [hpos] at hp;have hb:decide ((out.length+[ts.getD i default].length)*32≤reach)=true:=by simp only [qe,List.length_singleton]; omega
    simp only [Option.isSome_none,cond_false,hb,cond_true];rw [z6N _ _ _ _ hpos,hp,z49];simp
   | some j=>
    rw [hpos] at hp;obtain ⟨p1,p2,p3⟩:=hp;have hj:=hI.2 _ (zt p1);have hw:IntKind.i64.wrap ((out.getD j default).Coeff+(ts.getD i default).Coeff)=(out.getD j default).Coeff+(ts.getD i default).Coeff:=z9f ⟨by have:=hj.1.1; omega,hj.1.2⟩ ⟨by have:=ht.1.1; omega,ht.1.2⟩
    have e1:(0:Int)+(j:Int)=(j:Int):=by omega
    have e2:decide (j<out.length)=true:=decide_eq_true p1;simp only [Option.isSome_some,Option.map_some,Option.getD_some,e1,cond_true,tT,e2,hw];rw [p3,z5h ⟨zy0 (out.getD j default).Coeff (ts.getD i default).Coeff,(out.getD j default).Factors⟩ out j 0 rfl];rfl⟩)
  (fun out hI H K D=>by
   show (zkk ts ts.length ts.length (zpz 0 out) out).ev H K D=_;unfold zkk;simp only [Wy.ev_i,Wy.ev_k,tT,Nat.lt_irrefl]) n 0 [] (by omega) (by omega) ⟨by simp,fun t ht=>by cases ht⟩
 rw [List.drop_zero,zc4] at h2;exact h2
theorem z9h:∀ (ts o:yC),(∀ t∈ts,GT t)→(∀ t∈o,GT t)→∀ x∈ts.foldl (fun a t=>updA t a) o,GT x
 | [],o,_,ho=>ho
 | t::r,o,h,ho=>z9h r (updA t o) (fun x hx=>h x (by simp [hx])) (zbbw (h t (by simp)) ho)
theorem z5u:∀ (ts o:yC),(ts.foldl (fun a t=>updA t a) o).length≤o.length+ts.length
 | [],o=>by simp
 | t::r,o=>by
  have h1:=z5u r (updA t o);have h2:=z36 t o;rw [List.foldl_cons,qf]; omega
theorem z2L (ts:yC) (hl:ts.length≤1000000) (h:∀ t∈ts,GT t):zhP ts=(true,sumA [] ts):=by
 unfold zhP zDP;have hL:=zbbP ts hl h (ts.length+(Int.ofNat ts.length).toNat +Int.toNat (0:Int)+(0:Nat)+(0:Nat)+(1:Nat)) (by omega)
 have hL:zvl (ts.length+(Int.ofNat ts.length).toNat +Int.toNat (0:Int)+(0:Nat)+(0:Nat)+(1:Nat)) ts (Int.ofNat ts.length) 0 [] []=_:=hL;rw [Wy.fin_bn,hL,cond_true];obtain ⟨hp,hd⟩:=z5D ts [] [] .nil .nil .nil;have hs:=zPu ts [] .nil;have hg:∀ x∈zNX ts,GT x:=z9h ts [] h fun x hx=>by cases hx
 have hlen:(zNX ts).length≤1000000:=by have:=z5u ts []; simp at this; exact Nat.le_trans this hl
 have e:∀ x∈zNX ts,∀ y,zb0 x y=(true,cT x y):=fun x hx y=>zxy (hg x hx).fine (by omega) y
 have ok:SortOK zb0 (zNX ts):=by
  refine ⟨by omega,fun x hx y _=>by rw [e x hx],fun x hx=> ?_,fun x hx y hy z hz h1 h2=> ?_,fun x hx y hy z hz h1 h2=> ?_,fun x hx y hy h1 h2=> ?_⟩
  ·rw [e x hx]; have:=zC1 (x:=x) (y:=x) rfl; simp only; omega
  ·rw [e x hx] at h1 ⊢; rw [e y hy] at h2;exact zFw h1 h2
  ·rw [e x hx] at h1 ⊢; rw [e y hy] at h2;simp only at h1 h2 ⊢;have a1:=zFe x y;have a2:=zFe y z;have a3:=zFe x z;have:=zKa (zbz z.Factors) (zbz y.Factors) (zbz x.Factors) (show cT z y≤0 by omega) (show cT y x≤0 by omega)
   have:cT z x≤0:=this;omega
  ·rw [e x hx] at h1; rw [e y hy] at h2;simp only at h1 h2;have a1:=zFe x y;have hz:x.Factors=y.Factors:=zXJ (by omega)
   by_cases hxy:x=y
   ·exact hxy
   ·exfalso
    -- two terms with the same factors are one
    have hdd:Dst (zNX ts):=hd;have:=List.pairwise_iff_getElem.1 hdd;obtain ⟨i,hi,ei⟩:=List.mem_iff_getElem.1 hx;obtain ⟨j,hj,ej⟩:=List.mem_iff_getElem.1 hy;rcases Nat.lt_trichotomy i j with hij | hij | hij
    ·exact this i j hi hj hij (by rw [ei,ej]; exact hz)
    ·subst hij; exact hxy (ei.symm.trans ej)
    ·exact this j i hj hi hij (by rw [ei,ej]; exact hz.symm)
 unfold zbP zzu;simp only [Wy.fin_bn,Wy.fin_k,decide_eq_true ok,cond_true];congr 1;refine (ok.unique (hp:(sumA [] ts).Perm (zNX ts)) ?_).symm;refine hs.imp_of_mem fun {x y} hx hy hxy=> ?_
 rw [e y ((hp:(sumA [] ts).Perm (zNX ts)).mem_iff.1 hy)];have:=zFe x y;simp only; omega
mutual
theorem z8X:∀ x:Atom,ze6 x≤zFz x
 | ⟨_,_,a,_,i,_,_⟩=>by
  rw [ze6,zFz];have h1:=zZx a;have h2:=zWd i;omega
theorem zP2:∀ l:yD,zbJ l≤zgX l
 | []=>by rw [zbJ,zgX]; exact Nat.le_refl _
 | ⟨x,_⟩::r=>by
  rw [zbJ,zgX];have h1:=z8X x;have h2:=zP2 r;omega
theorem zKh:∀ l:yC,zM l≤zen l
 | []=>by rw [zM,zen]; exact Nat.le_refl _
 | ⟨_,fs⟩::r=>by
  rw [zM,zen];have h1:=zP2 fs;have h2:=zKh r;omega
theorem zZx:∀ l:yA,ze9 l≤zp8 l
 | []=>by rw [ze9,zp8]; exact Nat.le_refl _
 | a::r=>by
  rw [ze9,zp8];have h1:=zKh a;have h2:=zZx r;omega
theorem zWd:∀ l:yE,zdn l≤l.length+zls l
 | []=>by rw [zdn,zls]; exact Nat.zero_le _
 | ⟨_,a⟩::r=>by
  rw [zdn,zls];have h1:=zKh a;have h2:=zWd r;simp only [qf];omega
end
theorem zbcY (d:Nat):zo (d+1) []:=⟨by simp,fun t ht=>by cases ht⟩
def zTe (a:yC) (b:yC):Wy0 (yC×Int):=.bn (zeP a) fun r3=>.i (!r3) (.k ([],1)) (.bn (zeP b) fun r2=>.i (!r2) (.k ([],1)) (.i (Int.ofNat b.length==0) (.k (a,0)) (.i (Int.ofNat a.length==0) (.k ([],0)) (.bn (ztg a b) fun r1=>.i (r1) (.k ([],0)) (.bn (znh (zm4 (Atom.mk 1 (RowID.mk 0 0) [a,b] 0 [] 0 (Value.mk 0 0 (ByteArray.mk #[])))).2) fun r0=>.k (r0.1,r0.2))))))
def zPn (a:yC) (b:yC):Bool×(yC×Int):=(zTe a b).fin default
def zQf (a:yC):Wy0 (yC×Int):=.bn (zeP a) fun r2=>.i (!r2) (.k ([],1)) (.i (Int.ofNat a.length==0) (.k (zGS.2,0)) (.bn (ziD a) fun r1=>.i (r1) (.k ([],0)) (.bn (znh (zm4 (Atom.mk 3 (RowID.mk 0 0) [a] 0 [] 0 (Value.mk 0 0 (ByteArray.mk #[])))).2) fun r0=>.k (r0.1,r0.2))))
def zLc (a:yC):Bool×(yC×Int):=(zQf a).fin default
theorem zP0 {B:Nat}:∀ l:yD,(∀ f∈l,ze6 f.Atom≤B)→zbJ l≤l.length*B
 | [],_=>by rw [ziB]; simp
 | f::r,h=>by
  have h1:=h f (by simp)
  have h2:=zP0 r fun g hg=>h g (by simp [hg])
  rw [zc5,qf,Nat.add_mul]; omega
theorem z1Z {B:Nat}:∀ l:yC,(∀ t∈l,1+t.Factors.length+zbJ t.Factors≤B)→zM l≤l.length*B
 | [],_=>by rw [ztX]; simp
 | f::r,h=>by
  have h1:=h f (by simp)
  have h2:=z1Z r fun g hg=>h g (by simp [hg])
  rw [zex,qf,Nat.add_mul]; omega
theorem z8q {l:yC} (hl:l.length≤1000000) (h:∀ t∈l,GT t):zo 10 l∧zM l≤4611686018427387904:=by
 refine ⟨⟨hl,fun t ht=>(h t ht).fine⟩, ?_⟩
 refine Nat.le_trans (z1Z (B:=4195330000) l fun t ht=> ?_) (by have:=Nat.mul_le_mul hl (Nat.le_refl 4195330000); omega)
 have hg:=h t ht;have h1:=zP0 (B:=4195328) t.Factors fun f hf=>zZF (hg.2.2 f hf).1.1 (hg.2.2 f hf).1.2.2
 have:=Nat.mul_le_mul hg.2.1 (Nat.le_refl 4195328);have:=hg.2.1;omega
theorem z7c {t:Term} (ht:GT t) {l:yC} (hs:Srs l) (h:∀ x∈l,GT x):∀ x∈putA t l,GT x:=fun x hx=>by
 have hc:=zbaZ ht.1 (fun y hy=>(h y hy).1) x hx
 rcases (zAC hs).1 hx with ⟨h1,_⟩ | ⟨h1,_⟩
 ·exact h x h1
 ·exact ⟨hc,by rw [h1]; exact ht.2⟩
theorem zQH:∀ (b a:yC),Srs a→(∀ x∈a,GT x)→(∀ x∈b,GT x)→∀ x∈sumA a b,GT x
 | [],_,_,ha,_=>ha
 | t::r,a,hs,ha,hb=>zQH r (putA t a) (zAL hs) (z7c (hb t (by simp)) hs ha) fun x hx=>hb x (by simp [hx])
theorem zR4 {x y:Term} (hx:VT x) (hy:VT y):GT (zl1 x y):=by
 obtain ⟨gx,sx,lx,ex⟩:=hx;obtain ⟨gy,sy,ly,ey⟩:=hy;refine ⟨(z1I gx.1 gy.1).1,by have:=zMc x.Factors y.Factors; show (zbN x.Factors y.Factors).length≤1000; omega,fun f hf=> ?_⟩
 obtain ⟨g,hg,e⟩:=zuj hf;have hb:=zMg (B:=64) (fun z hz=>⟨(gx.2.2 z hz).2.1,(ex z hz).2⟩) (fun z hz=>⟨(gy.2.2 z hz).2.1,(ey z hz).2⟩) hf
 have hv:(zej (zbB 9) g.Atom=true∧zgn g.Atom∧g.Atom.Items.length≤1024):=by
  rcases hg with hg | hg
  ·exact (gx.2.2 g hg).1
  ·exact (gy.2.2 g hg).1
 exact ⟨by rw [e]; exact hv,hb.1,by omega⟩
theorem zZ8 {a b:yC} (ha:∀ t∈a,VT t) (hb:∀ t∈b,VT t):∀ t∈zfS a b,GT t:=fun t ht=>by
 obtain ⟨x,hx,y,hy,rfl⟩:=z5w ht;exact zR4 (ha x hx) (hb y hy)
theorem zbex {x y:Term} (hx:VT x) (hy:VT y):zn0 x.Factors y.Factors=(true,zbN x.Factors y.Factors):=by
 obtain ⟨gx,sx,lx,ex⟩:=hx;obtain ⟨gy,sy,ly,ey⟩:=hy;exact zbec (d:=9) (by omega) _ _ (by omega) (fun f hf=>⟨zxf (gx.2.2 f hf).1.1 (gx.2.2 f hf).1.2.2,by have:=(gx.2.2 f hf).2; omega⟩) fun f hf=>by have:=(gy.2.2 f hf).2; omega
theorem zbf8 (a b:yC) (i:Int) (x:Term) (hx:VT x) (hb:∀ t∈b,VT t) (hbl:b.length≤512) (terms:yC) (hl:terms.length≤1000000) (n:Nat) (hn:b.length<n):
  zIX n b a a.length i b b.length 0 terms x=(true,(b,a,(a.length:Int),i,terms++b.map (zl1 x))):=by
 have hreach:reach=70368744177664:=rfl
 have:=zeh (W:=zBB) (z:=default) b.length (fun j=>(b,(),(),a,(a.length:Int),i,b,(b.length:Int),(j:Int),())) (fun j=>(terms++(b.take j).map (zl1 x),x,())) (fun _=>true) default (b,a,(a.length:Int),i,terms++b.map (zl1 x))
  (fun j hj H K D=>by
   show (zoE b a a.length i b b.length j (terms++(b.take j).map (zl1 x)) x).ev H K D=_;unfold zoE;have hy:=hb _ (zt hj);have hr:decide (((terms++(b.take j).map (zl1 x)).length+1)*32≤reach)=true:=by simp only [qe,qg,List.length_map,List.length_take]; omega
   simp only [Wy.ev_i,Wy.ev_k,Wy.ev_h,Wy.ev_bn,Wy.ev_d,tT,hj,(z64 hx.1.1 hy.1.1).1,zbex hx hy,List.length_singleton,hr];rw [zQ (by omega),zkm hj,List.map_append, ← List.append_assoc]
   rfl)
  (fun H K D=>by
   show (zoE b a a.length i b b.length b.length (terms++(b.take b.length).map (zl1 x)) x).ev H K D=_;unfold zoE;simp only [Wy.ev_i,Wy.ev_k,tT,Nat.lt_irrefl,List.take_length]) n hn
 rw [show allN (fun _=>true) b.length 0=true from zeu.2 fun _ _ _=>rfl] at this
 simp only [List.take_zero,List.map_nil,List.append_nil] at this;exact this
theorem zbge (a b:yC) (ha:∀ t∈a,VT t) (hb:∀ t∈b,VT t) (hal:a.length≤512) (hbl:b.length≤512) (n:Nat) (hn:a.length<n):
  zBp n b a a.length 0 []=(true,zfS a b):=by
 have:=zeh (W:=zBu) (z:=default) a.length (fun i=>(b,(),a,(a.length:Int),(i:Int),())) (fun i=>(zfS (a.take i) b,())) (fun _=>true) default (zfS a b)
  (fun i hi H K D=>by
   show (zoK b a a.length i (zfS (a.take i) b)).ev H K D=_;unfold zoK;have hx:=ha _ (zt hi)
   have hlen:(zfS (a.take i) b).length≤1000000:=by
    rw [zW9,List.length_take];have:=Nat.mul_le_mul (show min i a.length≤512 by omega) hbl
    omega
   simp only [Wy.ev_i,Wy.ev_k,Wy.ev_h,Wy.ev_bn,Wy.ev_d,tT,hi];rw [zbf8 a b i _ hx hb hbl _ hlen _ (by omega)]
   simp only [cond_true];rw [zQ (by omega),zkm hi]
   have e:zfS (a.take i++[a.getD i default]) b=zfS (a.take i) b++b.map (zl1 (a.getD i default)):=by
    unfold zfS; rw [List.flatMap_append]; simp
   rw [e])
  (fun H K D=>by
   show (zoK b a a.length a.length (zfS (a.take a.length) b)).ev H K D=_;unfold zoK;simp only [Wy.ev_i,Wy.ev_k,tT,Nat.lt_irrefl,List.take_length]) n hn
 rw [show allN (fun _=>true) a.length 0=true from zeu.2 fun _ _ _=>rfl] at this
 exact this
theorem szTs_get' (a:yC) (i:Nat) (h:i<a.length):(a.getD i default).Factors.length≤szTs a:=zLn a i h
theorem zbdf (a b:yC) (i:Int) (k:Nat) (hk:k<b.length) (out:yC) (c:Int) (x:Term) (hx:VT x) (hy:VT (b.getD k default)) (n:Nat) (hn:(b.getD k default).Factors.length<n):
  zJe n a b i k 0 out c x.Factors=(true,(a,b,i,(k:Int),out,c,zbN x.Factors (b.getD k default).Factors)):=by
 obtain ⟨gx,sx,lx,ex⟩:=hx;obtain ⟨gy0,sy,ly,ey⟩:=hy;have gy:∀ f∈(b.getD k default).Factors,GF f:=gy0.2.2;have sy:Srf (b.getD k default).Factors:=sy;clear gy0;generalize hF:(b.getD k default).Factors=F at *
 have key:∀ j,j<F.length→facA (F.getD j default) (zbN x.Factors (F.take j))=zbN x.Factors (F.take (j+1)):=fun j hj=>by
  have e1:=zR3 (F.take j) x.Factors (sy.sublist (List.take_sublist _ _)) (fun z hz=>(ex z hz).1) fun z hz=>(ey z (List.mem_of_mem_take hz)).1
  have e2:=zR3 (F.take (j+1)) x.Factors (sy.sublist (List.take_sublist _ _)) (fun z hz=>(ex z hz).1) fun z hz=>(ey z (List.mem_of_mem_take hz)).1
  rw [← e1, ← e2,zkm hj,List.foldl_append]; rfl
 have:=zeh (W:=zBw) (z:=default) F.length (fun j=>(a,b,(),i,(k:Int),(),(j:Int),())) (fun j=>(out,(c,zbN x.Factors (F.take j),()),())) (fun _=>true) default (a,b,i,(k:Int),out,c,zbN x.Factors F)
  (fun j hj H K D=>by
   show (zot a b i k j out c (zbN x.Factors (F.take j))).ev H K D=_;unfold zot;have hlen:=zMc x.Factors (F.take j);rw [List.length_take] at hlen;have hex:=fun z (hz:z∈zbN x.Factors (F.take j))=>zMg (B:=64) (fun z hz=>⟨(gx.2.2 z hz).2.1,(ex z hz).2⟩) (fun z hz=>⟨(gy z (List.mem_of_mem_take hz)).2.1,(ey z (List.mem_of_mem_take hz)).2⟩) hz
   have hfine:∀ z∈zbN x.Factors (F.take j),zcV (zo 9) z.Atom:=fun z hz=>by
    obtain ⟨w,hw,e⟩:=zuj hz;rw [e];rcases hw with hw | hw
    ·exact zxf (gx.2.2 w hw).1.1 (gx.2.2 w hw).1.2.2
    ·exact zxf (gy w (List.mem_of_mem_take hw)).1.1 (gy w (List.mem_of_mem_take hw)).1.2.2
   have hm:=zt hj;have e1:decide ((k:Int)<Int.ofNat b.length)=true:=by simp [hk]
   have e2:decide ((j:Int)<Int.ofNat F.length)=true:=by simp [hj]
   have efx:(FactorOf.mk (F.getD j default).Atom (F.getD j default).Exp:Factor)=F.getD j default:=rfl;simp only [Atom.eta,Wy.ev_i,Wy.ev_k,Wy.ev_h,Wy.ev_bn,Wy.ev_d,ze8,Bool.and_self,cond_true,Int.toNat_natCast,hF,e1,e2,efx];rw [zbeu (d:=9) _ _ (by omega) hfine (by omega) (fun z hz=>by have:=hex z hz; omega) (by have:=(gy _ hm).2; omega),cond_true,zQ (by omega),key j hj])
  (fun H K D=>by
   show (zot a b i k F.length out c (zbN x.Factors (F.take F.length))).ev H K D=_;unfold zot;have e1:decide ((k:Int)<Int.ofNat b.length)=true:=by simp [hk]
   have e2:decide ((F.length:Int)<Int.ofNat F.length)=false:=by simp
   simp only [Wy.ev_i,Wy.ev_k,ze8,Bool.and_self,cond_true,cond_false,Int.toNat_natCast,hF,e1,e2,List.take_length]) n hn
 rw [show allN (fun _=>true) F.length 0=true from zeu.2 fun _ _ _=>rfl] at this
 simp only [List.take_zero,zNF] at this;exact this
theorem zbeg (a b:yC) (i:Nat) (hi:i<a.length) (hal:a.length≤512) (hbl:b.length≤512) (hx:VT (a.getD i default)) (hb:∀ t∈b,VT t) (out:yC) (ho:out.length≤i*512) (hs:Srs out) (hg:∀ t∈out,GT t) (n:Nat) (hn:b.length<n):
  zKK n a b i 0 out=(true,(a,b,(i:Int),sumA out (b.map (zl1 (a.getD i default))))):=by
 have:=zc3 (W:=zCg) (z:=default) (l:=b) (fun k (o:yC)=>(a,b,(),(i:Int),(k:Int),())) (fun _ o=>(o,())) (fun y o=>.inl (putA (zl1 (a.getD i default) y) o)) (fun o=>(a,b,(i:Int),o)) (fun k o=>(o.length≤i*512+k∧Srs o)∧∀ t∈o,GT t)
  (fun k o hk hI=>.inl ⟨_,rfl,⟨⟨by have:=zXz (t:=zl1 (a.getD i default) (b.getD k default)) o; omega,zAL hI.1.2⟩,z7c (zR4 hx (hb _ (zt hk))) hI.1.2 hI.2⟩,fun H K D=>by
   show (zqZ a b i k o).ev H K D=_;unfold zqZ;have hy:=hb _ (zt hk);have hsz:=szTs_get' b k hk;simp only [Wy.ev_i,Wy.ev_k,Wy.ev_h,Wy.ev_bn,Wy.ev_d,tT,hk,hi,(z64 hx.1.1 hy.1.1).2];rw [zbdf a b i k hk o _ _ hx hy _ (by omega)]
   simp only [cond_true];have e:(TermOf.mk (zzL (a.getD i default).Coeff (b.getD k default).Coeff) (zbN (a.getD i default).Factors (b.getD k default).Factors):Term)=zl1 (a.getD i default) (b.getD k default):=rfl;have hg:=zR4 hx hy;rw [e,z9V (d:=9) o _ (by omega) (fun z hz=>(hI.2 z hz).fine) (by omega) (fun z hz=>(hI.2 z hz).1) hg.1]
   simp only [cond_true];rw [zQ (by omega)]⟩)
  (fun o hI H K D=>by
   show (zqZ a b i b.length o).ev H K D=_;unfold zqZ;simp only [Wy.ev_i,Wy.ev_k,tT,Nat.lt_irrefl]) n 0 out (by omega) (by omega) (show (out.length≤i*512+0∧Srs out)∧∀ t∈out,GT t from ⟨⟨Nat.le_trans ho (Nat.le_add_right _ _),hs⟩,hg⟩)
 rw [List.drop_zero,zc4] at this
 have e:∀ (l:yC) (o:yC),l.foldl (fun s t=>putA (zl1 (a.getD i default) t) s) o=sumA o (l.map (zl1 (a.getD i default))):=fun l=>by
  induction l with
  | nil=>intro o; rfl
  | cons y r ih=>intro o; rw [List.foldl_cons,ih]; rfl
 rw [e] at this;exact this
theorem z8T (o:yC) (b:yC) (x:Term):(sumA o (b.map (zl1 x))).length≤o.length+b.length:=by
 have:=zKu (b.map (zl1 x)) o
 rwa [List.length_map] at this
theorem zbcQ (a b:yC) (ha:∀ t∈a,VT t) (hb:∀ t∈b,VT t) (hal:a.length≤512) (hbl:b.length≤512):zoc a b=(true,zuV a b):=by
 unfold zoc zNv
 have:=zc3 (W:=zCh) (z:=default) (l:=a) (fun i (o:yC)=>(a,b,(),(i:Int),())) (fun _ o=>(o,())) (fun x o=>.inl (sumA o (b.map (zl1 x)))) (fun o=>o) (fun i o=>(o.length≤i*512∧Srs o)∧∀ t∈o,GT t)
  (fun i o hi hI=>.inl ⟨_,rfl,⟨⟨by have:=z8T o b (a.getD i default); omega,zPu _ _ hI.1.2⟩,zQH _ _ hI.1.2 hI.2 fun t ht=>by
    obtain ⟨y,hy,rfl⟩:=List.mem_map.1 ht;exact zR4 (ha _ (zt hi)) (hb y hy)⟩,fun H K D=>by
   show (zqP a b i o).ev H K D=_;unfold zqP;have e1:decide ((i:Int)<Int.ofNat a.length)=true:=by simp [hi]
   simp only [Wy.ev_i,Wy.ev_k,Wy.ev_h,Wy.ev_bn,Wy.ev_d,e1,cond_true];rw [zbeg a b i hi hal hbl (ha _ (zt hi)) hb o hI.1.1 hI.1.2 hI.2 _ (by omega)]
   simp only [cond_true];rw [zQ (by omega)]⟩)
  (fun o hI H K D=>by
   show (zqP a b a.length o).ev H K D=_;unfold zqP;have e1:decide ((a.length:Int)<Int.ofNat a.length)=false:=by simp
   simp only [Wy.ev_i,Wy.ev_k,e1,cond_false]) ((a.length+b.length+Int.toNat (0:Int)+(0:Nat)+(1:Nat))+szTs a+szTs b+szTs []) 0 [] (by omega) (by omega) ⟨⟨by simp,.nil⟩,fun t ht=>by cases ht⟩
 rw [List.drop_zero,zc4] at this
 have e:∀ (l:yC) (o:yC),l.foldl (fun s x=>sumA s (b.map (zl1 x))) o=sumA o (zfS l b):=fun l=>by
  induction l with
  | nil=>intro o; rfl
  | cons y r ih=>
   intro o;rw [List.foldl_cons,ih];show _=(zfS (y::r) b).foldl (fun a t=>putA t a) o
   unfold zfS;rw [List.flatMap_cons,List.foldl_append]; rfl
 rw [e] at this;have this:zL2 ((a.length+b.length+Int.toNat (0:Int)+(0:Nat)+(1:Nat))+szTs a+szTs b+szTs []) a b 0 []=(true,zuV a b):=this;rw [Wy.fin_bn,this]; rfl
theorem zbdQ (a b:yC) (ha:∀ t∈a,GT t) (hb:∀ t∈b,GT t) (hs:Srs a) (hal:a.length≤512) (hbl:b.length≤512):zCD a b=(true,sumA a b):=by
 unfold zCD zZp
 have:=zc3 (W:=zK4) (z:=default) (l:=b) (fun i (o:yC)=>(o,b,(i:Int),())) (fun _ o=>()) (fun x o=>.inl (putA x o)) (fun o=>o) (fun i o=>(o.length≤512+i∧Srs o)∧∀ t∈o,GT t)
  (fun i o hi hI=>.inl ⟨_,rfl,⟨⟨by have:=zXz (t:=b.getD i default) o; omega,zAL hI.1.2⟩,z7c (hb _ (zt hi)) hI.1.2 hI.2⟩,fun H K D=>by
   show (zAd o b i).ev H K D=_;unfold zAd;simp only [Wy.ev_i,Wy.ev_k,Wy.ev_h,Wy.ev_bn,Wy.ev_d,tT,hi];rw [z9V (d:=9) o _ (by omega) (fun z hz=>(hI.2 z hz).fine) (by omega) (fun z hz=>(hI.2 z hz).1) (hb _ (zt hi)).1,cond_true,zQ (by omega)]⟩)
  (fun o hI H K D=>by
   show (zAd o b b.length).ev H K D=_;unfold zAd;simp only [Wy.ev_i,Wy.ev_k,tT,Nat.lt_irrefl]) (a.length+b.length+Int.toNat (0:Int)+(1:Nat)) 0 a (by omega) (by omega) ⟨⟨by omega,hs⟩,ha⟩
 rw [List.drop_zero,zc4] at this;have this:zU4 (a.length+b.length+Int.toNat (0:Int)+(1:Nat)) a b 0=(true,sumA a b):=this;rw [Wy.fin_bn,this]; rfl
def okA (a:yC):Prop:=(zo 12 a∧zM a≤4611686018427387904)∧zgr a∧a.length≤roomLen
def opR (ok:Bool) (r:yC×Int):yC×Int:=bif ok then r else ([],1)
def addR (a b:yC):yC×Int:=opR (zC a&&zC b) (fitR (sumA a b))
def mulR (a b:yC):yC×Int:=opR (zC a&&zC b) (fitR (zuV a b))
def monA (a b:yC):Atom:=⟨1,⟨0,0⟩,[a,b],0,[],0,⟨0,0,ByteArray.mk #[]⟩⟩
def delA (a:yC):Atom:=⟨2,⟨0,0⟩,[a],0,[],0,⟨0,0,ByteArray.mk #[]⟩⟩
def absA (a:yC):Atom:=⟨3,⟨0,0⟩,[a],0,[],0,⟨0,0,ByteArray.mk #[]⟩⟩
def monR (a b:yC):yC×Int:=opR (zC a&&zC b) (if b=[] then (a,0) else if a=[]∨a=b then ([],0) else fitR (oneA (monA a b)))
def delR (a:yC):yC×Int:=opR (zC a) (if a=[]∨isU a=true then (a,0) else if isC a=true then ([⟨1,[]⟩],0) else fitR (oneA (delA a)))
def absR (a:yC):yC×Int:=opR (zC a) (if a=[] then ([⟨1,[]⟩],0) else if hasC a=true then ([],0) else fitR (oneA (absA a)))
theorem okA.valid {a:yC} (h:okA a):zbU a=(true,zC a):=zNt h.1.1 (by omega) h.1.2
theorem okA.rvalid {a:yC} (h:okA a):zeP a=(true,zC a):=z2R h.1.1 (by omega) h.1.2
theorem z7p {a b:yC} (ha:okA a) (hb:okA b):zp2 a b=(true,addR a b)∧zWR a b=(true,addR a b):=by
 unfold zp2 zKy zWR zZQ addR;simp only [Wy.fin_bn,Wy.fin_i,Wy.fin_k,ha.valid,hb.valid,ha.rvalid,hb.rvalid,cond_true];cases va:zC a with
 | false=>first | exact ⟨trivial,trivial⟩ | exact ⟨rfl,rfl⟩ | exact ⟨trivial,rfl⟩ | exact ⟨rfl,trivial⟩
 | true=>
  cases vb:zC b with
  | false=>first | exact ⟨trivial,trivial⟩ | exact ⟨rfl,rfl⟩ | exact ⟨trivial,rfl⟩ | exact ⟨rfl,trivial⟩
  | true=>
   obtain ⟨sa,la,ta⟩:=zwJ va ha.2.1;obtain ⟨sb,lb,tb⟩:=zwJ vb hb.2.1;have ga:∀ t∈a,GT t:=fun t ht=>(ta t ht).1
   have gb:∀ t∈b,GT t:=fun t ht=>(tb t ht).1
   have hc:=zbci [a,b] (by simp) (fun l hl=>by
    simp only [qd,List.not_mem_nil,or_false] at hl;rcases hl with rfl | rfl <;>omega)
   have e:[a,b].flatten=a++b:=by simp
   have hcol:=z2L (a++b) (by simp; omega) fun t ht=>by
    rcases List.mem_append.1 ht with ht | ht
    ·exact ga t ht
    ·exact gb t ht
   rw [e] at hc;rw [zbej a b sa] at hcol;have hsl:(sumA a b).length≤1000000:=by have:=zKu b a; omega
   obtain ⟨f1,f2⟩:=z8q hsl (zQH b a sa ga gb);simp only [Bool.not_true,cond_false,Bool.and_self,hc,hcol,zAW f1 (by omega:10≤100) f2,zbdQ a b ga gb sa la lb,zPG f1 (by omega:10≤100) f2,cond_true]
   first | exact ⟨trivial,trivial⟩ | exact ⟨rfl,rfl⟩ | exact ⟨trivial,rfl⟩ | exact ⟨rfl,trivial⟩
theorem zbbX {a b:yC} (ha:okA a) (hb:okA b):zvA a b=(true,mulR a b)∧zVy a b=(true,mulR a b):=by
 unfold zvA zMe zVy zZJ mulR;simp only [Wy.fin_bn,Wy.fin_i,Wy.fin_k,ha.valid,hb.valid,ha.rvalid,hb.rvalid,cond_true];cases va:zC a with
 | false=>first | exact ⟨trivial,trivial⟩ | exact ⟨rfl,rfl⟩ | exact ⟨trivial,rfl⟩ | exact ⟨rfl,trivial⟩
 | true=>
  cases vb:zC b with
  | false=>first | exact ⟨trivial,trivial⟩ | exact ⟨rfl,rfl⟩ | exact ⟨trivial,rfl⟩ | exact ⟨rfl,trivial⟩
  | true=>
   obtain ⟨sa,la,ta⟩:=zwJ va ha.2.1;obtain ⟨sb,lb,tb⟩:=zwJ vb hb.2.1;have hm:=zbge a b ta tb la lb (b.length+a.length+(Int.ofNat a.length).toNat +Int.toNat (0:Int)+(0:Nat)+(1:Nat)) (by omega)
   have hm:zBp (b.length+a.length+(Int.ofNat a.length).toNat +Int.toNat (0:Int)+(0:Nat)+(1:Nat)) b a (Int.ofNat a.length) 0 []=_:=hm;have hpl:(zfS a b).length≤1000000:=by rw [zW9]; have:=Nat.mul_le_mul la lb; omega
   have hcol:=z2L (zfS a b) hpl (zZ8 ta tb);have hsl:(zuV a b).length≤1000000:=by have:=zKu (zfS a b) []; simp at this; exact Nat.le_trans this hpl
   obtain ⟨f1,f2⟩:=z8q hsl (zQH (zfS a b) [] .nil (fun t ht=>by cases ht) (zZ8 ta tb))
   have f1:zo 10 (zuV a b):=f1;have f2:zM (zuV a b)≤4611686018427387904:=f2;have hcol:zhP (zfS a b)=(true,zuV a b):=hcol;simp only [Bool.not_true,cond_false,Bool.and_self,hm,hcol,zAW f1 (by omega:10≤100) f2,zbcQ a b ta tb la lb,zPG f1 (by omega:10≤100) f2,cond_true]
   first | exact ⟨trivial,trivial⟩ | exact ⟨rfl,rfl⟩ | exact ⟨trivial,rfl⟩ | exact ⟨rfl,trivial⟩
theorem zSy {l:yA} {k:Int} (hl:l.length≤2) (h:∀ a∈l,zC a=true):zo 10 (oneA ⟨k,⟨0,0⟩,l,0,[],0,⟨0,0,ByteArray.mk #[]⟩⟩)∧zM (oneA ⟨k,⟨0,0⟩,l,0,[],0,⟨0,0,ByteArray.mk #[]⟩⟩)≤4611686018427387904:=by
 constructor
 ·exact zNN ⟨⟨by simp only; omega,by simp,by show (ByteArray.mk #[]).size≤_; decide⟩,fun a ha=>(ze2 (h a ha)).1,fun w hw=>(by cases hw)⟩
 ·rw [z03,zg9]
  have hb:∀ l:yA,(∀ a∈l,zC a=true)→ze9 l≤l.length*4096:=fun l=>by
   induction l with
   | nil=>intro _; rw [zgA]; simp
   | cons a r ih=>
    intro h;have h1:=(ze2 (h a (by simp))).2.1
    have h2:=ih fun b hb=>h b (by simp [hb])
    rw [zeU,qf,Nat.add_mul]; omega
  have:=hb l h;show 2+(ze9 l+zdn [])≤_;rw [zfE];have:=Nat.mul_le_mul hl (Nat.le_refl 4096);omega
theorem z4k (a:yC):(Int.ofNat a.length==(0:Int))=decide (a=[]):=by
 rw [show (Int.ofNat a.length==(0:Int))=(a.length==0) from zxa _ 0,beqn]
 congr 1;rw [List.length_eq_zero_iff]
theorem z7w {a b:yC} (ha:okA a) (hb:okA b):zqy a b=(true,monR a b)∧zPn a b=(true,monR a b):=by
 unfold zqy zHv zPn zTe monR;simp only [Wy.fin_bn,Wy.fin_i,Wy.fin_k,ha.valid,hb.valid,ha.rvalid,hb.rvalid,cond_true];cases va:zC a with
 | false=>first | exact ⟨trivial,trivial⟩ | exact ⟨rfl,rfl⟩ | exact ⟨trivial,rfl⟩ | exact ⟨rfl,trivial⟩
 | true=>
  cases vb:zC b with
  | false=>first | exact ⟨trivial,trivial⟩ | exact ⟨rfl,rfl⟩ | exact ⟨trivial,rfl⟩ | exact ⟨rfl,trivial⟩
  | true=>
   obtain ⟨f1,f2⟩:=zSy (l:=[a,b]) (k:=1) (by simp) (fun x hx=>by
    simp only [qd,List.not_mem_nil,or_false] at hx;rcases hx with rfl | rfl
    ·exact va
    ·exact vb)
   simp only [Bool.not_true,cond_false,Bool.and_self,z4k,zG7 ha.1.1 (by omega:12≤100),zrM ha.1.1 (by omega:12≤100),zTj ha.1.1 (by omega:12≤100),zGL,zQ7,zAW f1 (by omega:10≤100) f2,zPG f1 (by omega:10≤100) f2,cond_true,opR]
   by_cases hb0:b=[]
   ·simp only [hb0,decide_true,cond_true,if_true]; exact ⟨trivial,trivial⟩
   ·by_cases ha0:a=[]
    ·simp only [hb0,ha0,decide_true,decide_false,cond_true,cond_false,if_true,if_false,true_or]; exact ⟨trivial,trivial⟩
    ·by_cases hab:a=b
     ·simp only [hb0,ha0,hab,decide_true,decide_false,cond_true,cond_false,if_true,if_false,or_true]; exact ⟨trivial,trivial⟩
     ·simp only [hb0,ha0,hab,decide_false,cond_false,if_false,or_self]; first | exact ⟨trivial,trivial⟩ | exact ⟨rfl,rfl⟩ | exact ⟨trivial,rfl⟩ | exact ⟨rfl,trivial⟩
theorem z8d {a:yC} (ha:okA a):zqL a=(true,delR a)∧zBD a=(true,delR a):=by
 unfold zqL zHz zBD zS5 delR;simp only [Wy.fin_bn,Wy.fin_i,Wy.fin_k,ha.valid,ha.rvalid,cond_true];cases va:zC a with
 | false=>first | exact ⟨trivial,trivial⟩ | exact ⟨rfl,rfl⟩ | exact ⟨trivial,rfl⟩ | exact ⟨rfl,trivial⟩
 | true=>
  obtain ⟨f1,f2⟩:=zSy (l:=[a]) (k:=2) (by simp) (fun x hx=>by rw [qh] at hx; subst hx; exact va)
  have hla:a.length≤1000000000:=by have:=(ze2 va).2.2; omega
  have hbu:isB a=isU a:=zWj va;simp only [Bool.not_true,cond_false,z4k,zG7 ha.1.1 (by omega:12≤100),z42,zTo,zNT,zBm a hla,zGL,zQ7,zAW f1 (by omega:10≤100) f2,zPG f1 (by omega:10≤100) f2,cond_true,opR,hbu]
  rw [show fitR (oneA ⟨2,⟨0,0⟩,[a],0,[],0,⟨0,0,ByteArray.mk #[]⟩⟩)=fitR (oneA (delA a)) from rfl]
  clear f1 f2;generalize fitR (oneA (delA a))=R;by_cases h0:a=[]
  ·simp only [h0,decide_true,cond_true,if_true,true_or]; exact ⟨trivial,trivial⟩
  ·cases hu:isU a with
   | true=>simp only [h0,decide_false,cond_false,cond_true,if_true,or_true]; exact ⟨trivial,trivial⟩
   | false=>
    simp only [h0,decide_false,cond_false,if_false,or_self,Bool.false_eq_true]
    match a,h0 with
    | [t],_=>
     have e1:hasC [t]=(t.Factors.length==0):=by simp [hasC]
     have e2:isC [t]=(t.Factors.length==0):=rfl;rw [e1,e2];cases (t.Factors.length==0) with
     | true=>simp only [cond_true,if_true]; first | exact ⟨trivial,trivial⟩ | exact ⟨rfl,rfl⟩ | exact ⟨trivial,rfl⟩ | exact ⟨rfl,trivial⟩
     | false=>simp only [cond_false,cond_true,Bool.false_eq_true,if_false]; first | exact ⟨trivial,trivial⟩ | exact ⟨rfl,rfl⟩ | exact ⟨trivial,rfl⟩ | exact ⟨rfl,trivial⟩
    | t::s::r,_=>
     have e2:isC (t::s::r)=false:=rfl;simp only [len2,e2,cond_false,cond_true,Bool.false_eq_true,if_false]
     first | exact ⟨trivial,trivial⟩ | exact ⟨rfl,rfl⟩ | exact ⟨trivial,rfl⟩ | exact ⟨rfl,trivial⟩
theorem z5e {a:yC} (ha:okA a):zoL a=(true,absR a)∧zLc a=(true,absR a):=by
 unfold zoL zFa zLc zQf absR;simp only [Wy.fin_bn,Wy.fin_i,Wy.fin_k,ha.valid,ha.rvalid,cond_true];cases va:zC a with
 | false=>first | exact ⟨trivial,trivial⟩ | exact ⟨rfl,rfl⟩ | exact ⟨trivial,rfl⟩ | exact ⟨rfl,trivial⟩
 | true=>
  obtain ⟨f1,f2⟩:=zSy (l:=[a]) (k:=3) (by simp) (fun x hx=>by rw [qh] at hx; subst hx; exact va)
  have hla:a.length≤1000000000:=by have:=(ze2 va).2.2; omega
  simp only [Bool.not_true,cond_false,z4k,zQ9 a hla,zBm a hla,zGL,zQ7,zAW f1 (by omega:10≤100) f2,zPG f1 (by omega:10≤100) f2,cond_true,opR]
  by_cases h0:a=[]
  ·simp only [h0,decide_true,cond_true,if_true]; first | exact ⟨trivial,trivial⟩ | exact ⟨rfl,rfl⟩ | exact ⟨trivial,rfl⟩ | exact ⟨rfl,trivial⟩
  ·cases hu:hasC a with
   | true=>simp only [h0,decide_false,cond_false,cond_true,if_true,if_false]; exact ⟨trivial,trivial⟩
   | false=>simp only [h0,decide_false,cond_false,if_false,Bool.false_eq_true]; first | exact ⟨trivial,trivial⟩ | exact ⟨rfl,rfl⟩ | exact ⟨trivial,rfl⟩ | exact ⟨rfl,trivial⟩
end Go.Proofs.YtljlfiomikifjaaGreatDoor
end
