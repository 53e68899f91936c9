/- Texts of this claim, joined (the program, its functions in plain words, and what they compute). -/
import Derived.Test.YtljlfiomikifjaaGreatDoorGC8
set_option autoImplicit false
set_option linter.unusedVariables false
set_option linter.unusedSectionVars false
set_option linter.unusedSimpArgs false
set_option maxRecDepth 1000000
set_option maxHeartbeats 0
/- Sums and products of zSk lists: two ways of computing them. -/
noncomputable section
namespace Go.Proofs.YtljlfiomikifjaaGreatDoor
open Go Go.Ab
def zzn (a b:Int):Int:=if 1152921504606846976<a+b then 1152921504606846976 else a+b
def cT (x y:Term):Int:=zbO (zbD x.Fs) (zbD y.Fs)
theorem zZh {x y:Term} (h:cT x y=0):x.Fs=y.Fs:=zCA _ _ (zK1 _ _ h)
theorem zC4 {x y:Term} (h:x.Fs=y.Fs):cT x y=0:=by unfold cT; rw [h]; exact zXG _
def zhO (t:Term):yC→yC
 | []=>[t]
 | x::r=>if cT x t<0 then x::zhO t r else if cT x t=0 then ⟨zzn x.Cf t.Cf,t.Fs⟩::r else t::x::r
def znB (t:Term):yC→yC
 | []=>[t]
 | x::r=>if x.Fs=t.Fs then ⟨zzn x.Cf t.Cf,x.Fs⟩::r else x::znB t r
abbrev Srs (l:yC):Prop:=l.Pairwise fun x y=>cT x y<0
abbrev Dst (l:yC):Prop:=l.Pairwise fun x y=>x.Fs≠y.Fs
theorem Srs.dst {l:yC} (h:Srs l):Dst l:=h.imp fun {x y} hxy e=>by rw [zC4 e] at hxy; omega
def SM (l:yC) (t y:Term):Prop:=(y∈l∧y.Fs≠t.Fs)∨(y.Fs=t.Fs∧((∃ x∈l,x.Fs=t.Fs∧y.Cf=zzn x.Cf t.Cf)∨((∀ x∈l,x.Fs≠t.Fs)∧y.Cf=t.Cf)))
theorem zbbO {x y:Term} (h1:x.Cf=y.Cf) (h2:x.Fs=y.Fs):x=y:=by cases x; cases y; simp_all
theorem zGn {x y z:Term} (h1:cT x y<0) (h2:cT y z<0):cT x z<0:=z8b h1 h2
theorem zGv (x y:Term):cT y x= - cT x y:=zHJ _ _
theorem z4V {x t y:Term} {r:yC} (hx:x.Fs≠t.Fs) (hr:∀ z∈r,x.Fs≠z.Fs):SM (x::r) t y↔y=x∨SM r t y:=by
 unfold SM;constructor
 ·rintro (⟨h1,h2⟩ | ⟨h1,⟨z,hz,h2,h3⟩ | ⟨h2,h3⟩⟩)
  ·rcases qd.1 h1 with rfl | h1
   ·exact .inl rfl
   ·exact .inr (.inl ⟨h1,h2⟩)
  ·rcases qd.1 hz with rfl | hz
   ·exact absurd h2 hx
   ·exact .inr (.inr ⟨h1,.inl ⟨z,hz,h2,h3⟩⟩)
  ·exact .inr (.inr ⟨h1,.inr ⟨fun z hz=>h2 z (by simp [hz]),h3⟩⟩)
 ·rintro (rfl | ⟨h1,h2⟩ | ⟨h1,⟨z,hz,h2,h3⟩ | ⟨h2,h3⟩⟩)
  ·exact .inl ⟨by simp,hx⟩
  ·exact .inl ⟨by simp [h1],h2⟩
  ·exact .inr ⟨h1,.inl ⟨z,by simp [hz],h2,h3⟩⟩
  ·exact .inr ⟨h1,.inr ⟨fun z hz=>by
    rcases qd.1 hz with rfl | hz
    ·exact hx
    ·exact h2 z hz,h3⟩⟩
theorem z40 {t y:Term} {l:yC} (h:∀ z∈l,z.Fs≠t.Fs):SM l t y↔y=t∨y∈l:=by
 unfold SM;constructor
 ·rintro (⟨h1,h2⟩ | ⟨h1,⟨z,hz,h2,h3⟩ | ⟨h2,h3⟩⟩)
  ·exact .inr h1
  ·exact absurd h2 (h z hz)
  ·exact .inl (zbbO h3 h1)
 ·rintro (rfl | h1)
  ·exact .inr ⟨rfl,.inr ⟨h,rfl⟩⟩
  ·exact .inl ⟨h1,h y h1⟩
theorem zbdW {x t y:Term} {r:yC} (hx:x.Fs=t.Fs) (hr:∀ z∈r,z.Fs≠t.Fs):SM (x::r) t y↔y=⟨zzn x.Cf t.Cf,t.Fs⟩∨y∈r:=by
 unfold SM;constructor
 ·rintro (⟨h1,h2⟩ | ⟨h1,⟨z,hz,h2,h3⟩ | ⟨h2,h3⟩⟩)
  ·rcases qd.1 h1 with rfl | h1
   ·exact absurd hx h2
   ·exact .inr h1
  ·rcases qd.1 hz with rfl | hz
   ·exact .inl (zbbO h3 h1)
   ·exact absurd h2 (hr z hz)
  ·exact absurd hx (h2 x (by simp))
 ·rintro (rfl | h1)
  ·exact .inr ⟨rfl,.inl ⟨x,by simp,hx,rfl⟩⟩
  ·exact .inl ⟨by simp [h1],hr y h1⟩
theorem zAU {t y:Term}:∀ {l:yC},Srs l→(y∈zhO t l↔SM l t y)
 | [],_=>by rw [z40 (by simp)]; simp [zhO]
 | x::r,h=>by
  have hc:=qi.1 h;have hd:=qi.1 h.dst;unfold zhO;by_cases h1:cT x t<0
  ·rw [if_pos h1,qd,z4V (fun e=>by rw [zC4 e] at h1; omega) hd.1,zAU hc.2]
  ·rw [if_neg h1];by_cases h2:cT x t=0
   ·rw [if_pos h2,List.mem_cons,zbdW (zZh h2) fun z hz e=>by
     have:=hc.1 z hz; rw [zC4 ((zZh h2).trans e.symm)] at this; omega]
   ·rw [if_neg h2,z40 fun z hz e=>by
     have a:=zGv x t;rcases qd.1 hz with rfl | hz
     ·exact h2 (zC4 e)
     ·have b:=zGn (show cT t x<0 by omega) (hc.1 z hz)
      rw [zC4 e.symm] at b; omega]
    rw [qd]
theorem z5n {t y:Term}:∀ {l:yC},Dst l→(y∈znB t l↔SM l t y)
 | [],_=>by rw [z40 (by simp)]; simp [znB]
 | x::r,h=>by
  have hd:=qi.1 h;unfold znB;by_cases h2:x.Fs=t.Fs
  ·rw [if_pos h2,qd,zbdW h2 fun z hz e=>hd.1 z hz (h2.trans e.symm),h2]
  ·rw [if_neg h2,qd,z4V h2 hd.1,z5n hd.2]
theorem zAT {t:Term}:∀ {l:yC},Srs l→Srs (zhO t l)
 | [],_=>by simp [zhO]
 | x::r,h=>by
  have hc:=qi.1 h;unfold zhO;by_cases h1:cT x t<0
  ·rw [if_pos h1];refine qi.2 ⟨fun z hz=> ?_,zAT hc.2⟩
   rcases (zAU hc.2).1 hz with ⟨h2,_⟩ | ⟨h2,_⟩
   ·exact hc.1 z h2
   ·have:cT x z=cT x t:=by unfold cT; rw [h2]
    rw [this]; exact h1
  ·rw [if_neg h1];by_cases h2:cT x t=0
   ·rw [if_pos h2];refine qi.2 ⟨fun z hz=> ?_,hc.2⟩
    have:=hc.1 z hz;unfold cT at this ⊢;rw [← zZh h2]; exact this
   ·rw [if_neg h2];have a:=zGv x t;refine qi.2 ⟨fun z hz=> ?_,h⟩
    rcases qd.1 hz with rfl | hz
    ·omega
    ·exact zGn (show cT t x<0 by omega) (hc.1 z hz)
theorem z5F {t:Term}:∀ {l:yC},Dst l→Dst (znB t l)
 | [],_=>by simp [znB]
 | x::r,h=>by
  have hc:=qi.1 h;unfold znB;by_cases h2:x.Fs=t.Fs
  ·rw [if_pos h2];exact qi.2 ⟨fun z hz=>hc.1 z hz,hc.2⟩
  ·rw [if_neg h2];refine qi.2 ⟨fun z hz=> ?_,z5F hc.2⟩
   rcases (z5n hc.2).1 hz with ⟨h3,_⟩ | ⟨h3,_⟩
   ·exact hc.1 z h3
   ·rw [h3]; exact h2
theorem Dst.nodup {l:yC} (h:Dst l):l.Nodup:=h.imp fun {x y} hxy e=>hxy (by rw [e])
theorem zbgL {l l':yC} (h:l.Perm l') (t y:Term):SM l t y↔SM l' t y:=by
 unfold SM;simp only [h.mem_iff]
theorem zbdI {l l':yC} (t:Term) (h:l.Perm l') (hs:Srs l) (hd:Dst l'):(zhO t l).Perm (znB t l'):=
 (List.perm_ext_iff_of_nodup (zAT hs).dst.nodup (z5F hd).nodup).2 fun y=>by rw [zAU hs,z5n hd,zbgL h]
def zeo (a b:yC):yC:=b.foldl (fun a t=>zhO t a) a
def zO0 (ts:yC):yC:=ts.foldl (fun a t=>znB t a) []
theorem zKX:∀ (b a:yC),Srs a→Srs (zeo a b)
 | [],_,h=>h
 | t::r,a,h=>zKX r (zhO t a) (zAT h)
theorem z7g:∀ (ts l l':yC),l.Perm l'→Srs l→Dst l'→(zeo l ts).Perm (ts.foldl (fun a t=>znB t a) l')∧Dst (ts.foldl (fun a t=>znB t a) l')
 | [],l,l',h,_,hd=>⟨h,hd⟩
 | t::r,l,l',h,hs,hd=>z7g r (zhO t l) (znB t l') (zbdI t h hs hd) (zAT hs) (z5F hd)
theorem z80 {t:Term}:∀ {l:yC},(∀ x∈l,cT x t<0)→zhO t l=l++[t]
 | [],_=>rfl
 | x::r,h=>by
  unfold zhO;rw [if_pos (h x (by simp)),z80 fun y hy=>h y (by simp [hy])]; rfl
theorem z6l:∀ (r l:yC),Srs (l++r)→zeo l r=l++r
 | [],l,_=>by simp [zeo]
 | t::r,l,h=>by
  have e:zeo l (t::r)=zeo (zhO t l) r:=rfl;have hp:=List.pairwise_append.1 h;rw [e,z80 fun x hx=>hp.2.2 x hx t (by simp),z6l r (l++[t]) (by simpa using h)]
  simp
theorem sum_nil {a:yC} (h:Srs a):zeo [] a=a:=z6l a [] h
theorem zbgI (a b:yC) (h:Srs a):zeo [] (a++b)=zeo a b:=by
 show (a++b).foldl (fun a t=>zhO t a) []=_
 rw [List.foldl_append];show zeo (zeo [] a) b=_;rw [sum_nil h]
theorem zC0 {y:Term}:∀ (b a:yC),Srs a→y∈zeo a b→∃ x,(x∈a∨x∈b)∧y.Fs=x.Fs
 | [],a,_,h=>⟨y,.inl h,rfl⟩
 | t::r,a,hs,h=>by
  obtain ⟨x,hx,e⟩:=zC0 r (zhO t a) (zAT hs) h;rcases hx with hx | hx
  ·rcases (zAU hs).1 hx with ⟨h1,_⟩ | ⟨h1,_⟩
   ·exact ⟨x,.inl h1,e⟩
   ·exact ⟨t,.inr (by simp),e.trans h1⟩
  ·exact ⟨x,.inr (by simp [hx]),e⟩
theorem z6A {a b:Int} (ha:1≤a) (hb:1≤b):1≤zzn a b∧zzn a b≤1152921504606846976:=by
 unfold zzn;split
 ·omega
 ·omega
def cOK (t:Term):Prop:=1≤t.Cf∧t.Cf≤1152921504606846976
theorem zbcG {t:Term} (ht:cOK t):∀ {l:yC},(∀ x∈l,cOK x)→∀ x∈zhO t l,cOK x
 | [],_,x,hx=>by simp only [zhO,qh] at hx; subst hx; exact ht
 | y::r,h,x,hx=>by
  unfold zhO at hx;split at hx
  ·rcases qd.1 hx with rfl | hx
   ·exact h _ (by simp)
   ·exact zbcG ht (fun z hz=>h z (by simp [hz])) x hx
  ·split at hx
   ·rcases qd.1 hx with rfl | hx
    ·exact z6A (h y (by simp)).1 ht.1
    ·exact h x (by simp [hx])
   ·rcases qd.1 hx with rfl | hx
    ·exact ht
    ·exact h x hx
theorem z8h:∀ (b:yC) {a:yC},(∀ x∈a,cOK x)→(∀ x∈b,cOK x)→∀ x∈zeo a b,cOK x
 | [],a,ha,_=>ha
 | t::r,a,ha,hb=>z8h r (zbcG (hb t (by simp)) ha) fun x hx=>hb x (by simp [hx])
theorem zY9 {t:Term}:∀ (l:yC),(zhO t l).length≤l.length+1
 | []=>by simp [zhO]
 | x::r=>by
  have:=zY9 (t:=t) r;unfold zhO;split
  ·simp only [qf]; omega
  ·split <;>simp
theorem zKW:∀ (b a:yC),(zeo a b).length≤a.length+b.length
 | [],a=>by simp [zeo]
 | t::r,a=>by
  have h1:=zKW r (zhO t a);have h2:=zY9 (t:=t) a;show (zeo (zhO t a) r).length≤_;simp only [qf]; omega
def cF (x y:Fc):Int:=zbc (zdD x.At) (zdD y.At)
theorem z5w {x y:Fc} (h:cF x y=0):x.At=y.At:=z4I _ _ (zvk _ _ h)
theorem zba1 (x y:Fc):cF y x= - cF x y:=zgX _ _
theorem z7B {a b c:TT} (h1:zbc a b<0) (h2:zbc b c<0):zbc a c<0:=by
 have h:=zwQ a b c (by omega) (by omega)
 by_cases e:zbc a c=0
 ·have e':=zvk a c e;subst e';have:=zgX a b;omega
 ·omega
theorem zAo {x y z:Fc} (h1:cF x y<0) (h2:cF y z<0):cF x z<0:=z7B h1 h2
abbrev Srf (l:yD):Prop:=l.Pairwise fun x y=>cF x y<0
def zIF (f:Fc):yD→yD
 | []=>[f]
 | x::r=>if cF x f<0 then x::zIF f r else if cF x f=0 then (if f.At.Kind<3 then ⟨f.At,x.Exp+f.Exp⟩ else f)::r else f::x::r
def zbt:yD→yD→yD
 | [],b=>b
 | x::a,[]=>x::a
 | x::a,y::b=>if cF x y<0 then x::zbt a (y::b) else if 0<cF x y then y::zbt (x::a) b else (if x.At.Kind=3∨x.At.Kind=4 then x else ⟨x.At,x.Exp+y.Exp⟩)::zbt a b
termination_by a b=>a.length+b.length
theorem zOJ (a:yD):zbt a []=a:=by cases a <;>rw [zbt]
theorem zNd {m:Fc} {L b:yD} (h:∀ z∈b,cF m z<0):zbt (m::L) b=m::zbt L b:=by
 cases b with
 | nil=>rw [zOJ,zOJ]
 | cons z b=>rw [zbt,if_pos (h z (by simp))]
def eOK (f:Fc):Prop:=(0≤f.At.Kind∧f.At.Kind≤4)∧(f.At.Kind=3∨f.At.Kind=4→f.Exp=1)
theorem z81 {y:Fc} {b:yD} (hb:∀ z∈b,cF y z<0) (hy:eOK y):∀ {a:yD},(∀ x∈a,eOK x)→zbt (zIF y a) b=zbt a (y::b)
 | [],_=>by
  rw [zIF,zNd hb,zbt,zbt]
 | x::a,ha=>by
  unfold zIF;by_cases h1:cF x y<0
  ·rw [if_pos h1,zNd fun z hz=>zAo h1 (hb z hz),z81 hb hy fun z hz=>ha z (by simp [hz]),zNd (m:=x) (b:=y::b) fun z hz=>by
    rcases qd.1 hz with rfl | hz
    ·exact h1
    ·exact zAo h1 (hb z hz)]
  ·rw [if_neg h1];by_cases h2:cF x y=0
   ·have ea:=z5w h2
    rw [if_pos h2,zNd fun z hz=>by
     have e:(if y.At.Kind<3 then (⟨y.At,x.Exp+y.Exp⟩:Fc) else y).At=y.At:=by split <;>rfl
     have:=hb z hz;unfold cF at this ⊢; rw [e]; exact this]
    rw [zbt,if_neg h1,if_neg (show ¬ 0<cF x y by omega)]
    congr 1;have hx:=ha x (by simp)
    obtain ⟨xa,xe⟩:=x;obtain ⟨ya,ye⟩:=y;simp only at ea;subst ea;obtain ⟨⟨k0,k4⟩,h3⟩:=hx;obtain ⟨_,h3'⟩:=hy;simp only at k0 k4 h3 h3' ⊢;by_cases hk:xa.Kind<3
    ·rw [if_pos hk,if_neg (by omega)]
    ·have hk':xa.Kind=3∨xa.Kind=4:=by omega
     rw [if_neg hk,if_pos hk',h3 hk',h3' hk']
   ·rw [if_neg h2,zNd hb];rw [zbt,if_neg h1,if_pos (by omega)]
theorem zS8:∀ (b a:yD),Srf b→(∀ x∈a,eOK x)→(∀ x∈b,eOK x)→b.foldl (fun l f=>zIF f l) a=zbt a b
 | [],a,_,_,_=>by rw [zOJ]; rfl
 | y::b,a,hs,ha,hb=>by
  have hc:=qi.1 hs;have hy:=hb y (by simp)
  rw [List.foldl_cons,zS8 b (zIF y a) hc.2 (fun x hx=> ?_) fun x hx=>hb x (by simp [hx]),z81 hc.1 hy ha]
  -- kinds and exponents are kept
  clear hs hc hb;induction a with
  | nil=>simp only [zIF,qh] at hx; subst hx; exact hy
  | cons z r ih=>
   unfold zIF at hx;split at hx
   ·rcases qd.1 hx with rfl | hx
    ·exact ha _ (by simp)
    ·exact ih (fun w hw=>ha w (by simp [hw])) hx
   ·split at hx
    ·rcases qd.1 hx with rfl | hx
     ·split
      ·rename_i hk; exact ⟨hy.1,fun h=>by simp only at h; omega⟩
      ·exact hy
     ·exact ha x (by simp [hx])
    ·rcases qd.1 hx with rfl | hx
     ·exact hy
     ·exact ha x hx
theorem zut {x:Fc}:∀ {a b:yD},x∈zbt a b→∃ y,(y∈a∨y∈b)∧x.At=y.At
 | [],b,h=>⟨x,.inr (by rwa [zbt] at h),rfl⟩
 | y::a,[],h=>⟨x,.inl (by rwa [zbt] at h),rfl⟩
 | y::a,z::b,h=>by
  rw [zbt] at h;split at h
  ·rcases qd.1 h with rfl | h
   ·exact ⟨x,.inl (by simp),rfl⟩
   ·obtain ⟨w,hw,e⟩:=zut h;rcases hw with hw | hw
    ·exact ⟨w,.inl (by simp [hw]),e⟩
    ·exact ⟨w,.inr hw,e⟩
  ·split at h
   ·rcases qd.1 h with rfl | h
    ·exact ⟨x,.inr (by simp),rfl⟩
    ·obtain ⟨w,hw,e⟩:=zut h;rcases hw with hw | hw
     ·exact ⟨w,.inl hw,e⟩
     ·exact ⟨w,.inr (by simp [hw]),e⟩
   ·rcases qd.1 h with rfl | h
    ·exact ⟨y,.inl (by simp),by split <;>rfl⟩
    ·obtain ⟨w,hw,e⟩:=zut h;rcases hw with hw | hw
     ·exact ⟨w,.inl (by simp [hw]),e⟩
     ·exact ⟨w,.inr (by simp [hw]),e⟩
termination_by a b=>a.length+b.length
theorem zMj:∀ (a b:yD),(zbt a b).length≤a.length+b.length
 | [],b=>by rw [zbt]; simp
 | y::a,[]=>by rw [zbt]; simp
 | y::a,z::b=>by
  rw [zbt];split
  ·have:=zMj a (z::b); simp only [qf] at this ⊢; omega
  ·split
   ·have:=zMj (y::a) b; simp only [qf] at this ⊢; omega
   ·have:=zMj a b; simp only [qf] at this ⊢; omega
termination_by a b=>a.length+b.length
theorem zMt {x:Fc} {B:Int}:∀ {a b:yD},(∀ y∈a,1≤y.Exp∧y.Exp≤B)→(∀ y∈b,1≤y.Exp∧y.Exp≤B)→x∈zbt a b→1≤x.Exp∧x.Exp≤2*B
 | [],b,ha,hb,h=>by rw [zbt] at h; have:=hb x h; omega
 | y::a,[],ha,hb,h=>by rw [zbt] at h; have:=ha x h; omega
 | y::a,z::b,ha,hb,h=>by
  have hy:=ha y (by simp)
  have hz:=hb z (by simp)
  rw [zbt] at h;split at h
  ·rcases qd.1 h with rfl | h
   ·omega
   ·exact zMt (fun w hw=>ha w (by simp [hw])) hb h
  ·split at h
   ·rcases qd.1 h with rfl | h
    ·omega
    ·exact zMt ha (fun w hw=>hb w (by simp [hw])) h
   ·rcases qd.1 h with rfl | h
    ·split
     ·omega
     ·simp only; omega
    ·exact zMt (fun w hw=>ha w (by simp [hw])) (fun w hw=>hb w (by simp [hw])) h
termination_by a b=>a.length+b.length
def zAu (a b:Int):Int:=if Int.tdiv 1152921504606846976 b<a then 1152921504606846976 else a*b
def zk7 (x y:Term):Term:=⟨zAu x.Cf y.Cf,zbt x.Fs y.Fs⟩
def zeX (a b:yC):yC:=a.flatMap fun x=>b.map (zk7 x)
def zgi (a b:yC):yC:=zeo [] (zeX a b)
theorem zTW {a b:Int} (ha:1≤a∧a≤1152921504606846976) (hb:1≤b∧b≤1152921504606846976):(1≤zAu a b∧zAu a b≤1152921504606846976)∧(¬ Int.tdiv 1152921504606846976 b<a→a*b≤1152921504606846976):=by
 have h1:¬ Int.tdiv 1152921504606846976 b<a→a*b≤1152921504606846976:=fun h=>by
  rw [Int.tdiv_eq_ediv_of_nonneg (by omega)] at h
  have h2:a≤1152921504606846976 / b:=by omega
  exact (Int.le_ediv_iff_mul_le (by omega)).1 h2
 refine ⟨?_,h1⟩;unfold zAu;split
 ·omega
 ·rename_i h;refine ⟨?_,h1 h⟩;have:=Int.mul_le_mul ha.1 hb.1 (by omega) (by omega)
  omega
theorem zDl {t:Term} {a b:yC} (h:t∈zeX a b):∃ x∈a,∃ y∈b,t=zk7 x y:=by
 obtain ⟨x,hx,ht⟩:=List.mem_flatMap.1 h;obtain ⟨y,hy,rfl⟩:=List.mem_map.1 ht;exact ⟨x,hx,y,hy,rfl⟩
theorem zYp (a b:yC):(zeX a b).length=a.length*b.length:=by
 unfold zeX;induction a with
 | nil=>simp
 | cons x r ih=>rw [List.flatMap_cons,qg,ih,List.length_map,qf,Nat.add_mul]; omega
abbrev zRL:=yE×Unit×Int×Int×Unit
abbrev zA4:=yE×Unit
abbrev z6e:=yE×Int×Int×yE
abbrev zRm:=yE×Unit×Int×Unit
def zvf (l:yE) (i:Int) (k:Int) (out_:yE):Wy zRL zA4 z6e:=.i (decide (k<Int.ofNat out_.length)) (.i (decide (0≤k)&&decide (k≤IntKind.i64.wrap (k+1))&&decide (IntKind.i64.wrap (k+1)≤Int.ofNat out_.length)) (.i (decide (0≤i)&&decide (i≤IntKind.i64.wrap (i+1))&&decide (IntKind.i64.wrap (i+1)≤Int.ofNat l.length)) (.bn (ztr (List.take ((IntKind.i64.wrap (k+1)).toNat - k.toNat) (List.drop k.toNat out_)) (List.take ((IntKind.i64.wrap (i+1)).toNat - i.toNat) (List.drop i.toNat l))) fun r0=>.i (decide (r0≤0)) (.h (l,(),i,(IntKind.i64.wrap (k+1)),()) (out_,())) (.k (l,i,k,out_))) .d) .d) (.k (l,i,k,out_))
def zRa (x:zRL) (y:zA4):=zvf x.1 x.2.2.1 x.2.2.2.1 y.1
def zQE (n:Nat) (l:yE) (i:Int) (k:Int) (out_:yE):=zH (zRa) default n (l,(),i,k,()) (out_,())
def zve (l:yE) (i:Int) (out_:yE):Wy zRm zA4 (yE):=.i (decide (i<Int.ofNat l.length)) (.i (decide (0≤i)&&decide (i<Int.ofNat l.length)) (.i (Int.ofNat (l.getD i.toNat default).Ann.length==0) (.h (l,(),(IntKind.i64.wrap (i+1)),()) (out_,())) (.bn (zQE (l.length+i.toNat +Int.toNat 0+out_.length+1) l i 0 out_) fun r2=>.i (decide ((0:Int)≤(0:Int))&&decide (0≤r2.2.2.1)&&decide (r2.2.2.1≤Int.ofNat r2.2.2.2.length)) (.i (decide ((0+(List.take (r2.2.2.1.toNat - Int.toNat 0) (List.drop (Int.toNat 0) r2.2.2.2)).length)*56≤zK)) (.i (decide (0≤r2.2.1)&&decide (r2.2.1<Int.ofNat r2.1.length)) (.i (decide ((([]++List.take (r2.2.2.1.toNat - Int.toNat 0) (List.drop (Int.toNat 0) r2.2.2.2)).length+[r2.1.getD r2.2.1.toNat default].length)*56≤zK)) (.i (decide (0≤r2.2.2.1)&&decide (r2.2.2.1≤Int.ofNat r2.2.2.2.length)&&decide (Int.ofNat r2.2.2.2.length≤Int.ofNat r2.2.2.2.length)) (.i (decide ((([]++List.take (r2.2.2.1.toNat - Int.toNat 0) (List.drop (Int.toNat 0) r2.2.2.2)++[r2.1.getD r2.2.1.toNat default]).length+(List.take ((Int.ofNat r2.2.2.2.length).toNat - r2.2.2.1.toNat) (List.drop r2.2.2.1.toNat r2.2.2.2)).length)*56≤zK)) (.h ((r2.1),(),(IntKind.i64.wrap (r2.2.1+1)),()) (([]++List.take (r2.2.2.1.toNat - Int.toNat 0) (List.drop (Int.toNat 0) r2.2.2.2)++[r2.1.getD r2.2.1.toNat default]++List.take ((Int.ofNat r2.2.2.2.length).toNat - r2.2.2.1.toNat) (List.drop r2.2.2.1.toNat r2.2.2.2)),())) .d) .d) .d) .d) .d) .d)) .d) (.k out_)
def zQu (x:zRm) (y:zA4):=zve x.1 x.2.2.1 y.1
def zRc (n:Nat) (l:yE) (i:Int) (out_:yE):=zH (zQu) default n (l,(),i,()) (out_,())
def zU8 (l:yE):Wy0 (yE):=.bn (zRc (l.length+Int.toNat 0+0+1) l 0 []) fun r4=>.k r4
def zPk (l:yE):=(zU8 l).fin default
def zOg (op:Int) (sign:Int):Wy0 (Bool):=.i (op==5) (.k (sign==0)) (.i (op==6) (.k (sign != 0)) (.i (op==7) (.k (decide (sign<0))) (.i (op==8) (.k (decide (sign≤0))) (.i (op==9) (.k (decide (sign>0))) (.i (op==10) (.k (decide (sign≥0))) (.k false))))))
def zI3 (op:Int) (sign:Int):=(zOg op sign).fin default
abbrev zUL:=Int×yE×Int×Unit×Int×Unit
abbrev z7D:=Int⊕(Int×yE×Int×Value)
def zx1 (fn:Int) (items:yE) (op:Int) (i:Int) (bound:Value):Wy zUL (Value×Unit) z7D:=.i (decide (i<Int.ofNat items.length)) (.i (decide (0≤i)&&decide (i<Int.ofNat items.length)) (.bn (zfS (items.getD i.toNat default).Ann) fun r0=>.i (!r0) (.k (.inl 1)) (.h (fn,items,op,(),(IntKind.i64.wrap (i+1)),()) (bound,()))) .d) (.k (.inr (fn,items,op,bound)))
def zUK (x:zUL) (y:Value×Unit):=zx1 x.1 x.2.1 x.2.2.1 x.2.2.2.2.1 y.1
def zU0 (n:Nat) (fn:Int) (items:yE) (op:Int) (i:Int) (bound:Value):=zH (zUK) (.inl default) n (fn,items,op,(),i,()) (bound,())
def zYK (fn:Int) (items:yE) (op:Int) (bound:Value):Wy0 (yC×Int):=.bn (zyj fn items op bound) fun r7=>.i (!r7) (.k ([],1)) (.bn (zU0 (fn.toNat +items.length+op.toNat +Int.toNat 0+1) fn items op 0 bound) fun r6=>.i (isL r6) (.k ([],getL r6)) (.bn (zPk (getR r6).2.1) fun r5=>.i (Int.ofNat r5.length==0) (.i ((getR r6).1==0) (.bn (zcT 0 (getR r6).2.2.2.Int) fun r3=>.bn (zI3 (getR r6).2.2.1 r3) fun r2=>.i (r2) (.k (zIj.2,0)) (.k ([],0))) (.k ([],0))) (.bn (znb (zm8 (At.mk 4 (RowID.mk 0 0) [] (getR r6).1 r5 (getR r6).2.2.1 (getR r6).2.2.2)).2) fun r4=>.k (r4.1,r4.2))))
def zKd (fn:Int) (items:yE) (op:Int) (bound:Value):=(zYK fn items op bound).fin default
section
variable {α β ρ τ:Type} [Inhabited τ]
theorem zZc (p:τ→Bool):∀ l:List τ,l.take (l.takeWhile p).length=l.takeWhile p
 | []=>rfl
 | x::r=>by
  rw [List.takeWhile_cons];cases p x with
  | true=>simp [zZc p r]
  | false=>simp
theorem zZn (p:τ→Bool):∀ l:List τ,l.drop (l.takeWhile p).length=l.dropWhile p
 | []=>rfl
 | x::r=>by
  rw [List.takeWhile_cons,List.dropWhile_cons];cases p x with
  | true=>simp [zZn p r]
  | false=>simp
theorem zbid (p:τ→Bool) (l:List τ):(l.takeWhile p).length≤l.length:=(List.takeWhile_prefix p).length_le
theorem z60 {W:α→β→Wy α β ρ} {z:ρ} (l:List τ) (p:τ→Bool) (ex:Nat→α) (ey:Nat→β) (res:Nat→ρ)
  (h:∀ i,i<l.length→∀ (H:α→β→Bool×ρ) K D,(W (ex i) (ey i)).ev H K D=bif p (l.getD i default) then H (ex (i+1)) (ey (i+1)) else K (res i))
  (he:∀ (H:α→β→Bool×ρ) K D,(W (ex l.length) (ey l.length)).ev H K D=K (res l.length)):
  ∀ n i,l.length<i+n→i≤l.length→zH W z n (ex i) (ey i)=(true,res (i+((l.drop i).takeWhile p).length))
 | 0,i,h1,h2=>by omega
 | n+1,i,h1,h2=>by
  show (W (ex i) (ey i)).ev (zH W z n) (fun r=>(true,r)) (false,z)=_
  by_cases hi:i<l.length
  ·rw [h i hi,zbG hi,List.takeWhile_cons];cases hp:p (l.getD i default) with
   | false=>simp
   | true=>
    rw [cond_true,z60 l p ex ey res h he n (i+1) (by omega) (by omega)]
    simp only [if_true,qf];congr 2; omega
  ·have:i=l.length:=by omega
   subst this;rw [he,zdd hi]; rfl
theorem zTC {W:α→β→Wy α β ρ} {z:ρ} (l:List τ) (p:τ→Bool) (ex:Nat→α) (ey:Nat→β) (res:Nat→ρ)
  (h:∀ i,i<l.length→∀ (H:α→β→Bool×ρ) K D,(W (ex i) (ey i)).ev H K D=bif p (l.getD i default) then H (ex (i+1)) (ey (i+1)) else K (res i))
  (he:∀ (H:α→β→Bool×ρ) K D,(W (ex l.length) (ey l.length)).ev H K D=K (res l.length)) (n:Nat) (hn:l.length<n):
  zH W z n (ex 0) (ey 0)=(true,res (l.takeWhile p).length):=by
 have:=z60 (z:=z) l p ex ey res h he n 0 (by omega) (by omega)
 simpa using this
def zSC (p:τ→Bool) (x:τ) (l:List τ):List τ:=l.takeWhile p++x::l.dropWhile p
theorem z62 (p:τ→Bool) (x y:τ) (r:List τ):zSC p x (y::r)=bif p y then y::zSC p x r else x::y::r:=by
 unfold zSC;rw [List.takeWhile_cons,List.dropWhile_cons];cases p y <;>simp
theorem zHn (p:τ→Bool) (x:τ):∀ l:List τ,(zSC p x l).Perm (x::l)
 | []=>.refl _
 | y::r=>by
  rw [z62];cases p y
  ·exact .refl _
  ·exact ((zHn p x r).cons y).trans (.swap x y r)
abbrev Srt (key:τ→TT) (l:List τ):Prop:=l.Pairwise fun x y=>zbc (key x) (key y)≤0
theorem z9q (key:τ→TT) (x:τ):∀ l:List τ,Srt key l→Srt key (zSC (fun y=>decide (zbc (key y) (key x)≤0)) x l)
 | [],_=>by simp [zSC]
 | y::r,h=>by
  have h:=qi.1 h;rw [z62];by_cases hp:zbc (key y) (key x)≤0
  ·rw [decide_eq_true hp];refine qi.2 ⟨fun z hz=> ?_,z9q key x r h.2⟩
   rcases qd.1 ((zHn _ x r).mem_iff.1 hz) with rfl | hz
   ·exact hp
   ·exact h.1 z hz
  ·rw [decide_eq_false hp];have hxy:zbc (key x) (key y)≤0:=by have:=zgX (key x) (key y); omega
   refine qi.2 ⟨fun z hz=> ?_,qi.2 h⟩
   rcases qd.1 hz with rfl | hz
   ·exact hxy
   ·exact zwQ _ _ _ hxy (h.1 z hz)
end
theorem z5p {τ:Type} (l:List τ) (k:Nat):List.take (k - Int.toNat 0) (List.drop (Int.toNat 0) l)=l.take k:=by simp
theorem zC8 {τ:Type} (l:List τ) (k:Nat):List.take ((Int.ofNat l.length).toNat - k) (List.drop k l)=l.drop k:=by
 simp only [Int.ofNat_eq_natCast,Int.toNat_natCast];rw [List.take_of_length_le (by simp)]
theorem z9x (n:Nat):(n==0)= !decide (0<n):=by cases n <;>simp
def zlT (w:Wd):Bool:=decide (0<w.Ann.length)
def zdW (l:yE):yE:=ziH zbh (l.filter zlT)
theorem zLb {d:Nat} {l:yE} (hl:l.length≤1000000) (h:∀ w∈l,zp d w.Ann) (hd:d≤99):SortOK zbh l:=by
 have e:∀ x∈l,∀ y,zbh x y=(true,zbc (zbf x) (zbf y)):=fun x hx y=>zj2 (h x hx) hd y
 refine ⟨by omega,fun x hx y _=>by rw [e x hx],fun x hx=> ?_,fun x hx y hy z hz h1 h2=> ?_,fun x hx y hy z hz h1 h2=> ?_,fun x hx y hy h1 h2=> ?_⟩
 ·rw [e x hx,zHV]; omega
 ·rw [e x hx] at h1 ⊢; rw [e y hy] at h2;have h3:=zwQ _ _ _ (show zbc (zbf x) (zbf y)≤0 by simp only at h1; omega) (show zbc (zbf y) (zbf z)≤0 by simp only at h2; omega)
  simp only at h1 h2 ⊢;by_cases e0:zbc (zbf x) (zbf z)=0
  ·have:=zvk _ _ e0;rw [← this,zgX (zbf x) (zbf y)] at h2;omega
  ·omega
 ·rw [e x hx] at h1 ⊢; rw [e y hy] at h2;simp only at h1 h2 ⊢;have a1:=zgX (zbf x) (zbf y);have a2:=zgX (zbf y) (zbf z);have a3:=zgX (zbf x) (zbf z);have:=zwQ (zbf z) (zbf y) (zbf x) (by omega) (by omega)
  omega
 ·rw [e x hx] at h1; rw [e y hy] at h2;simp only at h1 h2;have a1:=zgX (zbf x) (zbf y);exact z3W _ _ (zvk _ _ (by omega))
theorem zbfO {d:Nat} (l:yE) (hl:l.length≤1000000) (h:∀ w∈l,zp d w.Ann) (hd:d≤99) (n:Nat) (hn:l.length<n):zFM n l l.length 0 []=(true,l.filter zlT):=by
 have hreach:zK=70368744177664:=rfl;have hfl:∀ i,(List.filter zlT (l.take i)).length≤1000000:=fun i=>Nat.le_trans (List.length_filter_le _ _) (Nat.le_trans (by simp; omega) hl)
 have:=zd7 (W:=zyL) (z:=default) l.length (fun i=>((),l,(l.length:Int),(i:Int),())) (fun i=>((l.take i).filter zlT,())) (fun _=>true) default (l.filter zlT)
  (fun i hi H K D=>by
   show (zmv l l.length i ((l.take i).filter zlT)).ev H K D=_;unfold zmv;have hb2:decide (((List.filter zlT (l.take i)).length+1)*56≤zK)=true:=by have:=hfl i; simp only [qe]; omega
   have hgt:decide (((l.getD i default).Ann.length:Int)>0)=zlT (l.getD i default):=zrq _ 0;simp only [Wy.ev_i,Wy.ev_k,Wy.ev_h,Wy.ev_bn,Wy.ev_d,tT,hi,zHb (h _ (zu hi)) (by omega:d≤100),hgt,List.length_singleton,hb2]
   rw [zV (by omega),zkq hi,List.filter_append,List.filter_cons]
   cases zlT (l.getD i default) with
   | true=>simp
   | false=>simp)
  (fun H K D=>by
   show (zmv l l.length l.length ((l.take l.length).filter zlT)).ev H K D=_;unfold zmv;simp only [Wy.ev_i,Wy.ev_k,tT,Nat.lt_irrefl,List.take_length]) n hn
 rw [show zeV (fun _=>true) l.length 0=true from zem.2 fun _ _ _=>rfl] at this
 exact this
theorem zbff {d:Nat} (l:yE) (hl:l.length≤1000000) (h:∀ w∈l,zp d w.Ann) (hd:d≤99) (h20:(l.filter zlT).length<20):zqT l=(true,zdW l):=by
 unfold zqT zHz zbp zdW;have:=zbfO l hl h hd (l.length+(Int.ofNat l.length).toNat +Int.toNat (0:Int)+(0:Nat)+(1:Nat)) (by omega)
 rw [show Int.ofNat l.length=(l.length:Int) from rfl] at *
 have ok:SortOK zbh (l.filter zlT):=zLb (d:=d) (by omega) (fun w hw=>h w (List.mem_filter.1 hw).1) hd
 rw [Wy.fin_bn,this];simp only [Wy.fin_bn,Wy.fin_k,cond_true,decide_eq_true ok,decide_eq_true h20,Bool.and_self]
def zy9 (w:Wd) (out:yE):yE:=bif zlT w then zSC (fun y=>decide (zbc (zbf y) (zbf w)≤0)) w out else out
theorem zbfa {d:Nat} (l:yE) (i:Nat) (hi:i<l.length) (hl:l.length≤1000000) (out:yE) (ho:out.length≤1000000) (h:∀ w∈out,zp d w.Ann) (hd:d≤99) (n:Nat) (hn:out.length<n):
  zQE n l i 0 out=(true,(l,(i:Int),(((out.takeWhile fun y=>decide (zbc (zbf y) (zbf (l.getD i default))≤0)).length:Nat):Int),out)):=by
 exact zTC (W:=zRa) (z:=default) out (fun y=>decide (zbc (zbf y) (zbf (l.getD i default))≤0)) (fun k=>(l,(),(i:Int),(k:Int),())) (fun _=>(out,())) (fun k=>(l,(i:Int),(k:Int),out))
  (fun k hk H K D=>by
   show (zvf l i k out).ev H K D=_;unfold zvf;have e1:(decide ((k:Int)≤((k+1:Nat):Int))&&decide (((k+1:Nat):Int)≤Int.ofNat out.length))=true:=by simp; try omega
   have e2:(decide ((i:Int)≤((i+1:Nat):Int))&&decide (((i+1:Nat):Int)≤Int.ofNat l.length))=true:=by simp; try omega
   have e3:decide ((k:Int)<Int.ofNat out.length)=true:=by simp [hk]
   simp only [Wy.ev_i,Wy.ev_k,Wy.ev_h,Wy.ev_bn,Wy.ev_d,zV (show k<4611686018427387904 by omega),zV (show i<4611686018427387904 by omega),e1,e2,e3,zfe,Bool.true_and,cond_true,Int.toNat_natCast,show k+1 - k=1 by omega,show i+1 - i=1 by omega,z8g _ _ hi,z8g _ _ hk]
   rw [zC2 (d:=d) (by simp) (fun w hw=>by
    rw [qh] at hw; subst hw; exact h _ (zu hk)) hd,zmX,zmX]
   simp only [List.map,zbfC,cond_true])
  (fun H K D=>by
   show (zvf l i out.length out).ev H K D=_;unfold zvf;have e3:decide ((out.length:Int)<Int.ofNat out.length)=false:=by simp
   simp only [Wy.ev_i,Wy.ev_k,e3,cond_false]) n hn
theorem zbdf (w:Wd) (out:yE):(zy9 w out).length≤out.length+1:=by
 unfold zy9;cases zlT w with
 | false=>simp
 | true=>simp only [cond_true]; rw [(zHn _ w out).length_eq]; simp
theorem zbdB {w y:Wd} {out:yE} (h:y∈zy9 w out):y=w∨y∈out:=by
 unfold zy9 at h;cases hb:zlT w with
 | false=>rw [hb] at h; exact .inr h
 | true=>rw [hb] at h; exact qd.1 ((zHn _ w out).mem_iff.1 h)
theorem zbe6 {d:Nat} (l:yE) (hl:l.length≤1000000) (h:∀ w∈l,zp d w.Ann) (hd:d≤99) (n:Nat) (hn:l.length<n):zRc n l 0 []=(true,l.foldl (fun out w=>zy9 w out) []):=by
 have hreach:zK=70368744177664:=rfl
 have:=zc2 (W:=zQu) (z:=default) (l:=l) (fun i (out:yE)=>(l,(),(i:Int),())) (fun _ out=>(out,())) (fun w out=>.inl (zy9 w out)) (fun out=>out) (fun i out=>out.length≤i∧∀ w∈out,zp d w.Ann)
  (fun i out hi hI=>.inl ⟨_,rfl,⟨by have:=zbdf (l.getD i default) out; omega,fun w hw=>by
    rcases zbdB hw with rfl | hw
    ·exact h _ (zu hi)
    ·exact hI.2 w hw⟩,fun H K D=>by
   show (zve l i out).ev H K D=_;unfold zve;have e0:((l.getD i default).Ann.length==0)= !zlT (l.getD i default):=z9x _;have e3:decide ((i:Int)<Int.ofNat l.length)=true:=by simp [hi]
   simp only [Wy.ev_i,Wy.ev_k,Wy.ev_h,Wy.ev_bn,Wy.ev_d,e3,zfe,Bool.and_self,cond_true,Int.toNat_natCast,show (Int.ofNat (l.getD i default).Ann.length==(0:Int))=((l.getD i default).Ann.length==0) from zwR _ 0,e0]
   rw [zbfa l i hi hl out (by omega) hI.2 hd _ (by omega)]
   simp only [cond_true,z5p,zC8,List.nil_append,Int.toNat_natCast,e3,zfe,Bool.and_self,Int.le_refl,decide_true,Bool.true_and,Bool.and_true];have q1:=zbid (fun y=>decide (zbc (zbf y) (zbf (l.getD i default))≤0)) out
   have q2:decide (((out.takeWhile fun y=>decide (zbc (zbf y) (zbf (l.getD i default))≤0)).length:Int)≤Int.ofNat out.length)=true:=by simp only [qe,Int.ofNat_eq_natCast]; omega
   have hb1:decide ((0+(out.take (out.takeWhile fun y=>decide (zbc (zbf y) (zbf (l.getD i default))≤0)).length).length)*56≤zK)=true:=by simp only [qe,List.length_take]; omega
   have hb2:decide (((out.take (out.takeWhile fun y=>decide (zbc (zbf y) (zbf (l.getD i default))≤0)).length).length+[l.getD i default].length)*56≤zK)=true:=by simp only [qe,List.length_take,List.length_singleton]; omega
   have hb3:decide (((out.take (out.takeWhile fun y=>decide (zbc (zbf y) (zbf (l.getD i default))≤0)).length++[l.getD i default]).length+(out.drop (out.takeWhile fun y=>decide (zbc (zbf y) (zbf (l.getD i default))≤0)).length).length)*56≤zK)=true:=by simp only [qe,qg,List.length_take,List.length_singleton,List.length_drop]; omega
   simp only [q2,hb1,hb2,hb3,cond_true];rw [zV (by omega),zZc,zZn]
   unfold zy9 zSC;cases zlT (l.getD i default) <;>simp⟩)
  (fun out hI H K D=>by
   show (zve l l.length out).ev H K D=_;unfold zve;have e3:decide ((l.length:Int)<Int.ofNat l.length)=false:=by simp
   simp only [Wy.ev_i,Wy.ev_k,e3,cond_false]) n 0 [] (by omega) (by omega) ⟨by simp,fun w hw=>by cases hw⟩
 rw [List.drop_zero,zc3] at this;exact this
theorem z3D:∀ (l out:yE),(l.foldl (fun out w=>zy9 w out) out).Perm (l.filter zlT++out)∧(Srt zbf out→Srt zbf (l.foldl (fun out w=>zy9 w out) out))
 | [],out=>⟨.refl _,fun h=>h⟩
 | w::r,out=>by
  obtain ⟨h1,h2⟩:=z3D r (zy9 w out);rw [List.foldl_cons,List.filter_cons];cases hb:zlT w with
  | false=>
   have e:zy9 w out=out:=by unfold zy9; rw [hb]; rfl
   rw [e] at h1 h2 ⊢;exact ⟨by simpa using h1,h2⟩
  | true=>
   have e:zy9 w out=zSC (fun y=>decide (zbc (zbf y) (zbf w)≤0)) w out:=by unfold zy9; rw [hb]; rfl
   rw [e] at h1 h2 ⊢;refine ⟨?_,fun h=>h2 (z9q zbf w out h)⟩
   simp only [if_true,List.cons_append];exact h1.trans (((zHn _ w out).append_left _).trans List.perm_middle)
theorem zbdq {d:Nat} (l:yE) (hl:l.length≤1000000) (h:∀ w∈l,zp d w.Ann) (hd:d≤99):zPk l=(true,zdW l):=by
 unfold zPk zU8;rw [Wy.fin_bn,zbe6 l hl h hd _ (by omega)]
 simp only [cond_true,Wy.fin_k];congr 1;obtain ⟨h1,h2⟩:=z3D l [];rw [List.append_nil] at h1;have hm:∀ w∈l.filter zlT,zp d w.Ann:=fun w hw=>h w (List.mem_filter.1 hw).1
 refine (zLb (d:=d) (Nat.le_trans (List.length_filter_le _ _) hl) hm hd).unique h1 ?_;refine (h2 .nil).imp_of_mem fun {x y} hx hy hxy=> ?_
 rw [zj2 (hm y (h1.mem_iff.1 hy)) hd,zgX (zbf x) (zbf y)];simp only; omega
def zP2 (op sign:Int):Bool:=bif op==5 then sign==0 else bif op==6 then sign != 0 else bif op==7 then decide (sign<0) else bif op==8 then decide (sign≤0) else bif op==9 then decide (sign>0) else decide (sign≥0)
theorem zbeG (op sign:Int):zrx op sign=(true,zP2 op sign):=by
 unfold zrx zHH zP2;simp only [Wy.fin_i,Wy.fin_k];cases op==5 <;>cases op==6 <;>cases op==7 <;>cases op==8 <;>cases op==9 <;>rfl
theorem zbcd {op sign:Int} (h1:5≤op) (h2:op≤10):zI3 op sign=(true,zP2 op sign):=by
 unfold zI3 zOg zP2;simp only [Wy.fin_i,Wy.fin_k,zgv];by_cases a1:op=5
 ·simp [a1]
 by_cases a2:op=6
 ·simp [a2]
 by_cases a3:op=7
 ·simp [a3]
 by_cases a4:op=8
 ·simp [a4]
 by_cases a5:op=9
 ·simp [a5]
 have a6:op=10:=by omega
 simp [a6]
def zPv (fn:Int) (l:yE) (op:Int) (b:Value):At:=⟨4,⟨0,0⟩,[],fn,l,op,b⟩
def zzp (fn:Int) (items:yE) (op:Int) (b:Value):yC×Int:=
 bif !(zBE fn items op b&&items.all fun w=>zQ w.Ann) then ([],1) else
 bif decide (0<(zdW items).length) then znm (zcy (zPv fn (zdW items) op b)) else
 bif fn==0&&zP2 op (zee 0 b.Int) then ([⟨1,[]⟩],0) else ([],0)
theorem zKI {l:yE} {w:Wd} (h:w∈zdW l):w∈l∧w.Ann≠[]:=by
 have:=(zlA _ _).mem_iff.1 h;obtain ⟨h1,h2⟩:=List.mem_filter.1 this;refine ⟨h1,fun e=> ?_⟩
 rw [zlT,e] at h2; simp at h2
theorem z3P (l:yE):(zdW l).length=(l.filter zlT).length:=(zlA _ _).length_eq
theorem zYb {B:Nat}:∀ l:yE,(∀ w∈l,zN w.Ann≤B)→zdh l≤l.length*(B+1)
 | [],_=>by rw [zfG]; simp
 | w::r,h=>by
  rw [zic,qf];have h1:=h w (by simp)
  have h2:=zYb r fun w hw=>h w (by simp [hw])
  rw [Nat.add_mul]; omega
theorem zK3 {fn:Int} {l:yE} {op:Int} {b:Value} (hl:l.length≤1000000) (hf:zBE fn l op b=true) (hv:(l.all fun w=>zQ w.Ann)=true):zp 10 (zcy (zPv fn (zdW l) op b))∧zN (zcy (zPv fn (zdW l) op b))≤4611686018427387904:=by
 obtain ⟨_,hb,hit⟩:=ztt hf;have hvv:∀ w∈l,zQ w.Ann=true:=fun w hw=>List.all_eq_true.1 hv w hw
 have hlen:(zdW l).length≤1000000:=by rw [z3P]; exact Nat.le_trans (List.length_filter_le _ _) hl
 constructor
 ·refine zOu ⟨⟨by simp [zPv],hlen,by have:=zwv hb; simp only [zPv]; omega⟩,fun y hy=>(by cases hy),fun w hw=> ?_⟩
  have hm:=(zKI hw).1;exact ⟨by have:=zwv (hit w hm).1; omega,(ze8 (hvv w hm)).1⟩
 ·rw [z1w,zhd];have h1:zdh (zdW l)≤(zdW l).length*(4096+1):=zYb _ fun w hw=>(ze8 (hvv w (zKI hw).1)).2.1
  show 2+(zfa []+zdh (zdW l))≤_;rw [zgF];have:=Nat.mul_le_mul hlen (Nat.le_refl (4096+1));omega
theorem zbgn {d:Nat} (l:yE) (hl:l.length≤1000000) (h:∀ w∈l,zp d w.Ann∧zN w.Ann≤4611686018427387904) (hd:d≤99):zcd l=(true, !l.all fun w=>zQ w.Ann):=by
 unfold zcd zgT;have:zdk l=IG (fun (_:Unit) x=>znG x) (l.length+(Int.ofNat l.length).toNat +Int.toNat (0:Int)+(1:Nat)) () l:=rfl
 rw [zkZ (P:=fun w=> !zQ w.Ann) (this.trans (zJR _ _ _ _ _ (by omega) (fun x hx=>by
  unfold znG zEZ;rw [Wy.fin_bn,z6T (h x hx).1 (by omega) (h x hx).2]; rfl) (by omega)))]
 simp [List.all_eq_not_any_not]
theorem zbfL {d:Nat} (fn:Int) (l:yE) (op:Int) (b:Value) (hl:l.length≤1000000) (h:∀ w∈l,zp d w.Ann∧zN w.Ann≤4611686018427387904) (hd:d≤99) (h20:(l.filter zlT).length<20):
  znV fn l op b=(true,zzp fn l op b):=by
 unfold znV zJv zzp;have hI:=zbff l hl (fun w hw=>(h w hw).1) hd h20
 have hgt:decide (Int.ofNat (zdW l).length>0)=decide (0<(zdW l).length):=zrq _ 0;simp only [Wy.fin_bn,Wy.fin_i,Wy.fin_k,z4r fn l op b hl,zbgn l hl h hd,hI,cond_true,hgt];cases hf:zBE fn l op b with
 | false=>rfl
 | true=>
  cases hv:l.all fun w=>zQ w.Ann with
  | false=>rfl
  | true=>
   simp only [Bool.not_true,cond_false,Bool.and_self];rw [zIl];have hx:(⟨4,⟨0,0⟩,[],fn,zdW l,op,b⟩:At)=zPv fn (zdW l) op b:=rfl;rw [hx,zAN (zK3 hl hf hv).1 (by omega) (zK3 hl hf hv).2]
   cases decide (0<(zdW l).length) with
   | true=>rfl
   | false=>
    simp only [cond_false,zwP,zbeG,cond_true];cases fn==0 with
    | false=>rfl
    | true=>
     cases zP2 op (zee 0 b.Int) <;>rfl
theorem zbeT {d:Nat} (fn:Int) (l:yE) (op:Int) (b:Value) (hl:l.length≤1000000) (h:∀ w∈l,zp d w.Ann∧zN w.Ann≤4611686018427387904) (hd:d≤99):
  zKd fn l op b=(true,zzp fn l op b):=by
 unfold zKd zYK zzp;have hI:=zbdq l hl (fun w hw=>(h w hw).1) hd
 have hgt:decide (0<(zdW l).length)= !((zdW l).length==0):=by rw [z9x,Bool.not_not]
 have hL:zU0 (fn.toNat +l.length+op.toNat +Int.toNat (0:Int)+(1:Nat)) fn l op (0:Int) b=(true,bif l.all fun w=>zQ w.Ann then .inr (fn,l,op,b) else .inl 1):=by
  have:=zd7 (W:=zUK) (z:=.inl default) l.length (fun i=>(fn,l,op,(),(i:Int),())) (fun _=>(b,())) (fun i=>(fun w:Wd=>zQ w.Ann) (l.getD i default)) (.inl 1) (.inr (fn,l,op,b))
   (fun i hi H K D=>by
    show (zx1 fn l op i b).ev H K D=_;unfold zx1;have hx:=h _ (zu hi);simp only [Wy.ev_i,Wy.ev_k,Wy.ev_h,Wy.ev_bn,Wy.ev_d,tT,hi,z2X hx.1 (by omega) hx.2]
    rw [zV (by omega)]
    cases zQ (l.getD i default).Ann <;>rfl)
   (fun H K D=>by
    show (zx1 fn l op l.length b).ev H K D=_;unfold zx1;simp only [Wy.ev_i,Wy.ev_k,tT,Nat.lt_irrefl]) (fn.toNat +l.length+op.toNat +Int.toNat (0:Int)+(1:Nat)) (by omega)
  rw [zAn (fun w:Wd=>zQ w.Ann)] at this
  exact this
 simp only [Wy.fin_bn,Wy.fin_i,Wy.fin_k,zbai fn l op b hl,hL,cond_true,hgt];cases hf:zBE fn l op b with
 | false=>rfl
 | true=>
  cases hv:l.all fun w=>zQ w.Ann with
  | false=>rfl
  | true=>
   simp only [Bool.not_true,cond_false,cond_true,Bool.and_self,isL,getR,hI];rw [show (Int.ofNat (zdW l).length==(0:Int))=((zdW l).length==0) from zwR _ 0,zSb]
   have hx:(⟨4,⟨0,0⟩,[],fn,zdW l,op,b⟩:At)=zPv fn (zdW l) op b:=rfl;rw [hx,zRn (zK3 hl hf hv).1 (by omega) (zK3 hl hf hv).2]
   cases ((zdW l).length==0) with
   | false=>rfl
   | true=>
    obtain ⟨⟨_,_,o1,o2⟩,_⟩:=ztt hf;simp only [cond_false,Bool.not_true,zn3,zbcd o1 o2,cond_true];cases fn==0 with
    | false=>rfl
    | true=>
     cases zP2 op (zee 0 b.Int) <;>rfl
def z02 (a:yC) (b:yC):Wy0 (yC×Int):=.bn (zfS a) fun r3=>.i (!r3) (.k ([],1)) (.bn (zfS b) fun r2=>.i (!r2) (.k ([],1)) (.bn (zou a b) fun r1=>.bn (znb r1) fun r0=>.k (r0.1,r0.2)))
def zXK (a:yC) (b:yC):=(z02 a b).fin default
def z00 (a:yC) (b:yC):Wy0 (yC×Int):=.bn (zfS a) fun r3=>.i (!r3) (.k ([],1)) (.bn (zfS b) fun r2=>.i (!r2) (.k ([],1)) (.bn (zDx a b) fun r1=>.bn (znb r1) fun r0=>.k (r0.1,r0.2)))
def zXo (a:yC) (b:yC):=(z00 a b).fin default
def zbcV (t:Term):yC→yC
 | []=>[t]
 | x::r=>if cT x t=0 then ⟨zzn x.Cf t.Cf,t.Fs⟩::r else t::x::r
def zbcm (f:Fc):yD→yD
 | []=>[f]
 | x::r=>if cF x f=0 then (if f.At.Kind<3 then ⟨f.At,x.Exp+f.Exp⟩ else f)::r else f::x::r
theorem zbgM {t:Term} {l:yC} {k:Nat} (hk:k<l.length):zbcV t (l.drop k)=if cT (l.getD k default) t=0 then ⟨zzn (l.getD k default).Cf t.Cf,t.Fs⟩::l.drop (k+1) else t::l.drop k:=by
 rw [zbG hk]; rfl
theorem zbgR {f:Fc} {l:yD} {k:Nat} (hk:k<l.length):zbcm f (l.drop k)=if cF (l.getD k default) f=0 then (if f.At.Kind<3 then ⟨f.At,(l.getD k default).Exp+f.Exp⟩ else f)::l.drop (k+1) else f::l.drop k:=by
 rw [zbG hk]; rfl
theorem zbbf (t:Term):∀ l:yC,zhO t l=l.takeWhile (fun x=>decide (cT x t<0))++zbcV t (l.dropWhile (fun x=>decide (cT x t<0)))
 | []=>rfl
 | x::r=>by
  rw [List.takeWhile_cons,List.dropWhile_cons];unfold zhO;by_cases h:cT x t<0
  ·simp only [h,if_true,decide_true,List.cons_append];rw [zbbf t r]
  ·simp only [h,if_false,decide_false,Bool.false_eq_true,List.nil_append]; rfl
theorem zbbm (f:Fc):∀ l:yD,zIF f l=l.takeWhile (fun x=>decide (cF x f<0))++zbcm f (l.dropWhile (fun x=>decide (cF x f<0)))
 | []=>rfl
 | x::r=>by
  rw [List.takeWhile_cons,List.dropWhile_cons];unfold zIF;by_cases h:cF x f<0
  ·simp only [h,if_true,decide_true,List.cons_append];rw [zbbm f r]
  ·simp only [h,if_false,decide_false,Bool.false_eq_true,List.nil_append]; rfl
theorem zbbD {a b:Int} (ha:0≤a∧a≤1152921504606846976) (hb:0≤b∧b≤1152921504606846976):IntKind.i64.wrap (a+b)=a+b:=zjC (by omega) (by omega)
theorem zbed {τ:Type} (l:List τ) (p:τ→Bool):(l.takeWhile p).length≤l.length:=(List.takeWhile_prefix p).length_le
theorem zbg4 (z:Int):(z==0)=decide (z=0):=zgv z 0
theorem zbbH {d:Nat} (l:yC) (t:Term) (hl:l.length≤1000000) (h:∀ x∈l,zdG (zp d) x.Fs) (hd:d≤99) (hc:∀ x∈l,cOK x) (ht:cOK t):zDE l t=(true,zhO t l):=by
 have hreach:zK=70368744177664:=rfl;unfold zDE z1b
 have hL:=zTC (W:=zMK) (z:=default) l (fun x=>decide (cT x t<0)) (fun k=>(l,(),(k:Int),())) (fun _=>(t,())) (fun k=>(l,(k:Int),t))
  (fun k hk H K D=>by
   show (zzI l k t).ev H K D=_;unfold zzI;simp only [Wy.ev_i,Wy.ev_k,Wy.ev_h,Wy.ev_bn,Wy.ev_d,tT,hk,zsX (h _ (zu hk)) hd];rw [zV (by omega)]; rfl)
  (fun H K D=>by
   show (zzI l l.length t).ev H K D=_;unfold zzI;simp only [Wy.ev_i,Wy.ev_k,tT,Nat.lt_irrefl]) (l.length+Int.toNat (0:Int)+t.Fs.length+(1:Nat)) (by omega)
 have hL:zWh (l.length+Int.toNat (0:Int)+t.Fs.length+(1:Nat)) l 0 t=_:=hL;rw [hL,zY4,zbbf];have q1:=zbed l (fun x=>decide (cT x t<0))
 have q2:=zZc (fun x=>decide (cT x t<0)) l
 have q3:=zZn (fun x=>decide (cT x t<0)) l
 generalize (l.takeWhile fun x=>decide (cT x t<0)).length=k at q1 q2 q3 ⊢
 rw [← q2, ← q3];have g1:(decide ((0:Int)≤(0:Int))&&decide ((0:Int)≤(k:Int))&&decide ((k:Int)≤Int.ofNat l.length))=true:=by simp only [qc,qe,Int.ofNat_eq_natCast]; omega
 have g2:decide ((0+(l.take k).length)*32≤zK)=true:=by simp only [qe,List.length_take]; omega
 have g4:∀ m:Nat,decide (((l.take k).length+[(⟨0,[]⟩:Term)].length)*32≤zK)=true:=fun m=>by simp only [qe,List.length_take,List.length_singleton]; omega
 simp only [Wy.fin_i,Wy.fin_k,Wy.fin_bn,List.nil_append,Int.toNat_natCast,z5p,zC8,g1,g2,cond_true];by_cases hk:k<l.length
 ·have g3:decide ((k:Int)<Int.ofNat l.length)=true:=by simp [hk]
  have g5:(decide ((0:Int)≤(k:Int))&&decide ((k:Int)<Int.ofNat l.length))=true:=by rw [g3]; simp
  have hm:=zu hk;simp only [g3,zfe,Bool.and_self,cond_true,zsX (h _ hm) hd];rw [zbg4,zbgM hk];have gw:IntKind.i64.wrap ((k:Int)+1)=((k+1:Nat):Int):=zV (by omega)
  have gp:(zw9 (l.getD k default).Cf t.Cf).2=zzn (l.getD k default).Cf t.Cf:=by
   unfold zw9 zWO zzn;rw [Wy.fin_k,zbbD ⟨by have:=(hc _ hm).1; omega,(hc _ hm).2⟩ ⟨by have:=ht.1; omega,ht.2⟩]
  have gk:(decide ((0:Int)≤(k:Int))&&decide ((k:Int)≤Int.ofNat l.length)&&decide (Int.ofNat l.length≤Int.ofNat l.length))=true:=by simp only [qc,qe,Int.ofNat_eq_natCast]; omega
  have gk':decide ((k:Int)≤Int.ofNat l.length)=true:=by simp only [qe,Int.ofNat_eq_natCast]; omega
  have gk1':decide (((k+1:Nat):Int)≤Int.ofNat l.length)=true:=by simp only [qe,Int.ofNat_eq_natCast]; omega
  have gk1:(decide ((0:Int)≤((k+1:Nat):Int))&&decide (((k+1:Nat):Int)≤Int.ofNat l.length)&&decide (Int.ofNat l.length≤Int.ofNat l.length))=true:=by simp only [qc,qe,Int.ofNat_eq_natCast]; omega
  have gb:∀ x:Term,decide (((l.take k).length+[x].length)*32≤zK)=true:=fun x=>by simp only [qe,List.length_take,List.length_singleton]; omega
  have gc:∀ (x:Term) (m:Nat),decide (((l.take k++[x]).length+(l.drop m).length)*32≤zK)=true:=fun x m=>by simp only [qe,List.length_take,List.length_drop,qg,List.length_singleton]; omega
  by_cases hz:cT (l.getD k default) t=0
  ·have hz':zbO (zbD (l.getD k default).Fs) (zbD t.Fs)=0:=hz;simp only [hz,hz',if_true,decide_true,cond_true,gw,gp,zfe,Bool.true_and,gk1',Int.le_refl,decide_true,cond_true,Bool.and_self,gb,gc,Int.toNat_natCast,zC8,List.append_assoc,List.singleton_append]
  ·have hz':¬ zbO (zbD (l.getD k default).Fs) (zbD t.Fs)=0:=hz;simp only [hz,hz',if_false,decide_false,cond_false,cond_true,zfe,Bool.true_and,gk',Int.le_refl,decide_true,cond_true,Bool.and_self,gb,gc,List.append_assoc,List.singleton_append]
 ·have hk':k=l.length:=by omega
  have g3:decide ((k:Int)<Int.ofNat l.length)=false:=by simp [hk]
  have gk:(decide ((0:Int)≤(k:Int))&&decide ((k:Int)≤Int.ofNat l.length)&&decide (Int.ofNat l.length≤Int.ofNat l.length))=true:=by simp only [qc,qe,Int.ofNat_eq_natCast]; omega
  have gb:∀ x:Term,decide (((l.take k).length+[x].length)*32≤zK)=true:=fun x=>by simp only [qe,List.length_take,List.length_singleton]; omega
  have gc:∀ (x:Term) (m:Nat),decide (((l.take k++[x]).length+(l.drop m).length)*32≤zK)=true:=fun x m=>by simp only [qe,List.length_take,List.length_drop,qg,List.length_singleton]; omega
  have gk':decide ((k:Int)≤Int.ofNat l.length)=true:=by simp only [qe,Int.ofNat_eq_natCast]; omega
  simp only [g3,zfe,Bool.true_and,gk',Int.le_refl,decide_true,Bool.and_self,gb,gc,cond_true,cond_false];rw [zdd hk];simp [zbcV,zbcm]
theorem zbgc {d:Nat} (l:yD) (f:Fc) (hl:l.length≤1000000) (h:∀ x∈l,zcY (zp d) x.At) (hd:d≤99) (hc:∀ x∈l,0≤x.Exp∧x.Exp≤1000000) (ht:0≤f.Exp∧f.Exp≤1000000):zzO l f=(true,zIF f l):=by
 have hreach:zK=70368744177664:=rfl;unfold zzO zRQ
 have hL:=zTC (W:=zEQ) (z:=default) l (fun x=>decide (cF x f<0)) (fun k=>(l,(),(k:Int),())) (fun _=>(f,())) (fun k=>(l,(k:Int),f))
  (fun k hk H K D=>by
   show (zt4 l k f).ev H K D=_;unfold zt4;simp only [At.eta,Wy.ev_i,Wy.ev_k,Wy.ev_h,Wy.ev_bn,Wy.ev_d,tT,hk,zxo (h _ (zu hk)) hd];rw [zV (by omega)]; rfl)
  (fun H K D=>by
   show (zt4 l l.length f).ev H K D=_;unfold zt4;simp only [Wy.ev_i,Wy.ev_k,tT,Nat.lt_irrefl]) (l.length+Int.toNat (0:Int)+f.At.Ag.length+f.At.Items.length+(1:Nat)) (by omega)
 have hL:zOz (l.length+Int.toNat (0:Int)+f.At.Ag.length+f.At.Items.length+(1:Nat)) l 0 f=_:=hL;rw [At.eta,show (FO.mk f.At f.Exp:Fc)=f from rfl,hL,zY4,zbbm]
 have q1:=zbed l (fun x=>decide (cF x f<0))
 have q2:=zZc (fun x=>decide (cF x f<0)) l
 have q3:=zZn (fun x=>decide (cF x f<0)) l
 generalize (l.takeWhile fun x=>decide (cF x f<0)).length=k at q1 q2 q3 ⊢
 rw [← q2, ← q3];have g1:(decide ((0:Int)≤(0:Int))&&decide ((0:Int)≤(k:Int))&&decide ((k:Int)≤Int.ofNat l.length))=true:=by simp only [qc,qe,Int.ofNat_eq_natCast]; omega
 have g2:decide ((0+(l.take k).length)*128≤zK)=true:=by simp only [qe,List.length_take]; omega
 have gb:∀ x:Fc,decide (((l.take k).length+[x].length)*128≤zK)=true:=fun x=>by simp only [qe,List.length_take,List.length_singleton]; omega
 have gc:∀ (x:Fc) (m:Nat),decide (((l.take k++[x]).length+(l.drop m).length)*128≤zK)=true:=fun x m=>by simp only [qe,List.length_take,List.length_drop,qg,List.length_singleton]; omega
 have gk:(decide ((0:Int)≤(k:Int))&&decide ((k:Int)≤Int.ofNat l.length)&&decide (Int.ofNat l.length≤Int.ofNat l.length))=true:=by simp only [qc,qe,Int.ofNat_eq_natCast]; omega
 have ef:(FO.mk f.At f.Exp:Fc)=f:=rfl;simp only [At.eta,ef,Wy.fin_i,Wy.fin_k,Wy.fin_bn,List.nil_append,Int.toNat_natCast,z5p,zC8,g1,g2,cond_true];by_cases hk:k<l.length
 ·have g3:decide ((k:Int)<Int.ofNat l.length)=true:=by simp [hk]
  have g5:(decide ((0:Int)≤(k:Int))&&decide ((k:Int)<Int.ofNat l.length))=true:=by rw [g3]; simp
  have hm:=zu hk;simp only [g3,zfe,Bool.and_self,cond_true,zxo (h _ hm) hd];rw [zbg4,zbgR hk];have gw:IntKind.i64.wrap ((k:Int)+1)=((k+1:Nat):Int):=zV (by omega)
  have gp:IntKind.i64.wrap ((l.getD k default).Exp+f.Exp)=(l.getD k default).Exp+f.Exp:=by have:=hc _ hm; exact zjC (by omega) (by omega)
  have gk':decide ((k:Int)≤Int.ofNat l.length)=true:=by simp only [qe,Int.ofNat_eq_natCast]; omega
  have gk1':decide (((k+1:Nat):Int)≤Int.ofNat l.length)=true:=by simp only [qe,Int.ofNat_eq_natCast]; omega
  have gk1:(decide ((0:Int)≤((k+1:Nat):Int))&&decide (((k+1:Nat):Int)≤Int.ofNat l.length)&&decide (Int.ofNat l.length≤Int.ofNat l.length))=true:=by simp only [qc,qe,Int.ofNat_eq_natCast]; omega
  by_cases hz:cF (l.getD k default) f=0
  ·have hz':zbc (zdD (l.getD k default).At) (zdD f.At)=0:=hz;by_cases hk3:f.At.Kind<3
   ·simp only [hz,hz',hk3,if_true,decide_true,cond_true,gw,gp,zfe,Bool.true_and,gk1',Int.le_refl,decide_true,cond_true,Bool.and_self,gb,gc,Int.toNat_natCast,zC8,List.append_assoc,List.singleton_append]
   ·simp only [hz,hz',hk3,if_true,if_false,decide_true,decide_false,cond_true,cond_false,gw,gp,zfe,Bool.true_and,gk1',Int.le_refl,decide_true,cond_true,Bool.and_self,gb,gc,Int.toNat_natCast,zC8,List.append_assoc,List.singleton_append]
  ·have hz':¬ zbc (zdD (l.getD k default).At) (zdD f.At)=0:=hz;simp only [hz,hz',if_false,decide_false,cond_false,cond_true,zfe,Bool.true_and,gk',Int.le_refl,decide_true,cond_true,Bool.and_self,gb,gc,List.append_assoc,List.singleton_append]
 ·have g3:decide ((k:Int)<Int.ofNat l.length)=false:=by simp [hk]
  have gk':decide ((k:Int)≤Int.ofNat l.length)=true:=by simp only [qe,Int.ofNat_eq_natCast]; omega
  simp only [g3,zfe,Bool.true_and,gk',Int.le_refl,decide_true,Bool.and_self,gb,gc,cond_true,cond_false];rw [zdd hk];simp [zbcV,zbcm]
theorem zbhh (n:Nat) (h:n≤4000000):zd2 (n:Int)=(true,[]):=by
 have hreach:zK=70368744177664:=rfl;unfold zd2 zmQ;have e0:IntKind.i64.wrap ((0:Int) - 0)=0:=rfl;have e1:IntKind.i64.wrap ((n:Int) - 0)=(n:Int):=by rw [zjC (by omega) (by omega)]; omega
 have e2:decide ((n:Int)<0)=false:=decide_eq_false (by omega)
 rw [Wy.fin_i,e2,cond_false,e0,e1];by_cases hn:(n:Int)>0
 ·have e3:(true&&(decide ((n:Int)*Int.ofNat (32:Nat)≤Int.ofNat zK)&&(decide ((n:Int)≤Int.ofNat zK)&& !Nat.beq (2:Nat) (0:Nat))))=true:=by
   simp only [qc,qe,Int.ofNat_eq_natCast];exact ⟨trivial,by rw [hreach]; omega,by rw [hreach]; omega,rfl⟩
  rw [Wy.fin_i,decide_eq_true hn,cond_true,Wy.fin_i,e3,cond_true,Wy.fin_k];simp
 ·rw [Wy.fin_i,decide_eq_false hn]; rfl
theorem zbeD (ls:yA) (hn:ls.length≤10) (h:∀ l∈ls,l.length≤300000):zdE ls=(true,ls.flatten):=by
 have hreach:zK=70368744177664:=rfl;unfold zdE zlM;have e:∀ l:yC,l∈ls→l.length≤300000:=h
 have h1:=zc2 (W:=zgc) (z:=default) (l:=ls) (fun i (n:Nat)=>(ls,(n:Int),ls,(ls.length:Int),(i:Int),())) (fun _ _=>()) (fun y n=>.inl (n+y.length)) (fun n=>(ls,(n:Int))) (fun i n=>n≤i*300000)
  (fun i n hi hI=>.inl ⟨_,rfl,by have:=e _ (zu hi); omega,fun H K D=>by
   show (zc7 ls n ls ls.length i).ev H K D=_;unfold zc7;have hle:=e _ (zu hi);have hw:IntKind.i64.wrap ((n:Int)+((ls.getD i default).length:Int))=((n+(ls.getD i default).length:Nat):Int):=zox (by omega)
   simp only [Wy.ev_i,Wy.ev_k,Wy.ev_h,Wy.ev_bn,Wy.ev_d,tT,hi,hw];have h0:decide (((n+(ls.getD i default).length:Nat):Int)<0)=false:=decide_eq_false (by omega)
   rw [h0,zV (by omega)]; rfl⟩)
  (fun n hI H K D=>by
   show (zc7 ls n ls ls.length ls.length).ev H K D=_;unfold zc7;simp only [Wy.ev_i,Wy.ev_k,tT,Nat.lt_irrefl]) (ls.length+Int.toNat (0:Int)+ls.length+(Int.ofNat ls.length).toNat +Int.toNat (0:Int)+(1:Nat)) 0 0 (by omega) (by omega) (by omega)
 rw [List.drop_zero,zc3] at h1;have h1:zk6 (ls.length+Int.toNat (0:Int)+ls.length+(Int.ofNat ls.length).toNat +Int.toNat (0:Int)+(1:Nat)) ls 0 ls (Int.ofNat ls.length) 0=_:=h1
 have hb:∀ (r:yA) (n:Nat),(∀ l∈r,l.length≤300000)→r.foldl (fun n (y:yC)=>n+y.length) n≤n+r.length*300000:=fun r=>by
  induction r with
  | nil=>intro n _; simp
  | cons y r ih=>
   intro n hr;have q1:=ih (n+y.length) fun l hl=>hr l (by simp [hl])
   have q2:=hr y (by simp)
   rw [List.foldl_cons,qf]; omega
 have hsz:=hb ls 0 h
 have h2:=zc2 (W:=zfV) (z:=default) (l:=ls) (fun i (out:yC)=>((),ls,(ls.length:Int),(i:Int),())) (fun _ out=>(out,())) (fun y out=>.inl (out++y)) (fun out=>out) (fun i out=>out.length≤i*300000)
  (fun i out hi hI=>.inl ⟨_,rfl,by have:=e _ (zu hi); simp only [qg]; omega,fun H K D=>by
   show (zc0 ls ls.length i out).ev H K D=_;unfold zc0;have hle:=e _ (zu hi);have hr:decide ((out.length+(ls.getD i default).length)*32≤zK)=true:=by simp only [qe]; omega
   simp only [Wy.ev_i,Wy.ev_k,Wy.ev_h,Wy.ev_bn,Wy.ev_d,tT,hi,hr];rw [zV (by omega)]⟩)
  (fun out hI H K D=>by
   show (zc0 ls ls.length ls.length out).ev H K D=_;unfold zc0;simp only [Wy.ev_i,Wy.ev_k,tT,Nat.lt_irrefl]) (ls.length+(Int.ofNat ls.length).toNat +Int.toNat (0:Int)+([]:yC).length+(1:Nat)) 0 [] (by omega) (by omega) (by simp)
 rw [List.drop_zero,zc3] at h2;have h2:zkU (ls.length+(Int.ofNat ls.length).toNat +Int.toNat (0:Int)+([]:yC).length+(1:Nat)) ls (Int.ofNat ls.length) 0 []=_:=h2
 have hf:∀ (r:yA) (out:yC),r.foldl (fun out y=>out++y) out=out++r.flatten:=fun r=>by
  induction r with
  | nil=>intro out; simp
  | cons y r ih=>intro out; rw [List.foldl_cons,ih,List.flatten_cons,List.append_assoc]
 rw [Wy.fin_bn,h1,cond_true];simp only [Wy.fin_bn,zbhh _ (show ls.foldl (fun n (y:yC)=>n+y.length) 0≤4000000 by have:=Nat.mul_le_mul hn (Nat.le_refl 300000); omega),cond_true,h2,Wy.fin_k]
 rw [hf]; simp
theorem zbhe (n:Nat) (h:n≤4000000):zeg (n:Int)=(true,[]):=by
 have hreach:zK=70368744177664:=rfl;unfold zeg znp;have e0:IntKind.i64.wrap ((0:Int) - 0)=0:=rfl;have e1:IntKind.i64.wrap ((n:Int) - 0)=(n:Int):=by rw [zjC (by omega) (by omega)]; omega
 have e2:decide ((n:Int)<0)=false:=decide_eq_false (by omega)
 rw [Wy.fin_i,e2,cond_false,e0,e1];by_cases hn:(n:Int)>0
 ·have e3:(true&&(decide ((n:Int)*Int.ofNat (128:Nat)≤Int.ofNat zK)&&(decide ((n:Int)≤Int.ofNat zK)&& !Nat.beq (11:Nat) (0:Nat))))=true:=by
   simp only [qc,qe,Int.ofNat_eq_natCast];exact ⟨trivial,by rw [hreach]; omega,by rw [hreach]; omega,rfl⟩
  rw [Wy.fin_i,decide_eq_true hn,cond_true,Wy.fin_i,e3,cond_true,Wy.fin_k];simp
 ·rw [Wy.fin_i,decide_eq_false hn]; rfl
theorem zbez (ls:List (yD)) (hn:ls.length≤10) (h:∀ l∈ls,l.length≤300000):zdP ls=(true,ls.flatten):=by
 have hreach:zK=70368744177664:=rfl;unfold zdP zmz;have e:∀ l:yD,l∈ls→l.length≤300000:=h
 have h1:=zc2 (W:=zgp) (z:=default) (l:=ls) (fun i (n:Nat)=>(ls,(n:Int),ls,(ls.length:Int),(i:Int),())) (fun _ _=>()) (fun y n=>.inl (n+y.length)) (fun n=>(ls,(n:Int))) (fun i n=>n≤i*300000)
  (fun i n hi hI=>.inl ⟨_,rfl,by have:=e _ (zu hi); omega,fun H K D=>by
   show (zdf ls n ls ls.length i).ev H K D=_;unfold zdf;have hle:=e _ (zu hi);have hw:IntKind.i64.wrap ((n:Int)+((ls.getD i default).length:Int))=((n+(ls.getD i default).length:Nat):Int):=zox (by omega)
   simp only [Wy.ev_i,Wy.ev_k,Wy.ev_h,Wy.ev_bn,Wy.ev_d,tT,hi,hw];have h0:decide (((n+(ls.getD i default).length:Nat):Int)<0)=false:=decide_eq_false (by omega)
   rw [h0,zV (by omega)]; rfl⟩)
  (fun n hI H K D=>by
   show (zdf ls n ls ls.length ls.length).ev H K D=_;unfold zdf;simp only [Wy.ev_i,Wy.ev_k,tT,Nat.lt_irrefl]) (ls.length+Int.toNat (0:Int)+ls.length+(Int.ofNat ls.length).toNat +Int.toNat (0:Int)+(1:Nat)) 0 0 (by omega) (by omega) (by omega)
 rw [List.drop_zero,zc3] at h1;have h1:zlO (ls.length+Int.toNat (0:Int)+ls.length+(Int.ofNat ls.length).toNat +Int.toNat (0:Int)+(1:Nat)) ls 0 ls (Int.ofNat ls.length) 0=_:=h1
 have hb:∀ (r:List (yD)) (n:Nat),(∀ l∈r,l.length≤300000)→r.foldl (fun n (y:yD)=>n+y.length) n≤n+r.length*300000:=fun r=>by
  induction r with
  | nil=>intro n _; simp
  | cons y r ih=>
   intro n hr;have q1:=ih (n+y.length) fun l hl=>hr l (by simp [hl])
   have q2:=hr y (by simp)
   rw [List.foldl_cons,qf]; omega
 have hsz:=hb ls 0 h
 have h2:=zc2 (W:=zgh) (z:=default) (l:=ls) (fun i (out:yD)=>((),ls,(ls.length:Int),(i:Int),())) (fun _ out=>(out,())) (fun y out=>.inl (out++y)) (fun out=>out) (fun i out=>out.length≤i*300000)
  (fun i out hi hI=>.inl ⟨_,rfl,by have:=e _ (zu hi); simp only [qg]; omega,fun H K D=>by
   show (zc6 ls ls.length i out).ev H K D=_;unfold zc6;have hle:=e _ (zu hi);have hr:decide ((out.length+(ls.getD i default).length)*128≤zK)=true:=by simp only [qe]; omega
   simp only [Wy.ev_i,Wy.ev_k,Wy.ev_h,Wy.ev_bn,Wy.ev_d,tT,hi,hr];rw [zV (by omega)]⟩)
  (fun out hI H K D=>by
   show (zc6 ls ls.length ls.length out).ev H K D=_;unfold zc6;simp only [Wy.ev_i,Wy.ev_k,tT,Nat.lt_irrefl]) (ls.length+(Int.ofNat ls.length).toNat +Int.toNat (0:Int)+([]:yD).length+(1:Nat)) 0 [] (by omega) (by omega) (by simp)
 rw [List.drop_zero,zc3] at h2;have h2:zlj (ls.length+(Int.ofNat ls.length).toNat +Int.toNat (0:Int)+([]:yD).length+(1:Nat)) ls (Int.ofNat ls.length) 0 []=_:=h2
 have hf:∀ (r:List (yD)) (out:yD),r.foldl (fun out y=>out++y) out=out++r.flatten:=fun r=>by
  induction r with
  | nil=>intro out; simp
  | cons y r ih=>intro out; rw [List.foldl_cons,ih,List.flatten_cons,List.append_assoc]
 rw [Wy.fin_bn,h1,cond_true];simp only [Wy.fin_bn,zbhe _ (show ls.foldl (fun n (y:yD)=>n+y.length) 0≤4000000 by have:=Nat.mul_le_mul hn (Nat.le_refl 300000); omega),cond_true,h2,Wy.fin_k]
 rw [hf]; simp
theorem zHO {d:Nat} (hd:d≤99):∀ (n:Nat) (a b out:yD),a.length+b.length<n→a.length+b.length+out.length≤1000000→(∀ x∈a,zcY (zp d) x.At∧0≤x.Exp∧x.Exp≤1000000)→(∀ x∈b,0≤x.Exp∧x.Exp≤1000000)→
  ∃ a' b' out',zAv n a b out=(true,(a',b',out'))∧out'++(a'++b')=out++zbt a b∧a'.length≤a.length∧b'.length≤b.length∧out'.length≤out.length+a.length+b.length
 | 0,a,b,out,h,_,_,_=>by omega
 | n+1,a,b,out,h,hl,ha,hb=>by
  have hreach:zK=70368744177664:=rfl;show ∃ a' b' out',(zAb a b out).ev (fun x y=>zAv n x.1 x.2.1 y.1) (fun r=>(true,r)) (false,default)=_∧_
  unfold zAb
  match a,b,h,hl,ha,hb with
  | [],b,h,hl,ha,hb=>exact ⟨[],b,out,rfl,by rw [zbt]; simp,Nat.le_refl _,Nat.le_refl _,by omega⟩
  | x::a,[],h,hl,ha,hb=>
   have e1:decide (Int.ofNat (x::a).length>0)=true:=by simp
   refine ⟨x::a,[],out, ?_,by rw [zbt]; simp,Nat.le_refl _,Nat.le_refl _,by omega⟩
   rw [Wy.ev_i,e1,cond_true]; rfl
  | x::a,y::b,h,hl,ha,hb=>
   have hx:=ha x (by simp)
   have hy:=hb y (by simp)
   simp only [qf] at h hl;have e1:decide (Int.ofNat (x::a).length>0)=true:=by simp
   have e2:decide (Int.ofNat (y::b).length>0)=true:=by simp
   have e3:(decide ((0:Int)≤0)&&decide ((0:Int)<Int.ofNat (x::a).length))=true:=by simp
   have e4:(decide ((0:Int)≤0)&&decide ((0:Int)<Int.ofNat (y::b).length))=true:=by simp
   have e5:(x::a).getD (Int.toNat 0) default=x:=rfl;have e6:(y::b).getD (Int.toNat 0) default=y:=rfl;have e7:∀ z:Fc,decide ((out.length+[z].length)*128≤zK)=true:=fun z=>by simp only [qe,List.length_singleton]; omega
   have e8:(decide ((0:Int)≤1)&&decide ((1:Int)≤Int.ofNat (x::a).length)&&decide (Int.ofNat (x::a).length≤Int.ofNat (x::a).length))=true:=by simp; omega
   have e9:(decide ((0:Int)≤1)&&decide ((1:Int)≤Int.ofNat (y::b).length)&&decide (Int.ofNat (y::b).length≤Int.ofNat (y::b).length))=true:=by simp; omega
   have e10:List.take ((Int.ofNat (x::a).length).toNat - Int.toNat 1) (List.drop (Int.toNat 1) (x::a))=a:=by rw [show Int.toNat 1=1 from rfl,zC8]; rfl
   have e11:List.take ((Int.ofNat (y::b).length).toNat - Int.toNat 1) (List.drop (Int.toNat 1) (y::b))=b:=by rw [show Int.toNat 1=1 from rfl,zC8]; rfl
   have ea:∀ z∈a,zcY (zp d) z.At∧0≤z.Exp∧z.Exp≤1000000:=fun z hz=>ha z (by simp [hz])
   have eb:∀ z∈b,0≤z.Exp∧z.Exp≤1000000:=fun z hz=>hb z (by simp [hz])
   have ex:(FO.mk x.At x.Exp:Fc)=x:=rfl;have ey:(FO.mk y.At y.Exp:Fc)=y:=rfl;simp only [Wy.ev_i,Wy.ev_k,Wy.ev_h,Wy.ev_bn,Wy.ev_d,e1,e2,e3,e4,e5,e6,e7,e8,e9,e10,e11,cond_true,At.eta,zxR hx.1 hd,z5q,ex,ey];rw [zbt];have hcf:cF x y=zbc (zdD x.At) (zdD y.At):=rfl;rw [← hcf];by_cases h1:cF x y<0
   ·simp only [h1,decide_true,cond_true,if_true];obtain ⟨a',b',out',r1,r2,r3,r4,r5⟩:=zHO hd n a (y::b) (out++[x]) (by simp only [qf]; omega) (by simp only [qf,qg,List.length_nil]; omega) ea hb
    refine ⟨a',b',out',r1,by rw [r2]; simp,by simp only [qf]; omega,by simpa using r4,by simp only [qf,qg,List.length_nil] at r5 ⊢; omega⟩
   ·by_cases h2:0<cF x y
    ·have h2':cF x y>0:=h2;simp only [h1,h2,h2',decide_true,decide_false,cond_true,cond_false,if_true,if_false];obtain ⟨a',b',out',r1,r2,r3,r4,r5⟩:=zHO hd n (x::a) b (out++[y]) (by simp only [qf]; omega) (by simp only [qf,qg,List.length_nil]; omega) ha eb
     refine ⟨a',b',out',r1,by rw [r2]; simp,by simpa using r3,by simp only [qf]; omega,by simp only [qf,qg,List.length_nil] at r5 ⊢; omega⟩
    ·have h2':¬ cF x y>0:=h2;have hw:IntKind.i64.wrap (x.Exp+y.Exp)=x.Exp+y.Exp:=zjC (by omega) (by omega)
     simp only [h1,h2,h2',decide_false,cond_false,if_false,hw];have hk:(x.At.Kind==3||x.At.Kind==4)=decide (x.At.Kind=3∨x.At.Kind=4):=by rw [zgv,zgv, ← Bool.decide_or]
     rw [hk];by_cases h3:x.At.Kind=3∨x.At.Kind=4
     ·simp only [h3,decide_true,Bool.not_true,cond_false,if_true];obtain ⟨a',b',out',r1,r2,r3,r4,r5⟩:=zHO hd n a b (out++[x]) (by omega) (by simp only [qg,qf,List.length_nil]; omega) ea eb
      refine ⟨a',b',out',r1,by rw [r2]; simp,by simp only [qf]; omega,by simp only [qf]; omega,by simp only [qf,qg,List.length_nil] at r5 ⊢; omega⟩
     ·simp only [h3,decide_false,Bool.not_false,cond_true,if_false];obtain ⟨a',b',out',r1,r2,r3,r4,r5⟩:=zHO hd n a b (out++[⟨x.At,x.Exp+y.Exp⟩]) (by omega) (by simp only [qg,qf,List.length_nil]; omega) ea eb
      refine ⟨a',b',out',r1,by rw [r2]; simp,by simp only [qf]; omega,by simp only [qf]; omega,by simp only [qf,qg,List.length_nil] at r5 ⊢; omega⟩
theorem zbfK {d:Nat} (hd:d≤99) (a b:yD) (hl:a.length+b.length≤100000) (ha:∀ x∈a,zcY (zp d) x.At∧0≤x.Exp∧x.Exp≤1000000) (hb:∀ x∈b,0≤x.Exp∧x.Exp≤1000000):znT a b=(true,zbt a b):=by
 unfold znT zJB;obtain ⟨a',b',out',r1,r2,r3,r4,r5⟩:=zHO hd (a.length+b.length+(0:Nat)+(1:Nat)) a b [] (by omega) (by simp; omega) ha hb
 rw [Wy.fin_bn,r1,cond_true]
 have hc:=zbez [out',a',b'] (by simp) (fun l hl'=>by
  simp only [qd,List.not_mem_nil,or_false] at hl';simp only [List.length_nil] at r5;rcases hl' with rfl | rfl | rfl <;>omega)
 simp only [Wy.fin_bn,hc,cond_true,Wy.fin_k];congr 1
 simpa using r2
theorem z9V {a b:Int} (ha:1≤a∧a≤1152921504606846976) (hb:1≤b∧b≤1152921504606846976):zrn a b=(true,zAu a b)∧zCh a b=(true,zAu a b):=by
 obtain ⟨h1,h2⟩:=zTW ha hb;have h0:(!decide (b=(0:Int)))=true:=by rw [decide_eq_false (by omega)]; rfl
 have hq:0≤Int.tdiv 1152921504606846976 b∧Int.tdiv 1152921504606846976 b≤1152921504606846976:=by
  rw [Int.tdiv_eq_ediv_of_nonneg (by omega)]
  exact ⟨Int.ediv_nonneg (by omega) (by omega),Int.ediv_le_self _ (by omega)⟩
 have hw:IntKind.i64.wrap (Int.tdiv 1152921504606846976 b)=Int.tdiv 1152921504606846976 b:=zjC (by omega) (by omega)
 have key:∀ w:Int,(w=if Int.tdiv 1152921504606846976 b<a then 1152921504606846976 else IntKind.i64.wrap (a*b))→w=zAu a b:=fun w e=>by
  rw [e]; unfold zAu;split
  ·rfl
  ·rename_i hn;have h3:=h2 hn;have h4:=Int.mul_nonneg (show 0≤a by omega) (show 0≤b by omega)
   exact zjC (by omega) (by omega)
 constructor
 ·unfold zrn zH9;rw [Wy.fin_i,h0,cond_true,Wy.fin_i,hw,Wy.fin_k,Wy.fin_k];by_cases hc:Int.tdiv 1152921504606846976 b<a
  ·rw [decide_eq_true hc,cond_true]; exact congrArg (Prod.mk true) (key _ (by rw [if_pos hc]))
  ·rw [decide_eq_false hc,cond_false]; exact congrArg (Prod.mk true) (key _ (by rw [if_neg hc]))
 ·unfold zCh zUO;rw [Wy.fin_i,h0,cond_true,Wy.fin_i,hw,Wy.fin_k,Wy.fin_k];by_cases hc:Int.tdiv 1152921504606846976 b<a
  ·rw [decide_eq_true hc,cond_true]; exact congrArg (Prod.mk true) (key _ (by rw [if_pos hc]))
  ·rw [decide_eq_false hc,cond_false]; exact congrArg (Prod.mk true) (key _ (by rw [if_neg hc]))
theorem zvS {τ:Type} [Inhabited τ] {R:τ→τ→Prop} (ht:∀ x y z,R x y→R y z→R x z):∀ l:List τ,(∀ k,0<k→k<l.length→R (l.getD (k - 1) default) (l.getD k default))→l.Pairwise R
 | [],_=>.nil
 | [x],_=>by simp
 | x::y::r,h=>by
  have h1:R x y:=h 1 (by omega) (by simp)
  have h2:=zvS ht (y::r) fun k hk hl=>by
   have:=h (k+1) (by omega) (by simpa using hl)
   obtain ⟨j,rfl⟩:∃ j,k=j+1:=⟨k - 1,by omega⟩
   exact this
  refine qi.2 ⟨fun z hz=> ?_,h2⟩
  rcases qd.1 hz with rfl | hz
  ·exact h1
  ·exact ht x y z h1 ((qi.1 h2).1 z hz)
def GF (f:Fc):Prop:=(zd9 (zbF 9) f.At=true∧zgr f.At∧f.At.Items.length≤1024)∧1≤f.Exp∧f.Exp≤1000000
def GT (t:Term):Prop:=cOK t∧t.Fs.length≤1000∧∀ f∈t.Fs,GF f
def VT (t:Term):Prop:=GT t∧Srf t.Fs∧t.Fs.length≤64∧∀ f∈t.Fs,eOK f∧f.Exp≤64
theorem zxh {a:yC} (h:zQ a=true) (hw:zgA a):Srs a∧a.length≤512∧∀ t∈a,VT t:=by
 have h9:=z2t h (Nat.le_refl 9);rw [z3b] at h;obtain ⟨w1,w2,w3,w4⟩:=zw0 (zHZ h);have hall:=h;simp only [zyz,qc] at hall;refine ⟨zvS (R:=fun x y=>cT x y<0) (fun x y z h1 h2=>zGn h1 h2) a fun k hk hl=> ?_,w1,fun t ht=> ?_⟩
 ·have:=zem.1 hall.2 k (by omega) (by omega)
  simp only [zEJ,qc,Bool.or_eq_true,qe] at this;rcases this.1.2 with e | e
  ·omega
  ·exact e
 ·obtain ⟨hc,hok⟩:=zwu h ht;obtain ⟨l1,l2⟩:=w4 t ht;have hwt:=zoA (zwY (ztX hw t ht)).2.1;refine ⟨⟨hc,by omega,fun f hf=> ?_⟩,zvS (R:=fun x y=>cF x y<0) (fun x y z h1 h2=>zAo h1 h2) _ fun k hk hl=> ?_,l1,fun f hf=> ?_⟩
  ·obtain ⟨⟨e1,_⟩,hv⟩:=zpd hok hf;exact ⟨⟨by rw [zbdn (Nat.le_refl 9)]; exact hv,(zru (hwt f hf)).1,(l2 f hf).2⟩,e1,by have:=(l2 f hf).1; omega⟩
  ·have:=zem.1 hok k (by omega) (by omega)
   simp only [zPO,qc,Bool.or_eq_true,qe] at this;rcases this.1.2 with e | e
   ·omega
   ·exact e
  ·obtain ⟨⟨_,e2⟩,hv⟩:=zpd hok hf;exact ⟨⟨zEO hv,e2⟩,(l2 f hf).1⟩
theorem zwJ {m:Nat} {x:At} (h:zd9 (zbF m) x=true) (hi:x.Items.length≤1024):zcY (zp 9) x:=by
 cases zdv.1 h with
 | var r h=>exact ⟨⟨by simp,by simp,by show (ByteArray.mk #[]).size≤_; decide⟩,fun a ha=>(by cases ha),fun w hw=>(by cases hw)⟩
 | mon b c hb hc _ _ _=>
  refine ⟨⟨by simp,by simp,by show (ByteArray.mk #[]).size≤_; decide⟩,fun y hy=> ?_,fun w hw=>(by cases hw)⟩
  simp only [qd,List.not_mem_nil,or_false] at hy;rcases hy with rfl | rfl
  ·exact (ze8 hb).1
  ·exact (ze8 hc).1
 | del b hb _ _ _=>
  refine ⟨⟨by simp,by simp,by show (ByteArray.mk #[]).size≤_; decide⟩,fun y hy=> ?_,fun w hw=>(by cases hw)⟩
  rw [qh] at hy; subst hy; exact (ze8 hb).1
 | abs b hb _ _=>
  refine ⟨⟨by simp,by simp,by show (ByteArray.mk #[]).size≤_; decide⟩,fun y hy=> ?_,fun w hw=>(by cases hw)⟩
  rw [qh] at hy; subst hy; exact (ze8 hb).1
 | tst f l o b hl hv hs hf=>
  obtain ⟨_,hb,hit⟩:=ztt hf;simp only at hi;exact ⟨⟨by simp,by simp only; omega,by have:=zwv hb; simp only; omega⟩,fun a ha=>(by cases ha),fun w hw=>⟨by have:=zwv (hit w hw).1; omega,(ze8 (hv w hw).1).1⟩⟩
theorem GT.fine {t:Term} (h:GT t):zdG (zp 9) t.Fs:=⟨by have:=h.2.1; omega,fun f hf=>zwJ (h.2.2 f hf).1.1 (h.2.2 f hf).1.2.2⟩
theorem GF.gF {f:Fc} (h:GF f):gF (zbF 9) f:=⟨h.1.1,h.1.2.1,by constructor <;>(have:=h.2; omega)⟩
theorem GT.text {t:Term} (h:GT t):zqP t.Fs=(true,bs (txL t.Fs)):=
 (z9k 1000).2.2 9 t.Fs h.2.1 (fun f hf=>⟨(h.2.2 f hf).1.1,(h.2.2 f hf).1.2.1,(h.2.2 f hf).1.2.2,(h.2.2 f hf).gF.2.2⟩) (by omega)
theorem GT.inj {s t:Term} (hs:GT s) (ht:GT t) (h:bs (txL s.Fs)=bs (txL t.Fs)):s.Fs=t.Fs:=
 zbgQ (fun f hf=>(hs.2.2 f hf).gF) (fun f hf=>(ht.2.2 f hf).gF) (zbhu h)
def zpL:Int→yC→List (Go.Value×Int)
 | _,[]=>[]
 | i,t::r=>(.string (bs (txL t.Fs)),i)::zpL (i+1) r
def zIH (k:ByteArray):yC→Option Nat
 | []=>none
 | t::r=>if k=bs (txL t.Fs) then some 0 else (zIH k r).map (· +1)
theorem zOL (k:ByteArray) (t:Term) (r:yC):zIH k (t::r)=if k=bs (txL t.Fs) then some 0 else (zIH k r).map (· +1):=rfl
theorem zbeX (a b:ByteArray):zl9 (.string a) (.string b)=decide (a=b):=by
 cases a with | mk x=>cases b with | mk y=>
 show (x==y)=_;by_cases h:x=y
 ·subst h; simp
 ·have:(x==y)=false:=by rw [beq_eq_false_iff_ne]; exact h
  rw [this]; simp [h]
theorem zbaa (k:ByteArray):∀ (o:yC) (i:Int),zbcz (.string k) (zpL i o)=(zIH k o).isSome
 | [],i=>rfl
 | t::r,i=>by
  show (bif zl9 (.string k) (.string (bs (txL t.Fs))) then true else zbcz (.string k) (zpL (i+1) r))=_
  rw [zbeX,zbaa k r,zOL];by_cases h:k=bs (txL t.Fs)
  ·rw [decide_eq_true h,if_pos h]; rfl
  ·rw [decide_eq_false h,if_neg h]; cases zIH k r <;>rfl
theorem zbak (k:ByteArray):∀ (o:yC) (i:Int),zD9 (.string k) (zpL i o)=(zIH k o).map fun j:Nat=>i+(j:Int)
 | [],i=>rfl
 | t::r,i=>by
  show (bif zl9 (.string k) (.string (bs (txL t.Fs))) then some i else zD9 (.string k) (zpL (i+1) r))=_
  rw [zbeX,zbak k r,zOL];by_cases h:k=bs (txL t.Fs)
  ·rw [decide_eq_true h,if_pos h]; simp
  ·rw [decide_eq_false h,if_neg h];cases zIH k r with
   | none=>rfl
   | some j=>
    have e:i+1+(j:Int)=i+((j+1:Nat):Int):=by omega
    simp only [cond_false,Option.map_some,e]
theorem z89 (k:ByteArray) (x:Int):∀ (o:yC) (i:Int),zIH k o=none→zbct (.string k) x (zpL i o)=zpL i o++[(.string k,x)]
 | [],i,_=>rfl
 | t::r,i,h=>by
  rw [zOL] at h;by_cases hk:k=bs (txL t.Fs)
  ·rw [if_pos hk] at h; cases h
  ·rw [if_neg hk] at h;show (bif zl9 (.string k) (.string (bs (txL t.Fs))) then _ else (.string (bs (txL t.Fs)),i)::zbct (.string k) x (zpL (i+1) r))=_
   rw [zbeX,decide_eq_false hk,z89 k x r (i+1) (by cases hp:zIH k r with | none=>rfl | some j=>rw [hp] at h; cases h)]
   rfl
theorem z68 (t:Term):∀ (o:yC) (i:Int),zpL i (o++[t])=zpL i o++[(.string (bs (txL t.Fs)),i+(o.length:Int))]
 | [],i=>by simp [zpL]
 | x::r,i=>by
  have e:i+1+(r.length:Int)=i+((r.length+1:Nat):Int):=by omega
  simp only [List.cons_append,zpL,qf,z68 t r,e]
theorem z6V (y:Term):∀ (o:yC) (j:Nat) (i:Int),(o.getD j default).Fs=y.Fs→zpL i (o.set j y)=zpL i o
 | [],j,i,_=>rfl
 | x::r,0,i,h=>by simp only [List.set_cons_zero,zpL]; rw [show x.Fs=y.Fs from h]
 | x::r,j+1,i,h=>by simp only [List.set_cons_succ,zpL]; rw [z6V y r j (i+1) h]
theorem zbbq {t:Term} (ht:GT t):∀ {o:yC},(∀ x∈o,GT x)→(match zIH (bs (txL t.Fs)) o with
  | some j=>j<o.length∧(o.getD j default).Fs=t.Fs∧znB t o=o.set j ⟨zzn (o.getD j default).Cf t.Cf,(o.getD j default).Fs⟩
  | none=>znB t o=o++[t])
 | [],_=>rfl
 | x::r,h=>by
  have ih:=zbbq ht (o:=r) fun y hy=>h y (by simp [hy])
  rw [zOL];unfold znB;by_cases hk:bs (txL t.Fs)=bs (txL x.Fs)
  ·have e:=GT.inj ht (h x (by simp)) hk
   rw [if_pos hk,if_pos e.symm];exact ⟨by simp,e.symm,rfl⟩
  ·have e:¬ x.Fs=t.Fs:=fun e=>hk (by rw [e])
   rw [if_neg hk,if_neg e];cases hp:zIH (bs (txL t.Fs)) r with
   | none=>rw [hp] at ih; simp only [Option.map_none]; rw [ih]; rfl
   | some j=>
    rw [hp] at ih;obtain ⟨i1,i2,i3⟩:=ih;simp only [Option.map_some];exact ⟨by simp; exact i1,i2,by rw [i3]; rfl⟩
theorem zbdr {t:Term} (ht:GT t) {o:yC} (ho:∀ x∈o,GT x):∀ x∈znB t o,GT x:=by
 induction o with
 | nil=>intro x hx; simp only [znB,qh] at hx; subst hx; exact ht
 | cons y r ih=>
  intro x hx;unfold znB at hx;split at hx
  ·rcases qd.1 hx with rfl | hx
   ·have:=ho y (by simp)
    exact ⟨z6A this.1.1 ht.1.1,this.2⟩
   ·exact ho x (by simp [hx])
  ·rcases qd.1 hx with rfl | hx
   ·exact ho x (by simp)
   ·exact ih (fun z hz=>ho z (by simp [hz])) x hx
theorem z57 (t:Term):∀ o:yC,(znB t o).length≤o.length+1
 | []=>by simp [znB]
 | y::r=>by
  have:=z57 t r;unfold znB;split
  ·simp
  ·simp only [qf]; omega
theorem zbc8 (ts:yC) (hl:ts.length≤1000000) (h:∀ t∈ts,GT t) (n:Nat) (hn:ts.length<n):zvD n ts ts.length 0 [] []=(true,zO0 ts):=by
 have hreach:zK=70368744177664:=rfl
 have h2:=zc2 (W:=zvJ) (z:=default) (l:=ts) (fun i (out:yC)=>((),(),ts,(ts.length:Int),(i:Int),())) (fun _ out=>(zpL 0 out,out,())) (fun t out=>.inl (znB t out)) (fun out=>out) (fun i out=>out.length≤i∧∀ t∈out,GT t)
  (fun i out hi hI=>.inl ⟨_,rfl,⟨by have:=z57 (ts.getD i default) out; omega,zbdr (h _ (zu hi)) hI.2⟩,fun H K D=>by
   show (zkt ts ts.length i (zpL 0 out) out).ev H K D=_;unfold zkt;have ht:=h _ (zu hi);have hp:=zbbq ht hI.2;have hhas:=zbaa (bs (txL (ts.getD i default).Fs)) out 0;have hget:=zbak (bs (txL (ts.getD i default).Fs)) out 0;simp only [Wy.ev_i,Wy.ev_k,Wy.ev_h,Wy.ev_bn,Wy.ev_d,tT,hi,ht.text];rw [hhas,hget,zV (by omega)]
   cases hpos:zIH (bs (txL (ts.getD i default).Fs)) out with
   | none=>
    rw [hpos] at hp;have hb:decide ((out.length+[ts.getD i default].length)*32≤zK)=true:=by simp only [qe,List.length_singleton]; omega
    simp only [Option.isSome_none,cond_false,hb,cond_true];rw [z89 _ _ _ _ hpos,hp,z68];simp
   | some j=>
    rw [hpos] at hp;obtain ⟨p1,p2,p3⟩:=hp;have hj:=hI.2 _ (zu p1);have hw:IntKind.i64.wrap ((out.getD j default).Cf+(ts.getD i default).Cf)=(out.getD j default).Cf+(ts.getD i default).Cf:=zbbD ⟨by have:=hj.1.1; omega,hj.1.2⟩ ⟨by have:=ht.1.1; omega,ht.1.2⟩
    have e1:(0:Int)+(j:Int)=(j:Int):=by omega
    have e2:decide (j<out.length)=true:=decide_eq_true p1;simp only [Option.isSome_some,Option.map_some,Option.getD_some,e1,cond_true,tT,e2,hw];rw [p3,z6V ⟨zzn (out.getD j default).Cf (ts.getD i default).Cf,(out.getD j default).Fs⟩ out j 0 rfl];rfl⟩)
  (fun out hI H K D=>by
   show (zkt ts ts.length ts.length (zpL 0 out) out).ev H K D=_;unfold zkt;simp only [Wy.ev_i,Wy.ev_k,tT,Nat.lt_irrefl]) n 0 [] (by omega) (by omega) ⟨by simp,fun t ht=>by cases ht⟩
 rw [List.drop_zero,zc3] at h2;exact h2
theorem zbbl:∀ (ts o:yC),(∀ t∈ts,GT t)→(∀ t∈o,GT t)→∀ x∈ts.foldl (fun a t=>znB t a) o,GT x
 | [],o,_,ho=>ho
 | t::r,o,h,ho=>zbbl r (znB t o) (fun x hx=>h x (by simp [hx])) (zbdr (h t (by simp)) ho)
theorem z6X:∀ (ts o:yC),(ts.foldl (fun a t=>znB t a) o).length≤o.length+ts.length
 | [],o=>by simp
 | t::r,o=>by
  have h1:=z6X r (znB t o);have h2:=z57 t o;rw [List.foldl_cons,qf]; omega
theorem z4p (ts:yC) (hl:ts.length≤1000000) (h:∀ t∈ts,GT t):zhL ts=(true,zeo [] ts):=by
 unfold zhL zD4;have hL:=zbc8 ts hl h (ts.length+(Int.ofNat ts.length).toNat +Int.toNat (0:Int)+(0:Nat)+(0:Nat)+(1:Nat)) (by omega)
 have hL:zvD (ts.length+(Int.ofNat ts.length).toNat +Int.toNat (0:Int)+(0:Nat)+(0:Nat)+(1:Nat)) ts (Int.ofNat ts.length) 0 [] []=_:=hL;rw [Wy.fin_bn,hL,cond_true];obtain ⟨hp,hd⟩:=z7g ts [] [] .nil .nil .nil;have hs:=zKX ts [] .nil;have hg:∀ x∈zO0 ts,GT x:=zbbl ts [] h fun x hx=>by cases hx
 have hlen:(zO0 ts).length≤1000000:=by have:=z6X ts []; simp at this; exact Nat.le_trans this hl
 have e:∀ x∈zO0 ts,∀ y,zb3 x y=(true,cT x y):=fun x hx y=>zx5 (hg x hx).fine (by omega) y
 have ok:SortOK zb3 (zO0 ts):=by
  refine ⟨by omega,fun x hx y _=>by rw [e x hx],fun x hx=> ?_,fun x hx y hy z hz h1 h2=> ?_,fun x hx y hy z hz h1 h2=> ?_,fun x hx y hy h1 h2=> ?_⟩
  ·rw [e x hx]; have:=zC4 (x:=x) (y:=x) rfl; simp only; omega
  ·rw [e x hx] at h1 ⊢; rw [e y hy] at h2;exact zGn h1 h2
  ·rw [e x hx] at h1 ⊢; rw [e y hy] at h2;simp only at h1 h2 ⊢;have a1:=zGv x y;have a2:=zGv y z;have a3:=zGv x z;have:=zKC (zbD z.Fs) (zbD y.Fs) (zbD x.Fs) (show cT z y≤0 by omega) (show cT y x≤0 by omega)
   have:cT z x≤0:=this;omega
  ·rw [e x hx] at h1; rw [e y hy] at h2;simp only at h1 h2;have a1:=zGv x y;have hz:x.Fs=y.Fs:=zZh (by omega)
   by_cases hxy:x=y
   ·exact hxy
   ·exfalso
    -- two terms with the same factors are one
    have hdd:Dst (zO0 ts):=hd;have:=List.pairwise_iff_getElem.1 hdd;obtain ⟨i,hi,ei⟩:=List.mem_iff_getElem.1 hx;obtain ⟨j,hj,ej⟩:=List.mem_iff_getElem.1 hy;rcases Nat.lt_trichotomy i j with hij | hij | hij
    ·exact this i j hi hj hij (by rw [ei,ej]; exact hz)
    ·subst hij; exact hxy (ei.symm.trans ej)
    ·exact this j i hj hi hij (by rw [ei,ej]; exact hz.symm)
 unfold zbR zz7;simp only [Wy.fin_bn,Wy.fin_k,decide_eq_true ok,cond_true];congr 1;refine (ok.unique (hp:(zeo [] ts).Perm (zO0 ts)) ?_).symm;refine hs.imp_of_mem fun {x y} hx hy hxy=> ?_
 rw [e y ((hp:(zeo [] ts).Perm (zO0 ts)).mem_iff.1 hy)];have:=zGv x y;simp only; omega
mutual
theorem zbau:∀ x:At,zfd x≤zF2 x
 | ⟨_,_,a,_,i,_,_⟩=>by
  rw [zfd,zF2];have h1:=z06 a;have h2:=zWF i;omega
theorem zRj:∀ l:yD,zbN l≤zhf l
 | []=>by rw [zbN,zhf]; exact Nat.le_refl _
 | ⟨x,_⟩::r=>by
  rw [zbN,zhf];have h1:=zbau x;have h2:=zRj r;omega
theorem zJT:∀ l:yC,zN l≤zes l
 | []=>by rw [zN,zes]; exact Nat.le_refl _
 | ⟨_,fs⟩::r=>by
  rw [zN,zes];have h1:=zRj fs;have h2:=zJT r;omega
theorem z06:∀ l:yA,zfa l≤zp4 l
 | []=>by rw [zfa,zp4]; exact Nat.le_refl _
 | a::r=>by
  rw [zfa,zp4];have h1:=zJT a;have h2:=z06 r;omega
theorem zWF:∀ l:yE,zdh l≤l.length+zk1 l
 | []=>by rw [zdh,zk1]; exact Nat.zero_le _
 | ⟨_,a⟩::r=>by
  rw [zdh,zk1];have h1:=zJT a;have h2:=zWF r;simp only [qf];omega
end
theorem zbe7 (d:Nat):zp (d+1) []:=⟨by simp,fun t ht=>by cases ht⟩
def zUP (a:yC) (b:yC):Wy0 (yC×Int):=.bn (zfS a) fun r3=>.i (!r3) (.k ([],1)) (.bn (zfS b) fun r2=>.i (!r2) (.k ([],1)) (.i (Int.ofNat b.length==0) (.k (a,0)) (.i (Int.ofNat a.length==0) (.k ([],0)) (.bn (ztn a b) fun r1=>.i (r1) (.k ([],0)) (.bn (znb (zm8 (At.mk 1 (RowID.mk 0 0) [a,b] 0 [] 0 (Value.mk 0 0 (ByteArray.mk #[])))).2) fun r0=>.k (r0.1,r0.2))))))
def zPT (a:yC) (b:yC):=(zUP a b).fin default
def zQH (a:yC):Wy0 (yC×Int):=.bn (zfS a) fun r2=>.i (!r2) (.k ([],1)) (.i (Int.ofNat a.length==0) (.k (zIj.2,0)) (.bn (ziD a) fun r1=>.i (r1) (.k ([],0)) (.bn (znb (zm8 (At.mk 3 (RowID.mk 0 0) [a] 0 [] 0 (Value.mk 0 0 (ByteArray.mk #[])))).2) fun r0=>.k (r0.1,r0.2))))
def zMq (a:yC):=(zQH a).fin default
theorem zRi {B:Nat}:∀ l:yD,(∀ f∈l,zfd f.At≤B)→zbN l≤l.length*B
 | [],_=>by rw [ziF]; simp
 | f::r,h=>by
  have h1:=h f (by simp)
  have h2:=zRi r fun g hg=>h g (by simp [hg])
  rw [zc9,qf,Nat.add_mul]; omega
theorem z3v {B:Nat}:∀ l:yC,(∀ t∈l,1+t.Fs.length+zbN t.Fs≤B)→zN l≤l.length*B
 | [],_=>by rw [zty]; simp
 | f::r,h=>by
  have h1:=h f (by simp)
  have h2:=z3v r fun g hg=>h g (by simp [hg])
  rw [zet,qf,Nat.add_mul]; omega
theorem zbal {l:yC} (hl:l.length≤1000000) (h:∀ t∈l,GT t):zp 10 l∧zN l≤4611686018427387904:=by
 refine ⟨⟨hl,fun t ht=>(h t ht).fine⟩, ?_⟩
 refine Nat.le_trans (z3v (B:=4195330000) l fun t ht=> ?_) (by have:=Nat.mul_le_mul hl (Nat.le_refl 4195330000); omega)
 have hg:=h t ht;have h1:=zRi (B:=4195328) t.Fs fun f hf=>z1r (hg.2.2 f hf).1.1 (hg.2.2 f hf).1.2.2
 have:=Nat.mul_le_mul hg.2.1 (Nat.le_refl 4195328);have:=hg.2.1;omega
theorem z86 {t:Term} (ht:GT t) {l:yC} (hs:Srs l) (h:∀ x∈l,GT x):∀ x∈zhO t l,GT x:=fun x hx=>by
 have hc:=zbcG ht.1 (fun y hy=>(h y hy).1) x hx
 rcases (zAU hs).1 hx with ⟨h1,_⟩ | ⟨h1,_⟩
 ·exact h x h1
 ·exact ⟨hc,by rw [h1]; exact ht.2⟩
theorem zQR:∀ (b a:yC),Srs a→(∀ x∈a,GT x)→(∀ x∈b,GT x)→∀ x∈zeo a b,GT x
 | [],_,_,ha,_=>ha
 | t::r,a,hs,ha,hb=>zQR r (zhO t a) (zAT hs) (z86 (hb t (by simp)) hs ha) fun x hx=>hb x (by simp [hx])
theorem zSp {x y:Term} (hx:VT x) (hy:VT y):GT (zk7 x y):=by
 obtain ⟨gx,sx,lx,ex⟩:=hx;obtain ⟨gy,sy,ly,ey⟩:=hy;refine ⟨(zTW gx.1 gy.1).1,by have:=zMj x.Fs y.Fs; show (zbt x.Fs y.Fs).length≤1000; omega,fun f hf=> ?_⟩
 obtain ⟨g,hg,e⟩:=zut hf;have hb:=zMt (B:=64) (fun z hz=>⟨(gx.2.2 z hz).2.1,(ex z hz).2⟩) (fun z hz=>⟨(gy.2.2 z hz).2.1,(ey z hz).2⟩) hf
 have hv:(zd9 (zbF 9) g.At=true∧zgr g.At∧g.At.Items.length≤1024):=by
  rcases hg with hg | hg
  ·exact (gx.2.2 g hg).1
  ·exact (gy.2.2 g hg).1
 exact ⟨by rw [e]; exact hv,hb.1,by omega⟩
theorem z2k {a b:yC} (ha:∀ t∈a,VT t) (hb:∀ t∈b,VT t):∀ t∈zeX a b,GT t:=fun t ht=>by
 obtain ⟨x,hx,y,hy,rfl⟩:=zDl ht;exact zSp (ha x hx) (hb y hy)
theorem zbfN {x y:Term} (hx:VT x) (hy:VT y):znT x.Fs y.Fs=(true,zbt x.Fs y.Fs):=by
 obtain ⟨gx,sx,lx,ex⟩:=hx;obtain ⟨gy,sy,ly,ey⟩:=hy;exact zbfK (d:=9) (by omega) _ _ (by omega) (fun f hf=>⟨zwJ (gx.2.2 f hf).1.1 (gx.2.2 f hf).1.2.2,by have:=(gx.2.2 f hf).2; omega⟩) fun f hf=>by have:=(gy.2.2 f hf).2; omega
theorem zbin (a b:yC) (i:Int) (x:Term) (hx:VT x) (hb:∀ t∈b,VT t) (hbl:b.length≤512) (terms:yC) (hl:terms.length≤1000000) (n:Nat) (hn:b.length<n):
  zJH n b a a.length i b b.length 0 terms x=(true,(b,a,(a.length:Int),i,terms++b.map (zk7 x))):=by
 have hreach:zK=70368744177664:=rfl
 have:=zd7 (W:=zBS) (z:=default) b.length (fun j=>(b,(),(),a,(a.length:Int),i,b,(b.length:Int),(j:Int),())) (fun j=>(terms++(b.take j).map (zk7 x),x,())) (fun _=>true) default (b,a,(a.length:Int),i,terms++b.map (zk7 x))
  (fun j hj H K D=>by
   show (zoG b a a.length i b b.length j (terms++(b.take j).map (zk7 x)) x).ev H K D=_;unfold zoG;have hy:=hb _ (zu hj);have hr:decide (((terms++(b.take j).map (zk7 x)).length+1)*32≤zK)=true:=by simp only [qe,qg,List.length_map,List.length_take]; omega
   simp only [Wy.ev_i,Wy.ev_k,Wy.ev_h,Wy.ev_bn,Wy.ev_d,tT,hj,(z9V hx.1.1 hy.1.1).1,zbfN hx hy,List.length_singleton,hr];rw [zV (by omega),zkq hj,List.map_append, ← List.append_assoc]
   rfl)
  (fun H K D=>by
   show (zoG b a a.length i b b.length b.length (terms++(b.take b.length).map (zk7 x)) x).ev H K D=_;unfold zoG;simp only [Wy.ev_i,Wy.ev_k,tT,Nat.lt_irrefl,List.take_length]) n hn
 rw [show zeV (fun _=>true) b.length 0=true from zem.2 fun _ _ _=>rfl] at this
 simp only [List.take_zero,List.map_nil,List.append_nil] at this;exact this
theorem zbib (a b:yC) (ha:∀ t∈a,VT t) (hb:∀ t∈b,VT t) (hal:a.length≤512) (hbl:b.length≤512) (n:Nat) (hn:a.length<n):
  zBQ n b a a.length 0 []=(true,zeX a b):=by
 have:=zd7 (W:=zBC) (z:=default) a.length (fun i=>(b,(),a,(a.length:Int),(i:Int),())) (fun i=>(zeX (a.take i) b,())) (fun _=>true) default (zeX a b)
  (fun i hi H K D=>by
   show (zo1 b a a.length i (zeX (a.take i) b)).ev H K D=_;unfold zo1;have hx:=ha _ (zu hi)
   have hlen:(zeX (a.take i) b).length≤1000000:=by
    rw [zYp,List.length_take];have:=Nat.mul_le_mul (show min i a.length≤512 by omega) hbl
    omega
   simp only [Wy.ev_i,Wy.ev_k,Wy.ev_h,Wy.ev_bn,Wy.ev_d,tT,hi];rw [zbin a b i _ hx hb hbl _ hlen _ (by omega)]
   simp only [cond_true];rw [zV (by omega),zkq hi]
   have e:zeX (a.take i++[a.getD i default]) b=zeX (a.take i) b++b.map (zk7 (a.getD i default)):=by
    unfold zeX; rw [List.flatMap_append]; simp
   rw [e])
  (fun H K D=>by
   show (zo1 b a a.length a.length (zeX (a.take a.length) b)).ev H K D=_;unfold zo1;simp only [Wy.ev_i,Wy.ev_k,tT,Nat.lt_irrefl,List.take_length]) n hn
 rw [show zeV (fun _=>true) a.length 0=true from zem.2 fun _ _ _=>rfl] at this
 exact this
theorem szTs_get' (a:yC) (i:Nat) (h:i<a.length):(a.getD i default).Fs.length≤zb2 a:=zLR a i h
theorem zbeC (a b:yC) (i:Int) (k:Nat) (hk:k<b.length) (out:yC) (c:Int) (x:Term) (hx:VT x) (hy:VT (b.getD k default)) (n:Nat) (hn:(b.getD k default).Fs.length<n):
  zJq n a b i k 0 out c x.Fs=(true,(a,b,i,(k:Int),out,c,zbt x.Fs (b.getD k default).Fs)):=by
 obtain ⟨gx,sx,lx,ex⟩:=hx;obtain ⟨gy0,sy,ly,ey⟩:=hy;have gy:∀ f∈(b.getD k default).Fs,GF f:=gy0.2.2;have sy:Srf (b.getD k default).Fs:=sy;clear gy0;generalize hF:(b.getD k default).Fs=F at *
 have key:∀ j,j<F.length→zIF (F.getD j default) (zbt x.Fs (F.take j))=zbt x.Fs (F.take (j+1)):=fun j hj=>by
  have e1:=zS8 (F.take j) x.Fs (sy.sublist (List.take_sublist _ _)) (fun z hz=>(ex z hz).1) fun z hz=>(ey z (List.mem_of_mem_take hz)).1
  have e2:=zS8 (F.take (j+1)) x.Fs (sy.sublist (List.take_sublist _ _)) (fun z hz=>(ex z hz).1) fun z hz=>(ey z (List.mem_of_mem_take hz)).1
  rw [← e1, ← e2,zkq hj,List.foldl_append]; rfl
 have:=zd7 (W:=zBG) (z:=default) F.length (fun j=>(a,b,(),i,(k:Int),(),(j:Int),())) (fun j=>(out,(c,zbt x.Fs (F.take j),()),())) (fun _=>true) default (a,b,i,(k:Int),out,c,zbt x.Fs F)
  (fun j hj H K D=>by
   show (zoV a b i k j out c (zbt x.Fs (F.take j))).ev H K D=_;unfold zoV;have hlen:=zMj x.Fs (F.take j);rw [List.length_take] at hlen;have hex:=fun z (hz:z∈zbt x.Fs (F.take j))=>zMt (B:=64) (fun z hz=>⟨(gx.2.2 z hz).2.1,(ex z hz).2⟩) (fun z hz=>⟨(gy z (List.mem_of_mem_take hz)).2.1,(ey z (List.mem_of_mem_take hz)).2⟩) hz
   have hfine:∀ z∈zbt x.Fs (F.take j),zcY (zp 9) z.At:=fun z hz=>by
    obtain ⟨w,hw,e⟩:=zut hz;rw [e];rcases hw with hw | hw
    ·exact zwJ (gx.2.2 w hw).1.1 (gx.2.2 w hw).1.2.2
    ·exact zwJ (gy w (List.mem_of_mem_take hw)).1.1 (gy w (List.mem_of_mem_take hw)).1.2.2
   have hm:=zu hj;have e1:decide ((k:Int)<Int.ofNat b.length)=true:=by simp [hk]
   have e2:decide ((j:Int)<Int.ofNat F.length)=true:=by simp [hj]
   have efx:(FO.mk (F.getD j default).At (F.getD j default).Exp:Fc)=F.getD j default:=rfl;simp only [At.eta,Wy.ev_i,Wy.ev_k,Wy.ev_h,Wy.ev_bn,Wy.ev_d,zfe,Bool.and_self,cond_true,Int.toNat_natCast,hF,e1,e2,efx];rw [zbgc (d:=9) _ _ (by omega) hfine (by omega) (fun z hz=>by have:=hex z hz; omega) (by have:=(gy _ hm).2; omega),cond_true,zV (by omega),key j hj])
  (fun H K D=>by
   show (zoV a b i k F.length out c (zbt x.Fs (F.take F.length))).ev H K D=_;unfold zoV;have e1:decide ((k:Int)<Int.ofNat b.length)=true:=by simp [hk]
   have e2:decide ((F.length:Int)<Int.ofNat F.length)=false:=by simp
   simp only [Wy.ev_i,Wy.ev_k,zfe,Bool.and_self,cond_true,cond_false,Int.toNat_natCast,hF,e1,e2,List.take_length]) n hn
 rw [show zeV (fun _=>true) F.length 0=true from zem.2 fun _ _ _=>rfl] at this
 simp only [List.take_zero,zOJ] at this;exact this
theorem zbgo (a b:yC) (i:Nat) (hi:i<a.length) (hal:a.length≤512) (hbl:b.length≤512) (hx:VT (a.getD i default)) (hb:∀ t∈b,VT t) (out:yC) (ho:out.length≤i*512) (hs:Srs out) (hg:∀ t∈out,GT t) (n:Nat) (hn:b.length<n):
  zMb n a b i 0 out=(true,(a,b,(i:Int),zeo out (b.map (zk7 (a.getD i default))))):=by
 have:=zc2 (W:=zCT) (z:=default) (l:=b) (fun k (o:yC)=>(a,b,(),(i:Int),(k:Int),())) (fun _ o=>(o,())) (fun y o=>.inl (zhO (zk7 (a.getD i default) y) o)) (fun o=>(a,b,(i:Int),o)) (fun k o=>(o.length≤i*512+k∧Srs o)∧∀ t∈o,GT t)
  (fun k o hk hI=>.inl ⟨_,rfl,⟨⟨by have:=zY9 (t:=zk7 (a.getD i default) (b.getD k default)) o; omega,zAT hI.1.2⟩,z86 (zSp hx (hb _ (zu hk))) hI.1.2 hI.2⟩,fun H K D=>by
   show (zrm a b i k o).ev H K D=_;unfold zrm;have hy:=hb _ (zu hk);have hsz:=szTs_get' b k hk;simp only [Wy.ev_i,Wy.ev_k,Wy.ev_h,Wy.ev_bn,Wy.ev_d,tT,hk,hi,(z9V hx.1.1 hy.1.1).2];rw [zbeC a b i k hk o _ _ hx hy _ (by omega)]
   simp only [cond_true];have e:(TO.mk (zAu (a.getD i default).Cf (b.getD k default).Cf) (zbt (a.getD i default).Fs (b.getD k default).Fs):Term)=zk7 (a.getD i default) (b.getD k default):=rfl;have hg:=zSp hx hy;rw [e,zbbH (d:=9) o _ (by omega) (fun z hz=>(hI.2 z hz).fine) (by omega) (fun z hz=>(hI.2 z hz).1) hg.1]
   simp only [cond_true];rw [zV (by omega)]⟩)
  (fun o hI H K D=>by
   show (zrm a b i b.length o).ev H K D=_;unfold zrm;simp only [Wy.ev_i,Wy.ev_k,tT,Nat.lt_irrefl]) n 0 out (by omega) (by omega) (show (out.length≤i*512+0∧Srs out)∧∀ t∈out,GT t from ⟨⟨Nat.le_trans ho (Nat.le_add_right _ _),hs⟩,hg⟩)
 rw [List.drop_zero,zc3] at this
 have e:∀ (l:yC) (o:yC),l.foldl (fun s t=>zhO (zk7 (a.getD i default) t) s) o=zeo o (l.map (zk7 (a.getD i default))):=fun l=>by
  induction l with
  | nil=>intro o; rfl
  | cons y r ih=>intro o; rw [List.foldl_cons,ih]; rfl
 rw [e] at this;exact this
theorem zbaP (o:yC) (b:yC) (x:Term):(zeo o (b.map (zk7 x))).length≤o.length+b.length:=by
 have:=zKW (b.map (zk7 x)) o
 rwa [List.length_map] at this
theorem zbeZ (a b:yC) (ha:∀ t∈a,VT t) (hb:∀ t∈b,VT t) (hal:a.length≤512) (hbl:b.length≤512):zou a b=(true,zgi a b):=by
 unfold zou zOS
 have:=zc2 (W:=zCN) (z:=default) (l:=a) (fun i (o:yC)=>(a,b,(),(i:Int),())) (fun _ o=>(o,())) (fun x o=>.inl (zeo o (b.map (zk7 x)))) (fun o=>o) (fun i o=>(o.length≤i*512∧Srs o)∧∀ t∈o,GT t)
  (fun i o hi hI=>.inl ⟨_,rfl,⟨⟨by have:=zbaP o b (a.getD i default); omega,zKX _ _ hI.1.2⟩,zQR _ _ hI.1.2 hI.2 fun t ht=>by
    obtain ⟨y,hy,rfl⟩:=List.mem_map.1 ht;exact zSp (ha _ (zu hi)) (hb y hy)⟩,fun H K D=>by
   show (zq1 a b i o).ev H K D=_;unfold zq1;have e1:decide ((i:Int)<Int.ofNat a.length)=true:=by simp [hi]
   simp only [Wy.ev_i,Wy.ev_k,Wy.ev_h,Wy.ev_bn,Wy.ev_d,e1,cond_true];rw [zbgo a b i hi hal hbl (ha _ (zu hi)) hb o hI.1.1 hI.1.2 hI.2 _ (by omega)]
   simp only [cond_true];rw [zV (by omega)]⟩)
  (fun o hI H K D=>by
   show (zq1 a b a.length o).ev H K D=_;unfold zq1;have e1:decide ((a.length:Int)<Int.ofNat a.length)=false:=by simp
   simp only [Wy.ev_i,Wy.ev_k,e1,cond_false]) ((a.length+b.length+Int.toNat (0:Int)+(0:Nat)+(1:Nat))+zb2 a+zb2 b+zb2 []) 0 [] (by omega) (by omega) ⟨⟨by simp,.nil⟩,fun t ht=>by cases ht⟩
 rw [List.drop_zero,zc3] at this
 have e:∀ (l:yC) (o:yC),l.foldl (fun s x=>zeo s (b.map (zk7 x))) o=zeo o (zeX l b):=fun l=>by
  induction l with
  | nil=>intro o; rfl
  | cons y r ih=>
   intro o;rw [List.foldl_cons,ih];show _=(zeX (y::r) b).foldl (fun a t=>zhO t a) o
   unfold zeX;rw [List.flatMap_cons,List.foldl_append]; rfl
 rw [e] at this;have this:zL3 ((a.length+b.length+Int.toNat (0:Int)+(0:Nat)+(1:Nat))+zb2 a+zb2 b+zb2 []) a b 0 []=(true,zgi a b):=this;rw [Wy.fin_bn,this]; rfl
theorem zbgJ (a b:yC) (ha:∀ t∈a,GT t) (hb:∀ t∈b,GT t) (hs:Srs a) (hal:a.length≤512) (hbl:b.length≤512):zDx a b=(true,zeo a b):=by
 unfold zDx z0O
 have:=zc2 (W:=zLn) (z:=default) (l:=b) (fun i (o:yC)=>(o,b,(i:Int),())) (fun _ o=>()) (fun x o=>.inl (zhO x o)) (fun o=>o) (fun i o=>(o.length≤512+i∧Srs o)∧∀ t∈o,GT t)
  (fun i o hi hI=>.inl ⟨_,rfl,⟨⟨by have:=zY9 (t:=b.getD i default) o; omega,zAT hI.1.2⟩,z86 (hb _ (zu hi)) hI.1.2 hI.2⟩,fun H K D=>by
   show (zz8 o b i).ev H K D=_;unfold zz8;simp only [Wy.ev_i,Wy.ev_k,Wy.ev_h,Wy.ev_bn,Wy.ev_d,tT,hi];rw [zbbH (d:=9) o _ (by omega) (fun z hz=>(hI.2 z hz).fine) (by omega) (fun z hz=>(hI.2 z hz).1) (hb _ (zu hi)).1,cond_true,zV (by omega)]⟩)
  (fun o hI H K D=>by
   show (zz8 o b b.length).ev H K D=_;unfold zz8;simp only [Wy.ev_i,Wy.ev_k,tT,Nat.lt_irrefl]) (a.length+b.length+Int.toNat (0:Int)+(1:Nat)) 0 a (by omega) (by omega) ⟨⟨by omega,hs⟩,ha⟩
 rw [List.drop_zero,zc3] at this;have this:zYT (a.length+b.length+Int.toNat (0:Int)+(1:Nat)) a b 0=(true,zeo a b):=this;rw [Wy.fin_bn,this]; rfl
def okA (a:yC):Prop:=(zp 12 a∧zN a≤4611686018427387904)∧zgA a∧a.length≤zbk
def opR (ok:Bool) (r:yC×Int):yC×Int:=bif ok then r else ([],1)
def ze5 (a b:yC):yC×Int:=opR (zQ a&&zQ b) (znm (zeo a b))
def ze1 (a b:yC):yC×Int:=opR (zQ a&&zQ b) (znm (zgi a b))
def zbcA (a b:yC):At:=⟨1,⟨0,0⟩,[a,b],0,[],0,⟨0,0,ByteArray.mk #[]⟩⟩
def z6p (a:yC):At:=⟨2,⟨0,0⟩,[a],0,[],0,⟨0,0,ByteArray.mk #[]⟩⟩
def zbbS (a:yC):At:=⟨3,⟨0,0⟩,[a],0,[],0,⟨0,0,ByteArray.mk #[]⟩⟩
def zT9 (a b:yC):yC×Int:=opR (zQ a&&zQ b) (if b=[] then (a,0) else if a=[]∨a=b then ([],0) else znm (zcy (zbcA a b)))
def zUp (a:yC):yC×Int:=opR (zQ a) (if a=[]∨isU a=true then (a,0) else if isC a=true then ([⟨1,[]⟩],0) else znm (zcy (z6p a)))
def zUl (a:yC):yC×Int:=opR (zQ a) (if a=[] then ([⟨1,[]⟩],0) else if zyE a=true then ([],0) else znm (zcy (zbbS a)))
theorem okA.valid {a:yC} (h:okA a):zbX a=(true,zQ a):=z6T h.1.1 (by omega) h.1.2
theorem okA.rvalid {a:yC} (h:okA a):zfS a=(true,zQ a):=z2X h.1.1 (by omega) h.1.2
theorem z9s {a b:yC} (ha:okA a) (hb:okA b):zqw a b=(true,ze5 a b)∧zXo a b=(true,ze5 a b):=by
 unfold zqw zMa zXo z00 ze5;simp only [Wy.fin_bn,Wy.fin_i,Wy.fin_k,ha.valid,hb.valid,ha.rvalid,hb.rvalid,cond_true];cases va:zQ a with
 | false=>first | exact ⟨trivial,trivial⟩ | exact ⟨rfl,rfl⟩ | exact ⟨trivial,rfl⟩ | exact ⟨rfl,trivial⟩
 | true=>
  cases vb:zQ b with
  | false=>first | exact ⟨trivial,trivial⟩ | exact ⟨rfl,rfl⟩ | exact ⟨trivial,rfl⟩ | exact ⟨rfl,trivial⟩
  | true=>
   obtain ⟨sa,la,ta⟩:=zxh va ha.2.1;obtain ⟨sb,lb,tb⟩:=zxh vb hb.2.1;have ga:∀ t∈a,GT t:=fun t ht=>(ta t ht).1
   have gb:∀ t∈b,GT t:=fun t ht=>(tb t ht).1
   have hc:=zbeD [a,b] (by simp) (fun l hl=>by
    simp only [qd,List.not_mem_nil,or_false] at hl;rcases hl with rfl | rfl <;>omega)
   have e:[a,b].flatten=a++b:=by simp
   have hcol:=z4p (a++b) (by simp; omega) fun t ht=>by
    rcases List.mem_append.1 ht with ht | ht
    ·exact ga t ht
    ·exact gb t ht
   rw [e] at hc;rw [zbgI a b sa] at hcol;have hsl:(zeo a b).length≤1000000:=by have:=zKW b a; omega
   obtain ⟨f1,f2⟩:=zbal hsl (zQR b a sa ga gb);simp only [Bool.not_true,cond_false,Bool.and_self,hc,hcol,zAN f1 (by omega:10≤100) f2,zbgJ a b ga gb sa la lb,zRn f1 (by omega:10≤100) f2,cond_true]
   first | exact ⟨trivial,trivial⟩ | exact ⟨rfl,rfl⟩ | exact ⟨trivial,rfl⟩ | exact ⟨rfl,trivial⟩
theorem zbap {a b:yC} (ha:okA a) (hb:okA b):zqu a b=(true,ze1 a b)∧zXK a b=(true,ze1 a b):=by
 unfold zqu zLl zXK z02 ze1;simp only [Wy.fin_bn,Wy.fin_i,Wy.fin_k,ha.valid,hb.valid,ha.rvalid,hb.rvalid,cond_true];cases va:zQ a with
 | false=>first | exact ⟨trivial,trivial⟩ | exact ⟨rfl,rfl⟩ | exact ⟨trivial,rfl⟩ | exact ⟨rfl,trivial⟩
 | true=>
  cases vb:zQ b with
  | false=>first | exact ⟨trivial,trivial⟩ | exact ⟨rfl,rfl⟩ | exact ⟨trivial,rfl⟩ | exact ⟨rfl,trivial⟩
  | true=>
   obtain ⟨sa,la,ta⟩:=zxh va ha.2.1;obtain ⟨sb,lb,tb⟩:=zxh vb hb.2.1;have hm:=zbib a b ta tb la lb (b.length+a.length+(Int.ofNat a.length).toNat +Int.toNat (0:Int)+(0:Nat)+(1:Nat)) (by omega)
   have hm:zBQ (b.length+a.length+(Int.ofNat a.length).toNat +Int.toNat (0:Int)+(0:Nat)+(1:Nat)) b a (Int.ofNat a.length) 0 []=_:=hm;have hpl:(zeX a b).length≤1000000:=by rw [zYp]; have:=Nat.mul_le_mul la lb; omega
   have hcol:=z4p (zeX a b) hpl (z2k ta tb);have hsl:(zgi a b).length≤1000000:=by have:=zKW (zeX a b) []; simp at this; exact Nat.le_trans this hpl
   obtain ⟨f1,f2⟩:=zbal hsl (zQR (zeX a b) [] .nil (fun t ht=>by cases ht) (z2k ta tb))
   have f1:zp 10 (zgi a b):=f1;have f2:zN (zgi a b)≤4611686018427387904:=f2;have hcol:zhL (zeX a b)=(true,zgi a b):=hcol;simp only [Bool.not_true,cond_false,Bool.and_self,hm,hcol,zAN f1 (by omega:10≤100) f2,zbeZ a b ta tb la lb,zRn f1 (by omega:10≤100) f2,cond_true]
   first | exact ⟨trivial,trivial⟩ | exact ⟨rfl,rfl⟩ | exact ⟨trivial,rfl⟩ | exact ⟨rfl,trivial⟩
theorem zTh {l:yA} {k:Int} (hl:l.length≤2) (h:∀ a∈l,zQ a=true):zp 10 (zcy ⟨k,⟨0,0⟩,l,0,[],0,⟨0,0,ByteArray.mk #[]⟩⟩)∧zN (zcy ⟨k,⟨0,0⟩,l,0,[],0,⟨0,0,ByteArray.mk #[]⟩⟩)≤4611686018427387904:=by
 constructor
 ·exact zOu ⟨⟨by simp only; omega,by simp,by show (ByteArray.mk #[]).size≤_; decide⟩,fun a ha=>(ze8 (h a ha)).1,fun w hw=>(by cases hw)⟩
 ·rw [z1w,zhd]
  have hb:∀ l:yA,(∀ a∈l,zQ a=true)→zfa l≤l.length*4096:=fun l=>by
   induction l with
   | nil=>intro _; rw [zgF]; simp
   | cons a r ih=>
    intro h;have h1:=(ze8 (h a (by simp))).2.1
    have h2:=ih fun b hb=>h b (by simp [hb])
    rw [zeY,qf,Nat.add_mul]; omega
  have:=hb l h;show 2+(zfa l+zdh [])≤_;rw [zfG];have:=Nat.mul_le_mul hl (Nat.le_refl 4096);omega
theorem z5K (a:yC):(Int.ofNat a.length==(0:Int))=decide (a=[]):=by
 rw [show (Int.ofNat a.length==(0:Int))=(a.length==0) from zwR _ 0,z1x]
 congr 1;rw [List.length_eq_zero_iff]
theorem z9l {a b:yC} (ha:okA a) (hb:okA b):zqE a b=(true,zT9 a b)∧zPT a b=(true,zT9 a b):=by
 unfold zqE zG3 zPT zUP zT9;simp only [Wy.fin_bn,Wy.fin_i,Wy.fin_k,ha.valid,hb.valid,ha.rvalid,hb.rvalid,cond_true];cases va:zQ a with
 | false=>first | exact ⟨trivial,trivial⟩ | exact ⟨rfl,rfl⟩ | exact ⟨trivial,rfl⟩ | exact ⟨rfl,trivial⟩
 | true=>
  cases vb:zQ b with
  | false=>first | exact ⟨trivial,trivial⟩ | exact ⟨rfl,rfl⟩ | exact ⟨trivial,rfl⟩ | exact ⟨rfl,trivial⟩
  | true=>
   obtain ⟨f1,f2⟩:=zTh (l:=[a,b]) (k:=1) (by simp) (fun x hx=>by
    simp only [qd,List.not_mem_nil,or_false] at hx;rcases hx with rfl | rfl
    ·exact va
    ·exact vb)
   simp only [Bool.not_true,cond_false,Bool.and_self,z5K,zHb ha.1.1 (by omega:12≤100),zrG ha.1.1 (by omega:12≤100),zUN ha.1.1 (by omega:12≤100),zIl,zSb,zAN f1 (by omega:10≤100) f2,zRn f1 (by omega:10≤100) f2,cond_true,opR]
   by_cases hb0:b=[]
   ·simp only [hb0,decide_true,cond_true,if_true]; exact ⟨trivial,trivial⟩
   ·by_cases ha0:a=[]
    ·simp only [hb0,ha0,decide_true,decide_false,cond_true,cond_false,if_true,if_false,true_or]; exact ⟨trivial,trivial⟩
    ·by_cases hab:a=b
     ·simp only [hb0,ha0,hab,decide_true,decide_false,cond_true,cond_false,if_true,if_false,or_true]; exact ⟨trivial,trivial⟩
     ·simp only [hb0,ha0,hab,decide_false,cond_false,if_false,or_self]; first | exact ⟨trivial,trivial⟩ | exact ⟨rfl,rfl⟩ | exact ⟨trivial,rfl⟩ | exact ⟨rfl,trivial⟩
theorem z8x {a:yC} (ha:okA a):zqy a=(true,zUp a)∧zB2 a=(true,zUp a):=by
 unfold zqy zH1 zB2 zUW zUp;simp only [Wy.fin_bn,Wy.fin_i,Wy.fin_k,ha.valid,ha.rvalid,cond_true];cases va:zQ a with
 | false=>first | exact ⟨trivial,trivial⟩ | exact ⟨rfl,rfl⟩ | exact ⟨trivial,rfl⟩ | exact ⟨rfl,trivial⟩
 | true=>
  obtain ⟨f1,f2⟩:=zTh (l:=[a]) (k:=2) (by simp) (fun x hx=>by rw [qh] at hx; subst hx; exact va)
  have hla:a.length≤1000000000:=by have:=(ze8 va).2.2; omega
  have hbu:isB a=isU a:=zYc va;simp only [Bool.not_true,cond_false,z5K,zHb ha.1.1 (by omega:12≤100),z6S,zUA,zOv,zBU a hla,zIl,zSb,zAN f1 (by omega:10≤100) f2,zRn f1 (by omega:10≤100) f2,cond_true,opR,hbu]
  rw [show znm (zcy ⟨2,⟨0,0⟩,[a],0,[],0,⟨0,0,ByteArray.mk #[]⟩⟩)=znm (zcy (z6p a)) from rfl]
  clear f1 f2;generalize znm (zcy (z6p a))=R;by_cases h0:a=[]
  ·simp only [h0,decide_true,cond_true,if_true,true_or]; exact ⟨trivial,trivial⟩
  ·cases hu:isU a with
   | true=>simp only [h0,decide_false,cond_false,cond_true,if_true,or_true]; exact ⟨trivial,trivial⟩
   | false=>
    simp only [h0,decide_false,cond_false,if_false,or_self,Bool.false_eq_true]
    match a,h0 with
    | [t],_=>
     have e1:zyE [t]=(t.Fs.length==0):=by simp [zyE]
     have e2:isC [t]=(t.Fs.length==0):=rfl;rw [e1,e2];cases (t.Fs.length==0) with
     | true=>simp only [cond_true,if_true]; first | exact ⟨trivial,trivial⟩ | exact ⟨rfl,rfl⟩ | exact ⟨trivial,rfl⟩ | exact ⟨rfl,trivial⟩
     | false=>simp only [cond_false,cond_true,Bool.false_eq_true,if_false]; first | exact ⟨trivial,trivial⟩ | exact ⟨rfl,rfl⟩ | exact ⟨trivial,rfl⟩ | exact ⟨rfl,trivial⟩
    | t::s::r,_=>
     have e2:isC (t::s::r)=false:=rfl;simp only [zO7,e2,cond_false,cond_true,Bool.false_eq_true,if_false]
     first | exact ⟨trivial,trivial⟩ | exact ⟨rfl,rfl⟩ | exact ⟨trivial,rfl⟩ | exact ⟨rfl,trivial⟩
theorem z6v {a:yC} (ha:okA a):zoM a=(true,zUl a)∧zMq a=(true,zUl a):=by
 unfold zoM zFK zMq zQH zUl;simp only [Wy.fin_bn,Wy.fin_i,Wy.fin_k,ha.valid,ha.rvalid,cond_true];cases va:zQ a with
 | false=>first | exact ⟨trivial,trivial⟩ | exact ⟨rfl,rfl⟩ | exact ⟨trivial,rfl⟩ | exact ⟨rfl,trivial⟩
 | true=>
  obtain ⟨f1,f2⟩:=zTh (l:=[a]) (k:=3) (by simp) (fun x hx=>by rw [qh] at hx; subst hx; exact va)
  have hla:a.length≤1000000000:=by have:=(ze8 va).2.2; omega
  simp only [Bool.not_true,cond_false,z5K,zR3 a hla,zBU a hla,zIl,zSb,zAN f1 (by omega:10≤100) f2,zRn f1 (by omega:10≤100) f2,cond_true,opR]
  by_cases h0:a=[]
  ·simp only [h0,decide_true,cond_true,if_true]; first | exact ⟨trivial,trivial⟩ | exact ⟨rfl,rfl⟩ | exact ⟨trivial,rfl⟩ | exact ⟨rfl,trivial⟩
  ·cases hu:zyE a with
   | true=>simp only [h0,decide_false,cond_false,cond_true,if_true,if_false]; exact ⟨trivial,trivial⟩
   | false=>simp only [h0,decide_false,cond_false,if_false,Bool.false_eq_true]; first | exact ⟨trivial,trivial⟩ | exact ⟨rfl,rfl⟩ | exact ⟨trivial,rfl⟩ | exact ⟨rfl,trivial⟩
end Go.Proofs.YtljlfiomikifjaaGreatDoor
end
