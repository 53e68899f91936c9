/- Texts of this claim, joined (an interpreter of the code over typed data, and its soundness). -/
import Derived.Lib.Bytealg
set_option autoImplicit false
set_option linter.unusedVariables false
set_option linter.unusedSectionVars false
set_option linter.unusedSimpArgs false
/- Trees of integers with their lexicographic order: a total order. Plain Lean. -/
namespace Go.Ab
noncomputable section
inductive TT where
 | i (n:Int)
 | l (ts:List TT)
def cmpI (a b:Int):Int:=if a<b then -1 else if b<a then 1 else 0
mutual
def cmpT:TT→TT→Int
 | .i a,.i b=>cmpI a b
 | .l a,.l b=>cmpL a b
 | .i _,.l _=> -1
 | .l _,.i _=>1
def cmpL:List TT→List TT→Int
 | [],[]=>0
 | [],_::_=> -1
 | _::_,[]=>1
 | x::a,y::b=>if cmpT x y=0 then cmpL a b else cmpT x y
end
theorem zRF (a b:Int):cmpI b a= - cmpI a b:=by unfold cmpI; split <;>split <;>omega
theorem zT1 {a b:Int} (h:cmpI a b=0):a=b:=by
 unfold cmpI at h; split at h
 ·omega
 ·split at h <;>omega
theorem zQO {a b c:Int} (h1:cmpI a b≤0) (h2:cmpI b c≤0):cmpI a c≤0:=by
 unfold cmpI at *
 by_cases p:b<a
 ·rw [if_neg (by omega),if_pos p] at h1; omega
 ·by_cases q:c<b
  ·rw [if_neg (by omega),if_pos q] at h2; omega
  ·by_cases r:a<c
   ·rw [if_pos r]; omega
   ·rw [if_neg r,if_neg (by omega)]; omega
theorem zTk (a b:Int):cmpI a b= -1∨cmpI a b=0∨cmpI a b=1:=by
 unfold cmpI
 split
 ·simp
 ·split <;>simp
mutual
theorem zih:∀ a b:TT,cmpT b a= - cmpT a b
 | .i a,.i b=>by simp only [cmpT]; exact zRF a b
 | .l a,.l b=>by simp only [cmpT]; exact zzu a b
 | .i _,.l _=>by simp only [cmpT]; rfl
 | .l _,.i _=>by simp only [cmpT]
theorem zzu:∀ a b:List TT,cmpL b a= - cmpL a b
 | [],[]=>by simp only [cmpL]; rfl
 | [],_::_=>by simp only [cmpL]; rfl
 | _::_,[]=>by simp only [cmpL]
 | x::a,y::b=>by
  simp only [cmpL]
  rw [zih x y,zzu a b]
  split <;>split <;>omega
end
mutual
theorem zs7:∀ a b:TT,cmpT a b=0→a=b
 | .i a,.i b=>fun h=>by simp only [cmpT] at h; rw [zT1 h]
 | .l a,.l b=>fun h=>by simp only [cmpT] at h; rw [zA9 a b h]
 | .i _,.l _=>fun h=>by simp only [cmpT] at h; omega
 | .l _,.i _=>fun h=>by simp only [cmpT] at h; omega
theorem zA9:∀ a b:List TT,cmpL a b=0→a=b
 | [],[]=>fun _=>rfl
 | [],_::_=>fun h=>by simp only [cmpL] at h; omega
 | _::_,[]=>fun h=>by simp only [cmpL] at h; omega
 | x::a,y::b=>fun h=>by
  simp only [cmpL] at h
  split at h
  ·rename_i h0
   rw [zs7 x y h0,zA9 a b h]
  ·rename_i h0; exact absurd h h0
end
theorem zHh (a:TT):cmpT a a=0:=by have:=zih a a; omega
theorem zHz (a:List TT):cmpL a a=0:=by have:=zzu a a; omega
mutual
theorem zs4:∀ a b c:TT,cmpT a b≤0→cmpT b c≤0→cmpT a c≤0
 | .i a,.i b,.i c=>fun h1 h2=>by simp only [cmpT] at *; exact zQO h1 h2
 | .l a,.l b,.l c=>fun h1 h2=>by simp only [cmpT] at *; exact zA0 a b c h1 h2
 | .i a,.i b,.l c=>fun h1 h2=>by simp only [cmpT]; omega
 | .i a,.l b,.l c=>fun h1 h2=>by simp only [cmpT]; omega
 | .i a,.l b,.i c=>fun h1 h2=>by simp only [cmpT] at h2; omega
 | .l a,.i b,_=>fun h1 h2=>by simp only [cmpT] at h1; omega
 | .l a,.l b,.i c=>fun h1 h2=>by simp only [cmpT] at h2; omega
theorem zA0:∀ a b c:List TT,cmpL a b≤0→cmpL b c≤0→cmpL a c≤0
 | [],_,[]=>fun h1 h2=>by simp only [cmpL]; omega
 | [],_,_::_=>fun h1 h2=>by simp only [cmpL]; omega
 | _::_,[],_=>fun h1 h2=>by simp only [cmpL] at h1; omega
 | _::_,_::_,[]=>fun h1 h2=>by simp only [cmpL] at h2; omega
 | x::a,y::b,z::c=>fun h1 h2=>by
  simp only [cmpL] at *
  by_cases p:cmpT x y=0
  ·rw [if_pos p] at h1
   have p':=zs7 x y p
   subst p'
   by_cases q:cmpT x z=0
   ·rw [if_pos q] at h2 ⊢; exact zA0 a b c h1 h2
   ·rw [if_neg q] at h2 ⊢; exact h2
  ·rw [if_neg p] at h1
   by_cases q:cmpT y z=0
   ·have q':=zs7 y z q
    subst q'
    rw [if_neg p]; exact h1
   ·rw [if_neg q] at h2
    have t:=zs4 x y z h1 h2
    by_cases r:cmpT x z=0
    ·have r':=zs7 x z r
     subst r'
     have:=zih x y
     omega
    ·rw [if_neg r]; exact t
end
mutual
theorem zN2:∀ a b:TT,cmpT a b= -1∨cmpT a b=0∨cmpT a b=1
 | .i a,.i b=>by simp only [cmpT]; exact zTk a b
 | .l a,.l b=>by simp only [cmpT]; exact zN5 a b
 | .i _,.l _=>by simp [cmpT]
 | .l _,.i _=>by simp [cmpT]
theorem zN5:∀ a b:List TT,cmpL a b= -1∨cmpL a b=0∨cmpL a b=1
 | [],[]=>by simp [cmpL]
 | [],_::_=>by simp [cmpL]
 | _::_,[]=>by simp [cmpL]
 | x::a,y::b=>by
  simp only [cmpL]
  split
  ·exact zN5 a b
  ·exact zN2 x y
end
theorem zNq {a b c:List TT} (h1:cmpL a b<0) (h2:cmpL b c<0):cmpL a c<0:=by
 have h:=zA0 a b c (by omega) (by omega)
 by_cases e:cmpL a c=0
 ·have e':=zA9 a c e
  subst e'
  have:=zzu a b
  omega
 ·omega
def trB (b:ByteArray):TT:=.l (b.data.toList.map fun x=>.i (x.toNat:Int))
theorem zPM:∀ a b:List UInt8,Lib.compareBytes a b=cmpL (a.map fun x=>.i (x.toNat:Int)) (b.map fun x=>.i (x.toNat:Int))
 | [],[]=>by simp only [Lib.compareBytes,List.map,cmpL]
 | [],_::_=>by simp only [Lib.compareBytes,List.map,cmpL]
 | _::_,[]=>by simp only [Lib.compareBytes,List.map,cmpL]
 | x::a,y::b=>by
  simp only [Lib.compareBytes,List.map,cmpL,cmpT,cmpI]
  have e1:(x<y)↔(x.toNat:Int)<(y.toNat:Int):=by rw [UInt8.lt_iff_toNat_lt]; omega
  have e2:(y<x)↔(y.toNat:Int)<(x.toNat:Int):=by rw [UInt8.lt_iff_toNat_lt]; omega
  by_cases p:x<y
  ·simp [p,e1.1 p]
  ·by_cases q:y<x
   ·simp only [if_neg p,if_pos q,if_neg (fun h=>p (e1.2 h)),if_pos (e2.1 q)]; rfl
   ·simp only [if_neg p,if_neg q,if_neg (fun h=>p (e1.2 h)),if_neg (fun h=>q (e2.2 h)),if_true]; exact zPM a b
theorem zQt (a b:ByteArray):Lib.compareBytes a.data.toList b.data.toList=cmpT (trB a) (trB b):=by rw [zPM]; simp only [trB,cmpT]
end
end Go.Ab
