/- Texts of this claim, joined (the program, its functions in plain words, and what they compute). -/
import Derived.Test.YtnolcogncjijpaaGreatDoorGC1
import Derived.Test.YtnolcogncjijpaaGreatDoorGC4
import Derived.Test.YtnolcogncjijpaaGreatDoorGA2
import Derived.Test.YtnolcogncjijpaaGreatDoorGC7
import Derived.Test.YtnolcogncjijpaaGreatDoorGC6
import Derived.Test.YtnolcogncjijpaaGreatDoorGC3
import Derived.Test.YtnolcogncjijpaaGreatDoorGC5
set_option autoImplicit false
set_option linter.unusedVariables false
set_option linter.unusedSectionVars false
set_option linter.unusedSimpArgs false
set_option maxRecDepth 1000000
set_option maxHeartbeats 0
noncomputable section
namespace Go.Proofs.YtnolcogncjijpaaGreatDoor
open Go Go.Ab
abbrev zuH:=List Term×List Term×Unit×Int×Int×Unit×Int×Unit
abbrev zuP:=List Term×(Int×List Factor×Unit)×Unit
abbrev ttTref05Product2:=List Term×List Term×Int×Int×List Term×Int×List Factor
abbrev zuU:=List Term×List Term×Unit×Int×Int×Unit
abbrev zkp:=List Term×Unit
abbrev ttTref05Product5:=List Term×List Term×Int×List Term
abbrev zuX:=List Term×List Term×Unit×Int×Unit
def zlT (a:List Term) (b:List Term) (i:Int) (k:Int) (j:Int) (out_:List Term) (t_0:Int) (t_1:List Factor):Wy zuH zuP ttTref05Product2:=.i (decide (0≤k)&&decide (k<Int.ofNat b.length)) (.i (decide (j<Int.ofNat (b.getD k.toNat default).Factors.length)) (.i (decide (0≤k)&&decide (k<Int.ofNat b.length)) (.i (decide (0≤j)&&decide (j<Int.ofNat (b.getD k.toNat default).Factors.length)) (.bn (zBk t_1 (FactorOf.mk (Atom.mk ((b.getD k.toNat default).Factors.getD j.toNat default).Atom.Kind ((b.getD k.toNat default).Factors.getD j.toNat default).Atom.Row ((b.getD k.toNat default).Factors.getD j.toNat default).Atom.Args ((b.getD k.toNat default).Factors.getD j.toNat default).Atom.Func ((b.getD k.toNat default).Factors.getD j.toNat default).Atom.Items ((b.getD k.toNat default).Factors.getD j.toNat default).Atom.Op ((b.getD k.toNat default).Factors.getD j.toNat default).Atom.Bound) ((b.getD k.toNat default).Factors.getD j.toNat default).Exp)) fun r0=>.h (a,b,(),i,k,(),(IntKind.i64.wrap (j+1)),()) (out_,(t_0,(r0),()),())) .d) .d) (.k (a,b,i,k,out_,t_0,t_1))) .d
def zAu (x:zuH) (y:zuP):Wy zuH zuP ttTref05Product2:=zlT x.1 x.2.1 x.2.2.2.1 x.2.2.2.2.1 x.2.2.2.2.2.2.1 y.1 y.2.1.1 y.2.1.2.1
def zAi (n:Nat) (a:List Term) (b:List Term) (i:Int) (k:Int) (j:Int) (out_:List Term) (t_0:Int) (t_1:List Factor):Bool×ttTref05Product2:=zQ (zAu) default n (a,b,(),i,k,(),j,()) (out_,(t_0,t_1,()),())
def zm6 (a:List Term) (b:List Term) (i:Int) (k:Int) (out_:List Term):Wy zuU zkp ttTref05Product5:=.i (decide (k<Int.ofNat b.length)) (.i (decide (0≤i)&&decide (i<Int.ofNat a.length)) (.i (decide (0≤k)&&decide (k<Int.ofNat b.length)) (.bn (zDU (a.getD i.toNat default).Coeff (b.getD k.toNat default).Coeff) fun r4=>.i (decide (0≤i)&&decide (i<Int.ofNat a.length)) (.bn (zAi ((a.length+b.length+i.toNat +k.toNat +Int.toNat 0+out_.length+r4.toNat +(a.getD i.toNat default).Factors.length+1)+szTs a+szTs b+szTs out_+szFs (a.getD i.toNat default).Factors) a b i k 0 out_ r4 (a.getD i.toNat default).Factors) fun r3=>.bn (zDl r3.2.2.2.2.1 (TermOf.mk r3.2.2.2.2.2.1 r3.2.2.2.2.2.2)) fun r2=>.h ((r3.1),(r3.2.1),(),(r3.2.2.1),(IntKind.i64.wrap (r3.2.2.2.1+1)),()) ((r2),())) .d) .d) .d) (.k (a,b,i,out_))
def zBi (x:zuU) (y:zkp):Wy zuU zkp ttTref05Product5:=zm6 x.1 x.2.1 x.2.2.2.1 x.2.2.2.2.1 y.1
def zB6 (n:Nat) (a:List Term) (b:List Term) (i:Int) (k:Int) (out_:List Term):Bool×ttTref05Product5:=zQ (zBi) default n (a,b,(),i,k,()) (out_,())
def zna (a:List Term) (b:List Term) (i:Int) (out_:List Term):Wy zuX zkp (List Term):=.i (decide (i<Int.ofNat a.length)) (.bn (zB6 ((a.length+b.length+i.toNat +Int.toNat 0+out_.length+1)+szTs a+szTs b+szTs out_) a b i 0 out_) fun r8=>.h ((r8.1),(r8.2.1),(),(IntKind.i64.wrap (r8.2.2.1+1)),()) ((r8.2.2.2),())) (.k out_)
def zCB (x:zuX) (y:zkp):Wy zuX zkp (List Term):=zna x.1 x.2.1 x.2.2.2.1 y.1
def zBH (n:Nat) (a:List Term) (b:List Term) (i:Int) (out_:List Term):Bool×List Term:=zQ (zCB) default n (a,b,(),i,()) (out_,())
def zC8 (a:List Term) (b:List Term):Wy0 (List Term):=.bn (zBH ((a.length+b.length+Int.toNat 0+0+1)+szTs a+szTs b+szTs []) a b 0 []) fun r10=>.k r10
def zz4 (a:List Term) (b:List Term):Bool×List Term:=(zC8 a b).fin default
def zJr (a:List Term) (b:List Term):Wy0 (List Term×Int):=.bn (zfD a) fun r3=>.i (!r3) (.k ([],1)) (.bn (zfD b) fun r2=>.i (!r2) (.k ([],1)) (.bn (zz4 a b) fun r1=>.bn (zn3 r1) fun r0=>.k (r0.1,r0.2)))
def zIl (a:List Term) (b:List Term):Bool×(List Term×Int):=(zJr a b).fin default
abbrev zCc:=List Term×List Term×Int×Unit
def zsy (a:List Term) (b:List Term) (i:Int):Wy zCc (Unit) (List Term):=.i (decide (i<Int.ofNat b.length)) (.i (decide (0≤i)&&decide (i<Int.ofNat b.length)) (.bn (zDl a (b.getD i.toNat default)) fun r0=>.h ((r0),b,(IntKind.i64.wrap (i+1)),()) ()) .d) (.k a)
def zIe (x:zCc) (y:Unit):Wy zCc (Unit) (List Term):=zsy x.1 x.2.1 x.2.2.1
def zIo (n:Nat) (a:List Term) (b:List Term) (i:Int):Bool×List Term:=zQ (zIe) default n (a,b,i,()) ()
def zJL (a:List Term) (b:List Term):Wy0 (List Term):=.bn (zIo (a.length+b.length+Int.toNat 0+1) a b 0) fun r2=>.k r2
def zHU (a:List Term) (b:List Term):Bool×List Term:=(zJL a b).fin default
def zJJ (a:List Term) (b:List Term):Wy0 (List Term×Int):=.bn (zfD a) fun r3=>.i (!r3) (.k ([],1)) (.bn (zfD b) fun r2=>.i (!r2) (.k ([],1)) (.bn (zHU a b) fun r1=>.bn (zn3 r1) fun r0=>.k (r0.1,r0.2)))
def zIm (a:List Term) (b:List Term):Bool×(List Term×Int):=(zJJ a b).fin default
def insT (t:Term):List Term→List Term
 | []=>[t]
 | x::r=>if cT x t=0 then ⟨zoV x.Coeff t.Coeff,t.Factors⟩::r else t::x::r
def insF (f:Factor):List Factor→List Factor
 | []=>[f]
 | x::r=>if cF x f=0 then (if f.Atom.Kind<3 then ⟨f.Atom,x.Exp+f.Exp⟩ else f)::r else f::x::r
theorem zUd {t:Term} {l:List Term} {k:Nat} (hk:k<l.length):insT t (l.drop k)=if cT (l.getD k default) t=0 then ⟨zoV (l.getD k default).Coeff t.Coeff,t.Factors⟩::l.drop (k+1) else t::l.drop k:=by
 rw [zbm hk]; rfl
theorem zUk {f:Factor} {l:List Factor} {k:Nat} (hk:k<l.length):insF f (l.drop k)=if cF (l.getD k default) f=0 then (if f.Atom.Kind<3 then ⟨f.Atom,(l.getD k default).Exp+f.Exp⟩ else f)::l.drop (k+1) else f::l.drop k:=by
 rw [zbm hk]; rfl
theorem zPL (t:Term):∀ l:List Term,putA t l=l.takeWhile (fun x=>decide (cT x t<0))++insT t (l.dropWhile (fun x=>decide (cT x t<0)))
 | []=>rfl
 | x::r=>by
  rw [List.takeWhile_cons,List.dropWhile_cons]
  unfold putA
  by_cases h:cT x t<0
  ·simp only [h,if_true,decide_true,List.cons_append]
   rw [zPL t r]
  ·simp only [h,if_false,decide_false,Bool.false_eq_true,List.nil_append]; rfl
theorem zQc (f:Factor):∀ l:List Factor,facA f l=l.takeWhile (fun x=>decide (cF x f<0))++insF f (l.dropWhile (fun x=>decide (cF x f<0)))
 | []=>rfl
 | x::r=>by
  rw [List.takeWhile_cons,List.dropWhile_cons]
  unfold facA
  by_cases h:cF x f<0
  ·simp only [h,if_true,decide_true,List.cons_append]
   rw [zQc f r]
  ·simp only [h,if_false,decide_false,Bool.false_eq_true,List.nil_append]; rfl
theorem zQm {a b:Int} (ha:0≤a∧a≤1152921504606846976) (hb:0≤b∧b≤1152921504606846976):IntKind.i64.wrap (a+b)=a+b:=zim (by omega) (by omega)
theorem zRw {τ:Type} (l:List τ) (p:τ→Bool):(l.takeWhile p).length≤l.length:=(List.takeWhile_prefix p).length_le
theorem beq0 (z:Int):(z==0)=decide (z=0):=beqd z 0
theorem zQi {d:Nat} (l:List Term) (t:Term) (hl:l.length≤1000000) (h:∀ x∈l,zfF (zm d) x.Factors) (hd:d≤99) (hc:∀ x∈l,cOK x) (ht:cOK t):zDl l t=(true,putA t l):=by
 have hreach:zK=70368744177664:=rfl
 unfold zDl zJg
 have hL:=zFn (W:=zHf) (z:=default) l (fun x=>decide (cT x t<0)) (fun k=>(l,(),(k:Int),())) (fun _=>(t,())) (fun k=>(l,(k:Int),t))
  (fun k hk H K D=>by
   show (zr4 l k t).ev H K D=_
   unfold zr4
   simp only [Wy.ev_i,Wy.ev_k,Wy.ev_h,Wy.ev_bn,Wy.ev_d,tT,hk,znD (h _ (zp hk)) hd]
   rw [zM (by omega)]; rfl)
  (fun H K D=>by
   show (zr4 l l.length t).ev H K D=_
   unfold zr4
   simp only [Wy.ev_i,Wy.ev_k,tT,Nat.lt_irrefl]) ((l.length+Int.toNat (0:Int)+(1:Nat))+t.Factors.length) (by omega)
 have hL:zG8 ((l.length+Int.toNat (0:Int)+(1:Nat))+t.Factors.length) l 0 t=_:=hL
 rw [hL,zI5,zPL]
 have q1:=zRw l (fun x=>decide (cT x t<0))
 have q2:=zIO (fun x=>decide (cT x t<0)) l
 have q3:=zIH (fun x=>decide (cT x t<0)) l
 generalize (l.takeWhile fun x=>decide (cT x t<0)).length=k at q1 q2 q3 ⊢
 rw [← q2, ← q3]
 have g1:(decide ((0:Int)≤(0:Int))&&decide ((0:Int)≤(k:Int))&&decide ((k:Int)≤Int.ofNat l.length))=true:=by simp only [Bool.and_eq_true,decide_eq_true_eq,Int.ofNat_eq_natCast]; omega
 have g2:decide ((0+(l.take k).length)*32≤zK)=true:=by simp only [decide_eq_true_eq,List.length_take]; omega
 have g4:∀ m:Nat,decide (((l.take k).length+[(⟨0,[]⟩:Term)].length)*32≤zK)=true:=fun m=>by simp only [decide_eq_true_eq,List.length_take,List.length_singleton]; omega
 simp only [Wy.fin_i,Wy.fin_k,Wy.fin_bn,List.nil_append,Int.toNat_natCast,zMf,zvl,g1,g2,cond_true]
 by_cases hk:k<l.length
 ·have g3:decide ((k:Int)<Int.ofNat l.length)=true:=by simp [hk]
  have g5:(decide ((0:Int)≤(k:Int))&&decide ((k:Int)<Int.ofNat l.length))=true:=by rw [g3]; simp
  have hm:=zp hk
  simp only [g3,zez,Bool.and_self,cond_true,znD (h _ hm) hd]
  rw [beq0,zUd hk]
  have gw:IntKind.i64.wrap ((k:Int)+1)=((k+1:Nat):Int):=zM (by omega)
  have gp:(zvZ (l.getD k default).Coeff t.Coeff).2=zoV (l.getD k default).Coeff t.Coeff:=by
   unfold zvZ zIg zoV
   rw [Wy.fin_k,zQm ⟨by have:=(hc _ hm).1; omega,(hc _ hm).2⟩ ⟨by have:=ht.1; omega,ht.2⟩]
  have gk:(decide ((0:Int)≤(k:Int))&&decide ((k:Int)≤Int.ofNat l.length)&&decide (Int.ofNat l.length≤Int.ofNat l.length))=true:=by simp only [Bool.and_eq_true,decide_eq_true_eq,Int.ofNat_eq_natCast]; omega
  have gk':decide ((k:Int)≤Int.ofNat l.length)=true:=by simp only [decide_eq_true_eq,Int.ofNat_eq_natCast]; omega
  have gk1':decide (((k+1:Nat):Int)≤Int.ofNat l.length)=true:=by simp only [decide_eq_true_eq,Int.ofNat_eq_natCast]; omega
  have gk1:(decide ((0:Int)≤((k+1:Nat):Int))&&decide (((k+1:Nat):Int)≤Int.ofNat l.length)&&decide (Int.ofNat l.length≤Int.ofNat l.length))=true:=by simp only [Bool.and_eq_true,decide_eq_true_eq,Int.ofNat_eq_natCast]; omega
  have gb:∀ x:Term,decide (((l.take k).length+[x].length)*32≤zK)=true:=fun x=>by simp only [decide_eq_true_eq,List.length_take,List.length_singleton]; omega
  have gc:∀ (x:Term) (m:Nat),decide (((l.take k++[x]).length+(l.drop m).length)*32≤zK)=true:=fun x m=>by simp only [decide_eq_true_eq,List.length_take,List.length_drop,List.length_append,List.length_singleton]; omega
  by_cases hz:cT (l.getD k default) t=0
  ·have hz':cmpL (zbw (l.getD k default).Factors) (zbw t.Factors)=0:=hz
   simp only [hz,hz',if_true,decide_true,cond_true,gw,gp,zez,Bool.true_and,gk1',Int.le_refl,decide_true,cond_true,Bool.and_self,gb,gc,Int.toNat_natCast,zvl,List.append_assoc,List.singleton_append]
  ·have hz':¬ cmpL (zbw (l.getD k default).Factors) (zbw t.Factors)=0:=hz
   simp only [hz,hz',if_false,decide_false,cond_false,cond_true,zez,Bool.true_and,gk',Int.le_refl,decide_true,cond_true,Bool.and_self,gb,gc,List.append_assoc,List.singleton_append]
 ·have hk':k=l.length:=by omega
  have g3:decide ((k:Int)<Int.ofNat l.length)=false:=by simp [hk]
  have gk:(decide ((0:Int)≤(k:Int))&&decide ((k:Int)≤Int.ofNat l.length)&&decide (Int.ofNat l.length≤Int.ofNat l.length))=true:=by simp only [Bool.and_eq_true,decide_eq_true_eq,Int.ofNat_eq_natCast]; omega
  have gb:∀ x:Term,decide (((l.take k).length+[x].length)*32≤zK)=true:=fun x=>by simp only [decide_eq_true_eq,List.length_take,List.length_singleton]; omega
  have gc:∀ (x:Term) (m:Nat),decide (((l.take k++[x]).length+(l.drop m).length)*32≤zK)=true:=fun x m=>by simp only [decide_eq_true_eq,List.length_take,List.length_drop,List.length_append,List.length_singleton]; omega
  have gk':decide ((k:Int)≤Int.ofNat l.length)=true:=by simp only [decide_eq_true_eq,Int.ofNat_eq_natCast]; omega
  simp only [g3,zez,Bool.true_and,gk',Int.le_refl,decide_true,Bool.and_self,gb,gc,cond_true,cond_false]
  rw [zcE hk]
  simp [insT,insF]
theorem zUh {d:Nat} (l:List Factor) (f:Factor) (hl:l.length≤1000000) (h:∀ x∈l,zcI (zm d) x.Atom) (hd:d≤99) (hc:∀ x∈l,0≤x.Exp∧x.Exp≤1000000) (ht:0≤f.Exp∧f.Exp≤1000000):zBk l f=(true,facA f l):=by
 have hreach:zK=70368744177664:=rfl
 unfold zBk zEt
 have hL:=zFn (W:=zC5) (z:=default) l (fun x=>decide (cF x f<0)) (fun k=>(l,(),(k:Int),())) (fun _=>(f,())) (fun k=>(l,(k:Int),f))
  (fun k hk H K D=>by
   show (zn7 l k f).ev H K D=_
   unfold zn7
   simp only [Atom.eta,Wy.ev_i,Wy.ev_k,Wy.ev_h,Wy.ev_bn,Wy.ev_d,tT,hk,zqt (h _ (zp hk)) hd]
   rw [zM (by omega)]; rfl)
  (fun H K D=>by
   show (zn7 l l.length f).ev H K D=_
   unfold zn7
   simp only [Wy.ev_i,Wy.ev_k,tT,Nat.lt_irrefl]) (l.length+Int.toNat (0:Int)+f.Atom.Args.length+f.Atom.Items.length+(1:Nat)) (by omega)
 have hL:zDu (l.length+Int.toNat (0:Int)+f.Atom.Args.length+f.Atom.Items.length+(1:Nat)) l 0 f=_:=hL
 rw [Atom.eta,show (FactorOf.mk f.Atom f.Exp:Factor)=f from rfl,hL,zI5,zQc]
 have q1:=zRw l (fun x=>decide (cF x f<0))
 have q2:=zIO (fun x=>decide (cF x f<0)) l
 have q3:=zIH (fun x=>decide (cF x f<0)) l
 generalize (l.takeWhile fun x=>decide (cF x f<0)).length=k at q1 q2 q3 ⊢
 rw [← q2, ← q3]
 have g1:(decide ((0:Int)≤(0:Int))&&decide ((0:Int)≤(k:Int))&&decide ((k:Int)≤Int.ofNat l.length))=true:=by simp only [Bool.and_eq_true,decide_eq_true_eq,Int.ofNat_eq_natCast]; omega
 have g2:decide ((0+(l.take k).length)*128≤zK)=true:=by simp only [decide_eq_true_eq,List.length_take]; omega
 have gb:∀ x:Factor,decide (((l.take k).length+[x].length)*128≤zK)=true:=fun x=>by simp only [decide_eq_true_eq,List.length_take,List.length_singleton]; omega
 have gc:∀ (x:Factor) (m:Nat),decide (((l.take k++[x]).length+(l.drop m).length)*128≤zK)=true:=fun x m=>by simp only [decide_eq_true_eq,List.length_take,List.length_drop,List.length_append,List.length_singleton]; omega
 have gk:(decide ((0:Int)≤(k:Int))&&decide ((k:Int)≤Int.ofNat l.length)&&decide (Int.ofNat l.length≤Int.ofNat l.length))=true:=by simp only [Bool.and_eq_true,decide_eq_true_eq,Int.ofNat_eq_natCast]; omega
 have ef:(FactorOf.mk f.Atom f.Exp:Factor)=f:=rfl
 simp only [Atom.eta,ef,Wy.fin_i,Wy.fin_k,Wy.fin_bn,List.nil_append,Int.toNat_natCast,zMf,zvl,g1,g2,cond_true]
 by_cases hk:k<l.length
 ·have g3:decide ((k:Int)<Int.ofNat l.length)=true:=by simp [hk]
  have g5:(decide ((0:Int)≤(k:Int))&&decide ((k:Int)<Int.ofNat l.length))=true:=by rw [g3]; simp
  have hm:=zp hk
  simp only [g3,zez,Bool.and_self,cond_true,zqt (h _ hm) hd]
  rw [beq0,zUk hk]
  have gw:IntKind.i64.wrap ((k:Int)+1)=((k+1:Nat):Int):=zM (by omega)
  have gp:IntKind.i64.wrap ((l.getD k default).Exp+f.Exp)=(l.getD k default).Exp+f.Exp:=by have:=hc _ hm; exact zim (by omega) (by omega)
  have gk':decide ((k:Int)≤Int.ofNat l.length)=true:=by simp only [decide_eq_true_eq,Int.ofNat_eq_natCast]; omega
  have gk1':decide (((k+1:Nat):Int)≤Int.ofNat l.length)=true:=by simp only [decide_eq_true_eq,Int.ofNat_eq_natCast]; omega
  have gk1:(decide ((0:Int)≤((k+1:Nat):Int))&&decide (((k+1:Nat):Int)≤Int.ofNat l.length)&&decide (Int.ofNat l.length≤Int.ofNat l.length))=true:=by simp only [Bool.and_eq_true,decide_eq_true_eq,Int.ofNat_eq_natCast]; omega
  by_cases hz:cF (l.getD k default) f=0
  ·have hz':cmpT (zdP (l.getD k default).Atom) (zdP f.Atom)=0:=hz
   by_cases hk3:f.Atom.Kind<3
   ·simp only [hz,hz',hk3,if_true,decide_true,cond_true,gw,gp,zez,Bool.true_and,gk1',Int.le_refl,decide_true,cond_true,Bool.and_self,gb,gc,Int.toNat_natCast,zvl,List.append_assoc,List.singleton_append]
   ·simp only [hz,hz',hk3,if_true,if_false,decide_true,decide_false,cond_true,cond_false,gw,gp,zez,Bool.true_and,gk1',Int.le_refl,decide_true,cond_true,Bool.and_self,gb,gc,Int.toNat_natCast,zvl,List.append_assoc,List.singleton_append]
  ·have hz':¬ cmpT (zdP (l.getD k default).Atom) (zdP f.Atom)=0:=hz
   simp only [hz,hz',if_false,decide_false,cond_false,cond_true,zez,Bool.true_and,gk',Int.le_refl,decide_true,cond_true,Bool.and_self,gb,gc,List.append_assoc,List.singleton_append]
 ·have g3:decide ((k:Int)<Int.ofNat l.length)=false:=by simp [hk]
  have gk':decide ((k:Int)≤Int.ofNat l.length)=true:=by simp only [decide_eq_true_eq,Int.ofNat_eq_natCast]; omega
  simp only [g3,zez,Bool.true_and,gk',Int.le_refl,decide_true,Bool.and_self,gb,gc,cond_true,cond_false]
  rw [zcE hk]
  simp [insT,insF]
theorem zV0 (n:Nat) (h:n≤4000000):zdr (n:Int)=(true,[]):=by
 have hreach:zK=70368744177664:=rfl
 unfold zdr zgl
 have e0:IntKind.i64.wrap ((0:Int) - 0)=0:=rfl
 have e1:IntKind.i64.wrap ((n:Int) - 0)=(n:Int):=by rw [zim (by omega) (by omega)]; omega
 have e2:decide ((n:Int)<0)=false:=decide_eq_false (by omega)
 rw [Wy.fin_i,e2,cond_false,e0,e1]
 by_cases hn:(n:Int)>0
 ·have e3:(true&&(decide ((n:Int)*Int.ofNat (32:Nat)≤Int.ofNat zK)&&(decide ((n:Int)≤Int.ofNat zK)&& !Nat.beq (2:Nat) (0:Nat))))=true:=by
   simp only [Bool.and_eq_true,decide_eq_true_eq,Int.ofNat_eq_natCast]
   exact ⟨trivial,by rw [hreach]; omega,by rw [hreach]; omega,rfl⟩
  rw [Wy.fin_i,decide_eq_true hn,cond_true,Wy.fin_i,e3,cond_true,Wy.fin_k]
  simp
 ·rw [Wy.fin_i,decide_eq_false hn]; rfl
theorem zTu (ls:List (List Term)) (hn:ls.length≤10) (h:∀ l∈ls,l.length≤300000):zc4 ls=(true,ls.flatten):=by
 have hreach:zK=70368744177664:=rfl
 unfold zc4 zft
 have e:∀ l:List Term,l∈ls→l.length≤300000:=h
 have h1:=zcv (W:=zdK) (z:=default) (l:=ls) (fun i (n:Nat)=>(ls,(n:Int),ls,(ls.length:Int),(i:Int),())) (fun _ _=>()) (fun y n=>.inl (n+y.length)) (fun n=>(ls,(n:Int))) (fun i n=>n≤i*300000)
  (fun i n hi hI=>.inl ⟨_,rfl,by have:=e _ (zp hi); omega,fun H K D=>by
   show (zcC ls n ls ls.length i).ev H K D=_
   unfold zcC
   have hle:=e _ (zp hi)
   have hw:IntKind.i64.wrap ((n:Int)+((ls.getD i default).length:Int))=((n+(ls.getD i default).length:Nat):Int):=zlK (by omega)
   simp only [Wy.ev_i,Wy.ev_k,Wy.ev_h,Wy.ev_bn,Wy.ev_d,tT,hi,hw]
   have h0:decide (((n+(ls.getD i default).length:Nat):Int)<0)=false:=decide_eq_false (by omega)
   rw [h0,zM (by omega)]; rfl⟩)
  (fun n hI H K D=>by
   show (zcC ls n ls ls.length ls.length).ev H K D=_
   unfold zcC
   simp only [Wy.ev_i,Wy.ev_k,tT,Nat.lt_irrefl]) (ls.length+Int.toNat (0:Int)+ls.length+(Int.ofNat ls.length).toNat +Int.toNat (0:Int)+(1:Nat)) 0 0 (by omega) (by omega) (by omega)
 rw [List.drop_zero,zcw] at h1
 have h1:zjo (ls.length+Int.toNat (0:Int)+ls.length+(Int.ofNat ls.length).toNat +Int.toNat (0:Int)+(1:Nat)) ls 0 ls (Int.ofNat ls.length) 0=_:=h1
 have hb:∀ (r:List (List Term)) (n:Nat),(∀ l∈r,l.length≤300000)→r.foldl (fun n (y:List Term)=>n+y.length) n≤n+r.length*300000:=fun r=>by
  induction r with
  | nil=>intro n _; simp
  | cons y r ih=>
   intro n hr
   have q1:=ih (n+y.length) fun l hl=>hr l (by simp [hl])
   have q2:=hr y (by simp)
   rw [List.foldl_cons,List.length_cons]; omega
 have hsz:=hb ls 0 h
 have h2:=zcv (W:=zdC) (z:=default) (l:=ls) (fun i (out:List Term)=>((),ls,(ls.length:Int),(i:Int),())) (fun _ out=>(out,())) (fun y out=>.inl (out++y)) (fun out=>out) (fun i out=>out.length≤i*300000)
  (fun i out hi hI=>.inl ⟨_,rfl,by have:=e _ (zp hi); simp only [List.length_append]; omega,fun H K D=>by
   show (zcu ls ls.length i out).ev H K D=_
   unfold zcu
   have hle:=e _ (zp hi)
   have hr:decide ((out.length+(ls.getD i default).length)*32≤zK)=true:=by simp only [decide_eq_true_eq]; omega
   simp only [Wy.ev_i,Wy.ev_k,Wy.ev_h,Wy.ev_bn,Wy.ev_d,tT,hi,hr]
   rw [zM (by omega)]⟩)
  (fun out hI H K D=>by
   show (zcu ls ls.length ls.length out).ev H K D=_
   unfold zcu
   simp only [Wy.ev_i,Wy.ev_k,tT,Nat.lt_irrefl]) (ls.length+(Int.ofNat ls.length).toNat +Int.toNat (0:Int)+([]:List Term).length+(1:Nat)) 0 [] (by omega) (by omega) (by simp)
 rw [List.drop_zero,zcw] at h2
 have h2:zi2 (ls.length+(Int.ofNat ls.length).toNat +Int.toNat (0:Int)+([]:List Term).length+(1:Nat)) ls (Int.ofNat ls.length) 0 []=_:=h2
 have hf:∀ (r:List (List Term)) (out:List Term),r.foldl (fun out y=>out++y) out=out++r.flatten:=fun r=>by
  induction r with
  | nil=>intro out; simp
  | cons y r ih=>intro out; rw [List.foldl_cons,ih,List.flatten_cons,List.append_assoc]
 rw [Wy.fin_bn,h1,cond_true]
 simp only [Wy.fin_bn,zV0 _ (show ls.foldl (fun n (y:List Term)=>n+y.length) 0≤4000000 by have:=Nat.mul_le_mul hn (Nat.le_refl 300000); omega),cond_true,h2,Wy.fin_k]
 rw [hf]; simp
theorem zVD (n:Nat) (h:n≤4000000):zdH (n:Int)=(true,[]):=by
 have hreach:zK=70368744177664:=rfl
 unfold zdH zgX
 have e0:IntKind.i64.wrap ((0:Int) - 0)=0:=rfl
 have e1:IntKind.i64.wrap ((n:Int) - 0)=(n:Int):=by rw [zim (by omega) (by omega)]; omega
 have e2:decide ((n:Int)<0)=false:=decide_eq_false (by omega)
 rw [Wy.fin_i,e2,cond_false,e0,e1]
 by_cases hn:(n:Int)>0
 ·have e3:(true&&(decide ((n:Int)*Int.ofNat (128:Nat)≤Int.ofNat zK)&&(decide ((n:Int)≤Int.ofNat zK)&& !Nat.beq (11:Nat) (0:Nat))))=true:=by
   simp only [Bool.and_eq_true,decide_eq_true_eq,Int.ofNat_eq_natCast]
   exact ⟨trivial,by rw [hreach]; omega,by rw [hreach]; omega,rfl⟩
  rw [Wy.fin_i,decide_eq_true hn,cond_true,Wy.fin_i,e3,cond_true,Wy.fin_k]
  simp
 ·rw [Wy.fin_i,decide_eq_false hn]; rfl
theorem zTn (ls:List (List Factor)) (hn:ls.length≤10) (h:∀ l∈ls,l.length≤300000):zdd ls=(true,ls.flatten):=by
 have hreach:zK=70368744177664:=rfl
 unfold zdd zfW
 have e:∀ l:List Factor,l∈ls→l.length≤300000:=h
 have h1:=zcv (W:=zd2) (z:=default) (l:=ls) (fun i (n:Nat)=>(ls,(n:Int),ls,(ls.length:Int),(i:Int),())) (fun _ _=>()) (fun y n=>.inl (n+y.length)) (fun n=>(ls,(n:Int))) (fun i n=>n≤i*300000)
  (fun i n hi hI=>.inl ⟨_,rfl,by have:=e _ (zp hi); omega,fun H K D=>by
   show (zcH ls n ls ls.length i).ev H K D=_
   unfold zcH
   have hle:=e _ (zp hi)
   have hw:IntKind.i64.wrap ((n:Int)+((ls.getD i default).length:Int))=((n+(ls.getD i default).length:Nat):Int):=zlK (by omega)
   simp only [Wy.ev_i,Wy.ev_k,Wy.ev_h,Wy.ev_bn,Wy.ev_d,tT,hi,hw]
   have h0:decide (((n+(ls.getD i default).length:Nat):Int)<0)=false:=decide_eq_false (by omega)
   rw [h0,zM (by omega)]; rfl⟩)
  (fun n hI H K D=>by
   show (zcH ls n ls ls.length ls.length).ev H K D=_
   unfold zcH
   simp only [Wy.ev_i,Wy.ev_k,tT,Nat.lt_irrefl]) (ls.length+Int.toNat (0:Int)+ls.length+(Int.ofNat ls.length).toNat +Int.toNat (0:Int)+(1:Nat)) 0 0 (by omega) (by omega) (by omega)
 rw [List.drop_zero,zcw] at h1
 have h1:zjT (ls.length+Int.toNat (0:Int)+ls.length+(Int.ofNat ls.length).toNat +Int.toNat (0:Int)+(1:Nat)) ls 0 ls (Int.ofNat ls.length) 0=_:=h1
 have hb:∀ (r:List (List Factor)) (n:Nat),(∀ l∈r,l.length≤300000)→r.foldl (fun n (y:List Factor)=>n+y.length) n≤n+r.length*300000:=fun r=>by
  induction r with
  | nil=>intro n _; simp
  | cons y r ih=>
   intro n hr
   have q1:=ih (n+y.length) fun l hl=>hr l (by simp [hl])
   have q2:=hr y (by simp)
   rw [List.foldl_cons,List.length_cons]; omega
 have hsz:=hb ls 0 h
 have h2:=zcv (W:=zdL) (z:=default) (l:=ls) (fun i (out:List Factor)=>((),ls,(ls.length:Int),(i:Int),())) (fun _ out=>(out,())) (fun y out=>.inl (out++y)) (fun out=>out) (fun i out=>out.length≤i*300000)
  (fun i out hi hI=>.inl ⟨_,rfl,by have:=e _ (zp hi); simp only [List.length_append]; omega,fun H K D=>by
   show (zcz ls ls.length i out).ev H K D=_
   unfold zcz
   have hle:=e _ (zp hi)
   have hr:decide ((out.length+(ls.getD i default).length)*128≤zK)=true:=by simp only [decide_eq_true_eq]; omega
   simp only [Wy.ev_i,Wy.ev_k,Wy.ev_h,Wy.ev_bn,Wy.ev_d,tT,hi,hr]
   rw [zM (by omega)]⟩)
  (fun out hI H K D=>by
   show (zcz ls ls.length ls.length out).ev H K D=_
   unfold zcz
   simp only [Wy.ev_i,Wy.ev_k,tT,Nat.lt_irrefl]) (ls.length+(Int.ofNat ls.length).toNat +Int.toNat (0:Int)+([]:List Factor).length+(1:Nat)) 0 [] (by omega) (by omega) (by simp)
 rw [List.drop_zero,zcw] at h2
 have h2:zji (ls.length+(Int.ofNat ls.length).toNat +Int.toNat (0:Int)+([]:List Factor).length+(1:Nat)) ls (Int.ofNat ls.length) 0 []=_:=h2
 have hf:∀ (r:List (List Factor)) (out:List Factor),r.foldl (fun out y=>out++y) out=out++r.flatten:=fun r=>by
  induction r with
  | nil=>intro out; simp
  | cons y r ih=>intro out; rw [List.foldl_cons,ih,List.flatten_cons,List.append_assoc]
 rw [Wy.fin_bn,h1,cond_true]
 simp only [Wy.fin_bn,zVD _ (show ls.foldl (fun n (y:List Factor)=>n+y.length) 0≤4000000 by have:=Nat.mul_le_mul hn (Nat.le_refl 300000); omega),cond_true,h2,Wy.fin_k]
 rw [hf]; simp
theorem zyS {d:Nat} (hd:d≤99):∀ (n:Nat) (a b out:List Factor),a.length+b.length<n→a.length+b.length+out.length≤1000000→(∀ x∈a,zcI (zm d) x.Atom∧0≤x.Exp∧x.Exp≤1000000)→(∀ x∈b,0≤x.Exp∧x.Exp≤1000000)→
  ∃ a' b' out',zsb n a b out=(true,(a',b',out'))∧out'++(a'++b')=out++zS a b∧a'.length≤a.length∧b'.length≤b.length∧out'.length≤out.length+a.length+b.length
 | 0,a,b,out,h,_,_,_=>by omega
 | n+1,a,b,out,h,hl,ha,hb=>by
  have hreach:zK=70368744177664:=rfl
  show ∃ a' b' out',(zrW a b out).ev (fun x y=>zsb n x.1 x.2.1 y.1) (fun r=>(true,r)) (false,default)=_∧_
  unfold zrW
  match a,b,h,hl,ha,hb with
  | [],b,h,hl,ha,hb=>exact ⟨[],b,out,rfl,by rw [zS]; simp,Nat.le_refl _,Nat.le_refl _,by omega⟩
  | x::a,[],h,hl,ha,hb=>
   have e1:decide (Int.ofNat (x::a).length>0)=true:=by simp
   refine ⟨x::a,[],out, ?_,by rw [zS]; simp,Nat.le_refl _,Nat.le_refl _,by omega⟩
   rw [Wy.ev_i,e1,cond_true]; rfl
  | x::a,y::b,h,hl,ha,hb=>
   have hx:=ha x (by simp)
   have hy:=hb y (by simp)
   simp only [List.length_cons] at h hl
   have e1:decide (Int.ofNat (x::a).length>0)=true:=by simp
   have e2:decide (Int.ofNat (y::b).length>0)=true:=by simp
   have e3:(decide ((0:Int)≤0)&&decide ((0:Int)<Int.ofNat (x::a).length))=true:=by simp
   have e4:(decide ((0:Int)≤0)&&decide ((0:Int)<Int.ofNat (y::b).length))=true:=by simp
   have e5:(x::a).getD (Int.toNat 0) default=x:=rfl
   have e6:(y::b).getD (Int.toNat 0) default=y:=rfl
   have e7:∀ z:Factor,decide ((out.length+[z].length)*128≤zK)=true:=fun z=>by simp only [decide_eq_true_eq,List.length_singleton]; omega
   have e8:(decide ((0:Int)≤1)&&decide ((1:Int)≤Int.ofNat (x::a).length)&&decide (Int.ofNat (x::a).length≤Int.ofNat (x::a).length))=true:=by simp; omega
   have e9:(decide ((0:Int)≤1)&&decide ((1:Int)≤Int.ofNat (y::b).length)&&decide (Int.ofNat (y::b).length≤Int.ofNat (y::b).length))=true:=by simp; omega
   have e10:List.take ((Int.ofNat (x::a).length).toNat - Int.toNat 1) (List.drop (Int.toNat 1) (x::a))=a:=by rw [show Int.toNat 1=1 from rfl,zvl]; rfl
   have e11:List.take ((Int.ofNat (y::b).length).toNat - Int.toNat 1) (List.drop (Int.toNat 1) (y::b))=b:=by rw [show Int.toNat 1=1 from rfl,zvl]; rfl
   have ea:∀ z∈a,zcI (zm d) z.Atom∧0≤z.Exp∧z.Exp≤1000000:=fun z hz=>ha z (by simp [hz])
   have eb:∀ z∈b,0≤z.Exp∧z.Exp≤1000000:=fun z hz=>hb z (by simp [hz])
   have ex:(FactorOf.mk x.Atom x.Exp:Factor)=x:=rfl
   have ey:(FactorOf.mk y.Atom y.Exp:Factor)=y:=rfl
   simp only [Wy.ev_i,Wy.ev_k,Wy.ev_h,Wy.ev_bn,Wy.ev_d,e1,e2,e3,e4,e5,e6,e7,e8,e9,e10,e11,cond_true,Atom.eta,zqL hx.1 hd,zLT,ex,ey]
   rw [zS]
   have hcf:cF x y=cmpT (zdP x.Atom) (zdP y.Atom):=rfl
   rw [← hcf]
   by_cases h1:cF x y<0
   ·simp only [h1,decide_true,cond_true,if_true]
    obtain ⟨a',b',out',r1,r2,r3,r4,r5⟩:=zyS hd n a (y::b) (out++[x]) (by simp only [List.length_cons]; omega) (by simp only [List.length_cons,List.length_append,List.length_nil]; omega) ea hb
    refine ⟨a',b',out',r1,by rw [r2]; simp,by simp only [List.length_cons]; omega,by simpa using r4,by simp only [List.length_cons,List.length_append,List.length_nil] at r5 ⊢; omega⟩
   ·by_cases h2:0<cF x y
    ·have h2':cF x y>0:=h2
     simp only [h1,h2,h2',decide_true,decide_false,cond_true,cond_false,if_true,if_false]
     obtain ⟨a',b',out',r1,r2,r3,r4,r5⟩:=zyS hd n (x::a) b (out++[y]) (by simp only [List.length_cons]; omega) (by simp only [List.length_cons,List.length_append,List.length_nil]; omega) ha eb
     refine ⟨a',b',out',r1,by rw [r2]; simp,by simpa using r3,by simp only [List.length_cons]; omega,by simp only [List.length_cons,List.length_append,List.length_nil] at r5 ⊢; omega⟩
    ·have h2':¬ cF x y>0:=h2
     have hw:IntKind.i64.wrap (x.Exp+y.Exp)=x.Exp+y.Exp:=zim (by omega) (by omega)
     simp only [h1,h2,h2',decide_false,cond_false,if_false,hw]
     have hk:(x.Atom.Kind==3||x.Atom.Kind==4)=decide (x.Atom.Kind=3∨x.Atom.Kind=4):=by rw [beqd,beqd, ← Bool.decide_or]
     rw [hk]
     by_cases h3:x.Atom.Kind=3∨x.Atom.Kind=4
     ·simp only [h3,decide_true,Bool.not_true,cond_false,if_true]
      obtain ⟨a',b',out',r1,r2,r3,r4,r5⟩:=zyS hd n a b (out++[x]) (by omega) (by simp only [List.length_append,List.length_cons,List.length_nil]; omega) ea eb
      refine ⟨a',b',out',r1,by rw [r2]; simp,by simp only [List.length_cons]; omega,by simp only [List.length_cons]; omega,by simp only [List.length_cons,List.length_append,List.length_nil] at r5 ⊢; omega⟩
     ·simp only [h3,decide_false,Bool.not_false,cond_true,if_false]
      obtain ⟨a',b',out',r1,r2,r3,r4,r5⟩:=zyS hd n a b (out++[⟨x.Atom,x.Exp+y.Exp⟩]) (by omega) (by simp only [List.length_append,List.length_cons,List.length_nil]; omega) ea eb
      refine ⟨a',b',out',r1,by rw [r2]; simp,by simp only [List.length_cons]; omega,by simp only [List.length_cons]; omega,by simp only [List.length_cons,List.length_append,List.length_nil] at r5 ⊢; omega⟩
theorem zUH {d:Nat} (hd:d≤99) (a b:List Factor) (hl:a.length+b.length≤100000) (ha:∀ x∈a,zcI (zm d) x.Atom∧0≤x.Exp∧x.Exp≤1000000) (hb:∀ x∈b,0≤x.Exp∧x.Exp≤1000000):zlo a b=(true,zS a b):=by
 unfold zlo ztF
 obtain ⟨a',b',out',r1,r2,r3,r4,r5⟩:=zyS hd (a.length+b.length+(0:Nat)+(1:Nat)) a b [] (by omega) (by simp; omega) ha hb
 rw [Wy.fin_bn,r1,cond_true]
 have hc:=zTn [out',a',b'] (by simp) (fun l hl'=>by
  simp only [List.mem_cons,List.not_mem_nil,or_false] at hl'
  simp only [List.length_nil] at r5
  rcases hl' with rfl | rfl | rfl <;>omega)
 simp only [Wy.fin_bn,hc,cond_true,Wy.fin_k]
 congr 1
 simpa using r2
theorem zOB {a b:Int} (ha:1≤a∧a≤1152921504606846976) (hb:1≤b∧b≤1152921504606846976):zm9 a b=(true,zo9 a b)∧zDU a b=(true,zo9 a b):=by
 obtain ⟨h1,h2⟩:=zAU ha hb
 have h0:(!decide (b=(0:Int)))=true:=by rw [decide_eq_false (by omega)]; rfl
 have hq:0≤Int.tdiv 1152921504606846976 b∧Int.tdiv 1152921504606846976 b≤1152921504606846976:=by
  rw [Int.tdiv_eq_ediv_of_nonneg (by omega)]
  exact ⟨Int.ediv_nonneg (by omega) (by omega),Int.ediv_le_self _ (by omega)⟩
 have hw:IntKind.i64.wrap (Int.tdiv 1152921504606846976 b)=Int.tdiv 1152921504606846976 b:=zim (by omega) (by omega)
 have key:∀ w:Int,(w=if Int.tdiv 1152921504606846976 b<a then 1152921504606846976 else IntKind.i64.wrap (a*b))→w=zo9 a b:=fun w e=>by
  rw [e]; unfold zo9
  split
  ·rfl
  ·rename_i hn
   have h3:=h2 hn
   have h4:=Int.mul_nonneg (show 0≤a by omega) (show 0≤b by omega)
   exact zim (by omega) (by omega)
 constructor
 ·unfold zm9 zsk
  rw [Wy.fin_i,h0,cond_true,Wy.fin_i,hw,Wy.fin_k,Wy.fin_k]
  by_cases hc:Int.tdiv 1152921504606846976 b<a
  ·rw [decide_eq_true hc,cond_true]; exact congrArg (Prod.mk true) (key _ (by rw [if_pos hc]))
  ·rw [decide_eq_false hc,cond_false]; exact congrArg (Prod.mk true) (key _ (by rw [if_neg hc]))
 ·unfold zDU zGt
  rw [Wy.fin_i,h0,cond_true,Wy.fin_i,hw,Wy.fin_k,Wy.fin_k]
  by_cases hc:Int.tdiv 1152921504606846976 b<a
  ·rw [decide_eq_true hc,cond_true]; exact congrArg (Prod.mk true) (key _ (by rw [if_pos hc]))
  ·rw [decide_eq_false hc,cond_false]; exact congrArg (Prod.mk true) (key _ (by rw [if_neg hc]))
theorem zpv {τ:Type} [Inhabited τ] {R:τ→τ→Prop} (ht:∀ x y z,R x y→R y z→R x z):∀ l:List τ,(∀ k,0<k→k<l.length→R (l.getD (k - 1) default) (l.getD k default))→l.Pairwise R
 | [],_=>.nil
 | [x],_=>by simp
 | x::y::r,h=>by
  have h1:R x y:=h 1 (by omega) (by simp)
  have h2:=zpv ht (y::r) fun k hk hl=>by
   have:=h (k+1) (by omega) (by simpa using hl)
   obtain ⟨j,rfl⟩:∃ j,k=j+1:=⟨k - 1,by omega⟩
   exact this
  refine List.pairwise_cons.2 ⟨fun z hz=> ?_,h2⟩
  rcases List.mem_cons.1 hz with rfl | hz
  ·exact h1
  ·exact ht x y z h1 ((List.pairwise_cons.1 h2).1 z hz)
def GF (f:Factor):Prop:=(zcO (z7 9) f.Atom=true∧zfm f.Atom∧f.Atom.Items.length≤1024)∧1≤f.Exp∧f.Exp≤1000000
def GT (t:Term):Prop:=cOK t∧t.Factors.length≤1000∧∀ f∈t.Factors,GF f
def VT (t:Term):Prop:=GT t∧Srf t.Factors∧t.Factors.length≤64∧∀ f∈t.Factors,eOK f∧f.Exp≤64
theorem zsU {a:List Term} (h:zC a=true) (hw:zfz a):Srs a∧a.length≤512∧∀ t∈a,VT t:=by
 have h9:=zCt h (Nat.le_refl 9)
 rw [zLE] at h
 obtain ⟨w1,w2,w3,w4⟩:=zqx (zzc h)
 have hall:=h
 simp only [vAnn,Bool.and_eq_true] at hall
 refine ⟨zpv (R:=fun x y=>cT x y<0) (fun x y z h1 h2=>zBj h1 h2) a fun k hk hl=> ?_,w1,fun t ht=> ?_⟩
 ·have:=zd8.1 hall.2 k (by omega) (by omega)
  simp only [chkT,Bool.and_eq_true,Bool.or_eq_true,decide_eq_true_eq] at this
  rcases this.1.2 with e | e
  ·omega
  ·exact e
 ·obtain ⟨hc,hok⟩:=zpM h ht
  obtain ⟨l1,l2⟩:=w4 t ht
  have hwt:=zlA (zqw (zoh hw t ht)).2.1
  refine ⟨⟨hc,by omega,fun f hf=> ?_⟩,zpv (R:=fun x y=>cF x y<0) (fun x y z h1 h2=>zsx h1 h2) _ fun k hk hl=> ?_,l1,fun f hf=> ?_⟩
  ·obtain ⟨⟨e1,_⟩,hv⟩:=zmf hok hf
   exact ⟨⟨by rw [zR5 (Nat.le_refl 9)]; exact hv,(zmZ (hwt f hf)).1,(l2 f hf).2⟩,e1,by have:=(l2 f hf).1; omega⟩
  ·have:=zd8.1 hok k (by omega) (by omega)
   simp only [chkF,Bool.and_eq_true,Bool.or_eq_true,decide_eq_true_eq] at this
   rcases this.1.2 with e | e
   ·omega
   ·exact e
  ·obtain ⟨⟨_,e2⟩,hv⟩:=zmf hok hf
   exact ⟨⟨zs2 hv,e2⟩,(l2 f hf).1⟩
theorem zp8 {m:Nat} {x:Atom} (h:zcO (z7 m) x=true) (hi:x.Items.length≤1024):zcI (zm 9) x:=by
 cases zcq.1 h with
 | var r h=>exact ⟨⟨by simp,by simp,by show (ByteArray.mk #[]).size≤_; decide⟩,fun a ha=>(by cases ha),fun w hw=>(by cases hw)⟩
 | mon b c hb hc _ _ _=>
  refine ⟨⟨by simp,by simp,by show (ByteArray.mk #[]).size≤_; decide⟩,fun y hy=> ?_,fun w hw=>(by cases hw)⟩
  simp only [List.mem_cons,List.not_mem_nil,or_false] at hy
  rcases hy with rfl | rfl
  ·exact (zew hb).1
  ·exact (zew hc).1
 | del b hb _ _ _=>
  refine ⟨⟨by simp,by simp,by show (ByteArray.mk #[]).size≤_; decide⟩,fun y hy=> ?_,fun w hw=>(by cases hw)⟩
  rw [List.mem_singleton] at hy; subst hy; exact (zew hb).1
 | abs b hb _ _=>
  refine ⟨⟨by simp,by simp,by show (ByteArray.mk #[]).size≤_; decide⟩,fun y hy=> ?_,fun w hw=>(by cases hw)⟩
  rw [List.mem_singleton] at hy; subst hy; exact (zew hb).1
 | tst f l o b hl hv hs hf=>
  obtain ⟨_,hb,hit⟩:=zoj hf
  simp only at hi
  exact ⟨⟨by simp,by simp only; omega,by have:=zp4 hb; simp only; omega⟩,fun a ha=>(by cases ha),fun w hw=>⟨by have:=zp4 (hit w hw).1; omega,(zew (hv w hw).1).1⟩⟩
theorem GT.fine {t:Term} (h:GT t):zfF (zm 9) t.Factors:=⟨by have:=h.2.1; omega,fun f hf=>zp8 (h.2.2 f hf).1.1 (h.2.2 f hf).1.2.2⟩
theorem GF.gF {f:Factor} (h:GF f):gF (z7 9) f:=⟨h.1.1,h.1.2.1,by constructor <;>(have:=h.2; omega)⟩
theorem GT.text {t:Term} (h:GT t):zm5 t.Factors=(true,bs (txL t.Factors)):=
 (zOA 1000).2.2 9 t.Factors h.2.1 (fun f hf=>⟨(h.2.2 f hf).1.1,(h.2.2 f hf).1.2.1,(h.2.2 f hf).1.2.2,(h.2.2 f hf).gF.2.2⟩) (by omega)
theorem GT.inj {s t:Term} (hs:GT s) (ht:GT t) (h:bs (txL s.Factors)=bs (txL t.Factors)):s.Factors=t.Factors:=
 zUA (fun f hf=>(hs.2.2 f hf).gF) (fun f hf=>(ht.2.2 f hf).gF) (zVL h)
def zmo:Int→List Term→List (Go.Value×Int)
 | _,[]=>[]
 | i,t::r=>(.string (bs (txL t.Factors)),i)::zmo (i+1) r
def posA (k:ByteArray):List Term→Option Nat
 | []=>none
 | t::r=>if k=bs (txL t.Factors) then some 0 else (posA k r).map (· +1)
theorem zDt (k:ByteArray) (t:Term) (r:List Term):posA k (t::r)=if k=bs (txL t.Factors) then some 0 else (posA k r).map (· +1):=rfl
theorem keyS (a b:ByteArray):zoZ (.string a) (.string b)=decide (a=b):=by
 cases a with | mk x=>cases b with | mk y=>
 show (x==y)=_
 by_cases h:x=y
 ·subst h; simp
 ·have:(x==y)=false:=by rw [beq_eq_false_iff_ne]; exact h
  rw [this]; simp [h]
theorem zOI (k:ByteArray):∀ (o:List Term) (i:Int),zQ6 (.string k) (zmo i o)=(posA k o).isSome
 | [],i=>rfl
 | t::r,i=>by
  show (bif zoZ (.string k) (.string (bs (txL t.Factors))) then true else zQ6 (.string k) (zmo (i+1) r))=_
  rw [keyS,zOI k r,zDt]
  by_cases h:k=bs (txL t.Factors)
  ·rw [decide_eq_true h,if_pos h]; rfl
  ·rw [decide_eq_false h,if_neg h]; cases posA k r <;>rfl
theorem zPa (k:ByteArray):∀ (o:List Term) (i:Int),zwc (.string k) (zmo i o)=(posA k o).map fun j:Nat=>i+(j:Int)
 | [],i=>rfl
 | t::r,i=>by
  show (bif zoZ (.string k) (.string (bs (txL t.Factors))) then some i else zwc (.string k) (zmo (i+1) r))=_
  rw [keyS,zPa k r,zDt]
  by_cases h:k=bs (txL t.Factors)
  ·rw [decide_eq_true h,if_pos h]; simp
  ·rw [decide_eq_false h,if_neg h]
   cases posA k r with
   | none=>rfl
   | some j=>
    have e:i+1+(j:Int)=i+((j+1:Nat):Int):=by omega
    simp only [cond_false,Option.map_some,e]
theorem zNV (k:ByteArray) (x:Int):∀ (o:List Term) (i:Int),posA k o=none→zQW (.string k) x (zmo i o)=zmo i o++[(.string k,x)]
 | [],i,_=>rfl
 | t::r,i,h=>by
  rw [zDt] at h
  by_cases hk:k=bs (txL t.Factors)
  ·rw [if_pos hk] at h; cases h
  ·rw [if_neg hk] at h
   show (bif zoZ (.string k) (.string (bs (txL t.Factors))) then _ else (.string (bs (txL t.Factors)),i)::zQW (.string k) x (zmo (i+1) r))=_
   rw [keyS,decide_eq_false hk,zNV k x r (i+1) (by cases hp:posA k r with | none=>rfl | some j=>rw [hp] at h; cases h)]
   rfl
theorem zNc (t:Term):∀ (o:List Term) (i:Int),zmo i (o++[t])=zmo i o++[(.string (bs (txL t.Factors)),i+(o.length:Int))]
 | [],i=>by simp [zmo]
 | x::r,i=>by
  have e:i+1+(r.length:Int)=i+((r.length+1:Nat):Int):=by omega
  simp only [List.cons_append,zmo,List.length_cons,zNc t r,e]
theorem zM6 (y:Term):∀ (o:List Term) (j:Nat) (i:Int),(o.getD j default).Factors=y.Factors→zmo i (o.set j y)=zmo i o
 | [],j,i,_=>rfl
 | x::r,0,i,h=>by simp only [List.set_cons_zero,zmo]; rw [show x.Factors=y.Factors from h]
 | x::r,j+1,i,h=>by simp only [List.set_cons_succ,zmo]; rw [zM6 y r j (i+1) h]
theorem zPY {t:Term} (ht:GT t):∀ {o:List Term},(∀ x∈o,GT x)→(match posA (bs (txL t.Factors)) o with
  | some j=>j<o.length∧(o.getD j default).Factors=t.Factors∧updA t o=o.set j ⟨zoV (o.getD j default).Coeff t.Coeff,(o.getD j default).Factors⟩
  | none=>updA t o=o++[t])
 | [],_=>rfl
 | x::r,h=>by
  have ih:=zPY ht (o:=r) fun y hy=>h y (by simp [hy])
  rw [zDt]
  unfold updA
  by_cases hk:bs (txL t.Factors)=bs (txL x.Factors)
  ·have e:=GT.inj ht (h x (by simp)) hk
   rw [if_pos hk,if_pos e.symm]
   exact ⟨by simp,e.symm,rfl⟩
  ·have e:¬ x.Factors=t.Factors:=fun e=>hk (by rw [e])
   rw [if_neg hk,if_neg e]
   cases hp:posA (bs (txL t.Factors)) r with
   | none=>rw [hp] at ih; simp only [Option.map_none]; rw [ih]; rfl
   | some j=>
    rw [hp] at ih
    obtain ⟨i1,i2,i3⟩:=ih
    simp only [Option.map_some]
    exact ⟨by simp; exact i1,i2,by rw [i3]; rfl⟩
theorem zSk {t:Term} (ht:GT t) {o:List Term} (ho:∀ x∈o,GT x):∀ x∈updA t o,GT x:=by
 induction o with
 | nil=>intro x hx; simp only [updA,List.mem_singleton] at hx; subst hx; exact ht
 | cons y r ih=>
  intro x hx
  unfold updA at hx
  split at hx
  ·rcases List.mem_cons.1 hx with rfl | hx
   ·have:=ho y (by simp)
    exact ⟨zMF this.1.1 ht.1.1,this.2⟩
   ·exact ho x (by simp [hx])
  ·rcases List.mem_cons.1 hx with rfl | hx
   ·exact ho x (by simp)
   ·exact ih (fun z hz=>ho z (by simp [hz])) x hx
theorem zLL (t:Term):∀ o:List Term,(updA t o).length≤o.length+1
 | []=>by simp [updA]
 | y::r=>by
  have:=zLL t r
  unfold updA
  split
  ·simp
  ·simp only [List.length_cons]; omega
theorem zSj (ts:List Term) (hl:ts.length≤1000000) (h:∀ t∈ts,GT t) (n:Nat) (hn:ts.length<n):zo6 n ts ts.length 0 [] []=(true,zCY ts):=by
 have hreach:zK=70368744177664:=rfl
 have h2:=zcv (W:=zlv) (z:=default) (l:=ts) (fun i (out:List Term)=>((),(),ts,(ts.length:Int),(i:Int),())) (fun _ out=>(zmo 0 out,out,())) (fun t out=>.inl (updA t out)) (fun out=>out) (fun i out=>out.length≤i∧∀ t∈out,GT t)
  (fun i out hi hI=>.inl ⟨_,rfl,⟨by have:=zLL (ts.getD i default) out; omega,zSk (h _ (zp hi)) hI.2⟩,fun H K D=>by
   show (ziG ts ts.length i (zmo 0 out) out).ev H K D=_
   unfold ziG
   have ht:=h _ (zp hi)
   have hp:=zPY ht hI.2
   have hhas:=zOI (bs (txL (ts.getD i default).Factors)) out 0
   have hget:=zPa (bs (txL (ts.getD i default).Factors)) out 0
   simp only [Wy.ev_i,Wy.ev_k,Wy.ev_h,Wy.ev_bn,Wy.ev_d,tT,hi,ht.text]
   rw [hhas,hget,zM (by omega)]
   cases hpos:posA (bs (txL (ts.getD i default).Factors)) out with
   | none=>
    rw [hpos] at hp
    have hb:decide ((out.length+[ts.getD i default].length)*32≤zK)=true:=by simp only [decide_eq_true_eq,List.length_singleton]; omega
    simp only [Option.isSome_none,cond_false,hb,cond_true]
    rw [zNV _ _ _ _ hpos,hp,zNc]
    simp
   | some j=>
    rw [hpos] at hp
    obtain ⟨p1,p2,p3⟩:=hp
    have hj:=hI.2 _ (zp p1)
    have hw:IntKind.i64.wrap ((out.getD j default).Coeff+(ts.getD i default).Coeff)=(out.getD j default).Coeff+(ts.getD i default).Coeff:=zQm ⟨by have:=hj.1.1; omega,hj.1.2⟩ ⟨by have:=ht.1.1; omega,ht.1.2⟩
    have e1:(0:Int)+(j:Int)=(j:Int):=by omega
    have e2:decide (j<out.length)=true:=decide_eq_true p1
    simp only [Option.isSome_some,Option.map_some,Option.getD_some,e1,cond_true,tT,e2,hw]
    rw [p3,zM6 ⟨zoV (out.getD j default).Coeff (ts.getD i default).Coeff,(out.getD j default).Factors⟩ out j 0 rfl]
    rfl⟩)
  (fun out hI H K D=>by
   show (ziG ts ts.length ts.length (zmo 0 out) out).ev H K D=_
   unfold ziG
   simp only [Wy.ev_i,Wy.ev_k,tT,Nat.lt_irrefl]) n 0 [] (by omega) (by omega) ⟨by simp,fun t ht=>by cases ht⟩
 rw [List.drop_zero,zcw] at h2
 exact h2
theorem zQr:∀ (ts o:List Term),(∀ t∈ts,GT t)→(∀ t∈o,GT t)→∀ x∈ts.foldl (fun a t=>updA t a) o,GT x
 | [],o,_,ho=>ho
 | t::r,o,h,ho=>zQr r (updA t o) (fun x hx=>h x (by simp [hx])) (zSk (h t (by simp)) ho)
theorem zMV:∀ (ts o:List Term),(ts.foldl (fun a t=>updA t a) o).length≤o.length+ts.length
 | [],o=>by simp
 | t::r,o=>by
  have h1:=zMV r (updA t o)
  have h2:=zLL t o
  rw [List.foldl_cons,List.length_cons]; omega
theorem zKH (ts:List Term) (hl:ts.length≤1000000) (h:∀ t∈ts,GT t):zgW ts=(true,sumA [] ts):=by
 unfold zgW zp7
 have hL:=zSj ts hl h (ts.length+(Int.ofNat ts.length).toNat +Int.toNat (0:Int)+(0:Nat)+(0:Nat)+(1:Nat)) (by omega)
 have hL:zo6 (ts.length+(Int.ofNat ts.length).toNat +Int.toNat (0:Int)+(0:Nat)+(0:Nat)+(1:Nat)) ts (Int.ofNat ts.length) 0 [] []=_:=hL
 rw [Wy.fin_bn,hL,cond_true]
 obtain ⟨hp,hd⟩:=zNa ts [] [] .nil .nil .nil
 have hs:=zBa ts [] .nil
 have hg:∀ x∈zCY ts,GT x:=zQr ts [] h fun x hx=>by cases hx
 have hlen:(zCY ts).length≤1000000:=by have:=zMV ts []; simp at this; exact Nat.le_trans this hl
 have e:∀ x∈zCY ts,∀ y,zbG x y=(true,cT x y):=fun x hx y=>zqN (hg x hx).fine (by omega) y
 have ok:SortOK zbG (zCY ts):=by
  refine ⟨by omega,fun x hx y _=>by rw [e x hx],fun x hx=> ?_,fun x hx y hy z hz h1 h2=> ?_,fun x hx y hy z hz h1 h2=> ?_,fun x hx y hy h1 h2=> ?_⟩
  ·rw [e x hx]; have:=ztd (x:=x) (y:=x) rfl; simp only; omega
  ·rw [e x hx] at h1 ⊢; rw [e y hy] at h2
   exact zBj h1 h2
  ·rw [e x hx] at h1 ⊢; rw [e y hy] at h2
   simp only at h1 h2 ⊢
   have a1:=zvq x y
   have a2:=zvq y z
   have a3:=zvq x z
   have:=zA0 (zbw z.Factors) (zbw y.Factors) (zbw x.Factors) (show cT z y≤0 by omega) (show cT y x≤0 by omega)
   have:cT z x≤0:=this
   omega
  ·rw [e x hx] at h1; rw [e y hy] at h2
   simp only at h1 h2
   have a1:=zvq x y
   have hz:x.Factors=y.Factors:=zEQ (by omega)
   by_cases hxy:x=y
   ·exact hxy
   ·exfalso
    -- two terms with the same factors are one
    have hdd:Dst (zCY ts):=hd
    have:=List.pairwise_iff_getElem.1 hdd
    obtain ⟨i,hi,ei⟩:=List.mem_iff_getElem.1 hx
    obtain ⟨j,hj,ej⟩:=List.mem_iff_getElem.1 hy
    rcases Nat.lt_trichotomy i j with hij | hij | hij
    ·exact this i j hi hj hij (by rw [ei,ej]; exact hz)
    ·subst hij; exact hxy (ei.symm.trans ej)
    ·exact this j i hj hi hij (by rw [ei,ej]; exact hz.symm)
 unfold zbt zPi
 simp only [Wy.fin_bn,Wy.fin_k,decide_eq_true ok,cond_true]
 congr 1
 refine (ok.unique (hp:(sumA [] ts).Perm (zCY ts)) ?_).symm
 refine hs.imp_of_mem fun {x y} hx hy hxy=> ?_
 rw [e y ((hp:(sumA [] ts).Perm (zCY ts)).mem_iff.1 hy)]
 have:=zvq x y
 simp only; omega
def zIa (a:List Term) (e:Int) (b:List Term) (f:Int):Wy0 (Bool):=.i (e==f) (.bn (zs5 a b) fun r0=>.i (r0) (.i (e==0) (.k true) (.k (Int.ofNat a.length==0))) (.k false)) (.k false)
def zFF (a:List Term) (e:Int) (b:List Term) (f:Int):Bool×Bool:=(zIa a e b f).fin default
mutual
theorem zPy:∀ x:Atom,zeC x≤zxB x
 | ⟨_,_,a,_,i,_,_⟩=>by
  rw [zeC,zxB]
  have h1:=zJE a
  have h2:=zIz i
  omega
theorem zEO:∀ l:List Factor,zbs l≤zf8 l
 | []=>by rw [zbs,zf8]; exact Nat.le_refl _
 | ⟨x,_⟩::r=>by
  rw [zbs,zf8]
  have h1:=zPy x
  have h2:=zEO r
  omega
theorem zAY:∀ l:List Term,zI l≤zei l
 | []=>by rw [zI,zei]; exact Nat.le_refl _
 | ⟨_,fs⟩::r=>by
  rw [zI,zei]
  have h1:=zEO fs
  have h2:=zAY r
  omega
theorem zJE:∀ l:List (List Term),zex l≤zmR l
 | []=>by rw [zex,zmR]; exact Nat.le_refl _
 | a::r=>by
  rw [zex,zmR]
  have h1:=zAY a
  have h2:=zJE r
  omega
theorem zIz:∀ l:List Weighted,zcJ l≤l.length+zjj l
 | []=>by rw [zcJ,zjj]; exact Nat.zero_le _
 | ⟨_,a⟩::r=>by
  rw [zcJ,zjj]
  have h1:=zAY a
  have h2:=zIz r
  simp only [List.length_cons]
  omega
end
theorem zST (d:Nat):zm (d+1) []:=⟨by simp,fun t ht=>by cases ht⟩
theorem zUl {d:Nat} {a:List Term} {e:Int} (h:zm d a) (hd:d≤100) (he:e=0∨a=[]):zFF a e a e=(true,true):=by
 unfold zFF zIa
 simp only [Wy.fin_i,Wy.fin_bn,Wy.fin_k,zzA h hd,beqd,decide_true,cond_true]
 rcases he with rfl | rfl
 ·simp
 ·cases decide (e=0) <;>simp
def zGq (a:List Term) (b:List Term):Wy0 (List Term×Int):=.bn (zfD a) fun r3=>.i (!r3) (.k ([],1)) (.bn (zfD b) fun r2=>.i (!r2) (.k ([],1)) (.i (Int.ofNat b.length==0) (.k (a,0)) (.i (Int.ofNat a.length==0) (.k ([],0)) (.bn (zs5 a b) fun r1=>.i (r1) (.k ([],0)) (.bn (zn3 (zol (Atom.mk 1 (RowID.mk 0 0) [a,b] 0 [] 0 (Value.mk 0 0 (ByteArray.mk #[])))).2) fun r0=>.k (r0.1,r0.2))))))
def zDA (a:List Term) (b:List Term):Bool×(List Term×Int):=(zGq a b).fin default
def zGK (a:List Term):Wy0 (List Term×Int):=.bn (zfD a) fun r4=>.i (!r4) (.k ([],1)) (.i (Int.ofNat a.length==0) (.k (a,0)) (.bn (zsW a) fun r3=>.i (r3) (.k (a,0)) (.i (Int.ofNat a.length==1) (.bn (zko a) fun r1=>.i (r1) (.k (zHe.2,0)) (.bn (zn3 (zol (Atom.mk 2 (RowID.mk 0 0) [a] 0 [] 0 (Value.mk 0 0 (ByteArray.mk #[])))).2) fun r0=>.k (r0.1,r0.2))) (.bn (zn3 (zol (Atom.mk 2 (RowID.mk 0 0) [a] 0 [] 0 (Value.mk 0 0 (ByteArray.mk #[])))).2) fun r2=>.k (r2.1,r2.2)))))
def zDX (a:List Term):Bool×(List Term×Int):=(zGK a).fin default
def zD9 (a:List Term):Wy0 (List Term×Int):=.bn (zfD a) fun r2=>.i (!r2) (.k ([],1)) (.i (Int.ofNat a.length==0) (.k (zHe.2,0)) (.bn (zko a) fun r1=>.i (r1) (.k ([],0)) (.bn (zn3 (zol (Atom.mk 3 (RowID.mk 0 0) [a] 0 [] 0 (Value.mk 0 0 (ByteArray.mk #[])))).2) fun r0=>.k (r0.1,r0.2))))
def zCf (a:List Term):Bool×(List Term×Int):=(zD9 a).fin default
def zGo (n_:Int):Wy0 (List Term):=.i (decide (n_<1)) (.k []) (.k [TermOf.mk (if 1152921504606846976<n_ then 1152921504606846976 else n_) []])
def zDy (n_:Int):Bool×List Term:=(zGo n_).fin default
def zJQ (id:RowID):Wy0 (List Term):=.i (decide (id.Table<1)) (.k []) (.i (decide (id.Seq<1)) (.k []) (.k ((zol (Atom.mk 0 id [] 0 [] 0 (Value.mk 0 0 (ByteArray.mk #[])))).2)))
def zHT (id:RowID):Bool×List Term:=(zJQ id).fin default
theorem zEs {B:Nat}:∀ l:List Factor,(∀ f∈l,zeC f.Atom≤B)→zbs l≤l.length*B
 | [],_=>by rw [zhw]; simp
 | f::r,h=>by
  have h1:=h f (by simp)
  have h2:=zEs r fun g hg=>h g (by simp [hg])
  rw [zcB,List.length_cons,Nat.add_mul]; omega
theorem zKR {B:Nat}:∀ l:List Term,(∀ t∈l,1+t.Factors.length+zbs t.Factors≤B)→zI l≤l.length*B
 | [],_=>by rw [zqb]; simp
 | f::r,h=>by
  have h1:=h f (by simp)
  have h2:=zKR r fun g hg=>h g (by simp [hg])
  rw [zeV,List.length_cons,Nat.add_mul]; omega
theorem zN9 {l:List Term} (hl:l.length≤1000000) (h:∀ t∈l,GT t):zm 10 l∧zI l≤4611686018427387904:=by
 refine ⟨⟨hl,fun t ht=>(h t ht).fine⟩, ?_⟩
 refine Nat.le_trans (zKR (B:=4195330000) l fun t ht=> ?_) (by have:=Nat.mul_le_mul hl (Nat.le_refl 4195330000); omega)
 have hg:=h t ht
 have h1:=zEs (B:=4195328) t.Factors fun f hf=>zJD (hg.2.2 f hf).1.1 (hg.2.2 f hf).1.2.2
 have:=Nat.mul_le_mul hg.2.1 (Nat.le_refl 4195328)
 have:=hg.2.1
 omega
theorem zOk {t:Term} (ht:GT t) {l:List Term} (hs:Srs l) (h:∀ x∈l,GT x):∀ x∈putA t l,GT x:=fun x hx=>by
 have hc:=zNw ht.1 (fun y hy=>(h y hy).1) x hx
 rcases (zEb hs).1 hx with ⟨h1,_⟩ | ⟨h1,_⟩
 ·exact h x h1
 ·exact ⟨hc,by rw [h1]; exact ht.2⟩
theorem zEk:∀ (b a:List Term),Srs a→(∀ x∈a,GT x)→(∀ x∈b,GT x)→∀ x∈sumA a b,GT x
 | [],_,_,ha,_=>ha
 | t::r,a,hs,ha,hb=>zEk r (putA t a) (zu6 hs) (zOk (hb t (by simp)) hs ha) fun x hx=>hb x (by simp [hx])
theorem zFh {x y:Term} (hx:VT x) (hy:VT y):GT (zhx x y):=by
 obtain ⟨gx,sx,lx,ex⟩:=hx
 obtain ⟨gy,sy,ly,ey⟩:=hy
 refine ⟨(zAU gx.1 gy.1).1,by have:=zBI x.Factors y.Factors; show (zS x.Factors y.Factors).length≤1000; omega,fun f hf=> ?_⟩
 obtain ⟨g,hg,e⟩:=znf hf
 have hb:=zCi (B:=64) (fun z hz=>⟨(gx.2.2 z hz).2.1,(ex z hz).2⟩) (fun z hz=>⟨(gy.2.2 z hz).2.1,(ey z hz).2⟩) hf
 have hv:(zcO (z7 9) g.Atom=true∧zfm g.Atom∧g.Atom.Items.length≤1024):=by
  rcases hg with hg | hg
  ·exact (gx.2.2 g hg).1
  ·exact (gy.2.2 g hg).1
 exact ⟨by rw [e]; exact hv,hb.1,by omega⟩
theorem zJ1 {a b:List Term} (ha:∀ t∈a,VT t) (hb:∀ t∈b,VT t):∀ t∈zdb a b,GT t:=fun t ht=>by
 obtain ⟨x,hx,y,hy,rfl⟩:=zvF ht
 exact zFh (ha x hx) (hb y hy)
theorem zUv {x y:Term} (hx:VT x) (hy:VT y):zlo x.Factors y.Factors=(true,zS x.Factors y.Factors):=by
 obtain ⟨gx,sx,lx,ex⟩:=hx
 obtain ⟨gy,sy,ly,ey⟩:=hy
 exact zUH (d:=9) (by omega) _ _ (by omega) (fun f hf=>⟨zp8 (gx.2.2 f hf).1.1 (gx.2.2 f hf).1.2.2,by have:=(gx.2.2 f hf).2; omega⟩) fun f hf=>by have:=(gy.2.2 f hf).2; omega
theorem zWh (a b:List Term) (i:Int) (x:Term) (hx:VT x) (hb:∀ t∈b,VT t) (hbl:b.length≤512) (terms:List Term) (hl:terms.length≤1000000) (n:Nat) (hn:b.length<n):
  zAs n b a a.length i b b.length 0 terms x=(true,(b,a,(a.length:Int),i,terms++b.map (zhx x))):=by
 have hreach:zK=70368744177664:=rfl
 have:=zdB (W:=zoT) (z:=default) b.length (fun j=>(b,(),(),a,(a.length:Int),i,b,(b.length:Int),(j:Int),())) (fun j=>(terms++(b.take j).map (zhx x),x,())) (fun _=>true) default (b,a,(a.length:Int),i,terms++b.map (zhx x))
  (fun j hj H K D=>by
   show (zlV b a a.length i b b.length j (terms++(b.take j).map (zhx x)) x).ev H K D=_
   unfold zlV
   have hy:=hb _ (zp hj)
   have hr:decide (((terms++(b.take j).map (zhx x)).length+1)*32≤zK)=true:=by simp only [decide_eq_true_eq,List.length_append,List.length_map,List.length_take]; omega
   simp only [Wy.ev_i,Wy.ev_k,Wy.ev_h,Wy.ev_bn,Wy.ev_d,tT,hj,(zOB hx.1.1 hy.1.1).1,zUv hx hy,List.length_singleton,hr]
   rw [zM (by omega),ziJ hj,List.map_append, ← List.append_assoc]
   rfl)
  (fun H K D=>by
   show (zlV b a a.length i b b.length b.length (terms++(b.take b.length).map (zhx x)) x).ev H K D=_
   unfold zlV
   simp only [Wy.ev_i,Wy.ev_k,tT,Nat.lt_irrefl,List.take_length]) n hn
 rw [show allN (fun _=>true) b.length 0=true from zd8.2 fun _ _ _=>rfl] at this
 simp only [List.take_zero,List.map_nil,List.append_nil] at this
 exact this
theorem zV6 (a b:List Term) (ha:∀ t∈a,VT t) (hb:∀ t∈b,VT t) (hal:a.length≤512) (hbl:b.length≤512) (n:Nat) (hn:a.length<n):
  ztW n b a a.length 0 []=(true,zdb a b):=by
 have:=zdB (W:=zoW) (z:=default) a.length (fun i=>(b,(),a,(a.length:Int),(i:Int),())) (fun i=>(zdb (a.take i) b,())) (fun _=>true) default (zdb a b)
  (fun i hi H K D=>by
   show (zl2 b a a.length i (zdb (a.take i) b)).ev H K D=_
   unfold zl2
   have hx:=ha _ (zp hi)
   have hlen:(zdb (a.take i) b).length≤1000000:=by
    rw [zIx,List.length_take]
    have:=Nat.mul_le_mul (show min i a.length≤512 by omega) hbl
    omega
   simp only [Wy.ev_i,Wy.ev_k,Wy.ev_h,Wy.ev_bn,Wy.ev_d,tT,hi]
   rw [zWh a b i _ hx hb hbl _ hlen _ (by omega)]
   simp only [cond_true]
   rw [zM (by omega),ziJ hi]
   have e:zdb (a.take i++[a.getD i default]) b=zdb (a.take i) b++b.map (zhx (a.getD i default)):=by
    unfold zdb; rw [List.flatMap_append]; simp
   rw [e])
  (fun H K D=>by
   show (zl2 b a a.length a.length (zdb (a.take a.length) b)).ev H K D=_
   unfold zl2
   simp only [Wy.ev_i,Wy.ev_k,tT,Nat.lt_irrefl,List.take_length]) n hn
 rw [show allN (fun _=>true) a.length 0=true from zd8.2 fun _ _ _=>rfl] at this
 exact this
theorem szTs_get' (a:List Term) (i:Nat) (h:i<a.length):(a.getD i default).Factors.length≤szTs a:=zCn a i h
theorem zS0 (a b:List Term) (i:Int) (k:Nat) (hk:k<b.length) (out:List Term) (c:Int) (x:Term) (hx:VT x) (hy:VT (b.getD k default)) (n:Nat) (hn:(b.getD k default).Factors.length<n):
  zAi n a b i k 0 out c x.Factors=(true,(a,b,i,(k:Int),out,c,zS x.Factors (b.getD k default).Factors)):=by
 obtain ⟨gx,sx,lx,ex⟩:=hx
 obtain ⟨gy0,sy,ly,ey⟩:=hy
 have gy:∀ f∈(b.getD k default).Factors,GF f:=gy0.2.2
 have sy:Srf (b.getD k default).Factors:=sy
 clear gy0
 generalize hF:(b.getD k default).Factors=F at *
 have key:∀ j,j<F.length→facA (F.getD j default) (zS x.Factors (F.take j))=zS x.Factors (F.take (j+1)):=fun j hj=>by
  have e1:=zE8 (F.take j) x.Factors (sy.sublist (List.take_sublist _ _)) (fun z hz=>(ex z hz).1) fun z hz=>(ey z (List.mem_of_mem_take hz)).1
  have e2:=zE8 (F.take (j+1)) x.Factors (sy.sublist (List.take_sublist _ _)) (fun z hz=>(ex z hz).1) fun z hz=>(ey z (List.mem_of_mem_take hz)).1
  rw [← e1, ← e2,ziJ hj,List.foldl_append]; rfl
 have:=zdB (W:=zAu) (z:=default) F.length (fun j=>(a,b,(),i,(k:Int),(),(j:Int),())) (fun j=>(out,(c,zS x.Factors (F.take j),()),())) (fun _=>true) default (a,b,i,(k:Int),out,c,zS x.Factors F)
  (fun j hj H K D=>by
   show (zlT a b i k j out c (zS x.Factors (F.take j))).ev H K D=_
   unfold zlT
   have hlen:=zBI x.Factors (F.take j)
   rw [List.length_take] at hlen
   have hex:=fun z (hz:z∈zS x.Factors (F.take j))=>zCi (B:=64) (fun z hz=>⟨(gx.2.2 z hz).2.1,(ex z hz).2⟩) (fun z hz=>⟨(gy z (List.mem_of_mem_take hz)).2.1,(ey z (List.mem_of_mem_take hz)).2⟩) hz
   have hfine:∀ z∈zS x.Factors (F.take j),zcI (zm 9) z.Atom:=fun z hz=>by
    obtain ⟨w,hw,e⟩:=znf hz
    rw [e]
    rcases hw with hw | hw
    ·exact zp8 (gx.2.2 w hw).1.1 (gx.2.2 w hw).1.2.2
    ·exact zp8 (gy w (List.mem_of_mem_take hw)).1.1 (gy w (List.mem_of_mem_take hw)).1.2.2
   have hm:=zp hj
   have e1:decide ((k:Int)<Int.ofNat b.length)=true:=by simp [hk]
   have e2:decide ((j:Int)<Int.ofNat F.length)=true:=by simp [hj]
   have efx:(FactorOf.mk (F.getD j default).Atom (F.getD j default).Exp:Factor)=F.getD j default:=rfl
   simp only [Atom.eta,Wy.ev_i,Wy.ev_k,Wy.ev_h,Wy.ev_bn,Wy.ev_d,zez,Bool.and_self,cond_true,Int.toNat_natCast,hF,e1,e2,efx]
   rw [zUh (d:=9) _ _ (by omega) hfine (by omega) (fun z hz=>by have:=hex z hz; omega) (by have:=(gy _ hm).2; omega),cond_true,zM (by omega),key j hj])
  (fun H K D=>by
   show (zlT a b i k F.length out c (zS x.Factors (F.take F.length))).ev H K D=_
   unfold zlT
   have e1:decide ((k:Int)<Int.ofNat b.length)=true:=by simp [hk]
   have e2:decide ((F.length:Int)<Int.ofNat F.length)=false:=by simp
   simp only [Wy.ev_i,Wy.ev_k,zez,Bool.and_self,cond_true,cond_false,Int.toNat_natCast,hF,e1,e2,List.take_length]) n hn
 rw [show allN (fun _=>true) F.length 0=true from zd8.2 fun _ _ _=>rfl] at this
 simp only [List.take_zero,zy9] at this
 exact this
theorem zUZ (a b:List Term) (i:Nat) (hi:i<a.length) (hal:a.length≤512) (hbl:b.length≤512) (hx:VT (a.getD i default)) (hb:∀ t∈b,VT t) (out:List Term) (ho:out.length≤i*512) (hs:Srs out) (hg:∀ t∈out,GT t) (n:Nat) (hn:b.length<n):
  zB6 n a b i 0 out=(true,(a,b,(i:Int),sumA out (b.map (zhx (a.getD i default))))):=by
 have:=zcv (W:=zBi) (z:=default) (l:=b) (fun k (o:List Term)=>(a,b,(),(i:Int),(k:Int),())) (fun _ o=>(o,())) (fun y o=>.inl (putA (zhx (a.getD i default) y) o)) (fun o=>(a,b,(i:Int),o)) (fun k o=>(o.length≤i*512+k∧Srs o)∧∀ t∈o,GT t)
  (fun k o hk hI=>.inl ⟨_,rfl,⟨⟨by have:=zIN (t:=zhx (a.getD i default) (b.getD k default)) o; omega,zu6 hI.1.2⟩,zOk (zFh hx (hb _ (zp hk))) hI.1.2 hI.2⟩,fun H K D=>by
   show (zm6 a b i k o).ev H K D=_
   unfold zm6
   have hy:=hb _ (zp hk)
   have hsz:=szTs_get' b k hk
   simp only [Wy.ev_i,Wy.ev_k,Wy.ev_h,Wy.ev_bn,Wy.ev_d,tT,hk,hi,(zOB hx.1.1 hy.1.1).2]
   rw [zS0 a b i k hk o _ _ hx hy _ (by omega)]
   simp only [cond_true]
   have e:(TermOf.mk (zo9 (a.getD i default).Coeff (b.getD k default).Coeff) (zS (a.getD i default).Factors (b.getD k default).Factors):Term)=zhx (a.getD i default) (b.getD k default):=rfl
   have hg:=zFh hx hy
   rw [e,zQi (d:=9) o _ (by omega) (fun z hz=>(hI.2 z hz).fine) (by omega) (fun z hz=>(hI.2 z hz).1) hg.1]
   simp only [cond_true]
   rw [zM (by omega)]⟩)
  (fun o hI H K D=>by
   show (zm6 a b i b.length o).ev H K D=_
   unfold zm6
   simp only [Wy.ev_i,Wy.ev_k,tT,Nat.lt_irrefl]) n 0 out (by omega) (by omega) (show (out.length≤i*512+0∧Srs out)∧∀ t∈out,GT t from ⟨⟨Nat.le_trans ho (Nat.le_add_right _ _),hs⟩,hg⟩)
 rw [List.drop_zero,zcw] at this
 have e:∀ (l:List Term) (o:List Term),l.foldl (fun s t=>putA (zhx (a.getD i default) t) s) o=sumA o (l.map (zhx (a.getD i default))):=fun l=>by
  induction l with
  | nil=>intro o; rfl
  | cons y r ih=>intro o; rw [List.foldl_cons,ih]; rfl
 rw [e] at this
 exact this
theorem zPt (o:List Term) (b:List Term) (x:Term):(sumA o (b.map (zhx x))).length≤o.length+b.length:=by
 have:=zBe (b.map (zhx x)) o
 rwa [List.length_map] at this
theorem zSD (a b:List Term) (ha:∀ t∈a,VT t) (hb:∀ t∈b,VT t) (hal:a.length≤512) (hbl:b.length≤512):zz4 a b=(true,zbn a b):=by
 unfold zz4 zC8
 have:=zcv (W:=zCB) (z:=default) (l:=a) (fun i (o:List Term)=>(a,b,(),(i:Int),())) (fun _ o=>(o,())) (fun x o=>.inl (sumA o (b.map (zhx x)))) (fun o=>o) (fun i o=>(o.length≤i*512∧Srs o)∧∀ t∈o,GT t)
  (fun i o hi hI=>.inl ⟨_,rfl,⟨⟨by have:=zPt o b (a.getD i default); omega,zBa _ _ hI.1.2⟩,zEk _ _ hI.1.2 hI.2 fun t ht=>by
    obtain ⟨y,hy,rfl⟩:=List.mem_map.1 ht
    exact zFh (ha _ (zp hi)) (hb y hy)⟩,fun H K D=>by
   show (zna a b i o).ev H K D=_
   unfold zna
   have e1:decide ((i:Int)<Int.ofNat a.length)=true:=by simp [hi]
   simp only [Wy.ev_i,Wy.ev_k,Wy.ev_h,Wy.ev_bn,Wy.ev_d,e1,cond_true]
   rw [zUZ a b i hi hal hbl (ha _ (zp hi)) hb o hI.1.1 hI.1.2 hI.2 _ (by omega)]
   simp only [cond_true]
   rw [zM (by omega)]⟩)
  (fun o hI H K D=>by
   show (zna a b a.length o).ev H K D=_
   unfold zna
   have e1:decide ((a.length:Int)<Int.ofNat a.length)=false:=by simp
   simp only [Wy.ev_i,Wy.ev_k,e1,cond_false]) ((a.length+b.length+Int.toNat (0:Int)+(0:Nat)+(1:Nat))+szTs a+szTs b+szTs []) 0 [] (by omega) (by omega) ⟨⟨by simp,.nil⟩,fun t ht=>by cases ht⟩
 rw [List.drop_zero,zcw] at this
 have e:∀ (l:List Term) (o:List Term),l.foldl (fun s x=>sumA s (b.map (zhx x))) o=sumA o (zdb l b):=fun l=>by
  induction l with
  | nil=>intro o; rfl
  | cons y r ih=>
   intro o
   rw [List.foldl_cons,ih]
   show _=(zdb (y::r) b).foldl (fun a t=>putA t a) o
   unfold zdb
   rw [List.flatMap_cons,List.foldl_append]; rfl
 rw [e] at this
 have this:zBH ((a.length+b.length+Int.toNat (0:Int)+(0:Nat)+(1:Nat))+szTs a+szTs b+szTs []) a b 0 []=(true,zbn a b):=this
 rw [Wy.fin_bn,this]; rfl
theorem zUs (a b:List Term) (ha:∀ t∈a,GT t) (hb:∀ t∈b,GT t) (hs:Srs a) (hal:a.length≤512) (hbl:b.length≤512):zHU a b=(true,sumA a b):=by
 unfold zHU zJL
 have:=zcv (W:=zIe) (z:=default) (l:=b) (fun i (o:List Term)=>(o,b,(i:Int),())) (fun _ o=>()) (fun x o=>.inl (putA x o)) (fun o=>o) (fun i o=>(o.length≤512+i∧Srs o)∧∀ t∈o,GT t)
  (fun i o hi hI=>.inl ⟨_,rfl,⟨⟨by have:=zIN (t:=b.getD i default) o; omega,zu6 hI.1.2⟩,zOk (hb _ (zp hi)) hI.1.2 hI.2⟩,fun H K D=>by
   show (zsy o b i).ev H K D=_
   unfold zsy
   simp only [Wy.ev_i,Wy.ev_k,Wy.ev_h,Wy.ev_bn,Wy.ev_d,tT,hi]
   rw [zQi (d:=9) o _ (by omega) (fun z hz=>(hI.2 z hz).fine) (by omega) (fun z hz=>(hI.2 z hz).1) (hb _ (zp hi)).1,cond_true,zM (by omega)]⟩)
  (fun o hI H K D=>by
   show (zsy o b b.length).ev H K D=_
   unfold zsy
   simp only [Wy.ev_i,Wy.ev_k,tT,Nat.lt_irrefl]) (a.length+b.length+Int.toNat (0:Int)+(1:Nat)) 0 a (by omega) (by omega) ⟨⟨by omega,hs⟩,ha⟩
 rw [List.drop_zero,zcw] at this
 have this:zIo (a.length+b.length+Int.toNat (0:Int)+(1:Nat)) a b 0=(true,sumA a b):=this
 rw [Wy.fin_bn,this]; rfl
def okA (a:List Term):Prop:=(zm 12 a∧zI a≤4611686018427387904)∧zfz a∧a.length≤roomLen
def opR (ok:Bool) (r:List Term×Int):List Term×Int:=bif ok then r else ([],1)
def addR (a b:List Term):List Term×Int:=opR (zC a&&zC b) (fitR (sumA a b))
def mulR (a b:List Term):List Term×Int:=opR (zC a&&zC b) (fitR (zbn a b))
def monA (a b:List Term):Atom:=⟨1,⟨0,0⟩,[a,b],0,[],0,⟨0,0,ByteArray.mk #[]⟩⟩
def delA (a:List Term):Atom:=⟨2,⟨0,0⟩,[a],0,[],0,⟨0,0,ByteArray.mk #[]⟩⟩
def absA (a:List Term):Atom:=⟨3,⟨0,0⟩,[a],0,[],0,⟨0,0,ByteArray.mk #[]⟩⟩
def monR (a b:List Term):List Term×Int:=opR (zC a&&zC b) (if b=[] then (a,0) else if a=[]∨a=b then ([],0) else fitR (oneA (monA a b)))
def delR (a:List Term):List Term×Int:=opR (zC a) (if a=[]∨isU a=true then (a,0) else if isC a=true then ([⟨1,[]⟩],0) else fitR (oneA (delA a)))
def absR (a:List Term):List Term×Int:=opR (zC a) (if a=[] then ([⟨1,[]⟩],0) else if hasC a=true then ([],0) else fitR (oneA (absA a)))
theorem okA.valid {a:List Term} (h:okA a):zbP a=(true,zC a):=zMO h.1.1 (by omega) h.1.2
theorem okA.rvalid {a:List Term} (h:okA a):zfD a=(true,zC a):=zLn h.1.1 (by omega) h.1.2
theorem zNU {a b:List Term} (ha:okA a) (hb:okA b):zmH a b=(true,addR a b)∧zIm a b=(true,addR a b):=by
 unfold zmH zuS zIm zJJ addR
 simp only [Wy.fin_bn,Wy.fin_i,Wy.fin_k,ha.valid,hb.valid,ha.rvalid,hb.rvalid,cond_true]
 cases va:zC a with
 | false=>first | exact ⟨trivial,trivial⟩ | exact ⟨rfl,rfl⟩ | exact ⟨trivial,rfl⟩ | exact ⟨rfl,trivial⟩
 | true=>
  cases vb:zC b with
  | false=>first | exact ⟨trivial,trivial⟩ | exact ⟨rfl,rfl⟩ | exact ⟨trivial,rfl⟩ | exact ⟨rfl,trivial⟩
  | true=>
   obtain ⟨sa,la,ta⟩:=zsU va ha.2.1
   obtain ⟨sb,lb,tb⟩:=zsU vb hb.2.1
   have ga:∀ t∈a,GT t:=fun t ht=>(ta t ht).1
   have gb:∀ t∈b,GT t:=fun t ht=>(tb t ht).1
   have hc:=zTu [a,b] (by simp) (fun l hl=>by
    simp only [List.mem_cons,List.not_mem_nil,or_false] at hl
    rcases hl with rfl | rfl <;>omega)
   have e:[a,b].flatten=a++b:=by simp
   have hcol:=zKH (a++b) (by simp; omega) fun t ht=>by
    rcases List.mem_append.1 ht with ht | ht
    ·exact ga t ht
    ·exact gb t ht
   rw [e] at hc
   rw [zUK a b sa] at hcol
   have hsl:(sumA a b).length≤1000000:=by have:=zBe b a; omega
   obtain ⟨f1,f2⟩:=zN9 hsl (zEk b a sa ga gb)
   simp only [Bool.not_true,cond_false,Bool.and_self,hc,hcol,zs3 f1 (by omega:10≤100) f2,zUs a b ga gb sa la lb,zEw f1 (by omega:10≤100) f2,cond_true]
   first | exact ⟨trivial,trivial⟩ | exact ⟨rfl,rfl⟩ | exact ⟨trivial,rfl⟩ | exact ⟨rfl,trivial⟩
theorem zOd {a b:List Term} (ha:okA a) (hb:okA b):zmN a b=(true,mulR a b)∧zIl a b=(true,mulR a b):=by
 unfold zmN zuJ zIl zJr mulR
 simp only [Wy.fin_bn,Wy.fin_i,Wy.fin_k,ha.valid,hb.valid,ha.rvalid,hb.rvalid,cond_true]
 cases va:zC a with
 | false=>first | exact ⟨trivial,trivial⟩ | exact ⟨rfl,rfl⟩ | exact ⟨trivial,rfl⟩ | exact ⟨rfl,trivial⟩
 | true=>
  cases vb:zC b with
  | false=>first | exact ⟨trivial,trivial⟩ | exact ⟨rfl,rfl⟩ | exact ⟨trivial,rfl⟩ | exact ⟨rfl,trivial⟩
  | true=>
   obtain ⟨sa,la,ta⟩:=zsU va ha.2.1
   obtain ⟨sb,lb,tb⟩:=zsU vb hb.2.1
   have hm:=zV6 a b ta tb la lb (b.length+a.length+(Int.ofNat a.length).toNat +Int.toNat (0:Int)+(0:Nat)+(1:Nat)) (by omega)
   have hm:ztW (b.length+a.length+(Int.ofNat a.length).toNat +Int.toNat (0:Int)+(0:Nat)+(1:Nat)) b a (Int.ofNat a.length) 0 []=_:=hm
   have hpl:(zdb a b).length≤1000000:=by rw [zIx]; have:=Nat.mul_le_mul la lb; omega
   have hcol:=zKH (zdb a b) hpl (zJ1 ta tb)
   have hsl:(zbn a b).length≤1000000:=by have:=zBe (zdb a b) []; simp at this; exact Nat.le_trans this hpl
   obtain ⟨f1,f2⟩:=zN9 hsl (zEk (zdb a b) [] .nil (fun t ht=>by cases ht) (zJ1 ta tb))
   have f1:zm 10 (zbn a b):=f1
   have f2:zI (zbn a b)≤4611686018427387904:=f2
   have hcol:zgW (zdb a b)=(true,zbn a b):=hcol
   simp only [Bool.not_true,cond_false,Bool.and_self,hm,hcol,zs3 f1 (by omega:10≤100) f2,zSD a b ta tb la lb,zEw f1 (by omega:10≤100) f2,cond_true]
   first | exact ⟨trivial,trivial⟩ | exact ⟨rfl,rfl⟩ | exact ⟨trivial,rfl⟩ | exact ⟨rfl,trivial⟩
theorem zFf {l:List (List Term)} {k:Int} (hl:l.length≤2) (h:∀ a∈l,zC a=true):zm 10 (oneA ⟨k,⟨0,0⟩,l,0,[],0,⟨0,0,ByteArray.mk #[]⟩⟩)∧zI (oneA ⟨k,⟨0,0⟩,l,0,[],0,⟨0,0,ByteArray.mk #[]⟩⟩)≤4611686018427387904:=by
 constructor
 ·exact zG6 ⟨⟨by simp only; omega,by simp,by show (ByteArray.mk #[]).size≤_; decide⟩,fun a ha=>(zew (h a ha)).1,fun w hw=>(by cases hw)⟩
 ·rw [zKe,zf6]
  have hb:∀ l:List (List Term),(∀ a∈l,zC a=true)→zex l≤l.length*4096:=fun l=>by
   induction l with
   | nil=>intro _; rw [zfC]; simp
   | cons a r ih=>
    intro h
    have h1:=(zew (h a (by simp))).2.1
    have h2:=ih fun b hb=>h b (by simp [hb])
    rw [zeq,List.length_cons,Nat.add_mul]; omega
  have:=hb l h
  show 2+(zex l+zcJ [])≤_
  rw [zeR]
  have:=Nat.mul_le_mul hl (Nat.le_refl 4096)
  omega
theorem zMl (a:List Term):(Int.ofNat a.length==(0:Int))=decide (a=[]):=by
 rw [show (Int.ofNat a.length==(0:Int))=(a.length==0) from zp9 _ 0,beqn]
 congr 1
 rw [List.length_eq_zero_iff]
theorem zKi {a b:List Term} (ha:okA a) (hb:okA b):zkn a b=(true,monR a b)∧zDA a b=(true,monR a b):=by
 unfold zkn zse zDA zGq monR
 simp only [Wy.fin_bn,Wy.fin_i,Wy.fin_k,ha.valid,hb.valid,ha.rvalid,hb.rvalid,cond_true]
 cases va:zC a with
 | false=>first | exact ⟨trivial,trivial⟩ | exact ⟨rfl,rfl⟩ | exact ⟨trivial,rfl⟩ | exact ⟨rfl,trivial⟩
 | true=>
  cases vb:zC b with
  | false=>first | exact ⟨trivial,trivial⟩ | exact ⟨rfl,rfl⟩ | exact ⟨trivial,rfl⟩ | exact ⟨rfl,trivial⟩
  | true=>
   obtain ⟨f1,f2⟩:=zFf (l:=[a,b]) (k:=1) (by simp) (fun x hx=>by
    simp only [List.mem_cons,List.not_mem_nil,or_false] at hx
    rcases hx with rfl | rfl
    ·exact va
    ·exact vb)
   simp only [Bool.not_true,cond_false,Bool.and_self,zMl,zzg ha.1.1 (by omega:12≤100),zq9 ha.1.1 (by omega:12≤100),zzA ha.1.1 (by omega:12≤100),zyM,zEA,zs3 f1 (by omega:10≤100) f2,zEw f1 (by omega:10≤100) f2,cond_true,opR]
   by_cases hb0:b=[]
   ·simp only [hb0,decide_true,cond_true,if_true]; exact ⟨trivial,trivial⟩
   ·by_cases ha0:a=[]
    ·simp only [hb0,ha0,decide_true,decide_false,cond_true,cond_false,if_true,if_false,true_or]; exact ⟨trivial,trivial⟩
    ·by_cases hab:a=b
     ·simp only [hb0,ha0,hab,decide_true,decide_false,cond_true,cond_false,if_true,if_false,or_true]; exact ⟨trivial,trivial⟩
     ·simp only [hb0,ha0,hab,decide_false,cond_false,if_false,or_self]; first | exact ⟨trivial,trivial⟩ | exact ⟨rfl,rfl⟩ | exact ⟨trivial,rfl⟩ | exact ⟨rfl,trivial⟩
theorem zJ7 {a:List Term} (ha:okA a):zku a=(true,delR a)∧zDX a=(true,delR a):=by
 unfold zku zsh zDX zGK delR
 simp only [Wy.fin_bn,Wy.fin_i,Wy.fin_k,ha.valid,ha.rvalid,cond_true]
 cases va:zC a with
 | false=>first | exact ⟨trivial,trivial⟩ | exact ⟨rfl,rfl⟩ | exact ⟨trivial,rfl⟩ | exact ⟨rfl,trivial⟩
 | true=>
  obtain ⟨f1,f2⟩:=zFf (l:=[a]) (k:=2) (by simp) (fun x hx=>by rw [List.mem_singleton] at hx; subst hx; exact va)
  have hla:a.length≤1000000000:=by have:=(zew va).2.2; omega
  have hbu:isB a=isU a:=zHk va
  simp only [Bool.not_true,cond_false,zMl,zzg ha.1.1 (by omega:12≤100),zMZ,zGC,zCT,ztH a hla,zyM,zEA,zs3 f1 (by omega:10≤100) f2,zEw f1 (by omega:10≤100) f2,cond_true,opR,hbu]
  rw [show fitR (oneA ⟨2,⟨0,0⟩,[a],0,[],0,⟨0,0,ByteArray.mk #[]⟩⟩)=fitR (oneA (delA a)) from rfl]
  clear f1 f2
  generalize fitR (oneA (delA a))=R
  by_cases h0:a=[]
  ·simp only [h0,decide_true,cond_true,if_true,true_or]; exact ⟨trivial,trivial⟩
  ·cases hu:isU a with
   | true=>simp only [h0,decide_false,cond_false,cond_true,if_true,or_true]; exact ⟨trivial,trivial⟩
   | false=>
    simp only [h0,decide_false,cond_false,if_false,or_self,Bool.false_eq_true]
    match a,h0 with
    | [t],_=>
     have e1:hasC [t]=(t.Factors.length==0):=by simp [hasC]
     have e2:isC [t]=(t.Factors.length==0):=rfl
     rw [e1,e2]
     cases (t.Factors.length==0) with
     | true=>simp only [cond_true,if_true]; first | exact ⟨trivial,trivial⟩ | exact ⟨rfl,rfl⟩ | exact ⟨trivial,rfl⟩ | exact ⟨rfl,trivial⟩
     | false=>simp only [cond_false,cond_true,Bool.false_eq_true,if_false]; first | exact ⟨trivial,trivial⟩ | exact ⟨rfl,rfl⟩ | exact ⟨trivial,rfl⟩ | exact ⟨rfl,trivial⟩
    | t::s::r,_=>
     have e2:isC (t::s::r)=false:=rfl
     simp only [len2,e2,cond_false,cond_true,Bool.false_eq_true,if_false]
     first | exact ⟨trivial,trivial⟩ | exact ⟨rfl,rfl⟩ | exact ⟨trivial,rfl⟩ | exact ⟨rfl,trivial⟩
theorem zIc {a:List Term} (ha:okA a):zjJ a=(true,absR a)∧zCf a=(true,absR a):=by
 unfold zjJ zrk zCf zD9 absR
 simp only [Wy.fin_bn,Wy.fin_i,Wy.fin_k,ha.valid,ha.rvalid,cond_true]
 cases va:zC a with
 | false=>first | exact ⟨trivial,trivial⟩ | exact ⟨rfl,rfl⟩ | exact ⟨trivial,rfl⟩ | exact ⟨rfl,trivial⟩
 | true=>
  obtain ⟨f1,f2⟩:=zFf (l:=[a]) (k:=3) (by simp) (fun x hx=>by rw [List.mem_singleton] at hx; subst hx; exact va)
  have hla:a.length≤1000000000:=by have:=(zew va).2.2; omega
  simp only [Bool.not_true,cond_false,zMl,zEm a hla,ztH a hla,zyM,zEA,zs3 f1 (by omega:10≤100) f2,zEw f1 (by omega:10≤100) f2,cond_true,opR]
  by_cases h0:a=[]
  ·simp only [h0,decide_true,cond_true,if_true]; first | exact ⟨trivial,trivial⟩ | exact ⟨rfl,rfl⟩ | exact ⟨trivial,rfl⟩ | exact ⟨rfl,trivial⟩
  ·cases hu:hasC a with
   | true=>simp only [h0,decide_false,cond_false,cond_true,if_true,if_false]; exact ⟨trivial,trivial⟩
   | false=>simp only [h0,decide_false,cond_false,if_false,Bool.false_eq_true]; first | exact ⟨trivial,trivial⟩ | exact ⟨rfl,rfl⟩ | exact ⟨trivial,rfl⟩ | exact ⟨rfl,trivial⟩
theorem zHP {n:Int} (h:rng n):wf3 n:=by
 show (Lit.int .i64 n).wf=true
 have:IntKind.i64.min≤n∧n≤IntKind.i64.max:=⟨h.1,h.2⟩
 simpa [Lit.wf] using this
theorem zG7 {t:Term} (hc:rng t.Coeff) (hf:∀ f∈t.Factors,zfm f.Atom∧rng f.Exp) (hl:t.Factors.length≤1000000):zt5 t:=by
 obtain ⟨c,fs⟩:=t
 unfold zt5
 refine ⟨zHP hc,zCl fs fun f h=> ?_,by have:roomLen=140737488351232:=rfl; simp only at hl; omega⟩
 obtain ⟨x,e⟩:=f
 unfold zqc
 exact ⟨(hf _ h).1,zHP (hf _ h).2⟩
def okR (r:List Term×Int):Prop:=okA r.1∧(r.2=0∨r.1=[])
theorem ziQ:okA []:=⟨⟨zST 11,by rw [zqb]; omega⟩,by unfold zfz; trivial,by simp⟩
theorem zA7 {a:List Term} (h:okA a):okR (fitR a):=by
 unfold fitR
 cases zfi a with
 | true=>exact ⟨h,.inl rfl⟩
 | false=>exact ⟨ziQ,.inr rfl⟩
theorem zEG {ok:Bool} {r:List Term×Int} (h:ok=true→okR r):okR (opR ok r):=by
 unfold opR
 cases ok with
 | true=>exact h rfl
 | false=>exact ⟨ziQ,.inr rfl⟩
theorem zMo {l:List Term} (hl:l.length≤1000000) (h:∀ t∈l,GT t):okA l:=by
 obtain ⟨h1,h2⟩:=zN9 hl h
 refine ⟨⟨h1.mono (by omega),h2⟩,zxV l fun t ht=> ?_,by have:roomLen=140737488351232:=rfl; omega⟩
 have hg:=h t ht
 exact zG7 ⟨by have:=hg.1.1; omega,by have:=hg.1.2; omega⟩ (fun f hf=>⟨(hg.2.2 f hf).1.2.1,(hg.2.2 f hf).gF.2.2⟩) (by have:=hg.2.1; omega)
theorem zIG {a b:List Term} (ha:okA a) (hb:okA b):okR (addR a b):=zEG fun hv=>by
 rw [Bool.and_eq_true] at hv
 obtain ⟨sa,la,ta⟩:=zsU hv.1 ha.2.1
 obtain ⟨sb,lb,tb⟩:=zsU hv.2 hb.2.1
 exact zA7 (zMo (by have:=zBe b a; omega) (zEk b a sa (fun t ht=>(ta t ht).1) fun t ht=>(tb t ht).1))
theorem zII {a b:List Term} (ha:okA a) (hb:okA b):okR (mulR a b):=zEG fun hv=>by
 rw [Bool.and_eq_true] at hv
 obtain ⟨sa,la,ta⟩:=zsU hv.1 ha.2.1
 obtain ⟨sb,lb,tb⟩:=zsU hv.2 hb.2.1
 have hpl:(zdb a b).length≤1000000:=by rw [zIx]; have:=Nat.mul_le_mul la lb; omega
 exact zA7 (zMo (by have:=zBe (zdb a b) []; simp at this; exact Nat.le_trans this hpl) (zEk (zdb a b) [] .nil (fun t ht=>by cases ht) (zJ1 ta tb)))
theorem zOp {x:Atom} (hf:zcI (zm 9) x) (hs:zI (oneA x)≤4611686018427387904) (hw:zfm x):okA (oneA x):=by
 refine ⟨⟨(zG6 hf).mono (by omega),hs⟩,zxV _ fun t ht=> ?_,by simp [oneA,roomLen]⟩
 simp only [oneA,List.mem_singleton] at ht
 subst ht
 refine zG7 ⟨by simp,by simp⟩ (fun f hf=> ?_) (by simp)
 simp only [List.mem_singleton] at hf
 subst hf
 exact ⟨hw,⟨by simp,by simp⟩⟩
theorem zHE {n:Int} (h: -1000≤n∧n≤1000):rng n:=⟨by omega,by omega⟩
theorem zmG:wf3 0:=zHP (zHE (by omega))
theorem zG9 {l:List (List Term)} {k:Int} (hk:0≤k∧k≤4) (hl:l.length≤2) (h:∀ a∈l,zC a=true) (hw:∀ a∈l,okA a):okA (oneA ⟨k,⟨0,0⟩,l,0,[],0,⟨0,0,ByteArray.mk #[]⟩⟩):=by
 refine zOp ⟨⟨by simp only; omega,by simp,by show (ByteArray.mk #[]).size≤_; decide⟩,fun a ha=>(zew (h a ha)).1,fun w hw=>(by cases hw)⟩ (zFf hl h).2 ?_
 unfold zfm
 have hr:roomLen=140737488351232:=rfl
 refine ⟨zHP (zHE (by omega)),⟨zmG,zmG⟩,⟨zHs l fun a ha=>⟨(hw a ha).2.1,(hw a ha).2.2⟩,by omega⟩,zmG,⟨by unfold znY; trivial,by simp⟩,zmG,⟨zmG,zmG, ?_⟩⟩
 show (ByteArray.mk #[]).size≤roomLen
 rw [hr]; decide
theorem zIZ {a b:List Term} (ha:okA a) (hb:okA b):okR (monR a b):=zEG fun hv=>by
 rw [Bool.and_eq_true] at hv
 split
 ·exact ⟨ha,.inl rfl⟩
 ·split
  ·exact ⟨ziQ,.inl rfl⟩
  ·refine zA7 (zG9 (by omega) (by simp) (fun x hx=> ?_) fun x hx=> ?_)
   ·simp only [List.mem_cons,List.not_mem_nil,or_false] at hx
    rcases hx with rfl | rfl
    ·exact hv.1
    ·exact hv.2
   ·simp only [List.mem_cons,List.not_mem_nil,or_false] at hx
    rcases hx with rfl | rfl
    ·exact ha
    ·exact hb
theorem zI3 (c:Int) (hc:1≤c∧c≤1152921504606846976):okA [⟨c,[]⟩]:=zMo (by simp) fun t ht=>by
 rw [List.mem_singleton] at ht; subst ht
 exact ⟨hc,by simp,fun f hf=>by cases hf⟩
theorem zI7 {a:List Term} (ha:okA a):okR (delR a):=zEG fun hv=>by
 split
 ·exact ⟨ha,.inl rfl⟩
 ·split
  ·exact ⟨zI3 1 (by omega),.inl rfl⟩
  ·exact zA7 (zG9 (by omega) (by simp) (fun x hx=>by rw [List.mem_singleton] at hx; subst hx; exact hv) fun x hx=>by rw [List.mem_singleton] at hx; subst hx; exact ha)
theorem zIK {a:List Term} (ha:okA a):okR (absR a):=zEG fun hv=>by
 split
 ·exact ⟨zI3 1 (by omega),.inl rfl⟩
 ·split
  ·exact ⟨ziQ,.inl rfl⟩
  ·exact zA7 (zG9 (by omega) (by simp) (fun x hx=>by rw [List.mem_singleton] at hx; subst hx; exact hv) fun x hx=>by rw [List.mem_singleton] at hx; subst hx; exact ha)
def cstA (n:Int):List Term:=if n<1 then [] else [⟨if 1152921504606846976<n then 1152921504606846976 else n,[]⟩]
def varA (id:RowID):List Term:=bif zrn id then oneA ⟨0,id,[],0,[],0,⟨0,0,ByteArray.mk #[]⟩⟩ else []
theorem zO6 (n:Int):zm4 n=(true,cstA n)∧zDy n=(true,cstA n):=by
 unfold zm4 zsR zDy zGo cstA
 by_cases h:n<1
 ·simp only [Wy.fin_i,Wy.fin_k,h,decide_true,cond_true,if_true]; exact ⟨trivial,trivial⟩
 ·simp only [Wy.fin_i,Wy.fin_k,h,decide_false,cond_false,if_false]; exact ⟨trivial,trivial⟩
theorem zSg (id:RowID):zpb id=(true,varA id)∧zHT id=(true,varA id):=by
 unfold zpb zuT zHT zJQ varA zrn
 simp only [Wy.fin_i,Wy.fin_bn,Wy.fin_k,zwy,zyM,zEA,cond_true]
 unfold zrn
 have e1:decide (id.Table<1)= !decide (id.Table≥1):=by
  by_cases h:id.Table<1
  ·have:¬ id.Table≥1:=by omega
   simp only [h,this,decide_true,decide_false,Bool.not_false]
  ·have:id.Table≥1:=by omega
   simp only [h,this,decide_true,decide_false,Bool.not_true]
 have e2:decide (id.Seq<1)= !decide (id.Seq≥1):=by
  by_cases h:id.Seq<1
  ·have:¬ id.Seq≥1:=by omega
   simp only [h,this,decide_true,decide_false,Bool.not_false]
  ·have:id.Seq≥1:=by omega
   simp only [h,this,decide_true,decide_false,Bool.not_true]
 rw [e1,e2]
 cases decide (id.Table≥1) <;>cases decide (id.Seq≥1) <;>exact ⟨rfl,rfl⟩
theorem zOv (n:Int):okA (cstA n):=by
 unfold cstA
 split
 ·exact ziQ
 ·refine zI3 _ ?_
  split <;>omega
theorem zVi {id:RowID} (h:wf25 id):okA (varA id):=by
 unfold varA
 cases hr:zrn id with
 | false=>exact ziQ
 | true=>
  refine zOp ⟨⟨by simp,by simp,by show (ByteArray.mk #[]).size≤_; decide⟩,fun a ha=>(by cases ha),fun w hw=>(by cases hw)⟩ (by rw [zKe,zf6,zfC,zeR]; omega) ?_
  unfold zfm
  refine ⟨zmG,h,⟨by unfold zqI; trivial,by simp⟩,zmG,⟨by unfold znY; trivial,by simp⟩,zmG,⟨zmG,zmG, ?_⟩⟩
  show (ByteArray.mk #[]).size≤roomLen
  have hr:roomLen=140737488351232:=rfl
  rw [hr]; decide
theorem okR.same {r:List Term×Int} (h:okR r):zFF r.1 r.2 r.1 r.2=(true,true):=zUl h.1.1.1 (by omega) h.2
theorem zLU {a:List Term} {n:Nat} (hn:n≤1000) (h:zm 12 a∧zei a≤n) (hw:wf23 a):okA a:=⟨⟨h.1,by have:=zAY a; omega⟩,hw.1,hw.2⟩
end Go.Proofs.YtnolcogncjijpaaGreatDoor
end
