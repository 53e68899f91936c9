/- Texts of this claim, joined (the program, its functions in plain words, and what they compute). -/
import Derived.Test.YtoknknbmfmddbaaGreatDoorGC9
set_option autoImplicit false
set_option linter.unusedVariables false
set_option linter.unusedSectionVars false
set_option linter.unusedSimpArgs false
set_option maxRecDepth 1000000
set_option maxHeartbeats 0
noncomputable section
namespace Go.Proofs.YtoknknbmfmddbaaGreatDoor
open Go Go.Ab
abbrev zI0:=yB×yB×Unit×Int×Int×Unit×Int×Unit
abbrev zIX:=yB×(Int×yC×Unit)×Unit
abbrev zWY:=yB×yB×Int×Int×yB×Int×yC
abbrev zJB:=yB×yB×Unit×Int×Int×Unit
abbrev zvK:=yB×Unit
abbrev zXO:=yB×yB×Int×yB
abbrev zKm:=yB×yB×Unit×Int×Unit
def zph (a:yB) (b:yB) (i:Int) (k:Int) (j:Int) (out_:yB) (t_0:Int) (t_1:yC):Wy zI0 zIX zWY:=.i (decide (0<=k)&&decide (k<Int.ofNat b.length)) (.i (decide (j<Int.ofNat (b.getD k.toNat default).Fs.length)) (.i (decide (0<=k)&&decide (k<Int.ofNat b.length)) (.i (decide (0<=j)&&decide (j<Int.ofNat (b.getD k.toNat default).Fs.length)) (.bn (zJy t_1 (FO.mk (At.mk ((b.getD k.toNat default).Fs.getD j.toNat default).At.Kind ((b.getD k.toNat default).Fs.getD j.toNat default).At.Row ((b.getD k.toNat default).Fs.getD j.toNat default).At.Ag ((b.getD k.toNat default).Fs.getD j.toNat default).At.Func ((b.getD k.toNat default).Fs.getD j.toNat default).At.Items ((b.getD k.toNat default).Fs.getD j.toNat default).At.Op ((b.getD k.toNat default).Fs.getD j.toNat default).At.Bd) ((b.getD k.toNat default).Fs.getD j.toNat default).Exp)) λr0=>.h (a,b,(),i,k,(),(IntKind.i64.wrap (j+1)),()) (out_,(t_0,(r0),()),())) .d) .d) (.k (a,b,i,k,out_,t_0,t_1))) .d
def zHH (x:zI0) (y:zIX):=zph x.1 x.2.1 x.2.2.2.1 x.2.2.2.2.1 x.2.2.2.2.2.2.1 y.1 y.2.1.1 y.2.1.2.1
def zHE (n:Nat) (a:yB) (b:yB) (i:Int) (k:Int) (j:Int) (out_:yB) (t_0:Int) (t_1:yC):=zA (zHH) default n (a,b,(),i,k,(),j,()) (out_,(t_0,t_1,()),())
def zrw (a:yB) (b:yB) (i:Int) (k:Int) (out_:yB):Wy zJB zvK zXO:=.i (decide (k<Int.ofNat b.length)) (.i (decide (0<=i)&&decide (i<Int.ofNat a.length)) (.i (decide (0<=k)&&decide (k<Int.ofNat b.length)) (.bn (zMl (a.getD i.toNat default).Cf (b.getD k.toNat default).Cf) λr4=>.i (decide (0<=i)&&decide (i<Int.ofNat a.length)) (.bn (zHE ((a.length+b.length+i.toNat +k.toNat +Int.toNat 0+out_.length+r4.toNat +(a.getD i.toNat default).Fs.length+1)+zgV a+zgV b+zgV out_+z3E (a.getD i.toNat default).Fs) a b i k 0 out_ r4 (a.getD i.toNat default).Fs) λr3=>.bn (zL3 r3.2.2.2.2.1 (TO.mk r3.2.2.2.2.2.1 r3.2.2.2.2.2.2)) λr2=>.h ((r3.1),(r3.2.1),(),(r3.2.2.1),(IntKind.i64.wrap (r3.2.2.2.1+1)),()) ((r2),())) .d) .d) .d) (.k (a,b,i,out_))
def zJi (x:zJB) (y:zvK):=zrw x.1 x.2.1 x.2.2.2.1 x.2.2.2.2.1 y.1
def zJ1 (n:Nat) (a:yB) (b:yB) (i:Int) (k:Int) (out_:yB):=zA (zJi) default n (a,b,(),i,k,()) (out_,())
def zq1 (a:yB) (b:yB) (i:Int) (out_:yB):Wy zKm zvK (yB):=.i (decide (i<Int.ofNat a.length)) (.bn (zJ1 ((a.length+b.length+i.toNat +Int.toNat 0+out_.length+1)+zgV a+zgV b+zgV out_) a b i 0 out_) λr8=>.h ((r8.1),(r8.2.1),(),(IntKind.i64.wrap (r8.2.2.1+1)),()) ((r8.2.2.2),())) (.k out_)
def zKA (x:zKm) (y:zvK):=zq1 x.1 x.2.1 x.2.2.2.1 y.1
def zJd (n:Nat) (a:yB) (b:yB) (i:Int) (out_:yB):=zA (zKA) default n (a,b,(),i,()) (out_,())
def zMb (a:yB) (b:yB):Wy0 (yB):=.bn (zJd ((a.length+b.length+Int.toNat 0+0+1)+zgV a+zgV b+zgV []) a b 0 []) λr10=>.k r10
def zHi (a:yB) (b:yB):=(zMb a b).fin default
def zV9 (a:yB) (b:yB):Wy0 (yB×Int):=.bn (zkd a) λr3=>.i (!r3) (.k ([],1)) (.bn (zkd b) λr2=>.i (!r2) (.k ([],1)) (.bn (zHi a b) λr1=>.bn (ztx r1) λr0=>.k (r0.1,r0.2)))
def z0P (a:yB) (b:yB):=(zV9 a b).fin default
abbrev zT2:=yB×yB×Int×Unit
def zyq (a:yB) (b:yB) (i:Int):Wy zT2 Unit (yB):=.i (decide (i<Int.ofNat b.length)) (.i (decide (0<=i)&&decide (i<Int.ofNat b.length)) (.bn (zL3 a (b.getD i.toNat default)) λr0=>.h ((r0),b,(IntKind.i64.wrap (i+1)),()) ()) .d) (.k a)
def zT8 (x:zT2) (y:Unit):=zyq x.1 x.2.1 x.2.2.1
def zUP (n:Nat) (a:yB) (b:yB) (i:Int):=zA (zT8) default n (a,b,i,()) ()
def zWG (a:yB) (b:yB):Wy0 (yB):=.bn (zUP (a.length+b.length+Int.toNat 0+1) a b 0) λr2=>.k r2
def zTx (a:yB) (b:yB):=(zWG a b).fin default
def zWg (a:yB) (b:yB):Wy0 (yB×Int):=.bn (zkd a) λr3=>.i (!r3) (.k ([],1)) (.bn (zkd b) λr2=>.i (!r2) (.k ([],1)) (.bn (zTx a b) λr1=>.bn (ztx r1) λr0=>.k (r0.1,r0.2)))
def z0Z (a:yB) (b:yB):=(zWg a b).fin default
def z6i (t:Term):yB->yB
 | []=>[t]
 | x::r=>if cT x t=0 then ⟨ztE x.Cf t.Cf,t.Fs⟩::r else t::x::r
def z6p (f:Fc):yC->yC
 | []=>[f]
 | x::r=>if cF x f=0 then (if f.At.Kind<3 then ⟨f.At,x.Exp+f.Exp⟩ else f)::r else f::x::r
theorem zbbn {t:Term} {l:yB} {k:Nat} (hk:k<l.length):z6i t (l.drop k)=if cT (l.getD k default) t=0 then ⟨ztE (l.getD k default).Cf t.Cf,t.Fs⟩::l.drop (k+1) else t::l.drop k:=by
 rw [zbl hk]; rfl
theorem zba2 {f:Fc} {l:yC} {k:Nat} (hk:k<l.length):z6p f (l.drop k)=if cF (l.getD k default) f=0 then (if f.At.Kind<3 then ⟨f.At,(l.getD k default).Exp+f.Exp⟩ else f)::l.drop (k+1) else f::l.drop k:=by
 rw [zbl hk]; rfl
theorem z5y (t:Term):∀ l:yB,zhy t l=l.takeWhile (λx=>decide (cT x t<0))++z6i t (l.dropWhile (λx=>decide (cT x t<0)))
 | []=>rfl
 | x::r=>by
  rw [List.takeWhile_cons,List.dropWhile_cons];unfold zhy;by_cases h:cT x t<0
  ·simp only [h,if_true,decide_true,List.cons_append];rw [z5y t r]
  ·simp only [h,if_false,decide_false,Bool.false_eq_true,List.nil_append]; rfl
theorem z5N (f:Fc):∀ l:yC,zHw f l=l.takeWhile (λx=>decide (cF x f<0))++z6p f (l.dropWhile (λx=>decide (cF x f<0)))
 | []=>rfl
 | x::r=>by
  rw [List.takeWhile_cons,List.dropWhile_cons];unfold zHw;by_cases h:cF x f<0
  ·simp only [h,if_true,decide_true,List.cons_append];rw [z5N f r]
  ·simp only [h,if_false,decide_false,Bool.false_eq_true,List.nil_append]; rfl
theorem z59 {a b:Int} (ha:0<=a/\a<=1152921504606846976) (hb:0<=b/\b<=1152921504606846976):IntKind.i64.wrap (a+b)=a+b:=zbM (by omega) (by omega)
theorem z7K {τ:Type} (l:List τ) (p:τ->Bool):(l.takeWhile p).length<=l.length:=(List.takeWhile_prefix p).length_le
theorem zbcS (z:Int):(z==0)=decide (z=0):=zhD z 0
theorem z5w {d:Nat} (l:yB) (t:Term) (hl:l.length<=1000000) (h:∀ x∈l,zhd (zo d) x.Fs) (hd:d<=99) (hc:∀ x∈l,cOK x) (ht:cOK t):zL3 l t=(true,zhy t l):=by
 have hreach:zG=70368744177664:=rfl;unfold zL3 zWm
 have hL:=zPz (W:=zUq) (z:=default) l (λx=>decide (cT x t<0)) (λk=>(l,(),(k:Int),())) (λ_=>(t,())) (λk=>(l,(k:Int),t))
  (λk hk H K D=>by
   show (zy6 l k t).ev H K D=_;unfold zy6;simp only [Wy.ev_i,Wy.ev_k,Wy.ev_h,Wy.ev_bn,Wy.ev_d,tT,hk,zsA (h _ (zl hk)) hd];rw [zB (by omega)]; rfl)
  (λH K D=>by
   show (zy6 l l.length t).ev H K D=_;unfold zy6;simp only [Wy.ev_i,Wy.ev_k,tT,Nat.lt_irrefl]) (l.length+Int.toNat (0:Int)+t.Fs.length+(1:Nat)) (by omega)
 have hL:zTr (l.length+Int.toNat (0:Int)+t.Fs.length+(1:Nat)) l 0 t=_:=hL;rw [hL,zVq,z5y];have q1:=z7K l (λx=>decide (cT x t<0))
 have q2:=zVl (λx=>decide (cT x t<0)) l
 have q3:=zVb (λx=>decide (cT x t<0)) l
 generalize (l.takeWhile λx=>decide (cT x t<0)).length=k at q1 q2 q3 ⊢
 rw [<- q2, <- q3];have g1:(decide ((0:Int)<=(0:Int))&&decide ((0:Int)<=(k:Int))&&decide ((k:Int)<=Int.ofNat l.length))=true:=by simp only [qc,qe,Int.ofNat_eq_natCast]; omega
 have g2:decide ((0+(l.take k).length)*32<=zG)=true:=by simp only [qe,List.length_take]; omega
 have g4:∀ m:Nat,decide (((l.take k).length+[(⟨0,[]⟩:Term)].length)*32<=zG)=true:=λm=>by simp only [qe,List.length_take,List.length_singleton]; omega
 simp only [Wy.fin_i,Wy.fin_k,Wy.fin_bn,List.nil_append,Int.toNat_natCast,z0H,zBU,g1,g2,cond_true];by_cases hk:k<l.length
 ·have g3:decide ((k:Int)<Int.ofNat l.length)=true:=by simp [hk]
  have g5:(decide ((0:Int)<=(k:Int))&&decide ((k:Int)<Int.ofNat l.length))=true:=by rw [g3]; simp
  have hm:=zl hk;simp only [g3,ze4,Bool.and_self,cond_true,zsA (h _ hm) hd];rw [zbcS,zbbn hk];have gw:IntKind.i64.wrap ((k:Int)+1)=((k+1:Nat):Int):=zB (by omega)
  have gp:(zCO (l.getD k default).Cf t.Cf).2=ztE (l.getD k default).Cf t.Cf:=by
   unfold zCO zTR ztE;rw [Wy.fin_k,z59 ⟨by have:=(hc _ hm).1; omega,(hc _ hm).2⟩ ⟨by have:=ht.1; omega,ht.2⟩]
  have gk:(decide ((0:Int)<=(k:Int))&&decide ((k:Int)<=Int.ofNat l.length)&&decide (Int.ofNat l.length<=Int.ofNat l.length))=true:=by simp only [qc,qe,Int.ofNat_eq_natCast]; omega
  have gk':decide ((k:Int)<=Int.ofNat l.length)=true:=by simp only [qe,Int.ofNat_eq_natCast]; omega
  have gk1':decide (((k+1:Nat):Int)<=Int.ofNat l.length)=true:=by simp only [qe,Int.ofNat_eq_natCast]; omega
  have gk1:(decide ((0:Int)<=((k+1:Nat):Int))&&decide (((k+1:Nat):Int)<=Int.ofNat l.length)&&decide (Int.ofNat l.length<=Int.ofNat l.length))=true:=by simp only [qc,qe,Int.ofNat_eq_natCast]; omega
  have gb:∀ x:Term,decide (((l.take k).length+[x].length)*32<=zG)=true:=λx=>by simp only [qe,List.length_take,List.length_singleton]; omega
  have gc:∀ (x:Term) (m:Nat),decide (((l.take k++[x]).length+(l.drop m).length)*32<=zG)=true:=λx m=>by simp only [qe,List.length_take,List.length_drop,qg,List.length_singleton]; omega
  by_cases hz:cT (l.getD k default) t=0
  ·have hz':zbA (zbo (l.getD k default).Fs) (zbo t.Fs)=0:=hz;simp only [hz,hz',if_true,decide_true,cond_true,gw,gp,ze4,Bool.true_and,gk1',Int.le_refl,decide_true,cond_true,Bool.and_self,gb,gc,Int.toNat_natCast,zBU,List.append_assoc,List.singleton_append]
  ·have hz':¬ zbA (zbo (l.getD k default).Fs) (zbo t.Fs)=0:=hz;simp only [hz,hz',if_false,decide_false,cond_false,cond_true,ze4,Bool.true_and,gk',Int.le_refl,decide_true,cond_true,Bool.and_self,gb,gc,List.append_assoc,List.singleton_append]
 ·have hk':k=l.length:=by omega
  have g3:decide ((k:Int)<Int.ofNat l.length)=false:=by simp [hk]
  have gk:(decide ((0:Int)<=(k:Int))&&decide ((k:Int)<=Int.ofNat l.length)&&decide (Int.ofNat l.length<=Int.ofNat l.length))=true:=by simp only [qc,qe,Int.ofNat_eq_natCast]; omega
  have gb:∀ x:Term,decide (((l.take k).length+[x].length)*32<=zG)=true:=λx=>by simp only [qe,List.length_take,List.length_singleton]; omega
  have gc:∀ (x:Term) (m:Nat),decide (((l.take k++[x]).length+(l.drop m).length)*32<=zG)=true:=λx m=>by simp only [qe,List.length_take,List.length_drop,qg,List.length_singleton]; omega
  have gk':decide ((k:Int)<=Int.ofNat l.length)=true:=by simp only [qe,Int.ofNat_eq_natCast]; omega
  simp only [g3,ze4,Bool.true_and,gk',Int.le_refl,decide_true,Bool.and_self,gb,gc,cond_true,cond_false];rw [zdc hk];simp [z6i,z6p]
theorem zbaH {d:Nat} (l:yC) (f:Fc) (hl:l.length<=1000000) (h:∀ x∈l,zdb (zo d) x.At) (hd:d<=99) (hc:∀ x∈l,0<=x.Exp/\x.Exp<=1000000) (ht:0<=f.Exp/\f.Exp<=1000000):zJy l f=(true,zHw f l):=by
 have hreach:zG=70368744177664:=rfl;unfold zJy zOl
 have hL:=zPz (W:=zMf) (z:=default) l (λx=>decide (cF x f<0)) (λk=>(l,(),(k:Int),())) (λ_=>(f,())) (λk=>(l,(k:Int),f))
  (λk hk H K D=>by
   show (ztD l k f).ev H K D=_;unfold ztD;simp only [At.eta,Wy.ev_i,Wy.ev_k,Wy.ev_h,Wy.ev_bn,Wy.ev_d,tT,hk,zvF (h _ (zl hk)) hd];rw [zB (by omega)]; rfl)
  (λH K D=>by
   show (ztD l l.length f).ev H K D=_;unfold ztD;simp only [Wy.ev_i,Wy.ev_k,tT,Nat.lt_irrefl]) (l.length+Int.toNat (0:Int)+f.At.Ag.length+f.At.Items.length+(1:Nat)) (by omega)
 have hL:zLT (l.length+Int.toNat (0:Int)+f.At.Ag.length+f.At.Items.length+(1:Nat)) l 0 f=_:=hL;rw [At.eta,show (FO.mk f.At f.Exp:Fc)=f from rfl,hL,zVq,z5N]
 have q1:=z7K l (λx=>decide (cF x f<0))
 have q2:=zVl (λx=>decide (cF x f<0)) l
 have q3:=zVb (λx=>decide (cF x f<0)) l
 generalize (l.takeWhile λx=>decide (cF x f<0)).length=k at q1 q2 q3 ⊢
 rw [<- q2, <- q3];have g1:(decide ((0:Int)<=(0:Int))&&decide ((0:Int)<=(k:Int))&&decide ((k:Int)<=Int.ofNat l.length))=true:=by simp only [qc,qe,Int.ofNat_eq_natCast]; omega
 have g2:decide ((0+(l.take k).length)*128<=zG)=true:=by simp only [qe,List.length_take]; omega
 have gb:∀ x:Fc,decide (((l.take k).length+[x].length)*128<=zG)=true:=λx=>by simp only [qe,List.length_take,List.length_singleton]; omega
 have gc:∀ (x:Fc) (m:Nat),decide (((l.take k++[x]).length+(l.drop m).length)*128<=zG)=true:=λx m=>by simp only [qe,List.length_take,List.length_drop,qg,List.length_singleton]; omega
 have gk:(decide ((0:Int)<=(k:Int))&&decide ((k:Int)<=Int.ofNat l.length)&&decide (Int.ofNat l.length<=Int.ofNat l.length))=true:=by simp only [qc,qe,Int.ofNat_eq_natCast]; omega
 have ef:(FO.mk f.At f.Exp:Fc)=f:=rfl;simp only [At.eta,ef,Wy.fin_i,Wy.fin_k,Wy.fin_bn,List.nil_append,Int.toNat_natCast,z0H,zBU,g1,g2,cond_true];by_cases hk:k<l.length
 ·have g3:decide ((k:Int)<Int.ofNat l.length)=true:=by simp [hk]
  have g5:(decide ((0:Int)<=(k:Int))&&decide ((k:Int)<Int.ofNat l.length))=true:=by rw [g3]; simp
  have hm:=zl hk;simp only [g3,ze4,Bool.and_self,cond_true,zvF (h _ hm) hd];rw [zbcS,zba2 hk];have gw:IntKind.i64.wrap ((k:Int)+1)=((k+1:Nat):Int):=zB (by omega)
  have gp:IntKind.i64.wrap ((l.getD k default).Exp+f.Exp)=(l.getD k default).Exp+f.Exp:=by have:=hc _ hm; exact zbM (by omega) (by omega)
  have gk':decide ((k:Int)<=Int.ofNat l.length)=true:=by simp only [qe,Int.ofNat_eq_natCast]; omega
  have gk1':decide (((k+1:Nat):Int)<=Int.ofNat l.length)=true:=by simp only [qe,Int.ofNat_eq_natCast]; omega
  have gk1:(decide ((0:Int)<=((k+1:Nat):Int))&&decide (((k+1:Nat):Int)<=Int.ofNat l.length)&&decide (Int.ofNat l.length<=Int.ofNat l.length))=true:=by simp only [qc,qe,Int.ofNat_eq_natCast]; omega
  by_cases hz:cF (l.getD k default) f=0
  ·have hz':z8 (zd4 (l.getD k default).At) (zd4 f.At)=0:=hz;by_cases hk3:f.At.Kind<3
   ·simp only [hz,hz',hk3,if_true,decide_true,cond_true,gw,gp,ze4,Bool.true_and,gk1',Int.le_refl,decide_true,cond_true,Bool.and_self,gb,gc,Int.toNat_natCast,zBU,List.append_assoc,List.singleton_append]
   ·simp only [hz,hz',hk3,if_true,if_false,decide_true,decide_false,cond_true,cond_false,gw,gp,ze4,Bool.true_and,gk1',Int.le_refl,decide_true,cond_true,Bool.and_self,gb,gc,Int.toNat_natCast,zBU,List.append_assoc,List.singleton_append]
  ·have hz':¬ z8 (zd4 (l.getD k default).At) (zd4 f.At)=0:=hz;simp only [hz,hz',if_false,decide_false,cond_false,cond_true,ze4,Bool.true_and,gk',Int.le_refl,decide_true,cond_true,Bool.and_self,gb,gc,List.append_assoc,List.singleton_append]
 ·have g3:decide ((k:Int)<Int.ofNat l.length)=false:=by simp [hk]
  have gk':decide ((k:Int)<=Int.ofNat l.length)=true:=by simp only [qe,Int.ofNat_eq_natCast]; omega
  simp only [g3,ze4,Bool.true_and,gk',Int.le_refl,decide_true,Bool.and_self,gb,gc,cond_true,cond_false];rw [zdc hk];simp [z6i,z6p]
theorem zbcd (n:Nat) (h:n<=4000000):zd1 (n:Int)=(true,[]):=by
 have hreach:zG=70368744177664:=rfl;unfold zd1 zmK;have e0:IntKind.i64.wrap ((0:Int) - 0)=0:=rfl;have e1:IntKind.i64.wrap ((n:Int) - 0)=(n:Int):=by rw [zbM (by omega) (by omega)]; omega
 have e2:decide ((n:Int)<0)=false:=decide_eq_false (by omega)
 rw [Wy.fin_i,e2,cond_false,e0,e1];by_cases hn:(n:Int)>0
 ·have e3:(true&&(decide ((n:Int)*Int.ofNat (32:Nat)<=Int.ofNat zG)&&(decide ((n:Int)<=Int.ofNat zG)&& !Nat.beq (2:Nat) (0:Nat))))=true:=by
   simp only [qc,qe,Int.ofNat_eq_natCast];exact ⟨trivial,by rw [hreach]; omega,by rw [hreach]; omega,rfl⟩
  rw [Wy.fin_i,decide_eq_true hn,cond_true,Wy.fin_i,e3,cond_true,Wy.fin_k];simp
 ·rw [Wy.fin_i,decide_eq_false hn]; rfl
theorem z9Q (ls:yA) (hn:ls.length<=10) (h:∀ l∈ls,l.length<=300000):zdF ls=(true,ls.flatten):=by
 have hreach:zG=70368744177664:=rfl;unfold zdF zlP;have e:∀ l:yB,l∈ls->l.length<=300000:=h
 have h1:=zcD (W:=zgw) (z:=default) (l:=ls) (λi (n:Nat)=>(ls,(n:Int),ls,(ls.length:Int),(i:Int),())) (λ_ _=>()) (λy n=>.inl (n+y.length)) (λn=>(ls,(n:Int))) (λi n=>n<=i*300000)
  (λi n hi hI=>.inl ⟨_,rfl,by have:=e _ (zl hi); omega,λH K D=>by
   show (zcY ls n ls ls.length i).ev H K D=_;unfold zcY;have hle:=e _ (zl hi);have hw:IntKind.i64.wrap ((n:Int)+((ls.getD i default).length:Int))=((n+(ls.getD i default).length:Nat):Int):=zmt (by omega)
   simp only [Wy.ev_i,Wy.ev_k,Wy.ev_h,Wy.ev_bn,Wy.ev_d,tT,hi,hw];have h0:decide (((n+(ls.getD i default).length:Nat):Int)<0)=false:=decide_eq_false (by omega)
   rw [h0,zB (by omega)]; rfl⟩)
  (λn hI H K D=>by
   show (zcY ls n ls ls.length ls.length).ev H K D=_;unfold zcY;simp only [Wy.ev_i,Wy.ev_k,tT,Nat.lt_irrefl]) (ls.length+Int.toNat (0:Int)+ls.length+(Int.ofNat ls.length).toNat +Int.toNat (0:Int)+(1:Nat)) 0 0 (by omega) (by omega) (by omega)
 rw [List.drop_zero,zcB] at h1;have h1:zlp (ls.length+Int.toNat (0:Int)+ls.length+(Int.ofNat ls.length).toNat +Int.toNat (0:Int)+(1:Nat)) ls 0 ls (Int.ofNat ls.length) 0=_:=h1
 have hb:∀ (r:yA) (n:Nat),(∀ l∈r,l.length<=300000)->r.foldl (λn (y:yB)=>n+y.length) n<=n+r.length*300000:=λr=>by
  induction r with
  | nil=>intro n _; simp
  | cons y r ih=>
   intro n hr;have q1:=ih (n+y.length) λl hl=>hr l (by simp [hl])
   have q2:=hr y (by simp)
   rw [List.foldl_cons,qf]; omega
 have hsz:=hb ls 0 h
 have h2:=zcD (W:=zgf) (z:=default) (l:=ls) (λi (out:yB)=>((),ls,(ls.length:Int),(i:Int),())) (λ_ out=>(out,())) (λy out=>.inl (out++y)) (λout=>out) (λi out=>out.length<=i*300000)
  (λi out hi hI=>.inl ⟨_,rfl,by have:=e _ (zl hi); simp only [qg]; omega,λH K D=>by
   show (zcU ls ls.length i out).ev H K D=_;unfold zcU;have hle:=e _ (zl hi);have hr:decide ((out.length+(ls.getD i default).length)*32<=zG)=true:=by simp only [qe]; omega
   simp only [Wy.ev_i,Wy.ev_k,Wy.ev_h,Wy.ev_bn,Wy.ev_d,tT,hi,hr];rw [zB (by omega)]⟩)
  (λout hI H K D=>by
   show (zcU ls ls.length ls.length out).ev H K D=_;unfold zcU;simp only [Wy.ev_i,Wy.ev_k,tT,Nat.lt_irrefl]) (ls.length+(Int.ofNat ls.length).toNat +Int.toNat (0:Int)+([]:yB).length+(1:Nat)) 0 [] (by omega) (by omega) (by simp)
 rw [List.drop_zero,zcB] at h2;have h2:zk8 (ls.length+(Int.ofNat ls.length).toNat +Int.toNat (0:Int)+([]:yB).length+(1:Nat)) ls (Int.ofNat ls.length) 0 []=_:=h2
 have hf:∀ (r:yA) (out:yB),r.foldl (λout y=>out++y) out=out++r.flatten:=λr=>by
  induction r with
  | nil=>intro out; simp
  | cons y r ih=>intro out; rw [List.foldl_cons,ih,List.flatten_cons,List.append_assoc]
 rw [Wy.fin_bn,h1,cond_true];simp only [Wy.fin_bn,zbcd _ (show ls.foldl (λn (y:yB)=>n+y.length) 0<=4000000 by have:=Nat.mul_le_mul hn (Nat.le_refl 300000); omega),cond_true,h2,Wy.fin_k]
 rw [hf]; simp
theorem zbdl (n:Nat) (h:n<=4000000):zem (n:Int)=(true,[]):=by
 have hreach:zG=70368744177664:=rfl;unfold zem znb;have e0:IntKind.i64.wrap ((0:Int) - 0)=0:=rfl;have e1:IntKind.i64.wrap ((n:Int) - 0)=(n:Int):=by rw [zbM (by omega) (by omega)]; omega
 have e2:decide ((n:Int)<0)=false:=decide_eq_false (by omega)
 rw [Wy.fin_i,e2,cond_false,e0,e1];by_cases hn:(n:Int)>0
 ·have e3:(true&&(decide ((n:Int)*Int.ofNat (128:Nat)<=Int.ofNat zG)&&(decide ((n:Int)<=Int.ofNat zG)&& !Nat.beq (11:Nat) (0:Nat))))=true:=by
   simp only [qc,qe,Int.ofNat_eq_natCast];exact ⟨trivial,by rw [hreach]; omega,by rw [hreach]; omega,rfl⟩
  rw [Wy.fin_i,decide_eq_true hn,cond_true,Wy.fin_i,e3,cond_true,Wy.fin_k];simp
 ·rw [Wy.fin_i,decide_eq_false hn]; rfl
theorem z9v (ls:List (yC)) (hn:ls.length<=10) (h:∀ l∈ls,l.length<=300000):zdR ls=(true,ls.flatten):=by
 have hreach:zG=70368744177664:=rfl;unfold zdR zml;have e:∀ l:yC,l∈ls->l.length<=300000:=h
 have h1:=zcD (W:=zgZ) (z:=default) (l:=ls) (λi (n:Nat)=>(ls,(n:Int),ls,(ls.length:Int),(i:Int),())) (λ_ _=>()) (λy n=>.inl (n+y.length)) (λn=>(ls,(n:Int))) (λi n=>n<=i*300000)
  (λi n hi hI=>.inl ⟨_,rfl,by have:=e _ (zl hi); omega,λH K D=>by
   show (zc7 ls n ls ls.length i).ev H K D=_;unfold zc7;have hle:=e _ (zl hi);have hw:IntKind.i64.wrap ((n:Int)+((ls.getD i default).length:Int))=((n+(ls.getD i default).length:Nat):Int):=zmt (by omega)
   simp only [Wy.ev_i,Wy.ev_k,Wy.ev_h,Wy.ev_bn,Wy.ev_d,tT,hi,hw];have h0:decide (((n+(ls.getD i default).length:Nat):Int)<0)=false:=decide_eq_false (by omega)
   rw [h0,zB (by omega)]; rfl⟩)
  (λn hI H K D=>by
   show (zc7 ls n ls ls.length ls.length).ev H K D=_;unfold zc7;simp only [Wy.ev_i,Wy.ev_k,tT,Nat.lt_irrefl]) (ls.length+Int.toNat (0:Int)+ls.length+(Int.ofNat ls.length).toNat +Int.toNat (0:Int)+(1:Nat)) 0 0 (by omega) (by omega) (by omega)
 rw [List.drop_zero,zcB] at h1;have h1:zlS (ls.length+Int.toNat (0:Int)+ls.length+(Int.ofNat ls.length).toNat +Int.toNat (0:Int)+(1:Nat)) ls 0 ls (Int.ofNat ls.length) 0=_:=h1
 have hb:∀ (r:List (yC)) (n:Nat),(∀ l∈r,l.length<=300000)->r.foldl (λn (y:yC)=>n+y.length) n<=n+r.length*300000:=λr=>by
  induction r with
  | nil=>intro n _; simp
  | cons y r ih=>
   intro n hr;have q1:=ih (n+y.length) λl hl=>hr l (by simp [hl])
   have q2:=hr y (by simp)
   rw [List.foldl_cons,qf]; omega
 have hsz:=hb ls 0 h
 have h2:=zcD (W:=zgv) (z:=default) (l:=ls) (λi (out:yC)=>((),ls,(ls.length:Int),(i:Int),())) (λ_ out=>(out,())) (λy out=>.inl (out++y)) (λout=>out) (λi out=>out.length<=i*300000)
  (λi out hi hI=>.inl ⟨_,rfl,by have:=e _ (zl hi); simp only [qg]; omega,λH K D=>by
   show (zc0 ls ls.length i out).ev H K D=_;unfold zc0;have hle:=e _ (zl hi);have hr:decide ((out.length+(ls.getD i default).length)*128<=zG)=true:=by simp only [qe]; omega
   simp only [Wy.ev_i,Wy.ev_k,Wy.ev_h,Wy.ev_bn,Wy.ev_d,tT,hi,hr];rw [zB (by omega)]⟩)
  (λout hI H K D=>by
   show (zc0 ls ls.length ls.length out).ev H K D=_;unfold zc0;simp only [Wy.ev_i,Wy.ev_k,tT,Nat.lt_irrefl]) (ls.length+(Int.ofNat ls.length).toNat +Int.toNat (0:Int)+([]:yC).length+(1:Nat)) 0 [] (by omega) (by omega) (by simp)
 rw [List.drop_zero,zcB] at h2;have h2:zlv (ls.length+(Int.ofNat ls.length).toNat +Int.toNat (0:Int)+([]:yC).length+(1:Nat)) ls (Int.ofNat ls.length) 0 []=_:=h2
 have hf:∀ (r:List (yC)) (out:yC),r.foldl (λout y=>out++y) out=out++r.flatten:=λr=>by
  induction r with
  | nil=>intro out; simp
  | cons y r ih=>intro out; rw [List.foldl_cons,ih,List.flatten_cons,List.append_assoc]
 rw [Wy.fin_bn,h1,cond_true];simp only [Wy.fin_bn,zbdl _ (show ls.foldl (λn (y:yC)=>n+y.length) 0<=4000000 by have:=Nat.mul_le_mul hn (Nat.le_refl 300000); omega),cond_true,h2,Wy.fin_k]
 rw [hf]; simp
theorem zFJ {d:Nat} (hd:d<=99):∀ (n:Nat) (a b out:yC),a.length+b.length<n->a.length+b.length+out.length<=1000000->(∀ x∈a,zdb (zo d) x.At/\0<=x.Exp/\x.Exp<=1000000)->(∀ x∈b,0<=x.Exp/\x.Exp<=1000000)->
  ∃ a' b' out',zyi n a b out=(true,(a',b',out'))/\out'++(a'++b')=out++zbB a b/\a'.length<=a.length/\b'.length<=b.length/\out'.length<=out.length+a.length+b.length
 | 0,a,b,out,h,_,_,_=>by omega
 | n+1,a,b,out,h,hl,ha,hb=>by
  have hreach:zG=70368744177664:=rfl;show ∃ a' b' out',(zym a b out).ev (λx y=>zyi n x.1 x.2.1 y.1) (λr=>(true,r)) (false,default)=_/\_
  unfold zym
  match a,b,h,hl,ha,hb with
  | [],b,h,hl,ha,hb=>exact ⟨[],b,out,rfl,by rw [zbB]; simp,Nat.le_refl _,Nat.le_refl _,by omega⟩
  | x::a,[],h,hl,ha,hb=>
   have e1:decide (Int.ofNat (x::a).length>0)=true:=by simp
   refine ⟨x::a,[],out, ?_,by rw [zbB]; simp,Nat.le_refl _,Nat.le_refl _,by omega⟩
   rw [Wy.ev_i,e1,cond_true]; rfl
  | x::a,y::b,h,hl,ha,hb=>
   have hx:=ha x (by simp)
   have hy:=hb y (by simp)
   simp only [qf] at h hl;have e1:decide (Int.ofNat (x::a).length>0)=true:=by simp
   have e2:decide (Int.ofNat (y::b).length>0)=true:=by simp
   have e3:(decide ((0:Int)<=0)&&decide ((0:Int)<Int.ofNat (x::a).length))=true:=by simp
   have e4:(decide ((0:Int)<=0)&&decide ((0:Int)<Int.ofNat (y::b).length))=true:=by simp
   have e5:(x::a).getD (Int.toNat 0) default=x:=rfl;have e6:(y::b).getD (Int.toNat 0) default=y:=rfl;have e7:∀ z:Fc,decide ((out.length+[z].length)*128<=zG)=true:=λz=>by simp only [qe,List.length_singleton]; omega
   have e8:(decide ((0:Int)<=1)&&decide ((1:Int)<=Int.ofNat (x::a).length)&&decide (Int.ofNat (x::a).length<=Int.ofNat (x::a).length))=true:=by simp; omega
   have e9:(decide ((0:Int)<=1)&&decide ((1:Int)<=Int.ofNat (y::b).length)&&decide (Int.ofNat (y::b).length<=Int.ofNat (y::b).length))=true:=by simp; omega
   have e10:List.take ((Int.ofNat (x::a).length).toNat - Int.toNat 1) (List.drop (Int.toNat 1) (x::a))=a:=by rw [show Int.toNat 1=1 from rfl,zBU]; rfl
   have e11:List.take ((Int.ofNat (y::b).length).toNat - Int.toNat 1) (List.drop (Int.toNat 1) (y::b))=b:=by rw [show Int.toNat 1=1 from rfl,zBU]; rfl
   have ea:∀ z∈a,zdb (zo d) z.At/\0<=z.Exp/\z.Exp<=1000000:=λz hz=>ha z (by simp [hz])
   have eb:∀ z∈b,0<=z.Exp/\z.Exp<=1000000:=λz hz=>hb z (by simp [hz])
   have ex:(FO.mk x.At x.Exp:Fc)=x:=rfl;have ey:(FO.mk y.At y.Exp:Fc)=y:=rfl;simp only [Wy.ev_i,Wy.ev_k,Wy.ev_h,Wy.ev_bn,Wy.ev_d,e1,e2,e3,e4,e5,e6,e7,e8,e9,e10,e11,cond_true,At.eta,zwA hx.1 hd,zZ1,ex,ey];rw [zbB];have hcf:cF x y=z8 (zd4 x.At) (zd4 y.At):=rfl;rw [<- hcf];by_cases h1:cF x y<0
   ·simp only [h1,decide_true,cond_true,if_true];obtain ⟨a',b',out',r1,r2,r3,r4,r5⟩:=zFJ hd n a (y::b) (out++[x]) (by simp only [qf]; omega) (by simp only [qf,qg,List.length_nil]; omega) ea hb
    refine ⟨a',b',out',r1,by rw [r2]; simp,by simp only [qf]; omega,by simpa using r4,by simp only [qf,qg,List.length_nil] at r5 ⊢; omega⟩
   ·by_cases h2:0<cF x y
    ·have h2':cF x y>0:=h2;simp only [h1,h2,h2',decide_true,decide_false,cond_true,cond_false,if_true,if_false];obtain ⟨a',b',out',r1,r2,r3,r4,r5⟩:=zFJ hd n (x::a) b (out++[y]) (by simp only [qf]; omega) (by simp only [qf,qg,List.length_nil]; omega) ha eb
     refine ⟨a',b',out',r1,by rw [r2]; simp,by simpa using r3,by simp only [qf]; omega,by simp only [qf,qg,List.length_nil] at r5 ⊢; omega⟩
    ·have h2':¬ cF x y>0:=h2;have hw:IntKind.i64.wrap (x.Exp+y.Exp)=x.Exp+y.Exp:=zbM (by omega) (by omega)
     simp only [h1,h2,h2',decide_false,cond_false,if_false,hw];have hk:(x.At.Kind==3||x.At.Kind==4)=decide (x.At.Kind=3\/x.At.Kind=4):=by rw [zhD,zhD, <- Bool.decide_or]
     rw [hk];by_cases h3:x.At.Kind=3\/x.At.Kind=4
     ·simp only [h3,decide_true,Bool.not_true,cond_false,if_true];obtain ⟨a',b',out',r1,r2,r3,r4,r5⟩:=zFJ hd n a b (out++[x]) (by omega) (by simp only [qg,qf,List.length_nil]; omega) ea eb
      refine ⟨a',b',out',r1,by rw [r2]; simp,by simp only [qf]; omega,by simp only [qf]; omega,by simp only [qf,qg,List.length_nil] at r5 ⊢; omega⟩
     ·simp only [h3,decide_false,Bool.not_false,cond_true,if_false];obtain ⟨a',b',out',r1,r2,r3,r4,r5⟩:=zFJ hd n a b (out++[⟨x.At,x.Exp+y.Exp⟩]) (by omega) (by simp only [qg,qf,List.length_nil]; omega) ea eb
      refine ⟨a',b',out',r1,by rw [r2]; simp,by simp only [qf]; omega,by simp only [qf]; omega,by simp only [qf,qg,List.length_nil] at r5 ⊢; omega⟩
theorem zba8 {d:Nat} (hd:d<=99) (a b:yC) (hl:a.length+b.length<=100000) (ha:∀ x∈a,zdb (zo d) x.At/\0<=x.Exp/\x.Exp<=1000000) (hb:∀ x∈b,0<=x.Exp/\x.Exp<=1000000):zop a b=(true,zbB a b):=by
 unfold zop zHP;obtain ⟨a',b',out',r1,r2,r3,r4,r5⟩:=zFJ hd (a.length+b.length+(0:Nat)+(1:Nat)) a b [] (by omega) (by simp; omega) ha hb
 rw [Wy.fin_bn,r1,cond_true]
 have hc:=z9v [out',a',b'] (by simp) (λl hl'=>by
  simp only [qd,List.not_mem_nil,or_false] at hl';simp only [List.length_nil] at r5;rcases hl' with rfl | rfl | rfl <;>omega)
 simp only [Wy.fin_bn,hc,cond_true,Wy.fin_k];congr 1
 simpa using r2
theorem z3z {a b:Int} (ha:1<=a/\a<=1152921504606846976) (hb:1<=b/\b<=1152921504606846976):zrd a b=(true,zzg a b)/\zMl a b=(true,zzg a b):=by
 obtain ⟨h1,h2⟩:=zYw ha hb;have h0:(!decide (b=(0:Int)))=true:=by rw [decide_eq_false (by omega)]; rfl
 have hq:0<=Int.tdiv 1152921504606846976 b/\Int.tdiv 1152921504606846976 b<=1152921504606846976:=by
  rw [Int.tdiv_eq_ediv_of_nonneg (by omega)]
  exact ⟨Int.ediv_nonneg (by omega) (by omega),Int.ediv_le_self _ (by omega)⟩
 have hw:IntKind.i64.wrap (Int.tdiv 1152921504606846976 b)=Int.tdiv 1152921504606846976 b:=zbM (by omega) (by omega)
 have key:∀ w:Int,(w=if Int.tdiv 1152921504606846976 b<a then 1152921504606846976 else IntKind.i64.wrap (a*b))->w=zzg a b:=λw e=>by
  rw [e]; unfold zzg;split
  ·rfl
  ·rename_i hn;have h3:=h2 hn;have h4:=Int.mul_nonneg (show 0<=a by omega) (show 0<=b by omega)
   exact zbM (by omega) (by omega)
 constructor
 ·unfold zrd zF0;rw [Wy.fin_i,h0,cond_true,Wy.fin_i,hw,Wy.fin_k,Wy.fin_k];by_cases hc:Int.tdiv 1152921504606846976 b<a
  ·rw [decide_eq_true hc,cond_true]; exact congrArg (Prod.mk true) (key _ (by rw [if_pos hc]))
  ·rw [decide_eq_false hc,cond_false]; exact congrArg (Prod.mk true) (key _ (by rw [if_neg hc]))
 ·unfold zMl zRb;rw [Wy.fin_i,h0,cond_true,Wy.fin_i,hw,Wy.fin_k,Wy.fin_k];by_cases hc:Int.tdiv 1152921504606846976 b<a
  ·rw [decide_eq_true hc,cond_true]; exact congrArg (Prod.mk true) (key _ (by rw [if_pos hc]))
  ·rw [decide_eq_false hc,cond_false]; exact congrArg (Prod.mk true) (key _ (by rw [if_neg hc]))
theorem zu6 {τ:Type} [Inhabited τ] {R:τ->τ->Prop} (ht:∀ x y z,R x y->R y z->R x z):∀ l:List τ,(∀ k,0<k->k<l.length->R (l.getD (k - 1) default) (l.getD k default))->l.Pairwise R
 | [],_=>.nil
 | [x],_=>by simp
 | x::y::r,h=>by
  have h1:R x y:=h 1 (by omega) (by simp)
  have h2:=zu6 ht (y::r) λk hk hl=>by
   have:=h (k+1) (by omega) (by simpa using hl)
   obtain ⟨j,rfl⟩:∃ j,k=j+1:=⟨k - 1,by omega⟩
   exact this
  refine qi.2 ⟨λz hz=> ?_,h2⟩
  rcases qd.1 hz with rfl | hz
  ·exact h1
  ·exact ht x y z h1 ((qi.1 h2).1 z hz)
def GF (f:Fc):Prop:=(zef (zbr 9) f.At=true/\zgS f.At/\f.At.Items.length<=1024)/\1<=f.Exp/\f.Exp<=1000000
def GT (t:Term):Prop:=cOK t/\t.Fs.length<=1000/\∀ f∈t.Fs,GF f
def VT (t:Term):Prop:=GT t/\Srf t.Fs/\t.Fs.length<=64/\∀ f∈t.Fs,eOK f/\f.Exp<=64
theorem zyY {a:yB} (h:zR a=true) (hw:zg5 a):Srs a/\a.length<=512/\∀ t∈a,VT t:=by
 have h9:=zXn h (Nat.le_refl 9);rw [zX8] at h;obtain ⟨w1,w2,w3,w4⟩:=zvI (zGt h);have hall:=h;simp only [zxp,qc] at hall;refine ⟨zu6 (R:=λx y=>cT x y<0) (λx y z h1 h2=>zJt h1 h2) a λk hk hl=> ?_,w1,λt ht=> ?_⟩
 ·have:=zdB.1 hall.2 k (by omega) (by omega)
  simp only [zCE,qc,Bool.or_eq_true,qe] at this;rcases this.1.2 with e | e
  ·omega
  ·exact e
 ·obtain ⟨hc,hok⟩:=zvt h ht;obtain ⟨l1,l2⟩:=w4 t ht;have hwt:=zoC (zvJ (zs8 hw t ht)).2.1;refine ⟨⟨hc,by omega,λf hf=> ?_⟩,zu6 (R:=λx y=>cF x y<0) (λx y z h1 h2=>zEV h1 h2) _ λk hk hl=> ?_,l1,λf hf=> ?_⟩
  ·obtain ⟨⟨e1,_⟩,hv⟩:=zpH hok hf;exact ⟨⟨by rw [z8c (Nat.le_refl 9)]; exact hv,(zrm (hwt f hf)).1,(l2 f hf).2⟩,e1,by have:=(l2 f hf).1; omega⟩
  ·have:=zdB.1 hok k (by omega) (by omega)
   simp only [zNq,qc,Bool.or_eq_true,qe] at this;rcases this.1.2 with e | e
   ·omega
   ·exact e
  ·obtain ⟨⟨_,e2⟩,hv⟩:=zpH hok hf;exact ⟨⟨zDs hv,e2⟩,(l2 f hf).1⟩
theorem zvS {m:Nat} {x:At} (h:zef (zbr m) x=true) (hi:x.Items.length<=1024):zdb (zo 9) x:=by
 cases zdz.1 h with
 | var r h=>exact ⟨⟨by simp,by simp,by show (ByteArray.mk #[]).size<=_; decide⟩,λa ha=>(by cases ha),λw hw=>(by cases hw)⟩
 | mon b c hb hc _ _ _=>
  refine ⟨⟨by simp,by simp,by show (ByteArray.mk #[]).size<=_; decide⟩,λy hy=> ?_,λw hw=>(by cases hw)⟩
  simp only [qd,List.not_mem_nil,or_false] at hy;rcases hy with rfl | rfl
  ·exact (zfk hb).1
  ·exact (zfk hc).1
 | del b hb _ _ _=>
  refine ⟨⟨by simp,by simp,by show (ByteArray.mk #[]).size<=_; decide⟩,λy hy=> ?_,λw hw=>(by cases hw)⟩
  rw [qh] at hy; subst hy; exact (zfk hb).1
 | abs b hb _ _=>
  refine ⟨⟨by simp,by simp,by show (ByteArray.mk #[]).size<=_; decide⟩,λy hy=> ?_,λw hw=>(by cases hw)⟩
  rw [qh] at hy; subst hy; exact (zfk hb).1
 | tst f l o b hl hv hs hf=>
  obtain ⟨_,hb,hit⟩:=ztC hf;simp only at hi;exact ⟨⟨by simp,by simp only; omega,by have:=zvx hb; simp only; omega⟩,λa ha=>(by cases ha),λw hw=>⟨by have:=zvx (hit w hw).1; omega,(zfk (hv w hw).1).1⟩⟩
theorem GT.fine {t:Term} (h:GT t):zhd (zo 9) t.Fs:=⟨by have:=h.2.1; omega,λf hf=>zvS (h.2.2 f hf).1.1 (h.2.2 f hf).1.2.2⟩
theorem GF.gF {f:Fc} (h:GF f):gF (zbr 9) f:=⟨h.1.1,h.1.2.1,by constructor <;>(have:=h.2; omega)⟩
theorem GT.text {t:Term} (h:GT t):zrn t.Fs=(true,bs (txL t.Fs)):=
 (z4n 1000).2.2 9 t.Fs h.2.1 (λf hf=>⟨(h.2.2 f hf).1.1,(h.2.2 f hf).1.2.1,(h.2.2 f hf).1.2.2,(h.2.2 f hf).gF.2.2⟩) (by omega)
theorem GT.inj {s t:Term} (hs:GT s) (ht:GT t) (h:bs (txL s.Fs)=bs (txL t.Fs)):s.Fs=t.Fs:=
 zbbs (λf hf=>(hs.2.2 f hf).gF) (λf hf=>(ht.2.2 f hf).gF) (zbcL h)
def zp5:Int->yB->List (Go.Value×Int)
 | _,[]=>[]
 | i,t::r=>(.string (bs (txL t.Fs)),i)::zp5 (i+1) r
def zGY (k:ByteArray):yB->Option Nat
 | []=>none
 | t::r=>if k=bs (txL t.Fs) then some 0 else (zGY k r).map (· +1)
theorem zLR (k:ByteArray) (t:Term) (r:yB):zGY k (t::r)=if k=bs (txL t.Fs) then some 0 else (zGY k r).map (· +1):=rfl
theorem z8V (a b:ByteArray):zl6 (.string a) (.string b)=decide (a=b):=by
 cases a with | mk x=>cases b with | mk y=>
 show (x==y)=_;by_cases h:x=y
 ·subst h; simp
 ·have:(x==y)=false:=by rw [beq_eq_false_iff_ne]; exact h
  rw [this]; simp [h]
theorem z3e (k:ByteArray):∀ (o:yB) (i:Int),z6L (.string k) (zp5 i o)=(zGY k o).isSome
 | [],i=>rfl
 | t::r,i=>by
  show (bif zl6 (.string k) (.string (bs (txL t.Fs))) then true else z6L (.string k) (zp5 (i+1) r))=_
  rw [z8V,z3e k r,zLR];by_cases h:k=bs (txL t.Fs)
  ·rw [decide_eq_true h,if_pos h]; rfl
  ·rw [decide_eq_false h,if_neg h]; cases zGY k r <;>rfl
theorem z4u (k:ByteArray):∀ (o:yB) (i:Int),zCX (.string k) (zp5 i o)=(zGY k o).map λj:Nat=>i+(j:Int)
 | [],i=>rfl
 | t::r,i=>by
  show (bif zl6 (.string k) (.string (bs (txL t.Fs))) then some i else zCX (.string k) (zp5 (i+1) r))=_
  rw [z8V,z4u k r,zLR];by_cases h:k=bs (txL t.Fs)
  ·rw [decide_eq_true h,if_pos h]; simp
  ·rw [decide_eq_false h,if_neg h];cases zGY k r with
   | none=>rfl
   | some j=>
    have e:i+1+(j:Int)=i+((j+1:Nat):Int):=by omega
    simp only [cond_false,Option.map_some,e]
theorem z3l (k:ByteArray) (x:Int):∀ (o:yB) (i:Int),zGY k o=none->z6M (.string k) x (zp5 i o)=zp5 i o++[(.string k,x)]
 | [],i,_=>rfl
 | t::r,i,h=>by
  rw [zLR] at h;by_cases hk:k=bs (txL t.Fs)
  ·rw [if_pos hk] at h; cases h
  ·rw [if_neg hk] at h;show (bif zl6 (.string k) (.string (bs (txL t.Fs))) then _ else (.string (bs (txL t.Fs)),i)::z6M (.string k) x (zp5 (i+1) r))=_
   rw [z8V,decide_eq_false hk,z3l k x r (i+1) (by cases hp:zGY k r with | none=>rfl | some j=>rw [hp] at h; cases h)]
   rfl
theorem z1j (t:Term):∀ (o:yB) (i:Int),zp5 i (o++[t])=zp5 i o++[(.string (bs (txL t.Fs)),i+(o.length:Int))]
 | [],i=>by simp [zp5]
 | x::r,i=>by
  have e:i+1+(r.length:Int)=i+((r.length+1:Nat):Int):=by omega
  simp only [List.cons_append,zp5,qf,z1j t r,e]
theorem z1E (y:Term):∀ (o:yB) (j:Nat) (i:Int),(o.getD j default).Fs=y.Fs->zp5 i (o.set j y)=zp5 i o
 | [],j,i,_=>rfl
 | x::r,0,i,h=>by simp only [List.set_cons_zero,zp5]; rw [show x.Fs=y.Fs from h]
 | x::r,j+1,i,h=>by simp only [List.set_cons_succ,zp5]; rw [z1E y r j (i+1) h]
theorem z5L {t:Term} (ht:GT t):∀ {o:yB},(∀ x∈o,GT x)->(match zGY (bs (txL t.Fs)) o with
  | some j=>j<o.length/\(o.getD j default).Fs=t.Fs/\znv t o=o.set j ⟨ztE (o.getD j default).Cf t.Cf,(o.getD j default).Fs⟩
  | none=>znv t o=o++[t])
 | [],_=>rfl
 | x::r,h=>by
  have ih:=z5L ht (o:=r) λy hy=>h y (by simp [hy])
  rw [zLR];unfold znv;by_cases hk:bs (txL t.Fs)=bs (txL x.Fs)
  ·have e:=GT.inj ht (h x (by simp)) hk
   rw [if_pos hk,if_pos e.symm];exact ⟨by simp,e.symm,rfl⟩
  ·have e:¬ x.Fs=t.Fs:=λe=>hk (by rw [e])
   rw [if_neg hk,if_neg e];cases hp:zGY (bs (txL t.Fs)) r with
   | none=>rw [hp] at ih; simp only [Option.map_none]; rw [ih]; rfl
   | some j=>
    rw [hp] at ih;obtain ⟨i1,i2,i3⟩:=ih;simp only [Option.map_some];exact ⟨by simp; exact i1,i2,by rw [i3]; rfl⟩
theorem z8p {t:Term} (ht:GT t) {o:yB} (ho:∀ x∈o,GT x):∀ x∈znv t o,GT x:=by
 induction o with
 | nil=>intro x hx; simp only [znv,qh] at hx; subst hx; exact ht
 | cons y r ih=>
  intro x hx;unfold znv at hx;split at hx
  ·rcases qd.1 hx with rfl | hx
   ·have:=ho y (by simp)
    exact ⟨z0W this.1.1 ht.1.1,this.2⟩
   ·exact ho x (by simp [hx])
  ·rcases qd.1 hx with rfl | hx
   ·exact ho x (by simp)
   ·exact ih (λz hz=>ho z (by simp [hz])) x hx
theorem zZV (t:Term):∀ o:yB,(znv t o).length<=o.length+1
 | []=>by simp [znv]
 | y::r=>by
  have:=zZV t r;unfold znv;split
  ·simp
  ·simp only [qf]; omega
theorem z8H (ts:yB) (hl:ts.length<=1000000) (h:∀ t∈ts,GT t) (n:Nat) (hn:ts.length<n):zuX n ts ts.length 0 [] []=(true,zLz ts):=by
 have hreach:zG=70368744177664:=rfl
 have h2:=zcD (W:=zu1) (z:=default) (l:=ts) (λi (out:yB)=>((),(),ts,(ts.length:Int),(i:Int),())) (λ_ out=>(zp5 0 out,out,())) (λt out=>.inl (znv t out)) (λout=>out) (λi out=>out.length<=i/\∀ t∈out,GT t)
  (λi out hi hI=>.inl ⟨_,rfl,⟨by have:=zZV (ts.getD i default) out; omega,z8p (h _ (zl hi)) hI.2⟩,λH K D=>by
   show (zkB ts ts.length i (zp5 0 out) out).ev H K D=_;unfold zkB;have ht:=h _ (zl hi);have hp:=z5L ht hI.2;have hhas:=z3e (bs (txL (ts.getD i default).Fs)) out 0;have hget:=z4u (bs (txL (ts.getD i default).Fs)) out 0;simp only [Wy.ev_i,Wy.ev_k,Wy.ev_h,Wy.ev_bn,Wy.ev_d,tT,hi,ht.text];rw [hhas,hget,zB (by omega)]
   cases hpos:zGY (bs (txL (ts.getD i default).Fs)) out with
   | none=>
    rw [hpos] at hp;have hb:decide ((out.length+[ts.getD i default].length)*32<=zG)=true:=by simp only [qe,List.length_singleton]; omega
    simp only [Option.isSome_none,cond_false,hb,cond_true];rw [z3l _ _ _ _ hpos,hp,z1j];simp
   | some j=>
    rw [hpos] at hp;obtain ⟨p1,p2,p3⟩:=hp;have hj:=hI.2 _ (zl p1);have hw:IntKind.i64.wrap ((out.getD j default).Cf+(ts.getD i default).Cf)=(out.getD j default).Cf+(ts.getD i default).Cf:=z59 ⟨by have:=hj.1.1; omega,hj.1.2⟩ ⟨by have:=ht.1.1; omega,ht.1.2⟩
    have e1:(0:Int)+(j:Int)=(j:Int):=by omega
    have e2:decide (j<out.length)=true:=decide_eq_true p1;simp only [Option.isSome_some,Option.map_some,Option.getD_some,e1,cond_true,tT,e2,hw];rw [p3,z1E ⟨ztE (out.getD j default).Cf (ts.getD i default).Cf,(out.getD j default).Fs⟩ out j 0 rfl];rfl⟩)
  (λout hI H K D=>by
   show (zkB ts ts.length ts.length (zp5 0 out) out).ev H K D=_;unfold zkB;simp only [Wy.ev_i,Wy.ev_k,tT,Nat.lt_irrefl]) n 0 [] (by omega) (by omega) ⟨by simp,λt ht=>by cases ht⟩
 rw [List.drop_zero,zcB] at h2;exact h2
theorem z5U:∀ (ts o:yB),(∀ t∈ts,GT t)->(∀ t∈o,GT t)->∀ x∈ts.foldl (λa t=>znv t a) o,GT x
 | [],o,_,ho=>ho
 | t::r,o,h,ho=>z5U r (znv t o) (λx hx=>h x (by simp [hx])) (z8p (h t (by simp)) ho)
theorem z0Q:∀ (ts o:yB),(ts.foldl (λa t=>znv t a) o).length<=o.length+ts.length
 | [],o=>by simp
 | t::r,o=>by
  have h1:=z0Q r (znv t o);have h2:=zZV t o;rw [List.foldl_cons,qf]; omega
theorem zYK (ts:yB) (hl:ts.length<=1000000) (h:∀ t∈ts,GT t):ziK ts=(true,zcJ [] ts):=by
 unfold ziK zCD;have hL:=z8H ts hl h (ts.length+(Int.ofNat ts.length).toNat +Int.toNat (0:Int)+(0:Nat)+(0:Nat)+(1:Nat)) (by omega)
 have hL:zuX (ts.length+(Int.ofNat ts.length).toNat +Int.toNat (0:Int)+(0:Nat)+(0:Nat)+(1:Nat)) ts (Int.ofNat ts.length) 0 [] []=_:=hL;rw [Wy.fin_bn,hL,cond_true];obtain ⟨hp,hd⟩:=z0L ts [] [] .nil .nil .nil;have hs:=zOg ts [] .nil;have hg:∀ x∈zLz ts,GT x:=z5U ts [] h λx hx=>by cases hx
 have hlen:(zLz ts).length<=1000000:=by have:=z0Q ts []; simp at this; exact Nat.le_trans this hl
 have e:∀ x∈zLz ts,∀ y,zbU x y=(true,cT x y):=λx hx y=>zwP (hg x hx).fine (by omega) y
 have ok:SortOK zbU (zLz ts):=by
  refine ⟨by omega,λx hx y _=>by rw [e x hx],λx hx=> ?_,λx hx y hy z hz h1 h2=> ?_,λx hx y hy z hz h1 h2=> ?_,λx hx y hy h1 h2=> ?_⟩
  ·rw [e x hx]; have:=zzH (x:=x) (y:=x) rfl; simp only; omega
  ·rw [e x hx] at h1 ⊢; rw [e y hy] at h2;exact zJt h1 h2
  ·rw [e x hx] at h1 ⊢; rw [e y hy] at h2;simp only at h1 h2 ⊢;have a1:=zB0 x y;have a2:=zB0 y z;have a3:=zB0 x z;have:=zHW (zbo z.Fs) (zbo y.Fs) (zbo x.Fs) (show cT z y<=0 by omega) (show cT y x<=0 by omega)
   have:cT z x<=0:=this;omega
  ·rw [e x hx] at h1; rw [e y hy] at h2;simp only at h1 h2;have a1:=zB0 x y;have hz:x.Fs=y.Fs:=zOu (by omega)
   by_cases hxy:x=y
   ·exact hxy
   ·exfalso
    -- two terms with the same factors are one
    have hdd:Dst (zLz ts):=hd;have:=List.pairwise_iff_getElem.1 hdd;obtain ⟨i,hi,ei⟩:=List.mem_iff_getElem.1 hx;obtain ⟨j,hj,ej⟩:=List.mem_iff_getElem.1 hy;rcases Nat.lt_trichotomy i j with hij | hij | hij
    ·exact this i j hi hj hij (by rw [ei,ej]; exact hz)
    ·subst hij; exact hxy (ei.symm.trans ej)
    ·exact this j i hj hi hij (by rw [ei,ej]; exact hz.symm)
 unfold zbE z4m;simp only [Wy.fin_bn,Wy.fin_k,decide_eq_true ok,cond_true];congr 1;refine (ok.unique (hp:(zcJ [] ts).Perm (zLz ts)) ?_).symm;refine hs.imp_of_mem λ{x y} hx hy hxy=> ?_
 rw [e y ((hp:(zcJ [] ts).Perm (zLz ts)).mem_iff.1 hy)];have:=zB0 x y;simp only; omega
mutual
theorem z40:∀ x:At,zfq x<=zEW x
 | ⟨_,_,a,_,i,_,_⟩=>by
  rw [zfq,zEW];have h1:=zWr a;have h2:=zSI i;omega
theorem zNG:∀ l:yC,zbz l<=zhL l
 | []=>by rw [zbz,zhL]; exact Nat.le_refl _
 | ⟨x,_⟩::r=>by
  rw [zbz,zhL];have h1:=z40 x;have h2:=zNG r;omega
theorem zIp:∀ l:yB,zM l<=zex l
 | []=>by rw [zM,zex]; exact Nat.le_refl _
 | ⟨_,fs⟩::r=>by
  rw [zM,zex];have h1:=zNG fs;have h2:=zIp r;omega
theorem zWr:∀ l:yA,zfw l<=zqI l
 | []=>by rw [zfw,zqI]; exact Nat.le_refl _
 | a::r=>by
  rw [zfw,zqI];have h1:=zIp a;have h2:=zWr r;omega
theorem zSI:∀ l:yD,zc9 l<=l.length+zln l
 | []=>by rw [zc9,zln]; exact Nat.zero_le _
 | ⟨_,a⟩::r=>by
  rw [zc9,zln];have h1:=zIp a;have h2:=zSI r;simp only [qf];omega
end
theorem z9u (d:Nat):zo (d+1) []:=⟨by simp,λt ht=>by cases ht⟩
def zQ9 (a:yB) (b:yB):Wy0 (yB×Int):=.bn (zkd a) λr3=>.i (!r3) (.k ([],1)) (.bn (zkd b) λr2=>.i (!r2) (.k ([],1)) (.i (Int.ofNat b.length==0) (.k (a,0)) (.i (Int.ofNat a.length==0) (.k ([],0)) (.bn (zDG a b) λr1=>.i (r1) (.k ([],0)) (.bn (ztx (zmY (At.mk 1 (RowID.mk 0 0) [a,b] 0 [] 0 (Value.mk 0 0 (ByteArray.mk #[])))).2) λr0=>.k (r0.1,r0.2))))))
def zWa (a:yB) (b:yB):=(zQ9 a b).fin default
def zRy (a:yB):Wy0 (yB×Int):=.bn (zkd a) λr4=>.i (!r4) (.k ([],1)) (.i (Int.ofNat a.length==0) (.k (a,0)) (.bn (zyo a) λr3=>.i (r3) (.k (a,0)) (.i (Int.ofNat a.length==1) (.bn (zmB a) λr1=>.i (r1) (.k (zUR.2,0)) (.bn (ztx (zmY (At.mk 2 (RowID.mk 0 0) [a] 0 [] 0 (Value.mk 0 0 (ByteArray.mk #[])))).2) λr0=>.k (r0.1,r0.2))) (.bn (ztx (zmY (At.mk 2 (RowID.mk 0 0) [a] 0 [] 0 (Value.mk 0 0 (ByteArray.mk #[])))).2) λr2=>.k (r2.1,r2.2)))))
def zWq (a:yB):=(zRy a).fin default
def zNL (a:yB):Wy0 (yB×Int):=.bn (zkd a) λr2=>.i (!r2) (.k ([],1)) (.i (Int.ofNat a.length==0) (.k (zUR.2,0)) (.bn (zmB a) λr1=>.i (r1) (.k ([],0)) (.bn (ztx (zmY (At.mk 3 (RowID.mk 0 0) [a] 0 [] 0 (Value.mk 0 0 (ByteArray.mk #[])))).2) λr0=>.k (r0.1,r0.2))))
def zSG (a:yB):=(zNL a).fin default
def zRg (n_:Int):Wy0 (yB):=.i (decide (n_<1)) (.k []) (.k [TO.mk (if 1152921504606846976<n_ then 1152921504606846976 else n_) []])
def zWA (n_:Int):=(zRg n_).fin default
theorem zOT {B:Nat}:∀ l:yC,(∀ f∈l,zfq f.At<=B)->zbz l<=l.length*B
 | [],_=>by rw [zjf]; simp
 | f::r,h=>by
  have h1:=h f (by simp)
  have h2:=zOT r λg hg=>h g (by simp [hg])
  rw [zc5,qf,Nat.add_mul]; omega
theorem zZr {B:Nat}:∀ l:yB,(∀ t∈l,1+t.Fs.length+zbz t.Fs<=B)->zM l<=l.length*B
 | [],_=>by rw [zv6]; simp
 | f::r,h=>by
  have h1:=h f (by simp)
  have h2:=zZr r λg hg=>h g (by simp [hg])
  rw [zgb,qf,Nat.add_mul]; omega
theorem z4A {l:yB} (hl:l.length<=1000000) (h:∀ t∈l,GT t):zo 10 l/\zM l<=4611686018427387904:=by
 refine ⟨⟨hl,λt ht=>(h t ht).fine⟩, ?_⟩
 refine Nat.le_trans (zZr (B:=4195330000) l λt ht=> ?_) (by have:=Nat.mul_le_mul hl (Nat.le_refl 4195330000); omega)
 have hg:=h t ht;have h1:=zOT (B:=4195328) t.Fs λf hf=>zWF (hg.2.2 f hf).1.1 (hg.2.2 f hf).1.2.2
 have:=Nat.mul_le_mul hg.2.1 (Nat.le_refl 4195328);have:=hg.2.1;omega
theorem z38 {t:Term} (ht:GT t) {l:yB} (hs:Srs l) (h:∀ x∈l,GT x):∀ x∈zhy t l,GT x:=λx hx=>by
 have hc:=z2r ht.1 (λy hy=>(h y hy).1) x hx
 rcases (zzz hs).1 hx with ⟨h1,_⟩ | ⟨h1,_⟩
 ·exact h x h1
 ·exact ⟨hc,by rw [h1]; exact ht.2⟩
theorem zN0:∀ (b a:yB),Srs a->(∀ x∈a,GT x)->(∀ x∈b,GT x)->∀ x∈zcJ a b,GT x
 | [],_,_,ha,_=>ha
 | t::r,a,hs,ha,hb=>zN0 r (zhy t a) (zzk hs) (z38 (hb t (by simp)) hs ha) λx hx=>hb x (by simp [hx])
theorem zPZ {x y:Term} (hx:VT x) (hy:VT y):GT (zl3 x y):=by
 obtain ⟨gx,sx,lx,ex⟩:=hx;obtain ⟨gy,sy,ly,ey⟩:=hy;refine ⟨(zYw gx.1 gy.1).1,by have:=zKI x.Fs y.Fs; show (zbB x.Fs y.Fs).length<=1000; omega,λf hf=> ?_⟩
 obtain ⟨g,hg,e⟩:=ztP hf;have hb:=zKj (B:=64) (λz hz=>⟨(gx.2.2 z hz).2.1,(ex z hz).2⟩) (λz hz=>⟨(gy.2.2 z hz).2.1,(ey z hz).2⟩) hf
 have hv:(zef (zbr 9) g.At=true/\zgS g.At/\g.At.Items.length<=1024):=by
  rcases hg with hg | hg
  ·exact (gx.2.2 g hg).1
  ·exact (gy.2.2 g hg).1
 exact ⟨by rw [e]; exact hv,hb.1,by omega⟩
theorem zW7 {a b:yB} (ha:∀ t∈a,VT t) (hb:∀ t∈b,VT t):∀ t∈zgj a b,GT t:=λt ht=>by
 obtain ⟨x,hx,y,hy,rfl⟩:=z0Y ht;exact zPZ (ha x hx) (hb y hy)
theorem zbbr {x y:Term} (hx:VT x) (hy:VT y):zop x.Fs y.Fs=(true,zbB x.Fs y.Fs):=by
 obtain ⟨gx,sx,lx,ex⟩:=hx;obtain ⟨gy,sy,ly,ey⟩:=hy;exact zba8 (d:=9) (by omega) _ _ (by omega) (λf hf=>⟨zvS (gx.2.2 f hf).1.1 (gx.2.2 f hf).1.2.2,by have:=(gx.2.2 f hf).2; omega⟩) λf hf=>by have:=(gy.2.2 f hf).2; omega
theorem zbdp (a b:yB) (i:Int) (x:Term) (hx:VT x) (hb:∀ t∈b,VT t) (hbl:b.length<=512) (terms:yB) (hl:terms.length<=1000000) (n:Nat) (hn:b.length<n):
  zHI n b a a.length i b b.length 0 terms x=(true,(b,a,(a.length:Int),i,terms++b.map (zl3 x))):=by
 have hreach:zG=70368744177664:=rfl
 have:=zcA (W:=zz9) (z:=default) b.length (λj=>(b,(),(),a,(a.length:Int),i,b,(b.length:Int),(j:Int),())) (λj=>(terms++(b.take j).map (zl3 x),x,())) (λ_=>true) default (b,a,(a.length:Int),i,terms++b.map (zl3 x))
  (λj hj H K D=>by
   show (zoX b a a.length i b b.length j (terms++(b.take j).map (zl3 x)) x).ev H K D=_;unfold zoX;have hy:=hb _ (zl hj);have hr:decide (((terms++(b.take j).map (zl3 x)).length+1)*32<=zG)=true:=by simp only [qe,qg,List.length_map,List.length_take]; omega
   simp only [Wy.ev_i,Wy.ev_k,Wy.ev_h,Wy.ev_bn,Wy.ev_d,tT,hj,(z3z hx.1.1 hy.1.1).1,zbbr hx hy,List.length_singleton,hr];rw [zB (by omega),zha hj,List.map_append, <- List.append_assoc]
   rfl)
  (λH K D=>by
   show (zoX b a a.length i b b.length b.length (terms++(b.take b.length).map (zl3 x)) x).ev H K D=_;unfold zoX;simp only [Wy.ev_i,Wy.ev_k,tT,Nat.lt_irrefl,List.take_length]) n hn
 rw [show zeb (λ_=>true) b.length 0=true from zdB.2 λ_ _ _=>rfl] at this
 simp only [List.take_zero,List.map_nil,List.append_nil] at this;exact this
theorem zbdn (a b:yB) (ha:∀ t∈a,VT t) (hb:∀ t∈b,VT t) (hal:a.length<=512) (hbl:b.length<=512) (n:Nat) (hn:a.length<n):
  zz7 n b a a.length 0 []=(true,zgj a b):=by
 have:=zcA (W:=zAB) (z:=default) a.length (λi=>(b,(),a,(a.length:Int),(i:Int),())) (λi=>(zgj (a.take i) b,())) (λ_=>true) default (zgj a b)
  (λi hi H K D=>by
   show (zo7 b a a.length i (zgj (a.take i) b)).ev H K D=_;unfold zo7;have hx:=ha _ (zl hi)
   have hlen:(zgj (a.take i) b).length<=1000000:=by
    rw [zUI,List.length_take];have:=Nat.mul_le_mul (show min i a.length<=512 by omega) hbl
    omega
   simp only [Wy.ev_i,Wy.ev_k,Wy.ev_h,Wy.ev_bn,Wy.ev_d,tT,hi];rw [zbdp a b i _ hx hb hbl _ hlen _ (by omega)]
   simp only [cond_true];rw [zB (by omega),zha hi]
   have e:zgj (a.take i++[a.getD i default]) b=zgj (a.take i) b++b.map (zl3 (a.getD i default)):=by
    unfold zgj; rw [List.flatMap_append]; simp
   rw [e])
  (λH K D=>by
   show (zo7 b a a.length a.length (zgj (a.take a.length) b)).ev H K D=_;unfold zo7;simp only [Wy.ev_i,Wy.ev_k,tT,Nat.lt_irrefl,List.take_length]) n hn
 rw [show zeb (λ_=>true) a.length 0=true from zdB.2 λ_ _ _=>rfl] at this
 exact this
theorem szTs_get' (a:yB) (i:Nat) (h:i<a.length):(a.getD i default).Fs.length<=zgV a:=zJL a i h
theorem z82 (a b:yB) (i:Int) (k:Nat) (hk:k<b.length) (out:yB) (c:Int) (x:Term) (hx:VT x) (hy:VT (b.getD k default)) (n:Nat) (hn:(b.getD k default).Fs.length<n):
  zHE n a b i k 0 out c x.Fs=(true,(a,b,i,(k:Int),out,c,zbB x.Fs (b.getD k default).Fs)):=by
 obtain ⟨gx,sx,lx,ex⟩:=hx;obtain ⟨gy0,sy,ly,ey⟩:=hy;have gy:∀ f∈(b.getD k default).Fs,GF f:=gy0.2.2;have sy:Srf (b.getD k default).Fs:=sy;clear gy0;generalize hF:(b.getD k default).Fs=F at *
 have key:∀ j,j<F.length->zHw (F.getD j default) (zbB x.Fs (F.take j))=zbB x.Fs (F.take (j+1)):=λj hj=>by
  have e1:=zQA (F.take j) x.Fs (sy.sublist (List.take_sublist _ _)) (λz hz=>(ex z hz).1) λz hz=>(ey z (List.mem_of_mem_take hz)).1
  have e2:=zQA (F.take (j+1)) x.Fs (sy.sublist (List.take_sublist _ _)) (λz hz=>(ex z hz).1) λz hz=>(ey z (List.mem_of_mem_take hz)).1
  rw [<- e1, <- e2,zha hj,List.foldl_append]; rfl
 have:=zcA (W:=zHH) (z:=default) F.length (λj=>(a,b,(),i,(k:Int),(),(j:Int),())) (λj=>(out,(c,zbB x.Fs (F.take j),()),())) (λ_=>true) default (a,b,i,(k:Int),out,c,zbB x.Fs F)
  (λj hj H K D=>by
   show (zph a b i k j out c (zbB x.Fs (F.take j))).ev H K D=_;unfold zph;have hlen:=zKI x.Fs (F.take j);rw [List.length_take] at hlen;have hex:=λz (hz:z∈zbB x.Fs (F.take j))=>zKj (B:=64) (λz hz=>⟨(gx.2.2 z hz).2.1,(ex z hz).2⟩) (λz hz=>⟨(gy z (List.mem_of_mem_take hz)).2.1,(ey z (List.mem_of_mem_take hz)).2⟩) hz
   have hfine:∀ z∈zbB x.Fs (F.take j),zdb (zo 9) z.At:=λz hz=>by
    obtain ⟨w,hw,e⟩:=ztP hz;rw [e];rcases hw with hw | hw
    ·exact zvS (gx.2.2 w hw).1.1 (gx.2.2 w hw).1.2.2
    ·exact zvS (gy w (List.mem_of_mem_take hw)).1.1 (gy w (List.mem_of_mem_take hw)).1.2.2
   have hm:=zl hj;have e1:decide ((k:Int)<Int.ofNat b.length)=true:=by simp [hk]
   have e2:decide ((j:Int)<Int.ofNat F.length)=true:=by simp [hj]
   have efx:(FO.mk (F.getD j default).At (F.getD j default).Exp:Fc)=F.getD j default:=rfl;simp only [At.eta,Wy.ev_i,Wy.ev_k,Wy.ev_h,Wy.ev_bn,Wy.ev_d,ze4,Bool.and_self,cond_true,Int.toNat_natCast,hF,e1,e2,efx];rw [zbaH (d:=9) _ _ (by omega) hfine (by omega) (λz hz=>by have:=hex z hz; omega) (by have:=(gy _ hm).2; omega),cond_true,zB (by omega),key j hj])
  (λH K D=>by
   show (zph a b i k F.length out c (zbB x.Fs (F.take F.length))).ev H K D=_;unfold zph;have e1:decide ((k:Int)<Int.ofNat b.length)=true:=by simp [hk]
   have e2:decide ((F.length:Int)<Int.ofNat F.length)=false:=by simp
   simp only [Wy.ev_i,Wy.ev_k,ze4,Bool.and_self,cond_true,cond_false,Int.toNat_natCast,hF,e1,e2,List.take_length]) n hn
 rw [show zeb (λ_=>true) F.length 0=true from zdB.2 λ_ _ _=>rfl] at this
 simp only [List.take_zero,zL5] at this;exact this
theorem zbbL (a b:yB) (i:Nat) (hi:i<a.length) (hal:a.length<=512) (hbl:b.length<=512) (hx:VT (a.getD i default)) (hb:∀ t∈b,VT t) (out:yB) (ho:out.length<=i*512) (hs:Srs out) (hg:∀ t∈out,GT t) (n:Nat) (hn:b.length<n):
  zJ1 n a b i 0 out=(true,(a,b,(i:Int),zcJ out (b.map (zl3 (a.getD i default))))):=by
 have:=zcD (W:=zJi) (z:=default) (l:=b) (λk (o:yB)=>(a,b,(),(i:Int),(k:Int),())) (λ_ o=>(o,())) (λy o=>.inl (zhy (zl3 (a.getD i default) y) o)) (λo=>(a,b,(i:Int),o)) (λk o=>(o.length<=i*512+k/\Srs o)/\∀ t∈o,GT t)
  (λk o hk hI=>.inl ⟨_,rfl,⟨⟨by have:=zVi (t:=zl3 (a.getD i default) (b.getD k default)) o; omega,zzk hI.1.2⟩,z38 (zPZ hx (hb _ (zl hk))) hI.1.2 hI.2⟩,λH K D=>by
   show (zrw a b i k o).ev H K D=_;unfold zrw;have hy:=hb _ (zl hk);have hsz:=szTs_get' b k hk;simp only [Wy.ev_i,Wy.ev_k,Wy.ev_h,Wy.ev_bn,Wy.ev_d,tT,hk,hi,(z3z hx.1.1 hy.1.1).2];rw [z82 a b i k hk o _ _ hx hy _ (by omega)]
   simp only [cond_true];have e:(TO.mk (zzg (a.getD i default).Cf (b.getD k default).Cf) (zbB (a.getD i default).Fs (b.getD k default).Fs):Term)=zl3 (a.getD i default) (b.getD k default):=rfl;have hg:=zPZ hx hy;rw [e,z5w (d:=9) o _ (by omega) (λz hz=>(hI.2 z hz).fine) (by omega) (λz hz=>(hI.2 z hz).1) hg.1]
   simp only [cond_true];rw [zB (by omega)]⟩)
  (λo hI H K D=>by
   show (zrw a b i b.length o).ev H K D=_;unfold zrw;simp only [Wy.ev_i,Wy.ev_k,tT,Nat.lt_irrefl]) n 0 out (by omega) (by omega) (show (out.length<=i*512+0/\Srs out)/\∀ t∈out,GT t from ⟨⟨Nat.le_trans ho (Nat.le_add_right _ _),hs⟩,hg⟩)
 rw [List.drop_zero,zcB] at this
 have e:∀ (l:yB) (o:yB),l.foldl (λs t=>zhy (zl3 (a.getD i default) t) s) o=zcJ o (l.map (zl3 (a.getD i default))):=λl=>by
  induction l with
  | nil=>intro o; rfl
  | cons y r ih=>intro o; rw [List.foldl_cons,ih]; rfl
 rw [e] at this;exact this
theorem z4Y (o:yB) (b:yB) (x:Term):(zcJ o (b.map (zl3 x))).length<=o.length+b.length:=by
 have:=zIQ (b.map (zl3 x)) o
 rwa [List.length_map] at this
theorem z8S (a b:yB) (ha:∀ t∈a,VT t) (hb:∀ t∈b,VT t) (hal:a.length<=512) (hbl:b.length<=512):zHi a b=(true,zuo a b):=by
 unfold zHi zMb
 have:=zcD (W:=zKA) (z:=default) (l:=a) (λi (o:yB)=>(a,b,(),(i:Int),())) (λ_ o=>(o,())) (λx o=>.inl (zcJ o (b.map (zl3 x)))) (λo=>o) (λi o=>(o.length<=i*512/\Srs o)/\∀ t∈o,GT t)
  (λi o hi hI=>.inl ⟨_,rfl,⟨⟨by have:=z4Y o b (a.getD i default); omega,zOg _ _ hI.1.2⟩,zN0 _ _ hI.1.2 hI.2 λt ht=>by
    obtain ⟨y,hy,rfl⟩:=List.mem_map.1 ht;exact zPZ (ha _ (zl hi)) (hb y hy)⟩,λH K D=>by
   show (zq1 a b i o).ev H K D=_;unfold zq1;have e1:decide ((i:Int)<Int.ofNat a.length)=true:=by simp [hi]
   simp only [Wy.ev_i,Wy.ev_k,Wy.ev_h,Wy.ev_bn,Wy.ev_d,e1,cond_true];rw [zbbL a b i hi hal hbl (ha _ (zl hi)) hb o hI.1.1 hI.1.2 hI.2 _ (by omega)]
   simp only [cond_true];rw [zB (by omega)]⟩)
  (λo hI H K D=>by
   show (zq1 a b a.length o).ev H K D=_;unfold zq1;have e1:decide ((a.length:Int)<Int.ofNat a.length)=false:=by simp
   simp only [Wy.ev_i,Wy.ev_k,e1,cond_false]) ((a.length+b.length+Int.toNat (0:Int)+(0:Nat)+(1:Nat))+zgV a+zgV b+zgV []) 0 [] (by omega) (by omega) ⟨⟨by simp,.nil⟩,λt ht=>by cases ht⟩
 rw [List.drop_zero,zcB] at this
 have e:∀ (l:yB) (o:yB),l.foldl (λs x=>zcJ s (b.map (zl3 x))) o=zcJ o (zgj l b):=λl=>by
  induction l with
  | nil=>intro o; rfl
  | cons y r ih=>
   intro o;rw [List.foldl_cons,ih];show _=(zgj (y::r) b).foldl (λa t=>zhy t a) o
   unfold zgj;rw [List.flatMap_cons,List.foldl_append]; rfl
 rw [e] at this;have this:zJd ((a.length+b.length+Int.toNat (0:Int)+(0:Nat)+(1:Nat))+zgV a+zgV b+zgV []) a b 0 []=(true,zuo a b):=this;rw [Wy.fin_bn,this]; rfl
theorem zba9 (a b:yB) (ha:∀ t∈a,GT t) (hb:∀ t∈b,GT t) (hs:Srs a) (hal:a.length<=512) (hbl:b.length<=512):zTx a b=(true,zcJ a b):=by
 unfold zTx zWG
 have:=zcD (W:=zT8) (z:=default) (l:=b) (λi (o:yB)=>(o,b,(i:Int),())) (λ_ o=>()) (λx o=>.inl (zhy x o)) (λo=>o) (λi o=>(o.length<=512+i/\Srs o)/\∀ t∈o,GT t)
  (λi o hi hI=>.inl ⟨_,rfl,⟨⟨by have:=zVi (t:=b.getD i default) o; omega,zzk hI.1.2⟩,z38 (hb _ (zl hi)) hI.1.2 hI.2⟩,λH K D=>by
   show (zyq o b i).ev H K D=_;unfold zyq;simp only [Wy.ev_i,Wy.ev_k,Wy.ev_h,Wy.ev_bn,Wy.ev_d,tT,hi];rw [z5w (d:=9) o _ (by omega) (λz hz=>(hI.2 z hz).fine) (by omega) (λz hz=>(hI.2 z hz).1) (hb _ (zl hi)).1,cond_true,zB (by omega)]⟩)
  (λo hI H K D=>by
   show (zyq o b b.length).ev H K D=_;unfold zyq;simp only [Wy.ev_i,Wy.ev_k,tT,Nat.lt_irrefl]) (a.length+b.length+Int.toNat (0:Int)+(1:Nat)) 0 a (by omega) (by omega) ⟨⟨by omega,hs⟩,ha⟩
 rw [List.drop_zero,zcB] at this;have this:zUP (a.length+b.length+Int.toNat (0:Int)+(1:Nat)) a b 0=(true,zcJ a b):=this;rw [Wy.fin_bn,this]; rfl
def okA (a:yB):Prop:=(zo 12 a/\zM a<=4611686018427387904)/\zg5 a/\a.length<=zW
def opR (ok:Bool) (r:yB×Int):yB×Int:=bif ok then r else ([],1)
def zi9 (a b:yB):yB×Int:=opR (zR a&&zR b) (zmu (zcJ a b))
def zKH (a b:yB):yB×Int:=opR (zR a&&zR b) (zmu (zuo a b))
def z6u (a b:yB):At:=⟨1,⟨0,0⟩,[a,b],0,[],0,⟨0,0,ByteArray.mk #[]⟩⟩
def zZP (a:yB):At:=⟨2,⟨0,0⟩,[a],0,[],0,⟨0,0,ByteArray.mk #[]⟩⟩
def z6C (a:yB):At:=⟨3,⟨0,0⟩,[a],0,[],0,⟨0,0,ByteArray.mk #[]⟩⟩
def zQj (a b:yB):yB×Int:=opR (zR a&&zR b) (if b=[] then (a,0) else if a=[]\/a=b then ([],0) else zmu (zcW (z6u a b)))
def zQt (a:yB):yB×Int:=opR (zR a) (if a=[]\/isU a=true then (a,0) else if isC a=true then ([⟨1,[]⟩],0) else zmu (zcW (zZP a)))
def zQb (a:yB):yB×Int:=opR (zR a) (if a=[] then ([⟨1,[]⟩],0) else if zxC a=true then ([],0) else zmu (zcW (z6C a)))
theorem okA.valid {a:yB} (h:okA a):zb9 a=(true,zR a):=z1m h.1.1 (by omega) h.1.2
theorem okA.rvalid {a:yB} (h:okA a):zkd a=(true,zR a):=zZi h.1.1 (by omega) h.1.2
theorem z7y {a b:yB} (ha:okA a) (hb:okA b):zqx a b=(true,zi9 a b)/\z0Z a b=(true,zi9 a b):=by
 unfold zqx zJs z0Z zWg zi9;simp only [Wy.fin_bn,Wy.fin_i,Wy.fin_k,ha.valid,hb.valid,ha.rvalid,hb.rvalid,cond_true];cases va:zR a with
 | false=>first | exact ⟨trivial,trivial⟩ | exact ⟨rfl,rfl⟩ | exact ⟨trivial,rfl⟩ | exact ⟨rfl,trivial⟩
 | true=>
  cases vb:zR b with
  | false=>first | exact ⟨trivial,trivial⟩ | exact ⟨rfl,rfl⟩ | exact ⟨trivial,rfl⟩ | exact ⟨rfl,trivial⟩
  | true=>
   obtain ⟨sa,la,ta⟩:=zyY va ha.2.1;obtain ⟨sb,lb,tb⟩:=zyY vb hb.2.1;have ga:∀ t∈a,GT t:=λt ht=>(ta t ht).1
   have gb:∀ t∈b,GT t:=λt ht=>(tb t ht).1
   have hc:=z9Q [a,b] (by simp) (λl hl=>by
    simp only [qd,List.not_mem_nil,or_false] at hl;rcases hl with rfl | rfl <;>omega)
   have e:[a,b].flatten=a++b:=by simp
   have hcol:=zYK (a++b) (by simp; omega) λt ht=>by
    rcases List.mem_append.1 ht with ht | ht
    ·exact ga t ht
    ·exact gb t ht
   rw [e] at hc;rw [zbbR a b sa] at hcol;have hsl:(zcJ a b).length<=1000000:=by have:=zIQ b a; omega
   obtain ⟨f1,f2⟩:=z4A hsl (zN0 b a sa ga gb);simp only [Bool.not_true,cond_false,Bool.and_self,hc,hcol,zzB f1 (by omega:10<=100) f2,zba9 a b ga gb sa la lb,zOW f1 (by omega:10<=100) f2,cond_true]
   first | exact ⟨trivial,trivial⟩ | exact ⟨rfl,rfl⟩ | exact ⟨trivial,rfl⟩ | exact ⟨rfl,trivial⟩
theorem zbcG {a b:yB} (ha:okA a) (hb:okA b):zu5 a b=(true,zKH a b)/\z0P a b=(true,zKH a b):=by
 unfold zu5 zKk z0P zV9 zKH;simp only [Wy.fin_bn,Wy.fin_i,Wy.fin_k,ha.valid,hb.valid,ha.rvalid,hb.rvalid,cond_true];cases va:zR a with
 | false=>first | exact ⟨trivial,trivial⟩ | exact ⟨rfl,rfl⟩ | exact ⟨trivial,rfl⟩ | exact ⟨rfl,trivial⟩
 | true=>
  cases vb:zR b with
  | false=>first | exact ⟨trivial,trivial⟩ | exact ⟨rfl,rfl⟩ | exact ⟨trivial,rfl⟩ | exact ⟨rfl,trivial⟩
  | true=>
   obtain ⟨sa,la,ta⟩:=zyY va ha.2.1;obtain ⟨sb,lb,tb⟩:=zyY vb hb.2.1;have hm:=zbdn a b ta tb la lb (b.length+a.length+(Int.ofNat a.length).toNat +Int.toNat (0:Int)+(0:Nat)+(1:Nat)) (by omega)
   have hm:zz7 (b.length+a.length+(Int.ofNat a.length).toNat +Int.toNat (0:Int)+(0:Nat)+(1:Nat)) b a (Int.ofNat a.length) 0 []=_:=hm;have hpl:(zgj a b).length<=1000000:=by rw [zUI]; have:=Nat.mul_le_mul la lb; omega
   have hcol:=zYK (zgj a b) hpl (zW7 ta tb);have hsl:(zuo a b).length<=1000000:=by have:=zIQ (zgj a b) []; simp at this; exact Nat.le_trans this hpl
   obtain ⟨f1,f2⟩:=z4A hsl (zN0 (zgj a b) [] .nil (λt ht=>by cases ht) (zW7 ta tb))
   have f1:zo 10 (zuo a b):=f1;have f2:zM (zuo a b)<=4611686018427387904:=f2;have hcol:ziK (zgj a b)=(true,zuo a b):=hcol;simp only [Bool.not_true,cond_false,Bool.and_self,hm,hcol,zzB f1 (by omega:10<=100) f2,z8S a b ta tb la lb,zOW f1 (by omega:10<=100) f2,cond_true]
   first | exact ⟨trivial,trivial⟩ | exact ⟨rfl,rfl⟩ | exact ⟨trivial,rfl⟩ | exact ⟨rfl,trivial⟩
theorem zQw {l:yA} {k:Int} (hl:l.length<=2) (h:∀ a∈l,zR a=true):zo 10 (zcW ⟨k,⟨0,0⟩,l,0,[],0,⟨0,0,ByteArray.mk #[]⟩⟩)/\zM (zcW ⟨k,⟨0,0⟩,l,0,[],0,⟨0,0,ByteArray.mk #[]⟩⟩)<=4611686018427387904:=by
 constructor
 ·exact zTL ⟨⟨by simp only; omega,by simp,by show (ByteArray.mk #[]).size<=_; decide⟩,λa ha=>(zfk (h a ha)).1,λw hw=>(by cases hw)⟩
 ·rw [zXh,zhP]
  have hb:∀ l:yA,(∀ a∈l,zR a=true)->zfw l<=l.length*4096:=λl=>by
   induction l with
   | nil=>intro _; rw [zhg]; simp
   | cons a r ih=>
    intro h;have h1:=(zfk (h a (by simp))).2.1
    have h2:=ih λb hb=>h b (by simp [hb])
    rw [zfe,qf,Nat.add_mul]; omega
  have:=hb l h;show 2+(zfw l+zc9 [])<=_;rw [zfV];have:=Nat.mul_le_mul hl (Nat.le_refl 4096);omega
theorem zZ7 (a:yB):(Int.ofNat a.length==(0:Int))=decide (a=[]):=by
 rw [show (Int.ofNat a.length==(0:Int))=(a.length==0) from ztf _ 0,zW2]
 congr 1;rw [List.length_eq_zero_iff]
theorem z9e {a b:yB} (ha:okA a) (hb:okA b):zqU a b=(true,zQj a b)/\zWa a b=(true,zQj a b):=by
 unfold zqU zGr zWa zQ9 zQj;simp only [Wy.fin_bn,Wy.fin_i,Wy.fin_k,ha.valid,hb.valid,ha.rvalid,hb.rvalid,cond_true];cases va:zR a with
 | false=>first | exact ⟨trivial,trivial⟩ | exact ⟨rfl,rfl⟩ | exact ⟨trivial,rfl⟩ | exact ⟨rfl,trivial⟩
 | true=>
  cases vb:zR b with
  | false=>first | exact ⟨trivial,trivial⟩ | exact ⟨rfl,rfl⟩ | exact ⟨trivial,rfl⟩ | exact ⟨rfl,trivial⟩
  | true=>
   obtain ⟨f1,f2⟩:=zQw (l:=[a,b]) (k:=1) (by simp) (λx hx=>by
    simp only [qd,List.not_mem_nil,or_false] at hx;rcases hx with rfl | rfl
    ·exact va
    ·exact vb)
   simp only [Bool.not_true,cond_false,Bool.and_self,zZ7,zFu ha.1.1 (by omega:12<=100),zxg ha.1.1 (by omega:12<=100),zRn ha.1.1 (by omega:12<=100),zF7,zNA,zzB f1 (by omega:10<=100) f2,zOW f1 (by omega:10<=100) f2,cond_true,opR]
   by_cases hb0:b=[]
   ·simp only [hb0,decide_true,cond_true,if_true]; exact ⟨trivial,trivial⟩
   ·by_cases ha0:a=[]
    ·simp only [hb0,ha0,decide_true,decide_false,cond_true,cond_false,if_true,if_false,true_or]; exact ⟨trivial,trivial⟩
    ·by_cases hab:a=b
     ·simp only [hb0,ha0,hab,decide_true,decide_false,cond_true,cond_false,if_true,if_false,or_true]; exact ⟨trivial,trivial⟩
     ·simp only [hb0,ha0,hab,decide_false,cond_false,if_false,or_self]; first | exact ⟨trivial,trivial⟩ | exact ⟨rfl,rfl⟩ | exact ⟨trivial,rfl⟩ | exact ⟨rfl,trivial⟩
theorem z8X {a:yB} (ha:okA a):zrC a=(true,zQt a)/\zWq a=(true,zQt a):=by
 unfold zrC zGA zWq zRy zQt;simp only [Wy.fin_bn,Wy.fin_i,Wy.fin_k,ha.valid,ha.rvalid,cond_true];cases va:zR a with
 | false=>first | exact ⟨trivial,trivial⟩ | exact ⟨rfl,rfl⟩ | exact ⟨trivial,rfl⟩ | exact ⟨rfl,trivial⟩
 | true=>
  obtain ⟨f1,f2⟩:=zQw (l:=[a]) (k:=2) (by simp) (λx hx=>by rw [qh] at hx; subst hx; exact va)
  have hla:a.length<=1000000000:=by have:=(zfk va).2.2; omega
  have hbu:isB a=isU a:=zUX va;simp only [Bool.not_true,cond_false,zZ7,zFu ha.1.1 (by omega:12<=100),z1x,zRd,zLS,zAl a hla,zF7,zNA,zzB f1 (by omega:10<=100) f2,zOW f1 (by omega:10<=100) f2,cond_true,opR,hbu]
  rw [show zmu (zcW ⟨2,⟨0,0⟩,[a],0,[],0,⟨0,0,ByteArray.mk #[]⟩⟩)=zmu (zcW (zZP a)) from rfl]
  clear f1 f2;generalize zmu (zcW (zZP a))=R;by_cases h0:a=[]
  ·simp only [h0,decide_true,cond_true,if_true,true_or]; exact ⟨trivial,trivial⟩
  ·cases hu:isU a with
   | true=>simp only [h0,decide_false,cond_false,cond_true,if_true,or_true]; exact ⟨trivial,trivial⟩
   | false=>
    simp only [h0,decide_false,cond_false,if_false,or_self,Bool.false_eq_true]
    match a,h0 with
    | [t],_=>
     have e1:zxC [t]=(t.Fs.length==0):=by simp [zxC]
     have e2:isC [t]=(t.Fs.length==0):=rfl;rw [e1,e2];cases (t.Fs.length==0) with
     | true=>simp only [cond_true,if_true]; first | exact ⟨trivial,trivial⟩ | exact ⟨rfl,rfl⟩ | exact ⟨trivial,rfl⟩ | exact ⟨rfl,trivial⟩
     | false=>simp only [cond_false,cond_true,Bool.false_eq_true,if_false]; first | exact ⟨trivial,trivial⟩ | exact ⟨rfl,rfl⟩ | exact ⟨trivial,rfl⟩ | exact ⟨rfl,trivial⟩
    | t::s::r,_=>
     have e2:isC (t::s::r)=false:=rfl;simp only [zMK,e2,cond_false,cond_true,Bool.false_eq_true,if_false]
     first | exact ⟨trivial,trivial⟩ | exact ⟨rfl,rfl⟩ | exact ⟨trivial,rfl⟩ | exact ⟨rfl,trivial⟩
theorem z7S {a:yB} (ha:okA a):zo9 a=(true,zQb a)/\zSG a=(true,zQb a):=by
 unfold zo9 zDZ zSG zNL zQb;simp only [Wy.fin_bn,Wy.fin_i,Wy.fin_k,ha.valid,ha.rvalid,cond_true];cases va:zR a with
 | false=>first | exact ⟨trivial,trivial⟩ | exact ⟨rfl,rfl⟩ | exact ⟨trivial,rfl⟩ | exact ⟨rfl,trivial⟩
 | true=>
  obtain ⟨f1,f2⟩:=zQw (l:=[a]) (k:=3) (by simp) (λx hx=>by rw [qh] at hx; subst hx; exact va)
  have hla:a.length<=1000000000:=by have:=(zfk va).2.2; omega
  simp only [Bool.not_true,cond_false,zZ7,zNF a hla,zAl a hla,zF7,zNA,zzB f1 (by omega:10<=100) f2,zOW f1 (by omega:10<=100) f2,cond_true,opR]
  by_cases h0:a=[]
  ·simp only [h0,decide_true,cond_true,if_true]; first | exact ⟨trivial,trivial⟩ | exact ⟨rfl,rfl⟩ | exact ⟨trivial,rfl⟩ | exact ⟨rfl,trivial⟩
  ·cases hu:zxC a with
   | true=>simp only [h0,decide_false,cond_false,cond_true,if_true,if_false]; exact ⟨trivial,trivial⟩
   | false=>simp only [h0,decide_false,cond_false,if_false,Bool.false_eq_true]; first | exact ⟨trivial,trivial⟩ | exact ⟨rfl,rfl⟩ | exact ⟨trivial,rfl⟩ | exact ⟨rfl,trivial⟩
theorem zUk {n:Int} (h:rng n):wf3 n:=by
 show (Lit.int .i64 n).wf=true;have:IntKind.i64.min<=n/\n<=IntKind.i64.max:=⟨h.1,h.2⟩
 simpa [Lit.wf] using this
theorem zSJ {t:Term} (hc:rng t.Cf) (hf:∀ f∈t.Fs,zgS f.At/\rng f.Exp) (hl:t.Fs.length<=1000000):zAU t:=by
 obtain ⟨c,fs⟩:=t;unfold zAU;refine ⟨zUk hc,zKy fs λf h=> ?_,by have:zW=140737488351232:=rfl; simp only at hl; omega⟩
 obtain ⟨x,e⟩:=f;unfold zwg;exact ⟨(hf _ h).1,zUk (hf _ h).2⟩
def okR (r:yB×Int):Prop:=okA r.1/\(r.2=0\/r.1=[])
theorem zmH:okA []:=⟨⟨z9u 11,by rw [zv6]; omega⟩,by unfold zg5; trivial,by simp⟩
theorem zIN {a:yB} (h:okA a):okR (zmu a):=by
 unfold zmu;cases zfx a with
 | true=>exact ⟨h,.inl rfl⟩
 | false=>exact ⟨zmH,.inr rfl⟩
theorem zUh {ok:Bool} {r:yB×Int} (h:ok=true->okR r):okR (opR ok r):=by
 unfold opR;cases ok with
 | true=>exact h rfl
 | false=>exact ⟨zmH,.inr rfl⟩
theorem zZ3 {l:yB} (hl:l.length<=1000000) (h:∀ t∈l,GT t):okA l:=by
 obtain ⟨h1,h2⟩:=z4A hl h;refine ⟨⟨h1.mono (by omega),h2⟩,zEl l λt ht=> ?_,by have:zW=140737488351232:=rfl; omega⟩
 have hg:=h t ht;exact zSJ ⟨by have:=hg.1.1; omega,by have:=hg.1.2; omega⟩ (λf hf=>⟨(hg.2.2 f hf).1.2.1,(hg.2.2 f hf).gF.2.2⟩) (by have:=hg.2.1; omega)
theorem zZL {a b:yB} (ha:okA a) (hb:okA b):okR (zi9 a b):=zUh λhv=>by
 rw [qc] at hv;obtain ⟨sa,la,ta⟩:=zyY hv.1 ha.2.1;obtain ⟨sb,lb,tb⟩:=zyY hv.2 hb.2.1;exact zIN (zZ3 (by have:=zIQ b a; omega) (zN0 b a sa (λt ht=>(ta t ht).1) λt ht=>(tb t ht).1))
theorem z5H {a b:yB} (ha:okA a) (hb:okA b):okR (zKH a b):=zUh λhv=>by
 rw [qc] at hv;obtain ⟨sa,la,ta⟩:=zyY hv.1 ha.2.1;obtain ⟨sb,lb,tb⟩:=zyY hv.2 hb.2.1;have hpl:(zgj a b).length<=1000000:=by rw [zUI]; have:=Nat.mul_le_mul la lb; omega
 exact zIN (zZ3 (by have:=zIQ (zgj a b) []; simp at this; exact Nat.le_trans this hpl) (zN0 (zgj a b) [] .nil (λt ht=>by cases ht) (zW7 ta tb)))
theorem z3d {x:At} (hf:zdb (zo 9) x) (hs:zM (zcW x)<=4611686018427387904) (hw:zgS x):okA (zcW x):=by
 refine ⟨⟨(zTL hf).mono (by omega),hs⟩,zEl _ λt ht=> ?_,by simp [zcW,zW]⟩
 simp only [zcW,qh] at ht;subst ht;refine zSJ ⟨by simp,by simp⟩ (λf hf=> ?_) (by simp)
 simp only [qh] at hf;subst hf;exact ⟨hw,⟨by simp,by simp⟩⟩
theorem zUB {n:Int} (h: -1000<=n/\n<=1000):rng n:=⟨by omega,by omega⟩
theorem zqt:wf3 0:=zUk (zUB (by omega))
theorem zTK {l:yA} {k:Int} (hk:0<=k/\k<=4) (hl:l.length<=2) (h:∀ a∈l,zR a=true) (hw:∀ a∈l,okA a):okA (zcW ⟨k,⟨0,0⟩,l,0,[],0,⟨0,0,ByteArray.mk #[]⟩⟩):=by
 refine z3d ⟨⟨by simp only; omega,by simp,by show (ByteArray.mk #[]).size<=_; decide⟩,λa ha=>(zfk (h a ha)).1,λw hw=>(by cases hw)⟩ (zQw hl h).2 ?_
 unfold zgS;have hr:zW=140737488351232:=rfl;refine ⟨zUk (zUB (by omega)),⟨zqt,zqt⟩,⟨zT5 l λa ha=>⟨(hw a ha).2.1,(hw a ha).2.2⟩,by omega⟩,zqt,⟨by unfold zsM; trivial,by simp⟩,zqt,⟨zqt,zqt, ?_⟩⟩
 show (ByteArray.mk #[]).size<=zW;rw [hr]; decide
theorem z6d {a b:yB} (ha:okA a) (hb:okA b):okR (zQj a b):=zUh λhv=>by
 rw [qc] at hv;split
 ·exact ⟨ha,.inl rfl⟩
 ·split
  ·exact ⟨zmH,.inl rfl⟩
  ·refine zIN (zTK (by omega) (by simp) (λx hx=> ?_) λx hx=> ?_)
   ·simp only [qd,List.not_mem_nil,or_false] at hx;rcases hx with rfl | rfl
    ·exact hv.1
    ·exact hv.2
   ·simp only [qd,List.not_mem_nil,or_false] at hx;rcases hx with rfl | rfl
    ·exact ha
    ·exact hb
theorem zVn (c:Int) (hc:1<=c/\c<=1152921504606846976):okA [⟨c,[]⟩]:=zZ3 (by simp) λt ht=>by
 rw [qh] at ht; subst ht;exact ⟨hc,by simp,λf hf=>by cases hf⟩
theorem z5F {a:yB} (ha:okA a):okR (zQt a):=zUh λhv=>by
 split
 ·exact ⟨ha,.inl rfl⟩
 ·split
  ·exact ⟨zVn 1 (by omega),.inl rfl⟩
  ·exact zIN (zTK (by omega) (by simp) (λx hx=>by rw [qh] at hx; subst hx; exact hv) λx hx=>by rw [qh] at hx; subst hx; exact ha)
theorem z5K {a:yB} (ha:okA a):okR (zQb a):=zUh λhv=>by
 split
 ·exact ⟨zVn 1 (by omega),.inl rfl⟩
 ·split
  ·exact ⟨zmH,.inl rfl⟩
  ·exact zIN (zTK (by omega) (by simp) (λx hx=>by rw [qh] at hx; subst hx; exact hv) λx hx=>by rw [qh] at hx; subst hx; exact ha)
def zBr (n:Int):yB:=if n<1 then [] else [⟨if 1152921504606846976<n then 1152921504606846976 else n,[]⟩]
def zvL (id:RowID):yB:=bif zzu id then zcW ⟨0,id,[],0,[],0,⟨0,0,ByteArray.mk #[]⟩⟩ else []
theorem z9r (n:Int):zq3 n=(true,zBr n)/\zWA n=(true,zBr n):=by
 unfold zq3 zFz zWA zRg zBr;by_cases h:n<1
 ·simp only [Wy.fin_i,Wy.fin_k,h,decide_true,cond_true,if_true]; exact ⟨trivial,trivial⟩
 ·simp only [Wy.fin_i,Wy.fin_k,h,decide_false,cond_false,if_false]; exact ⟨trivial,trivial⟩
theorem zbcm (id:RowID):zuq id=(true,zvL id)/\zFH id=(true,zvL id):=by
 unfold zuq zJQ zFH zWd zvL zzu;simp only [Wy.fin_i,Wy.fin_bn,Wy.fin_k,zCT,zF7,zNA,cond_true];unfold zzu
 have e1:decide (id.Table<1)= !decide (id.Table≥1):=by
  by_cases h:id.Table<1
  ·have:¬ id.Table≥1:=by omega
   simp only [h,this,decide_true,decide_false,Bool.not_false]
  ·have:id.Table≥1:=by omega
   simp only [h,this,decide_true,decide_false,Bool.not_true]
 have e2:decide (id.Seq<1)= !decide (id.Seq≥1):=by
  by_cases h:id.Seq<1
  ·have:¬ id.Seq≥1:=by omega
   simp only [h,this,decide_true,decide_false,Bool.not_false]
  ·have:id.Seq≥1:=by omega
   simp only [h,this,decide_true,decide_false,Bool.not_true]
 rw [e1,e2];cases decide (id.Table≥1) <;>cases decide (id.Seq≥1) <;>exact ⟨rfl,rfl⟩
theorem z8A (n:Int):okA (zBr n):=by
 unfold zBr;split
 ·exact zmH
 ·refine zVn _ ?_;split <;>omega
theorem zbcD {id:RowID} (h:zXc id):okA (zvL id):=by
 unfold zvL;cases hr:zzu id with
 | false=>exact zmH
 | true=>
  refine z3d ⟨⟨by simp,by simp,by show (ByteArray.mk #[]).size<=_; decide⟩,λa ha=>(by cases ha),λw hw=>(by cases hw)⟩ (by rw [zXh,zhP,zhg,zfV]; omega) ?_
  unfold zgS;refine ⟨zqt,h,⟨by unfold zwT; trivial,by simp⟩,zqt,⟨by unfold zsM; trivial,by simp⟩,zqt,⟨zqt,zqt, ?_⟩⟩
  show (ByteArray.mk #[]).size<=zW;have hr:zW=140737488351232:=rfl;rw [hr]; decide
theorem zba3 {a:yB} {n:Nat} (hn:n<=1000) (h:zo 12 a/\zex a<=n) (hw:z2J a):okA a:=⟨⟨h.1,by have:=zIp a; omega⟩,hw.1,hw.2⟩
theorem z57 {α:Type} {R:α->α->Prop} (ir:∀ x,¬ R x x) (asy:∀ x y,R x y->¬ R y x):∀ (a b:List α),a.Pairwise R->b.Pairwise R->(∀ x,x∈a↔x∈b)->a=b
 | [],[],_,_,_=>rfl
 | [],y::b,_,_,h=>by have:=(h y).2 (by simp); cases this
 | x::a,[],_,_,h=>by have:=(h x).1 (by simp); cases this
 | x::a,y::b,ha,hb,h=>by
  have ca:=qi.1 ha;have cb:=qi.1 hb
  have e:x=y:=by
   rcases qd.1 ((h x).1 (by simp)) with e | hx
   ·exact e
   ·rcases qd.1 ((h y).2 (by simp)) with e | hy
    ·exact e.symm
    ·exact absurd (cb.1 x hx) (asy _ _ (ca.1 y hy))
  subst e;rw [z57 ir asy a b ca.2 cb.2 λz=>⟨λhz=> ?_,λhz=> ?_⟩]
  ·rcases qd.1 ((h z).1 (by simp [hz])) with rfl | h1
   ·exact absurd (ca.1 z hz) (ir z)
   ·exact h1
  ·rcases qd.1 ((h z).2 (by simp [hz])) with rfl | h1
   ·exact absurd (cb.1 z hz) (ir z)
   ·exact h1
def MF (l:yC):Prop:=Srf l/\∀ f∈l,eOK f/\1<=f.Exp
theorem MF.tail {f:Fc} {l:yC} (h:MF (f::l)):MF l:=⟨(qi.1 h.1).2,λg hg=>h.2 g (by simp [hg])⟩
theorem MF.nil:MF []:=⟨List.Pairwise.nil,λf hf=>by cases hf⟩
theorem cF_self' {x y:Fc} (h:x.At=y.At):cF x y=0:=by unfold cF; rw [h]; exact zBN _
theorem MF.ne {f:Fc} {l:yC} (h:MF (f::l)):∀ g∈l,g.At≠f.At:=λg hg e=>by
 have:=(qi.1 h.1).1 g hg;rw [cF_self' e.symm] at this; omega
theorem z9A {a b:yC}:Srf a->Srf b->Srf (zbB a b):=by
 induction a,b using zbB.induct with
 | case1 b=>intro _ hb; rw [zbB]; exact hb
 | case2 x a=>intro ha _; rw [zbB]; exact ha
 | case3 x a y b h ih=>
  intro ha hb;have ca:=qi.1 ha;rw [zbB,if_pos h];refine qi.2 ⟨λz hz=> ?_,ih ca.2 hb⟩
  obtain ⟨w,hw,e⟩:=ztP hz;have:cF x z=cF x w:=by unfold cF; rw [e]
  rw [this];rcases hw with hw | hw
  ·exact ca.1 w hw
  ·rcases qd.1 hw with rfl | hw
   ·exact h
   ·exact zEV h ((qi.1 hb).1 w hw)
 | case4 x a y b h h2 ih=>
  intro ha hb;have cb:=qi.1 hb;rw [zbB,if_neg h,if_pos h2];have h3:cF y x<0:=by rw [zbbY x y]; omega
  refine qi.2 ⟨λz hz=> ?_,ih ha cb.2⟩
  obtain ⟨w,hw,e⟩:=ztP hz;have:cF y z=cF y w:=by unfold cF; rw [e]
  rw [this];rcases hw with hw | hw
  ·rcases qd.1 hw with rfl | hw
   ·exact h3
   ·exact zEV h3 ((qi.1 ha).1 w hw)
  ·exact cb.1 w hw
 | case5 x a y b h h2 ih=>
  intro ha hb;have ca:=qi.1 ha;have cb:=qi.1 hb;have h0:x.At=y.At:=z6b (by omega)
  rw [zbB,if_neg h,if_neg h2];have hA:(if x.At.Kind=3\/x.At.Kind=4 then x else ⟨x.At,x.Exp+y.Exp⟩:Fc).At=x.At:=by split <;>rfl
  refine qi.2 ⟨λz hz=> ?_,ih ca.2 cb.2⟩
  obtain ⟨w,hw,e⟩:=ztP hz;have:cF (if x.At.Kind=3\/x.At.Kind=4 then x else ⟨x.At,x.Exp+y.Exp⟩:Fc) z=cF x w:=by unfold cF; rw [e,hA]
  rw [this];rcases hw with hw | hw
  ·exact ca.1 w hw
  ·have:cF x w=cF y w:=by unfold cF; rw [h0]
   rw [this]; exact cb.1 w hw
theorem z8P {a b:yC}:(∀ f∈a,eOK f/\1<=f.Exp)->(∀ f∈b,eOK f/\1<=f.Exp)->∀ f∈zbB a b,eOK f/\1<=f.Exp:=by
 induction a,b using zbB.induct with
 | case1 b=>intro _ hb; rw [zbB]; exact hb
 | case2 x a=>intro ha _; rw [zbB]; exact ha
 | case3 x a y b h ih=>
  intro ha hb f hf;rw [zbB,if_pos h] at hf;rcases qd.1 hf with rfl | hf
  ·exact ha _ (by simp)
  ·exact ih (λg hg=>ha g (by simp [hg])) hb f hf
 | case4 x a y b h h2 ih=>
  intro ha hb f hf;rw [zbB,if_neg h,if_pos h2] at hf;rcases qd.1 hf with rfl | hf
  ·exact hb _ (by simp)
  ·exact ih ha (λg hg=>hb g (by simp [hg])) f hf
 | case5 x a y b h h2 ih=>
  intro ha hb f hf;rw [zbB,if_neg h,if_neg h2] at hf;rcases qd.1 hf with rfl | hf
  ·have h1:=ha x (by simp)
   have h2:=hb y (by simp)
   split
   ·exact h1
   ·rename_i hk;exact ⟨⟨h1.1.1,λh=>absurd h hk⟩,by show 1<=x.Exp+y.Exp; omega⟩
  ·exact ih (λg hg=>ha g (by simp [hg])) (λg hg=>hb g (by simp [hg])) f hf
theorem zba6 {a b:yC} (ha:MF a) (hb:MF b):MF (zbB a b):=⟨z9A ha.1 hb.1,z8P ha.2 hb.2⟩
def EqS (n m:Nat):Prop:=n=m\/(1152921504606846976<=n/\1152921504606846976<=m)
theorem EqS.refl (n:Nat):EqS n n:=.inl rfl
theorem EqS.symm {n m:Nat} (h:EqS n m):EqS m n:=by unfold EqS at *; omega
theorem EqS.trans {n m k:Nat} (h:EqS n m) (h':EqS m k):EqS n k:=by unfold EqS at *; omega
theorem EqS.add {n m n' m':Nat} (h:EqS n n') (h':EqS m m'):EqS (n+m) (n'+m'):=by unfold EqS at *; omega
theorem EqS.mul1 {n n':Nat} (k:Nat) (h:EqS n n'):EqS (n*k) (n'*k):=by
 rcases h with rfl | ⟨h1,h2⟩
 ·exact .refl _
 ·rcases Nat.eq_zero_or_pos k with rfl | hk
  ·exact .inl (by simp)
  ·exact .inr ⟨Nat.le_trans h1 (Nat.le_mul_of_pos_right n hk),Nat.le_trans h2 (Nat.le_mul_of_pos_right n' hk)⟩
theorem EqS.mul {n m n' m':Nat} (h:EqS n n') (h':EqS m m'):EqS (n*m) (n'*m'):=by
 refine (h.mul1 m).trans ?_;rw [Nat.mul_comm n' m,Nat.mul_comm n' m'];exact h'.mul1 n'
def evA (φ:yC->Nat):yB->Nat
 | []=>0
 | t::r=>t.Cf.toNat *φ t.Fs+evA φ r
theorem z9G {a b:Int} (ha:1<=a) (hb:1<=b):EqS (ztE a b).toNat (a.toNat +b.toNat):=by
 unfold ztE EqS;split <;>omega
theorem z7X (φ:yC->Nat) {t:Term} (ht:cOK t):∀ {l:yB},(∀ x∈l,cOK x)->EqS (evA φ (zhy t l)) (t.Cf.toNat *φ t.Fs+evA φ l)
 | [],_=>.inl rfl
 | x::r,h=>by
  unfold zhy;by_cases h1:cT x t<0
  ·rw [if_pos h1,evA,evA];refine ((EqS.refl _).add (z7X φ ht λy hy=>h y (by simp [hy]))).trans (.inl ?_)
   omega
  ·rw [if_neg h1];by_cases h2:cT x t=0
   ·rw [if_pos h2,evA,evA,zOu h2];show EqS ((ztE x.Cf t.Cf).toNat *φ t.Fs+evA φ r) (t.Cf.toNat *φ t.Fs+(x.Cf.toNat *φ t.Fs+evA φ r));refine ((z9G (h x (by simp)).1 ht.1).mul1 _ |>.add (.refl _)).trans (.inl ?_)
    rw [Nat.add_mul]; omega
   ·rw [if_neg h2]; exact .refl _
theorem zIV (φ:yC->Nat):∀ (b:yB) {a:yB},(∀ x∈a,cOK x)->(∀ x∈b,cOK x)->EqS (evA φ (zcJ a b)) (evA φ a+evA φ b)
 | [],a,_,_=>.inl rfl
 | t::r,a,ha,hb=>by
  refine (zIV φ r (z2r (hb t (by simp)) ha) λx hx=>hb x (by simp [hx])).trans ?_
  rw [evA];refine ((z7X φ (hb t (by simp)) ha).add (.refl _)).trans (.inl ?_)
  omega
def zPu (m n:yC):Nat:=if n=m then 1 else 0
theorem z3y {m:yC}:∀ {l:yB},(∀ t∈l,t.Fs≠m)->evA (zPu m) l=0
 | [],_=>rfl
 | t::r,h=>by rw [evA,z3y λx hx=>h x (by simp [hx]),zPu,if_neg (h t (by simp)),Nat.mul_zero]
theorem zZA {t:Term}:∀ {l:yB},Srs l->t∈l->evA (zPu t.Fs) l=t.Cf.toNat
 | [],_,h=>by cases h
 | x::r,hs,h=>by
  have hc:=qi.1 hs;rw [evA];rcases qd.1 h with rfl | h
  ·rw [z3y λy hy e=>by
    have:=hc.1 y hy;rw [zzH e.symm] at this; omega]
   simp [zPu]
  ·rw [zZA hc.2 h,zPu,if_neg λe=>by
    have:=hc.1 t h;rw [zzH e] at this; omega]
   omega
theorem z54 {m:yC}:∀ {l:yB},evA (zPu m) l≠0->∃ t∈l,t.Fs=m
 | [],h=>absurd rfl h
 | x::r,h=>by
  by_cases e:x.Fs=m
  ·exact ⟨x,by simp,e⟩
  ·rw [evA,zPu,if_neg e,Nat.mul_zero,Nat.zero_add] at h;obtain ⟨t,ht,e⟩:=z54 (l:=r) h;exact ⟨t,by simp [ht],e⟩
theorem z5A {a b:yB} (ha:Srs a) (hb:Srs b) (ca:∀ t∈a,cOK t) (cb:∀ t∈b,cOK t) (h:∀ φ,EqS (evA φ a) (evA φ b)):a=b:=by
 refine z57 (R:=λx y=>cT x y<0) (λx=>by rw [zzH rfl]; omega) (λx y h=>by rw [zB0 x y]; omega) a b ha hb λt=> ?_
 have key:∀ {a b:yB},Srs a->Srs b->(∀ t∈a,cOK t)->(∀ t∈b,cOK t)->(∀ φ,EqS (evA φ a) (evA φ b))->t∈a->t∈b:=λ{a b} ha hb ca cb h ht=>by
  have e:=h (zPu t.Fs);rw [zZA ha ht] at e;have c1:=ca t ht;unfold cOK at c1;have hne:evA (zPu t.Fs) b≠0:=by unfold EqS at e; omega
  obtain ⟨s,hs,e2⟩:=z54 hne;rw [<- e2,zZA hb hs] at e;have c2:=cb s hs;unfold cOK at c2;have:t=s:=zZ0 (by unfold EqS at e; omega) e2.symm
  rw [this]; exact hs
 exact ⟨key ha hb ca cb h,key hb ha cb ca fun φ=>(h φ).symm⟩
def PA (a:yB):Prop:=Srs a/\∀ t∈a,cOK t/\MF t.Fs
theorem PA.c {a:yB} (h:PA a):∀ t∈a,cOK t:=λt ht=>(h.2 t ht).1
theorem zqT {a b:yB} (ha:PA a) (hb:PA b):PA (zcJ a b):=⟨zOg _ _ ha.1,λt ht=>⟨z6O b ha.c hb.c t ht,by
 obtain ⟨x,hx,e⟩:=zIU b a ha.1 ht;rw [e];rcases hx with hx | hx
 ·exact (ha.2 x hx).2
 ·exact (hb.2 x hx).2⟩⟩
theorem PA.nil:PA []:=⟨List.Pairwise.nil,λt ht=>by cases ht⟩
theorem z28 {a b:yB} (ha:PA a) (hb:PA b):zcJ a b=zcJ b a:=by
 refine z5A (zqT ha hb).1 (zqT hb ha).1 (zqT ha hb).c (zqT hb ha).c fun φ=> ?_
 refine (zIV φ b ha.c hb.c).trans (.trans ?_ (zIV φ a hb.c ha.c).symm);exact .inl (Nat.add_comm _ _)
theorem z7D {a b c:yB} (ha:PA a) (hb:PA b) (hc:PA c):zcJ (zcJ a b) c=zcJ a (zcJ b c):=by
 refine z5A (zqT (zqT ha hb) hc).1 (zqT ha (zqT hb hc)).1 (zqT (zqT ha hb) hc).c (zqT ha (zqT hb hc)).c fun φ=> ?_
 refine (zIV φ c (zqT ha hb).c hc.c).trans (((zIV φ b ha.c hb.c).add (.refl _)).trans (.trans ?_ (zIV φ (zcJ b c) ha.c (zqT hb hc).c).symm));refine .trans ?_ ((EqS.refl _).add (zIV φ c hb.c hc.c).symm);exact .inl (Nat.add_assoc _ _ _)
theorem z7k {c:Int} (h:c<=1152921504606846976):zzg c 1=c:=by
 unfold zzg;rw [if_neg (by rw [Int.tdiv_one]; omega)]; omega
theorem zKb {τ:Type} [Inhabited τ] {R:τ->τ->Prop}:∀ {l:List τ},l.Pairwise R->∀ k,0<k->k<l.length->R (l.getD (k - 1) default) (l.getD k default)
 | [],_,k,_,h=>by simp at h
 | x::r,h,0,h0,_=>by omega
 | x::r,h,1,_,h1=>(qi.1 h).1 _ (zl (by simpa using h1))
 | x::r,h,k+2,_,h1=>zKb (qi.1 h).2 (k+1) (by omega) (by simp only [qf] at h1; omega)
def OKF (vat:At->Bool) (fs:yC):Prop:=Srf fs/\∀ f∈fs,(1<=f.Exp/\(f.At.Kind=3\/f.At.Kind=4->f.Exp=1))/\vat f.At=true
theorem z5u {vat:At->Bool} {fs:yC}:okF vat fs=true↔OKF vat fs:=by
 constructor
 ·intro h;refine ⟨zu6 (R:=λx y=>cF x y<0) (λx y z h1 h2=>zEV h1 h2) _ λk hk hl=> ?_,λf hf=>zpH h hf⟩
  have:=zdB.1 h k (by omega) (by omega)
  simp only [zNq,qc,Bool.or_eq_true,qe] at this;rcases this.1.2 with e | e
  ·omega
  ·exact e
 ·intro h;refine zdB.2 λk _ hk=> ?_
  have hm:=h.2 _ (zl (l:=fs) (i:=k) (by omega))
  simp only [zNq,qc,Bool.or_eq_true,qe,Bool.not_eq_true',Bool.and_eq_false_iff];refine ⟨⟨⟨hm.1.1, ?_⟩, ?_⟩,hm.2⟩
  ·by_cases hk:(fs.getD k default).At.Kind=3\/(fs.getD k default).At.Kind=4
   ·right; rw [hm.1.2 hk]; rfl
   ·left
    rw [Bool.or_eq_false_iff];constructor
    ·simpa using λe=>hk (.inl e)
    ·simpa using λe=>hk (.inr e)
  ·by_cases h0:k=0
   ·exact .inl h0
   ·exact .inr (zKb h.1 k (by omega) (by omega))
theorem zPW {vat:At->Bool} {a:yB}:zxp vat a=true↔zfx a=true/\Srs a/\∀ t∈a,cOK t/\OKF vat t.Fs:=by
 constructor
 ·intro h;have hall:=h;simp only [zxp,qc] at hall;refine ⟨hall.1,zu6 (R:=λx y=>cT x y<0) (λx y z h1 h2=>zJt h1 h2) a λk hk hl=> ?_,λt ht=>⟨(zvt h ht).1,z5u.1 (zvt h ht).2⟩⟩
  have:=zdB.1 hall.2 k (by omega) (by omega)
  simp only [zCE,qc,Bool.or_eq_true,qe] at this;rcases this.1.2 with e | e
  ·omega
  ·exact e
 ·rintro ⟨h1,h2,h3⟩
  simp only [zxp,qc];refine ⟨h1,zdB.2 λk _ hk=> ?_⟩
  have hm:=h3 _ (zl (l:=a) (i:=k) (by omega))
  simp only [zCE,qc,Bool.or_eq_true,qe];refine ⟨⟨⟨hm.1.1,hm.1.2⟩, ?_⟩,z5u.2 hm.2⟩;by_cases h0:k=0
  ·exact .inl h0
  ·exact .inr (zKb h2 k (by omega) (by omega))
def QA (a:yB):Prop:=Srs a/\∀ t∈a,cOK t/\OKF zpw t.Fs
theorem zqr {a:yB}:zR a=true↔zfx a=true/\QA a:=by rw [zX8]; exact zPW
theorem OKF.mf {fs:yC} (h:OKF zpw fs):MF fs:=⟨h.1,λf hf=>⟨⟨zDs (h.2 f hf).2,(h.2 f hf).1.2⟩,(h.2 f hf).1.1⟩⟩
theorem QA.pa {a:yB} (h:QA a):PA a:=⟨h.1,λt ht=>⟨(h.2 t ht).1,(h.2 t ht).2.mf⟩⟩
theorem zXH {a:yB} (h:zR a=true):QA a:=(zqr.1 h).2
theorem zoV {a:yB} (h:zR a=true):PA a:=(zXH h).pa
theorem z64 {a:yB} (h:zR a=true):zfx a=true:=(zqr.1 h).1
theorem MF.okf {fs:yC} (h:MF fs) (hv:∀ f∈fs,zpw f.At=true):OKF zpw fs:=⟨h.1,λf hf=>⟨⟨(h.2 f hf).2,(h.2 f hf).1.2⟩,hv f hf⟩⟩
theorem OKF.join {a b:yC} (ha:OKF zpw a) (hb:OKF zpw b):OKF zpw (zbB a b):=(zba6 ha.mf hb.mf).okf λf hf=>by
 obtain ⟨y,hy,e⟩:=ztP hf;rw [e];rcases hy with hy | hy
 ·exact (ha.2 y hy).2
 ·exact (hb.2 y hy).2
theorem zbcC {a b:yB} (ha:QA a) (hb:QA b):QA (zcJ a b):=⟨zOg _ _ ha.1,λt ht=>⟨z6O b ha.pa.c hb.pa.c t ht,by
 obtain ⟨x,hx,e⟩:=zIU b a ha.1 ht;rw [e];rcases hx with hx | hx
 ·exact (ha.2 x hx).2
 ·exact (hb.2 x hx).2⟩⟩
theorem QA.nil:QA []:=⟨List.Pairwise.nil,λt ht=>by cases ht⟩
theorem zbbl {x:At} (h:zpw x=true):QA (zcW x):=⟨by simp [zcW],λt ht=>by
 simp only [zcW,qh] at ht; subst ht;refine ⟨⟨by simp,by simp⟩,by simp,λf hf=> ?_⟩
 rw [qh] at hf; subst hf;exact ⟨⟨by simp,λ_=>rfl⟩,h⟩⟩
theorem zbcp {a:yB} (h:(zmu a).2=0):zfx a=true/\zmu a=(a,0):=by
 unfold zmu at *;cases hw:zfx a with
 | true=>exact ⟨rfl,rfl⟩
 | false=>rw [hw] at h; simp at h
theorem zbdo {ok:Bool} {r:yB×Int} (h:(opR ok r).2=0):ok=true/\opR ok r=r:=by
 cases ok with
 | true=>exact ⟨rfl,rfl⟩
 | false=>simp [opR] at h
theorem z7z {a b:yB} (h:(zi9 a b).2=0):(zR a=true/\zR b=true/\zR (zcJ a b)=true)/\zi9 a b=(zcJ a b,0):=by
 obtain ⟨h1,h2⟩:=zbdo h;rw [qc] at h1;unfold zi9 at h;rw [h2] at h;obtain ⟨h3,h4⟩:=zbcp h;exact ⟨⟨h1.1,h1.2,zqr.2 ⟨h3,zbcC (zXH h1.1) (zXH h1.2)⟩⟩,h2.trans h4⟩
theorem zIP {a:yB} (h:zfx a=true):zmu a=(a,0):=by unfold zmu; rw [h]; rfl
theorem z5l {a b:yB} (ha:zR a=true) (hb:zR b=true) (h:zfx (zcJ a b)=true):zi9 a b=(zcJ a b,0):=by
 unfold zi9; rw [ha,hb,zIP h]; rfl
theorem z5k {a b:yB} (ha:zR a=true) (hb:zR b=true) (h:zfx (zuo a b)=true):zKH a b=(zuo a b,0):=by
 unfold zKH; rw [ha,hb,zIP h]; rfl
theorem zUp (a b:yB):zi9 a b=zi9 b a:=by
 unfold zi9;cases ha:zR a with
 | false=>cases zR b <;>rfl
 | true=>
  cases hb:zR b with
  | false=>rfl
  | true=>rw [z28 (zoV ha) (zoV hb)]
theorem z05:zR []=true:=zqr.2 ⟨by decide,QA.nil⟩
theorem z34 {a:yB} (h:zR a=true):zi9 a []=(a,0):=z5l h z05 (z64 h)
theorem zWO {x:At}:zpw x=true↔VA zR x:=zdz
theorem z6o {x:At} (h:zpw x=true) (hw:zfx (zcW x)=true):zR (zcW x)=true:=zqr.2 ⟨hw,zbbl h⟩
end Go.Proofs.YtoknknbmfmddbaaGreatDoor
end
