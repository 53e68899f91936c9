/- Texts of this claim, joined (the program, its functions in plain words, and what they compute). -/
import Derived.Test.YtljlfiomikifjaaGreatDoorGC9
set_option autoImplicit false
set_option linter.unusedVariables false
set_option linter.unusedSectionVars false
set_option linter.unusedSimpArgs false
set_option maxRecDepth 1000000
set_option maxHeartbeats 0
/- The operations of both sides: what their loops compute. -/
noncomputable section
namespace Go.Proofs.YtljlfiomikifjaaGreatDoor
open Go Go.Ab
def zbhm (t:Term):yC->yC
 | []=>[t]
 | x::r=>if cT x t=0 then ⟨zAZ x.Cf t.Cf,t.Fs⟩::r else t::x::r
def zbiq (f:Fc):yD->yD
 | []=>[f]
 | x::r=>if cF x f=0 then (if f.At.Kind<3 then ⟨f.At,x.Exp+f.Exp⟩ else f)::r else f::x::r
theorem zbmd {t:Term} {l:yC} {k:Nat} (hk:k<l.length):zbhm t (l.drop k)=if cT (l.getD k default) t=0 then ⟨zAZ (l.getD k default).Cf t.Cf,t.Fs⟩::l.drop (k+1) else t::l.drop k:=by
 rw [zbx hk]; rfl
theorem zblH {f:Fc} {l:yD} {k:Nat} (hk:k<l.length):zbiq f (l.drop k)=if cF (l.getD k default) f=0 then (if f.At.Kind<3 then ⟨f.At,(l.getD k default).Exp+f.Exp⟩ else f)::l.drop (k+1) else f::l.drop k:=by
 rw [zbx hk]; rfl
theorem zbgK (t:Term):∀ l:yC,ze6 t l=l.takeWhile (λx=>decide (cT x t<0))++zbhm t (l.dropWhile (λx=>decide (cT x t<0)))
 | []=>rfl
 | x::r=>by
  rw [List.takeWhile_cons,List.dropWhile_cons];unfold ze6;by_cases h:cT x t<0
  ·simp only [h,if_true,decide_true,List.cons_append];rw [zbgK t r]
  ·simp only [h,if_false,decide_false,Bool.false_eq_true,List.nil_append]; rfl
theorem zbhi (f:Fc):∀ l:yD,zLA f l=l.takeWhile (λx=>decide (cF x f<0))++zbiq f (l.dropWhile (λx=>decide (cF x f<0)))
 | []=>rfl
 | x::r=>by
  rw [List.takeWhile_cons,List.dropWhile_cons];unfold zLA;by_cases h:cF x f<0
  ·simp only [h,if_true,decide_true,List.cons_append];rw [zbhi f r]
  ·simp only [h,if_false,decide_false,Bool.false_eq_true,List.nil_append]; rfl
theorem zbgM {a b:Int} (ha:0<=a/\a<=1152921504606846976) (hb:0<=b/\b<=1152921504606846976):IntKind.i64.wrap (a+b)=a+b:=zjO (by omega) (by omega)
theorem zbiT {τ:Type} (l:List τ) (p:τ->Bool):(l.takeWhile p).length<=l.length:=(List.takeWhile_prefix p).length_le
theorem zbnN (z:Int):(z==0)=decide (z=0):=zhe z 0
theorem zbbq {d:Nat} (l:yC) (t:Term) (hl:l.length<=1000000) (h:∀ x∈l,zbO (zm d) x.Fs) (hd:d<=99) (hc:∀ x∈l,cOK x) (ht:cOK t):zxM l t=(true,ze6 t l):=by
 have hreach:zG=70368744177664:=rfl;unfold zxM z5A
 have hL:=zW9 (W:=zOf) (z:=default) l (λx=>decide (cT x t<0)) (λk=>(l,(),(k:Int),())) (λ_=>(t,())) (λk=>(l,(k:Int),t))
  (λk hk H K D=>by
   show (zCf l k t).ev H K D=_;unfold zCf;simp only [Wy.ev_i,Wy.ev_k,Wy.ev_h,Wy.ev_bn,Wy.ev_d,tT,hk,ztq (h _ (zr hk)) hd];rw [zN (by omega)]; rfl)
  (λH K D=>by
   show (zCf l l.length t).ev H K D=_;unfold zCf;simp only [Wy.ev_i,Wy.ev_k,tT,Nat.lt_irrefl]) (l.length+Int.toNat (0:Int)+t.Fs.length+(1:Nat)) (by omega)
 have hL:zZV (l.length+Int.toNat (0:Int)+t.Fs.length+(1:Nat)) l 0 t=_:=hL;rw [hL,z28,zbgK];have q1:=zbiT l (λx=>decide (cT x t<0))
 have q2:=z2H (λx=>decide (cT x t<0)) l
 have q3:=z2R (λx=>decide (cT x t<0)) l
 generalize (l.takeWhile λx=>decide (cT x t<0)).length=k at q1 q2 q3 ⊢
 rw [<- q2, <- q3];have g1:(decide ((0:Int)<=(0:Int))&&decide ((0:Int)<=(k:Int))&&decide ((k:Int)<=Int.ofNat l.length))=true:=by simp only [qc,qe,Int.ofNat_eq_natCast]; omega
 have g2:decide ((0+(l.take k).length)*32<=zG)=true:=by simp only [qe,List.length_take]; omega
 have g4:∀ m:Nat,decide (((l.take k).length+[(⟨0,[]⟩:Term)].length)*32<=zG)=true:=λm=>by simp only [qe,List.length_take,List.length_singleton]; omega
 simp only [Wy.fin_i,Wy.fin_k,Wy.fin_bn,List.nil_append,Int.toNat_natCast,zbad,zFa,g1,g2,cond_true];by_cases hk:k<l.length
 ·have g3:decide ((k:Int)<Int.ofNat l.length)=true:=by simp [hk]
  have g5:(decide ((0:Int)<=(k:Int))&&decide ((k:Int)<Int.ofNat l.length))=true:=by rw [g3]; simp
  have hm:=zr hk;simp only [g3,zfq,Bool.and_self,cond_true,ztq (h _ hm) hd];rw [zbnN,zbmd hk];have gw:IntKind.i64.wrap ((k:Int)+1)=((k+1:Nat):Int):=zN (by omega)
  have gp:(zyL (l.getD k default).Cf t.Cf).2=zAZ (l.getD k default).Cf t.Cf:=by
   unfold zyL z1Q zAZ;rw [Wy.fin_k,zbgM ⟨by have:=(hc _ hm).1; omega,(hc _ hm).2⟩ ⟨by have:=ht.1; omega,ht.2⟩]
  have gk:(decide ((0:Int)<=(k:Int))&&decide ((k:Int)<=Int.ofNat l.length)&&decide (Int.ofNat l.length<=Int.ofNat l.length))=true:=by simp only [qc,qe,Int.ofNat_eq_natCast]; omega
  have gk':decide ((k:Int)<=Int.ofNat l.length)=true:=by simp only [qe,Int.ofNat_eq_natCast]; omega
  have gk1':decide (((k+1:Nat):Int)<=Int.ofNat l.length)=true:=by simp only [qe,Int.ofNat_eq_natCast]; omega
  have gk1:(decide ((0:Int)<=((k+1:Nat):Int))&&decide (((k+1:Nat):Int)<=Int.ofNat l.length)&&decide (Int.ofNat l.length<=Int.ofNat l.length))=true:=by simp only [qc,qe,Int.ofNat_eq_natCast]; omega
  have gb:∀ x:Term,decide (((l.take k).length+[x].length)*32<=zG)=true:=λx=>by simp only [qe,List.length_take,List.length_singleton]; omega
  have gc:∀ (x:Term) (m:Nat),decide (((l.take k++[x]).length+(l.drop m).length)*32<=zG)=true:=λx m=>by simp only [qe,List.length_take,List.length_drop,qg,List.length_singleton]; omega
  by_cases hz:cT (l.getD k default) t=0
  ·have hz':zbK (zbD (l.getD k default).Fs) (zbD t.Fs)=0:=hz;simp only [hz,hz',if_true,decide_true,cond_true,gw,gp,zfq,Bool.true_and,gk1',Int.le_refl,decide_true,cond_true,Bool.and_self,gb,gc,Int.toNat_natCast,zFa,List.append_assoc,List.singleton_append]
  ·have hz':¬ zbK (zbD (l.getD k default).Fs) (zbD t.Fs)=0:=hz;simp only [hz,hz',if_false,decide_false,cond_false,cond_true,zfq,Bool.true_and,gk',Int.le_refl,decide_true,cond_true,Bool.and_self,gb,gc,List.append_assoc,List.singleton_append]
 ·have hk':k=l.length:=by omega
  have g3:decide ((k:Int)<Int.ofNat l.length)=false:=by simp [hk]
  have gk:(decide ((0:Int)<=(k:Int))&&decide ((k:Int)<=Int.ofNat l.length)&&decide (Int.ofNat l.length<=Int.ofNat l.length))=true:=by simp only [qc,qe,Int.ofNat_eq_natCast]; omega
  have gb:∀ x:Term,decide (((l.take k).length+[x].length)*32<=zG)=true:=λx=>by simp only [qe,List.length_take,List.length_singleton]; omega
  have gc:∀ (x:Term) (m:Nat),decide (((l.take k++[x]).length+(l.drop m).length)*32<=zG)=true:=λx m=>by simp only [qe,List.length_take,List.length_drop,qg,List.length_singleton]; omega
  have gk':decide ((k:Int)<=Int.ofNat l.length)=true:=by simp only [qe,Int.ofNat_eq_natCast]; omega
  simp only [g3,zfq,Bool.true_and,gk',Int.le_refl,decide_true,Bool.and_self,gb,gc,cond_true,cond_false];rw [zcO hk];simp [zbhm,zbiq]
theorem zbl2 {d:Nat} (l:yD) (f:Fc) (hl:l.length<=1000000) (h:∀ x∈l,zc3 (zm d) x.At) (hd:d<=99) (hc:∀ x∈l,0<=x.Exp/\x.Exp<=1000000) (ht:0<=f.Exp/\f.Exp<=1000000):zBy l f=(true,zLA f l):=by
 have hreach:zG=70368744177664:=rfl;unfold zBy zVx
 have hL:=zW9 (W:=zGS) (z:=default) l (λx=>decide (cF x f<0)) (λk=>(l,(),(k:Int),())) (λ_=>(f,())) (λk=>(l,(k:Int),f))
  (λk hk H K D=>by
   show (zui l k f).ev H K D=_;unfold zui;simp only [At.eta,Wy.ev_i,Wy.ev_k,Wy.ev_h,Wy.ev_bn,Wy.ev_d,tT,hk,zpS (h _ (zr hk)) hd];rw [zN (by omega)]; rfl)
  (λH K D=>by
   show (zui l l.length f).ev H K D=_;unfold zui;simp only [Wy.ev_i,Wy.ev_k,tT,Nat.lt_irrefl]) (l.length+Int.toNat (0:Int)+f.At.Ag.length+f.At.Items.length+(1:Nat)) (by omega)
 have hL:zRw (l.length+Int.toNat (0:Int)+f.At.Ag.length+f.At.Items.length+(1:Nat)) l 0 f=_:=hL;rw [At.eta,show (FO.mk f.At f.Exp:Fc)=f from rfl,hL,z28,zbhi]
 have q1:=zbiT l (λx=>decide (cF x f<0))
 have q2:=z2H (λx=>decide (cF x f<0)) l
 have q3:=z2R (λx=>decide (cF x f<0)) l
 generalize (l.takeWhile λx=>decide (cF x f<0)).length=k at q1 q2 q3 ⊢
 rw [<- q2, <- q3];have g1:(decide ((0:Int)<=(0:Int))&&decide ((0:Int)<=(k:Int))&&decide ((k:Int)<=Int.ofNat l.length))=true:=by simp only [qc,qe,Int.ofNat_eq_natCast]; omega
 have g2:decide ((0+(l.take k).length)*128<=zG)=true:=by simp only [qe,List.length_take]; omega
 have gb:∀ x:Fc,decide (((l.take k).length+[x].length)*128<=zG)=true:=λx=>by simp only [qe,List.length_take,List.length_singleton]; omega
 have gc:∀ (x:Fc) (m:Nat),decide (((l.take k++[x]).length+(l.drop m).length)*128<=zG)=true:=λx m=>by simp only [qe,List.length_take,List.length_drop,qg,List.length_singleton]; omega
 have gk:(decide ((0:Int)<=(k:Int))&&decide ((k:Int)<=Int.ofNat l.length)&&decide (Int.ofNat l.length<=Int.ofNat l.length))=true:=by simp only [qc,qe,Int.ofNat_eq_natCast]; omega
 have ef:(FO.mk f.At f.Exp:Fc)=f:=rfl;simp only [At.eta,ef,Wy.fin_i,Wy.fin_k,Wy.fin_bn,List.nil_append,Int.toNat_natCast,zbad,zFa,g1,g2,cond_true];by_cases hk:k<l.length
 ·have g3:decide ((k:Int)<Int.ofNat l.length)=true:=by simp [hk]
  have g5:(decide ((0:Int)<=(k:Int))&&decide ((k:Int)<Int.ofNat l.length))=true:=by rw [g3]; simp
  have hm:=zr hk;simp only [g3,zfq,Bool.and_self,cond_true,zpS (h _ hm) hd];rw [zbnN,zblH hk];have gw:IntKind.i64.wrap ((k:Int)+1)=((k+1:Nat):Int):=zN (by omega)
  have gp:IntKind.i64.wrap ((l.getD k default).Exp+f.Exp)=(l.getD k default).Exp+f.Exp:=by have:=hc _ hm; exact zjO (by omega) (by omega)
  have gk':decide ((k:Int)<=Int.ofNat l.length)=true:=by simp only [qe,Int.ofNat_eq_natCast]; omega
  have gk1':decide (((k+1:Nat):Int)<=Int.ofNat l.length)=true:=by simp only [qe,Int.ofNat_eq_natCast]; omega
  have gk1:(decide ((0:Int)<=((k+1:Nat):Int))&&decide (((k+1:Nat):Int)<=Int.ofNat l.length)&&decide (Int.ofNat l.length<=Int.ofNat l.length))=true:=by simp only [qc,qe,Int.ofNat_eq_natCast]; omega
  by_cases hz:cF (l.getD k default) f=0
  ·have hz':zba (zdm (l.getD k default).At) (zdm f.At)=0:=hz;by_cases hk3:f.At.Kind<3
   ·simp only [hz,hz',hk3,if_true,decide_true,cond_true,gw,gp,zfq,Bool.true_and,gk1',Int.le_refl,decide_true,cond_true,Bool.and_self,gb,gc,Int.toNat_natCast,zFa,List.append_assoc,List.singleton_append]
   ·simp only [hz,hz',hk3,if_true,if_false,decide_true,decide_false,cond_true,cond_false,gw,gp,zfq,Bool.true_and,gk1',Int.le_refl,decide_true,cond_true,Bool.and_self,gb,gc,Int.toNat_natCast,zFa,List.append_assoc,List.singleton_append]
  ·have hz':¬ zba (zdm (l.getD k default).At) (zdm f.At)=0:=hz;simp only [hz,hz',if_false,decide_false,cond_false,cond_true,zfq,Bool.true_and,gk',Int.le_refl,decide_true,cond_true,Bool.and_self,gb,gc,List.append_assoc,List.singleton_append]
 ·have g3:decide ((k:Int)<Int.ofNat l.length)=false:=by simp [hk]
  have gk':decide ((k:Int)<=Int.ofNat l.length)=true:=by simp only [qe,Int.ofNat_eq_natCast]; omega
  simp only [g3,zfq,Bool.true_and,gk',Int.le_refl,decide_true,Bool.and_self,gb,gc,cond_true,cond_false];rw [zcO hk];simp [zbhm,zbiq]
theorem zbnK (n:Nat) (h:n<=4000000):zd4 (n:Int)=(true,[]):=by
 have hreach:zG=70368744177664:=rfl;unfold zd4 zng;have e0:IntKind.i64.wrap ((0:Int) - 0)=0:=rfl;have e1:IntKind.i64.wrap ((n:Int) - 0)=(n:Int):=by rw [zjO (by omega) (by omega)]; omega
 have e2:decide ((n:Int)<0)=false:=decide_eq_false (by omega)
 rw [Wy.fin_i,e2,cond_false,e0,e1];by_cases hn:(n:Int)>0
 ·have e3:(true&&(decide ((n:Int)*Int.ofNat (32:Nat)<=Int.ofNat zG)&&(decide ((n:Int)<=Int.ofNat zG)&& !Nat.beq (2:Nat) (0:Nat))))=true:=by
   simp only [qc,qe,Int.ofNat_eq_natCast];exact ⟨trivial,by rw [hreach]; omega,by rw [hreach]; omega,rfl⟩
  rw [Wy.fin_i,decide_eq_true hn,cond_true,Wy.fin_i,e3,cond_true,Wy.fin_k];simp
 ·rw [Wy.fin_i,decide_eq_false hn]; rfl
theorem zbkt (ls:yA) (hn:ls.length<=10) (h:∀ l∈ls,l.length<=300000):zdI ls=(true,ls.flatten):=by
 have hreach:zG=70368744177664:=rfl;unfold zdI zl8;have e:∀ l:yC,l∈ls->l.length<=300000:=h
 have h1:=zc8 (W:=zgq) (z:=default) (l:=ls) (λi (n:Nat)=>(ls,(n:Int),ls,(ls.length:Int),(i:Int),())) (λ_ _=>()) (λy n=>.inl (n+y.length)) (λn=>(ls,(n:Int))) (λi n=>n<=i*300000)
  (λi n hi hI=>.inl ⟨_,rfl,by have:=e _ (zr hi); omega,λH K D=>by
   show (zdg ls n ls ls.length i).ev H K D=_;unfold zdg;have hle:=e _ (zr hi);have hw:IntKind.i64.wrap ((n:Int)+((ls.getD i default).length:Int))=((n+(ls.getD i default).length:Nat):Int):=zoP (by omega)
   simp only [Wy.ev_i,Wy.ev_k,Wy.ev_h,Wy.ev_bn,Wy.ev_d,tT,hi,hw];have h0:decide (((n+(ls.getD i default).length:Nat):Int)<0)=false:=decide_eq_false (by omega)
   rw [h0,zN (by omega)]; rfl⟩)
  (λn hI H K D=>by
   show (zdg ls n ls ls.length ls.length).ev H K D=_;unfold zdg;simp only [Wy.ev_i,Wy.ev_k,tT,Nat.lt_irrefl]) (ls.length+Int.toNat (0:Int)+ls.length+(Int.ofNat ls.length).toNat +Int.toNat (0:Int)+(1:Nat)) 0 0 (by omega) (by omega) (by omega)
 rw [List.drop_zero,zc9] at h1;have h1:zlI (ls.length+Int.toNat (0:Int)+ls.length+(Int.ofNat ls.length).toNat +Int.toNat (0:Int)+(1:Nat)) ls 0 ls (Int.ofNat ls.length) 0=_:=h1
 have hb:∀ (r:yA) (n:Nat),(∀ l∈r,l.length<=300000)->r.foldl (λn (y:yC)=>n+y.length) n<=n+r.length*300000:=λr=>by
  induction r with
  | nil=>intro n _; simp
  | cons y r ih=>
   intro n hr;have q1:=ih (n+y.length) λl hl=>hr l (by simp [hl])
   have q2:=hr y (by simp)
   rw [List.foldl_cons,qf]; omega
 have hsz:=hb ls 0 h
 have h2:=zc8 (W:=zf4) (z:=default) (l:=ls) (λi (out:yC)=>((),ls,(ls.length:Int),(i:Int),())) (λ_ out=>(out,())) (λy out=>.inl (out++y)) (λout=>out) (λi out=>out.length<=i*300000)
  (λi out hi hI=>.inl ⟨_,rfl,by have:=e _ (zr hi); simp only [qg]; omega,λH K D=>by
   show (zc5 ls ls.length i out).ev H K D=_;unfold zc5;have hle:=e _ (zr hi);have hr:decide ((out.length+(ls.getD i default).length)*32<=zG)=true:=by simp only [qe]; omega
   simp only [Wy.ev_i,Wy.ev_k,Wy.ev_h,Wy.ev_bn,Wy.ev_d,tT,hi,hr];rw [zN (by omega)]⟩)
  (λout hI H K D=>by
   show (zc5 ls ls.length ls.length out).ev H K D=_;unfold zc5;simp only [Wy.ev_i,Wy.ev_k,tT,Nat.lt_irrefl]) (ls.length+(Int.ofNat ls.length).toNat +Int.toNat (0:Int)+([]:yC).length+(1:Nat)) 0 [] (by omega) (by omega) (by simp)
 rw [List.drop_zero,zc9] at h2;have h2:zle (ls.length+(Int.ofNat ls.length).toNat +Int.toNat (0:Int)+([]:yC).length+(1:Nat)) ls (Int.ofNat ls.length) 0 []=_:=h2
 have hf:∀ (r:yA) (out:yC),r.foldl (λout y=>out++y) out=out++r.flatten:=λr=>by
  induction r with
  | nil=>intro out; simp
  | cons y r ih=>intro out; rw [List.foldl_cons,ih,List.flatten_cons,List.append_assoc]
 rw [Wy.fin_bn,h1,cond_true];simp only [Wy.fin_bn,zbnK _ (show ls.foldl (λn (y:yC)=>n+y.length) 0<=4000000 by have:=Nat.mul_le_mul hn (Nat.le_refl 300000); omega),cond_true,h2,Wy.fin_k]
 rw [hf]; simp
theorem zbnc (n:Nat) (h:n<=4000000):zej (n:Int)=(true,[]):=by
 have hreach:zG=70368744177664:=rfl;unfold zej znJ;have e0:IntKind.i64.wrap ((0:Int) - 0)=0:=rfl;have e1:IntKind.i64.wrap ((n:Int) - 0)=(n:Int):=by rw [zjO (by omega) (by omega)]; omega
 have e2:decide ((n:Int)<0)=false:=decide_eq_false (by omega)
 rw [Wy.fin_i,e2,cond_false,e0,e1];by_cases hn:(n:Int)>0
 ·have e3:(true&&(decide ((n:Int)*Int.ofNat (128:Nat)<=Int.ofNat zG)&&(decide ((n:Int)<=Int.ofNat zG)&& !Nat.beq (11:Nat) (0:Nat))))=true:=by
   simp only [qc,qe,Int.ofNat_eq_natCast];exact ⟨trivial,by rw [hreach]; omega,by rw [hreach]; omega,rfl⟩
  rw [Wy.fin_i,decide_eq_true hn,cond_true,Wy.fin_i,e3,cond_true,Wy.fin_k];simp
 ·rw [Wy.fin_i,decide_eq_false hn]; rfl
theorem zbjQ (ls:List (yD)) (hn:ls.length<=10) (h:∀ l∈ls,l.length<=300000):zdT ls=(true,ls.flatten):=by
 have hreach:zG=70368744177664:=rfl;unfold zdT zmV;have e:∀ l:yD,l∈ls->l.length<=300000:=h
 have h1:=zc8 (W:=zgF) (z:=default) (l:=ls) (λi (n:Nat)=>(ls,(n:Int),ls,(ls.length:Int),(i:Int),())) (λ_ _=>()) (λy n=>.inl (n+y.length)) (λn=>(ls,(n:Int))) (λi n=>n<=i*300000)
  (λi n hi hI=>.inl ⟨_,rfl,by have:=e _ (zr hi); omega,λH K D=>by
   show (zdl ls n ls ls.length i).ev H K D=_;unfold zdl;have hle:=e _ (zr hi);have hw:IntKind.i64.wrap ((n:Int)+((ls.getD i default).length:Int))=((n+(ls.getD i default).length:Nat):Int):=zoP (by omega)
   simp only [Wy.ev_i,Wy.ev_k,Wy.ev_h,Wy.ev_bn,Wy.ev_d,tT,hi,hw];have h0:decide (((n+(ls.getD i default).length:Nat):Int)<0)=false:=decide_eq_false (by omega)
   rw [h0,zN (by omega)]; rfl⟩)
  (λn hI H K D=>by
   show (zdl ls n ls ls.length ls.length).ev H K D=_;unfold zdl;simp only [Wy.ev_i,Wy.ev_k,tT,Nat.lt_irrefl]) (ls.length+Int.toNat (0:Int)+ls.length+(Int.ofNat ls.length).toNat +Int.toNat (0:Int)+(1:Nat)) 0 0 (by omega) (by omega) (by omega)
 rw [List.drop_zero,zc9] at h1;have h1:zl3 (ls.length+Int.toNat (0:Int)+ls.length+(Int.ofNat ls.length).toNat +Int.toNat (0:Int)+(1:Nat)) ls 0 ls (Int.ofNat ls.length) 0=_:=h1
 have hb:∀ (r:List (yD)) (n:Nat),(∀ l∈r,l.length<=300000)->r.foldl (λn (y:yD)=>n+y.length) n<=n+r.length*300000:=λr=>by
  induction r with
  | nil=>intro n _; simp
  | cons y r ih=>
   intro n hr;have q1:=ih (n+y.length) λl hl=>hr l (by simp [hl])
   have q2:=hr y (by simp)
   rw [List.foldl_cons,qf]; omega
 have hsz:=hb ls 0 h
 have h2:=zc8 (W:=zgu) (z:=default) (l:=ls) (λi (out:yD)=>((),ls,(ls.length:Int),(i:Int),())) (λ_ out=>(out,())) (λy out=>.inl (out++y)) (λout=>out) (λi out=>out.length<=i*300000)
  (λi out hi hI=>.inl ⟨_,rfl,by have:=e _ (zr hi); simp only [qg]; omega,λH K D=>by
   show (zdd ls ls.length i out).ev H K D=_;unfold zdd;have hle:=e _ (zr hi);have hr:decide ((out.length+(ls.getD i default).length)*128<=zG)=true:=by simp only [qe]; omega
   simp only [Wy.ev_i,Wy.ev_k,Wy.ev_h,Wy.ev_bn,Wy.ev_d,tT,hi,hr];rw [zN (by omega)]⟩)
  (λout hI H K D=>by
   show (zdd ls ls.length ls.length out).ev H K D=_;unfold zdd;simp only [Wy.ev_i,Wy.ev_k,tT,Nat.lt_irrefl]) (ls.length+(Int.ofNat ls.length).toNat +Int.toNat (0:Int)+([]:yD).length+(1:Nat)) 0 [] (by omega) (by omega) (by simp)
 rw [List.drop_zero,zc9] at h2;have h2:zlE (ls.length+(Int.ofNat ls.length).toNat +Int.toNat (0:Int)+([]:yD).length+(1:Nat)) ls (Int.ofNat ls.length) 0 []=_:=h2
 have hf:∀ (r:List (yD)) (out:yD),r.foldl (λout y=>out++y) out=out++r.flatten:=λr=>by
  induction r with
  | nil=>intro out; simp
  | cons y r ih=>intro out; rw [List.foldl_cons,ih,List.flatten_cons,List.append_assoc]
 rw [Wy.fin_bn,h1,cond_true];simp only [Wy.fin_bn,zbnc _ (show ls.foldl (λn (y:yD)=>n+y.length) 0<=4000000 by have:=Nat.mul_le_mul hn (Nat.le_refl 300000); omega),cond_true,h2,Wy.fin_k]
 rw [hf]; simp
theorem zJ4 {d:Nat} (hd:d<=99):∀ (n:Nat) (a b out:yD),a.length+b.length<n->a.length+b.length+out.length<=1000000->(∀ x∈a,zc3 (zm d) x.At/\0<=x.Exp/\x.Exp<=1000000)->(∀ x∈b,0<=x.Exp/\x.Exp<=1000000)->
  ∃ a' b' out',zBp n a b out=(true,(a',b',out'))/\out'++(a'++b')=out++zbW a b/\a'.length<=a.length/\b'.length<=b.length/\out'.length<=out.length+a.length+b.length
 | 0,a,b,out,h,_,_,_=>by omega
 | n+1,a,b,out,h,hl,ha,hb=>by
  have hreach:zG=70368744177664:=rfl;show ∃ a' b' out',(zBG a b out).ev (λx y=>zBp n x.1 x.2.1 y.1) (λr=>(true,r)) (false,default)=_/\_
  unfold zBG
  match a,b,h,hl,ha,hb with
  | [],b,h,hl,ha,hb=>exact ⟨[],b,out,rfl,by rw [zbW]; simp,Nat.le_refl _,Nat.le_refl _,by omega⟩
  | x::a,[],h,hl,ha,hb=>
   have e1:decide (Int.ofNat (x::a).length>0)=true:=by simp
   refine ⟨x::a,[],out, ?_,by rw [zbW]; simp,Nat.le_refl _,Nat.le_refl _,by omega⟩
   rw [Wy.ev_i,e1,cond_true]; rfl
  | x::a,y::b,h,hl,ha,hb=>
   have hx:=ha x (by simp)
   have hy:=hb y (by simp)
   simp only [qf] at h hl;have e1:decide (Int.ofNat (x::a).length>0)=true:=by simp
   have e2:decide (Int.ofNat (y::b).length>0)=true:=by simp
   have e3:(decide ((0:Int)<=0)&&decide ((0:Int)<Int.ofNat (x::a).length))=true:=by simp
   have e4:(decide ((0:Int)<=0)&&decide ((0:Int)<Int.ofNat (y::b).length))=true:=by simp
   have e5:(x::a).getD (Int.toNat 0) default=x:=rfl;have e6:(y::b).getD (Int.toNat 0) default=y:=rfl;have e7:∀ z:Fc,decide ((out.length+[z].length)*128<=zG)=true:=λz=>by simp only [qe,List.length_singleton]; omega
   have e8:(decide ((0:Int)<=1)&&decide ((1:Int)<=Int.ofNat (x::a).length)&&decide (Int.ofNat (x::a).length<=Int.ofNat (x::a).length))=true:=by simp; omega
   have e9:(decide ((0:Int)<=1)&&decide ((1:Int)<=Int.ofNat (y::b).length)&&decide (Int.ofNat (y::b).length<=Int.ofNat (y::b).length))=true:=by simp; omega
   have e10:List.take ((Int.ofNat (x::a).length).toNat - Int.toNat 1) (List.drop (Int.toNat 1) (x::a))=a:=by rw [show Int.toNat 1=1 from rfl,zFa]; rfl
   have e11:List.take ((Int.ofNat (y::b).length).toNat - Int.toNat 1) (List.drop (Int.toNat 1) (y::b))=b:=by rw [show Int.toNat 1=1 from rfl,zFa]; rfl
   have ea:∀ z∈a,zc3 (zm d) z.At/\0<=z.Exp/\z.Exp<=1000000:=λz hz=>ha z (by simp [hz])
   have eb:∀ z∈b,0<=z.Exp/\z.Exp<=1000000:=λz hz=>hb z (by simp [hz])
   have ex:(FO.mk x.At x.Exp:Fc)=x:=rfl;have ey:(FO.mk y.At y.Exp:Fc)=y:=rfl;simp only [Wy.ev_i,Wy.ev_k,Wy.ev_h,Wy.ev_bn,Wy.ev_d,e1,e2,e3,e4,e5,e6,e7,e8,e9,e10,e11,cond_true,At.eta,zzn hx.1 hd,zbba,ex,ey];rw [zbW];have hcf:cF x y=zba (zdm x.At) (zdm y.At):=rfl;rw [<- hcf];by_cases h1:cF x y<0
   ·simp only [h1,decide_true,cond_true,if_true];obtain ⟨a',b',out',r1,r2,r3,r4,r5⟩:=zJ4 hd n a (y::b) (out++[x]) (by simp only [qf]; omega) (by simp only [qf,qg,List.length_nil]; omega) ea hb
    refine ⟨a',b',out',r1,by rw [r2]; simp,by simp only [qf]; omega,by simpa using r4,by simp only [qf,qg,List.length_nil] at r5 ⊢; omega⟩
   ·by_cases h2:0<cF x y
    ·have h2':cF x y>0:=h2;simp only [h1,h2,h2',decide_true,decide_false,cond_true,cond_false,if_true,if_false];obtain ⟨a',b',out',r1,r2,r3,r4,r5⟩:=zJ4 hd n (x::a) b (out++[y]) (by simp only [qf]; omega) (by simp only [qf,qg,List.length_nil]; omega) ha eb
     refine ⟨a',b',out',r1,by rw [r2]; simp,by simpa using r3,by simp only [qf]; omega,by simp only [qf,qg,List.length_nil] at r5 ⊢; omega⟩
    ·have h2':¬ cF x y>0:=h2;have hw:IntKind.i64.wrap (x.Exp+y.Exp)=x.Exp+y.Exp:=zjO (by omega) (by omega)
     simp only [h1,h2,h2',decide_false,cond_false,if_false,hw];have hk:(x.At.Kind==3||x.At.Kind==4)=decide (x.At.Kind=3\/x.At.Kind=4):=by rw [zhe,zhe, <- Bool.decide_or]
     rw [hk];by_cases h3:x.At.Kind=3\/x.At.Kind=4
     ·simp only [h3,decide_true,Bool.not_true,cond_false,if_true];obtain ⟨a',b',out',r1,r2,r3,r4,r5⟩:=zJ4 hd n a b (out++[x]) (by omega) (by simp only [qg,qf,List.length_nil]; omega) ea eb
      refine ⟨a',b',out',r1,by rw [r2]; simp,by simp only [qf]; omega,by simp only [qf]; omega,by simp only [qf,qg,List.length_nil] at r5 ⊢; omega⟩
     ·simp only [h3,decide_false,Bool.not_false,cond_true,if_false];obtain ⟨a',b',out',r1,r2,r3,r4,r5⟩:=zJ4 hd n a b (out++[⟨x.At,x.Exp+y.Exp⟩]) (by omega) (by simp only [qg,qf,List.length_nil]; omega) ea eb
      refine ⟨a',b',out',r1,by rw [r2]; simp,by simp only [qf]; omega,by simp only [qf]; omega,by simp only [qf,qg,List.length_nil] at r5 ⊢; omega⟩
theorem zbmi {d:Nat} (hd:d<=99) (a b:yD) (hl:a.length+b.length<=100000) (ha:∀ x∈a,zc3 (zm d) x.At/\0<=x.Exp/\x.Exp<=1000000) (hb:∀ x∈b,0<=x.Exp/\x.Exp<=1000000):zoo a b=(true,zbW a b):=by
 unfold zoo zMJ;obtain ⟨a',b',out',r1,r2,r3,r4,r5⟩:=zJ4 hd (a.length+b.length+(0:Nat)+(1:Nat)) a b [] (by omega) (by simp; omega) ha hb
 rw [Wy.fin_bn,r1,cond_true]
 have hc:=zbjQ [out',a',b'] (by simp) (λl hl'=>by
  simp only [qd,List.not_mem_nil,or_false] at hl';simp only [List.length_nil] at r5;rcases hl' with rfl | rfl | rfl <;>omega)
 simp only [Wy.fin_bn,hc,cond_true,Wy.fin_k];congr 1
 simpa using r2
theorem zbeN {a b:Int} (ha:1<=a/\a<=1152921504606846976) (hb:1<=b/\b<=1152921504606846976):zra a b=(true,zBW a b)/\zEa a b=(true,zBW a b):=by
 obtain ⟨h1,h2⟩:=zVZ ha hb;have h0:(!decide (b=(0:Int)))=true:=by rw [decide_eq_false (by omega)]; rfl
 have hq:0<=Int.tdiv 1152921504606846976 b/\Int.tdiv 1152921504606846976 b<=1152921504606846976:=by
  rw [Int.tdiv_eq_ediv_of_nonneg (by omega)]
  exact ⟨Int.ediv_nonneg (by omega) (by omega),Int.ediv_le_self _ (by omega)⟩
 have hw:IntKind.i64.wrap (Int.tdiv 1152921504606846976 b)=Int.tdiv 1152921504606846976 b:=zjO (by omega) (by omega)
 have key:∀ w:Int,(w=if Int.tdiv 1152921504606846976 b<a then 1152921504606846976 else IntKind.i64.wrap (a*b))->w=zBW a b:=λw e=>by
  rw [e]; unfold zBW;split
  ·rfl
  ·rename_i hn;have h3:=h2 hn;have h4:=Int.mul_nonneg (show 0<=a by omega) (show 0<=b by omega)
   exact zjO (by omega) (by omega)
 constructor
 ·unfold zra zKu;rw [Wy.fin_i,h0,cond_true,Wy.fin_i,hw,Wy.fin_k,Wy.fin_k];by_cases hc:Int.tdiv 1152921504606846976 b<a
  ·rw [decide_eq_true hc,cond_true]; exact congrArg (Prod.mk true) (key _ (by rw [if_pos hc]))
  ·rw [decide_eq_false hc,cond_false]; exact congrArg (Prod.mk true) (key _ (by rw [if_neg hc]))
 ·unfold zEa zX1;rw [Wy.fin_i,h0,cond_true,Wy.fin_i,hw,Wy.fin_k,Wy.fin_k];by_cases hc:Int.tdiv 1152921504606846976 b<a
  ·rw [decide_eq_true hc,cond_true]; exact congrArg (Prod.mk true) (key _ (by rw [if_pos hc]))
  ·rw [decide_eq_false hc,cond_false]; exact congrArg (Prod.mk true) (key _ (by rw [if_neg hc]))
theorem zwM {τ:Type} [Inhabited τ] {R:τ->τ->Prop} (ht:∀ x y z,R x y->R y z->R x z):∀ l:List τ,(∀ k,0<k->k<l.length->R (l.getD (k - 1) default) (l.getD k default))->l.Pairwise R
 | [],_=>.nil
 | [x],_=>by simp
 | x::y::r,h=>by
  have h1:R x y:=h 1 (by omega) (by simp)
  have h2:=zwM ht (y::r) λk hk hl=>by
   have:=h (k+1) (by omega) (by simpa using hl)
   obtain ⟨j,rfl⟩:∃ j,k=j+1:=⟨k - 1,by omega⟩
   exact this
  refine qi.2 ⟨λz hz=> ?_,h2⟩
  rcases qd.1 hz with rfl | hz
  ·exact h1
  ·exact ht x y z h1 ((qi.1 h2).1 z hz)
def GF (f:Fc):Prop:=(zd8 (zbJ 9) f.At=true/\zf9 f.At/\f.At.Items.length<=1024)/\1<=f.Exp/\f.Exp<=1000000
def GT (t:Term):Prop:=cOK t/\t.Fs.length<=1000/\∀ f∈t.Fs,GF f
def VT (t:Term):Prop:=GT t/\Srf t.Fs/\t.Fs.length<=64/\∀ f∈t.Fs,eOK f/\f.Exp<=64
theorem zkr {a:yC} (h:zF a=true) (hw:zgo a):Srs a/\a.length<=512/\∀ t∈a,VT t:=by
 have h9:=zON h (Nat.le_refl 9);rw [z9t] at h;obtain ⟨w1,w2,w3,w4⟩:=zuc (zKw h);have hall:=h;simp only [zAb,qc] at hall;refine ⟨zwM (R:=λx y=>cT x y<0) (λx y z h1 h2=>zI7 h1 h2) a λk hk hl=> ?_,w1,λt ht=> ?_⟩
 ·have:=zdV.1 hall.2 k (by omega) (by omega)
  simp only [zG0,qc,Bool.or_eq_true,qe] at this;rcases this.1.2 with e | e
  ·omega
  ·exact e
 ·obtain ⟨hc,hok⟩:=zxN h ht;obtain ⟨l1,l2⟩:=w4 t ht;have hwt:=zl7 (zux (zqr hw t ht)).2.1;refine ⟨⟨hc,by omega,λf hf=> ?_⟩,zwM (R:=λx y=>cF x y<0) (λx y z h1 h2=>zI1 h1 h2) _ λk hk hl=> ?_,l1,λf hf=> ?_⟩
  ·obtain ⟨⟨e1,_⟩,hv⟩:=zqg hok hf;exact ⟨⟨by rw [zbjL (Nat.le_refl 9)]; exact hv,(znM (hwt f hf)).1,(l2 f hf).2⟩,e1,by have:=(l2 f hf).1; omega⟩
  ·have:=zdV.1 hok k (by omega) (by omega)
   simp only [zSM,qc,Bool.or_eq_true,qe] at this;rcases this.1.2 with e | e
   ·omega
   ·exact e
  ·obtain ⟨⟨_,e2⟩,hv⟩:=zqg hok hf;exact ⟨⟨zF4 hv,e2⟩,(l2 f hf).1⟩
theorem znu {m:Nat} {x:At} (h:zd8 (zbJ m) x=true) (hi:x.Items.length<=1024):zc3 (zm 9) x:=by
 cases zdD.1 h with
 | var r h=>exact ⟨⟨by simp,by simp,by show (ByteArray.mk #[]).size<=_; decide⟩,λa ha=>(by cases ha),λw hw=>(by cases hw)⟩
 | mon b c hb hc _ _ _=>
  refine ⟨⟨by simp,by simp,by show (ByteArray.mk #[]).size<=_; decide⟩,λy hy=> ?_,λw hw=>(by cases hw)⟩
  simp only [qd,List.not_mem_nil,or_false] at hy;rcases hy with rfl | rfl
  ·exact (zeJ hb).1
  ·exact (zeJ hc).1
 | del b hb _ _ _=>
  refine ⟨⟨by simp,by simp,by show (ByteArray.mk #[]).size<=_; decide⟩,λy hy=> ?_,λw hw=>(by cases hw)⟩
  rw [qh] at hy; subst hy; exact (zeJ hb).1
 | abs b hb _ _=>
  refine ⟨⟨by simp,by simp,by show (ByteArray.mk #[]).size<=_; decide⟩,λy hy=> ?_,λw hw=>(by cases hw)⟩
  rw [qh] at hy; subst hy; exact (zeJ hb).1
 | tst f l o b hl hv hs hf=>
  obtain ⟨_,hb,hit⟩:=zuk hf;simp only at hi;exact ⟨⟨by simp,by simp only; omega,by have:=zxP hb; simp only; omega⟩,λa ha=>(by cases ha),λw hw=>⟨by have:=zxP (hit w hw).1; omega,(zeJ (hv w hw).1).1⟩⟩
theorem GT.fine {t:Term} (h:GT t):zbO (zm 9) t.Fs:=⟨by have:=h.2.1; omega,λf hf=>znu (h.2.2 f hf).1.1 (h.2.2 f hf).1.2.2⟩
theorem GF.gF {f:Fc} (h:GF f):gF (zbJ 9) f:=⟨h.1.1,h.1.2.1,by constructor <;>(have:=h.2; omega)⟩
theorem GT.text {t:Term} (h:GT t):zrs t.Fs=(true,bs (txL t.Fs)):=
 (zbd7 1000).2.2 9 t.Fs h.2.1 (λf hf=>⟨(h.2.2 f hf).1.1,(h.2.2 f hf).1.2.1,(h.2.2 f hf).1.2.2,(h.2.2 f hf).gF.2.2⟩) (by omega)
theorem GT.inj {s t:Term} (hs:GT s) (ht:GT t) (h:bs (txL s.Fs)=bs (txL t.Fs)):s.Fs=t.Fs:=
 zblM (λf hf=>(hs.2.2 f hf).gF) (λf hf=>(ht.2.2 f hf).gF) (zbnT h)
def zpT:Int->yC->List (Go.Value×Int)
 | _,[]=>[]
 | i,t::r=>(.string (bs (txL t.Fs)),i)::zpT (i+1) r
def zL3 (k:ByteArray):yC->Option Nat
 | []=>none
 | t::r=>if k=bs (txL t.Fs) then some 0 else (zL3 k r).map (· +1)
theorem zRP (k:ByteArray) (t:Term) (r:yC):zL3 k (t::r)=if k=bs (txL t.Fs) then some 0 else (zL3 k r).map (· +1):=rfl
theorem zbkb (a b:ByteArray):zmz (.string a) (.string b)=decide (a=b):=by
 cases a with | mk x=>cases b with | mk y=>
 show (x==y)=_;by_cases h:x=y
 ·subst h; simp
 ·have:(x==y)=false:=by rw [beq_eq_false_iff_ne]; exact h
  rw [this]; simp [h]
theorem zbfD (k:ByteArray):∀ (o:yC) (i:Int),zbh0 (.string k) (zpT i o)=(zL3 k o).isSome
 | [],i=>rfl
 | t::r,i=>by
  show (bif zmz (.string k) (.string (bs (txL t.Fs))) then true else zbh0 (.string k) (zpT (i+1) r))=_
  rw [zbkb,zbfD k r,zRP];by_cases h:k=bs (txL t.Fs)
  ·rw [decide_eq_true h,if_pos h]; rfl
  ·rw [decide_eq_false h,if_neg h]; cases zL3 k r <;>rfl
theorem zbfd (k:ByteArray):∀ (o:yC) (i:Int),zGo (.string k) (zpT i o)=(zL3 k o).map λj:Nat=>i+(j:Int)
 | [],i=>rfl
 | t::r,i=>by
  show (bif zmz (.string k) (.string (bs (txL t.Fs))) then some i else zGo (.string k) (zpT (i+1) r))=_
  rw [zbkb,zbfd k r,zRP];by_cases h:k=bs (txL t.Fs)
  ·rw [decide_eq_true h,if_pos h]; simp
  ·rw [decide_eq_false h,if_neg h];cases zL3 k r with
   | none=>rfl
   | some j=>
    have e:i+1+(j:Int)=i+((j+1:Nat):Int):=by omega
    simp only [cond_false,Option.map_some,e]
theorem zbfk (k:ByteArray) (x:Int):∀ (o:yC) (i:Int),zL3 k o=none->zbhO (.string k) x (zpT i o)=zpT i o++[(.string k,x)]
 | [],i,_=>rfl
 | t::r,i,h=>by
  rw [zRP] at h;by_cases hk:k=bs (txL t.Fs)
  ·rw [if_pos hk] at h; cases h
  ·rw [if_neg hk] at h;show (bif zmz (.string k) (.string (bs (txL t.Fs))) then _ else (.string (bs (txL t.Fs)),i)::zbhO (.string k) x (zpT (i+1) r))=_
   rw [zbkb,decide_eq_false hk,zbfk k x r (i+1) (by cases hp:zL3 k r with | none=>rfl | some j=>rw [hp] at h; cases h)]
   rfl
theorem zbbV (t:Term):∀ (o:yC) (i:Int),zpT i (o++[t])=zpT i o++[(.string (bs (txL t.Fs)),i+(o.length:Int))]
 | [],i=>by simp [zpT]
 | x::r,i=>by
  have e:i+1+(r.length:Int)=i+((r.length+1:Nat):Int):=by omega
  simp only [List.cons_append,zpT,qf,zbbV t r,e]
theorem zbbU (y:Term):∀ (o:yC) (j:Nat) (i:Int),(o.getD j default).Fs=y.Fs->zpT i (o.set j y)=zpT i o
 | [],j,i,_=>rfl
 | x::r,0,i,h=>by simp only [List.set_cons_zero,zpT]; rw [show x.Fs=y.Fs from h]
 | x::r,j+1,i,h=>by simp only [List.set_cons_succ,zpT]; rw [zbbU y r j (i+1) h]
theorem zbgr {t:Term} (ht:GT t):∀ {o:yC},(∀ x∈o,GT x)->(match zL3 (bs (txL t.Fs)) o with
  | some j=>j<o.length/\(o.getD j default).Fs=t.Fs/\znQ t o=o.set j ⟨zAZ (o.getD j default).Cf t.Cf,(o.getD j default).Fs⟩
  | none=>znQ t o=o++[t])
 | [],_=>rfl
 | x::r,h=>by
  have ih:=zbgr ht (o:=r) λy hy=>h y (by simp [hy])
  rw [zRP];unfold znQ;by_cases hk:bs (txL t.Fs)=bs (txL x.Fs)
  ·have e:=GT.inj ht (h x (by simp)) hk
   rw [if_pos hk,if_pos e.symm];exact ⟨by simp,e.symm,rfl⟩
  ·have e:¬ x.Fs=t.Fs:=λe=>hk (by rw [e])
   rw [if_neg hk,if_neg e];cases hp:zL3 (bs (txL t.Fs)) r with
   | none=>rw [hp] at ih; simp only [Option.map_none]; rw [ih]; rfl
   | some j=>
    rw [hp] at ih;obtain ⟨i1,i2,i3⟩:=ih;simp only [Option.map_some];exact ⟨by simp; exact i1,i2,by rw [i3]; rfl⟩
theorem zbiH {t:Term} (ht:GT t) {o:yC} (ho:∀ x∈o,GT x):∀ x∈znQ t o,GT x:=by
 induction o with
 | nil=>intro x hx; simp only [znQ,qh] at hx; subst hx; exact ht
 | cons y r ih=>
  intro x hx;unfold znQ at hx;split at hx
  ·rcases qd.1 hx with rfl | hx
   ·have:=ho y (by simp)
    exact ⟨zbby this.1.1 ht.1.1,this.2⟩
   ·exact ho x (by simp [hx])
  ·rcases qd.1 hx with rfl | hx
   ·exact ho x (by simp)
   ·exact ih (λz hz=>ho z (by simp [hz])) x hx
theorem zba2 (t:Term):∀ o:yC,(znQ t o).length<=o.length+1
 | []=>by simp [znQ]
 | y::r=>by
  have:=zba2 t r;unfold znQ;split
  ·simp
  ·simp only [qf]; omega
theorem zbiI (ts:yC) (hl:ts.length<=1000000) (h:∀ t∈ts,GT t) (n:Nat) (hn:ts.length<n):zwi n ts ts.length 0 [] []=(true,zRh ts):=by
 have hreach:zG=70368744177664:=rfl
 have h2:=zc8 (W:=zwK) (z:=default) (l:=ts) (λi (out:yC)=>((),(),ts,(ts.length:Int),(i:Int),())) (λ_ out=>(zpT 0 out,out,())) (λt out=>.inl (znQ t out)) (λout=>out) (λi out=>out.length<=i/\∀ t∈out,GT t)
  (λi out hi hI=>.inl ⟨_,rfl,⟨by have:=zba2 (ts.getD i default) out; omega,zbiH (h _ (zr hi)) hI.2⟩,λH K D=>by
   show (zkH ts ts.length i (zpT 0 out) out).ev H K D=_;unfold zkH;have ht:=h _ (zr hi);have hp:=zbgr ht hI.2;have hhas:=zbfD (bs (txL (ts.getD i default).Fs)) out 0;have hget:=zbfd (bs (txL (ts.getD i default).Fs)) out 0;simp only [Wy.ev_i,Wy.ev_k,Wy.ev_h,Wy.ev_bn,Wy.ev_d,tT,hi,ht.text];rw [hhas,hget,zN (by omega)]
   cases hpos:zL3 (bs (txL (ts.getD i default).Fs)) out with
   | none=>
    rw [hpos] at hp;have hb:decide ((out.length+[ts.getD i default].length)*32<=zG)=true:=by simp only [qe,List.length_singleton]; omega
    simp only [Option.isSome_none,cond_false,hb,cond_true];rw [zbfk _ _ _ _ hpos,hp,zbbV];simp
   | some j=>
    rw [hpos] at hp;obtain ⟨p1,p2,p3⟩:=hp;have hj:=hI.2 _ (zr p1);have hw:IntKind.i64.wrap ((out.getD j default).Cf+(ts.getD i default).Cf)=(out.getD j default).Cf+(ts.getD i default).Cf:=zbgM ⟨by have:=hj.1.1; omega,hj.1.2⟩ ⟨by have:=ht.1.1; omega,ht.1.2⟩
    have e1:(0:Int)+(j:Int)=(j:Int):=by omega
    have e2:decide (j<out.length)=true:=decide_eq_true p1;simp only [Option.isSome_some,Option.map_some,Option.getD_some,e1,cond_true,tT,e2,hw];rw [p3,zbbU ⟨zAZ (out.getD j default).Cf (ts.getD i default).Cf,(out.getD j default).Fs⟩ out j 0 rfl];rfl⟩)
  (λout hI H K D=>by
   show (zkH ts ts.length ts.length (zpT 0 out) out).ev H K D=_;unfold zkH;simp only [Wy.ev_i,Wy.ev_k,tT,Nat.lt_irrefl]) n 0 [] (by omega) (by omega) ⟨by simp,λt ht=>by cases ht⟩
 rw [List.drop_zero,zc9] at h2;exact h2
theorem zbgD:∀ (ts o:yC),(∀ t∈ts,GT t)->(∀ t∈o,GT t)->∀ x∈ts.foldl (λa t=>znQ t a) o,GT x
 | [],o,_,ho=>ho
 | t::r,o,h,ho=>zbgD r (znQ t o) (λx hx=>h x (by simp [hx])) (zbiH (h t (by simp)) ho)
theorem zbb3:∀ (ts o:yC),(ts.foldl (λa t=>znQ t a) o).length<=o.length+ts.length
 | [],o=>by simp
 | t::r,o=>by
  have h1:=zbb3 r (znQ t o);have h2:=zba2 t o;rw [List.foldl_cons,qf]; omega
theorem z7E (ts:yC) (hl:ts.length<=1000000) (h:∀ t∈ts,GT t):zim ts=(true,zdS [] ts):=by
 unfold zim zGB;have hL:=zbiI ts hl h (ts.length+(Int.ofNat ts.length).toNat +Int.toNat (0:Int)+(0:Nat)+(0:Nat)+(1:Nat)) (by omega)
 have hL:zwi (ts.length+(Int.ofNat ts.length).toNat +Int.toNat (0:Int)+(0:Nat)+(0:Nat)+(1:Nat)) ts (Int.ofNat ts.length) 0 [] []=_:=hL;rw [Wy.fin_bn,hL,cond_true];obtain ⟨hp,hd⟩:=zbbP ts [] [] .nil .nil .nil;have hs:=zIN ts [] .nil;have hg:∀ x∈zRh ts,GT x:=zbgD ts [] h λx hx=>by cases hx
 have hlen:(zRh ts).length<=1000000:=by have:=zbb3 ts []; simp at this; exact Nat.le_trans this hl
 have e:∀ x∈zRh ts,∀ y,zb8 x y=(true,cT x y):=λx hx y=>zzc (hg x hx).fine (by omega) y
 have ok:SortOK zb8 (zRh ts):=by
  refine ⟨by omega,λx hx y _=>by rw [e x hx],λx hx=> ?_,λx hx y hy z hz h1 h2=> ?_,λx hx y hy z hz h1 h2=> ?_,λx hx y hy h1 h2=> ?_⟩
  ·rw [e x hx]; have:=zFA (x:=x) (y:=x) rfl; simp only; omega
  ·rw [e x hx] at h1 ⊢; rw [e y hy] at h2;exact zI7 h1 h2
  ·rw [e x hx] at h1 ⊢; rw [e y hy] at h2;simp only at h1 h2 ⊢;have a1:=zJg x y;have a2:=zJg y z;have a3:=zJg x z;have:=zNy (zbD z.Fs) (zbD y.Fs) (zbD x.Fs) (show cT z y<=0 by omega) (show cT y x<=0 by omega)
   have:cT z x<=0:=this;omega
  ·rw [e x hx] at h1; rw [e y hy] at h2;simp only at h1 h2;have a1:=zJg x y;have hz:x.Fs=y.Fs:=z29 (by omega)
   by_cases hxy:x=y
   ·exact hxy
   ·exfalso
    -- two terms with the same factors are one
    have hdd:Dst (zRh ts):=hd;have:=List.pairwise_iff_getElem.1 hdd;obtain ⟨i,hi,ei⟩:=List.mem_iff_getElem.1 hx;obtain ⟨j,hj,ej⟩:=List.mem_iff_getElem.1 hy;rcases Nat.lt_trichotomy i j with hij | hij | hij
    ·exact this i j hi hj hij (by rw [ei,ej]; exact hz)
    ·subst hij; exact hxy (ei.symm.trans ej)
    ·exact this j i hj hi hij (by rw [ei,ej]; exact hz.symm)
 unfold zbZ zu7;simp only [Wy.fin_bn,Wy.fin_k,decide_eq_true ok,cond_true];congr 1;refine (ok.unique (hp:(zdS [] ts).Perm (zRh ts)) ?_).symm;refine hs.imp_of_mem λ{x y} hx hy hxy=> ?_
 rw [e y ((hp:(zdS [] ts).Perm (zRh ts)).mem_iff.1 hy)];have:=zJg x y;simp only; omega
mutual
theorem zbfT:∀ x:At,zfm x<=zJk x
 | ⟨_,_,a,_,i,_,_⟩=>by
  rw [zfm,zJk];have h1:=z5y a;have h2:=z0G i;omega
theorem zUU:∀ l:yD,zby l<=zhr l
 | []=>by rw [zby,zhr]; exact Nat.le_refl _
 | ⟨x,_⟩::r=>by
  rw [zby,zhr];have h1:=zbfT x;have h2:=zUU r;omega
theorem zNa:∀ l:yC,zK l<=zez l
 | []=>by rw [zK,zez]; exact Nat.le_refl _
 | ⟨_,fs⟩::r=>by
  rw [zK,zez];have h1:=zUU fs;have h2:=zNa r;omega
theorem z5y:∀ l:yA,zfo l<=zq8 l
 | []=>by rw [zfo,zq8]; exact Nat.le_refl _
 | a::r=>by
  rw [zfo,zq8];have h1:=zNa a;have h2:=z5y r;omega
theorem z0G:∀ l:yE,zdo l<=l.length+zlV l
 | []=>by rw [zdo,zlV]; exact Nat.zero_le _
 | ⟨_,a⟩::r=>by
  rw [zdo,zlV];have h1:=zNa a;have h2:=z0G r;simp only [qf];omega
end
theorem zbkP (d:Nat):zm (d+1) []:=⟨by simp,λt ht=>by cases ht⟩
theorem zUq {B:Nat}:∀ l:yD,(∀ f∈l,zfm f.At<=B)->zby l<=l.length*B
 | [],_=>by rw [ziK]; simp
 | f::r,h=>by
  have h1:=h f (by simp)
  have h2:=zUq r λg hg=>h g (by simp [hg])
  rw [zcC,qf,Nat.add_mul]; omega
theorem z9k {B:Nat}:∀ l:yC,(∀ t∈l,1+t.Fs.length+zby t.Fs<=B)->zK l<=l.length*B
 | [],_=>by rw [zqd]; simp
 | f::r,h=>by
  have h1:=h f (by simp)
  have h2:=z9k r λg hg=>h g (by simp [hg])
  rw [zcp,qf,Nat.add_mul]; omega
theorem z0Y {l:yC} (hl:l.length<=1000000) (h:∀ t∈l,GT t):zm 10 l/\zK l<=4611686018427387904:=by
 refine ⟨⟨hl,λt ht=>(h t ht).fine⟩, ?_⟩
 refine Nat.le_trans (z9k (B:=4195330000) l λt ht=> ?_) (by have:=Nat.mul_le_mul hl (Nat.le_refl 4195330000); omega)
 have hg:=h t ht;have h1:=zUq (B:=4195328) t.Fs λf hf=>z48 (hg.2.2 f hf).1.1 (hg.2.2 f hf).1.2.2
 have:=Nat.mul_le_mul hg.2.1 (Nat.le_refl 4195328);have:=hg.2.1;omega
theorem zbe1 {t:Term} (ht:GT t) {l:yC} (hs:Srs l) (h:∀ x∈l,GT x):∀ x∈ze6 t l,GT x:=λx hx=>by
 have hc:=zbdo ht.1 (λy hy=>(h y hy).1) x hx
 rcases (zCK hs).1 hx with ⟨h1,_⟩ | ⟨h1,_⟩
 ·exact h x h1
 ·exact ⟨hc,by rw [h1]; exact ht.2⟩
theorem zKQ:∀ (b a:yC),Srs a->(∀ x∈a,GT x)->(∀ x∈b,GT x)->∀ x∈zdS a b,GT x
 | [],_,_,ha,_=>ha
 | t::r,a,hs,ha,hb=>zKQ r (ze6 t a) (zzS hs) (zbe1 (hb t (by simp)) hs ha) λx hx=>hb x (by simp [hx])
theorem zV4 {x y:Term} (hx:VT x) (hy:VT y):GT (zmy x y):=by
 obtain ⟨gx,sx,lx,ex⟩:=hx;obtain ⟨gy,sy,ly,ey⟩:=hy;refine ⟨(zVZ gx.1 gy.1).1,by have:=zPm x.Fs y.Fs; show (zbW x.Fs y.Fs).length<=1000; omega,λf hf=> ?_⟩
 obtain ⟨g,hg,e⟩:=zrJ hf;have hb:=zO6 (B:=64) (λz hz=>⟨(gx.2.2 z hz).2.1,(ex z hz).2⟩) (λz hz=>⟨(gy.2.2 z hz).2.1,(ey z hz).2⟩) hf
 have hv:(zd8 (zbJ 9) g.At=true/\zf9 g.At/\g.At.Items.length<=1024):=by
  rcases hg with hg | hg
  ·exact (gx.2.2 g hg).1
  ·exact (gy.2.2 g hg).1
 exact ⟨by rw [e]; exact hv,hb.1,by omega⟩
theorem zWW {a b:yC} (ha:∀ t∈a,VT t) (hb:∀ t∈b,VT t):∀ t∈zey a b,GT t:=λt ht=>by
 obtain ⟨x,hx,y,hy,rfl⟩:=zKE ht;exact zV4 (ha x hx) (hb y hy)
theorem zbmK {x y:Term} (hx:VT x) (hy:VT y):zoo x.Fs y.Fs=(true,zbW x.Fs y.Fs):=by
 obtain ⟨gx,sx,lx,ex⟩:=hx;obtain ⟨gy,sy,ly,ey⟩:=hy;exact zbmi (d:=9) (by omega) _ _ (by omega) (λf hf=>⟨znu (gx.2.2 f hf).1.1 (gx.2.2 f hf).1.2.2,by have:=(gx.2.2 f hf).2; omega⟩) λf hf=>by have:=(gy.2.2 f hf).2; omega
theorem zbn8 (a b:yC) (i:Int) (x:Term) (hx:VT x) (hb:∀ t∈b,VT t) (hbl:b.length<=512) (terms:yC) (hl:terms.length<=1000000) (n:Nat) (hn:b.length<n):
  zMF n b a a.length i b b.length 0 terms x=(true,(b,a,(a.length:Int),i,terms++b.map (zmy x))):=by
 have hreach:zG=70368744177664:=rfl
 have:=zdW (W:=zDm) (z:=default) b.length (λj=>(b,(),(),a,(a.length:Int),i,b,(b.length:Int),(j:Int),())) (λj=>(terms++(b.take j).map (zmy x),x,())) (λ_=>true) default (b,a,(a.length:Int),i,terms++b.map (zmy x))
  (λj hj H K D=>by
   show (zpf b a a.length i b b.length j (terms++(b.take j).map (zmy x)) x).ev H K D=_;unfold zpf;have hy:=hb _ (zr hj);have hr:decide (((terms++(b.take j).map (zmy x)).length+1)*32<=zG)=true:=by simp only [qe,qg,List.length_map,List.length_take]; omega
   simp only [Wy.ev_i,Wy.ev_k,Wy.ev_h,Wy.ev_bn,Wy.ev_d,tT,hj,(zbeN hx.1.1 hy.1.1).1,zbmK hx hy,List.length_singleton,hr];rw [zN (by omega),ziL hj,List.map_append, <- List.append_assoc]
   rfl)
  (λH K D=>by
   show (zpf b a a.length i b b.length b.length (terms++(b.take b.length).map (zmy x)) x).ev H K D=_;unfold zpf;simp only [Wy.ev_i,Wy.ev_k,tT,Nat.lt_irrefl,List.take_length]) n hn
 rw [show zek (λ_=>true) b.length 0=true from zdV.2 λ_ _ _=>rfl] at this
 simp only [List.take_zero,List.map_nil,List.append_nil] at this;exact this
theorem zbou (a b:yC) (ha:∀ t∈a,VT t) (hb:∀ t∈b,VT t) (hal:a.length<=512) (hbl:b.length<=512) (n:Nat) (hn:a.length<n):
  zDi n b a a.length 0 []=(true,zey a b):=by
 have:=zdW (W:=zDc) (z:=default) a.length (λi=>(b,(),a,(a.length:Int),(i:Int),())) (λi=>(zey (a.take i) b,())) (λ_=>true) default (zey a b)
  (λi hi H K D=>by
   show (zpm b a a.length i (zey (a.take i) b)).ev H K D=_;unfold zpm;have hx:=ha _ (zr hi)
   have hlen:(zey (a.take i) b).length<=1000000:=by
    rw [zRX,List.length_take];have:=Nat.mul_le_mul (show min i a.length<=512 by omega) hbl
    omega
   simp only [Wy.ev_i,Wy.ev_k,Wy.ev_h,Wy.ev_bn,Wy.ev_d,tT,hi];rw [zbn8 a b i _ hx hb hbl _ hlen _ (by omega)]
   simp only [cond_true];rw [zN (by omega),ziL hi]
   have e:zey (a.take i++[a.getD i default]) b=zey (a.take i) b++b.map (zmy (a.getD i default)):=by
    unfold zey; rw [List.flatMap_append]; simp
   rw [e])
  (λH K D=>by
   show (zpm b a a.length a.length (zey (a.take a.length) b)).ev H K D=_;unfold zpm;simp only [Wy.ev_i,Wy.ev_k,tT,Nat.lt_irrefl,List.take_length]) n hn
 rw [show zek (λ_=>true) a.length 0=true from zdV.2 λ_ _ _=>rfl] at this
 exact this
theorem szTs_get' (a:yC) (i:Nat) (h:i<a.length):(a.getD i default).Fs.length<=zbV a:=zP4 a i h
theorem zbj5 (a b:yC) (i:Int) (k:Nat) (hk:k<b.length) (out:yC) (c:Int) (x:Term) (hx:VT x) (hy:VT (b.getD k default)) (n:Nat) (hn:(b.getD k default).Fs.length<n):
  zMA n a b i k 0 out c x.Fs=(true,(a,b,i,(k:Int),out,c,zbW x.Fs (b.getD k default).Fs)):=by
 obtain ⟨gx,sx,lx,ex⟩:=hx;obtain ⟨gy0,sy,ly,ey⟩:=hy;have gy:∀ f∈(b.getD k default).Fs,GF f:=gy0.2.2;have sy:Srf (b.getD k default).Fs:=sy;clear gy0;generalize hF:(b.getD k default).Fs=F at *
 have key:∀ j,j<F.length->zLA (F.getD j default) (zbW x.Fs (F.take j))=zbW x.Fs (F.take (j+1)):=λj hj=>by
  have e1:=zWC (F.take j) x.Fs (sy.sublist (List.take_sublist _ _)) (λz hz=>(ex z hz).1) λz hz=>(ey z (List.mem_of_mem_take hz)).1
  have e2:=zWC (F.take (j+1)) x.Fs (sy.sublist (List.take_sublist _ _)) (λz hz=>(ex z hz).1) λz hz=>(ey z (List.mem_of_mem_take hz)).1
  rw [<- e1, <- e2,ziL hj,List.foldl_append]; rfl
 have:=zdW (W:=zDn) (z:=default) F.length (λj=>(a,b,(),i,(k:Int),(),(j:Int),())) (λj=>(out,(c,zbW x.Fs (F.take j),()),())) (λ_=>true) default (a,b,i,(k:Int),out,c,zbW x.Fs F)
  (λj hj H K D=>by
   show (zpz a b i k j out c (zbW x.Fs (F.take j))).ev H K D=_;unfold zpz;have hlen:=zPm x.Fs (F.take j);rw [List.length_take] at hlen;have hex:=λz (hz:z∈zbW x.Fs (F.take j))=>zO6 (B:=64) (λz hz=>⟨(gx.2.2 z hz).2.1,(ex z hz).2⟩) (λz hz=>⟨(gy z (List.mem_of_mem_take hz)).2.1,(ey z (List.mem_of_mem_take hz)).2⟩) hz
   have hfine:∀ z∈zbW x.Fs (F.take j),zc3 (zm 9) z.At:=λz hz=>by
    obtain ⟨w,hw,e⟩:=zrJ hz;rw [e];rcases hw with hw | hw
    ·exact znu (gx.2.2 w hw).1.1 (gx.2.2 w hw).1.2.2
    ·exact znu (gy w (List.mem_of_mem_take hw)).1.1 (gy w (List.mem_of_mem_take hw)).1.2.2
   have hm:=zr hj;have e1:decide ((k:Int)<Int.ofNat b.length)=true:=by simp [hk]
   have e2:decide ((j:Int)<Int.ofNat F.length)=true:=by simp [hj]
   have efx:(FO.mk (F.getD j default).At (F.getD j default).Exp:Fc)=F.getD j default:=rfl;simp only [At.eta,Wy.ev_i,Wy.ev_k,Wy.ev_h,Wy.ev_bn,Wy.ev_d,zfq,Bool.and_self,cond_true,Int.toNat_natCast,hF,e1,e2,efx];rw [zbl2 (d:=9) _ _ (by omega) hfine (by omega) (λz hz=>by have:=hex z hz; omega) (by have:=(gy _ hm).2; omega),cond_true,zN (by omega),key j hj])
  (λH K D=>by
   show (zpz a b i k F.length out c (zbW x.Fs (F.take F.length))).ev H K D=_;unfold zpz;have e1:decide ((k:Int)<Int.ofNat b.length)=true:=by simp [hk]
   have e2:decide ((F.length:Int)<Int.ofNat F.length)=false:=by simp
   simp only [Wy.ev_i,Wy.ev_k,zfq,Bool.and_self,cond_true,cond_false,Int.toNat_natCast,hF,e1,e2,List.take_length]) n hn
 rw [show zek (λ_=>true) F.length 0=true from zdV.2 λ_ _ _=>rfl] at this
 simp only [List.take_zero,zRE] at this;exact this
theorem zblR (a b:yC) (i:Nat) (hi:i<a.length) (hal:a.length<=512) (hbl:b.length<=512) (hx:VT (a.getD i default)) (hb:∀ t∈b,VT t) (out:yC) (ho:out.length<=i*512) (hs:Srs out) (hg:∀ t∈out,GT t) (n:Nat) (hn:b.length<n):
  zOU n a b i 0 out=(true,(a,b,(i:Int),zdS out (b.map (zmy (a.getD i default))))):=by
 have:=zc8 (W:=zEZ) (z:=default) (l:=b) (λk (o:yC)=>(a,b,(),(i:Int),(k:Int),())) (λ_ o=>(o,())) (λy o=>.inl (ze6 (zmy (a.getD i default) y) o)) (λo=>(a,b,(i:Int),o)) (λk o=>(o.length<=i*512+k/\Srs o)/\∀ t∈o,GT t)
  (λk o hk hI=>.inl ⟨_,rfl,⟨⟨by have:=zTW (t:=zmy (a.getD i default) (b.getD k default)) o; omega,zzS hI.1.2⟩,zbe1 (zV4 hx (hb _ (zr hk))) hI.1.2 hI.2⟩,λH K D=>by
   show (zrU a b i k o).ev H K D=_;unfold zrU;have hy:=hb _ (zr hk);have hsz:=szTs_get' b k hk;simp only [Wy.ev_i,Wy.ev_k,Wy.ev_h,Wy.ev_bn,Wy.ev_d,tT,hk,hi,(zbeN hx.1.1 hy.1.1).2];rw [zbj5 a b i k hk o _ _ hx hy _ (by omega)]
   simp only [cond_true];have e:(TO.mk (zBW (a.getD i default).Cf (b.getD k default).Cf) (zbW (a.getD i default).Fs (b.getD k default).Fs):Term)=zmy (a.getD i default) (b.getD k default):=rfl;have hg:=zV4 hx hy;rw [e,zbbq (d:=9) o _ (by omega) (λz hz=>(hI.2 z hz).fine) (by omega) (λz hz=>(hI.2 z hz).1) hg.1]
   simp only [cond_true];rw [zN (by omega)]⟩)
  (λo hI H K D=>by
   show (zrU a b i b.length o).ev H K D=_;unfold zrU;simp only [Wy.ev_i,Wy.ev_k,tT,Nat.lt_irrefl]) n 0 out (by omega) (by omega) (show (out.length<=i*512+0/\Srs out)/\∀ t∈out,GT t from ⟨⟨Nat.le_trans ho (Nat.le_add_right _ _),hs⟩,hg⟩)
 rw [List.drop_zero,zc9] at this
 have e:∀ (l:yC) (o:yC),l.foldl (λs t=>ze6 (zmy (a.getD i default) t) s) o=zdS o (l.map (zmy (a.getD i default))):=λl=>by
  induction l with
  | nil=>intro o; rfl
  | cons y r ih=>intro o; rw [List.foldl_cons,ih]; rfl
 rw [e] at this;exact this
theorem zbf6 (o:yC) (b:yC) (x:Term):(zdS o (b.map (zmy x))).length<=o.length+b.length:=by
 have:=zwn (b.map (zmy x)) o
 rwa [List.length_map] at this
theorem zbdL (a b:yC) (ha:∀ t∈a,VT t) (hb:∀ t∈b,VT t) (hal:a.length<=512) (hbl:b.length<=512):zoQ a b=(true,zlH a b):=by
 unfold zoQ zRN
 have:=zc8 (W:=zEC) (z:=default) (l:=a) (λi (o:yC)=>(a,b,(),(i:Int),())) (λ_ o=>(o,())) (λx o=>.inl (zdS o (b.map (zmy x)))) (λo=>o) (λi o=>(o.length<=i*512/\Srs o)/\∀ t∈o,GT t)
  (λi o hi hI=>.inl ⟨_,rfl,⟨⟨by have:=zbf6 o b (a.getD i default); omega,zIN _ _ hI.1.2⟩,zKQ _ _ hI.1.2 hI.2 λt ht=>by
    obtain ⟨y,hy,rfl⟩:=List.mem_map.1 ht;exact zV4 (ha _ (zr hi)) (hb y hy)⟩,λH K D=>by
   show (zrR a b i o).ev H K D=_;unfold zrR;have e1:decide ((i:Int)<Int.ofNat a.length)=true:=by simp [hi]
   simp only [Wy.ev_i,Wy.ev_k,Wy.ev_h,Wy.ev_bn,Wy.ev_d,e1,cond_true];rw [zblR a b i hi hal hbl (ha _ (zr hi)) hb o hI.1.1 hI.1.2 hI.2 _ (by omega)]
   simp only [cond_true];rw [zN (by omega)]⟩)
  (λo hI H K D=>by
   show (zrR a b a.length o).ev H K D=_;unfold zrR;have e1:decide ((a.length:Int)<Int.ofNat a.length)=false:=by simp
   simp only [Wy.ev_i,Wy.ev_k,e1,cond_false]) ((a.length+b.length+Int.toNat (0:Int)+(0:Nat)+(1:Nat))+zbV a+zbV b+zbV []) 0 [] (by omega) (by omega) ⟨⟨by simp,.nil⟩,λt ht=>by cases ht⟩
 rw [List.drop_zero,zc9] at this
 have e:∀ (l:yC) (o:yC),l.foldl (λs x=>zdS s (b.map (zmy x))) o=zdS o (zey l b):=λl=>by
  induction l with
  | nil=>intro o; rfl
  | cons y r ih=>
   intro o;rw [List.foldl_cons,ih];show _=(zey (y::r) b).foldl (λa t=>ze6 t a) o
   unfold zey;rw [List.flatMap_cons,List.foldl_append]; rfl
 rw [e] at this;have this:zOZ ((a.length+b.length+Int.toNat (0:Int)+(0:Nat)+(1:Nat))+zbV a+zbV b+zbV []) a b 0 []=(true,zlH a b):=this;rw [Wy.fin_bn,this]; rfl
theorem zbgY (a b:yC) (ha:∀ t∈a,GT t) (hb:∀ t∈b,GT t) (hs:Srs a) (hal:a.length<=512) (hbl:b.length<=512):zFH a b=(true,zdS a b):=by
 unfold zFH z4W
 have:=zc8 (W:=zPB) (z:=default) (l:=b) (λi (o:yC)=>(o,b,(i:Int),())) (λ_ o=>()) (λx o=>.inl (ze6 x o)) (λo=>o) (λi o=>(o.length<=512+i/\Srs o)/\∀ t∈o,GT t)
  (λi o hi hI=>.inl ⟨_,rfl,⟨⟨by have:=zTW (t:=b.getD i default) o; omega,zzS hI.1.2⟩,zbe1 (hb _ (zr hi)) hI.1.2 hI.2⟩,λH K D=>by
   show (zCl o b i).ev H K D=_;unfold zCl;simp only [Wy.ev_i,Wy.ev_k,Wy.ev_h,Wy.ev_bn,Wy.ev_d,tT,hi];rw [zbbq (d:=9) o _ (by omega) (λz hz=>(hI.2 z hz).fine) (by omega) (λz hz=>(hI.2 z hz).1) (hb _ (zr hi)).1,cond_true,zN (by omega)]⟩)
  (λo hI H K D=>by
   show (zCl o b b.length).ev H K D=_;unfold zCl;simp only [Wy.ev_i,Wy.ev_k,tT,Nat.lt_irrefl]) (a.length+b.length+Int.toNat (0:Int)+(1:Nat)) 0 a (by omega) (by omega) ⟨⟨by omega,hs⟩,ha⟩
 rw [List.drop_zero,zc9] at this;have this:z1M (a.length+b.length+Int.toNat (0:Int)+(1:Nat)) a b 0=(true,zdS a b):=this;rw [Wy.fin_bn,this]; rfl
def okA (a:yC):Prop:=(zm 12 a/\zK a<=4611686018427387904)/\zgo a/\a.length<=zbo
def opR (ok:Bool) (r:yC×Int):yC×Int:=bif ok then r else ([],1)
def zxm (a b:yC):yC×Int:=opR (zF a&&zF b) (znT (zdS a b))
def zu2 (a b:yC):yC×Int:=opR (zF a&&zF b) (znT (zlH a b))
def zbii (a b:yC):At:=⟨1,⟨0,0⟩,[a,b],0,[],0,⟨0,0,ByteArray.mk #[]⟩⟩
def z1y (a:yC):At:=⟨2,⟨0,0⟩,[a],0,[],0,⟨0,0,ByteArray.mk #[]⟩⟩
def zbh1 (a:yC):At:=⟨3,⟨0,0⟩,[a],0,[],0,⟨0,0,ByteArray.mk #[]⟩⟩
def zQd (a b:yC):yC×Int:=opR (zF a&&zF b) (if b=[] then (a,0) else if a=[]\/a=b then ([],0) else znT (zcu (zbii a b)))
def zPP (a:yC):yC×Int:=opR (zF a) (if a=[]\/isU a=true then (a,0) else if isC a=true then ([⟨1,[]⟩],0) else znT (zcu (z1y a)))
def zPt (a:yC):yC×Int:=opR (zF a) (if a=[] then ([⟨1,[]⟩],0) else if zu5 a=true then ([],0) else znT (zcu (zbh1 a)))
theorem okA.valid {a:yC} (h:okA a):zca a=(true,zF a):=zbbM h.1.1 (by omega) h.1.2
theorem okA.rvalid {a:yC} (h:okA a):zeR a=(true,zF a):=z8S h.1.1 (by omega) h.1.2
theorem zbfb {a b:yC} (ha:okA a) (hb:okA b):zqM a b=(true,zxm a b)/\zxT a b=(true,zxm a b):=by
 unfold zqM zPR zxT zTq zxm;simp only [Wy.fin_bn,Wy.fin_i,Wy.fin_k,ha.valid,hb.valid,ha.rvalid,hb.rvalid,cond_true];cases va:zF a with
 | false=>first | exact ⟨trivial,trivial⟩ | exact ⟨rfl,rfl⟩ | exact ⟨trivial,rfl⟩ | exact ⟨rfl,trivial⟩
 | true=>
  cases vb:zF b with
  | false=>first | exact ⟨trivial,trivial⟩ | exact ⟨rfl,rfl⟩ | exact ⟨trivial,rfl⟩ | exact ⟨rfl,trivial⟩
  | true=>
   obtain ⟨sa,la,ta⟩:=zkr va ha.2.1;obtain ⟨sb,lb,tb⟩:=zkr vb hb.2.1;have ga:∀ t∈a,GT t:=λt ht=>(ta t ht).1
   have gb:∀ t∈b,GT t:=λt ht=>(tb t ht).1
   have hc:=zbkt [a,b] (by simp) (λl hl=>by
    simp only [qd,List.not_mem_nil,or_false] at hl;rcases hl with rfl | rfl <;>omega)
   have e:[a,b].flatten=a++b:=by simp
   have hcol:=z7E (a++b) (by simp; omega) λt ht=>by
    rcases List.mem_append.1 ht with ht | ht
    ·exact ga t ht
    ·exact gb t ht
   rw [e] at hc;rw [zbmJ a b sa] at hcol;have hsl:(zdS a b).length<=1000000:=by have:=zwn b a; omega
   obtain ⟨f1,f2⟩:=z0Y hsl (zKQ b a sa ga gb);simp only [Bool.not_true,cond_false,Bool.and_self,hc,hcol,zCM f1 (by omega:10<=100) f2,zbgY a b ga gb sa la lb,zBn f1 (by omega:10<=100) f2,cond_true]
   first | exact ⟨trivial,trivial⟩ | exact ⟨rfl,rfl⟩ | exact ⟨trivial,rfl⟩ | exact ⟨rfl,trivial⟩
theorem zbdK {a b:yC} (ha:okA a) (hb:okA b):zqU a b=(true,zu2 a b)/\zxX a b=(true,zu2 a b):=by
 unfold zqU zOW zxX zSp zu2;simp only [Wy.fin_bn,Wy.fin_i,Wy.fin_k,ha.valid,hb.valid,ha.rvalid,hb.rvalid,cond_true];cases va:zF a with
 | false=>first | exact ⟨trivial,trivial⟩ | exact ⟨rfl,rfl⟩ | exact ⟨trivial,rfl⟩ | exact ⟨rfl,trivial⟩
 | true=>
  cases vb:zF b with
  | false=>first | exact ⟨trivial,trivial⟩ | exact ⟨rfl,rfl⟩ | exact ⟨trivial,rfl⟩ | exact ⟨rfl,trivial⟩
  | true=>
   obtain ⟨sa,la,ta⟩:=zkr va ha.2.1;obtain ⟨sb,lb,tb⟩:=zkr vb hb.2.1;have hm:=zbou a b ta tb la lb (b.length+a.length+(Int.ofNat a.length).toNat +Int.toNat (0:Int)+(0:Nat)+(1:Nat)) (by omega)
   have hm:zDi (b.length+a.length+(Int.ofNat a.length).toNat +Int.toNat (0:Int)+(0:Nat)+(1:Nat)) b a (Int.ofNat a.length) 0 []=_:=hm;have hpl:(zey a b).length<=1000000:=by rw [zRX]; have:=Nat.mul_le_mul la lb; omega
   have hcol:=z7E (zey a b) hpl (zWW ta tb);have hsl:(zlH a b).length<=1000000:=by have:=zwn (zey a b) []; simp at this; exact Nat.le_trans this hpl
   obtain ⟨f1,f2⟩:=z0Y hsl (zKQ (zey a b) [] .nil (λt ht=>by cases ht) (zWW ta tb))
   have f1:zm 10 (zlH a b):=f1;have f2:zK (zlH a b)<=4611686018427387904:=f2;have hcol:zim (zey a b)=(true,zlH a b):=hcol;simp only [Bool.not_true,cond_false,Bool.and_self,hm,hcol,zCM f1 (by omega:10<=100) f2,zbdL a b ta tb la lb,zBn f1 (by omega:10<=100) f2,cond_true]
   first | exact ⟨trivial,trivial⟩ | exact ⟨rfl,rfl⟩ | exact ⟨trivial,rfl⟩ | exact ⟨rfl,trivial⟩
theorem zEA {l:yA} {k:Int} (hl:l.length<=2) (h:∀ a∈l,zF a=true):zm 10 (zcu ⟨k,⟨0,0⟩,l,0,[],0,⟨0,0,ByteArray.mk #[]⟩⟩)/\zK (zcu ⟨k,⟨0,0⟩,l,0,[],0,⟨0,0,ByteArray.mk #[]⟩⟩)<=4611686018427387904:=by
 constructor
 ·exact zRx ⟨⟨by simp only; omega,by simp,by show (ByteArray.mk #[]).size<=_; decide⟩,λa ha=>(zeJ (h a ha)).1,λw hw=>(by cases hw)⟩
 ·rw [z7p,zhu]
  have hb:∀ l:yA,(∀ a∈l,zF a=true)->zfo l<=l.length*4096:=λl=>by
   induction l with
   | nil=>intro _; rw [zgO]; simp
   | cons a r ih=>
    intro h;have h1:=(zeJ (h a (by simp))).2.1
    have h2:=ih λb hb=>h b (by simp [hb])
    rw [zfa,qf,Nat.add_mul]; omega
  have:=hb l h;show 2+(zfo l+zdo [])<=_;rw [zfQ];have:=Nat.mul_le_mul hl (Nat.le_refl 4096);omega
theorem zN6 (a:yC):(Int.ofNat a.length==(0:Int))=decide (a=[]):=by
 rw [show (Int.ofNat a.length==(0:Int))=(a.length==0) from zyj _ 0,z5Y]
 congr 1;rw [List.length_eq_zero_iff]
theorem zbkv {a b:yC} (ha:okA a) (hb:okA b):zr4 a b=(true,zQd a b)/\zvk a b=(true,zQd a b):=by
 unfold zr4 zKL zvk zMr zQd;simp only [Wy.fin_bn,Wy.fin_i,Wy.fin_k,ha.valid,hb.valid,ha.rvalid,hb.rvalid,cond_true];cases va:zF a with
 | false=>first | exact ⟨trivial,trivial⟩ | exact ⟨rfl,rfl⟩ | exact ⟨trivial,rfl⟩ | exact ⟨rfl,trivial⟩
 | true=>
  cases vb:zF b with
  | false=>first | exact ⟨trivial,trivial⟩ | exact ⟨rfl,rfl⟩ | exact ⟨trivial,rfl⟩ | exact ⟨rfl,trivial⟩
  | true=>
   obtain ⟨f1,f2⟩:=zEA (l:=[a,b]) (k:=1) (by simp) (λx hx=>by
    simp only [qd,List.not_mem_nil,or_false] at hx;rcases hx with rfl | rfl
    ·exact va
    ·exact vb)
   simp only [Bool.not_true,cond_false,Bool.and_self,zN6,zK3 ha.1.1 (by omega:12<=100),zAi ha.1.1 (by omega:12<=100),zEo ha.1.1 (by omega:12<=100),zK5,zFM,zCM f1 (by omega:10<=100) f2,zBn f1 (by omega:10<=100) f2,cond_true,opR]
   by_cases hb0:b=[]
   ·simp only [hb0,decide_true,cond_true,if_true]; exact ⟨trivial,trivial⟩
   ·by_cases ha0:a=[]
    ·simp only [hb0,ha0,decide_true,decide_false,cond_true,cond_false,if_true,if_false,true_or]; exact ⟨trivial,trivial⟩
    ·by_cases hab:a=b
     ·simp only [hb0,ha0,hab,decide_true,decide_false,cond_true,cond_false,if_true,if_false,or_true]; exact ⟨trivial,trivial⟩
     ·simp only [hb0,ha0,hab,decide_false,cond_false,if_false,or_self]; first | exact ⟨trivial,trivial⟩ | exact ⟨rfl,rfl⟩ | exact ⟨trivial,rfl⟩ | exact ⟨rfl,trivial⟩
theorem zbkL {a:yC} (ha:okA a):zrj a=(true,zPP a)/\zvm a=(true,zPP a):=by
 unfold zrj zKi zvm zLF zPP;simp only [Wy.fin_bn,Wy.fin_i,Wy.fin_k,ha.valid,ha.rvalid,cond_true];cases va:zF a with
 | false=>first | exact ⟨trivial,trivial⟩ | exact ⟨rfl,rfl⟩ | exact ⟨trivial,rfl⟩ | exact ⟨rfl,trivial⟩
 | true=>
  obtain ⟨f1,f2⟩:=zEA (l:=[a]) (k:=2) (by simp) (λx hx=>by rw [qh] at hx; subst hx; exact va)
  have hla:a.length<=1000000000:=by have:=(zeJ va).2.2; omega
  have hbu:isB a=isU a:=zPU va;simp only [Bool.not_true,cond_false,zN6,zK3 ha.1.1 (by omega:12<=100),zbbD,zX8,zHd,zpc a hla,zK5,zFM,zCM f1 (by omega:10<=100) f2,zBn f1 (by omega:10<=100) f2,cond_true,opR,hbu]
  rw [show znT (zcu ⟨2,⟨0,0⟩,[a],0,[],0,⟨0,0,ByteArray.mk #[]⟩⟩)=znT (zcu (z1y a)) from rfl]
  clear f1 f2;generalize znT (zcu (z1y a))=R;by_cases h0:a=[]
  ·simp only [h0,decide_true,cond_true,if_true,true_or]; exact ⟨trivial,trivial⟩
  ·cases hu:isU a with
   | true=>simp only [h0,decide_false,cond_false,cond_true,if_true,or_true]; exact ⟨trivial,trivial⟩
   | false=>
    simp only [h0,decide_false,cond_false,if_false,or_self,Bool.false_eq_true]
    match a,h0 with
    | [t],_=>
     have e1:zu5 [t]=(t.Fs.length==0):=by simp [zu5]
     have e2:isC [t]=(t.Fs.length==0):=rfl;rw [e1,e2];cases (t.Fs.length==0) with
     | true=>simp only [cond_true,if_true]; first | exact ⟨trivial,trivial⟩ | exact ⟨rfl,rfl⟩ | exact ⟨trivial,rfl⟩ | exact ⟨rfl,trivial⟩
     | false=>simp only [cond_false,cond_true,Bool.false_eq_true,if_false]; first | exact ⟨trivial,trivial⟩ | exact ⟨rfl,rfl⟩ | exact ⟨trivial,rfl⟩ | exact ⟨rfl,trivial⟩
    | t::s::r,_=>
     have e2:isC (t::s::r)=false:=rfl;simp only [zPk,e2,cond_false,cond_true,Bool.false_eq_true,if_false]
     first | exact ⟨trivial,trivial⟩ | exact ⟨rfl,rfl⟩ | exact ⟨trivial,rfl⟩ | exact ⟨rfl,trivial⟩
theorem zbjD {a:yC} (ha:okA a):zpd a=(true,zPt a)/\zri a=(true,zPt a):=by
 unfold zpd zHX zri zIZ zPt;simp only [Wy.fin_bn,Wy.fin_i,Wy.fin_k,ha.valid,ha.rvalid,cond_true];cases va:zF a with
 | false=>first | exact ⟨trivial,trivial⟩ | exact ⟨rfl,rfl⟩ | exact ⟨trivial,rfl⟩ | exact ⟨rfl,trivial⟩
 | true=>
  obtain ⟨f1,f2⟩:=zEA (l:=[a]) (k:=3) (by simp) (λx hx=>by rw [qh] at hx; subst hx; exact va)
  have hla:a.length<=1000000000:=by have:=(zeJ va).2.2; omega
  simp only [Bool.not_true,cond_false,zN6,zUm a hla,zpc a hla,zK5,zFM,zCM f1 (by omega:10<=100) f2,zBn f1 (by omega:10<=100) f2,cond_true,opR]
  by_cases h0:a=[]
  ·simp only [h0,decide_true,cond_true,if_true]; first | exact ⟨trivial,trivial⟩ | exact ⟨rfl,rfl⟩ | exact ⟨trivial,rfl⟩ | exact ⟨rfl,trivial⟩
  ·cases hu:zu5 a with
   | true=>simp only [h0,decide_false,cond_false,cond_true,if_true,if_false]; exact ⟨trivial,trivial⟩
   | false=>simp only [h0,decide_false,cond_false,if_false,Bool.false_eq_true]; first | exact ⟨trivial,trivial⟩ | exact ⟨rfl,rfl⟩ | exact ⟨trivial,rfl⟩ | exact ⟨rfl,trivial⟩
theorem z0K {n:Int} (h:rng n):wf3 n:=by
 show (Lit.int .i64 n).wf=true;have:IntKind.i64.min<=n/\n<=IntKind.i64.max:=⟨h.1,h.2⟩
 simpa [Lit.wf] using this
theorem z12 {t:Term} (hc:rng t.Cf) (hf:∀ f∈t.Fs,zf9 f.At/\rng f.Exp) (hl:t.Fs.length<=1000000):zDZ t:=by
 obtain ⟨c,fs⟩:=t;unfold zDZ;refine ⟨z0K hc,zOj fs λf h=> ?_,by have:zbo=140737488351232:=rfl; simp only at hl; omega⟩
 obtain ⟨x,e⟩:=f;unfold zy5;exact ⟨(hf _ h).1,z0K (hf _ h).2⟩
def okR (r:yC×Int):Prop:=okA r.1/\(r.2=0\/r.1=[])
theorem zhB:okA []:=⟨⟨zbkP 11,by rw [zqd]; omega⟩,by unfold zgo; trivial,by simp⟩
theorem zN9 {a:yC} (h:okA a):okR (znT a):=by
 unfold znT;cases zfB a with
 | true=>exact ⟨h,.inl rfl⟩
 | false=>exact ⟨zhB,.inr rfl⟩
theorem zUi {ok:Bool} {r:yC×Int} (h:ok=true->okR r):okR (opR ok r):=by
 unfold opR;cases ok with
 | true=>exact h rfl
 | false=>exact ⟨zhB,.inr rfl⟩
theorem zTR {l:yC} (hl:l.length<=1000000) (h:∀ t∈l,GT t):okA l:=by
 obtain ⟨h1,h2⟩:=z0Y hl h;refine ⟨⟨h1.mono (by omega),h2⟩,zJA l λt ht=> ?_,by have:zbo=140737488351232:=rfl; omega⟩
 have hg:=h t ht;exact z12 ⟨by have:=hg.1.1; omega,by have:=hg.1.2; omega⟩ (λf hf=>⟨(hg.2.2 f hf).1.2.1,(hg.2.2 f hf).gF.2.2⟩) (by have:=hg.2.1; omega)
theorem zN5 {a b:yC} (ha:okA a) (hb:okA b):okR (zxm a b):=zUi λhv=>by
 rw [qc] at hv;obtain ⟨sa,la,ta⟩:=zkr hv.1 ha.2.1;obtain ⟨sb,lb,tb⟩:=zkr hv.2 hb.2.1;exact zN9 (zTR (by have:=zwn b a; omega) (zKQ b a sa (λt ht=>(ta t ht).1) λt ht=>(tb t ht).1))
theorem zN8 {a b:yC} (ha:okA a) (hb:okA b):okR (zu2 a b):=zUi λhv=>by
 rw [qc] at hv;obtain ⟨sa,la,ta⟩:=zkr hv.1 ha.2.1;obtain ⟨sb,lb,tb⟩:=zkr hv.2 hb.2.1;have hpl:(zey a b).length<=1000000:=by rw [zRX]; have:=Nat.mul_le_mul la lb; omega
 exact zN9 (zTR (by have:=zwn (zey a b) []; simp at this; exact Nat.le_trans this hpl) (zKQ (zey a b) [] .nil (λt ht=>by cases ht) (zWW ta tb)))
theorem zbev {x:At} (hf:zc3 (zm 9) x) (hs:zK (zcu x)<=4611686018427387904) (hw:zf9 x):okA (zcu x):=by
 refine ⟨⟨(zRx hf).mono (by omega),hs⟩,zJA _ λt ht=> ?_,by simp [zcu,zbo]⟩
 simp only [zcu,qh] at ht;subst ht;refine z12 ⟨by simp,by simp⟩ (λf hf=> ?_) (by simp)
 simp only [qh] at hf;subst hf;exact ⟨hw,⟨by simp,by simp⟩⟩
theorem z0m {n:Int} (h: -1000<=n/\n<=1000):rng n:=⟨by omega,by omega⟩
theorem zq2:wf3 0:=z0K (z0m (by omega))
theorem z1G {l:yA} {k:Int} (hk:0<=k/\k<=4) (hl:l.length<=2) (h:∀ a∈l,zF a=true) (hw:∀ a∈l,okA a):okA (zcu ⟨k,⟨0,0⟩,l,0,[],0,⟨0,0,ByteArray.mk #[]⟩⟩):=by
 refine zbev ⟨⟨by simp only; omega,by simp,by show (ByteArray.mk #[]).size<=_; decide⟩,λa ha=>(zeJ (h a ha)).1,λw hw=>(by cases hw)⟩ (zEA hl h).2 ?_
 unfold zf9;have hr:zbo=140737488351232:=rfl;refine ⟨z0K (z0m (by omega)),⟨zq2,zq2⟩,⟨z08 l λa ha=>⟨(hw a ha).2.1,(hw a ha).2.2⟩,by omega⟩,zq2,⟨by unfold ztP; trivial,by simp⟩,zq2,⟨zq2,zq2, ?_⟩⟩
 show (ByteArray.mk #[]).size<=zbo;rw [hr]; decide
theorem zba5 {a b:yC} (ha:okA a) (hb:okA b):okR (zQd a b):=zUi λhv=>by
 rw [qc] at hv;split
 ·exact ⟨ha,.inl rfl⟩
 ·split
  ·exact ⟨zhB,.inl rfl⟩
  ·refine zN9 (z1G (by omega) (by simp) (λx hx=> ?_) λx hx=> ?_)
   ·simp only [qd,List.not_mem_nil,or_false] at hx;rcases hx with rfl | rfl
    ·exact hv.1
    ·exact hv.2
   ·simp only [qd,List.not_mem_nil,or_false] at hx;rcases hx with rfl | rfl
    ·exact ha
    ·exact hb
theorem zVj (c:Int) (hc:1<=c/\c<=1152921504606846976):okA [⟨c,[]⟩]:=zTR (by simp) λt ht=>by
 rw [qh] at ht; subst ht;exact ⟨hc,by simp,λf hf=>by cases hf⟩
theorem zbbu {a:yC} (ha:okA a):okR (zPP a):=zUi λhv=>by
 split
 ·exact ⟨ha,.inl rfl⟩
 ·split
  ·exact ⟨zVj 1 (by omega),.inl rfl⟩
  ·exact zN9 (z1G (by omega) (by simp) (λx hx=>by rw [qh] at hx; subst hx; exact hv) λx hx=>by rw [qh] at hx; subst hx; exact ha)
theorem z95 {a:yC} (ha:okA a):okR (zPt a):=zUi λhv=>by
 split
 ·exact ⟨zVj 1 (by omega),.inl rfl⟩
 ·split
  ·exact ⟨zhB,.inl rfl⟩
  ·exact zN9 (z1G (by omega) (by simp) (λx hx=>by rw [qh] at hx; subst hx; exact hv) λx hx=>by rw [qh] at hx; subst hx; exact ha)
def zuZ (n:Int):yC:=if n<1 then [] else [⟨if 1152921504606846976<n then 1152921504606846976 else n,[]⟩]
def zvA (id:RowID):yC:=bif zCH id then zcu ⟨0,id,[],0,[],0,⟨0,0,ByteArray.mk #[]⟩⟩ else []
theorem zbkQ (n:Int):zr0 n=(true,zuZ n)/\zvq n=(true,zuZ n):=by
 unfold zr0 zKa zvq zMj zuZ;by_cases h:n<1
 ·simp only [Wy.fin_i,Wy.fin_k,h,decide_true,cond_true,if_true]; exact ⟨trivial,trivial⟩
 ·simp only [Wy.fin_i,Wy.fin_k,h,decide_false,cond_false,if_false]; exact ⟨trivial,trivial⟩
theorem zbjj (id:RowID):zwH id=(true,zvA id)/\zE7 id=(true,zvA id):=by
 unfold zwH zOi zE7 z5s zvA zCH;simp only [Wy.fin_i,Wy.fin_bn,Wy.fin_k,zGj,zK5,zFM,cond_true];unfold zCH
 have e1:decide (id.Table<1)= !decide (id.Table≥1):=by
  by_cases h:id.Table<1
  ·have:¬ id.Table≥1:=by omega
   simp only [h,this,decide_true,decide_false,Bool.not_false]
  ·have:id.Table≥1:=by omega
   simp only [h,this,decide_true,decide_false,Bool.not_true]
 have e2:decide (id.Seq<1)= !decide (id.Seq≥1):=by
  by_cases h:id.Seq<1
  ·have:¬ id.Seq≥1:=by omega
   simp only [h,this,decide_true,decide_false,Bool.not_false]
  ·have:id.Seq≥1:=by omega
   simp only [h,this,decide_true,decide_false,Bool.not_true]
 rw [e1,e2];cases decide (id.Table≥1) <;>cases decide (id.Seq≥1) <;>exact ⟨rfl,rfl⟩
theorem zbdJ (n:Int):okA (zuZ n):=by
 unfold zuZ;split
 ·exact zhB
 ·refine zVj _ ?_;split <;>omega
theorem zbnX {id:RowID} (h:zZ4 id):okA (zvA id):=by
 unfold zvA;cases hr:zCH id with
 | false=>exact zhB
 | true=>
  refine zbev ⟨⟨by simp,by simp,by show (ByteArray.mk #[]).size<=_; decide⟩,λa ha=>(by cases ha),λw hw=>(by cases hw)⟩ (by rw [z7p,zhu,zgO,zfQ]; omega) ?_
  unfold zf9;refine ⟨zq2,h,⟨by unfold zzs; trivial,by simp⟩,zq2,⟨by unfold ztP; trivial,by simp⟩,zq2,⟨zq2,zq2, ?_⟩⟩
  show (ByteArray.mk #[]).size<=zbo;have hr:zbo=140737488351232:=rfl;rw [hr]; decide
theorem zbgP {a:yC} {n:Nat} (hn:n<=1000) (h:zm 12 a/\zez a<=n) (hw:z6m a):okA a:=⟨⟨h.1,by have:=zNa a; omega⟩,hw.1,hw.2⟩
def MF (l:yD):Prop:=Srf l/\∀ f∈l,eOK f/\1<=f.Exp
theorem MF.tail {f:Fc} {l:yD} (h:MF (f::l)):MF l:=⟨(qi.1 h.1).2,λg hg=>h.2 g (by simp [hg])⟩
theorem MF.nil:MF []:=⟨List.Pairwise.nil,λf hf=>by cases hf⟩
theorem cF_self' {x y:Fc} (h:x.At=y.At):cF x y=0:=by unfold cF; rw [h]; exact zFq _
theorem MF.ne {f:Fc} {l:yD} (h:MF (f::l)):∀ g∈l,g.At≠f.At:=λg hg e=>by
 have:=(qi.1 h.1).1 g hg;rw [cF_self' e.symm] at this; omega
theorem zbkd {a b:yD}:Srf a->Srf b->Srf (zbW a b):=by
 induction a,b using zbW.induct with
 | case1 b=>intro _ hb; rw [zbW]; exact hb
 | case2 x a=>intro ha _; rw [zbW]; exact ha
 | case3 x a y b h ih=>
  intro ha hb;have ca:=qi.1 ha;rw [zbW,if_pos h];refine qi.2 ⟨λz hz=> ?_,ih ca.2 hb⟩
  obtain ⟨w,hw,e⟩:=zrJ hz;have:cF x z=cF x w:=by unfold cF; rw [e]
  rw [this];rcases hw with hw | hw
  ·exact ca.1 w hw
  ·rcases qd.1 hw with rfl | hw
   ·exact h
   ·exact zI1 h ((qi.1 hb).1 w hw)
 | case4 x a y b h h2 ih=>
  intro ha hb;have cb:=qi.1 hb;rw [zbW,if_neg h,if_pos h2];have h3:cF y x<0:=by rw [zblA x y]; omega
  refine qi.2 ⟨λz hz=> ?_,ih ha cb.2⟩
  obtain ⟨w,hw,e⟩:=zrJ hz;have:cF y z=cF y w:=by unfold cF; rw [e]
  rw [this];rcases hw with hw | hw
  ·rcases qd.1 hw with rfl | hw
   ·exact h3
   ·exact zI1 h3 ((qi.1 ha).1 w hw)
  ·exact cb.1 w hw
 | case5 x a y b h h2 ih=>
  intro ha hb;have ca:=qi.1 ha;have cb:=qi.1 hb;have h0:x.At=y.At:=zbgy (by omega)
  rw [zbW,if_neg h,if_neg h2];have hA:(if x.At.Kind=3\/x.At.Kind=4 then x else ⟨x.At,x.Exp+y.Exp⟩:Fc).At=x.At:=by split <;>rfl
  refine qi.2 ⟨λz hz=> ?_,ih ca.2 cb.2⟩
  obtain ⟨w,hw,e⟩:=zrJ hz;have:cF (if x.At.Kind=3\/x.At.Kind=4 then x else ⟨x.At,x.Exp+y.Exp⟩:Fc) z=cF x w:=by unfold cF; rw [e,hA]
  rw [this];rcases hw with hw | hw
  ·exact ca.1 w hw
  ·have:cF x w=cF y w:=by unfold cF; rw [h0]
   rw [this]; exact cb.1 w hw
theorem zbkF {a b:yD}:(∀ f∈a,eOK f/\1<=f.Exp)->(∀ f∈b,eOK f/\1<=f.Exp)->∀ f∈zbW a b,eOK f/\1<=f.Exp:=by
 induction a,b using zbW.induct with
 | case1 b=>intro _ hb; rw [zbW]; exact hb
 | case2 x a=>intro ha _; rw [zbW]; exact ha
 | case3 x a y b h ih=>
  intro ha hb f hf;rw [zbW,if_pos h] at hf;rcases qd.1 hf with rfl | hf
  ·exact ha _ (by simp)
  ·exact ih (λg hg=>ha g (by simp [hg])) hb f hf
 | case4 x a y b h h2 ih=>
  intro ha hb f hf;rw [zbW,if_neg h,if_pos h2] at hf;rcases qd.1 hf with rfl | hf
  ·exact hb _ (by simp)
  ·exact ih ha (λg hg=>hb g (by simp [hg])) f hf
 | case5 x a y b h h2 ih=>
  intro ha hb f hf;rw [zbW,if_neg h,if_neg h2] at hf;rcases qd.1 hf with rfl | hf
  ·have h1:=ha x (by simp)
   have h2:=hb y (by simp)
   split
   ·exact h1
   ·rename_i hk;exact ⟨⟨h1.1.1,λh=>absurd h hk⟩,by show 1<=x.Exp+y.Exp; omega⟩
  ·exact ih (λg hg=>ha g (by simp [hg])) (λg hg=>hb g (by simp [hg])) f hf
theorem zbgU {a b:yD} (ha:MF a) (hb:MF b):MF (zbW a b):=⟨zbkd ha.1 hb.1,zbkF ha.2 hb.2⟩
def EqS (n m:Nat):Prop:=n=m\/(1152921504606846976<=n/\1152921504606846976<=m)
theorem EqS.refl (n:Nat):EqS n n:=.inl rfl
theorem EqS.symm {n m:Nat} (h:EqS n m):EqS m n:=by unfold EqS at *; omega
theorem EqS.trans {n m k:Nat} (h:EqS n m) (h':EqS m k):EqS n k:=by unfold EqS at *; omega
theorem EqS.add {n m n' m':Nat} (h:EqS n n') (h':EqS m m'):EqS (n+m) (n'+m'):=by unfold EqS at *; omega
theorem EqS.mul1 {n n':Nat} (k:Nat) (h:EqS n n'):EqS (n*k) (n'*k):=by
 rcases h with rfl | ⟨h1,h2⟩
 ·exact .refl _
 ·rcases Nat.eq_zero_or_pos k with rfl | hk
  ·exact .inl (by simp)
  ·exact .inr ⟨Nat.le_trans h1 (Nat.le_mul_of_pos_right n hk),Nat.le_trans h2 (Nat.le_mul_of_pos_right n' hk)⟩
theorem EqS.mul {n m n' m':Nat} (h:EqS n n') (h':EqS m m'):EqS (n*m) (n'*m'):=by
 refine (h.mul1 m).trans ?_;rw [Nat.mul_comm n' m,Nat.mul_comm n' m'];exact h'.mul1 n'
theorem zbmE {a b:yC} (ha:∀ x∈a,cOK x) (hb:∀ x∈b,cOK x):∀ t∈zey a b,cOK t:=λt ht=>by
 obtain ⟨x,hx,y,hy,rfl⟩:=zKE ht;exact (zVZ (ha x hx) (hb y hy)).1
theorem zbnL {a b:yC} (ha:∀ x∈a,cOK x) (hb:∀ x∈b,cOK x):∀ t∈zlH a b,cOK t:=zbh8 _ (λ_ h=>by cases h) (zbmE ha hb)
theorem zbj1 (a b:yC):Srs (zlH a b):=zIN _ _ List.Pairwise.nil
def PA (a:yC):Prop:=Srs a/\∀ t∈a,cOK t/\MF t.Fs
theorem PA.c {a:yC} (h:PA a):∀ t∈a,cOK t:=λt ht=>(h.2 t ht).1
theorem zbnF {a b:yC} (ha:PA a) (hb:PA b):PA (zdS a b):=⟨zIN _ _ ha.1,λt ht=>⟨zbh8 b ha.c hb.c t ht,by
 obtain ⟨x,hx,e⟩:=zIU b a ha.1 ht;rw [e];rcases hx with hx | hx
 ·exact (ha.2 x hx).2
 ·exact (hb.2 x hx).2⟩⟩
theorem zbmp {a b:yC} (ha:PA a) (hb:PA b):PA (zlH a b):=⟨zbj1 _ _,λt ht=>⟨zbnL ha.c hb.c t ht,by
 obtain ⟨x,hx,e⟩:=zIU (zey a b) [] List.Pairwise.nil ht;rw [e];rcases hx with hx | hx
 ·cases hx
 ·obtain ⟨u,hu,v,hv,rfl⟩:=zKE hx;exact zbgU (ha.2 u hu).2 (hb.2 v hv).2⟩⟩
theorem PA.nil:PA []:=⟨List.Pairwise.nil,λt ht=>by cases ht⟩
theorem zbhL {c:Int} (h:c<=1152921504606846976):zBW c 1=c:=by
 unfold zBW;rw [if_neg (by rw [Int.tdiv_one]; omega)]; omega
theorem zPS {τ:Type} [Inhabited τ] {R:τ->τ->Prop}:∀ {l:List τ},l.Pairwise R->∀ k,0<k->k<l.length->R (l.getD (k - 1) default) (l.getD k default)
 | [],_,k,_,h=>by simp at h
 | x::r,h,0,h0,_=>by omega
 | x::r,h,1,_,h1=>(qi.1 h).1 _ (zr (by simpa using h1))
 | x::r,h,k+2,_,h1=>zPS (qi.1 h).2 (k+1) (by omega) (by simp only [qf] at h1; omega)
def OKF (vat:At->Bool) (fs:yD):Prop:=Srf fs/\∀ f∈fs,(1<=f.Exp/\(f.At.Kind=3\/f.At.Kind=4->f.Exp=1))/\vat f.At=true
theorem zbgo {vat:At->Bool} {fs:yD}:okF vat fs=true↔OKF vat fs:=by
 constructor
 ·intro h;refine ⟨zwM (R:=λx y=>cF x y<0) (λx y z h1 h2=>zI1 h1 h2) _ λk hk hl=> ?_,λf hf=>zqg h hf⟩
  have:=zdV.1 h k (by omega) (by omega)
  simp only [zSM,qc,Bool.or_eq_true,qe] at this;rcases this.1.2 with e | e
  ·omega
  ·exact e
 ·intro h;refine zdV.2 λk _ hk=> ?_
  have hm:=h.2 _ (zr (l:=fs) (i:=k) (by omega))
  simp only [zSM,qc,Bool.or_eq_true,qe,Bool.not_eq_true',Bool.and_eq_false_iff];refine ⟨⟨⟨hm.1.1, ?_⟩, ?_⟩,hm.2⟩
  ·by_cases hk:(fs.getD k default).At.Kind=3\/(fs.getD k default).At.Kind=4
   ·right; rw [hm.1.2 hk]; rfl
   ·left
    rw [Bool.or_eq_false_iff];constructor
    ·simpa using λe=>hk (.inl e)
    ·simpa using λe=>hk (.inr e)
  ·by_cases h0:k=0
   ·exact .inl h0
   ·exact .inr (zPS h.1 k (by omega) (by omega))
theorem zXu {vat:At->Bool} {a:yC}:zAb vat a=true↔zfB a=true/\Srs a/\∀ t∈a,cOK t/\OKF vat t.Fs:=by
 constructor
 ·intro h;have hall:=h;simp only [zAb,qc] at hall;refine ⟨hall.1,zwM (R:=λx y=>cT x y<0) (λx y z h1 h2=>zI7 h1 h2) a λk hk hl=> ?_,λt ht=>⟨(zxN h ht).1,zbgo.1 (zxN h ht).2⟩⟩
  have:=zdV.1 hall.2 k (by omega) (by omega)
  simp only [zG0,qc,Bool.or_eq_true,qe] at this;rcases this.1.2 with e | e
  ·omega
  ·exact e
 ·rintro ⟨h1,h2,h3⟩
  simp only [zAb,qc];refine ⟨h1,zdV.2 λk _ hk=> ?_⟩
  have hm:=h3 _ (zr (l:=a) (i:=k) (by omega))
  simp only [zG0,qc,Bool.or_eq_true,qe];refine ⟨⟨⟨hm.1.1,hm.1.2⟩, ?_⟩,zbgo.2 hm.2⟩;by_cases h0:k=0
  ·exact .inl h0
  ·exact .inr (zPS h2 k (by omega) (by omega))
def QA (a:yC):Prop:=Srs a/\∀ t∈a,cOK t/\OKF zoO t.Fs
theorem zqs {a:yC}:zF a=true↔zfB a=true/\QA a:=by rw [z9t]; exact zXu
theorem OKF.mf {fs:yD} (h:OKF zoO fs):MF fs:=⟨h.1,λf hf=>⟨⟨zF4 (h.2 f hf).2,(h.2 f hf).1.2⟩,(h.2 f hf).1.1⟩⟩
theorem QA.pa {a:yC} (h:QA a):PA a:=⟨h.1,λt ht=>⟨(h.2 t ht).1,(h.2 t ht).2.mf⟩⟩
theorem zPu {a:yC} (h:zF a=true):QA a:=(zqs.1 h).2
theorem zEB {a:yC} (h:zF a=true):PA a:=(zPu h).pa
theorem z9y {a:yC} (h:zF a=true):zfB a=true:=(zqs.1 h).1
theorem MF.okf {fs:yD} (h:MF fs) (hv:∀ f∈fs,zoO f.At=true):OKF zoO fs:=⟨h.1,λf hf=>⟨⟨(h.2 f hf).2,(h.2 f hf).1.2⟩,hv f hf⟩⟩
theorem OKF.join {a b:yD} (ha:OKF zoO a) (hb:OKF zoO b):OKF zoO (zbW a b):=(zbgU ha.mf hb.mf).okf λf hf=>by
 obtain ⟨y,hy,e⟩:=zrJ hf;rw [e];rcases hy with hy | hy
 ·exact (ha.2 y hy).2
 ·exact (hb.2 y hy).2
theorem QA.nil:QA []:=⟨List.Pairwise.nil,λt ht=>by cases ht⟩
theorem zblz {x:At} (h:zoO x=true):QA (zcu x):=⟨by simp [zcu],λt ht=>by
 simp only [zcu,qh] at ht; subst ht;refine ⟨⟨by simp,by simp⟩,by simp,λf hf=> ?_⟩
 rw [qh] at hf; subst hf;exact ⟨⟨by simp,λ_=>rfl⟩,h⟩⟩
theorem zOa {a:yC} (h:zfB a=true):znT a=(a,0):=by unfold znT; rw [h]; rfl
theorem zblC {a b:yC} (ha:zF a=true) (hb:zF b=true) (h:zfB (zdS a b)=true):zxm a b=(zdS a b,0):=by
 unfold zxm; rw [ha,hb,zOa h]; rfl
theorem zbgq {a b:yC} (ha:zF a=true) (hb:zF b=true) (h:zfB (zlH a b)=true):zu2 a b=(zlH a b,0):=by
 unfold zu2; rw [ha,hb,zOa h]; rfl
theorem zXQ {x:At}:zoO x=true↔VA zF x:=zdD
theorem zbhG {x:At} (h:zoO x=true) (hw:zfB (zcu x)=true):zF (zcu x)=true:=zqs.2 ⟨hw,zblz h⟩
def sbd {α β:Type} (x:Int⊕α) (k:α->Int⊕β):Int⊕β:=match x with
 | .inl e=>.inl e
 | .inr a=>k a
theorem zE6 {α β:Type} (e:Int) (k:α->Int⊕β):sbd (.inl e) k=.inl e:=rfl
theorem zci {α β:Type} (a:α) (k:α->Int⊕β):sbd (.inr a) k=k a:=rfl
def opS (r:yC×Int):Int⊕yC:=if r.2=0 then .inr r.1 else .inl r.2
def ofS:Int⊕yC->yC×Int
 | .inl e=>([],e)
 | .inr a=>(a,0)
theorem zFs {r:yC×Int} (h:r.2=0\/r.1=[]):ofS (opS r)=r:=by
 obtain ⟨a,e⟩:=r;simp only at h;unfold opS;by_cases he:e=0
 ·subst he; simp [ofS]
 ·rw [if_neg he];rcases h with h | h
  ·exact absurd h he
  ·subst h; rfl
theorem zbeA {a:yC}:opS (a,0)=.inr a:=rfl
def zBm (b:yC):Nat->yC->Int⊕yC
 | 0,p=>.inr p
 | n+1,p=>sbd (opS (zu2 p b)) (zBm b n)
mutual
def zel (to:RowID->yC):At->Int⊕yC
 | ⟨k,r,a,f,i,o,b⟩=>if k=0 then .inr (to r) else
  sbd (zjd to a) λxs=>if k=1 then opS (zQd (xs.getD 0 default) (xs.getD 1 default)) else if k=2 then opS (zPP (xs.getD 0 default)) else if k=3 then opS (zPt (xs.getD 0 default)) else
   sbd (zfI to i) λis=>opS (zy3 f is o b)
def zdn (to:RowID->yC):yD->yC->Int⊕yC
 | [],p=>.inr p
 | ⟨x,e⟩::r,p=>sbd (zel to x) λb=>sbd (zBm b e.toNat p) λq=>zdn to r q
def zck (to:RowID->yC):yC->yC->Int⊕yC
 | [],s=>.inr s
 | ⟨c,fs⟩::r,s=>sbd (zdn to fs (zuZ c)) λp=>sbd (opS (zxm s p)) λq=>zck to r q
def zjd (to:RowID->yC):yA->Int⊕yA
 | []=>.inr []
 | a::r=>sbd (zck to a []) λb=>sbd (zjd to r) λl=>.inr (b::l)
def zfI (to:RowID->yC):yE->Int⊕yE
 | []=>.inr []
 | ⟨v,a⟩::r=>sbd (zck to a []) λb=>sbd (zfI to r) λl=>.inr (⟨v,b⟩::l)
end
variable (to:RowID->yC)
theorem zLM (p:yC):zdn to [] p=.inr p:=by rw [zdn]
theorem zIE (f:Fc) (r:yD) (p:yC):zdn to (f::r) p=sbd (zel to f.At) λb=>sbd (zBm b f.Exp.toNat p) λq=>zdn to r q:=by cases f; rw [zdn]
theorem z0E (s:yC):zck to [] s=.inr s:=by rw [zck]
theorem zV9 (t:Term) (r s:yC):zck to (t::r) s=sbd (zdn to t.Fs (zuZ t.Cf)) λp=>sbd (opS (zxm s p)) λq=>zck to r q:=by cases t; rw [zck]
theorem zCs:zjd to []=.inr []:=by rw [zjd]
theorem zzW (a:yC) (r:yA):zjd to (a::r)=sbd (zck to a []) λb=>sbd (zjd to r) λl=>.inr (b::l):=by rw [zjd]
theorem zJL:zfI to []=.inr []:=by rw [zfI]
theorem zP8 (w:Wd) (r:yE):zfI to (w::r)=sbd (zck to w.Ann []) λb=>sbd (zfI to r) λl=>.inr (⟨w.Value,b⟩::l):=by cases w; rw [zfI]
theorem z2i (x:At):zel to x=if x.Kind=0 then .inr (to x.Row) else
  sbd (zjd to x.Ag) λxs=>if x.Kind=1 then opS (zQd (xs.getD 0 default) (xs.getD 1 default)) else if x.Kind=2 then opS (zPP (xs.getD 0 default)) else if x.Kind=3 then opS (zPt (xs.getD 0 default)) else
   sbd (zfI to x.Items) λis=>opS (zy3 x.Func is x.Op x.Bd):=by cases x; rw [zel]
def GE {α:Type} (P:α->Prop):Int⊕α->Prop
 | .inl e=>e≠0
 | .inr a=>P a
abbrev GS:Int⊕yC->Prop:=GE okA
theorem zRZ {r:yC×Int} (h:okR r):GS (opS r):=by
 unfold opS;by_cases he:r.2=0
 ·rw [if_pos he]; exact h.1
 ·rw [if_neg he]; exact he
theorem zRM {α β:Type} {P:α->Prop} {Q:β->Prop} {x:Int⊕α} {k:α->Int⊕β} (hx:GE P x) (hk:∀ a,P a->GE Q (k a)):GE Q (sbd x k):=by
 cases x with
 | inl e=>exact hx
 | inr a=>exact hk a hx
theorem z7y {b:yC} (hb:okA b):∀ (n:Nat) (p:yC),okA p->GS (zBm b n p)
 | 0,p,hp=>hp
 | n+1,p,hp=>zRM (zRZ (zN8 hp hb)) λq hq=>z7y hb n q hq
abbrev GL (n:Nat):Int⊕yA->Prop:=GE λl=>l.length=n/\∀ a∈l,okA a
abbrev GI (i:yE):Int⊕yE->Prop:=GE λl=>l.length=i.length/\∀ w∈l,okA w.Ann/\∃ v∈i,v.Value=w.Value
theorem zbhH (w:Wd):zLa w↔zWx w.Value/\zgo w.Ann/\w.Ann.length<=zbo:=by cases w; unfold zLa; exact Iff.rfl
theorem zbi0 {k f o:Int} {r:RowID} {a:yA} {i:yE} {b:Value} (h1:wf3 k) (h2:zZ4 r) (h3:zzs a/\a.length<=zbo) (h4:wf3 f) (h5:ztP i/\i.length<=zbo) (h6:wf3 o) (h7:zWx b):zf9 ⟨k,r,a,f,i,o,b⟩:=by
 unfold zf9; exact ⟨h1,h2,h3,h4,h5,h6,h7⟩
theorem z2z {f o:Int} {l:yE} {b:Value} (hl:l.length<=1000000) (h:∀ w∈l,okA w.Ann/\zWx w.Value) (hf:wf3 f) (ho:wf3 o) (hb:zWx b):okR (zy3 f l o b):=by
 unfold zy3;cases hk:zDv f l o b with
 | false=>exact ⟨zhB,.inr rfl⟩
 | true=>
  cases hv:l.all λw=>zF w.Ann with
  | false=>exact ⟨zhB,.inr rfl⟩
  | true=>
   simp only [Bool.and_self,Bool.not_true,cond_false];cases decide (0<(zeb l).length) with
   | true=>
    obtain ⟨tf,ts⟩:=zOX hl hk hv;have hr:zbo=140737488351232:=rfl;have hlen:(zeb l).length<=1000000:=by rw [z7N]; exact Nat.le_trans (List.length_filter_le _ _) hl
    refine zN9 ⟨⟨tf.mono (by omega),ts⟩,zJA _ λt ht=> ?_,by simp [zcu,zbo]⟩
    simp only [zcu,qh] at ht;subst ht;refine z12 ⟨by simp,by simp⟩ (λg hg=> ?_) (by simp)
    simp only [qh] at hg;subst hg;refine ⟨zbi0 (z0K (z0m (by omega))) ⟨zq2,zq2⟩ ⟨by unfold zzs; trivial,by simp⟩ hf ⟨zVL _ λw hw=> ?_,by omega⟩ ho hb,⟨by simp,by simp⟩⟩
    have hm:=h w (zNZ hw).1;exact (zbhH w).2 ⟨hm.2,hm.1.2⟩
   | false=>
    cases f==0&&zSG o (zd3 0 b.Int) with
    | true=>exact ⟨zVj 1 (by omega),.inl rfl⟩
    | false=>exact ⟨zhB,.inl rfl⟩
theorem zJB {l:yA} (h:∀ a∈l,okA a) (i:Nat):okA (l.getD i default):=by
 by_cases hi:i<l.length
 ·exact h _ (zr hi)
 ·rw [List.getD_eq_getElem?_getD,List.getElem?_eq_none (by omega)]; exact zhB
def okT (to:RowID->yC):Prop:=∀ r,zZ4 r->okA (to r)
variable {to}
mutual
theorem z0W (ht:okT to):∀ (x:At) (d:Nat),zf9 x->zc3 (zm d) x->GS (zel to x)
 | ⟨k,r,a,f,i,o,b⟩=>λd hw hi=>by
  have hw':=znt hw;simp only at hw';obtain ⟨⟨ha,hal⟩,⟨hit,hil⟩,hb,hk,hr,hf,ho⟩:=hw';obtain ⟨⟨l1,l2,_⟩,f1,f2⟩:=hi;simp only at l1 l2 f1 f2;rw [zel];by_cases hk0:k=0
  ·rw [if_pos hk0]; exact ht r hr
  ·rw [if_neg hk0];have hA:=zRt ht a d (λx hx=>(zhv ha x hx).1) f1
   refine zRM hA λxs has=> ?_
   have h0:=zJB has.2 0;have h1:=zJB has.2 1;split
   ·exact zRZ (zba5 h0 h1)
   ·split
    ·exact zRZ (zbbu h0)
    ·split
     ·exact zRZ (z95 h0)
     ·have hI:=zNR ht i d (λx hx=>(zfX hit x hx).2.1) λw hw=>(f2 w hw).2
      refine zRM hI λis his=> ?_
      refine zRZ (z2z (by omega) (λw hw=>⟨(his.2 w hw).1, ?_⟩) hf ho hb)
      obtain ⟨v,hv,e⟩:=(his.2 w hw).2;rw [<- e]; exact (zfX hit v hv).1
theorem zHw (ht:okT to):∀ (l:yD) (d:Nat),(∀ f∈l,zf9 f.At/\zc3 (zm d) f.At)->∀ p,okA p->GS (zdn to l p)
 | [],_,_,p,hp=>by rw [zdn]; exact hp
 | ⟨x,e⟩::r,d,h,p,hp=>by
  rw [zdn];have hx:=z0W ht x d (h ⟨x,e⟩ (by simp)).1 (h ⟨x,e⟩ (by simp)).2
  refine zRM hx λb hb=>zRM (z7y hb _ p hp) λq hq=> ?_
  exact zHw ht r d (λf hf=>h f (by simp [hf])) q hq
theorem zOe (ht:okT to):∀ (a:yC) (d:Nat),zgo a->(∀ t∈a,∀ f∈t.Fs,zc3 (zm d) f.At)->∀ s,okA s->GS (zck to a s)
 | [],_,_,_,s,hs=>by rw [zck]; exact hs
 | ⟨c,fs⟩::r,d,hw,hi,s,hs=>by
  rw [zck];have hwt:=zqr hw ⟨c,fs⟩ (by simp)
  have hp:=zHw ht fs d (λf hf=>⟨(znM (zl7 (zux hwt).2.1 f hf)).1,hi ⟨c,fs⟩ (by simp) f hf⟩) (zuZ c) (zbdJ c)
  refine zRM hp λp hp=>zRM (zRZ (zN5 hs hp)) λq hq=> ?_
  exact zOe ht r d (zJA _ λt ht=>zqr hw t (by simp [ht])) (λt ht=>hi t (by simp [ht])) q hq
theorem zRt (ht:okT to):∀ (l:yA) (d:Nat),(∀ a∈l,zgo a)->(∀ a∈l,zm d a)->GL l.length (zjd to l)
 | [],_,_,_=>by rw [zjd]; exact ⟨rfl,λa ha=>by cases ha⟩
 | a::r,d,h,hi=>by
  rw [zjd];have hf:=hi a (by simp)
  have h1:GS (zck to a []):=by
   cases d with
   | zero=>exact hf.elim
   | succ d=>exact zOe ht a d (h a (by simp)) (λt ht f hf'=>(hf.2 t ht).2 f hf') [] zhB
  have h2:=zRt ht r d (λb hb=>h b (by simp [hb])) (λb hb=>hi b (by simp [hb]))
  revert h1 h2;cases zck to a [] with
  | inl e=>exact λh _=>h
  | inr b=>
   cases zjd to r with
   | inl e=>exact λ_ h=>h
   | inr l=>
    intro h1 h2;refine ⟨by simp [h2.1],λx hx=> ?_⟩
    rcases qd.1 hx with rfl | hx
    ·exact h1
    ·exact h2.2 x hx
theorem zNR (ht:okT to):∀ (l:yE) (d:Nat),(∀ w∈l,zgo w.Ann)->(∀ w∈l,zm d w.Ann)->GI l (zfI to l)
 | [],_,_,_=>by rw [zfI]; exact ⟨rfl,λa ha=>by cases ha⟩
 | ⟨v,a⟩::r,d,h,hi=>by
  rw [zfI];have hf:zm d a:=hi ⟨v,a⟩ (by simp)
  have h1:GS (zck to a []):=by
   cases d with
   | zero=>exact hf.elim
   | succ d=>exact zOe ht a d (h ⟨v,a⟩ (by simp)) (λt ht f hf'=>(hf.2 t ht).2 f hf') [] zhB
  have h2:=zNR ht r d (λb hb=>h b (by simp [hb])) (λb hb=>hi b (by simp [hb]))
  revert h1 h2;cases zck to a [] with
  | inl e=>exact λh _=>h
  | inr b=>
   cases zfI to r with
   | inl e=>exact λ_ h=>h
   | inr l=>
    intro h1 h2;refine ⟨by simp [h2.1],λx hx=> ?_⟩
    rcases qd.1 hx with rfl | hx
    ·exact ⟨h1,⟨v,a⟩,by simp,rfl⟩
    ·obtain ⟨h3,w,hw,e⟩:=h2.2 x hx;exact ⟨h3,w,by simp [hw],e⟩
end
end Go.Proofs.YtljlfiomikifjaaGreatDoor
end
