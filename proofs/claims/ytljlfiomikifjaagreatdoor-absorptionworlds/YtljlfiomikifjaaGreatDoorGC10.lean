/- Texts of this claim, joined (the program, its functions in plain words, and what they compute). -/
import Derived.Test.YtljlfiomikifjaaGreatDoorGC9
set_option autoImplicit false
set_option linter.unusedVariables false
set_option linter.unusedSectionVars false
set_option linter.unusedSimpArgs false
set_option maxRecDepth 1000000
set_option maxHeartbeats 0
/- The operations of both sides: what their loops compute. -/
noncomputable section
namespace Go.Proofs.YtljlfiomikifjaaGreatDoor
open Go Go.Ab
def zbh1 (t:Term):yC->yC
 | []=>[t]
 | x::r=>if cT x t=0 then ⟨zvz x.Cf t.Cf,t.Fs⟩::r else t::x::r
def zbiX (f:Fc):yD->yD
 | []=>[f]
 | x::r=>if cF x f=0 then (if f.At.Kind<3 then ⟨f.At,x.Exp+f.Exp⟩ else f)::r else f::x::r
theorem zbmr {t:Term} {l:yC} {k:Nat} (hk:k<l.length):zbh1 t (l.drop k)=if cT (l.getD k default) t=0 then ⟨zvz (l.getD k default).Cf t.Cf,t.Fs⟩::l.drop (k+1) else t::l.drop k:=by
 rw [zY hk]; rfl
theorem zbm3 {f:Fc} {l:yD} {k:Nat} (hk:k<l.length):zbiX f (l.drop k)=if cF (l.getD k default) f=0 then (if f.At.Kind<3 then ⟨f.At,(l.getD k default).Exp+f.Exp⟩ else f)::l.drop (k+1) else f::l.drop k:=by
 rw [zY hk]; rfl
theorem zbhj (t:Term):∀ l:yC,zil t l=l.takeWhile (λx=>decide (cT x t<0))++zbh1 t (l.dropWhile (λx=>decide (cT x t<0)))
 | []=>rfl
 | x::r=>by
  rw [List.takeWhile_cons,List.dropWhile_cons];unfold zil;by_cases h:cT x t<0
  ·simp only [h,if_true,decide_true,List.cons_append];rw [zbhj t r]
  ·simp only [h,if_false,decide_false,Bool.false_eq_true,List.nil_append]; rfl
theorem zbhh (f:Fc):∀ l:yD,zKg f l=l.takeWhile (λx=>decide (cF x f<0))++zbiX f (l.dropWhile (λx=>decide (cF x f<0)))
 | []=>rfl
 | x::r=>by
  rw [List.takeWhile_cons,List.dropWhile_cons];unfold zKg;by_cases h:cF x f<0
  ·simp only [h,if_true,decide_true,List.cons_append];rw [zbhh f r]
  ·simp only [h,if_false,decide_false,Bool.false_eq_true,List.nil_append]; rfl
theorem zbmY {a b:Int} (ha:0<=a/\a<=1152921504606846976) (hb:0<=b/\b<=1152921504606846976):IntKind.i64.wrap (a+b)=a+b:=zmE (by omega) (by omega)
theorem zbfi {τ:Type} (l:List τ) (p:τ->Bool):(l.takeWhile p).length<=l.length:=(List.takeWhile_prefix p).length_le
theorem zbn0 (z:Int):(z==0)=decide (z=0):=zl2 z 0
theorem zbhd {d:Nat} (l:yC) (t:Term) (hl:l.length<=1000000) (h:∀ x∈l,zf3 (zw d) x.Fs) (hd:d<=99) (hc:∀ x∈l,cOK x) (ht:cOK t):zEz l t=(true,zil t l):=by
 have hreach:zP=70368744177664:=rfl;unfold zEz z5S
 have hL:=zMm (W:=zOO) (z:=default) l (λx=>decide (cT x t<0)) (λk=>(l,(),(k:Int),())) (λ_=>(t,())) (λk=>(l,(k:Int),t))
  (λk hk H K D=>by
   show (zAd l k t).ev H K D=_;unfold zAd;simp only [Wy.ev_i,Wy.ev_k,Wy.ev_h,Wy.ev_bn,Wy.ev_d,tT,hk,zsP (h _ (zI hk)) hd];rw [zJ (by omega)]; rfl)
  (λH K D=>by
   show (zAd l l.length t).ev H K D=_;unfold zAd;simp only [Wy.ev_i,Wy.ev_k,tT,Nat.lt_irrefl]) (l.length+Int.toNat (0:Int)+t.Fs.length+(1:Nat)) (by omega)
 have hL:z2k (l.length+Int.toNat (0:Int)+t.Fs.length+(1:Nat)) l 0 t=_:=hL;rw [hL,z3t,zbhj];have q1:=zbfi l (λx=>decide (cT x t<0))
 have q2:=zUB (λx=>decide (cT x t<0)) l
 have q3:=zTY (λx=>decide (cT x t<0)) l
 generalize (l.takeWhile λx=>decide (cT x t<0)).length=k at q1 q2 q3 ⊢
 rw [<- q2, <- q3];have g1:(decide ((0:Int)<=(0:Int))&&decide ((0:Int)<=(k:Int))&&decide ((k:Int)<=Int.ofNat l.length))=true:=by simp only [qc,qe,Int.ofNat_eq_natCast]; omega
 have g2:decide ((0+(l.take k).length)*32<=zP)=true:=by simp only [qe,List.length_take]; omega
 have g4:∀ m:Nat,decide (((l.take k).length+[(⟨0,[]⟩:Term)].length)*32<=zP)=true:=λm=>by simp only [qe,List.length_take,List.length_singleton]; omega
 simp only [Wy.fin_i,Wy.fin_k,Wy.fin_bn,List.nil_append,Int.toNat_natCast,zUs,zER,g1,g2,cond_true];by_cases hk:k<l.length
 ·have g3:decide ((k:Int)<Int.ofNat l.length)=true:=by simp [hk]
  have g5:(decide ((0:Int)<=(k:Int))&&decide ((k:Int)<Int.ofNat l.length))=true:=by rw [g3]; simp
  have hm:=zI hk;simp only [g3,zbc,Bool.and_self,cond_true,zsP (h _ hm) hd];rw [zbn0,zbmr hk];have gw:IntKind.i64.wrap ((k:Int)+1)=((k+1:Nat):Int):=zJ (by omega)
  have gp:(zxW (l.getD k default).Cf t.Cf).2=zvz (l.getD k default).Cf t.Cf:=by
   unfold zxW z07 zvz;rw [Wy.fin_k,zbmY ⟨by have:=(hc _ hm).1; omega,(hc _ hm).2⟩ ⟨by have:=ht.1; omega,ht.2⟩]
  have gk:(decide ((0:Int)<=(k:Int))&&decide ((k:Int)<=Int.ofNat l.length)&&decide (Int.ofNat l.length<=Int.ofNat l.length))=true:=by simp only [qc,qe,Int.ofNat_eq_natCast]; omega
  have gk':decide ((k:Int)<=Int.ofNat l.length)=true:=by simp only [qe,Int.ofNat_eq_natCast]; omega
  have gk1':decide (((k+1:Nat):Int)<=Int.ofNat l.length)=true:=by simp only [qe,Int.ofNat_eq_natCast]; omega
  have gk1:(decide ((0:Int)<=((k+1:Nat):Int))&&decide (((k+1:Nat):Int)<=Int.ofNat l.length)&&decide (Int.ofNat l.length<=Int.ofNat l.length))=true:=by simp only [qc,qe,Int.ofNat_eq_natCast]; omega
  have gb:∀ x:Term,decide (((l.take k).length+[x].length)*32<=zP)=true:=λx=>by simp only [qe,List.length_take,List.length_singleton]; omega
  have gc:∀ (x:Term) (m:Nat),decide (((l.take k++[x]).length+(l.drop m).length)*32<=zP)=true:=λx m=>by simp only [qe,List.length_take,List.length_drop,qg,List.length_singleton]; omega
  by_cases hz:cT (l.getD k default) t=0
  ·have hz':zbV (zbW (l.getD k default).Fs) (zbW t.Fs)=0:=hz;simp only [hz,hz',if_true,decide_true,cond_true,gw,gp,zbc,Bool.true_and,gk1',Int.le_refl,decide_true,cond_true,Bool.and_self,gb,gc,Int.toNat_natCast,zER,List.append_assoc,List.singleton_append]
  ·have hz':¬ zbV (zbW (l.getD k default).Fs) (zbW t.Fs)=0:=hz;simp only [hz,hz',if_false,decide_false,cond_false,cond_true,zbc,Bool.true_and,gk',Int.le_refl,decide_true,cond_true,Bool.and_self,gb,gc,List.append_assoc,List.singleton_append]
 ·have hk':k=l.length:=by omega
  have g3:decide ((k:Int)<Int.ofNat l.length)=false:=by simp [hk]
  have gk:(decide ((0:Int)<=(k:Int))&&decide ((k:Int)<=Int.ofNat l.length)&&decide (Int.ofNat l.length<=Int.ofNat l.length))=true:=by simp only [qc,qe,Int.ofNat_eq_natCast]; omega
  have gb:∀ x:Term,decide (((l.take k).length+[x].length)*32<=zP)=true:=λx=>by simp only [qe,List.length_take,List.length_singleton]; omega
  have gc:∀ (x:Term) (m:Nat),decide (((l.take k++[x]).length+(l.drop m).length)*32<=zP)=true:=λx m=>by simp only [qe,List.length_take,List.length_drop,qg,List.length_singleton]; omega
  have gk':decide ((k:Int)<=Int.ofNat l.length)=true:=by simp only [qe,Int.ofNat_eq_natCast]; omega
  simp only [g3,zbc,Bool.true_and,gk',Int.le_refl,decide_true,Bool.and_self,gb,gc,cond_true,cond_false];rw [zce hk];simp [zbh1,zbiX]
theorem zbmv {d:Nat} (l:yD) (f:Fc) (hl:l.length<=1000000) (h:∀ x∈l,zel (zw d) x.At) (hd:d<=99) (hc:∀ x∈l,0<=x.Exp/\x.Exp<=1000000) (ht:0<=f.Exp/\f.Exp<=1000000):zAw l f=(true,zKg f l):=by
 have hreach:zP=70368744177664:=rfl;unfold zAw zTe
 have hL:=zMm (W:=zFJ) (z:=default) l (λx=>decide (cF x f<0)) (λk=>(l,(),(k:Int),())) (λ_=>(f,())) (λk=>(l,(k:Int),f))
  (λk hk H K D=>by
   show (ztT l k f).ev H K D=_;unfold ztT;simp only [At.eta,Wy.ev_i,Wy.ev_k,Wy.ev_h,Wy.ev_bn,Wy.ev_d,tT,hk,zxs (h _ (zI hk)) hd];rw [zJ (by omega)]; rfl)
  (λH K D=>by
   show (ztT l l.length f).ev H K D=_;unfold ztT;simp only [Wy.ev_i,Wy.ev_k,tT,Nat.lt_irrefl]) (l.length+Int.toNat (0:Int)+f.At.Ag.length+f.At.Items.length+(1:Nat)) (by omega)
 have hL:zQD (l.length+Int.toNat (0:Int)+f.At.Ag.length+f.At.Items.length+(1:Nat)) l 0 f=_:=hL;rw [At.eta,show (FO.mk f.At f.Exp:Fc)=f from rfl,hL,z3t,zbhh]
 have q1:=zbfi l (λx=>decide (cF x f<0))
 have q2:=zUB (λx=>decide (cF x f<0)) l
 have q3:=zTY (λx=>decide (cF x f<0)) l
 generalize (l.takeWhile λx=>decide (cF x f<0)).length=k at q1 q2 q3 ⊢
 rw [<- q2, <- q3];have g1:(decide ((0:Int)<=(0:Int))&&decide ((0:Int)<=(k:Int))&&decide ((k:Int)<=Int.ofNat l.length))=true:=by simp only [qc,qe,Int.ofNat_eq_natCast]; omega
 have g2:decide ((0+(l.take k).length)*128<=zP)=true:=by simp only [qe,List.length_take]; omega
 have gb:∀ x:Fc,decide (((l.take k).length+[x].length)*128<=zP)=true:=λx=>by simp only [qe,List.length_take,List.length_singleton]; omega
 have gc:∀ (x:Fc) (m:Nat),decide (((l.take k++[x]).length+(l.drop m).length)*128<=zP)=true:=λx m=>by simp only [qe,List.length_take,List.length_drop,qg,List.length_singleton]; omega
 have gk:(decide ((0:Int)<=(k:Int))&&decide ((k:Int)<=Int.ofNat l.length)&&decide (Int.ofNat l.length<=Int.ofNat l.length))=true:=by simp only [qc,qe,Int.ofNat_eq_natCast]; omega
 have ef:(FO.mk f.At f.Exp:Fc)=f:=rfl;simp only [At.eta,ef,Wy.fin_i,Wy.fin_k,Wy.fin_bn,List.nil_append,Int.toNat_natCast,zUs,zER,g1,g2,cond_true];by_cases hk:k<l.length
 ·have g3:decide ((k:Int)<Int.ofNat l.length)=true:=by simp [hk]
  have g5:(decide ((0:Int)<=(k:Int))&&decide ((k:Int)<Int.ofNat l.length))=true:=by rw [g3]; simp
  have hm:=zI hk;simp only [g3,zbc,Bool.and_self,cond_true,zxs (h _ hm) hd];rw [zbn0,zbm3 hk];have gw:IntKind.i64.wrap ((k:Int)+1)=((k+1:Nat):Int):=zJ (by omega)
  have gp:IntKind.i64.wrap ((l.getD k default).Exp+f.Exp)=(l.getD k default).Exp+f.Exp:=by have:=hc _ hm; exact zmE (by omega) (by omega)
  have gk':decide ((k:Int)<=Int.ofNat l.length)=true:=by simp only [qe,Int.ofNat_eq_natCast]; omega
  have gk1':decide (((k+1:Nat):Int)<=Int.ofNat l.length)=true:=by simp only [qe,Int.ofNat_eq_natCast]; omega
  have gk1:(decide ((0:Int)<=((k+1:Nat):Int))&&decide (((k+1:Nat):Int)<=Int.ofNat l.length)&&decide (Int.ofNat l.length<=Int.ofNat l.length))=true:=by simp only [qc,qe,Int.ofNat_eq_natCast]; omega
  by_cases hz:cF (l.getD k default) f=0
  ·have hz':zbq (zet (l.getD k default).At) (zet f.At)=0:=hz;by_cases hk3:f.At.Kind<3
   ·simp only [hz,hz',hk3,if_true,decide_true,cond_true,gw,gp,zbc,Bool.true_and,gk1',Int.le_refl,decide_true,cond_true,Bool.and_self,gb,gc,Int.toNat_natCast,zER,List.append_assoc,List.singleton_append]
   ·simp only [hz,hz',hk3,if_true,if_false,decide_true,decide_false,cond_true,cond_false,gw,gp,zbc,Bool.true_and,gk1',Int.le_refl,decide_true,cond_true,Bool.and_self,gb,gc,Int.toNat_natCast,zER,List.append_assoc,List.singleton_append]
  ·have hz':¬ zbq (zet (l.getD k default).At) (zet f.At)=0:=hz;simp only [hz,hz',if_false,decide_false,cond_false,cond_true,zbc,Bool.true_and,gk',Int.le_refl,decide_true,cond_true,Bool.and_self,gb,gc,List.append_assoc,List.singleton_append]
 ·have g3:decide ((k:Int)<Int.ofNat l.length)=false:=by simp [hk]
  have gk':decide ((k:Int)<=Int.ofNat l.length)=true:=by simp only [qe,Int.ofNat_eq_natCast]; omega
  simp only [g3,zbc,Bool.true_and,gk',Int.le_refl,decide_true,Bool.and_self,gb,gc,cond_true,cond_false];rw [zce hk];simp [zbh1,zbiX]
theorem zbk2 {a b:Int} (ha:1<=a/\a<=1152921504606846976) (hb:1<=b/\b<=1152921504606846976):zrb a b=(true,zv5 a b)/\zC8 a b=(true,zv5 a b):=by
 obtain ⟨h1,h2⟩:=zMO ha hb;have h0:(!decide (b=(0:Int)))=true:=by rw [decide_eq_false (by omega)]; rfl
 have hq:0<=Int.tdiv 1152921504606846976 b/\Int.tdiv 1152921504606846976 b<=1152921504606846976:=by
  rw [Int.tdiv_eq_ediv_of_nonneg (by omega)]
  exact ⟨Int.ediv_nonneg (by omega) (by omega),Int.ediv_le_self _ (by omega)⟩
 have hw:IntKind.i64.wrap (Int.tdiv 1152921504606846976 b)=Int.tdiv 1152921504606846976 b:=zmE (by omega) (by omega)
 have key:∀ w:Int,(w=if Int.tdiv 1152921504606846976 b<a then 1152921504606846976 else IntKind.i64.wrap (a*b))->w=zv5 a b:=λw e=>by
  rw [e]; unfold zv5;split
  ·rfl
  ·rename_i hn;have h3:=h2 hn;have h4:=Int.mul_nonneg (show 0<=a by omega) (show 0<=b by omega)
   exact zmE (by omega) (by omega)
 constructor
 ·unfold zrb zJ2;rw [Wy.fin_i,h0,cond_true,Wy.fin_i,hw,Wy.fin_k,Wy.fin_k];by_cases hc:Int.tdiv 1152921504606846976 b<a
  ·rw [decide_eq_true hc,cond_true]; exact congrArg (Prod.mk true) (key _ (by rw [if_pos hc]))
  ·rw [decide_eq_false hc,cond_false]; exact congrArg (Prod.mk true) (key _ (by rw [if_neg hc]))
 ·unfold zC8 zYt;rw [Wy.fin_i,h0,cond_true,Wy.fin_i,hw,Wy.fin_k,Wy.fin_k];by_cases hc:Int.tdiv 1152921504606846976 b<a
  ·rw [decide_eq_true hc,cond_true]; exact congrArg (Prod.mk true) (key _ (by rw [if_pos hc]))
  ·rw [decide_eq_false hc,cond_false]; exact congrArg (Prod.mk true) (key _ (by rw [if_neg hc]))
theorem zA2 {τ:Type} [Inhabited τ] {R:τ->τ->Prop} (ht:∀ x y z,R x y->R y z->R x z):∀ l:List τ,(∀ k,0<k->k<l.length->R (l.getD (k - 1) default) (l.getD k default))->l.Pairwise R
 | [],_=>.nil
 | [x],_=>by simp
 | x::y::r,h=>by
  have h1:R x y:=h 1 (by omega) (by simp)
  have h2:=zA2 ht (y::r) λk hk hl=>by
   have:=h (k+1) (by omega) (by simpa using hl)
   obtain ⟨j,rfl⟩:∃ j,k=j+1:=⟨k - 1,by omega⟩
   exact this
  refine qi.2 ⟨λz hz=> ?_,h2⟩
  rcases qd.1 hz with rfl | hz
  ·exact h1
  ·exact ht x y z h1 ((qi.1 h2).1 z hz)
def GF (f:Fc):Prop:=(zeG (zbR 9) f.At=true/\zjk f.At/\f.At.Items.length<=1024)/\1<=f.Exp/\f.Exp<=1000000
def GT (t:Term):Prop:=cOK t/\t.Fs.length<=1000/\∀ f∈t.Fs,GF f
def VT (t:Term):Prop:=GT t/\Srf t.Fs/\t.Fs.length<=64/\∀ f∈t.Fs,eOK f/\f.Exp<=64
theorem zAx {a:yC} (h:zbe a=true) (hw:zhV a):Srs a/\a.length<=512/\∀ t∈a,VT t:=by
 have h9:=z67 h (Nat.le_refl 9);rw [z9D] at h;obtain ⟨w1,w2,w3,w4⟩:=zBs (zQO h);have hall:=h;simp only [zxN,qc] at hall;refine ⟨zA2 (R:=λx y=>cT x y<0) (λx y z h1 h2=>zXE h1 h2) a λk hk hl=> ?_,w1,λt ht=> ?_⟩
 ·have:=zlb.1 hall.2 k (by omega) (by omega)
  simp only [zFX,qc,Bool.or_eq_true,qe] at this;rcases this.1.2 with e | e
  ·omega
  ·exact e
 ·obtain ⟨hc,hok⟩:=zEL h ht;obtain ⟨l1,l2⟩:=w4 t ht;have hwt:=zti (zBm (zwY hw t ht)).2.1;refine ⟨⟨hc,by omega,λf hf=> ?_⟩,zA2 (R:=λx y=>cF x y<0) (λx y z h1 h2=>zAl h1 h2) _ λk hk hl=> ?_,l1,λf hf=> ?_⟩
  ·obtain ⟨⟨e1,_⟩,hv⟩:=zBY hok hf;exact ⟨⟨by rw [zbjn (Nat.le_refl 9)]; exact hv,(zv0 (hwt f hf)).1,(l2 f hf).2⟩,e1,by have:=(l2 f hf).1; omega⟩
  ·have:=zlb.1 hok k (by omega) (by omega)
   simp only [zSE,qc,Bool.or_eq_true,qe] at this;rcases this.1.2 with e | e
   ·omega
   ·exact e
  ·obtain ⟨⟨_,e2⟩,hv⟩:=zBY hok hf;exact ⟨⟨zBy hv,e2⟩,(l2 f hf).1⟩
theorem zBZ {m:Nat} {x:At} (h:zeG (zbR m) x=true) (hi:x.Items.length<=1024):zel (zw 9) x:=by
 cases zev.1 h with
 | var r h=>exact ⟨⟨by simp,by simp,by show (ByteArray.mk #[]).size<=_; decide⟩,λa ha=>(by cases ha),λw hw=>(by cases hw)⟩
 | mon b c hb hc _ _ _=>
  refine ⟨⟨by simp,by simp,by show (ByteArray.mk #[]).size<=_; decide⟩,λy hy=> ?_,λw hw=>(by cases hw)⟩
  simp only [qd,List.not_mem_nil,or_false] at hy;rcases hy with rfl | rfl
  ·exact (zgB hb).1
  ·exact (zgB hc).1
 | del b hb _ _ _=>
  refine ⟨⟨by simp,by simp,by show (ByteArray.mk #[]).size<=_; decide⟩,λy hy=> ?_,λw hw=>(by cases hw)⟩
  rw [qh] at hy; subst hy; exact (zgB hb).1
 | abs b hb _ _=>
  refine ⟨⟨by simp,by simp,by show (ByteArray.mk #[]).size<=_; decide⟩,λy hy=> ?_,λw hw=>(by cases hw)⟩
  rw [qh] at hy; subst hy; exact (zgB hb).1
 | tst f l o b hl hv hs hf=>
  obtain ⟨_,hb,hit⟩:=zBG hf;simp only at hi;exact ⟨⟨by simp,by simp only; omega,by have:=zEx hb; simp only; omega⟩,λa ha=>(by cases ha),λw hw=>⟨by have:=zEx (hit w hw).1; omega,(zgB (hv w hw).1).1⟩⟩
theorem GT.fine {t:Term} (h:GT t):zf3 (zw 9) t.Fs:=⟨by have:=h.2.1; omega,λf hf=>zBZ (h.2.2 f hf).1.1 (h.2.2 f hf).1.2.2⟩
theorem GF.gF {f:Fc} (h:GF f):gF (zbR 9) f:=⟨h.1.1,h.1.2.1,by constructor <;>(have:=h.2; omega)⟩
theorem GT.inj {s t:Term} (hs:GT s) (ht:GT t) (h:bs (txL s.Fs)=bs (txL t.Fs)):s.Fs=t.Fs:=
 zbm6 (λf hf=>(hs.2.2 f hf).gF) (λf hf=>(ht.2.2 f hf).gF) (zbnx h)
mutual
theorem zbgU:∀ x:At,zkv x<=zfq x
 | ⟨_,_,a,_,i,_,_⟩=>by
  rw [zkv,zfq];have h1:=z5H a;have h2:=z10 i;omega
theorem zTT:∀ l:yD,zcc l<=zZ l
 | []=>by rw [zcc,zZ]; exact Nat.le_refl _
 | ⟨x,_⟩::r=>by
  rw [zcc,zZ];have h1:=zbgU x;have h2:=zTT r;omega
theorem zMW:∀ l:yC,zX l<=zbw l
 | []=>by rw [zX,zbw]; exact Nat.le_refl _
 | ⟨_,fs⟩::r=>by
  rw [zX,zbw];have h1:=zTT fs;have h2:=zMW r;omega
theorem z5H:∀ l:yA,zfp l<=zqd l
 | []=>by rw [zfp,zqd]; exact Nat.le_refl _
 | a::r=>by
  rw [zfp,zqd];have h1:=zMW a;have h2:=z5H r;omega
theorem z10:∀ l:yE,zdU l<=l.length+zkf l
 | []=>by rw [zdU,zkf]; exact Nat.zero_le _
 | ⟨_,a⟩::r=>by
  rw [zdU,zkf];have h1:=zMW a;have h2:=z10 r;simp only [qf];omega
end
theorem zbkQ (d:Nat):zw (d+1) []:=⟨by simp,λt ht=>by cases ht⟩
theorem zTb {B:Nat}:∀ l:yD,(∀ f∈l,zkv f.At<=B)->zcc l<=l.length*B
 | [],_=>by rw [zmJ]; simp
 | f::r,h=>by
  have h1:=h f (by simp)
  have h2:=zTb r λg hg=>h g (by simp [hg])
  rw [zeF,qf,Nat.add_mul]; omega
theorem z9q {B:Nat}:∀ l:yC,(∀ t∈l,1+t.Fs.length+zcc t.Fs<=B)->zX l<=l.length*B
 | [],_=>by rw [zBx]; simp
 | f::r,h=>by
  have h1:=h f (by simp)
  have h2:=z9q r λg hg=>h g (by simp [hg])
  rw [zjN,qf,Nat.add_mul]; omega
theorem zbeZ {l:yC} (hl:l.length<=1000000) (h:∀ t∈l,GT t):zw 10 l/\zX l<=4611686018427387904:=by
 refine ⟨⟨hl,λt ht=>(h t ht).fine⟩, ?_⟩
 refine Nat.le_trans (z9q (B:=4195330000) l λt ht=> ?_) (by have:=Nat.mul_le_mul hl (Nat.le_refl 4195330000); omega)
 have hg:=h t ht;have h1:=zTb (B:=4195328) t.Fs λf hf=>zbgK (hg.2.2 f hf).1.1 (hg.2.2 f hf).1.2.2
 have:=Nat.mul_le_mul hg.2.1 (Nat.le_refl 4195328);have:=hg.2.1;omega
theorem zbgt {t:Term} (ht:GT t) {l:yC} (hs:Srs l) (h:∀ x∈l,GT x):∀ x∈zil t l,GT x:=λx hx=>by
 have hc:=z9y ht.1 (λy hy=>(h y hy).1) x hx
 rcases (z3o hs).1 hx with ⟨h1,_⟩ | ⟨h1,_⟩
 ·exact h x h1
 ·exact ⟨hc,by rw [h1]; exact ht.2⟩
theorem zTA:∀ (b a:yC),Srs a->(∀ x∈a,GT x)->(∀ x∈b,GT x)->∀ x∈zgP a b,GT x
 | [],_,_,ha,_=>ha
 | t::r,a,hs,ha,hb=>zTA r (zil t a) (zNn hs) (zbgt (hb t (by simp)) hs ha) λx hx=>hb x (by simp [hx])
theorem zWA {x y:Term} (hx:VT x) (hy:VT y):GT (zvj x y):=by
 obtain ⟨gx,sx,lx,ex⟩:=hx;obtain ⟨gy,sy,ly,ey⟩:=hy;refine ⟨(zMO gx.1 gy.1).1,by have:=zOI x.Fs y.Fs; show (zb0 x.Fs y.Fs).length<=1000; omega,λf hf=> ?_⟩
 obtain ⟨g,hg,e⟩:=zq6 hf;have hb:=zOp (B:=64) (λz hz=>⟨(gx.2.2 z hz).2.1,(ex z hz).2⟩) (λz hz=>⟨(gy.2.2 z hz).2.1,(ey z hz).2⟩) hf
 have hv:(zeG (zbR 9) g.At=true/\zjk g.At/\g.At.Items.length<=1024):=by
  rcases hg with hg | hg
  ·exact (gx.2.2 g hg).1
  ·exact (gy.2.2 g hg).1
 exact ⟨by rw [e]; exact hv,hb.1,by omega⟩
theorem zbeT {a b:yC} (ha:∀ t∈a,VT t) (hb:∀ t∈b,VT t):∀ t∈zgM a b,GT t:=λt ht=>by
 obtain ⟨x,hx,y,hy,rfl⟩:=zEv ht;exact zWA (ha x hx) (hb y hy)
theorem szTs_get' (a:yC) (i:Nat) (h:i<a.length):(a.getD i default).Fs.length<=zbD a:=zHu a i h
theorem zblG (a b:yC) (i:Int) (k:Nat) (hk:k<b.length) (out:yC) (c:Int) (x:Term) (hx:VT x) (hy:VT (b.getD k default)) (n:Nat) (hn:(b.getD k default).Fs.length<n):
  zLB n a b i k 0 out c x.Fs=(true,(a,b,i,(k:Int),out,c,zb0 x.Fs (b.getD k default).Fs)):=by
 obtain ⟨gx,sx,lx,ex⟩:=hx;obtain ⟨gy0,sy,ly,ey⟩:=hy;have gy:∀ f∈(b.getD k default).Fs,GF f:=gy0.2.2;have sy:Srf (b.getD k default).Fs:=sy;clear gy0;generalize hF:(b.getD k default).Fs=F at *
 have key:∀ j,j<F.length->zKg (F.getD j default) (zb0 x.Fs (F.take j))=zb0 x.Fs (F.take (j+1)):=λj hj=>by
  have e1:=zVm (F.take j) x.Fs (sy.sublist (List.take_sublist _ _)) (λz hz=>(ex z hz).1) λz hz=>(ey z (List.mem_of_mem_take hz)).1
  have e2:=zVm (F.take (j+1)) x.Fs (sy.sublist (List.take_sublist _ _)) (λz hz=>(ex z hz).1) λz hz=>(ey z (List.mem_of_mem_take hz)).1
  rw [<- e1, <- e2,zqi hj,List.foldl_append]; rfl
 have:=zg7 (W:=zCS) (z:=default) F.length (λj=>(a,b,(),i,(k:Int),(),(j:Int),())) (λj=>(out,(c,zb0 x.Fs (F.take j),()),())) (λ_=>true) default (a,b,i,(k:Int),out,c,zb0 x.Fs F)
  (λj hj H K D=>by
   show (zoS a b i k j out c (zb0 x.Fs (F.take j))).ev H K D=_;unfold zoS;have hlen:=zOI x.Fs (F.take j);rw [List.length_take] at hlen;have hex:=λz (hz:z∈zb0 x.Fs (F.take j))=>zOp (B:=64) (λz hz=>⟨(gx.2.2 z hz).2.1,(ex z hz).2⟩) (λz hz=>⟨(gy z (List.mem_of_mem_take hz)).2.1,(ey z (List.mem_of_mem_take hz)).2⟩) hz
   have hfine:∀ z∈zb0 x.Fs (F.take j),zel (zw 9) z.At:=λz hz=>by
    obtain ⟨w,hw,e⟩:=zq6 hz;rw [e];rcases hw with hw | hw
    ·exact zBZ (gx.2.2 w hw).1.1 (gx.2.2 w hw).1.2.2
    ·exact zBZ (gy w (List.mem_of_mem_take hw)).1.1 (gy w (List.mem_of_mem_take hw)).1.2.2
   have hm:=zI hj;have e1:decide ((k:Int)<Int.ofNat b.length)=true:=by simp [hk]
   have e2:decide ((j:Int)<Int.ofNat F.length)=true:=by simp [hj]
   have efx:(FO.mk (F.getD j default).At (F.getD j default).Exp:Fc)=F.getD j default:=rfl;simp only [At.eta,Wy.ev_i,Wy.ev_k,Wy.ev_h,Wy.ev_bn,Wy.ev_d,zbc,Bool.and_self,cond_true,Int.toNat_natCast,hF,e1,e2,efx];rw [zbmv (d:=9) _ _ (by omega) hfine (by omega) (λz hz=>by have:=hex z hz; omega) (by have:=(gy _ hm).2; omega),cond_true,zJ (by omega),key j hj])
  (λH K D=>by
   show (zoS a b i k F.length out c (zb0 x.Fs (F.take F.length))).ev H K D=_;unfold zoS;have e1:decide ((k:Int)<Int.ofNat b.length)=true:=by simp [hk]
   have e2:decide ((F.length:Int)<Int.ofNat F.length)=false:=by simp
   simp only [Wy.ev_i,Wy.ev_k,zbc,Bool.and_self,cond_true,cond_false,Int.toNat_natCast,hF,e1,e2,List.take_length]) n hn
 rw [show zka (λ_=>true) F.length 0=true from zlb.2 λ_ _ _=>rfl] at this
 simp only [List.take_zero,zJH] at this;exact this
theorem zbmO (a b:yC) (i:Nat) (hi:i<a.length) (hal:a.length<=512) (hbl:b.length<=512) (hx:VT (a.getD i default)) (hb:∀ t∈b,VT t) (out:yC) (ho:out.length<=i*512) (hs:Srs out) (hg:∀ t∈out,GT t) (n:Nat) (hn:b.length<n):
  zNU n a b i 0 out=(true,(a,b,(i:Int),zgP out (b.map (zvj (a.getD i default))))):=by
 have:=zeu (W:=zDI) (z:=default) (l:=b) (λk (o:yC)=>(a,b,(),(i:Int),(k:Int),())) (λ_ o=>(o,())) (λy o=>.inl (zil (zvj (a.getD i default) y) o)) (λo=>(a,b,(i:Int),o)) (λk o=>(o.length<=i*512+k/\Srs o)/\∀ t∈o,GT t)
  (λk o hk hI=>.inl ⟨_,rfl,⟨⟨by have:=z3x (t:=zvj (a.getD i default) (b.getD k default)) o; omega,zNn hI.1.2⟩,zbgt (zWA hx (hb _ (zI hk))) hI.1.2 hI.2⟩,λH K D=>by
   show (zrm a b i k o).ev H K D=_;unfold zrm;have hy:=hb _ (zI hk);have hsz:=szTs_get' b k hk;simp only [Wy.ev_i,Wy.ev_k,Wy.ev_h,Wy.ev_bn,Wy.ev_d,tT,hk,hi,(zbk2 hx.1.1 hy.1.1).2];rw [zblG a b i k hk o _ _ hx hy _ (by omega)]
   simp only [cond_true];have e:(TO.mk (zv5 (a.getD i default).Cf (b.getD k default).Cf) (zb0 (a.getD i default).Fs (b.getD k default).Fs):Term)=zvj (a.getD i default) (b.getD k default):=rfl;have hg:=zWA hx hy;rw [e,zbhd (d:=9) o _ (by omega) (λz hz=>(hI.2 z hz).fine) (by omega) (λz hz=>(hI.2 z hz).1) hg.1]
   simp only [cond_true];rw [zJ (by omega)]⟩)
  (λo hI H K D=>by
   show (zrm a b i b.length o).ev H K D=_;unfold zrm;simp only [Wy.ev_i,Wy.ev_k,tT,Nat.lt_irrefl]) n 0 out (by omega) (by omega) (show (out.length<=i*512+0/\Srs out)/\∀ t∈out,GT t from ⟨⟨Nat.le_trans ho (Nat.le_add_right _ _),hs⟩,hg⟩)
 rw [List.drop_zero,zex] at this
 have e:∀ (l:yC) (o:yC),l.foldl (λs t=>zil (zvj (a.getD i default) t) s) o=zgP o (l.map (zvj (a.getD i default))):=λl=>by
  induction l with
  | nil=>intro o; rfl
  | cons y r ih=>intro o; rw [List.foldl_cons,ih]; rfl
 rw [e] at this;exact this
theorem zbgC (o:yC) (b:yC) (x:Term):(zgP o (b.map (zvj x))).length<=o.length+b.length:=by
 have:=zNl (b.map (zvj x)) o
 rwa [List.length_map] at this
theorem zbk0 (a b:yC) (ha:∀ t∈a,VT t) (hb:∀ t∈b,VT t) (hal:a.length<=512) (hbl:b.length<=512):zos a b=(true,zd4 a b):=by
 unfold zos zQ3
 have:=zeu (W:=zDG) (z:=default) (l:=a) (λi (o:yC)=>(a,b,(),(i:Int),())) (λ_ o=>(o,())) (λx o=>.inl (zgP o (b.map (zvj x)))) (λo=>o) (λi o=>(o.length<=i*512/\Srs o)/\∀ t∈o,GT t)
  (λi o hi hI=>.inl ⟨_,rfl,⟨⟨by have:=zbgC o b (a.getD i default); omega,zS6 _ _ hI.1.2⟩,zTA _ _ hI.1.2 hI.2 λt ht=>by
    obtain ⟨y,hy,rfl⟩:=List.mem_map.1 ht;exact zWA (ha _ (zI hi)) (hb y hy)⟩,λH K D=>by
   show (zrd a b i o).ev H K D=_;unfold zrd;have e1:decide ((i:Int)<Int.ofNat a.length)=true:=by simp [hi]
   simp only [Wy.ev_i,Wy.ev_k,Wy.ev_h,Wy.ev_bn,Wy.ev_d,e1,cond_true];rw [zbmO a b i hi hal hbl (ha _ (zI hi)) hb o hI.1.1 hI.1.2 hI.2 _ (by omega)]
   simp only [cond_true];rw [zJ (by omega)]⟩)
  (λo hI H K D=>by
   show (zrd a b a.length o).ev H K D=_;unfold zrd;have e1:decide ((a.length:Int)<Int.ofNat a.length)=false:=by simp
   simp only [Wy.ev_i,Wy.ev_k,e1,cond_false]) ((a.length+b.length+Int.toNat (0:Int)+(0:Nat)+(1:Nat))+zbD a+zbD b+zbD []) 0 [] (by omega) (by omega) ⟨⟨by simp,.nil⟩,λt ht=>by cases ht⟩
 rw [List.drop_zero,zex] at this
 have e:∀ (l:yC) (o:yC),l.foldl (λs x=>zgP s (b.map (zvj x))) o=zgP o (zgM l b):=λl=>by
  induction l with
  | nil=>intro o; rfl
  | cons y r ih=>
   intro o;rw [List.foldl_cons,ih];show _=(zgM (y::r) b).foldl (λa t=>zil t a) o
   unfold zgM;rw [List.flatMap_cons,List.foldl_append]; rfl
 rw [e] at this;have this:zOW ((a.length+b.length+Int.toNat (0:Int)+(0:Nat)+(1:Nat))+zbD a+zbD b+zbD []) a b 0 []=(true,zd4 a b):=this;rw [Wy.fin_bn,this]; rfl
theorem zbmc (a b:yC) (ha:∀ t∈a,GT t) (hb:∀ t∈b,GT t) (hs:Srs a) (hal:a.length<=512) (hbl:b.length<=512):zEu a b=(true,zgP a b):=by
 unfold zEu z5Z
 have:=zeu (W:=zOc) (z:=default) (l:=b) (λi (o:yC)=>(o,b,(i:Int),())) (λ_ o=>()) (λx o=>.inl (zil x o)) (λo=>o) (λi o=>(o.length<=512+i/\Srs o)/\∀ t∈o,GT t)
  (λi o hi hI=>.inl ⟨_,rfl,⟨⟨by have:=z3x (t:=b.getD i default) o; omega,zNn hI.1.2⟩,zbgt (hb _ (zI hi)) hI.1.2 hI.2⟩,λH K D=>by
   show (zBj o b i).ev H K D=_;unfold zBj;simp only [Wy.ev_i,Wy.ev_k,Wy.ev_h,Wy.ev_bn,Wy.ev_d,tT,hi];rw [zbhd (d:=9) o _ (by omega) (λz hz=>(hI.2 z hz).fine) (by omega) (λz hz=>(hI.2 z hz).1) (hb _ (zI hi)).1,cond_true,zJ (by omega)]⟩)
  (λo hI H K D=>by
   show (zBj o b b.length).ev H K D=_;unfold zBj;simp only [Wy.ev_i,Wy.ev_k,tT,Nat.lt_irrefl]) (a.length+b.length+Int.toNat (0:Int)+(1:Nat)) 0 a (by omega) (by omega) ⟨⟨by omega,hs⟩,ha⟩
 rw [List.drop_zero,zex] at this;have this:z2f (a.length+b.length+Int.toNat (0:Int)+(1:Nat)) a b 0=(true,zgP a b):=this;rw [Wy.fin_bn,this]; rfl
def okA (a:yC):Prop:=(zw 12 a/\zX a<=4611686018427387904)/\zhV a/\a.length<=zbo
def opR (ok:Bool) (r:yC×Int):yC×Int:=bif ok then r else ([],1)
def zSS (a b:yC):yC×Int:=opR (zbe a&&zbe b) (zzc (zgP a b))
def zKx (a b:yC):yC×Int:=opR (zbe a&&zbe b) (zzc (zd4 a b))
def zbkB (a b:yC):At:=⟨1,⟨0,0⟩,[a,b],0,[],0,⟨0,0,ByteArray.mk #[]⟩⟩
def zbfK (a:yC):At:=⟨2,⟨0,0⟩,[a],0,[],0,⟨0,0,ByteArray.mk #[]⟩⟩
def zbkZ (a:yC):At:=⟨3,⟨0,0⟩,[a],0,[],0,⟨0,0,ByteArray.mk #[]⟩⟩
def zNx (a b:yC):yC×Int:=opR (zbe a&&zbe b) (if b=[] then (a,0) else if a=[]\/a=b then ([],0) else zzc (zhj (zbkB a b)))
def zOP (a:yC):yC×Int:=opR (zbe a) (if a=[]\/isU a=true then (a,0) else if isC a=true then ([⟨1,[]⟩],0) else zzc (zhj (zbfK a)))
def zPf (a:yC):yC×Int:=opR (zbe a) (if a=[] then ([⟨1,[]⟩],0) else if zzh a=true then ([],0) else zzc (zhj (zbkZ a)))
theorem okA.valid {a:yC} (h:okA a):zci a=(true,zbe a):=zbjS h.1.1 (by omega) h.1.2
theorem okA.rvalid {a:yC} (h:okA a):zf4 a=(true,zbe a):=z9g h.1.1 (by omega) h.1.2
theorem zWe {l:yA} {k:Int} (hl:l.length<=2) (h:∀ a∈l,zbe a=true):zw 10 (zhj ⟨k,⟨0,0⟩,l,0,[],0,⟨0,0,ByteArray.mk #[]⟩⟩)/\zX (zhj ⟨k,⟨0,0⟩,l,0,[],0,⟨0,0,ByteArray.mk #[]⟩⟩)<=4611686018427387904:=by
 constructor
 ·exact z2i ⟨⟨by simp only; omega,by simp,by show (ByteArray.mk #[]).size<=_; decide⟩,λa ha=>(zgB (h a ha)).1,λw hw=>(by cases hw)⟩
 ·rw [z6z,ziU]
  have hb:∀ l:yA,(∀ a∈l,zbe a=true)->zfp l<=l.length*4096:=λl=>by
   induction l with
   | nil=>intro _; rw [zmY]; simp
   | cons a r ih=>
    intro h;have h1:=(zgB (h a (by simp))).2.1
    have h2:=ih λb hb=>h b (by simp [hb])
    rw [zh2,qf,Nat.add_mul]; omega
  have:=hb l h;show 2+(zfp l+zdU [])<=_;rw [zlt];have:=Nat.mul_le_mul hl (Nat.le_refl 4096);omega
theorem zbbx (a:yC):(Int.ofNat a.length==(0:Int))=decide (a=[]):=by
 rw [show (Int.ofNat a.length==(0:Int))=(a.length==0) from zzs _ 0,zbba]
 congr 1;rw [List.length_eq_zero_iff]
theorem z09 {n:Int} (h:rng n):wf3 n:=by
 show (Lit.int .i64 n).wf=true;have:IntKind.i64.min<=n/\n<=IntKind.i64.max:=⟨h.1,h.2⟩
 simpa [Lit.wf] using this
theorem z2d {t:Term} (hc:rng t.Cf) (hf:∀ f∈t.Fs,zjk f.At/\rng f.Exp) (hl:t.Fs.length<=1000000):zC6 t:=by
 obtain ⟨c,fs⟩:=t;unfold zC6;refine ⟨z09 hc,zNy fs λf h=> ?_,by have:zbo=140737488351232:=rfl; simp only at hl; omega⟩
 obtain ⟨x,e⟩:=f;unfold zxr;exact ⟨(hf _ h).1,z09 (hf _ h).2⟩
def okR (r:yC×Int):Prop:=okA r.1/\(r.2=0\/r.1=[])
theorem zkn:okA []:=⟨⟨zbkQ 11,by rw [zBx]; omega⟩,by unfold zhV; trivial,by simp⟩
theorem zNp {a:yC} (h:okA a):okR (zzc a):=by
 unfold zzc;cases zhU a with
 | true=>exact ⟨h,.inl rfl⟩
 | false=>exact ⟨zkn,.inr rfl⟩
theorem z2n {ok:Bool} {r:yC×Int} (h:ok=true->okR r):okR (opR ok r):=by
 unfold opR;cases ok with
 | true=>exact h rfl
 | false=>exact ⟨zkn,.inr rfl⟩
theorem zbbq {l:yC} (hl:l.length<=1000000) (h:∀ t∈l,GT t):okA l:=by
 obtain ⟨h1,h2⟩:=zbeZ hl h;refine ⟨⟨h1.mono (by omega),h2⟩,zHC l λt ht=> ?_,by have:zbo=140737488351232:=rfl; omega⟩
 have hg:=h t ht;exact z2d ⟨by have:=hg.1.1; omega,by have:=hg.1.2; omega⟩ (λf hf=>⟨(hg.2.2 f hf).1.2.1,(hg.2.2 f hf).gF.2.2⟩) (by have:=hg.2.1; omega)
theorem zbhR {a b:yC} (ha:okA a) (hb:okA b):okR (zSS a b):=z2n λhv=>by
 rw [qc] at hv;obtain ⟨sa,la,ta⟩:=zAx hv.1 ha.2.1;obtain ⟨sb,lb,tb⟩:=zAx hv.2 hb.2.1;exact zNp (zbbq (by have:=zNl b a; omega) (zTA b a sa (λt ht=>(ta t ht).1) λt ht=>(tb t ht).1))
theorem zbhk {a b:yC} (ha:okA a) (hb:okA b):okR (zKx a b):=z2n λhv=>by
 rw [qc] at hv;obtain ⟨sa,la,ta⟩:=zAx hv.1 ha.2.1;obtain ⟨sb,lb,tb⟩:=zAx hv.2 hb.2.1;have hpl:(zgM a b).length<=1000000:=by rw [zbcu]; have:=Nat.mul_le_mul la lb; omega
 exact zNp (zbbq (by have:=zNl (zgM a b) []; simp at this; exact Nat.le_trans this hpl) (zTA (zgM a b) [] .nil (λt ht=>by cases ht) (zbeT ta tb)))
theorem zbf3 {x:At} (hf:zel (zw 9) x) (hs:zX (zhj x)<=4611686018427387904) (hw:zjk x):okA (zhj x):=by
 refine ⟨⟨(z2i hf).mono (by omega),hs⟩,zHC _ λt ht=> ?_,by simp [zhj,zbo]⟩
 simp only [zhj,qh] at ht;subst ht;refine z2d ⟨by simp,by simp⟩ (λf hf=> ?_) (by simp)
 simp only [qh] at hf;subst hf;exact ⟨hw,⟨by simp,by simp⟩⟩
theorem z2T {n:Int} (h: -1000<=n/\n<=1000):rng n:=⟨by omega,by omega⟩
theorem zqG:wf3 0:=z09 (z2T (by omega))
theorem z1P {l:yA} {k:Int} (hk:0<=k/\k<=4) (hl:l.length<=2) (h:∀ a∈l,zbe a=true) (hw:∀ a∈l,okA a):okA (zhj ⟨k,⟨0,0⟩,l,0,[],0,⟨0,0,ByteArray.mk #[]⟩⟩):=by
 refine zbf3 ⟨⟨by simp only; omega,by simp,by show (ByteArray.mk #[]).size<=_; decide⟩,λa ha=>(zgB (h a ha)).1,λw hw=>(by cases hw)⟩ (zWe hl h).2 ?_
 unfold zjk;have hr:zbo=140737488351232:=rfl;refine ⟨z09 (z2T (by omega)),⟨zqG,zqG⟩,⟨z1s l λa ha=>⟨(hw a ha).2.1,(hw a ha).2.2⟩,by omega⟩,zqG,⟨by unfold zte; trivial,by simp⟩,zqG,⟨zqG,zqG, ?_⟩⟩
 show (ByteArray.mk #[]).size<=zbo;rw [hr]; decide
theorem zbhn {a b:yC} (ha:okA a) (hb:okA b):okR (zNx a b):=z2n λhv=>by
 rw [qc] at hv;split
 ·exact ⟨ha,.inl rfl⟩
 ·split
  ·exact ⟨zkn,.inl rfl⟩
  ·refine zNp (z1P (by omega) (by simp) (λx hx=> ?_) λx hx=> ?_)
   ·simp only [qd,List.not_mem_nil,or_false] at hx;rcases hx with rfl | rfl
    ·exact hv.1
    ·exact hv.2
   ·simp only [qd,List.not_mem_nil,or_false] at hx;rcases hx with rfl | rfl
    ·exact ha
    ·exact hb
theorem zTH (c:Int) (hc:1<=c/\c<=1152921504606846976):okA [⟨c,[]⟩]:=zbbq (by simp) λt ht=>by
 rw [qh] at ht; subst ht;exact ⟨hc,by simp,λf hf=>by cases hf⟩
theorem zbhX {a:yC} (ha:okA a):okR (zOP a):=z2n λhv=>by
 split
 ·exact ⟨ha,.inl rfl⟩
 ·split
  ·exact ⟨zTH 1 (by omega),.inl rfl⟩
  ·exact zNp (z1P (by omega) (by simp) (λx hx=>by rw [qh] at hx; subst hx; exact hv) λx hx=>by rw [qh] at hx; subst hx; exact ha)
theorem zbhA {a:yC} (ha:okA a):okR (zPf a):=z2n λhv=>by
 split
 ·exact ⟨zTH 1 (by omega),.inl rfl⟩
 ·split
  ·exact ⟨zkn,.inl rfl⟩
  ·exact zNp (z1P (by omega) (by simp) (λx hx=>by rw [qh] at hx; subst hx; exact hv) λx hx=>by rw [qh] at hx; subst hx; exact ha)
def zD5 (n:Int):yC:=if n<1 then [] else [⟨if 1152921504606846976<n then 1152921504606846976 else n,[]⟩]
def zWy (id:RowID):yC:=bif zBH id then zhj ⟨0,id,[],0,[],0,⟨0,0,ByteArray.mk #[]⟩⟩ else []
theorem zbnI (id:RowID):zwi id=(true,zWy id)/\zEi id=(true,zWy id):=by
 unfold zwi zNz zEi z5T zWy zBH;simp only [Wy.fin_i,Wy.fin_bn,Wy.fin_k,zQ2,zbji,zTa,cond_true];unfold zBH
 have e1:decide (id.Table<1)= !decide (id.Table≥1):=by
  by_cases h:id.Table<1
  ·have:¬ id.Table≥1:=by omega
   simp only [h,this,decide_true,decide_false,Bool.not_false]
  ·have:id.Table≥1:=by omega
   simp only [h,this,decide_true,decide_false,Bool.not_true]
 have e2:decide (id.Seq<1)= !decide (id.Seq≥1):=by
  by_cases h:id.Seq<1
  ·have:¬ id.Seq≥1:=by omega
   simp only [h,this,decide_true,decide_false,Bool.not_false]
  ·have:id.Seq≥1:=by omega
   simp only [h,this,decide_true,decide_false,Bool.not_true]
 rw [e1,e2];cases decide (id.Table≥1) <;>cases decide (id.Seq≥1) <;>exact ⟨rfl,rfl⟩
theorem zbje (n:Int):okA (zD5 n):=by
 unfold zD5;split
 ·exact zkn
 ·refine zTH _ ?_;split <;>omega
theorem zbn9 {id:RowID} (h:z0k id):okA (zWy id):=by
 unfold zWy;cases hr:zBH id with
 | false=>exact zkn
 | true=>
  refine zbf3 ⟨⟨by simp,by simp,by show (ByteArray.mk #[]).size<=_; decide⟩,λa ha=>(by cases ha),λw hw=>(by cases hw)⟩ (by rw [z6z,ziU,zmY,zlt]; omega) ?_
  unfold zjk;refine ⟨zqG,h,⟨by unfold zyy; trivial,by simp⟩,zqG,⟨by unfold zte; trivial,by simp⟩,zqG,⟨zqG,zqG, ?_⟩⟩
  show (ByteArray.mk #[]).size<=zbo;have hr:zbo=140737488351232:=rfl;rw [hr]; decide
theorem zbmj {a:yC} {n:Nat} (hn:n<=1000) (h:zw 12 a/\zbw a<=n) (hw:zbe6 a):okA a:=⟨⟨h.1,by have:=zMW a; omega⟩,hw.1,hw.2⟩
theorem zbbc {α:Type} {R:α->α->Prop} (ir:∀ x,¬ R x x) (asy:∀ x y,R x y->¬ R y x):∀ (a b:List α),a.Pairwise R->b.Pairwise R->(∀ x,x∈a↔x∈b)->a=b
 | [],[],_,_,_=>rfl
 | [],y::b,_,_,h=>by have:=(h y).2 (by simp); cases this
 | x::a,[],_,_,h=>by have:=(h x).1 (by simp); cases this
 | x::a,y::b,ha,hb,h=>by
  have ca:=qi.1 ha;have cb:=qi.1 hb
  have e:x=y:=by
   rcases qd.1 ((h x).1 (by simp)) with e | hx
   ·exact e
   ·rcases qd.1 ((h y).2 (by simp)) with e | hy
    ·exact e.symm
    ·exact absurd (cb.1 x hx) (asy _ _ (ca.1 y hy))
  subst e;rw [zbbc ir asy a b ca.2 cb.2 λz=>⟨λhz=> ?_,λhz=> ?_⟩]
  ·rcases qd.1 ((h z).1 (by simp [hz])) with rfl | h1
   ·exact absurd (ca.1 z hz) (ir z)
   ·exact h1
  ·rcases qd.1 ((h z).2 (by simp [hz])) with rfl | h1
   ·exact absurd (cb.1 z hz) (ir z)
   ·exact h1
def exA (x:At):yD->Int
 | []=>0
 | f::r=>(if f.At=x then f.Exp else 0)+exA x r
theorem zD4 (x:At) (f:Fc) (r:yD):exA x (f::r)=(if f.At=x then f.Exp else 0)+exA x r:=rfl
def MF (l:yD):Prop:=Srf l/\∀ f∈l,eOK f/\1<=f.Exp
theorem MF.tail {f:Fc} {l:yD} (h:MF (f::l)):MF l:=⟨(qi.1 h.1).2,λg hg=>h.2 g (by simp [hg])⟩
theorem MF.nil:MF []:=⟨List.Pairwise.nil,λf hf=>by cases hf⟩
theorem z7y {x:At}:∀ {l:yD},(∀ f∈l,f.At≠x)->exA x l=0
 | [],_=>rfl
 | f::r,h=>by rw [exA,if_neg (h f (by simp)),z7y λg hg=>h g (by simp [hg])]; rfl
theorem cF_self' {x y:Fc} (h:x.At=y.At):cF x y=0:=by unfold cF; rw [h]; exact zRj _
theorem MF.ne {f:Fc} {l:yD} (h:MF (f::l)):∀ g∈l,g.At≠f.At:=λg hg e=>by
 have:=(qi.1 h.1).1 g hg;rw [cF_self' e.symm] at this; omega
theorem zba8 {f:Fc}:∀ {l:yD},MF l->f∈l->exA f.At l=f.Exp
 | [],_,h=>by cases h
 | g::r,h,hf=>by
  rw [exA];rcases qd.1 hf with rfl | hf
  ·rw [if_pos rfl,z7y h.ne]; omega
  ·rw [if_neg (λe=>h.ne f hf e.symm),zba8 h.tail hf]; omega
theorem zbbr {x:At}:∀ {l:yD},MF l->(0<=exA x l/\(exA x l≠0->∃ f∈l,f.At=x))
 | [],_=>⟨Int.le_refl _,λh=>absurd rfl h⟩
 | g::r,h=>by
  rw [exA];have:=zbbr (x:=x) h.tail;have:=(h.2 g (by simp)).2
  by_cases e:g.At=x
  ·rw [if_pos e];exact ⟨by omega,λ_=>⟨g,by simp,e⟩⟩
  ·rw [if_neg e];refine ⟨by omega,λh1=> ?_⟩
   obtain ⟨f,hf,e⟩:=(zbbr (x:=x) h.tail).2 (by omega)
   exact ⟨f,by simp [hf],e⟩
theorem zbjf {x y:Fc} (h1:x.At=y.At) (h2:x.Exp=y.Exp):x=y:=by cases x; cases y; simp_all
theorem zbnk {a b:yD} (ha:MF a) (hb:MF b) (h:∀ x,exA x a=exA x b):a=b:=by
 refine zbbc (R:=λx y=>cF x y<0) (λx=>by rw [cF_self' rfl]; omega) (λx y h=>by rw [zbaM x y]; omega) a b ha.1 hb.1 λf=> ?_
 have key:∀ {a b:yD},MF a->MF b->(∀ x,exA x a=exA x b)->f∈a->f∈b:=λ{a b} ha hb h hf=>by
  have e:=h f.At;rw [zba8 ha hf] at e;have h1:=(ha.2 f hf).2;obtain ⟨g,hg,e2⟩:=(zbbr (x:=f.At) hb).2 (by omega)
  rw [<- e2,zba8 hb hg] at e;rw [zbjf e2.symm e]; exact hg
 exact ⟨key ha hb h,key hb ha λx=>(h x).symm⟩
def cbE (x:At) (m n:Int):Int:=if x.Kind=3\/x.Kind=4 then (if m=0 then n else m) else m+n
theorem zbld {a b:yD}:Srf a->Srf b->Srf (zb0 a b):=by
 induction a,b using zb0.induct with
 | case1 b=>intro _ hb; rw [zb0]; exact hb
 | case2 x a=>intro ha _; rw [zb0]; exact ha
 | case3 x a y b h ih=>
  intro ha hb;have ca:=qi.1 ha;rw [zb0,if_pos h];refine qi.2 ⟨λz hz=> ?_,ih ca.2 hb⟩
  obtain ⟨w,hw,e⟩:=zq6 hz;have:cF x z=cF x w:=by unfold cF; rw [e]
  rw [this];rcases hw with hw | hw
  ·exact ca.1 w hw
  ·rcases qd.1 hw with rfl | hw
   ·exact h
   ·exact zAl h ((qi.1 hb).1 w hw)
 | case4 x a y b h h2 ih=>
  intro ha hb;have cb:=qi.1 hb;rw [zb0,if_neg h,if_pos h2];have h3:cF y x<0:=by rw [zbaM x y]; omega
  refine qi.2 ⟨λz hz=> ?_,ih ha cb.2⟩
  obtain ⟨w,hw,e⟩:=zq6 hz;have:cF y z=cF y w:=by unfold cF; rw [e]
  rw [this];rcases hw with hw | hw
  ·rcases qd.1 hw with rfl | hw
   ·exact h3
   ·exact zAl h3 ((qi.1 ha).1 w hw)
  ·exact cb.1 w hw
 | case5 x a y b h h2 ih=>
  intro ha hb;have ca:=qi.1 ha;have cb:=qi.1 hb;have h0:x.At=y.At:=zbb4 (by omega)
  rw [zb0,if_neg h,if_neg h2];have hA:(if x.At.Kind=3\/x.At.Kind=4 then x else ⟨x.At,x.Exp+y.Exp⟩:Fc).At=x.At:=by split <;>rfl
  refine qi.2 ⟨λz hz=> ?_,ih ca.2 cb.2⟩
  obtain ⟨w,hw,e⟩:=zq6 hz;have:cF (if x.At.Kind=3\/x.At.Kind=4 then x else ⟨x.At,x.Exp+y.Exp⟩:Fc) z=cF x w:=by unfold cF; rw [e,hA]
  rw [this];rcases hw with hw | hw
  ·exact ca.1 w hw
  ·have:cF x w=cF y w:=by unfold cF; rw [h0]
   rw [this]; exact cb.1 w hw
theorem zbkt {a b:yD}:(∀ f∈a,eOK f/\1<=f.Exp)->(∀ f∈b,eOK f/\1<=f.Exp)->∀ f∈zb0 a b,eOK f/\1<=f.Exp:=by
 induction a,b using zb0.induct with
 | case1 b=>intro _ hb; rw [zb0]; exact hb
 | case2 x a=>intro ha _; rw [zb0]; exact ha
 | case3 x a y b h ih=>
  intro ha hb f hf;rw [zb0,if_pos h] at hf;rcases qd.1 hf with rfl | hf
  ·exact ha _ (by simp)
  ·exact ih (λg hg=>ha g (by simp [hg])) hb f hf
 | case4 x a y b h h2 ih=>
  intro ha hb f hf;rw [zb0,if_neg h,if_pos h2] at hf;rcases qd.1 hf with rfl | hf
  ·exact hb _ (by simp)
  ·exact ih ha (λg hg=>hb g (by simp [hg])) f hf
 | case5 x a y b h h2 ih=>
  intro ha hb f hf;rw [zb0,if_neg h,if_neg h2] at hf;rcases qd.1 hf with rfl | hf
  ·have h1:=ha x (by simp)
   have h2:=hb y (by simp)
   split
   ·exact h1
   ·rename_i hk;exact ⟨⟨h1.1.1,λh=>absurd h hk⟩,by show 1<=x.Exp+y.Exp; omega⟩
  ·exact ih (λg hg=>ha g (by simp [hg])) (λg hg=>hb g (by simp [hg])) f hf
theorem zEj {a b:yD} (ha:MF a) (hb:MF b):MF (zb0 a b):=⟨zbld ha.1 hb.1,zbkt ha.2 hb.2⟩
theorem zbh2 (x:At) (n:Int):cbE x 0 n=n:=by unfold cbE; split <;>simp
theorem cbE_0' (x:At) (n:Int):cbE x n 0=n:=by unfold cbE; split <;>simp; omega
theorem zUu {x:Fc} {l:yD} (h:∀ z∈l,cF x z<0):exA x.At l=0:=z7y λf hf e=>by
 have:=h f hf; rw [cF_self' e.symm] at this; omega
theorem z3u (x:At) {a b:yD}:MF a->MF b->exA x (zb0 a b)=cbE x (exA x a) (exA x b):=by
 induction a,b using zb0.induct with
 | case1 b=>intro _ hb; rw [zb0,exA,zbh2]
 | case2 y a=>intro ha _; rw [zb0,show exA x []=0 from rfl,cbE_0']
 | case3 u a y b h ih=>
  intro ha hb;rw [zb0,if_pos h,zD4,zD4 x u a,ih ha.tail hb];by_cases e:u.At=x
  ·subst e;have h1:exA u.At a=0:=zUu (qi.1 ha.1).1
   have h2:exA u.At (y::b)=0:=zUu λz hz=>by
    rcases qd.1 hz with rfl | hz
    ·exact h
    ·exact zAl h ((qi.1 hb.1).1 z hz)
   rw [h1,h2,cbE_0',cbE_0']
  ·rw [if_neg e,Int.zero_add,Int.zero_add]
 | case4 u a y b h h2 ih=>
  intro ha hb;have h3:cF y u<0:=by rw [zbaM u y]; omega
  rw [zb0,if_neg h,if_pos h2,zD4,zD4 x y b,ih ha hb.tail];by_cases e:y.At=x
  ·subst e;have h1:exA y.At b=0:=zUu (qi.1 hb.1).1
   have h2:exA y.At (u::a)=0:=zUu λz hz=>by
    rcases qd.1 hz with rfl | hz
    ·exact h3
    ·exact zAl h3 ((qi.1 ha.1).1 z hz)
   rw [h1,h2,zbh2,zbh2]
  ·rw [if_neg e,Int.zero_add,Int.zero_add]
 | case5 u a y b h h2 ih=>
  intro ha hb;have h0:u.At=y.At:=zbb4 (by omega)
  rw [zb0,if_neg h,if_neg h2,zD4,zD4 x u a,zD4 x y b,ih ha.tail hb.tail];have h1:=ha.2 u (by simp)
  by_cases e:u.At=x
  ·subst e;have z1:exA u.At a=0:=zUu (qi.1 ha.1).1;have z2:exA u.At b=0:=by rw [h0]; exact zUu (qi.1 hb.1).1
   rw [z1,z2,if_pos rfl,if_pos h0.symm];by_cases hk:u.At.Kind=3\/u.At.Kind=4
   ·have n0:¬ u.Exp+0=0:=by omega
    simp only [cbE,if_pos hk,if_neg n0,if_true]
   ·simp only [cbE,if_neg hk,if_true];omega
  ·have e':¬ y.At=x:=λh=>e (h0.trans h)
   have hA:(if u.At.Kind=3\/u.At.Kind=4 then u else ⟨u.At,u.Exp+y.Exp⟩:Fc).At=u.At:=by split <;>rfl
   simp only [hA,e,e',if_false,Int.zero_add]
theorem zbh8 {a b c:yD} (ha:MF a) (hb:MF b) (hc:MF c):zb0 (zb0 a b) c=zb0 a (zb0 b c):=zbnk (zEj (zEj ha hb) hc) (zEj ha (zEj hb hc)) λx=>by
 rw [z3u x (zEj ha hb) hc,z3u x ha hb,z3u x ha (zEj hb hc),z3u x hb hc];unfold cbE;split
 ·by_cases h:exA x a=0 <;>simp [h]
 ·omega
def EqS (n m:Nat):Prop:=n=m\/(1152921504606846976<=n/\1152921504606846976<=m)
theorem EqS.refl (n:Nat):EqS n n:=.inl rfl
theorem EqS.symm {n m:Nat} (h:EqS n m):EqS m n:=by unfold EqS at *; omega
theorem EqS.trans {n m k:Nat} (h:EqS n m) (h':EqS m k):EqS n k:=by unfold EqS at *; omega
theorem EqS.add {n m n' m':Nat} (h:EqS n n') (h':EqS m m'):EqS (n+m) (n'+m'):=by unfold EqS at *; omega
theorem EqS.mul1 {n n':Nat} (k:Nat) (h:EqS n n'):EqS (n*k) (n'*k):=by
 rcases h with rfl | ⟨h1,h2⟩
 ·exact .refl _
 ·rcases Nat.eq_zero_or_pos k with rfl | hk
  ·exact .inl (by simp)
  ·exact .inr ⟨Nat.le_trans h1 (Nat.le_mul_of_pos_right n hk),Nat.le_trans h2 (Nat.le_mul_of_pos_right n' hk)⟩
theorem EqS.mul {n m n' m':Nat} (h:EqS n n') (h':EqS m m'):EqS (n*m) (n'*m'):=by
 refine (h.mul1 m).trans ?_;rw [Nat.mul_comm n' m,Nat.mul_comm n' m'];exact h'.mul1 n'
def evA (φ:yD->Nat):yC->Nat
 | []=>0
 | t::r=>t.Cf.toNat *φ t.Fs+evA φ r
theorem z82 (φ:yD->Nat):∀ a b:yC,evA φ (a++b)=evA φ a+evA φ b
 | [],b=>by simp [evA]
 | t::r,b=>by rw [List.cons_append,evA,evA,z82 φ r b]; omega
theorem zbk3 {a b:Int} (ha:1<=a) (hb:1<=b):EqS (zvz a b).toNat (a.toNat +b.toNat):=by
 unfold zvz EqS;split <;>omega
theorem zbjB (φ:yD->Nat) {t:Term} (ht:cOK t):∀ {l:yC},(∀ x∈l,cOK x)->EqS (evA φ (zil t l)) (t.Cf.toNat *φ t.Fs+evA φ l)
 | [],_=>.inl rfl
 | x::r,h=>by
  unfold zil;by_cases h1:cT x t<0
  ·rw [if_pos h1,evA,evA];refine ((EqS.refl _).add (zbjB φ ht λy hy=>h y (by simp [hy]))).trans (.inl ?_)
   omega
  ·rw [if_neg h1];by_cases h2:cT x t=0
   ·rw [if_pos h2,evA,evA,z3s h2];show EqS ((zvz x.Cf t.Cf).toNat *φ t.Fs+evA φ r) (t.Cf.toNat *φ t.Fs+(x.Cf.toNat *φ t.Fs+evA φ r));refine ((zbk3 (h x (by simp)).1 ht.1).mul1 _ |>.add (.refl _)).trans (.inl ?_)
    rw [Nat.add_mul]; omega
   ·rw [if_neg h2]; exact .refl _
theorem zbke (φ:yD->Nat):∀ (b:yC) {a:yC},(∀ x∈a,cOK x)->(∀ x∈b,cOK x)->EqS (evA φ (zgP a b)) (evA φ a+evA φ b)
 | [],a,_,_=>.inl rfl
 | t::r,a,ha,hb=>by
  refine (zbke φ r (z9y (hb t (by simp)) ha) λx hx=>hb x (by simp [hx])).trans ?_
  rw [evA];refine ((zbjB φ (hb t (by simp)) ha).add (.refl _)).trans (.inl ?_)
  omega
theorem z2M {φ ψ:yD->Nat}:∀ {a:yC},(∀ t∈a,EqS (φ t.Fs) (ψ t.Fs))->EqS (evA φ a) (evA ψ a)
 | [],_=>.refl _
 | t::r,h=>by
  rw [evA,evA];exact ((EqS.refl _).mul (h t (by simp))).add (z2M λx hx=>h x (by simp [hx]))
theorem zbjv {φ ψ:yD->Nat}:∀ {a:yC},(∀ t∈a,φ t.Fs=ψ t.Fs)->evA φ a=evA ψ a
 | [],_=>rfl
 | t::r,h=>by rw [evA,evA,h t (by simp),zbjv λx hx=>h x (by simp [hx])]
def prW (φ:yD->Nat) (b:yC) (m:yD):Nat:=evA (λn=>φ (zb0 m n)) b
theorem zbjJ {a b:Int} (ha:1<=a/\a<=1152921504606846976) (hb:1<=b/\b<=1152921504606846976):EqS (zv5 a b).toNat (a.toNat *b.toNat):=by
 have e:((a.toNat *b.toNat:Nat):Int)=a*b:=by rw [Int.natCast_mul,Int.toNat_of_nonneg (by omega),Int.toNat_of_nonneg (by omega)]
 have h:=zMO ha hb;unfold zv5 at *;split
 ·rename_i hlt
  right
  refine ⟨by omega, ?_⟩
  have:1152921504606846976<=a*b:=by
   rw [Int.tdiv_eq_ediv_of_nonneg (by omega)] at hlt
   by_cases hc:1152921504606846976<=a*b
   ·exact hc
   ·have:=(Int.le_ediv_iff_mul_le (c:=b) (a:=a) (b:=1152921504606846976) (by omega)).2 (by omega)
    omega
  omega
 ·left
  omega
theorem zbk5 (φ:yD->Nat) {a b:yC} (ha:∀ x∈a,cOK x) (hb:∀ x∈b,cOK x):EqS (evA φ (zgM a b)) (evA (prW φ b) a):=by
 induction a with
 | nil=>exact .refl _
 | cons x a ih=>
  have hx:=ha x (by simp)
  show EqS (evA φ (b.map (zvj x)++zgM a b)) _;rw [z82,evA];refine EqS.add ?_ (ih λy hy=>ha y (by simp [hy]))
  unfold prW;clear ih;induction b with
  | nil=>exact .inl (by simp [evA])
  | cons y b ih=>
   rw [List.map_cons,evA,evA,Nat.mul_add, <- Nat.mul_assoc];exact ((zbjJ hx (hb y (by simp))).mul1 _).add (ih λz hz=>hb z (by simp [hz]))
theorem zbhq {a b:yC} (ha:∀ x∈a,cOK x) (hb:∀ x∈b,cOK x):∀ t∈zgM a b,cOK t:=λt ht=>by
 obtain ⟨x,hx,y,hy,rfl⟩:=zEv ht;exact (zMO (ha x hx) (hb y hy)).1
theorem zbjX {a b:yC} (ha:∀ x∈a,cOK x) (hb:∀ x∈b,cOK x):∀ t∈zd4 a b,cOK t:=zbeb _ (λ_ h=>by cases h) (zbhq ha hb)
theorem zbfQ (a b:yC):Srs (zd4 a b):=zS6 _ _ List.Pairwise.nil
theorem z3f (φ:yD->Nat) {a b:yC} (ha:∀ x∈a,cOK x) (hb:∀ x∈b,cOK x):EqS (evA φ (zd4 a b)) (evA (prW φ b) a):=by
 refine (zbke φ (zgM a b) (λ_ h=>by cases h) (zbhq ha hb)).trans ?_
 rw [evA,Nat.zero_add];exact zbk5 φ ha hb
def zXz (m n:yD):Nat:=if n=m then 1 else 0
theorem zbet {m:yD}:∀ {l:yC},(∀ t∈l,t.Fs≠m)->evA (zXz m) l=0
 | [],_=>rfl
 | t::r,h=>by rw [evA,zbet λx hx=>h x (by simp [hx]),zXz,if_neg (h t (by simp)),Nat.mul_zero]
theorem zbbn {t:Term}:∀ {l:yC},Srs l->t∈l->evA (zXz t.Fs) l=t.Cf.toNat
 | [],_,h=>by cases h
 | x::r,hs,h=>by
  have hc:=qi.1 hs;rw [evA];rcases qd.1 h with rfl | h
  ·rw [zbet λy hy e=>by
    have:=hc.1 y hy;rw [zBV e.symm] at this; omega]
   simp [zXz]
  ·rw [zbbn hc.2 h,zXz,if_neg λe=>by
    have:=hc.1 t h;rw [zBV e] at this; omega]
   omega
theorem zbhm {m:yD}:∀ {l:yC},evA (zXz m) l≠0->∃ t∈l,t.Fs=m
 | [],h=>absurd rfl h
 | x::r,h=>by
  by_cases e:x.Fs=m
  ·exact ⟨x,by simp,e⟩
  ·rw [evA,zXz,if_neg e,Nat.mul_zero,Nat.zero_add] at h;obtain ⟨t,ht,e⟩:=zbhm (l:=r) h;exact ⟨t,by simp [ht],e⟩
theorem zbl9 {a b:yC} (ha:Srs a) (hb:Srs b) (ca:∀ t∈a,cOK t) (cb:∀ t∈b,cOK t) (h:∀ φ,EqS (evA φ a) (evA φ b)):a=b:=by
 refine zbbc (R:=λx y=>cT x y<0) (λx=>by rw [zBV rfl]; omega) (λx y h=>by rw [zbbp x y]; omega) a b ha hb λt=> ?_
 have key:∀ {a b:yC},Srs a->Srs b->(∀ t∈a,cOK t)->(∀ t∈b,cOK t)->(∀ φ,EqS (evA φ a) (evA φ b))->t∈a->t∈b:=λ{a b} ha hb ca cb h ht=>by
  have e:=h (zXz t.Fs);rw [zbbn ha ht] at e;have c1:=ca t ht;unfold cOK at c1;have hne:evA (zXz t.Fs) b≠0:=by unfold EqS at e; omega
  obtain ⟨s,hs,e2⟩:=zbhm hne;rw [<- e2,zbbn hb hs] at e;have c2:=cb s hs;unfold cOK at c2;have:t=s:=zbbP (by unfold EqS at e; omega) e2.symm
  rw [this]; exact hs
 exact ⟨key ha hb ca cb h,key hb ha cb ca fun φ=>(h φ).symm⟩
def PA (a:yC):Prop:=Srs a/\∀ t∈a,cOK t/\MF t.Fs
theorem PA.c {a:yC} (h:PA a):∀ t∈a,cOK t:=λt ht=>(h.2 t ht).1
theorem zbep {a b:yC} (ha:PA a) (hb:PA b):PA (zgP a b):=⟨zS6 _ _ ha.1,λt ht=>⟨zbeb b ha.c hb.c t ht,by
 obtain ⟨x,hx,e⟩:=zBX b a ha.1 ht;rw [e];rcases hx with hx | hx
 ·exact (ha.2 x hx).2
 ·exact (hb.2 x hx).2⟩⟩
theorem zth {a b:yC} (ha:PA a) (hb:PA b):PA (zd4 a b):=⟨zbfQ _ _,λt ht=>⟨zbjX ha.c hb.c t ht,by
 obtain ⟨x,hx,e⟩:=zBX (zgM a b) [] List.Pairwise.nil ht;rw [e];rcases hx with hx | hx
 ·cases hx
 ·obtain ⟨u,hu,v,hv,rfl⟩:=zEv hx;exact zEj (ha.2 u hu).2 (hb.2 v hv).2⟩⟩
theorem PA.nil:PA []:=⟨List.Pairwise.nil,λt ht=>by cases ht⟩
theorem zbas {a b c:yC} (ha:PA a) (hb:PA b) (hc:PA c):zd4 (zd4 a b) c=zd4 a (zd4 b c):=by
 have pab:=zth ha hb;have pbc:=zth hb hc;refine zbl9 (zth pab hc).1 (zth ha pbc).1 (zth pab hc).c (zth ha pbc).c fun φ=> ?_
 refine (z3f φ pab.c hc.c).trans ((z3f _ ha.c hb.c).trans (.trans ?_ (z3f φ ha.c pbc.c).symm));refine z2M λm hm=> ?_
 refine .trans ?_ (z3f (λp=>φ (zb0 m.Fs p)) hb.c hc.c).symm
 refine z2M λn hn=>.inl ?_
 exact zbjv λq hq=>by rw [zbh8 (ha.2 m hm).2 (hb.2 n hn).2 (hc.2 q hq).2]
theorem zbim {c:Int} (h:c<=1152921504606846976):zv5 c 1=c:=by
 unfold zv5;rw [if_neg (by rw [Int.tdiv_one]; omega)]; omega
theorem zbjz {a:yC} (ha:∀ t∈a,cOK t):zgM a [⟨1,[]⟩]=a:=by
 induction a with
 | nil=>rfl
 | cons x a ih=>
  show zvj x ⟨1,[]⟩::zgM a [⟨1,[]⟩]=_;rw [ih λt ht=>ha t (by simp [ht])]
  congr 1;unfold zvj;rw [zbim (ha x (by simp)).2,zJH]
theorem zON {a:yC} (ha:PA a):zd4 a [⟨1,[]⟩]=a:=by
 unfold zd4;rw [zbjz ha.c,zbmL ha.1]
theorem zbge (a:yC):zd4 a []=[]:=by
 unfold zd4 zgM;induction a with
 | nil=>rfl
 | cons x a ih=>rw [List.flatMap_cons,List.map_nil,List.nil_append]; exact ih
theorem zN0:PA [⟨1,[]⟩]:=⟨by simp,λt ht=>by
 rw [qh] at ht; subst ht;exact ⟨⟨by decide,by decide⟩,MF.nil⟩⟩
theorem zOi {τ:Type} [Inhabited τ] {R:τ->τ->Prop}:∀ {l:List τ},l.Pairwise R->∀ k,0<k->k<l.length->R (l.getD (k - 1) default) (l.getD k default)
 | [],_,k,_,h=>by simp at h
 | x::r,h,0,h0,_=>by omega
 | x::r,h,1,_,h1=>(qi.1 h).1 _ (zI (by simpa using h1))
 | x::r,h,k+2,_,h1=>zOi (qi.1 h).2 (k+1) (by omega) (by simp only [qf] at h1; omega)
def OKF (vat:At->Bool) (fs:yD):Prop:=Srf fs/\∀ f∈fs,(1<=f.Exp/\(f.At.Kind=3\/f.At.Kind=4->f.Exp=1))/\vat f.At=true
theorem zbhp {vat:At->Bool} {fs:yD}:okF vat fs=true↔OKF vat fs:=by
 constructor
 ·intro h;refine ⟨zA2 (R:=λx y=>cF x y<0) (λx y z h1 h2=>zAl h1 h2) _ λk hk hl=> ?_,λf hf=>zBY h hf⟩
  have:=zlb.1 h k (by omega) (by omega)
  simp only [zSE,qc,Bool.or_eq_true,qe] at this;rcases this.1.2 with e | e
  ·omega
  ·exact e
 ·intro h;refine zlb.2 λk _ hk=> ?_
  have hm:=h.2 _ (zI (l:=fs) (i:=k) (by omega))
  simp only [zSE,qc,Bool.or_eq_true,qe,Bool.not_eq_true',Bool.and_eq_false_iff];refine ⟨⟨⟨hm.1.1, ?_⟩, ?_⟩,hm.2⟩
  ·by_cases hk:(fs.getD k default).At.Kind=3\/(fs.getD k default).At.Kind=4
   ·right; rw [hm.1.2 hk]; rfl
   ·left
    rw [Bool.or_eq_false_iff];constructor
    ·simpa using λe=>hk (.inl e)
    ·simpa using λe=>hk (.inr e)
  ·by_cases h0:k=0
   ·exact .inl h0
   ·exact .inr (zOi h.1 k (by omega) (by omega))
theorem zNR {vat:At->Bool} {a:yC}:zxN vat a=true↔zhU a=true/\Srs a/\∀ t∈a,cOK t/\OKF vat t.Fs:=by
 constructor
 ·intro h;have hall:=h;simp only [zxN,qc] at hall;refine ⟨hall.1,zA2 (R:=λx y=>cT x y<0) (λx y z h1 h2=>zXE h1 h2) a λk hk hl=> ?_,λt ht=>⟨(zEL h ht).1,zbhp.1 (zEL h ht).2⟩⟩
  have:=zlb.1 hall.2 k (by omega) (by omega)
  simp only [zFX,qc,Bool.or_eq_true,qe] at this;rcases this.1.2 with e | e
  ·omega
  ·exact e
 ·rintro ⟨h1,h2,h3⟩
  simp only [zxN,qc];refine ⟨h1,zlb.2 λk _ hk=> ?_⟩
  have hm:=h3 _ (zI (l:=a) (i:=k) (by omega))
  simp only [zFX,qc,Bool.or_eq_true,qe];refine ⟨⟨⟨hm.1.1,hm.1.2⟩, ?_⟩,zbhp.2 hm.2⟩;by_cases h0:k=0
  ·exact .inl h0
  ·exact .inr (zOi h2 k (by omega) (by omega))
def QA (a:yC):Prop:=Srs a/\∀ t∈a,cOK t/\OKF zuS t.Fs
theorem zI8 {a:yC}:zbe a=true↔zhU a=true/\QA a:=by rw [z9D]; exact zNR
theorem OKF.mf {fs:yD} (h:OKF zuS fs):MF fs:=⟨h.1,λf hf=>⟨⟨zBy (h.2 f hf).2,(h.2 f hf).1.2⟩,(h.2 f hf).1.1⟩⟩
theorem QA.pa {a:yC} (h:QA a):PA a:=⟨h.1,λt ht=>⟨(h.2 t ht).1,(h.2 t ht).2.mf⟩⟩
theorem zkb {a:yC} (h:zbe a=true):QA a:=(zI8.1 h).2
theorem zbga {a:yC} (h:zbe a=true):PA a:=(zkb h).pa
theorem MF.okf {fs:yD} (h:MF fs) (hv:∀ f∈fs,zuS f.At=true):OKF zuS fs:=⟨h.1,λf hf=>⟨⟨(h.2 f hf).2,(h.2 f hf).1.2⟩,hv f hf⟩⟩
theorem OKF.join {a b:yD} (ha:OKF zuS a) (hb:OKF zuS b):OKF zuS (zb0 a b):=(zEj ha.mf hb.mf).okf λf hf=>by
 obtain ⟨y,hy,e⟩:=zq6 hf;rw [e];rcases hy with hy | hy
 ·exact (ha.2 y hy).2
 ·exact (hb.2 y hy).2
theorem zbnp {a b:yC} (ha:QA a) (hb:QA b):QA (zgP a b):=⟨zS6 _ _ ha.1,λt ht=>⟨zbeb b ha.pa.c hb.pa.c t ht,by
 obtain ⟨x,hx,e⟩:=zBX b a ha.1 ht;rw [e];rcases hx with hx | hx
 ·exact (ha.2 x hx).2
 ·exact (hb.2 x hx).2⟩⟩
theorem zbl6 {a b:yC} (ha:QA a) (hb:QA b):QA (zd4 a b):=⟨zbfQ _ _,λt ht=>⟨zbjX ha.pa.c hb.pa.c t ht,by
 obtain ⟨x,hx,e⟩:=zBX (zgM a b) [] List.Pairwise.nil ht;rw [e];rcases hx with hx | hx
 ·cases hx
 ·obtain ⟨u,hu,v,hv,rfl⟩:=zEv hx;exact (ha.2 u hu).2.join (hb.2 v hv).2⟩⟩
theorem QA.nil:QA []:=⟨List.Pairwise.nil,λt ht=>by cases ht⟩
theorem zbkH {c:Int} (h:1<=c/\c<=1152921504606846976):QA [⟨c,[]⟩]:=⟨by simp,λt ht=>by
 rw [qh] at ht; subst ht;exact ⟨h,List.Pairwise.nil,λf hf=>by cases hf⟩⟩
theorem zUj {a:yC} (h:(zzc a).2=0):zhU a=true/\zzc a=(a,0):=by
 unfold zzc at *;cases hw:zhU a with
 | true=>exact ⟨rfl,rfl⟩
 | false=>rw [hw] at h; simp at h
theorem z3w {ok:Bool} {r:yC×Int} (h:(opR ok r).2=0):ok=true/\opR ok r=r:=by
 cases ok with
 | true=>exact ⟨rfl,rfl⟩
 | false=>simp [opR] at h
theorem zbnu {a b:yC} (h:(zSS a b).2=0):(zbe a=true/\zbe b=true/\zbe (zgP a b)=true)/\zSS a b=(zgP a b,0):=by
 obtain ⟨h1,h2⟩:=z3w h;rw [qc] at h1;unfold zSS at h;rw [h2] at h;obtain ⟨h3,h4⟩:=zUj h;exact ⟨⟨h1.1,h1.2,zI8.2 ⟨h3,zbnp (zkb h1.1) (zkb h1.2)⟩⟩,h2.trans h4⟩
theorem zbof {a b:yC} (h:(zKx a b).2=0):(zbe a=true/\zbe b=true/\zbe (zd4 a b)=true)/\zKx a b=(zd4 a b,0):=by
 obtain ⟨h1,h2⟩:=z3w h;rw [qc] at h1;unfold zKx at h;rw [h2] at h;obtain ⟨h3,h4⟩:=zUj h;exact ⟨⟨h1.1,h1.2,zI8.2 ⟨h3,zbl6 (zkb h1.1) (zkb h1.2)⟩⟩,h2.trans h4⟩
theorem zbjp:zbe []=true:=zI8.2 ⟨by decide,QA.nil⟩
theorem zbgZ {c:Int} (h:1<=c/\c<=1152921504606846976):zbe [⟨c,[]⟩]=true:=zI8.2 ⟨by
 simp only [zhU,zBB,zDn,zjN,zv8,zMF,zmJ,zBx]; rfl,zbkH h⟩
theorem zbkb:zbe [⟨1,[]⟩]=true:=zbgZ (by omega)
theorem zIk {x:At}:zuS x=true↔VA zbe x:=zev
def sbd {α β:Type} (x:Int⊕α) (k:α->Int⊕β):Int⊕β:=match x with
 | .inl e=>.inl e
 | .inr a=>k a
theorem z3j {α β:Type} (e:Int) (k:α->Int⊕β):sbd (.inl e) k=.inl e:=rfl
theorem znM {α β:Type} (a:α) (k:α->Int⊕β):sbd (.inr a) k=k a:=rfl
def opS (r:yC×Int):Int⊕yC:=if r.2=0 then .inr r.1 else .inl r.2
def ofS:Int⊕yC->yC×Int
 | .inl e=>([],e)
 | .inr a=>(a,0)
theorem z3z {r:yC×Int} (h:r.2=0\/r.1=[]):ofS (opS r)=r:=by
 obtain ⟨a,e⟩:=r;simp only at h;unfold opS;by_cases he:e=0
 ·subst he; simp [ofS]
 ·rw [if_neg he];rcases h with h | h
  ·exact absurd h he
  ·subst h; rfl
def zKI (b:yC):Nat->yC->Int⊕yC
 | 0,p=>.inr p
 | n+1,p=>sbd (opS (zKx p b)) (zKI b n)
mutual
def zho (to:RowID->yC):At->Int⊕yC
 | ⟨k,r,a,f,i,o,b⟩=>if k=0 then .inr (to r) else
  sbd (zlI to a) λxs=>if k=1 then opS (zNx (xs.getD 0 default) (xs.getD 1 default)) else if k=2 then opS (zOP (xs.getD 0 default)) else if k=3 then opS (zPf (xs.getD 0 default)) else
   sbd (zhE to i) λis=>opS (zDy f is o b)
def zeK (to:RowID->yC):yD->yC->Int⊕yC
 | [],p=>.inr p
 | ⟨x,e⟩::r,p=>sbd (zho to x) λb=>sbd (zKI b e.toNat p) λq=>zeK to r q
def zdv (to:RowID->yC):yC->yC->Int⊕yC
 | [],s=>.inr s
 | ⟨c,fs⟩::r,s=>sbd (zeK to fs (zD5 c)) λp=>sbd (opS (zSS s p)) λq=>zdv to r q
def zlI (to:RowID->yC):yA->Int⊕yA
 | []=>.inr []
 | a::r=>sbd (zdv to a []) λb=>sbd (zlI to r) λl=>.inr (b::l)
def zhE (to:RowID->yC):yE->Int⊕yE
 | []=>.inr []
 | ⟨v,a⟩::r=>sbd (zdv to a []) λb=>sbd (zhE to r) λl=>.inr (⟨v,b⟩::l)
end
variable (to:RowID->yC)
theorem zXW (p:yC):zeK to [] p=.inr p:=by rw [zeK]
theorem zTX (f:Fc) (r:yD) (p:yC):zeK to (f::r) p=sbd (zho to f.At) λb=>sbd (zKI b f.Exp.toNat p) λq=>zeK to r q:=by cases f; rw [zeK]
theorem zbcn (s:yC):zdv to [] s=.inr s:=by rw [zdv]
theorem z94 (t:Term) (r s:yC):zdv to (t::r) s=sbd (zeK to t.Fs (zD5 t.Cf)) λp=>sbd (opS (zSS s p)) λq=>zdv to r q:=by cases t; rw [zdv]
theorem zMP:zlI to []=.inr []:=by rw [zlI]
theorem zCX (a:yC) (r:yA):zlI to (a::r)=sbd (zdv to a []) λb=>sbd (zlI to r) λl=>.inr (b::l):=by rw [zlI]
theorem zSp:zhE to []=.inr []:=by rw [zhE]
theorem z00 (w:Wd) (r:yE):zhE to (w::r)=sbd (zdv to w.Ann []) λb=>sbd (zhE to r) λl=>.inr (⟨w.Value,b⟩::l):=by cases w; rw [zhE]
theorem zbcW (x:At):zho to x=if x.Kind=0 then .inr (to x.Row) else
  sbd (zlI to x.Ag) λxs=>if x.Kind=1 then opS (zNx (xs.getD 0 default) (xs.getD 1 default)) else if x.Kind=2 then opS (zOP (xs.getD 0 default)) else if x.Kind=3 then opS (zPf (xs.getD 0 default)) else
   sbd (zhE to x.Items) λis=>opS (zDy x.Func is x.Op x.Bd):=by cases x; rw [zho]
def GE {α:Type} (P:α->Prop):Int⊕α->Prop
 | .inl e=>e≠0
 | .inr a=>P a
abbrev GS:Int⊕yC->Prop:=GE okA
theorem zVD {r:yC×Int} (h:okR r):GS (opS r):=by
 unfold opS;by_cases he:r.2=0
 ·rw [if_pos he]; exact h.1
 ·rw [if_neg he]; exact he
theorem zRb {α β:Type} {P:α->Prop} {Q:β->Prop} {x:Int⊕α} {k:α->Int⊕β} (hx:GE P x) (hk:∀ a,P a->GE Q (k a)):GE Q (sbd x k):=by
 cases x with
 | inl e=>exact hx
 | inr a=>exact hk a hx
theorem zbev {b:yC} (hb:okA b):∀ (n:Nat) (p:yC),okA p->GS (zKI b n p)
 | 0,p,hp=>hp
 | n+1,p,hp=>zRb (zVD (zbhk hp hb)) λq hq=>zbev hb n q hq
abbrev GL (n:Nat):Int⊕yA->Prop:=GE λl=>l.length=n/\∀ a∈l,okA a
abbrev GI (i:yE):Int⊕yE->Prop:=GE λl=>l.length=i.length/\∀ w∈l,okA w.Ann/\∃ v∈i,v.Value=w.Value
theorem zbiG (w:Wd):zIw w↔zXk w.Value/\zhV w.Ann/\w.Ann.length<=zbo:=by cases w; unfold zIw; exact Iff.rfl
theorem zbki {k f o:Int} {r:RowID} {a:yA} {i:yE} {b:Value} (h1:wf3 k) (h2:z0k r) (h3:zyy a/\a.length<=zbo) (h4:wf3 f) (h5:zte i/\i.length<=zbo) (h6:wf3 o) (h7:zXk b):zjk ⟨k,r,a,f,i,o,b⟩:=by
 unfold zjk; exact ⟨h1,h2,h3,h4,h5,h6,h7⟩
theorem zbcm {f o:Int} {l:yE} {b:Value} (hl:l.length<=1000000) (h:∀ w∈l,okA w.Ann/\zXk w.Value) (hf:wf3 f) (ho:wf3 o) (hb:zXk b):okR (zDy f l o b):=by
 unfold zDy;cases hk:zAY f l o b with
 | false=>exact ⟨zkn,.inr rfl⟩
 | true=>
  cases hv:l.all λw=>zbe w.Ann with
  | false=>exact ⟨zkn,.inr rfl⟩
  | true=>
   simp only [Bool.and_self,Bool.not_true,cond_false];cases decide (0<(zgd l).length) with
   | true=>
    obtain ⟨tf,ts⟩:=z7f hl hk hv;have hr:zbo=140737488351232:=rfl;have hlen:(zgd l).length<=1000000:=by rw [z88]; exact Nat.le_trans (List.length_filter_le _ _) hl
    refine zNp ⟨⟨tf.mono (by omega),ts⟩,zHC _ λt ht=> ?_,by simp [zhj,zbo]⟩
    simp only [zhj,qh] at ht;subst ht;refine z2d ⟨by simp,by simp⟩ (λg hg=> ?_) (by simp)
    simp only [qh] at hg;subst hg;refine ⟨zbki (z09 (z2T (by omega))) ⟨zqG,zqG⟩ ⟨by unfold zyy; trivial,by simp⟩ hf ⟨zWJ _ λw hw=> ?_,by omega⟩ ho hb,⟨by simp,by simp⟩⟩
    have hm:=h w (zME hw).1;exact (zbiG w).2 ⟨hm.2,hm.1.2⟩
   | false=>
    cases f==0&&z2L o (zdJ 0 b.Int) with
    | true=>exact ⟨zTH 1 (by omega),.inl rfl⟩
    | false=>exact ⟨zkn,.inl rfl⟩
theorem zWR {l:yA} (h:∀ a∈l,okA a) (i:Nat):okA (l.getD i default):=by
 by_cases hi:i<l.length
 ·exact h _ (zI hi)
 ·rw [List.getD_eq_getElem?_getD,List.getElem?_eq_none (by omega)]; exact zkn
def okT (to:RowID->yC):Prop:=∀ r,z0k r->okA (to r)
variable {to}
mutual
theorem zbcM (ht:okT to):∀ (x:At) (d:Nat),zjk x->zel (zw d) x->GS (zho to x)
 | ⟨k,r,a,f,i,o,b⟩=>λd hw hi=>by
  have hw':=zBF hw;simp only at hw';obtain ⟨⟨ha,hal⟩,⟨hit,hil⟩,hb,hk,hr,hf,ho⟩:=hw';obtain ⟨⟨l1,l2,_⟩,f1,f2⟩:=hi;simp only at l1 l2 f1 f2;rw [zho];by_cases hk0:k=0
  ·rw [if_pos hk0]; exact ht r hr
  ·rw [if_neg hk0];have hA:=z1o ht a d (λx hx=>(zlc ha x hx).1) f1
   refine zRb hA λxs has=> ?_
   have h0:=zWR has.2 0;have h1:=zWR has.2 1;split
   ·exact zVD (zbhn h0 h1)
   ·split
    ·exact zVD (zbhX h0)
    ·split
     ·exact zVD (zbhA h0)
     ·have hI:=zXx ht i d (λx hx=>(zmV hit x hx).2.1) λw hw=>(f2 w hw).2
      refine zRb hI λis his=> ?_
      refine zVD (zbcm (by omega) (λw hw=>⟨(his.2 w hw).1, ?_⟩) hf ho hb)
      obtain ⟨v,hv,e⟩:=(his.2 w hw).2;rw [<- e]; exact (zmV hit v hv).1
theorem zOe (ht:okT to):∀ (l:yD) (d:Nat),(∀ f∈l,zjk f.At/\zel (zw d) f.At)->∀ p,okA p->GS (zeK to l p)
 | [],_,_,p,hp=>by rw [zeK]; exact hp
 | ⟨x,e⟩::r,d,h,p,hp=>by
  rw [zeK];have hx:=zbcM ht x d (h ⟨x,e⟩ (by simp)).1 (h ⟨x,e⟩ (by simp)).2
  refine zRb hx λb hb=>zRb (zbev hb _ p hp) λq hq=> ?_
  exact zOe ht r d (λf hf=>h f (by simp [hf])) q hq
theorem zO6 (ht:okT to):∀ (a:yC) (d:Nat),zhV a->(∀ t∈a,∀ f∈t.Fs,zel (zw d) f.At)->∀ s,okA s->GS (zdv to a s)
 | [],_,_,_,s,hs=>by rw [zdv]; exact hs
 | ⟨c,fs⟩::r,d,hw,hi,s,hs=>by
  rw [zdv];have hwt:=zwY hw ⟨c,fs⟩ (by simp)
  have hp:=zOe ht fs d (λf hf=>⟨(zv0 (zti (zBm hwt).2.1 f hf)).1,hi ⟨c,fs⟩ (by simp) f hf⟩) (zD5 c) (zbje c)
  refine zRb hp λp hp=>zRb (zVD (zbhR hs hp)) λq hq=> ?_
  exact zO6 ht r d (zHC _ λt ht=>zwY hw t (by simp [ht])) (λt ht=>hi t (by simp [ht])) q hq
theorem z1o (ht:okT to):∀ (l:yA) (d:Nat),(∀ a∈l,zhV a)->(∀ a∈l,zw d a)->GL l.length (zlI to l)
 | [],_,_,_=>by rw [zlI]; exact ⟨rfl,λa ha=>by cases ha⟩
 | a::r,d,h,hi=>by
  rw [zlI];have hf:=hi a (by simp)
  have h1:GS (zdv to a []):=by
   cases d with
   | zero=>exact hf.elim
   | succ d=>exact zO6 ht a d (h a (by simp)) (λt ht f hf'=>(hf.2 t ht).2 f hf') [] zkn
  have h2:=z1o ht r d (λb hb=>h b (by simp [hb])) (λb hb=>hi b (by simp [hb]))
  revert h1 h2;cases zdv to a [] with
  | inl e=>exact λh _=>h
  | inr b=>
   cases zlI to r with
   | inl e=>exact λ_ h=>h
   | inr l=>
    intro h1 h2;refine ⟨by simp [h2.1],λx hx=> ?_⟩
    rcases qd.1 hx with rfl | hx
    ·exact h1
    ·exact h2.2 x hx
theorem zXx (ht:okT to):∀ (l:yE) (d:Nat),(∀ w∈l,zhV w.Ann)->(∀ w∈l,zw d w.Ann)->GI l (zhE to l)
 | [],_,_,_=>by rw [zhE]; exact ⟨rfl,λa ha=>by cases ha⟩
 | ⟨v,a⟩::r,d,h,hi=>by
  rw [zhE];have hf:zw d a:=hi ⟨v,a⟩ (by simp)
  have h1:GS (zdv to a []):=by
   cases d with
   | zero=>exact hf.elim
   | succ d=>exact zO6 ht a d (h ⟨v,a⟩ (by simp)) (λt ht f hf'=>(hf.2 t ht).2 f hf') [] zkn
  have h2:=zXx ht r d (λb hb=>h b (by simp [hb])) (λb hb=>hi b (by simp [hb]))
  revert h1 h2;cases zdv to a [] with
  | inl e=>exact λh _=>h
  | inr b=>
   cases zhE to r with
   | inl e=>exact λ_ h=>h
   | inr l=>
    intro h1 h2;refine ⟨by simp [h2.1],λx hx=> ?_⟩
    rcases qd.1 hx with rfl | hx
    ·exact ⟨h1,⟨v,a⟩,by simp,rfl⟩
    ·obtain ⟨h3,w,hw,e⟩:=h2.2 x hx;exact ⟨h3,w,by simp [hw],e⟩
end
end Go.Proofs.YtljlfiomikifjaaGreatDoor
end
