/- Texts of this claim, joined (the program, its functions in plain words, and what they compute). -/
import Derived.Test.YtoknknbmfmddbaaGreatDoorGC12
set_option autoImplicit false
set_option linter.unusedVariables false
set_option linter.unusedSectionVars false
set_option linter.unusedSimpArgs false
set_option maxRecDepth 1000000
set_option maxHeartbeats 0
noncomputable section
namespace Go.Proofs.YtoknknbmfmddbaaGreatDoor
open Go Go.Ab
end Go.Proofs.YtoknknbmfmddbaaGreatDoor
/- Relations: the normal form, by the reference. -/
set_option maxRecDepth 100000
namespace Go.Proofs.YtoknknbmfmddbaaGreatDoor
open Go Go.Ab
end Go.Proofs.YtoknknbmfmddbaaGreatDoor
namespace Go.Proofs.YtoknknbmfmddbaaGreatDoor
open Go Go.Ab
end Go.Proofs.YtoknknbmfmddbaaGreatDoor
/- Relations compared; tables of named rows. -/
set_option maxRecDepth 100000
namespace Go.Proofs.YtoknknbmfmddbaaGreatDoor
open Go Go.Ab
end Go.Proofs.YtoknknbmfmddbaaGreatDoor
/- Relations: finding a row; copies. -/
set_option maxRecDepth 100000
namespace Go.Proofs.YtoknknbmfmddbaaGreatDoor
open Go Go.Ab
theorem zV7 {τ:Type} [Inhabited τ] {l:List τ} {k:Nat} (h:k<l.length):l.set k (l.getD k default)=l:=by
 rw [List.getD_eq_getElem?_getD,List.getElem?_eq_getElem h];exact List.set_getElem_self h
theorem zSU:∀ N i,zsi (λ_=>true) N i=true:=λN i=>zrr.2 λ_ _ _=>rfl
section
variable (g:yB->Bool×yB)
theorem zbaw {B:yA} (hl:B.length<=1000000) (hg:∀ a∈B,g a=(true,a)) (i:Int) (t11:yB) (t12 t13 t23 t24:Int) (out:yB) (t x0 x1 x2 x3:Int) (x4:yD) (x5 x6 x7:Int) (x8:ByteArray) (t22:yC) (n:Nat) (hn:B.length<n):
  ztY g n i t11 t12 t13 t23 t24 (Int.ofNat B.length) 0 out t x0 x1 x2 x3 x4 x5 x6 x7 x8 t22 B=(true,(i,t11,t12,t13,t23,t24,out,t,x0,x1,x2,x3,x4,x5,x6,x7,x8,t22,B)):=by
 have key:=zD3 (W:=ztF g) (z:=default) B.length (λk=>((),(),i,(),t11,t12,t13,(),t23,t24,(B.length:Int),(k:Int),())) (λ_=>(out,(t,(),()),(x0,x1,x2,(),x3,x4,x5,x6,x7,x8,()),t22,B,())) (λ_=>true) default (i,t11,t12,t13,t23,t24,out,t,x0,x1,x2,x3,x4,x5,x6,x7,x8,t22,B)
  (λk hk H K D=>by
   show (zjP g i t11 t12 t13 t23 t24 B.length k out t x0 x1 x2 x3 x4 x5 x6 x7 x8 t22 B).ev H K D=_;unfold zjP;simp only [Wy.ev_i,Wy.ev_k,Wy.ev_h,Wy.ev_bn,Wy.ev_d,tT,hk,hg _ (zT hk),zV7 hk,zbe (show k<4611686018427387904 by omega)])
  (λH K D=>by
   show (zjP g i t11 t12 t13 t23 t24 B.length B.length out t x0 x1 x2 x3 x4 x5 x6 x7 x8 t22 B).ev H K D=_;unfold zjP;simp only [Wy.ev_i,Wy.ev_k,tT,Nat.lt_irrefl]) n hn
 rw [zSU] at key;exact key
theorem zbaZ {B:yD} (hl:B.length<=1000000) (hg:∀ w∈B,g w.Ann=(true,w.Ann)) (i:Int) (t11:yB) (t12 t13 t23 t24:Int) (out:yB) (t x0 x1 x2 x3 x4 x5 x6:Int) (x7:ByteArray) (t22:yC) (b4:yA) (n:Nat) (hn:B.length<n):
  ztT g n i t11 t12 t13 t23 t24 (Int.ofNat B.length) 0 out t x0 x1 x2 x3 x4 x5 x6 x7 t22 b4 B=(true,(i,t11,t12,t13,t23,t24,out,t,x0,x1,x2,x3,x4,x5,x6,x7,t22,b4,B)):=by
 have key:=zD3 (W:=ztf g) (z:=default) B.length (λk=>((),(),i,(),t11,t12,t13,(),t23,t24,(B.length:Int),(k:Int),())) (λ_=>(out,(t,(),()),(x0,x1,x2,(),x3,(),x4,x5,x6,x7,()),t22,b4,B,())) (λ_=>true) default (i,t11,t12,t13,t23,t24,out,t,x0,x1,x2,x3,x4,x5,x6,x7,t22,b4,B)
  (λk hk H K D=>by
   show (zjR g i t11 t12 t13 t23 t24 B.length k out t x0 x1 x2 x3 x4 x5 x6 x7 t22 b4 B).ev H K D=_;unfold zjR;have e:B.set k (WO.mk (B.getD k default).Value (B.getD k default).Ann)=B:=zV7 hk;simp only [Wy.ev_i,Wy.ev_k,Wy.ev_h,Wy.ev_bn,Wy.ev_d,tT,hk,hg _ (zT hk),e,zbe (show k<4611686018427387904 by omega)])
  (λH K D=>by
   show (zjR g i t11 t12 t13 t23 t24 B.length B.length out t x0 x1 x2 x3 x4 x5 x6 x7 t22 b4 B).ev H K D=_;unfold zjR;simp only [Wy.ev_i,Wy.ev_k,tT,Nat.lt_irrefl]) n hn
 rw [zSU] at key;exact key
theorem zYO (A n:Nat):n<A+n+(1000:Nat):=by omega
theorem z8d (x:Fc):x=(⟨⟨x.At.Kind,⟨x.At.Row.Table,x.At.Row.Seq⟩,x.At.Ag,x.At.Func,x.At.Items,x.At.Op,⟨x.At.Bd.Kind,x.At.Bd.Int,x.At.Bd.Text⟩⟩,x.Exp⟩:Fc):=by
 obtain ⟨⟨a,⟨b,c⟩,d,e,f,g,⟨h,i,j⟩⟩,k⟩:=x;rfl
theorem zbaC {F:yC} (hFl:F.length<=1000000) (k:Nat) (hk:k<F.length) (kd tb sq:Int) (args:yA) (fn:Int) (items:yD) (op vk vi:Int) (vt:ByteArray) (ex:Int)
  (he:F.getD k default=⟨⟨kd,⟨tb,sq⟩,args,fn,items,op,⟨vk,vi,vt⟩⟩,ex⟩) (ha:args.length<=1000000) (hi:items.length<=1000000) (hga:∀ a∈args,g a=(true,a)) (hgi:∀ w∈items,g w.Ann=(true,w.Ann))
  (t11:yB) (t12 t13:Int) (out:yB) (t:Int) (H:Unit×Unit×yB×Int×Int×Unit×Int×Int×Unit->yB×(Int×Unit×Unit)×yC×Unit->Bool×(yB×Int×Int×yB×Int×yC)) (K:yB×Int×Int×yB×Int×yC->Bool×(yB×Int×Int×yB×Int×yC)) (D:Bool×(yB×Int×Int×yB×Int×yC)):
  (zkE g t11 t12 t13 F.length k out t F).ev H K D=H ((),(),t11,t12,t13,(),(F.length:Int),((k+1:Nat):Int),()) (out,(t,(),()),F,()):=by
 unfold zkE
 have hA:zbW args=(true,args):=by
  unfold zbW;rw [decide_eq_true (zIk (by omega) (by omega))]
 have hI:zcf items=(true,items):=by
  unfold zcf;rw [decide_eq_true (zIk (by omega) (by omega))]
 have e:F.set k ⟨⟨kd,⟨tb,sq⟩,args,fn,items,op,⟨vk,vi,vt⟩⟩,ex⟩=F:=by rw [<- he]; exact zV7 hk
 have c1:decide ((k:Int)<(F.length:Int))=true:=by simp [hk]
 have c2:(decide ((0:Int)<=(k:Int))&&decide ((k:Int)<Int.ofNat F.length))=true:=by simp [hk]
 have c3:decide (k<F.length)=true:=by simp [hk]
 have e12:∀ n,args.length<n->ztY g n k t11 t12 t13 F.length k (Int.ofNat args.length) 0 out t kd tb sq fn items op vk vi vt F args=_:=λn hn=>zbaw g ha hga (k:Int) t11 t12 t13 (F.length:Int) (k:Int) out t kd tb sq fn items op vk vi vt F n hn
 have e18:∀ n,items.length<n->ztT g n k t11 t12 t13 F.length k (Int.ofNat items.length) 0 out t kd tb sq fn op vk vi vt F args items=_:=λn hn=>zbaZ g hi hgi (k:Int) t11 t12 t13 (F.length:Int) (k:Int) out t kd tb sq fn op vk vi vt F args n hn
 rw [Wy.ev_i,c1,cond_true,Wy.ev_i,c2,cond_true,Wy.ev_bn];simp only [Int.toNat_natCast,he,hA,cond_true];rw [Wy.ev_bn,e12 _ (zYO _ _)];simp only [cond_true];rw [Wy.ev_bn,hI];simp only [cond_true];rw [Wy.ev_bn,e18 _ (zYO _ _)];simp only [cond_true];rw [Wy.ev_i,c2,cond_true,Wy.ev_i];simp only [Int.toNat_natCast,c3,cond_true,Wy.ev_h,he,e,zbe (show k<4611686018427387904 by omega)]
theorem zbbl {d:Nat} {F:yC} (hF:zjn (zK d) F) (hg:∀ a,zK d a->g a=(true,a)) (t11:yB) (t12 t13:Int) (out:yB) (t:Int) (n:Nat) (hn:F.length<n):
  zBR g n t11 t12 t13 (Int.ofNat F.length) 0 out t F=(true,(t11,t12,t13,out,t,F)):=by
 have hFl:=hF.1
 have key:=zD3 (W:=zu6 g) (z:=default) F.length (λk=>((),(),t11,t12,t13,(),(F.length:Int),(k:Int),())) (λ_=>(out,(t,(),()),F,())) (λ_=>true) default (t11,t12,t13,out,t,F)
  (λk hk H K D=>by
   have hx:=hF.2 _ (zT hk);exact zbaC g hFl k hk (F.getD k default).At.Kind (F.getD k default).At.Row.Table (F.getD k default).At.Row.Seq (F.getD k default).At.Ag (F.getD k default).At.Func (F.getD k default).At.Items (F.getD k default).At.Op (F.getD k default).At.Bd.Kind (F.getD k default).At.Bd.Int (F.getD k default).At.Bd.Text (F.getD k default).Exp (z8d _) hx.1.1 hx.1.2.1 (λa ha=>hg a (hx.2.1 a ha)) (λw hw=>hg w.Ann (hx.2.2 w hw).2) t11 t12 t13 out t H K D)
  (λH K D=>by
   show (zkE g t11 t12 t13 F.length F.length out t F).ev H K D=_;unfold zkE;rw [Wy.ev_i,zkH,decide_eq_false (Nat.lt_irrefl _),cond_false,Wy.ev_k]) n hn
 rw [zSU] at key;exact key
theorem zbah {d:Nat} {a:yB} (ha:zK (d+1) a) (hg:∀ a,zK d a->g a=(true,a)):∀ (n i:Nat),a.length<i+n->i<=a.length->
  zBK g n a a.length i (a.take i)=(true,a)
 | 0,i,h1,h2=>by omega
 | n+1,i,h1,h2=>by
  show (zvb g a a.length i (a.take i)).ev (zD (zvd g) default n) (λr=>(true,r)) (false,default)=_
  unfold zvb;have hal:=ha.1;by_cases hi:i<a.length
  ·have hf:=ha.2 _ (zT hi)
   have hC:zcF (a.getD i default).Fs=(true,(a.getD i default).Fs):=by
    unfold zcF;rw [decide_eq_true (zIk (by have:=hf.1; omega) (by omega))]
   have e7:=λn hn=>zbbl g hf hg a (a.length:Int) (i:Int) (a.take i) (a.getD i default).Cf n hn
   have hr:∀ x:Term,decide (((a.take i).length+[x].length)*(32:Nat)<=zbm)=true:=λx=>decide_eq_true (zIk (by simp; omega) (by omega))
   simp only [Wy.ev_i,Wy.ev_k,Wy.ev_h,Wy.ev_bn,Wy.ev_d,zkH,zhm,decide_true,Bool.and_self,Bool.true_and,Bool.and_true,cond_true,cond_false,Int.toNat_natCast,hi,show ((i:Int)<Int.ofNat a.length)=((i:Int)<(a.length:Int)) from rfl,hC]
   rw [e7 _ (zYO _ _)];simp only [cond_true,hr,zbe (show i<4611686018427387904 by omega)]
   have et:a.take i++[TO.mk (a.getD i default).Cf (a.getD i default).Fs]=a.take (i+1):=(zMJ hi).symm;rw [et];exact zbah ha hg n (i+1) (by omega) (by omega)
  ·have:i=a.length:=by omega
   subst this;rw [Wy.ev_i,zkH,decide_eq_false (Nat.lt_irrefl _),cond_false,Wy.ev_k,List.take_length]
end
theorem z30:∀ (n d:Nat) (a:yB),zK d a->d<=n->zkQ n a=(true,a)
 | 0,d,a,h,hd=>by
  have:d=0:=by omega
  subst this;exact h.elim
 | n+1,0,a,h,hd=>h.elim
 | n+1,d+1,a,h,hd=>by
  rw [zQt];unfold ztv zDX;have key:=zbah (zkQ n) h (λb hb=>z30 n d b hb (by omega)) (a.length+(Int.ofNat a.length).toNat +Int.toNat (0:Int)+(0:Nat)+(1000:Nat)) 0 (by omega) (by omega)
  rw [show ((0:Nat):Int)=(0:Int) from rfl,List.take_zero] at key
  rw [show (a.length:Int)=Int.ofNat a.length from rfl] at key
  rw [Wy.fin_bn,key]; rfl
theorem z7A {a:yB} (h:okA a):zCR a=(true,a):=z30 1000 12 a h.1.1 (by omega)
end Go.Proofs.YtoknknbmfmddbaaGreatDoor
/- Relations in normal form, by what is found in them. No program in sight. -/
set_option maxRecDepth 100000
namespace Go.Proofs.YtoknknbmfmddbaaGreatDoor
open Go Go.Ab
def fnd:yG->yH->yB
 | [],_=>[]
 | w::r,v=>if w.Values=v then w.Ann else fnd r v
abbrev zba4 (M:yG):Prop:=M.Pairwise λx y=>cR x y<0
end Go.Proofs.YtoknknbmfmddbaaGreatDoor
namespace Go.Proofs.YtoknknbmfmddbaaGreatDoor
open Go Go.Ab
end Go.Proofs.YtoknknbmfmddbaaGreatDoor
/- Relations: what is valid, and the sum, by the program and the reference. -/
set_option maxRecDepth 100000
namespace Go.Proofs.YtoknknbmfmddbaaGreatDoor
open Go Go.Ab
end Go.Proofs.YtoknknbmfmddbaaGreatDoor
/- Sums of valid relations, by what is found in them. -/
set_option maxRecDepth 100000
namespace Go.Proofs.YtoknknbmfmddbaaGreatDoor
open Go Go.Ab
structure NF (M:yG):Prop where
 asc:zba4 M
 ok:∀ w∈M,zba5 w
 ne:∀ w∈M,w.Ann≠[]
end Go.Proofs.YtoknknbmfmddbaaGreatDoor
namespace Go.Proofs.YtoknknbmfmddbaaGreatDoor
open Go Go.Ab
end Go.Proofs.YtoknknbmfmddbaaGreatDoor
/- Relations: equality by the program; the empty relation. -/
set_option maxRecDepth 100000
namespace Go.Proofs.YtoknknbmfmddbaaGreatDoor
open Go Go.Ab
end Go.Proofs.YtoknknbmfmddbaaGreatDoor
namespace Go.Proofs.YtoknknbmfmddbaaGreatDoor
open Go Go.Ab
end Go.Proofs.YtoknknbmfmddbaaGreatDoor
end
