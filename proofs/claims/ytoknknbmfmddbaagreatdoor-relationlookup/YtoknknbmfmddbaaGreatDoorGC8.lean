/- Texts of this claim, joined (the program, its functions in plain words, and what they compute). -/
import Derived.Test.YtoknknbmfmddbaaGreatDoorGC7
set_option autoImplicit false
set_option linter.unusedVariables false
set_option linter.unusedSectionVars false
set_option linter.unusedSimpArgs false
set_option maxRecDepth 1000000
set_option maxHeartbeats 0
/- Which annotations are valid: both sides compute the same. -/
noncomputable section
namespace Go.Proofs.YtoknknbmfmddbaaGreatDoor
open Go Go.Ab
def rz (r:RowID):Bool:=r.Table==(0:Int)&&(r.Seq==(0:Int)&&true)
def zx7 (V:yB->Bool) (l:yA):Bool:=l.all λa=>V a&& !(a.length==0)
def zGJ (V:yB->Bool) (l:yD):Bool:=l.all λw=>V w.Ann&& !(w.Ann.length==0)
def zJN (r:RowID):Bool:=decide (r.Table≥1)&&decide (r.Seq≥1)
def zJY (p:yB->Bool):yA->Bool
 | [a]=>p a
 | _=>false
def z01 (p:yB->yB->Bool):yA->Bool
 | [a,b]=>p a b
 | _=>false
def zh1 (V:yB->Bool) (x:At):Bool:=
 zx7 V x.Ag&&
 if x.Kind=0 then plA x&&zJN x.Row&&(x.Ag.length==0)
 else rz x.Row&&
  if x.Kind=1 then plA x&&z01 (λa b=> !decide (a=b)) x.Ag
  else if x.Kind=2 then plA x&&zJY (λa=> !isC a&& !isU a) x.Ag
  else if x.Kind=3 then plA x&&zJY (λa=> !zVX a) x.Ag
  else if x.Kind=4 then (x.Ag.length==0)&&decide (0<x.Items.length)&&zGJ V x.Items&&z1Z x.Items&&zIa x.Func x.Items x.Op x.Bd
  else false
def zV5 (vat:At->Bool) (fs:yC) (k:Nat):Bool:=
 decide (1<=(fs.getD k default).Exp)&& !(((fs.getD k default).At.Kind==3||(fs.getD k default).At.Kind==4)&&(fs.getD k default).Exp != 1)&&
  (decide (k=0)||decide (zbE (zgf (fs.getD (k - 1) default).At) (zgf (fs.getD k default).At)<0))&&vat (fs.getD k default).At
def okF (vat:At->Bool) (fs:yC):Bool:=zsi (zV5 vat fs) fs.length 0
def zOc (vat:At->Bool) (a:yB) (i:Nat):Bool:=
 decide (1<=(a.getD i default).Cf)&&decide ((a.getD i default).Cf<=1152921504606846976)&&
  (decide (i=0)||decide (zbw (zb6 (a.getD (i - 1) default).Fs) (zb6 (a.getD i default).Fs)<0))&&okF vat (a.getD i default).Fs
def zCx (vat:At->Bool) (a:yB):Bool:=zrZ a&&zsi (zOc vat a) a.length 0
def zcX:Nat->yB->Bool
 | 0,_=>false
 | n+1,a=>zCx (zh1 (zcX n)) a
theorem zXJ (r:RowID):zoJ r=(true,zJN r):=by
 unfold zoJ zMV zJN;rw [Wy.fin_i,Wy.fin_k,Wy.fin_k];cases decide (r.Table≥1) <;>rfl
theorem zO1 {V:yB->Bool} {x:At} (h:zh1 V x=true):0<=x.Kind/\x.Kind<=4:=by
 unfold zh1 at h;by_cases h0:x.Kind=0
 ·omega
 by_cases h1:x.Kind=1
 ·omega
 by_cases h2:x.Kind=2
 ·omega
 by_cases h3:x.Kind=3
 ·omega
 by_cases h4:x.Kind=4
 ·omega
 simp [h0,h1,h2,h3,h4] at h
theorem zUe (l k:Nat):((Int.ofNat l)==(k:Int))=(l==k):=by
 rw [zLD,z6W]; congr 1; simp; omega
section
variable (V:yB->Bool) (gW:yD->Bool×Bool) (gA:yA->Bool×Bool) (c1:yB->Bool×Bool) (c2:Wd->Bool×Bool)
theorem zY9 (x:At) {d:Nat} (hx:zgK (zK d) x) (hd:d<=99) (hA:gA x.Ag=(true, !zx7 V x.Ag)) (hW:gW x.Items=(true, !zGJ V x.Items)):
  zig gA c1 gW c2 x=(true,zh1 V x):=by
 have hS:=z3m x.Items hx.1.2.1 (λw hw=>(hx.2.2 w hw).2) hd
 have hF:=z4I x.Func x.Items x.Op x.Bd hx.1.2.1;have hE:∀ a∈x.Ag,∀ b,zgP a b=(true,decide (a=b)):=λa ha b=>zRq (hx.2.1 a ha) (by omega) b
 have hC:∀ a∈x.Ag,zek a=(true,zVX a):=λa ha=>zY6 a (by
  have:=hx.2.1 a ha;cases d with
  | zero=>exact this.elim
  | succ d=>have:=this.1; omega)
 obtain ⟨k,r,l,f,its,o,b⟩:=x;simp only at hA hW hS hF hE hC;unfold zig zb0 zh1 plA;simp only [zXJ,hA,hW,hS,hF,Wy.fin_i,Wy.fin_k,Wy.fin_bn,cond_true]
 rw [show (b.Kind==(0:Int)&&(b.Int==(0:Int)&&(b.Text.toList==(ByteArray.mk #[]).toList&&true)))=bz b from rfl,
  show (r.Table==(0:Int)&&(r.Seq==(0:Int)&&true))=rz r from rfl,
  show (Int.ofNat its.length != 0)= !(its.length==0) from congrArg not (zUe its.length 0),show (f != 0)= !(f==0) from rfl,show (o != 0)= !(o==0) from rfl]
 generalize zx7 V l=A at *;generalize zGJ V its=W at *;generalize bz b=B at *;generalize (f==0)=F at *;generalize (o==0)=O at *;generalize rz r=R at *;generalize zJN r=RO at *;generalize z1Z its=S at *;generalize zIa f its o b=K at *;have hgt:decide (Int.ofNat its.length>0)=decide (0<its.length):=zyg its.length 0;rw [hgt];generalize (its.length==0)=I at *;generalize decide (0<its.length)=J at *;by_cases h0:k=0
 ·subst h0;simp only [zUe,show ((Int.ofNat l.length)==(0:Int))=(l.length==0) from zUe l.length 0]
  generalize (l.length==0)=L;cases F <;>cases I <;>cases O <;>cases B <;>cases A <;>cases RO <;>rfl
 by_cases h1:k=1
 ·subst h1
  match l,hE with
  | [],_=>cases F <;>cases I <;>cases O <;>cases B <;>cases A <;>cases R <;>rfl
  | [u],_=>cases F <;>cases I <;>cases O <;>cases B <;>cases A <;>cases R <;>rfl
  | [u,v],hE=>
   have e:=hE u (by simp) v
   simp only [List.getD,qf,List.length_nil,Int.toNat_zero,List.getElem?_cons_zero,List.getElem?_cons_succ,Option.getD,show Int.toNat 1=1 from rfl,z01]
   simp only [e];generalize decide (u=v)=E;cases F <;>cases I <;>cases O <;>cases B <;>cases A <;>cases R <;>rfl
  | u::v::w::l,_=>
   have e:((Int.ofNat (u::v::w::l).length)==(2:Int))=false:=by rw [beq_eq_false_iff_ne]; simp; omega
   simp only [e];cases F <;>cases I <;>cases O <;>cases B <;>cases A <;>cases R <;>rfl
 by_cases h2:k=2
 ·subst h2
  match l with
  | []=>cases F <;>cases I <;>cases O <;>cases B <;>cases A <;>cases R <;>rfl
  | [u]=>
   simp only [List.getD,qf,List.length_nil,Int.toNat_zero,List.getElem?_cons_zero,Option.getD,zJY,z0b,z6e];generalize isC u=E;generalize isU u=E';cases F <;>cases I <;>cases O <;>cases B <;>cases A <;>cases R <;>cases E <;>cases E' <;>rfl
  | u::v::l=>
   simp only [z4j];cases F <;>cases I <;>cases O <;>cases B <;>cases A <;>cases R <;>rfl
 by_cases h3:k=3
 ·subst h3
  match l,hC with
  | [],_=>cases F <;>cases I <;>cases O <;>cases B <;>cases A <;>cases R <;>rfl
  | [u],hC=>
   have e:=hC u (by simp)
   simp only [List.getD,qf,List.length_nil,Int.toNat_zero,List.getElem?_cons_zero,Option.getD,zJY];simp only [e];generalize zVX u=E;cases F <;>cases I <;>cases O <;>cases B <;>cases A <;>cases R <;>cases E <;>rfl
  | u::v::l,_=>
   simp only [z4j];cases F <;>cases I <;>cases O <;>cases B <;>cases A <;>cases R <;>rfl
 by_cases h4:k=4
 ·subst h4;simp only [show ((Int.ofNat l.length)==(0:Int))=(l.length==0) from zUe l.length 0]
  generalize (l.length==0)=L;cases A <;>cases W <;>cases L <;>cases J <;>cases S <;>cases K <;>cases R <;>rfl
 simp only [zLD,h0,h1,h2,h3,h4,decide_false,if_false,cond_false];cases F <;>cases I <;>cases O <;>cases B <;>cases A <;>cases R <;>rfl
end
section
variable (V:yB->Bool) (g:yB->Bool×Bool)
theorem z81 {A ρ:Type} (s:A) (k:A->Wy0 ρ) (z:ρ):(Wy.bn (true,s) k).fin z=(k s).fin z:=rfl
end
section
variable (V:yB->Bool) (vat:At->Bool)
theorem V_9 (g:At->Bool×Bool) (a t10:yB) (t11 t12:Int) (t:Term) {d:Nat} (ht:zjn (zK d) t.Fs) (hd:d<=99) (hg:∀ f∈t.Fs,g f.At=(true,vat f.At)) (n:Nat) (hn:t.Fs.length<n):
  zsA g n a t10 t11 t12 t.Fs t.Fs.length 0 t=(true,bif okF vat t.Fs then .inr (a,t10,t11,t12) else .inl false):=by
 have hl:=ht.1
 exact zD3 (W:=zsm g) (z:=.inl default) t.Fs.length (λk=>(a,(),t10,t11,t12,t.Fs,(t.Fs.length:Int),(k:Int),())) (λ_=>(t,())) (zV5 vat t.Fs) (.inl false) (.inr (a,t10,t11,t12))
  (λk hk H K D=>by
   show (ziS g a t10 t11 t12 t.Fs t.Fs.length k t).ev H K D=_;unfold ziS zV5
   have hgt:decide ((k:Int)>0)= !decide (k=0):=by
    by_cases h:k=0
    ·subst h; rfl
    ·have:0<k:=by omega
     simp [h,this]
   simp only [At.eta,Wy.ev_i,Wy.ev_k,Wy.ev_h,Wy.ev_bn,Wy.ev_d,tT,hk,z4b,hg _ (zT hk),hgt];rw [zbe (by omega)]
   have e1:decide ((t.Fs.getD k default).Exp<1)= !decide (1<=(t.Fs.getD k default).Exp):=by
    by_cases h:1<=(t.Fs.getD k default).Exp
    ·have:¬ (t.Fs.getD k default).Exp<1:=by omega
     simp only [h,this,decide_true,decide_false,Bool.not_true]
    ·have:(t.Fs.getD k default).Exp<1:=by omega
     simp only [h,this,decide_true,decide_false,Bool.not_false]
   rw [e1];generalize decide (1<=(t.Fs.getD k default).Exp)=E1;generalize ((t.Fs.getD k default).Exp != 1)=E2;generalize ((t.Fs.getD k default).At.Kind==3||(t.Fs.getD k default).At.Kind==4)=E3;by_cases h0:k=0
   ·simp only [h0,decide_true,Bool.not_true,cond_false,Bool.true_or,Bool.and_true];cases E1 <;>cases E2 <;>cases E3 <;>cases vat (t.Fs.getD 0 default).At <;>rfl
   ·have hp:IntKind.i64.wrap ((k:Int) - 1)=((k - 1:Nat):Int):=zzF (by omega) (by omega)
    have hk':k - 1<t.Fs.length:=by omega
    have hfx:zgK (zK d) (t.Fs.getD (k - 1) default).At:=ht.2 _ (zT hk')
    have e2:∀ z:Int,decide (z≥0)= !decide (z<0):=λz=>by
     by_cases h:z<0
     ·have:¬ z≥0:=by omega
      simp [h,this]
     ·have:z≥0:=by omega
      simp [h,this]
    simp only [h0,hp,tT,hk',zEP hfx hd,e2,Bool.false_or];generalize decide (zbE (zgf (t.Fs.getD (k - 1) default).At) (zgf (t.Fs.getD k default).At)<0)=E4;cases E1 <;>cases E2 <;>cases E3 <;>cases E4 <;>cases vat (t.Fs.getD k default).At <;>rfl)
  (λH K D=>by
   show (ziS g a t10 t11 t12 t.Fs t.Fs.length t.Fs.length t).ev H K D=_;unfold ziS;simp only [Wy.ev_i,Wy.ev_k,tT,Nat.lt_irrefl]) n hn
theorem V_4 (g:At->Bool×Bool) (a:yB) {d:Nat} (h:zK (d+1) a) (hd:d<=99) (hg:∀ t∈a,∀ f∈t.Fs,g f.At=(true,vat f.At)) (n:Nat) (hn:a.length<n):
  zzE g n a a a.length 0=(true,bif zsi (zOc vat a) a.length 0 then .inr () else .inl false):=by
 have hl:=h.1
 exact zD3 (W:=zsn g) (z:=.inl default) a.length (λk=>(a,a,(a.length:Int),(k:Int),())) (λ_=>()) (zOc vat a) (.inl false) (.inr ())
  (λk hk H K D=>by
   show (ziO g a a a.length k).ev H K D=_;unfold ziO zOc;have ht:=h.2 _ (zT hk)
   have hgt:decide ((k:Int)>0)= !decide (k=0):=by
    by_cases h:k=0
    ·subst h; rfl
    ·have:0<k:=by omega
     simp [h,this]
   simp only [At.eta,Wy.ev_i,Wy.ev_k,Wy.ev_h,Wy.ev_bn,Wy.ev_d,tT,hk,hgt];rw [V_9 vat g a a a.length k _ ht hd (hg _ (zT hk)) _ (by omega)]
   have e1:decide ((a.getD k default).Cf<1)= !decide (1<=(a.getD k default).Cf):=by
    by_cases h:1<=(a.getD k default).Cf
    ·have:¬ (a.getD k default).Cf<1:=by omega
     simp only [h,this,decide_true,decide_false,Bool.not_true]
    ·have:(a.getD k default).Cf<1:=by omega
     simp only [h,this,decide_true,decide_false,Bool.not_false]
   have e3:decide ((a.getD k default).Cf>1152921504606846976)= !decide ((a.getD k default).Cf<=1152921504606846976):=by
    by_cases h:(a.getD k default).Cf<=1152921504606846976
    ·have:¬ (a.getD k default).Cf>1152921504606846976:=by omega
     simp only [h,this,decide_true,decide_false,Bool.not_true]
    ·have:(a.getD k default).Cf>1152921504606846976:=by omega
     simp only [h,this,decide_true,decide_false,Bool.not_false]
   rw [e1,e3];generalize decide (1<=(a.getD k default).Cf)=E1;generalize decide ((a.getD k default).Cf<=1152921504606846976)=E2;by_cases h0:k=0
   ·subst h0;simp only [decide_true,Bool.not_true,cond_false,Bool.true_or,Bool.and_true];cases okF vat (a.getD 0 default).Fs <;>cases E1 <;>cases E2 <;>try rfl
   ·have hp:IntKind.i64.wrap ((k:Int) - 1)=((k - 1:Nat):Int):=zzF (by omega) (by omega)
    have hk':k - 1<a.length:=by omega
    have hfx:zjn (zK d) (a.getD (k - 1) default).Fs:=h.2 _ (zT hk')
    have e2:∀ z:Int,decide (z≥0)= !decide (z<0):=λz=>by
     by_cases h:z<0
     ·have:¬ z≥0:=by omega
      simp [h,this]
     ·have:z≥0:=by omega
      simp [h,this]
    simp only [h0,hp,tT,hk',zE6 hfx hd,e2,Bool.false_or];generalize decide (zbw (zb6 (a.getD (k - 1) default).Fs) (zb6 (a.getD k default).Fs)<0)=E4;cases okF vat (a.getD k default).Fs <;>cases E1 <;>cases E2 <;>cases E4 <;>try rfl
    simp only [cond_true,cond_false,Bool.not_true,isL,getR,Bool.and_self];rw [zbe (by omega),decide_eq_false (show ¬ ((k - 1:Nat):Int)<0 by omega)]; rfl)
  (λH K D=>by
   show (ziO g a a a.length a.length).ev H K D=_;unfold ziO;simp only [Wy.ev_i,Wy.ev_k,tT,Nat.lt_irrefl]) n hn
theorem z4L (g:At->Bool×Bool) (a:yB) {d:Nat} (h:zK (d+1) a) (hd:d<=99) (hs:zW a<=4611686018427387904) (hg:∀ t∈a,∀ f∈t.Fs,g f.At=(true,vat f.At)):zlP g a=(true,zCx vat a):=by
 unfold zlP zAZ zCx;have:=V_4 vat g a h hd hg (a.length+a.length+(Int.ofNat a.length).toNat +Int.toNat (0:Int)+(1:Nat)) (by omega)
 rw [show Int.ofNat a.length=(a.length:Int) from rfl] at *
 simp only [Wy.fin_i,Wy.fin_k,Wy.fin_bn,z5z h (by omega) hs,this,cond_true]
 cases zrZ a <;>cases zsi (zOc vat a) a.length 0 <;>rfl
end
theorem z3e {l:yA} {a:yB} (h:a∈l):zW a<=zes l:=by
 induction l with
 | nil=>cases h
 | cons b r ih=>
  rw [zgV];rcases qd.1 h with rfl | h
  ·omega
  ·have:=ih h; omega
theorem z2S {l:yD} {w:Wd} (h:w∈l):zW w.Ann<=zdb l:=by
 induction l with
 | nil=>cases h
 | cons b r ih=>
  rw [zio];rcases qd.1 h with rfl | h
  ·omega
  ·have:=ih h; omega
theorem zbaO (g) (l:yA):zco g l=IG (λ(_:Unit) x=>g x) (l.length+(Int.ofNat l.length).toNat +Int.toNat (0:Int)+(1:Nat)) () l:=rfl
theorem zbaE (g) (l:yD):zcJ g l=IG (λ(_:Unit) x=>g x) (l.length+(Int.ofNat l.length).toNat +Int.toNat (0:Int)+(1:Nat)) () l:=rfl
theorem zSG:∀ n,
  (∀ d m a,zK d a->10*d<=n->d<=m->d<=100->zW a<=4611686018427387904->ziN n a=(true,zcX m a))/\
  (∀ d m x,zgK (zK d) x->10*d+9<=n->d<=m->d<=99->zj5 x<=4611686018427387904->zle n x=(true,zh1 (zcX m) x))/\
  (∀ d m a,zK d a->10*d+6<=n->d<=m->d<=99->zW a<=4611686018427387904->zeq n a=(true, !(zcX m a&& !(a.length==0))))/\
  (∀ d m (w:Wd),zK d w.Ann->10*d+6<=n->d<=m->d<=99->zW w.Ann<=4611686018427387904->zep n w=(true, !(zcX m w.Ann&& !(w.Ann.length==0))))/\
  (∀ d m (l:yA),l.length<=1000000->(∀ a∈l,zK d a/\zW a<=4611686018427387904)->10*d+7<=n->d<=m->d<=99->zcn n l=(true,ixf (λa=> !(zcX m a&& !(a.length==0))) l 0))/\
  (∀ d m (l:yA),l.length<=1000000->(∀ a∈l,zK d a/\zW a<=4611686018427387904)->10*d+8<=n->d<=m->d<=99->zcb n l=(true, !zx7 (zcX m) l))/\
  (∀ d m (l:yD),l.length<=1000000->(∀ a∈l,zK d a.Ann/\zW a.Ann<=4611686018427387904)->10*d+7<=n->d<=m->d<=99->zcH n l=(true,ixf (λa=> !(zcX m a.Ann&& !(a.Ann.length==0))) l 0))/\
  (∀ d m (l:yD),l.length<=1000000->(∀ a∈l,zK d a.Ann/\zW a.Ann<=4611686018427387904)->10*d+8<=n->d<=m->d<=99->zcu n l=(true, !zGJ (zcX m) l))
 | 0=>by
  refine ⟨?_, ?_, ?_, ?_, ?_, ?_, ?_, ?_⟩
  ·intro d m a h hd; have:d=0:=by omega
   subst this; exact h.elim
  all_goals (intros; omega)
 | n+1=>by
  obtain ⟨h1,h2,h3,h4,h5,h6,h7,h8⟩:=zSG n;refine ⟨?_, ?_, ?_, ?_, ?_, ?_, ?_, ?_⟩
  ·intro d m a h hd hm hd2 hs;cases d with
   | zero=>exact h.elim
   | succ d=>
    cases m with
    | zero=>omega
    | succ m=>
     rw [zLS]
     exact z4L _ _ a h (by omega) hs λt ht f hf=>h2 d m f.At ((h.2 t ht).2 f hf) (by omega) (by omega) (by omega) (by
      have:=z3N ht hf; rw [zli]; omega)
  ·intro d m x h hd hm hd2 hs;rw [zGp];rw [zli] at hs
   exact zY9 _ _ _ _ _ x h hd2 (h6 d m _ h.1.1 (λa ha=>⟨h.2.1 a ha,by have:=z3e ha; omega⟩) (by omega) hm hd2)
    (h8 d m _ h.1.2.1 (λa ha=>⟨(h.2.2 a ha).2,by have:=z2S ha; omega⟩) (by omega) hm hd2)
  ·intro d m a h hd hm hd2 hs;rw [zCI];unfold zi8 zs6;rw [Wy.fin_bn,h1 d m a h (by omega) hm (by omega) hs]
   simp only [cond_true,Wy.fin_i,Wy.fin_k,show (Int.ofNat a.length==(0:Int))=(a.length==0) from zUe a.length 0]
   cases zcX m a <;>simp
  ·intro d m a h hd hm hd2 hs;rw [zCX];unfold zja zs0;rw [Wy.fin_bn,h1 d m a.Ann h (by omega) hm (by omega) hs]
   simp only [cond_true,Wy.fin_i,Wy.fin_k,show (Int.ofNat a.Ann.length==(0:Int))=(a.Ann.length==0) from zUe a.Ann.length 0]
   cases zcX m a.Ann <;>simp
  ·intro d m l hl h hd hm hd2;rw [zk2,zbaO];exact zYq _ _ _ _ _ (by omega) (λx hx=>h3 d m x (h x hx).1 (by omega) hm hd2 (h x hx).2) (by omega)
  ·intro d m l hl h hd hm hd2;rw [zkj];unfold zcc zey;rw [zuT (h5 d m l hl h (by omega) hm hd2)]
   simp [zx7,List.all_eq_not_any_not]
  ·intro d m l hl h hd hm hd2;rw [znp,zbaE];exact zYq _ _ _ _ _ (by omega) (λx hx=>h4 d m x (h x hx).1 (by omega) hm hd2 (h x hx).2) (by omega)
  ·intro d m l hl h hd hm hd2;rw [zlu];unfold zcx zfv;rw [zuT (h7 d m l hl h (by omega) hm hd2)]
   simp [zGJ,List.all_eq_not_any_not]
def ze7 (a:yB):Bool:=zcX 100 a
theorem zVv {τ:Type} [Inhabited τ] {l:List τ} {x:τ} (h:x∈l):∃ i,i<l.length/\l.getD i default=x:=by
 obtain ⟨i,hi,e⟩:=List.mem_iff_getElem.1 h;exact ⟨i,hi,by rw [List.getD_eq_getElem?_getD,List.getElem?_eq_getElem hi]; exact e⟩
theorem zJD {vat:At->Bool} {a:yB} (h:zCx vat a=true):zrZ a=true:=by
 simp only [zCx,qc] at h; exact h.1
theorem zzt {vat:At->Bool} {a:yB} (h:zCx vat a=true) {t:Term} (ht:t∈a):(1<=t.Cf/\t.Cf<=1152921504606846976)/\okF vat t.Fs=true:=by
 simp only [zCx,qc] at h;obtain ⟨i,hi,rfl⟩:=zVv ht;have:=zrr.1 h.2 i (by omega) (by omega)
 simp only [zOc,qc,qe] at this;exact ⟨this.1.1,this.2⟩
theorem zw2 {vat:At->Bool} {fs:yC} (h:okF vat fs=true) {f:Fc} (hf:f∈fs):(1<=f.Exp/\(f.At.Kind=3\/f.At.Kind=4->f.Exp=1))/\vat f.At=true:=by
 obtain ⟨i,hi,rfl⟩:=zVv hf;have:=zrr.1 h i (by omega) (by omega)
 simp only [zV5,qc,qe] at this;refine ⟨⟨this.1.1.1,λhk=> ?_⟩,this.2⟩
 have h2:=this.1.1.2;rcases hk with hk | hk
 ·rw [hk] at h2; simpa using h2
 ·rw [hk] at h2; simpa using h2
theorem z83 {b:Value} (h:bz b=true):b=⟨0,0,ByteArray.mk #[]⟩:=by
 unfold bz at h;rw [zTW] at h;simp only [qc,beq_iff_eq,qe,and_true] at h;obtain ⟨k,i,t⟩:=b;simp only at h;obtain ⟨rfl,rfl,rfl⟩:=h;rfl
theorem zzN {v:Value} (h:zAz v=true):v.Text.size<=255:=by
 simp only [zAz,Bool.or_eq_true,qc,beq_iff_eq,qe] at h;omega
theorem zPi {x:At} (h:plA x=true):x.Func=0/\x.Items=[]/\x.Op=0/\x.Bd=⟨0,0,ByteArray.mk #[]⟩:=by
 simp only [plA,qc,beq_iff_eq] at h;exact ⟨h.1.1.1,List.length_eq_zero_iff.1 h.1.1.2,h.1.2,z83 h.2⟩
theorem z8Y {r:RowID} (h:rz r=true):r=⟨0,0⟩:=by
 simp only [rz,qc,beq_iff_eq,and_true] at h;obtain ⟨t,s⟩:=r;simp only at h;obtain ⟨rfl,rfl⟩:=h; rfl
inductive VA (V:yB->Bool):At->Prop
 | var (r:RowID) (h:zJN r=true):VA V ⟨0,r,[],0,[],0,⟨0,0,ByteArray.mk #[]⟩⟩
 | mon (a b:yB) (ha:V a=true) (hb:V b=true) (ha0:a≠[]) (hb0:b≠[]) (h:a≠b):VA V ⟨1,⟨0,0⟩,[a,b],0,[],0,⟨0,0,ByteArray.mk #[]⟩⟩
 | del (a:yB) (ha:V a=true) (ha0:a≠[]) (h:isC a=false) (h':isU a=false):VA V ⟨2,⟨0,0⟩,[a],0,[],0,⟨0,0,ByteArray.mk #[]⟩⟩
 | abs (a:yB) (ha:V a=true) (ha0:a≠[]) (h:zVX a=false):VA V ⟨3,⟨0,0⟩,[a],0,[],0,⟨0,0,ByteArray.mk #[]⟩⟩
 | tst (f:Int) (l:yD) (o:Int) (b:Value) (hl:l≠[]) (hi:∀ w∈l,V w.Ann=true/\w.Ann≠[]) (hs:z1Z l=true) (hf:zIa f l o b=true):VA V ⟨4,⟨0,0⟩,[],f,l,o,b⟩
theorem zhW {V:yB->Bool} {x:At}:zh1 V x=true↔VA V x:=by
 constructor
 ·intro h;have hk:=zO1 h;obtain ⟨k,r,l,f,its,o,b⟩:=x;simp only at hk;unfold zh1 at h;simp only [qc] at h;obtain ⟨h1,h2⟩:=h
  have ha:∀ a∈l,V a=true/\a≠[]:=λa ha=>by
   have:=List.all_eq_true.1 h1 a ha;simp only [qc,Bool.not_eq_true',beq_eq_false_iff_ne] at this;exact ⟨this.1,λe=>this.2 (by rw [e]; rfl)⟩
  by_cases h0:k=0
  ·subst h0;simp only [if_true,qc,beq_iff_eq] at h2;obtain ⟨e1,e2,e3,e4⟩:=zPi h2.1.1;simp only at e1 e2 e3 e4;subst e1 e2 e3 e4;obtain rfl:l=[]:=List.length_eq_zero_iff.1 h2.2;exact .var r h2.1.2
  simp only [h0,if_false,qc] at h2;obtain ⟨hr,h2⟩:=h2;have hr':=z8Y hr;subst hr';by_cases h0':k=1
  ·subst h0';simp only [if_true,qc] at h2;obtain ⟨e1,e2,e3,e4⟩:=zPi h2.1;simp only at e1 e2 e3 e4;subst e1 e2 e3 e4
   match l,h2.2,ha with
   | [a,b],h3,ha=>exact .mon a b (ha a (by simp)).1 (ha b (by simp)).1 (ha a (by simp)).2 (ha b (by simp)).2 (by simpa [z01] using h3)
  simp only [h0',if_false] at h2;by_cases h2':k=2
  ·subst h2';simp only [if_true,qc] at h2;obtain ⟨e1,e2,e3,e4⟩:=zPi h2.1;simp only at e1 e2 e3 e4;subst e1 e2 e3 e4
   match l,h2.2,ha with
   | [a],h3,ha=>
    simp only [zJY,qc,Bool.not_eq_true'] at h3;exact .del a (ha a (by simp)).1 (ha a (by simp)).2 h3.1 h3.2
  simp only [h2',if_false] at h2;by_cases h3':k=3
  ·subst h3';simp only [if_true,qc] at h2;obtain ⟨e1,e2,e3,e4⟩:=zPi h2.1;simp only at e1 e2 e3 e4;subst e1 e2 e3 e4
   match l,h2.2,ha with
   | [a],h3,ha=>
    simp only [zJY,Bool.not_eq_true'] at h3;exact .abs a (ha a (by simp)).1 (ha a (by simp)).2 h3
  simp only [h3',if_false] at h2;have h4':k=4:=by omega
  subst h4';simp only [if_true,qc,beq_iff_eq,qe] at h2;obtain ⟨⟨⟨⟨h3,h4⟩,h5⟩,h6⟩,h7⟩:=h2;obtain rfl:l=[]:=List.length_eq_zero_iff.1 h3
  exact .tst f its o b (λe=>by rw [e] at h4; simp at h4) (λw hw=>by
   have:=List.all_eq_true.1 h5 w hw;simp only [qc,Bool.not_eq_true',beq_eq_false_iff_ne] at this;exact ⟨this.1,λe=>this.2 (by rw [e]; rfl)⟩) h6 h7
 ·intro h
  have ne:∀ a:yB,a≠[]->(a.length==0)=false:=λa ha=>by
   rw [beq_eq_false_iff_ne]; exact λe=>ha (List.length_eq_zero_iff.1 e)
  cases h with
  | var r h=>simp [zh1,zx7,plA,bz,h]
  | mon a b ha hb ha0 hb0 h=>simp [zh1,zx7,plA,bz,rz,z01,ha,hb,ha0,hb0,h]
  | del a ha ha0 h h'=>simp [zh1,zx7,plA,bz,rz,zJY,ha,ha0,h,h']
  | abs a ha ha0 h=>simp [zh1,zx7,plA,bz,rz,zJY,ha,ha0,h]
  | tst f l o b hl hi hs hf=>
   have h1:zGJ V l=true:=List.all_eq_true.2 λw hw=>by rw [(hi w hw).1,ne _ (hi w hw).2]; rfl
   have h2:0<l.length:=by
    cases l with
    | nil=>exact absurd rfl hl
    | cons x r=>simp
   simp [zh1,zx7,rz,h1,hs,hf,h2]
theorem zA8 {a:yB} (h:zrZ a=true):a.length<=512/\zbD a<=8/\zW a<=4096/\∀ t∈a,t.Fs.length<=64/\∀ f∈t.Fs,f.Exp<=64/\f.At.Items.length<=1024:=by
 simp only [zrZ,qc,List.all_eq_true,qe] at h;refine ⟨h.1.1.1,h.1.1.2,h.1.2,λt ht=> ?_⟩
 have:=h.2 t ht;simp only [zOT,Bool.not_eq_true',Bool.or_eq_false_iff,decide_eq_false_iff_not,List.any_eq_false] at this;refine ⟨by omega,λf hf=> ?_⟩
 have h2:=this.2 f hf;simp at h2;omega
theorem zW6 {a:yB} {t:Term} (h:t∈a):zcQ t.Fs<=zbD a:=by
 induction a with
 | nil=>cases h
 | cons b r ih=>
  rw [zLc];rcases qd.1 h with rfl | h
  ·omega
  ·have:=ih h; omega
theorem zL9 {l:yC} {f:Fc} (h:f∈l):zmF f.At<=zcQ l:=by
 induction l with
 | nil=>cases h
 | cons b r ih=>
  rw [zqH];rcases qd.1 h with rfl | h
  ·omega
  ·have:=ih h; omega
theorem zKp {l:yA} {a:yB} (h:a∈l):zbD a<=zkR l:=by
 induction l with
 | nil=>cases h
 | cons b r ih=>
  rw [zAV];rcases qd.1 h with rfl | h
  ·omega
  ·have:=ih h; omega
theorem z1i {l:yD} {w:Wd} (h:w∈l):zbD w.Ann<=zjT l:=by
 induction l with
 | nil=>cases h
 | cons b r ih=>
  rw [zyu];rcases qd.1 h with rfl | h
  ·omega
  ·have:=ih h; omega
theorem zAk {f:Int} {l:yD} {o:Int} {b:Value} (h:zIa f l o b=true):(0<=f/\f<=3/\5<=o/\o<=10)/\zAz b=true/\∀ w∈l,zAz w.Value=true/\w.Value.Kind=b.Kind:=by
 simp only [zIa,qc,List.all_eq_true,qe] at h;obtain ⟨⟨⟨⟨⟨⟨h1,h2⟩,h3⟩,h4⟩,h5⟩,h6⟩,h7⟩:=h;refine ⟨⟨h1,h2,h3,h4⟩,h5,λw hw=> ?_⟩
 have:=h7 w hw;simp only [zYI,qc,beq_iff_eq] at this;exact this.1
theorem zWY:∀ (m:Nat) (a:yB),zcX m a=true->zK (zbD a+1) a
 | 0,a,h=>by cases h
 | m+1,a,h=>by
  have hw:=zA8 (zJD h);refine ⟨by omega,λt ht=> ?_⟩
  obtain ⟨_,hok⟩:=zzt h ht;obtain ⟨h1,h2⟩:=hw.2.2.2 t ht;refine ⟨by omega,λf hf=> ?_⟩
  have hv:=zhW.1 (zw2 hok hf).2;have hn:zmF f.At<=zbD a:=Nat.le_trans (zL9 hf) (zW6 ht);have h3:=(h2 f hf).2;generalize f.At=x at hv hn h3;rw [zA1] at hn;have ih:∀ b,zcX m b=true->zbD b+1<=zbD a->zK (zbD a) b:=λb hb hl=>(zWY m b hb).mono hl
  cases hv with
  | var r h=>exact ⟨⟨by simp,by simp,by show (ByteArray.mk #[]).size<=_; decide⟩,λa ha=>(by cases ha),λw hw=>(by cases hw)⟩
  | mon b c hb hc _ _ _=>
   simp only at hn;refine ⟨⟨by simp,by simp,by show (ByteArray.mk #[]).size<=_; decide⟩,λy hy=> ?_,λw hw=>(by cases hw)⟩
   have:=zKp hy;simp only at this;simp only [qd,List.not_mem_nil,or_false] at hy;rcases hy with rfl | rfl
   ·exact ih _ hb (by simp at hn; omega)
   ·exact ih _ hc (by simp at hn; omega)
  | del b hb _ _ _=>
   refine ⟨⟨by simp,by simp,by show (ByteArray.mk #[]).size<=_; decide⟩,λy hy=> ?_,λw hw=>(by cases hw)⟩
   have:=zKp hy;simp only at this;simp only [qd,List.not_mem_nil,or_false] at hy;subst hy;exact ih _ hb (by simp at hn; omega)
  | abs b hb _ _=>
   refine ⟨⟨by simp,by simp,by show (ByteArray.mk #[]).size<=_; decide⟩,λy hy=> ?_,λw hw=>(by cases hw)⟩
   have:=zKp hy;simp only at this;simp only [qd,List.not_mem_nil,or_false] at hy;subst hy;exact ih _ hb (by simp at hn; omega)
  | tst fn l o b hl hi hs hf=>
   obtain ⟨_,hb,hit⟩:=zAk hf;refine ⟨⟨by simp,by simp only at h3 ⊢; omega,by have:=zzN hb; simp only; omega⟩,λy hy=>(by cases hy),λw hw=>⟨by have:=zzN (hit w hw).1; omega, ?_⟩⟩
   have:=z1i hw;simp only at this;exact ih _ (hi w hw).1 (by simp at hn; omega)
theorem zgH {m:Nat} {a:yB} (h:zcX m a=true):zK 9 a/\zW a<=4096/\a.length<=512:=by
 cases m with
 | zero=>cases h
 | succ m=>
 have hw:=zA8 (zJD h);exact ⟨(zWY _ a h).mono (by omega),hw.2.2.1,hw.1⟩
theorem zZ2 {d m m':Nat} {a:yB} (h:zK d a) (hd:d<=100) (h1:d<=m) (h2:d<=m') (hs:zW a<=4611686018427387904):zcX m a=zcX m' a:=by
 have e1:=(zSG 1000).1 d m a h (by omega) h1 hd hs
 have e2:=(zSG 1000).1 d m' a h (by omega) h2 hd hs
 rw [e1] at e2;exact (Prod.mk.injEq _ _ _ _ ▸ e2).2
theorem z6C {m:Nat} {a:yB} (h:zcX m a=true) (hm:9<=m):ze7 a=true:=by
 obtain ⟨h1,h2,h3⟩:=zgH h;rw [<- h]; exact zZ2 h1 (by omega) (by omega) hm (by omega)
theorem z1l {m:Nat} {a:yB} (h:ze7 a=true) (hm:9<=m):zcX m a=true:=by
 obtain ⟨h1,h2,h3⟩:=zgH h;rw [<- h]; exact zZ2 h1 (by omega) hm (by omega) (by omega)
theorem VA.imp {V V':yB->Bool} (hV:∀ a,V a=true->V' a=true) {x:At} (h:VA V x):VA V' x:=by
 cases h with
 | var r h=>exact .var r h
 | mon a b ha hb ha0 hb0 h=>exact .mon a b (hV a ha) (hV b hb) ha0 hb0 h
 | del a ha ha0 h h'=>exact .del a (hV a ha) ha0 h h'
 | abs a ha ha0 h=>exact .abs a (hV a ha) ha0 h
 | tst f l o b hl hi hs hf=>exact .tst f l o b hl (λw hw=>⟨hV _ (hi w hw).1,(hi w hw).2⟩) hs hf
def zAr (x:At):Bool:=zh1 ze7 x
theorem z5v {m:Nat} (hm:9<=m):zh1 (zcX m)=zAr:=by
 funext x
 rw [Bool.eq_iff_iff];unfold zAr;rw [zhW,zhW];exact ⟨VA.imp λa h=>z6C h hm,VA.imp λa h=>z1l h hm⟩
theorem zXl (a:yB):ze7 a=zCx zAr a:=by
 show zCx (zh1 (zcX 99)) a=_;rw [z5v (by omega)]
section
variable (g:yB->Bool×yB) (gx:At->Bool×At)
end
def txV (v:Value):List UInt8:=if v.Kind=0 then zjS v.Int else if v.Kind=1 then 39::(v.Text.data.toList.flatMap esc++[39]) else if v.Int=1 then [84,82,85,69] else [70,65,76,83,69]
def txR (r:RowID):List UInt8:=116::(zjS r.Table++46::zjS r.Seq)
def fnT (f:Int):List UInt8:=if f=0 then [67,79,85,78,84] else if f=1 then [83,85,77] else if f=2 then [77,73,78] else [77,65,88]
def opT (o:Int):List UInt8:=if o=5 then [61] else if o=6 then [60,62] else if o=7 then [60] else if o=8 then [60,61] else if o=9 then [62] else [62,61]
def zXc (ts:List (List UInt8)):List UInt8:=if ts=[] then [48] else zpd ts [32,43,32]
def z1G (c:Int) (fs:List (List UInt8)):List UInt8:=if fs=[] then zjS c else if c=1 then zpd fs [42] else zjS c++42::zpd fs [42]
def z02 (x:List UInt8) (e:Int):List UInt8:=if e=1 then x else x++94::zjS e
def zfc (k:Int) (r:RowID) (xs:List (List UInt8)) (f:Int) (is:List (List UInt8)) (o:Int) (b:Value):List UInt8:=
 if k=0 then txR r
 else if k=1 then [109,111,110,117,115,91]++(xs.getD 0 []++([44,32]++(xs.getD 1 []++[93])))
 else if k=2 then [100,101,108,116,97,91]++(xs.getD 0 []++[93])
 else if k=3 then [97,98,115,101,110,116,91]++(xs.getD 0 []++[93])
 else [116,101,115,116,91]++(fnT f++([123]++(zpd is [59,32]++([125,32]++(opT o++([32]++(txV b++[93])))))))
mutual
def txA:At->List UInt8
 | ⟨k,r,a,f,i,o,b⟩=>zfc k r (z1f a) f (z14 i) o b
def zOW:yC->List (List UInt8)
 | []=>[]
 | ⟨x,e⟩::l=>z02 (txA x) e::zOW l
def zSa:yB->List (List UInt8)
 | []=>[]
 | ⟨c,fs⟩::l=>z1G c (zOW fs)::zSa l
def z1f:yA->List (List UInt8)
 | []=>[]
 | a::l=>zXc (zSa a)::z1f l
def z14:yD->List (List UInt8)
 | []=>[]
 | ⟨v,a⟩::l=>(txV v++([58,32]++zXc (zSa a)))::z14 l
end
def txF (f:Fc):List UInt8:=z02 (txA f.At) f.Exp
def txT (t:Term):List UInt8:=z1G t.Cf (zOW t.Fs)
def txN (a:yB):List UInt8:=zXc (zSa a)
def txI (w:Wd):List UInt8:=txV w.Value++([58,32]++txN w.Ann)
theorem zG8:∀ l,zOW l=l.map txF
 | []=>by rw [zOW]; rfl
 | x::r=>by rw [zOW,zG8 r]; rfl
theorem z2f:∀ l,zSa l=l.map txT
 | []=>by rw [zSa]; rfl
 | x::r=>by rw [zSa,z2f r]; rfl
theorem zyF:∀ l,z1f l=l.map txN
 | []=>by rw [z1f]; rfl
 | x::r=>by rw [z1f,zyF r]; rfl
theorem zVR:∀ l,z14 l=l.map txI
 | []=>by rw [z14]; rfl
 | x::r=>by rw [z14,zVR r]; rfl
def txL (l:yC):List UInt8:=zpd (zOW l) [42]
theorem zr4 {n:Int} (h:wf3 n): -9223372036854775808<=n/\n<=9223372036854775807:=by
 have h:(Lit.int .i64 n).wf=true:=h;have:IntKind.i64.min<=n/\n<=IntKind.i64.max:=by simpa [Lit.wf] using h
 exact ⟨this.1,this.2⟩
def rng (n:Int):Prop:= -9223372036854775808<=n/\n<=9223372036854775807
instance (n:Int):Decidable (rng n):=by unfold rng; infer_instance
theorem z3s {m:Nat} {x:At} (h:zh1 (zcX m) x=true) (hi:x.Items.length<=1024):zj5 x<=4195328:=by
 rw [zli];cases zhW.1 h with
 | var r h=>rw [zoa,zlX]; omega
 | mon a b ha hb _ _ _=>
  have h1:=(zgH ha).2.1; have h2:=(zgH hb).2.1;simp only [zgV,zoa,zlX]; omega
 | del a ha _ _ _=>
  have h1:=(zgH ha).2.1;simp only [zgV,zoa,zlX]; omega
 | abs a ha _ _=>
  have h1:=(zgH ha).2.1;simp only [zgV,zoa,zlX]; omega
 | tst f l o b hl hv hs hf=>
  have h1:∀ l:yD,(∀ w∈l,zW w.Ann<=4096)->zdb l<=l.length*4097:=λl=>by
   induction l with
   | nil=>intro _; rw [zlX]; omega
   | cons w r ih=>
    intro h;have:=h w (by simp)
    have:=ih λw hw=>h w (by simp [hw])
    rw [zio,qf,Nat.add_mul]; omega
  have:=h1 l λw hw=>(zgH (hv w hw).1).2.1
  have:=Nat.mul_le_mul hi (Nat.le_refl 4097);simp only [zoa] at this ⊢; omega
section
variable (gA:At->Bool×ByteArray) (gF:yC->Bool×ByteArray) (gT:yB->Bool×ByteArray)
end
def hd (S:List UInt8) (u:List UInt8):Prop:=∀ c,u.head? =some c->c∈S
theorem zoj {S:List UInt8} {c:UInt8} {u:List UInt8} (h:c∈S):hd S (c::u):=λd hd=>by
 simp only [List.head?_cons,qa] at hd; subst hd; exact h
theorem hd.mono {S T:List UInt8} {u:List UInt8} (h:hd S u) (hs:∀ c∈S,c∈T):hd T u:=λc hc=>hs c (h c hc)
theorem hd.noDig {S:List UInt8} {u:List UInt8} (h:hd S u) (hs:∀ c∈S,zpK c=false):noDig u:=λc hc=>hs c (h c hc)
theorem hd.ne {S:List UInt8} {u:List UInt8} (h:hd S u) {c:UInt8} (hs:c∉S):u.head? ≠some c:=λe=>hs (h c e)
theorem hd.cons_ne {S:List UInt8} {u:List UInt8} {c:UInt8} (h:hd S (c::u)) (hs:c∉S):False:=hs (h c rfl)
theorem zJB {α:Type} (tx:α->List UInt8) (S0:List UInt8) (s0:UInt8) (sr:List UInt8) (P:α->Prop) (hS:s0∉S0) (hR:∀ x y,P x->P y->∀ u v,hd (s0::S0) u->hd (s0::S0) v->tx x++u=tx y++v->x=y/\u=v):
  ∀ l l':List α,l≠[]->l'≠[]->(∀ x∈l,P x)->(∀ x∈l',P x)->∀ u v,hd S0 u->hd S0 v->zpd (l.map tx) (s0::sr)++u=zpd (l'.map tx) (s0::sr)++v->l=l'/\u=v
 | [],_,h,_,_,_,_,_,_,_,_=>absurd rfl h
 | _::_,[],_,h,_,_,_,_,_,_,_=>absurd rfl h
 | [x],[y],_,_,hx,hy,u,v,hu,hv,h=>by
  have mono:∀ c∈S0,c∈s0::S0:=λc hc=>List.mem_cons_of_mem _ hc
  obtain ⟨h1,h2⟩:=hR x y (hx x (by simp)) (hy y (by simp)) u v (hu.mono mono) (hv.mono mono) h
  exact ⟨by rw [h1],h2⟩
 | [x],y::y'::r',_,_,hx,hy,u,v,hu,hv,h=>by
  have mono:∀ c∈S0,c∈s0::S0:=λc hc=>List.mem_cons_of_mem _ hc
  simp only [List.map,zpd,List.append_assoc] at h;obtain ⟨h1,h2⟩:=hR x y (hx x (by simp)) (hy y (by simp)) u _ (hu.mono mono) (zoj (by simp)) h
  rw [h2] at hu;exact (hu.cons_ne hS).elim
 | x::x'::r,[y],_,_,hx,hy,u,v,hu,hv,h=>by
  have mono:∀ c∈S0,c∈s0::S0:=λc hc=>List.mem_cons_of_mem _ hc
  simp only [List.map,zpd,List.append_assoc] at h;obtain ⟨h1,h2⟩:=hR x y (hx x (by simp)) (hy y (by simp)) _ v (zoj (by simp)) (hv.mono mono) h
  rw [<- h2] at hv;exact (hv.cons_ne hS).elim
 | x::x'::r,y::y'::r',_,_,hx,hy,u,v,hu,hv,h=>by
  have h:zpd (((x::x'::r)).map tx) (s0::sr)++u=zpd (((y::y'::r')).map tx) (s0::sr)++v:=h;simp only [List.map,zpd,List.append_assoc] at h;obtain ⟨h1,h2⟩:=hR x y (hx x (by simp)) (hy y (by simp)) _ _ (zoj (by simp)) (zoj (by simp)) h
  have h3:=(List.append_right_inj sr).1 (List.cons.inj h2).2;obtain ⟨h4,h5⟩:=zJB tx S0 s0 sr P hS hR (x'::r) (y'::r') (by simp) (by simp) (λz hz=>hx z (List.mem_cons_of_mem _ hz)) (λz hz=>hy z (List.mem_cons_of_mem _ hz)) u v hu hv h3
  exact ⟨by rw [h1,h4],h5⟩
theorem z00 {t:ByteArray} (h:t.size=0):t=ByteArray.mk #[]:=zEf (by
 have:t.data.toList.length=0:=by rw [Array.length_toList]; exact h
 rw [List.length_eq_zero_iff.1 this])
theorem z1h {x y:Value} (hx:zAz x=true) (hy:zAz y=true) (rx:rng x.Int) (ry:rng y.Int) {u v:List UInt8} (hu:hd [58,93] u) (hv:hd [58,93] v) (h:txV x++u=txV y++v):x=y/\u=v:=by
 have d1:∀ c∈([58,93]:List UInt8),zpK c=false:=by decide
 obtain ⟨cx,sx,ex,dx⟩:=zZO rx.1 rx.2;obtain ⟨cy,sy,ey,dy⟩:=zZO ry.1 ry.2
 have nd:∀ c:UInt8,c=45\/zpK c=true->c≠39/\c≠84/\c≠70:=λc hc=>by
  refine ⟨?_, ?_, ?_⟩ <;>(intro e; subst e; revert hc; decide)
 obtain ⟨kx,ix,tx⟩:=x;obtain ⟨ky,iy,ty⟩:=y;simp only [zAz,Bool.or_eq_true,qc,beq_iff_eq,qe] at hx hy;simp only at rx ry ex ey;rcases hx with (⟨rfl,hx⟩ | ⟨⟨rfl,rfl⟩,hx⟩) | ⟨⟨rfl,hx⟩,hx2⟩
 ·have:=z00 hx; subst this;rcases hy with (⟨rfl,hy⟩ | ⟨⟨rfl,rfl⟩,hy⟩) | ⟨⟨rfl,hy⟩,hy2⟩
  ·have:=z00 hy; subst this;simp only [txV,if_true] at h;obtain ⟨h1,h2⟩:=zs7 rx ry (hu.noDig d1) (hv.noDig d1) h;exact ⟨by rw [h1],h2⟩
  ·simp only [txV,if_true,show ¬ (1:Int)=0 by decide,if_false,ex,List.cons_append,qj] at h
   exact absurd h.1 (nd cx dx).1
  ·rcases hy2 with rfl | rfl
   ·simp only [txV,if_true,show ¬ (2:Int)=0 by decide,show ¬ (2:Int)=1 by decide,show ¬ (0:Int)=1 by decide,if_false,ex,List.cons_append,qj] at h
    exact absurd h.1 (nd cx dx).2.2
   ·simp only [txV,if_true,show ¬ (2:Int)=0 by decide,show ¬ (2:Int)=1 by decide,if_false,ex,List.cons_append,qj] at h
    exact absurd h.1 (nd cx dx).2.1
 ·rcases hy with (⟨rfl,hy⟩ | ⟨⟨rfl,rfl⟩,hy⟩) | ⟨⟨rfl,hy⟩,hy2⟩
  ·simp only [txV,if_true,show ¬ (1:Int)=0 by decide,if_false,ey,List.cons_append,qj] at h
   exact absurd h.1.symm (nd cy dy).1
  ·simp only [txV,if_true,show ¬ (1:Int)=0 by decide,if_false,List.cons_append,qj,true_and,List.append_assoc,List.nil_append] at h
   obtain ⟨h1,h2⟩:=zVT _ _ u v (hu.ne (by decide)) (hv.ne (by decide)) h
   exact ⟨by rw [zEf h1],h2⟩
  ·rcases hy2 with rfl | rfl <;>simp [txV] at h
 ·have:=z00 hx; subst this;rcases hy with (⟨rfl,hy⟩ | ⟨⟨rfl,rfl⟩,hy⟩) | ⟨⟨rfl,hy⟩,hy2⟩
  ·rcases hx2 with rfl | rfl
   ·simp only [txV,if_true,show ¬ (2:Int)=0 by decide,show ¬ (2:Int)=1 by decide,show ¬ (0:Int)=1 by decide,if_false,ey,List.cons_append,qj] at h
    exact absurd h.1.symm (nd cy dy).2.2
   ·simp only [txV,if_true,show ¬ (2:Int)=0 by decide,show ¬ (2:Int)=1 by decide,if_false,ey,List.cons_append,qj] at h
    exact absurd h.1.symm (nd cy dy).2.1
  ·rcases hx2 with rfl | rfl <;>simp [txV] at h
  ·have:=z00 hy; subst this;rcases hx2 with rfl | rfl <;>rcases hy2 with rfl | rfl <;>simp [txV] at h
   ·exact ⟨rfl,h⟩
   ·exact ⟨rfl,h⟩
theorem z7h {f g:Int} (hf:0<=f/\f<=3) (hg:0<=g/\g<=3) {u v:List UInt8} (h:fnT f++123::u=fnT g++123::v):f=g/\u=v:=by
 have c1:f=0\/f=1\/f=2\/f=3:=by omega
 have c2:g=0\/g=1\/g=2\/g=3:=by omega
 rcases c1 with rfl | rfl | rfl | rfl <;>rcases c2 with rfl | rfl | rfl | rfl <;>simp [fnT] at h <;>exact ⟨rfl,h⟩
theorem z6O {f g:Int} (hf:5<=f/\f<=10) (hg:5<=g/\g<=10) {u v:List UInt8} (h:opT f++32::u=opT g++32::v):f=g/\u=v:=by
 have c1:f=5\/f=6\/f=7\/f=8\/f=9\/f=10:=by omega
 have c2:g=5\/g=6\/g=7\/g=8\/g=9\/g=10:=by omega
 rcases c1 with rfl | rfl | rfl | rfl | rfl | rfl <;>rcases c2 with rfl | rfl | rfl | rfl | rfl | rfl <;>simp [opT] at h <;>exact ⟨rfl,h⟩
def SN:List UInt8:=[93,44,59,125]
def ST:List UInt8:=32::SN
def SF:List UInt8:=42::ST
def SA:List UInt8:=94::SF
theorem zX0:∀ c∈SA,zpK c=false:=by decide
theorem zbaV:∀ c∈ST,c∈SA:=by decide
theorem zXg:∀ c∈SF,c∈SA:=by decide
def RdN (V:yB->Bool):Prop:=∀ a b,V a=true->V b=true->zhr a->zhr b->∀ u v,hd SN u->hd SN v->txN a++u=txN b++v->a=b/\u=v
def RdA (V:yB->Bool):Prop:=∀ x y,zh1 V x=true->zh1 V y=true->ziG x->ziG y->∀ u v,hd SA u->hd SA v->txA x++u=txA y++v->x=y/\u=v
theorem z6Z {V:yB->Bool} {x:At} (h:zh1 V x=true):∃ c r,txA x=c::r/\zpK c=false:=by
 cases zhW.1 h with
 | var r h=>rw [txA]; exact ⟨116,_,rfl,rfl⟩
 | mon a b _ _ _ _ _=>rw [txA]; exact ⟨109,_,rfl,rfl⟩
 | del a _ _ _ _=>rw [txA]; exact ⟨100,_,rfl,rfl⟩
 | abs a _ _ _=>rw [txA]; exact ⟨97,_,rfl,rfl⟩
 | tst f l o b _ _ _ _=>rw [txA]; exact ⟨116,_,rfl,rfl⟩
theorem z5F {V:yB->Bool} (hV:RdN V):RdA V:=by
 intro x y hx hy wx wy u v hu hv h;have Wx:=zGb wx;have Wy:=zGb wy;have k0:¬ (1:Int)=0:=by decide
 have c44:∀ z,hd SN (44::z):=λz=>zoj (by decide)
 have c93:∀ z,hd SN (93::z):=λz=>zoj (by decide)
 have tE:∀ (r:RowID),zJN r=true->rng r.Table->∀ w z,zjS r.Table++w≠101::z:=λr hr hg w z e=>by
  simp only [zJN,qc,qe] at hr;obtain ⟨d1,d2⟩:=z6l (show 0<=r.Table by omega) hg.2
  cases hl:zjS r.Table with
  | nil=>exact d2 hl
  | cons c s=>
   rw [hl] at e d1;simp only [List.cons_append,qj] at e;rw [List.all_cons,e.1] at d1;revert d1; simp [zpK]
 cases zhW.1 hx with
 | var r hr=>
  have rr:=Wx.2.2.2.2.1;simp only at rr;cases zhW.1 hy with
  | var r' hr'=>
   have rr':=Wy.2.2.2.2.1;simp only at rr';rw [txA,txA] at h;simp only [zfc,if_true,txR,List.cons_append,qj,true_and,List.append_assoc] at h;obtain ⟨h1,h2⟩:=zs7 (zr4 rr.1) (zr4 rr'.1) (λc hc=>by simp only [List.head?_cons,qa] at hc; subst hc; rfl) (λc hc=>by simp only [List.head?_cons,qa] at hc; subst hc; rfl) h
   simp only [qj,true_and] at h2;obtain ⟨h3,h4⟩:=zs7 (zr4 rr.2) (zr4 rr'.2) (hu.noDig zX0) (hv.noDig zX0) h2;obtain ⟨t,s⟩:=r; obtain ⟨t',s'⟩:=r';simp only at h1 h3;exact ⟨by rw [h1,h3],h4⟩
  | tst f l o b _ _ _ _=>
   rw [txA,txA] at h;simp only [zfc,if_true,txR,show ¬ (4:Int)=0 by decide,show ¬ (4:Int)=1 by decide,show ¬ (4:Int)=2 by decide,show ¬ (4:Int)=3 by decide,if_false,List.cons_append,qj,true_and,List.append_assoc] at h
   exact absurd h (tE r hr (zr4 rr.1) _ _)
  | mon a b _ _ _ _ _=>rw [txA,txA] at h; simp [zfc,txR] at h
  | del a _ _ _ _=>rw [txA,txA] at h; simp [zfc,txR] at h
  | abs a _ _ _=>rw [txA,txA] at h; simp [zfc,txR] at h
 | mon a b ha hb _ _ _=>
  cases zhW.1 hy with
  | mon a' b' ha' hb' _ _ _=>
   rw [txA,txA,zyF,zyF] at h;simp only [zfc,if_true,k0,if_false,List.map,List.getD_cons_zero,List.getD_cons_succ,List.cons_append,qj,true_and,List.append_assoc,List.nil_append] at h;have wa:=λz hz=>(zn4 Wx.1.1 z hz).1
   have wb:=λz hz=>(zn4 Wy.1.1 z hz).1
   obtain ⟨h1,h2⟩:=hV a a' ha ha' (wa a (by simp)) (wb a' (by simp)) _ _ (c44 _) (c44 _) h
   simp only [qj,true_and] at h2;obtain ⟨h3,h4⟩:=hV b b' hb hb' (wa b (by simp)) (wb b' (by simp)) _ _ (c93 _) (c93 _) h2
   simp only [qj,true_and] at h4;exact ⟨by rw [h1,h3],h4⟩
  | var r h=>rw [txA,txA] at h; simp [zfc,txR] at h
  | del a _ _ _ _=>rw [txA,txA] at h; simp [zfc,txR] at h
  | abs a _ _ _=>rw [txA,txA] at h; simp [zfc,txR] at h
  | tst f l o b _ _ _ _=>rw [txA,txA] at h; simp [zfc,txR] at h
 | del a ha _ _ _=>
  cases zhW.1 hy with
  | del a' ha' _ _ _=>
   rw [txA,txA,zyF,zyF] at h;simp only [zfc,if_true,show ¬ (2:Int)=0 by decide,show ¬ (2:Int)=1 by decide,if_false,List.map,List.getD_cons_zero,List.cons_append,qj,true_and,List.append_assoc,List.nil_append] at h
   have wa:=λz hz=>(zn4 Wx.1.1 z hz).1
   have wb:=λz hz=>(zn4 Wy.1.1 z hz).1
   obtain ⟨h1,h2⟩:=hV a a' ha ha' (wa a (by simp)) (wb a' (by simp)) _ _ (c93 _) (c93 _) h
   simp only [qj,true_and] at h2;exact ⟨by rw [h1],h2⟩
  | var r h=>rw [txA,txA] at h; simp [zfc,txR] at h
  | mon a b _ _ _ _ _=>rw [txA,txA] at h; simp [zfc,txR] at h
  | abs a _ _ _=>rw [txA,txA] at h; simp [zfc,txR] at h
  | tst f l o b _ _ _ _=>rw [txA,txA] at h; simp [zfc,txR] at h
 | abs a ha _ _=>
  cases zhW.1 hy with
  | abs a' ha' _ _=>
   rw [txA,txA,zyF,zyF] at h;simp only [zfc,if_true,show ¬ (3:Int)=0 by decide,show ¬ (3:Int)=1 by decide,show ¬ (3:Int)=2 by decide,if_false,List.map,List.getD_cons_zero,List.cons_append,qj,true_and,List.append_assoc,List.nil_append] at h
   have wa:=λz hz=>(zn4 Wx.1.1 z hz).1
   have wb:=λz hz=>(zn4 Wy.1.1 z hz).1
   obtain ⟨h1,h2⟩:=hV a a' ha ha' (wa a (by simp)) (wb a' (by simp)) _ _ (c93 _) (c93 _) h
   simp only [qj,true_and] at h2;exact ⟨by rw [h1],h2⟩
  | var r h=>rw [txA,txA] at h; simp [zfc,txR] at h
  | mon a b _ _ _ _ _=>rw [txA,txA] at h; simp [zfc,txR] at h
  | del a _ _ _ _=>rw [txA,txA] at h; simp [zfc,txR] at h
  | tst f l o b _ _ _ _=>rw [txA,txA] at h; simp [zfc,txR] at h
 | tst f l o b hl hi hs hf=>
  cases zhW.1 hy with
  | tst f' l' o' b' hl' hi' hs' hf'=>
   obtain ⟨⟨f0,f3,o5,o10⟩,hb,hit⟩:=zAk hf;obtain ⟨⟨f0',f3',o5',o10'⟩,hb',hit'⟩:=zAk hf';have wl:=zuR Wx.2.1.1;have wl':=zuR Wy.2.1.1;rw [txA,txA,zVR,zVR] at h;simp only [zfc,show ¬ (4:Int)=0 by decide,show ¬ (4:Int)=1 by decide,show ¬ (4:Int)=2 by decide,show ¬ (4:Int)=3 by decide,if_false,List.cons_append,qj,true_and,List.append_assoc,List.nil_append] at h
   obtain ⟨h1,h2⟩:=z7h ⟨f0,f3⟩ ⟨f0',f3'⟩ h
   obtain ⟨h3,h4⟩:=zJB txI [125] 59 [32] (λw=>(V w.Ann=true/\zhr w.Ann)/\zAz w.Value=true/\rng w.Value.Int) (by decide) (λx y px py u v hu hv e=>by
    simp only [txI,List.append_assoc,List.cons_append,List.nil_append] at e;obtain ⟨e1,e2⟩:=z1h px.2.1 py.2.1 px.2.2 py.2.2 (zoj (by decide)) (zoj (by decide)) e
    simp only [qj,true_and] at e2;obtain ⟨e3,e4⟩:=hV _ _ px.1.1 py.1.1 px.1.2 py.1.2 u v (hu.mono (by decide)) (hv.mono (by decide)) e2
    obtain ⟨vx,ax⟩:=x; obtain ⟨vy,ay⟩:=y;simp only at e1 e3;exact ⟨by rw [e1,e3],e4⟩) l l' hl hl' (λw hw=>⟨⟨(hi w hw).1,(wl w hw).2.1⟩,(hit w hw).1,zr4 (wl w hw).1.2.1⟩) (λw hw=>⟨⟨(hi' w hw).1,(wl' w hw).2.1⟩,(hit' w hw).1,zr4 (wl' w hw).1.2.1⟩) _ _ (zoj (by decide)) (zoj (by decide)) h2
   simp only [qj,true_and] at h4;obtain ⟨h5,h6⟩:=z6O ⟨o5,o10⟩ ⟨o5',o10'⟩ h4;obtain ⟨h7,h8⟩:=z1h hb hb' (zr4 Wx.2.2.1.2.1) (zr4 Wy.2.2.1.2.1) (zoj (by decide)) (zoj (by decide)) h6
   simp only [qj,true_and] at h8;exact ⟨by rw [h1,h3,h5,h7],h8⟩
  | var r hr=>
   have rr:=Wy.2.2.2.2.1;simp only at rr;rw [txA,txA] at h;simp only [zfc,if_true,txR,show ¬ (4:Int)=0 by decide,show ¬ (4:Int)=1 by decide,show ¬ (4:Int)=2 by decide,show ¬ (4:Int)=3 by decide,if_false,List.cons_append,qj,true_and,List.append_assoc] at h
   exact absurd h.symm (tE r hr (zr4 rr.1) _ _)
  | mon a b _ _ _ _ _=>rw [txA,txA] at h; simp [zfc,txR] at h
  | del a _ _ _ _=>rw [txA,txA] at h; simp [zfc,txR] at h
  | abs a _ _ _=>rw [txA,txA] at h; simp [zfc,txR] at h
def gF (V:yB->Bool) (f:Fc):Prop:=zh1 V f.At=true/\ziG f.At/\rng f.Exp
theorem z9Z {V:yB->Bool} (hA:RdA V) {f g:Fc} (hf:gF V f) (hg:gF V g) {u v:List UInt8} (hu:hd SF u) (hv:hd SF v) (h:txF f++u=txF g++v):f=g/\u=v:=by
 obtain ⟨x,e⟩:=f; obtain ⟨y,e'⟩:=g;obtain ⟨a1,a2,a3⟩:=hf; obtain ⟨b1,b2,b3⟩:=hg;simp only at a1 a2 a3 b1 b2 b3;have c94:∀ z,hd SA (94::z):=λz=>zoj (by decide)
 have n94:(94:UInt8)∉SF:=by decide
 have dg:∀ c∈SF,zpK c=false:=λc hc=>zX0 c (zXg c hc)
 unfold txF z02 at h;simp only at h;by_cases h1:e=1
 ·by_cases h2:e'=1
  ·rw [if_pos h1,if_pos h2] at h;obtain ⟨q1,q2⟩:=hA x y a1 b1 a2 b2 u v (hu.mono zXg) (hv.mono zXg) h;exact ⟨by rw [q1,h1,h2],q2⟩
  ·rw [if_pos h1,if_neg h2,List.append_assoc] at h;obtain ⟨q1,q2⟩:=hA x y a1 b1 a2 b2 u _ (hu.mono zXg) (c94 _) h;rw [q2] at hu;exact (hu.cons_ne n94).elim
 ·by_cases h2:e'=1
  ·rw [if_neg h1,if_pos h2,List.append_assoc] at h;obtain ⟨q1,q2⟩:=hA x y a1 b1 a2 b2 _ v (c94 _) (hv.mono zXg) h;rw [<- q2] at hv;exact (hv.cons_ne n94).elim
  ·rw [if_neg h1,if_neg h2,List.append_assoc,List.append_assoc] at h;obtain ⟨q1,q2⟩:=hA x y a1 b1 a2 b2 _ _ (c94 _) (c94 _) h;simp only [List.cons_append,qj,true_and] at q2;obtain ⟨q3,q4⟩:=zs7 a3 b3 (hu.noDig dg) (hv.noDig dg) q2;exact ⟨by rw [q1,q3],q4⟩
theorem zZc {V:yB->Bool} (hA:RdA V) {l l':yC} (hl:l≠[]) (hl':l'≠[]) (h1:∀ f∈l,gF V f) (h2:∀ f∈l',gF V f) {u v:List UInt8} (hu:hd ST u) (hv:hd ST v) (h:txL l++u=txL l'++v):l=l'/\u=v:=by
 unfold txL at h;rw [zG8,zG8] at h;exact zJB txF ST 42 [] (gF V) (by decide) (λx y px py u v hu hv e=>z9Z hA px py hu hv e) l l' hl hl' h1 h2 u v hu hv h
theorem zCw {V:yB->Bool} {l:yC} (hl:l≠[]) (h:∀ f∈l,gF V f):∃ c r,txL l=c::r/\zpK c=false:=by
 cases l with
 | nil=>exact absurd rfl hl
 | cons f r=>
  obtain ⟨c,s,e,hc⟩:=z6Z (h f (by simp)).1
  have:∃ s',txF f=c::s':=by
   unfold txF z02;split
   ·exact ⟨s,e⟩
   ·exact ⟨_,by rw [e]; rfl⟩
  obtain ⟨s',e'⟩:=this;unfold txL;rw [zG8];cases r with
  | nil=>exact ⟨c,s',by simp only [List.map,zpd]; exact e',hc⟩
  | cons g r=>exact ⟨c,_,by simp only [List.map,zpd]; rw [e']; rfl,hc⟩
def gT (V:yB->Bool) (t:Term):Prop:=(1<=t.Cf/\t.Cf<=9223372036854775807)/\∀ f∈t.Fs,gF V f
theorem zZw {n:Int} (h:1<=n) (h2:n<=9223372036854775807):∃ c r,zjS n=c::r/\zpK c=true/\c≠48:=by
 have e:zjS n=Lib.decDigits n.toNat:=by rw [zWn (by omega) h2,Lib.itoa,if_neg (by omega)]
 obtain ⟨a1,a2,a3,a4⟩:=zTA n.toNat n.toNat (Nat.le_refl _);rw [e];cases hl:Lib.decDigits n.toNat with
 | nil=>exact absurd hl a3
 | cons c r=>
  rw [hl] at a1 a4;rw [List.all_cons,qc] at a1;exact ⟨c,r,rfl,a1.1,λe=>a4 (by omega) (by rw [e]; rfl)⟩
theorem z1D {l:yC}:zOW l=[]↔l=[]:=by rw [zG8,List.map_eq_nil_iff]
theorem z13 (t:Term):txT t=if t.Fs=[] then zjS t.Cf else if t.Cf=1 then txL t.Fs else zjS t.Cf++42::txL t.Fs:=by
 unfold txT z1G;by_cases h:t.Fs=[]
 ·rw [if_pos (z1D.2 h),if_pos h]
 ·rw [if_neg (λe=>h (z1D.1 e)),if_neg h]; rfl
theorem zbaq {V:yB->Bool} (hA:RdA V) {s t:Term} (hs:gT V s) (ht:gT V t) {u v:List UInt8} (hu:hd ST u) (hv:hd ST v) (h:txT s++u=txT t++v):s=t/\u=v:=by
 obtain ⟨c,l⟩:=s; obtain ⟨c',l'⟩:=t;obtain ⟨⟨c1,c2⟩,h1⟩:=hs; obtain ⟨⟨c1',c2'⟩,h2⟩:=ht;simp only at c1 c2 h1 c1' c2' h2;have dg:∀ c∈ST,zpK c=false:=λc hc=>zX0 c (zbaV c hc)
 have n42:(42:UInt8)∉ST:=by decide
 have d42:∀ z,noDig (42::z):=λz c hc=>by simp only [List.head?_cons,qa] at hc; subst hc; rfl
 have rc:rng c:=⟨by omega,c2⟩
 have rc':rng c':=⟨by omega,c2'⟩
 obtain ⟨d,r,e,hd,_⟩:=zZw c1 c2;obtain ⟨d',r',e',hd',_⟩:=zZw c1' c2';rw [z13,z13] at h;simp only at h;by_cases l0:l=[]
 ·rw [if_pos l0] at h;by_cases l0':l'=[]
  ·rw [if_pos l0'] at h;obtain ⟨q1,q2⟩:=zs7 rc rc' (hu.noDig dg) (hv.noDig dg) h;exact ⟨by rw [q1,l0,l0'],q2⟩
  ·rw [if_neg l0'] at h;by_cases k':c'=1
   ·rw [if_pos k'] at h;obtain ⟨d2,r2,e2,hd2⟩:=zCw l0' h2;rw [e,e2] at h;simp only [List.cons_append,qj] at h;rw [h.1,hd2] at hd; cases hd
   ·rw [if_neg k',List.append_assoc] at h;obtain ⟨q1,q2⟩:=zs7 rc rc' (hu.noDig dg) (d42 _) h;rw [q2] at hu;exact (hu.cons_ne n42).elim
 ·rw [if_neg l0] at h;by_cases k:c=1
  ·rw [if_pos k] at h;obtain ⟨d2,r2,e2,hd2⟩:=zCw l0 h1;by_cases l0':l'=[]
   ·rw [if_pos l0',e2,e'] at h;simp only [List.cons_append,qj] at h;rw [<- h.1,hd2] at hd'; cases hd'
   ·rw [if_neg l0'] at h;by_cases k':c'=1
    ·rw [if_pos k'] at h;obtain ⟨q1,q2⟩:=zZc hA l0 l0' h1 h2 hu hv h;exact ⟨by rw [q1,k,k'],q2⟩
    ·rw [if_neg k',e2,e'] at h;simp only [List.cons_append,qj] at h;rw [<- h.1,hd2] at hd'; cases hd'
  ·rw [if_neg k,List.append_assoc] at h;by_cases l0':l'=[]
   ·rw [if_pos l0'] at h;obtain ⟨q1,q2⟩:=zs7 rc rc' (d42 _) (hv.noDig dg) h;rw [<- q2] at hv;exact (hv.cons_ne n42).elim
   ·rw [if_neg l0'] at h;by_cases k':c'=1
    ·rw [if_pos k'] at h;obtain ⟨d2,r2,e2,hd2⟩:=zCw l0' h2;rw [e,e2] at h;simp only [List.cons_append,qj] at h;rw [h.1,hd2] at hd; cases hd
    ·rw [if_neg k',List.append_assoc] at h;obtain ⟨q1,q2⟩:=zs7 rc rc' (d42 _) (d42 _) h;simp only [List.cons_append,qj,true_and] at q2;obtain ⟨q3,q4⟩:=zZc hA l0 l0' h1 h2 hu hv q2;exact ⟨by rw [q1,q3],q4⟩
theorem z7t {V:yB->Bool} {t:Term} (ht:gT V t):∃ c r,txT t=c::r/\c≠48:=by
 obtain ⟨⟨c1,c2⟩,h1⟩:=ht;obtain ⟨d,r,e,hd,h48⟩:=zZw c1 c2;rw [z13];by_cases l0:t.Fs=[]
 ·rw [if_pos l0]; exact ⟨d,r,e,h48⟩
 ·rw [if_neg l0];split
  ·obtain ⟨d2,r2,e2,hd2⟩:=zCw l0 h1;exact ⟨d2,r2,e2,λe=>by rw [e] at hd2; revert hd2; decide⟩
  ·exact ⟨d,_,by rw [e]; rfl,h48⟩
theorem z9K {V:yB->Bool} (hA:RdA V) {a b:yB} (ha:∀ t∈a,gT V t) (hb:∀ t∈b,gT V t) {u v:List UInt8} (hu:hd SN u) (hv:hd SN v) (h:txN a++u=txN b++v):a=b/\u=v:=by
 have en:∀ z:yB,z≠[]->txN z=zpd (z.map txT) [32,43,32]:=λz hz=>by
  unfold txN zXc; rw [z2f,if_neg (by simpa using hz)]
 have e0:txN []=[48]:=by unfold txN zXc; rw [zSa,if_pos rfl]
 have h48:∀ z:yB,z≠[]->(∀ t∈z,gT V t)->∃ c r,txN z=c::r/\c≠48:=λz hz hg=>by
  rw [en z hz];cases z with
  | nil=>exact absurd rfl hz
  | cons t r=>
   obtain ⟨c,s,e,hc⟩:=z7t (hg t (by simp))
   cases r with
   | nil=>exact ⟨c,s,by simp only [List.map,zpd]; exact e,hc⟩
   | cons t' r=>exact ⟨c,_,by simp only [List.map,zpd]; rw [e]; rfl,hc⟩
 by_cases a0:a=[]
 ·by_cases b0:b=[]
  ·rw [a0,b0] at h;exact ⟨by rw [a0,b0],List.append_cancel_left h⟩
  ·obtain ⟨c,r,e,hc⟩:=h48 b b0 hb;rw [a0,e0,e] at h;simp only [List.cons_append,qj] at h;exact absurd h.1.symm hc
 ·by_cases b0:b=[]
  ·obtain ⟨c,r,e,hc⟩:=h48 a a0 ha;rw [b0,e0,e] at h;simp only [List.cons_append,qj] at h;exact absurd h.1 hc
  ·rw [en a a0,en b b0] at h;exact zJB txT SN 32 [43,32] (gT V) (by decide) (λx y px py u v hu hv e=>zbaq hA px py hu hv e) a b a0 b0 ha hb u v hu hv h
theorem z7x:∀ m,RdN (zcX m)/\RdA (zcX m):=by
 intro m;induction m with
 | zero=>
  have:RdN (zcX 0):=λa b ha=>by cases ha
  exact ⟨this,z5F this⟩
 | succ m ih=>
  have:RdN (zcX (m+1)):=λa b ha hb wa wb u v hu hv h=>by
   have key:∀ z,zcX (m+1) z=true->zhr z->∀ t∈z,gT (zcX m) t:=λz hz wz t ht=>by
    obtain ⟨⟨c1,c2⟩,hok⟩:=zzt hz ht;have hwt:=zug (zAO (zwA wz t ht)).2.1;exact ⟨⟨c1,by omega⟩,λf hf=>⟨(zw2 hok hf).2,(zv7 (hwt f hf)).1,zr4 (zv7 (hwt f hf)).2⟩⟩
   exact z9K ih.2 (key a ha wa) (key b hb wb) hu hv h
  exact ⟨this,z5F this⟩
theorem z9m {m:Nat} {l l':yC} (h1:∀ f∈l,gF (zcX m) f) (h2:∀ f∈l',gF (zcX m) f) (h:txL l=txL l'):l=l':=by
 have e0:txL []=[]:=by unfold txL; rw [zOW]; rfl
 by_cases l0:l=[]
 ·by_cases l0':l'=[]
  ·rw [l0,l0']
  ·obtain ⟨c,r,e,_⟩:=zCw l0' h2;rw [l0,e0,e] at h; cases h
 ·by_cases l0':l'=[]
  ·obtain ⟨c,r,e,_⟩:=zCw l0 h1;rw [l0',e0,e] at h; cases h
  ·exact (zZc (z7x m).2 l0 l0' h1 h2 (u:=[]) (v:=[]) (λc hc=>by cases hc) (λc hc=>by cases hc) (by rw [h])).1
def zT2 (a b:Int):Int:=if 1152921504606846976<a+b then 1152921504606846976 else a+b
def cT (x y:Term):Int:=zbw (zb6 x.Fs) (zb6 y.Fs)
theorem zY3 {x y:Term} (h:cT x y=0):x.Fs=y.Fs:=zEY _ _ (zGH _ _ h)
theorem zNm {x y:Term} (h:x.Fs=y.Fs):cT x y=0:=by unfold cT; rw [h]; exact zR6 _
def zoH (t:Term):yB->yB
 | []=>[t]
 | x::r=>if cT x t<0 then x::zoH t r else if cT x t=0 then ⟨zT2 x.Cf t.Cf,t.Fs⟩::r else t::x::r
abbrev Srs (l:yB):Prop:=l.Pairwise λx y=>cT x y<0
abbrev Dst (l:yB):Prop:=l.Pairwise λx y=>x.Fs≠y.Fs
theorem Srs.dst {l:yB} (h:Srs l):Dst l:=h.imp λ{x y} hxy e=>by rw [zNm e] at hxy; omega
def SM (l:yB) (t y:Term):Prop:=(y∈l/\y.Fs≠t.Fs)\/(y.Fs=t.Fs/\((∃ x∈l,x.Fs=t.Fs/\y.Cf=zT2 x.Cf t.Cf)\/((∀ x∈l,x.Fs≠t.Fs)/\y.Cf=t.Cf)))
theorem z3W {x y:Term} (h1:x.Cf=y.Cf) (h2:x.Fs=y.Fs):x=y:=by cases x; cases y; simp_all
theorem zOk {x y z:Term} (h1:cT x y<0) (h2:cT y z<0):cT x z<0:=z0G h1 h2
theorem z3H (x y:Term):cT y x= - cT x y:=zDt _ _
theorem z4h {x t y:Term} {r:yB} (hx:x.Fs≠t.Fs) (hr:∀ z∈r,x.Fs≠z.Fs):SM (x::r) t y↔y=x\/SM r t y:=by
 unfold SM;constructor
 ·rintro (⟨h1,h2⟩ | ⟨h1,⟨z,hz,h2,h3⟩ | ⟨h2,h3⟩⟩)
  ·rcases qd.1 h1 with rfl | h1
   ·exact .inl rfl
   ·exact .inr (.inl ⟨h1,h2⟩)
  ·rcases qd.1 hz with rfl | hz
   ·exact absurd h2 hx
   ·exact .inr (.inr ⟨h1,.inl ⟨z,hz,h2,h3⟩⟩)
  ·exact .inr (.inr ⟨h1,.inr ⟨λz hz=>h2 z (by simp [hz]),h3⟩⟩)
 ·rintro (rfl | ⟨h1,h2⟩ | ⟨h1,⟨z,hz,h2,h3⟩ | ⟨h2,h3⟩⟩)
  ·exact .inl ⟨by simp,hx⟩
  ·exact .inl ⟨by simp [h1],h2⟩
  ·exact .inr ⟨h1,.inl ⟨z,by simp [hz],h2,h3⟩⟩
  ·exact .inr ⟨h1,.inr ⟨λz hz=>by
    rcases qd.1 hz with rfl | hz
    ·exact hx
    ·exact h2 z hz,h3⟩⟩
theorem z3M {t y:Term} {l:yB} (h:∀ z∈l,z.Fs≠t.Fs):SM l t y↔y=t\/y∈l:=by
 unfold SM;constructor
 ·rintro (⟨h1,h2⟩ | ⟨h1,⟨z,hz,h2,h3⟩ | ⟨h2,h3⟩⟩)
  ·exact .inr h1
  ·exact absurd h2 (h z hz)
  ·exact .inl (z3W h3 h1)
 ·rintro (rfl | h1)
  ·exact .inr ⟨rfl,.inr ⟨h,rfl⟩⟩
  ·exact .inl ⟨h1,h y h1⟩
theorem z95 {x t y:Term} {r:yB} (hx:x.Fs=t.Fs) (hr:∀ z∈r,z.Fs≠t.Fs):SM (x::r) t y↔y=⟨zT2 x.Cf t.Cf,t.Fs⟩\/y∈r:=by
 unfold SM;constructor
 ·rintro (⟨h1,h2⟩ | ⟨h1,⟨z,hz,h2,h3⟩ | ⟨h2,h3⟩⟩)
  ·rcases qd.1 h1 with rfl | h1
   ·exact absurd hx h2
   ·exact .inr h1
  ·rcases qd.1 hz with rfl | hz
   ·exact .inl (z3W h3 h1)
   ·exact absurd h2 (hr z hz)
  ·exact absurd hx (h2 x (by simp))
 ·rintro (rfl | h1)
  ·exact .inr ⟨rfl,.inl ⟨x,by simp,hx,rfl⟩⟩
  ·exact .inl ⟨by simp [h1],hr y h1⟩
theorem zT4 {t y:Term}:∀ {l:yB},Srs l->(y∈zoH t l↔SM l t y)
 | [],_=>by rw [z3M (by simp)]; simp [zoH]
 | x::r,h=>by
  have hc:=qi.1 h;have hd:=qi.1 h.dst;unfold zoH;by_cases h1:cT x t<0
  ·rw [if_pos h1,qd,z4h (λe=>by rw [zNm e] at h1; omega) hd.1,zT4 hc.2]
  ·rw [if_neg h1];by_cases h2:cT x t=0
   ·rw [if_pos h2,List.mem_cons,z95 (zY3 h2) λz hz e=>by
     have:=hc.1 z hz; rw [zNm ((zY3 h2).trans e.symm)] at this; omega]
   ·rw [if_neg h2,z3M λz hz e=>by
     have a:=z3H x t;rcases qd.1 hz with rfl | hz
     ·exact h2 (zNm e)
     ·have b:=zOk (show cT t x<0 by omega) (hc.1 z hz)
      rw [zNm e.symm] at b; omega]
    rw [qd]
theorem zUa {t:Term}:∀ {l:yB},Srs l->Srs (zoH t l)
 | [],_=>by simp [zoH]
 | x::r,h=>by
  have hc:=qi.1 h;unfold zoH;by_cases h1:cT x t<0
  ·rw [if_pos h1];refine qi.2 ⟨λz hz=> ?_,zUa hc.2⟩
   rcases (zT4 hc.2).1 hz with ⟨h2,_⟩ | ⟨h2,_⟩
   ·exact hc.1 z h2
   ·have:cT x z=cT x t:=by unfold cT; rw [h2]
    rw [this]; exact h1
  ·rw [if_neg h1];by_cases h2:cT x t=0
   ·rw [if_pos h2];refine qi.2 ⟨λz hz=> ?_,hc.2⟩
    have:=hc.1 z hz;unfold cT at this ⊢;rw [<- zY3 h2]; exact this
   ·rw [if_neg h2];have a:=z3H x t;refine qi.2 ⟨λz hz=> ?_,h⟩
    rcases qd.1 hz with rfl | hz
    ·omega
    ·exact zOk (show cT t x<0 by omega) (hc.1 z hz)
def ztO (a b:yB):yB:=b.foldl (λa t=>zoH t a) a
theorem z3R:∀ (b a:yB),Srs a->Srs (ztO a b)
 | [],_,h=>h
 | t::r,a,h=>z3R r (zoH t a) (zUa h)
theorem z1q {t:Term}:∀ {l:yB},(∀ x∈l,cT x t<0)->zoH t l=l++[t]
 | [],_=>rfl
 | x::r,h=>by
  unfold zoH;rw [if_pos (h x (by simp)),z1q λy hy=>h y (by simp [hy])]; rfl
theorem z3Y:∀ (r l:yB),Srs (l++r)->ztO l r=l++r
 | [],l,_=>by simp [ztO]
 | t::r,l,h=>by
  have e:ztO l (t::r)=ztO (zoH t l) r:=rfl;have hp:=List.pairwise_append.1 h;rw [e,z1q λx hx=>hp.2.2 x hx t (by simp),z3Y r (l++[t]) (by simpa using h)]
  simp
theorem z9j {a:yB} (h:Srs a):ztO [] a=a:=z3Y a [] h
theorem zMz {y:Term}:∀ (b a:yB),Srs a->y∈ztO a b->∃ x,(x∈a\/x∈b)/\y.Fs=x.Fs
 | [],a,_,h=>⟨y,.inl h,rfl⟩
 | t::r,a,hs,h=>by
  obtain ⟨x,hx,e⟩:=zMz r (zoH t a) (zUa hs) h;rcases hx with hx | hx
  ·rcases (zT4 hs).1 hx with ⟨h1,_⟩ | ⟨h1,_⟩
   ·exact ⟨x,.inl h1,e⟩
   ·exact ⟨t,.inr (by simp),e.trans h1⟩
  ·exact ⟨x,.inr (by simp [hx]),e⟩
theorem z5Q {a b:Int} (ha:1<=a) (hb:1<=b):1<=zT2 a b/\zT2 a b<=1152921504606846976:=by
 unfold zT2;split
 ·omega
 ·omega
def cOK (t:Term):Prop:=1<=t.Cf/\t.Cf<=1152921504606846976
theorem z4W {t:Term} (ht:cOK t):∀ {l:yB},(∀ x∈l,cOK x)->∀ x∈zoH t l,cOK x
 | [],_,x,hx=>by simp only [zoH,qh] at hx; subst hx; exact ht
 | y::r,h,x,hx=>by
  unfold zoH at hx;split at hx
  ·rcases qd.1 hx with rfl | hx
   ·exact h _ (by simp)
   ·exact z4W ht (λz hz=>h z (by simp [hz])) x hx
  ·split at hx
   ·rcases qd.1 hx with rfl | hx
    ·exact z5Q (h y (by simp)).1 ht.1
    ·exact h x (by simp [hx])
   ·rcases qd.1 hx with rfl | hx
    ·exact ht
    ·exact h x hx
theorem z7Z:∀ (b:yB) {a:yB},(∀ x∈a,cOK x)->(∀ x∈b,cOK x)->∀ x∈ztO a b,cOK x
 | [],a,ha,_=>ha
 | t::r,a,ha,hb=>z7Z r (z4W (hb t (by simp)) ha) λx hx=>hb x (by simp [hx])
theorem z3y {t:Term}:∀ (l:yB),(zoH t l).length<=l.length+1
 | []=>by simp [zoH]
 | x::r=>by
  have:=z3y (t:=t) r;unfold zoH;split
  ·simp only [qf]; omega
  ·split <;>simp
theorem zY0:∀ (b a:yB),(ztO a b).length<=a.length+b.length
 | [],a=>by simp [ztO]
 | t::r,a=>by
  have h1:=zY0 r (zoH t a);have h2:=z3y (t:=t) a;show (ztO (zoH t a) r).length<=_;simp only [qf]; omega
def cF (x y:Fc):Int:=zbE (zgf x.At) (zgf y.At)
theorem z8O {x y:Fc} (h:cF x y=0):x.At=y.At:=zW5 _ _ (zzm _ _ h)
theorem z9l (x y:Fc):cF y x= - cF x y:=zzH _ _
theorem z0w {a b c:TT} (h1:zbE a b<0) (h2:zbE b c<0):zbE a c<0:=by
 have h:=zXL a b c (by omega) (by omega)
 by_cases e:zbE a c=0
 ·have e':=zzm a c e;subst e';have:=zzH a b;omega
 ·omega
theorem zPz {x y z:Fc} (h1:cF x y<0) (h2:cF y z<0):cF x z<0:=z0w h1 h2
abbrev Srf (l:yC):Prop:=l.Pairwise λx y=>cF x y<0
def zdK:yC->yC->yC
 | [],b=>b
 | x::a,[]=>x::a
 | x::a,y::b=>if cF x y<0 then x::zdK a (y::b) else if 0<cF x y then y::zdK (x::a) b else (if x.At.Kind=3\/x.At.Kind=4 then x else ⟨x.At,x.Exp+y.Exp⟩)::zdK a b
termination_by a b=>a.length+b.length
theorem z5P (a:yC):zdK a []=a:=by cases a <;>rw [zdK]
def eOK (f:Fc):Prop:=(0<=f.At.Kind/\f.At.Kind<=4)/\(f.At.Kind=3\/f.At.Kind=4->f.Exp=1)
theorem ztA {x:Fc}:∀ {a b:yC},x∈zdK a b->∃ y,(y∈a\/y∈b)/\x.At=y.At
 | [],b,h=>⟨x,.inr (by rwa [zdK] at h),rfl⟩
 | y::a,[],h=>⟨x,.inl (by rwa [zdK] at h),rfl⟩
 | y::a,z::b,h=>by
  rw [zdK] at h;split at h
  ·rcases qd.1 h with rfl | h
   ·exact ⟨x,.inl (by simp),rfl⟩
   ·obtain ⟨w,hw,e⟩:=ztA h;rcases hw with hw | hw
    ·exact ⟨w,.inl (by simp [hw]),e⟩
    ·exact ⟨w,.inr hw,e⟩
  ·split at h
   ·rcases qd.1 h with rfl | h
    ·exact ⟨x,.inr (by simp),rfl⟩
    ·obtain ⟨w,hw,e⟩:=ztA h;rcases hw with hw | hw
     ·exact ⟨w,.inl hw,e⟩
     ·exact ⟨w,.inr (by simp [hw]),e⟩
   ·rcases qd.1 h with rfl | h
    ·exact ⟨y,.inl (by simp),by split <;>rfl⟩
    ·obtain ⟨w,hw,e⟩:=ztA h;rcases hw with hw | hw
     ·exact ⟨w,.inl (by simp [hw]),e⟩
     ·exact ⟨w,.inr (by simp [hw]),e⟩
termination_by a b=>a.length+b.length
theorem zOM:∀ (a b:yC),(zdK a b).length<=a.length+b.length
 | [],b=>by rw [zdK]; simp
 | y::a,[]=>by rw [zdK]; simp
 | y::a,z::b=>by
  rw [zdK];split
  ·have:=zOM a (z::b); simp only [qf] at this ⊢; omega
  ·split
   ·have:=zOM (y::a) b; simp only [qf] at this ⊢; omega
   ·have:=zOM a b; simp only [qf] at this ⊢; omega
termination_by a b=>a.length+b.length
theorem zOE {x:Fc} {B:Int}:∀ {a b:yC},(∀ y∈a,1<=y.Exp/\y.Exp<=B)->(∀ y∈b,1<=y.Exp/\y.Exp<=B)->x∈zdK a b->1<=x.Exp/\x.Exp<=2*B
 | [],b,ha,hb,h=>by rw [zdK] at h; have:=hb x h; omega
 | y::a,[],ha,hb,h=>by rw [zdK] at h; have:=ha x h; omega
 | y::a,z::b,ha,hb,h=>by
  have hy:=ha y (by simp)
  have hz:=hb z (by simp)
  rw [zdK] at h;split at h
  ·rcases qd.1 h with rfl | h
   ·omega
   ·exact zOE (λw hw=>ha w (by simp [hw])) hb h
  ·split at h
   ·rcases qd.1 h with rfl | h
    ·omega
    ·exact zOE ha (λw hw=>hb w (by simp [hw])) h
   ·rcases qd.1 h with rfl | h
    ·split
     ·omega
     ·simp only; omega
    ·exact zOE (λw hw=>ha w (by simp [hw])) (λw hw=>hb w (by simp [hw])) h
termination_by a b=>a.length+b.length
def zMN (a b:Int):Int:=if Int.tdiv 1152921504606846976 b<a then 1152921504606846976 else a*b
def zPJ (x y:Term):Term:=⟨zMN x.Cf y.Cf,zdK x.Fs y.Fs⟩
def zv8 (a b:yB):yB:=a.flatMap λx=>b.map (zPJ x)
def zF8 (a b:yB):yB:=ztO [] (zv8 a b)
theorem z4l {a b:Int} (ha:1<=a/\a<=1152921504606846976) (hb:1<=b/\b<=1152921504606846976):(1<=zMN a b/\zMN a b<=1152921504606846976)/\(¬ Int.tdiv 1152921504606846976 b<a->a*b<=1152921504606846976):=by
 have h1:¬ Int.tdiv 1152921504606846976 b<a->a*b<=1152921504606846976:=λh=>by
  rw [Int.tdiv_eq_ediv_of_nonneg (by omega)] at h
  have h2:a<=1152921504606846976 / b:=by omega
  exact (Int.le_ediv_iff_mul_le (by omega)).1 h2
 refine ⟨?_,h1⟩;unfold zMN;split
 ·omega
 ·rename_i h;refine ⟨?_,h1 h⟩;have:=Int.mul_le_mul ha.1 hb.1 (by omega) (by omega)
  omega
theorem zZG {t:Term} {a b:yB} (h:t∈zv8 a b):∃ x∈a,∃ y∈b,t=zPJ x y:=by
 obtain ⟨x,hx,ht⟩:=List.mem_flatMap.1 h;obtain ⟨y,hy,rfl⟩:=List.mem_map.1 ht;exact ⟨x,hx,y,hy,rfl⟩
theorem z6s (a b:yB):(zv8 a b).length=a.length*b.length:=by
 unfold zv8;induction a with
 | nil=>simp
 | cons x r ih=>rw [List.flatMap_cons,qg,ih,List.length_map,qf,Nat.add_mul]; omega
end Go.Proofs.YtoknknbmfmddbaaGreatDoor
end
