/- Texts of this claim, joined (the program, its functions in plain words, and what they compute). -/
import Derived.Test.YtddkaehkimnklaaGreatDoorGC5
import Derived.Test.YtddkaehkimnklaaGreatDoorGC1
import Derived.Test.YtddkaehkimnklaaGreatDoorGA3
import Derived.Test.YtddkaehkimnklaaGreatDoorGC4
set_option autoImplicit false
set_option linter.unusedVariables false
set_option linter.unusedSectionVars false
set_option linter.unusedSimpArgs false
set_option maxRecDepth 1000000
set_option maxHeartbeats 0
/- The reference's estimate of a condition. -/
noncomputable section
namespace Go.Proofs.YtddkaehkimnklaaGreatDoor
open Go Go.Ab
theorem zkp {s:Stats} {k:Int} (h:hasP s k=true):((k.toNat:Nat):Int)=k∧k.toNat<s.Columns.length:=by
 have:=zAe.1 h; omega
theorem zwt {s:Stats} (h:okS s=true) {k:Int} (hk:hasP s k=true) (v:Value):zkV s k v=(true,eqP s k.toNat v):=by
 have:=zkp hk
 rw [← zxK h this.2,this.1]
theorem zn1 {s:Stats} (h:okS s=true) (op:Int) {k:Int} (hk:hasP s k=true) (v:Value):zg1 s op k v=(true,zmT s op k.toNat v):=by
 have:=zkp hk
 rw [← zCq h op this.2,this.1]
theorem zCs {s:Stats} (h:okS s=true) (op:Int) {a b:Int} (ha:hasP s a=true) (hb:hasP s b=true):zkl s op a b=(true,zpP s op a.toNat b.toNat):=by
 have h1:=zkp ha
 have h2:=zkp hb
 rw [← zDe h op h1.2 h2.2,h1.1,h2.1]
section
variable (g:Stats→Scalar→Bool×Int) {s:Stats} (h:okS s=true) (e x y:Scalar)
def has1 (s:Stats) (x:Scalar):Prop:=x.Kind=1→hasP s x.Column=true
include h
theorem zLy (hx:has1 s x) (hy:has1 s y):zmC g 1 s e x y=(true,if x.Kind=1∧y.Kind=1 then zpP s e.Op x.Column.toNat y.Column.toNat else 333):=by
 show (zmh g s e x y).ev (zN (zi5 g) default 0) (fun r=>(true,r)) (false,default)=_
 unfold zmh
 simp only [Wy.ev_i,Wy.ev_k,Wy.ev_bn,beqd]
 by_cases h1:x.Kind=1
 ·by_cases h2:y.Kind=1
  ·rw [zCs h _ (hx h1) (hy h2)]
   simp [h1,h2]
  ·simp [h1,h2]
 ·simp [h1]
theorem zLx (hx:has1 s x) (hy:has1 s y):zmw g 1 s e x y=(true,if x.Kind=0∧y.Kind=1 then zmT s (mirP e.Op) y.Column.toNat x.Value else if x.Kind=1∧y.Kind=1 then zpP s e.Op x.Column.toNat y.Column.toNat else 333):=by
 show (zmr g s e x y).ev (zN (zjl g) default 0) (fun r=>(true,r)) (false,default)=_
 unfold zmr
 simp only [Wy.ev_i,Wy.ev_k,Wy.ev_bn,beqd,Scalar.eta,zLy g h e x y hx hy,zDH,cond_true]
 by_cases h1:x.Kind=0
 ·by_cases h2:y.Kind=1
  ·rw [zn1 h _ (hy h2)]
   simp [h1,h2]
  ·simp [h1,h2]
 ·simp [h1]
theorem zLs (hx:has1 s x) (hy:has1 s y):zfK g 1 s e x y=(true,if x.Kind=1∧y.Kind=0 then zmT s e.Op x.Column.toNat y.Value else if x.Kind=0∧y.Kind=1 then zmT s (mirP e.Op) y.Column.toNat x.Value else if x.Kind=1∧y.Kind=1 then zpP s e.Op x.Column.toNat y.Column.toNat else 333):=by
 show (zmf g s e x y).ev (zN (zjf g) default 0) (fun r=>(true,r)) (false,default)=_
 unfold zmf
 simp only [Wy.ev_i,Wy.ev_k,Wy.ev_bn,beqd,Scalar.eta,zLx g h e x y hx hy,cond_true]
 by_cases h1:x.Kind=1
 ·by_cases h2:y.Kind=0
  ·rw [zn1 h _ (hx h1)]
   simp [h1,h2]
  ·simp [h1,h2]
 ·simp [h1]
theorem zLe:zrZ g 1 s e x y=(true,if e.Op<5∨e.Op>10 then 333 else cmpP s e.Op x y):=by
 show (zmz g s e x y).ev (zN (zjh g) default 0) (fun r=>(true,r)) (false,default)=_
 unfold zmz
 simp only [Wy.ev_i,Wy.ev_k,Wy.ev_bn,beqd,Scalar.eta,zBi,cond_true]
 by_cases h1:e.Op<5
 ·simp [h1]
 ·by_cases h2:e.Op>10
  ·simp [h1,h2]
  ·have hor:¬ (e.Op<5∨e.Op>10):=by omega
   rw [decide_eq_false h1,decide_eq_false h2,if_neg hor]
   simp only [cond_false]
   have key:(hx:has1 s x)→(hy:has1 s y)→zfK g 1 s e x y=(true,cmpP s e.Op x y):=fun hx hy=>by
    rw [zLs g h e x y hx hy]
    unfold cmpP
    have hn:¬ ((x.Kind=1∧hasP s x.Column=false)∨(y.Kind=1∧hasP s y.Column=false)):=by
     rintro (⟨a,b⟩ | ⟨a,b⟩)
     ·rw [hx a] at b; cases b
     ·rw [hy a] at b; cases b
    rw [if_neg hn]
   by_cases k1:x.Kind=1
   ·rw [decide_eq_true k1]
    cases hx:hasP s x.Column with
    | false=>
     unfold cmpP
     rw [if_pos (show (x.Kind=1∧hasP s x.Column=false)∨(y.Kind=1∧hasP s y.Column=false) from .inl ⟨k1,hx⟩)]; rfl
    | true=>
     by_cases k2:y.Kind=1
     ·rw [decide_eq_true k2]
      cases hy:hasP s y.Column with
      | false=>
       unfold cmpP
       rw [if_pos (show (x.Kind=1∧hasP s x.Column=false)∨(y.Kind=1∧hasP s y.Column=false) from .inr ⟨k2,hy⟩)]; rfl
      | true=>rw [key (fun _=>hx) (fun _=>hy)]; rfl
     ·rw [key (fun _=>hx) (fun k=>absurd k k2),decide_eq_false k2]; rfl
   ·rw [decide_eq_false k1]
    by_cases k2:y.Kind=1
    ·rw [decide_eq_true k2]
     cases hy:hasP s y.Column with
     | false=>
      unfold cmpP
      rw [if_pos (show (x.Kind=1∧hasP s x.Column=false)∨(y.Kind=1∧hasP s y.Column=false) from .inr ⟨k2,hy⟩)]; rfl
     | true=>rw [key (fun k=>absurd k k1) (fun _=>hy)]; rfl
    ·rw [key (fun k=>absurd k k1) (fun k=>absurd k k2),decide_eq_false k2]; rfl
omit h in
theorem wmul {a b:Int} (ha:0≤a∧a≤1000) (hb:0≤b∧b≤1000):IntKind.i64.wrap ((IntKind.i64.wrap (a*b)).tdiv (1000:Int))=(a*b).tdiv 1000:=by
 have:=zEH ha hb
 rw [zkj (z:=a*b) (by omega) (by omega),zkj (by omega) (by omega)]
omit h in
theorem wsum {a b:Int} (ha:0≤a∧a≤1000) (hb:0≤b∧b≤1000):IntKind.i64.wrap (IntKind.i64.wrap (a+b) - IntKind.i64.wrap ((IntKind.i64.wrap (a*b)).tdiv (1000:Int)))=a+b - (a*b).tdiv 1000:=by
 have:=zEH ha hb
 rw [wmul ha hb,zkj (z:=a+b) (by omega) (by omega),zkj (by omega) (by omega)]
theorem zJt (n:Nat) (hg:∀ z∈e.Args,g s z=(true,estP s n z)):zjN g s e=(true,estP s (n+1) e):=by
 have hr:=zvy h n
 have l18:∀ x∈e.Args,∀ y∈e.Args,zrQ g 1 s e x y=(true,if e.Op=12 then estP s n x+estP s n y - Int.tdiv (estP s n x*estP s n y) 1000 else if e.Op<5∨e.Op>10 then 333 else cmpP s e.Op x y):=fun x hx y hy=>by
  show (zmv g s e x y).ev (zN (zjs g) default 0) (fun r=>(true,r)) (false,default)=_
  unfold zmv
  simp only [Wy.ev_i,Wy.ev_k,Wy.ev_bn,beqd,Scalar.eta,zLe g h e x y,hg x hx,hg y hy,cond_true,wsum (hr x) (hr y)]
  by_cases h1:e.Op=12
  ·simp [h1]
  ·simp [h1]
 have l15:e.Args.length=2→zrk g 1 s e=(true,if e.Op=11 then Int.tdiv (estP s n (e.Args.getD 0 default)*estP s n (e.Args.getD 1 default)) 1000
   else if e.Op=12 then estP s n (e.Args.getD 0 default)+estP s n (e.Args.getD 1 default) - Int.tdiv (estP s n (e.Args.getD 0 default)*estP s n (e.Args.getD 1 default)) 1000
   else if e.Op<5∨e.Op>10 then 333 else cmpP s e.Op (e.Args.getD 0 default) (e.Args.getD 1 default)):=fun h2=>by
  have m0:e.Args.getD 0 default∈e.Args:=zfr (by omega)
  have m1:e.Args.getD 1 default∈e.Args:=zfr (by omega)
  show (zml g s e).ev (zN (zi7 g) default 0) (fun r=>(true,r)) (false,default)=_
  unfold zml
  have z0:Int.toNat (0:Int)=0:=rfl
  have z1:Int.toNat (1:Int)=1:=rfl
  have c0:(decide ((0:Int)≤(0:Int))&&decide ((0:Int)<Int.ofNat e.Args.length))=true:=by rw [h2]; rfl
  have c1:(decide ((0:Int)≤(1:Int))&&decide ((1:Int)<Int.ofNat e.Args.length))=true:=by rw [h2]; rfl
  simp only [Wy.ev_i,Wy.ev_k,Wy.ev_bn,beqd,Scalar.eta,z0,z1,c0,c1,hg _ m0,hg _ m1,l18 _ m0 _ m1,cond_true,wmul (hr _) (hr _)]
  by_cases h1:e.Op=11
  ·simp [h1]
  ·simp [h1]
 have e2:(Int.ofNat e.Args.length != (2:Int))= !decide (e.Args.length=2):=by
  rw [bne0]
  congr 1
  by_cases h:e.Args.length=2
  ·rw [h]; rfl
  ·rw [decide_eq_false h,decide_eq_false]; intro hc; exact h (Int.ofNat.inj hc)
 have e1:(Int.ofNat e.Args.length==(1:Int))=decide (e.Args.length=1):=by
  rw [beqd]
  by_cases h:e.Args.length=1
  ·rw [h]; rfl
  ·rw [decide_eq_false h,decide_eq_false]; intro hc; exact h (Int.ofNat.inj hc)
 have l13:zmt g 1 s e=(true,if e.Args.length≠2 then 333 else if e.Op=11 then Int.tdiv (estP s n (e.Args.getD 0 default)*estP s n (e.Args.getD 1 default)) 1000
   else if e.Op=12 then estP s n (e.Args.getD 0 default)+estP s n (e.Args.getD 1 default) - Int.tdiv (estP s n (e.Args.getD 0 default)*estP s n (e.Args.getD 1 default)) 1000
   else if e.Op<5∨e.Op>10 then 333 else cmpP s e.Op (e.Args.getD 0 default) (e.Args.getD 1 default)):=by
  show (zmq g s e).ev (zN (zi9 g) default 0) (fun r=>(true,r)) (false,default)=_
  unfold zmq
  simp only [Wy.ev_i,Wy.ev_k,Wy.ev_bn,Scalar.eta,e2]
  by_cases h2:e.Args.length=2
  ·rw [l15 h2]; simp [h2]
  ·simp [h2]
 have l11:zmi g 1 s e=(true,if e.Op=13∧e.Args.length=1 then 1000 - estP s n (e.Args.getD 0 default) else if e.Args.length≠2 then 333 else if e.Op=11 then Int.tdiv (estP s n (e.Args.getD 0 default)*estP s n (e.Args.getD 1 default)) 1000
   else if e.Op=12 then estP s n (e.Args.getD 0 default)+estP s n (e.Args.getD 1 default) - Int.tdiv (estP s n (e.Args.getD 0 default)*estP s n (e.Args.getD 1 default)) 1000
   else if e.Op<5∨e.Op>10 then 333 else cmpP s e.Op (e.Args.getD 0 default) (e.Args.getD 1 default)):=by
  show (zmb g s e).ev (zN (zjd g) default 0) (fun r=>(true,r)) (false,default)=_
  unfold zmb
  have z0:Int.toNat (0:Int)=0:=rfl
  simp only [Wy.ev_i,Wy.ev_k,Wy.ev_bn,Scalar.eta,e1,beqd,l13,cond_true,z0]
  by_cases h13:e.Op=13
  ·by_cases h1:e.Args.length=1
   ·have c0:(decide ((0:Int)≤(0:Int))&&decide ((0:Int)<Int.ofNat e.Args.length))=true:=by rw [h1]; rfl
    rw [c0,hg _ (zfr (by omega)),decide_eq_true h13,decide_eq_true h1,if_pos (show e.Op=13∧e.Args.length=1 from ⟨h13,h1⟩)]
    simp only [cond_true]
    rw [zzz (hr _)]
   ·rw [decide_eq_true h13,decide_eq_false h1,if_neg (show ¬ (e.Op=13∧e.Args.length=1) from fun hc=>h1 hc.2)]; rfl
  ·rw [decide_eq_false h13,if_neg (show ¬ (e.Op=13∧e.Args.length=1) from fun hc=>h13 hc.1)]; rfl
 have l9:e.Kind=2→zjY g 1 s e=zmi g 1 s e:=fun h2=>by
  show (zhQ g s e).ev (zN (zhW g) default 0) (fun r=>(true,r)) (false,default)=_
  unfold zhQ
  simp only [Wy.ev_i,Wy.ev_k,Wy.ev_bn,Scalar.eta,bne0,decide_eq_true h2,Bool.not_true,cond_false]
  rw [l11]; rfl
 have l9':e.Kind≠2→zjY g 1 s e=(true,333):=fun h2=>by
  show (zhQ g s e).ev (zN (zhW g) default 0) (fun r=>(true,r)) (false,default)=_
  unfold zhQ
  simp only [Wy.ev_i,Wy.ev_k,Wy.ev_bn,Scalar.eta,bne0,decide_eq_false h2,Bool.not_false,cond_true]
 unfold zjN zn2 estP
 simp only [vyes]
 simp only [Wy.fin_i,Wy.fin_bn,Wy.fin_k,beqd,Scalar.eta]
 by_cases k0:e.Kind=0
 ·rw [decide_eq_true k0,if_pos k0,cond_true]
  by_cases hv:e.Value=yesV
  ·rw [if_pos hv,decide_eq_true (show e.Value=⟨2,1,ByteArray.mk #[]⟩ from hv)]; rfl
  ·rw [if_neg hv,decide_eq_false (show ¬ e.Value=⟨2,1,ByteArray.mk #[]⟩ from hv)]; rfl
 ·rw [decide_eq_false k0,if_neg k0,cond_false]
  have l5:zsV g 1 s e=(bif decide (e.Kind=1) then (true,if hasP s e.Column then eqP s e.Column.toNat yesV else 333) else zjY g 1 s e):=by
   show (zm7 g s e).ev (zN (zj0 g) default 0) (fun r=>(true,r)) (false,default)=_
   unfold zm7
   simp only [Wy.ev_i,Wy.ev_k,Wy.ev_bn,Scalar.eta,beqd,zBi,cond_true]
   by_cases k1:e.Kind=1
   ·rw [decide_eq_true k1,cond_true,cond_true]
    cases hh:hasP s e.Column with
    | false=>rfl
    | true=>rw [zwt h hh]; rfl
   ·rw [decide_eq_false k1,cond_false,cond_false]
    by_cases k2:e.Kind=2
    ·rw [l9 k2,l11]; rfl
    ·rw [l9' k2]; rfl
  rw [l5]
  by_cases k1:e.Kind=1
  ·rw [decide_eq_true k1,if_pos k1]; rfl
  ·rw [decide_eq_false k1,if_neg k1,cond_false]
   by_cases k2:e.Kind=2
   ·rw [l9 k2,l11,if_neg (show ¬ (e.Kind≠2) from fun hc=>hc k2)]; rfl
   ·rw [l9' k2,if_pos (show e.Kind≠2 from k2)]; rfl
end
theorem zEv {s:Stats} (h:okS s=true):∀ (d n:Nat) (e:Scalar),zg4 d e→d≤n→zhZ n s e=(true,estP s n e)
 | 0,_,_,hf,_=>hf.elim
 | d+1,0,_,_,hd=>by omega
 | d+1,n+1,e,hf,hd=>by
  rw [zAZ]
  exact zJt _ h e n fun z hz=>zEv h d n z (hf.2 z hz) (by omega)
theorem zCu {s:Stats} (h:okS s=true) {e:Scalar} (hf:zg4 32 e):ztu s e=(true,estP s 32 e):=by
 show zhZ 1000 s e=_
 rw [zEv h 32 1000 e hf (by omega),zBR s 32 1000 32 e hf (by omega) (by omega)]
def selP (s:Stats) (e:Scalar):Int:=bif okS s then estP s 32 e else 0
theorem zzr (s:Stats) {e:Scalar} (hf:zg4 32 e):zi0 s e=(true,selP s e):=by
 unfold zi0 zm5 selP
 simp only [Wy.fin_i,Wy.fin_bn,Wy.fin_k,zE3,cond_true,Scalar.eta]
 cases h:okS s with
 | false=>rfl
 | true=>rw [zCu h hf]; rfl
theorem zCK (l:List Value) (hl:l.length≤1000000):∀ (n i:Nat),i<l.length→i<n→zdl n l i=(true,bif allN (srtB l) (i+1) 0 then .inr () else .inl false)
 | 0,i,hi,hn=>by omega
 | n+1,i,hi,hn=>by
  show (zdm l i).ev (fun x y=>zdl n x.1 x.2.2.1) (fun r=>(true,r)) (false,.inl default)=_
  unfold zdm
  have hg:decide ((i:Int)>(0:Int))=decide (0<i):=zEc i 0
  cases i with
  | zero=>simp [Wy.ev_i,Wy.ev_k,allN,srtB]
  | succ i=>
   have hi':i<l.length:=by omega
   have hw:IntKind.i64.wrap (((i+1:Nat):Int) - 1)=(i:Int):=by rw [zFC (by omega) (by omega)]; rfl
   have hp:decide (0<i+1)=true:=by simp
   simp only [Wy.ev_i,Wy.ev_k,Wy.ev_h,Wy.ev_bn,Wy.ev_d,hg,hp,hw,tT,hi,hi',value_Compare_eq']
   rw [zCK l hl n i hi' (by omega),zFB _ (i+1),Nat.zero_add]
   have:srtB l (i+1)= !decide (cmpV (l.getD (i+1) default) (l.getD i default)<0):=by
    unfold srtB
    rw [show i+1 - 1=i from rfl,zFa (l.getD (i+1) default) (l.getD i default)]
    generalize cmpV (l.getD (i+1) default) (l.getD i default)=z
    by_cases hz:z<0
    ·have:¬ (-z≤0):=by omega
     simp [hz,this]
    ·have:(-z≤0):=by omega
     simp [hz,this]
   rw [this]
   cases decide (cmpV (l.getD (i+1) default) (l.getD i default)<0) <;>simp
theorem zI6 (l:List Value) (hl:l.length≤1000000):zbR l=(true,allN (srtB l) l.length 0):=by
 unfold zbR zdI
 match l,hl with
 | [],_=>rfl
 | x::r,hl=>
  have hw:IntKind.i64.wrap (Int.ofNat (x::r).length - 1)=(r.length:Int):=by
   rw [List.length_cons] at hl
   rw [show Int.ofNat (x::r).length=(((x::r).length:Nat):Int) from rfl,zFC (by simp) (by simp; omega)]; rfl
  rw [Wy.fin_bn,hw,zCK (x::r) hl _ r.length (by simp) (by simp; omega)]
  cases allN (srtB (x::r)) (r.length+1) 0 with
  | true=>simp [Wy.fin_i,Wy.fin_k,isL]
  | false=>simp [Wy.fin_i,Wy.fin_k,isL,getL]
theorem zKW (l:List Value) (c:ColumnStats) (h:l.length≤1000000):zbz l c=(true, !l.all (zpR c.Min.Kind)):=by
 unfold zbz zdb
 have:zcA l c=IG (fun (g:ColumnStats×Unit) x=>zde x g.1) (l.length+c.Bounds.length+(Int.ofNat l.length).toNat +Int.toNat (0:Int)+(1000:Nat)) (c,()) l:=rfl
 have e:(!l.all (zpR c.Min.Kind))=l.any fun w=> !zpR c.Min.Kind w:=by simp [List.all_eq_not_any_not]
 rw [e]
 exact zCZ (this.trans (zJZ _ _ _ _ _ (by omega) (fun x _=>by
  show zde x c=_
  unfold zde zim zpR
  simp only [Wy.fin_i,Wy.fin_k,Wy.fin_bn,zyy,cond_true,bne0]
  cases valV x <;>cases decide (x.Kind=c.Min.Kind) <;>rfl) (by omega)))
theorem zvh (c:ColumnStats) (rows:Int):zgw c rows=(true,okC c rows):=by
 unfold zgw zjX okC
 by_cases h0:rows=0
 ·subst h0
  simp only [zJT]
  simp only [Wy.fin_i,Wy.fin_k,beqd,if_pos,decide_true,cond_true]
  have e:decide (Int.ofNat c.Bounds.length=(0:Int))=decide (c.Bounds.length=0):=by
   by_cases h:c.Bounds.length=0
   ·rw [h]; rfl
   ·rw [decide_eq_false h,decide_eq_false]; intro hc; exact h (Int.ofNat.inj hc)
  rw [e]
  cases decide (c.Distinct=0) <;>cases decide (c.Min=zV) <;>cases decide (c.Max=zV) <;>rfl
 ·have e8:(Int.ofNat c.Bounds.length != (8:Int))= !decide (c.Bounds.length=8):=by
   rw [bne0]
   congr 1
   by_cases h:c.Bounds.length=8
   ·rw [h]; rfl
   ·rw [decide_eq_false h,decide_eq_false]; intro hc; exact h (Int.ofNat.inj hc)
  have er:(rows==(0:Int))=false:=by rw [beqd,decide_eq_false h0]
  have z7:Int.toNat (7:Int)=7:=rfl
  have z0:Int.toNat (0:Int)=0:=rfl
  have g1:decide (c.Distinct≥(1:Int))=decide (1≤c.Distinct):=rfl
  have gl:decide (cmpV (c.Bounds.getD 0 default) c.Min<0)= !decide (cmpV c.Min (c.Bounds.getD 0 default)≤0):=by
   rw [zFa c.Min (c.Bounds.getD 0 default)]
   generalize cmpV c.Min (c.Bounds.getD 0 default)=z
   by_cases h:z≤0
   ·have:¬ (-z<0):=by omega
    simp [h,this]
   ·have: -z<0:=by omega
    rw [decide_eq_true this,decide_eq_false h]; rfl
  simp only [veq]
  simp only [Wy.fin_i,Wy.fin_bn,Wy.fin_k,er,if_neg h0,cond_false,cond_true,zyy,value_Compare_eq',g1,beqd c.Min.Kind,e8,z7,z0,gl]
  by_cases h8:c.Bounds.length=8
  ·have e7:(decide ((0:Int)≤(7:Int))&&decide ((7:Int)<Int.ofNat c.Bounds.length))=true:=by rw [h8]; rfl
   have e0:(decide ((0:Int)≤(0:Int))&&decide ((0:Int)<Int.ofNat c.Bounds.length))=true:=by rw [h8]; rfl
   rw [e7,e0,zI6 _ (by omega),zKW _ _ (by omega),decide_eq_true h8]
   cases decide (1≤c.Distinct) <;>cases decide (c.Distinct≤rows) <;>cases valV c.Min <;>cases valV c.Max <;>cases decide (c.Min.Kind=c.Max.Kind) <;>cases decide (cmpV c.Min c.Max≤0) <;>try rfl
   generalize allN (srtB c.Bounds) c.Bounds.length 0=q1
   generalize c.Bounds.all (zpR c.Min.Kind)=q2
   cases q1 <;>cases q2 <;>cases decide (c.Bounds.getD 7 default=c.Max) <;>cases decide (cmpV c.Min (c.Bounds.getD 0 default)≤0) <;>rfl
  ·rw [decide_eq_false h8]
   cases decide (1≤c.Distinct) <;>cases decide (c.Distinct≤rows) <;>cases valV c.Min <;>cases valV c.Max <;>cases decide (c.Min.Kind=c.Max.Kind) <;>cases decide (cmpV c.Min c.Max≤0) <;>rfl
theorem zK4 (l:List ColumnStats) (s:Stats) (h:l.length≤1000000):zba l s=(true, !l.all fun c=>okC c s.Rows):=by
 unfold zba zbZ
 have:zbw l s=IG (fun (g:Stats×Unit) x=>zgq x g.1) (l.length+s.Columns.length+(Int.ofNat l.length).toNat +Int.toNat (0:Int)+(1000:Nat)) (s,()) l:=rfl
 have e:(!l.all fun c=>okC c s.Rows)=l.any fun c=> !okC c s.Rows:=by simp [List.all_eq_not_any_not]
 rw [e]
 exact zCZ (this.trans (zJZ _ _ _ _ _ (by omega) (fun x _=>by
  show zgq x s=_
  unfold zgq zlg
  rw [Wy.fin_bn,zvh]
  rfl) (by omega)))
theorem zAX (s:Stats):zh2 s=(true,okS s):=by
 unfold zh2 znN okS
 have el:decide (Int.ofNat s.Columns.length≤(16:Int))=decide (s.Columns.length≤16):=zvK _ 16
 have e0:decide (s.Rows≥(0:Int))=decide (0≤s.Rows):=rfl
 simp only [Wy.fin_i,Wy.fin_bn,Wy.fin_k,e0,el]
 by_cases hl:s.Columns.length≤16
 ·rw [zK4 _ _ (by omega),decide_eq_true hl]
  cases decide (0≤s.Rows) <;>cases decide (s.Rows≤1000000) <;>try rfl
  cases s.Columns.all (fun c=>okC c s.Rows) <;>rfl
 ·rw [decide_eq_false hl]
  cases decide (0≤s.Rows) <;>cases decide (s.Rows≤1000000) <;>rfl
theorem zDE (s:Stats) (k:Int):zbP ⟨s⟩ k=(true,hasP s k):=by
 unfold zbP ziJ hasP
 rw [Wy.fin_i,ge0]
 by_cases h:0≤k
 ·rw [decide_eq_true h]; rfl
 ·rw [decide_eq_false h]; rfl
theorem zxy (v:Value) (l:List Value) (hl:l.length≤1000):∀ (n i m:Nat),l.length<i+n→i≤l.length→m≤125*i→
   zgJ n m l l.length i v=(true,((m+125*((l.drop i).filter fun b=>decide (cmpV b v<0)).length:Nat):Int))
 | 0,i,m,h,h2,_=>by omega
 | n+1,i,m,h,h2,h3=>by
  show (ziH m l l.length i v).ev (fun x y=>zgJ n x.2.1 x.2.2.1 x.2.2.2.1 x.2.2.2.2.1 y.1) (fun r=>(true,r)) (false,default)=_
  unfold ziH
  by_cases hi:i<l.length
  ·have hw:IntKind.i64.wrap ((m:Int)+(125:Int))=((m+125:Nat):Int):=by
    rw [zkj (by omega) (by omega)]; rfl
   simp only [Wy.ev_i,Wy.ev_k,Wy.ev_h,Wy.ev_bn,Wy.ev_d,tT,hi,value_Compare_eq',hw,zjx (show i<4611686018427387904 by omega)]
   rw [zs4 hi]
   by_cases hx:cmpV (l.getD i default) v<0
   ·rw [decide_eq_true hx,cond_true,zxy v l hl n (i+1) (m+125) (by omega) (by omega) (by omega),List.filter_cons_of_pos (by simpa using hx),List.length_cons]
    congr 2; omega
   ·rw [decide_eq_false hx,cond_false,zxy v l hl n (i+1) m (by omega) (by omega) (by omega),List.filter_cons_of_neg (by simpa using hx)]
  ·simp only [Wy.ev_i,Wy.ev_k,Wy.ev_h,Wy.ev_bn,Wy.ev_d,tT,hi,zta hi]
   rfl
theorem zFA {s:Stats} (h:okS s=true) {k:Int} (hk:hasP s k=true) (v:Value):zcX ⟨s⟩ k v=(true,ltP s k.toNat v):=by
 obtain ⟨h1,h2⟩:=zkp hk
 have hb:=zBY h h2
 have hz:∀ (n:Nat),(s.Columns.getD k.toNat default).Bounds.length<n→zgJ n 0 (s.Columns.getD k.toNat default).Bounds (Int.ofNat (s.Columns.getD k.toNat default).Bounds.length) 0 v=(true,ltP s k.toNat v):=fun n hn=>by
  have:=zxy v (s.Columns.getD k.toNat default).Bounds (by omega) n 0 0 (by omega) (by omega) (by omega)
  rw [List.drop_zero,Nat.zero_add] at this
  exact this
 have hin:(decide ((0:Int)≤k)&&decide (k<Int.ofNat s.Columns.length))=true:=hk
 unfold zcX zjn
 rw [Wy.fin_i,hin,cond_true,Wy.fin_bn,hz _ (by omega)]
 rfl
theorem zBO {s:Stats} (h:okS s=true) {k:Int} (hk:hasP s k=true) (v:Value):zcr ⟨s⟩ k v=(true,eqP s k.toNat v):=by
 rw [← zwt h hk]
 unfold zcr zjo zkV zva
 simp only [value_Compare_eq',ref01_Compare_eq']
theorem zIJ {s:Stats} (h:okS s=true) {k:Int} (hk:hasP s k=true) (v:Value):zd4 ⟨s⟩ k v=(true,leP s k.toNat v):=by
 obtain ⟨_,hk2⟩:=zkp hk
 have h1:=zyZ h hk2 v
 have h2:=zvq h hk2 v
 unfold zd4 zjp leP
 rw [Wy.fin_bn,zFA h hk,cond_true,Wy.fin_bn,zBO h hk,cond_true,Wy.fin_k,zkj (by omega) (by omega)]
theorem zzi {s:Stats} (h:okS s=true) (op:Int) {k:Int} (hk:hasP s k=true) (v:Value):zbH ⟨s⟩ op k v=(true,zmT s op k.toNat v):=by
 obtain ⟨h1,h2⟩:=zkp hk
 rw [← zn1 h op hk]
 unfold zbH zhr zg1 zmp
 have e1:=zxU h h2 v
 have e2:=zCw h h2 v
 rw [h1] at e1 e2
 simp only [Wy.fin_i,Wy.fin_bn,Wy.fin_k,zFA h hk,zBO h hk,zIJ h hk,zwt h hk,e1,e2]
theorem zEY {s:Stats} (h:okS s=true) (op:Int) {a b:Int} (ha:hasP s a=true) (hb:hasP s b=true):zbG ⟨s⟩ op a b=(true,zpP s op a.toNat b.toNat):=by
 obtain ⟨a1,a2⟩:=zkp ha
 obtain ⟨b1,b2⟩:=zkp hb
 obtain ⟨h1,h2,h3,h4⟩:=zvr h
 have hca:=h4 _ (zfr a2)
 have ia:(decide ((0:Int)≤a)&&decide (a<Int.ofNat s.Columns.length))=true:=ha
 have ib:(decide ((0:Int)≤b)&&decide (b<Int.ofNat s.Columns.length))=true:=hb
 unfold zbG zhk zpP
 simp only [Wy.fin_i,Wy.fin_k,ia,ib,cond_true,beqd]
 by_cases h0:s.Rows>0
 ·have hd:=(zvp (by omega) hca).1
  have hm:(if (s.Columns.getD b.toNat default).Distinct>(s.Columns.getD a.toNat default).Distinct then (s.Columns.getD b.toNat default).Distinct else (s.Columns.getD a.toNat default).Distinct)=maxP (s.Columns.getD a.toNat default).Distinct (s.Columns.getD b.toNat default).Distinct:=rfl
  have hm1:1≤maxP (s.Columns.getD a.toNat default).Distinct (s.Columns.getD b.toNat default).Distinct:=by unfold maxP; split <;>omega
  have hne:¬ maxP (s.Columns.getD a.toNat default).Distinct (s.Columns.getD b.toNat default).Distinct=0:=by omega
  have hq:=zEB hm1
  simp only [hm,zED hm1,decide_eq_true h0,decide_eq_false hne,if_pos h0,cond_true,Bool.not_false,zzz (show 0≤qP (maxP (s.Columns.getD a.toNat default).Distinct (s.Columns.getD b.toNat default).Distinct)∧qP (maxP (s.Columns.getD a.toNat default).Distinct (s.Columns.getD b.toNat default).Distinct)≤1000 by omega)]
  by_cases h5:op=5
  ·simp [h5]
  ·by_cases h6:op=6
   ·simp [h6]
   ·simp [h5,h6]
 ·simp only [decide_eq_false h0,if_neg h0,cond_false]
  by_cases h5:op=5
  ·simp [h5]
  ·by_cases h6:op=6
   ·simp [h6]; rfl
   ·simp [h5,h6]
theorem zHh (op:Int):zhN op=(true,mirP op):=by
 have hk:∀ a b:Int,zjq (Value.int IntKind.i64 a) (Value.int IntKind.i64 b)=decide (a=b):=fun a b=>beqd a b
 unfold zhN zla mirP zJW zJV zvl
 simp only [mset,mget,mhas,hk]
 by_cases h7:op=7
 ·subst h7; rfl
 ·by_cases h8:op=8
  ·subst h8; rfl
  ·by_cases h9:op=9
   ·subst h9; rfl
   ·by_cases h10:op=10
    ·subst h10; rfl
    ·simp [Wy.fin_i,Wy.fin_k,h7,h8,h9,h10,mset,mhas,hk]
theorem zFM {s:Stats} (h:okS s=true) (op:Int) (x y:Scalar):zbo ⟨s⟩ op x y=(true,cmpP s op x y):=by
 unfold zbo zgD
 simp only [Wy.fin_i,Wy.fin_bn,Wy.fin_k,zDE,zHh,beqd,bne0,cond_true]
 unfold cmpP
 by_cases x0:x.Kind=0
 ·have x1:¬ x.Kind=1:=by omega
  have x2:¬ x.Kind=2:=by omega
  by_cases y1:y.Kind=1
  ·have y0:¬ y.Kind=0:=by omega
   cases hy:hasP s y.Column with
   | false=>simp [x0,y1,hy]
   | true=>simp [x0,y1,hy,zzi h (mirP op) hy]
  ·simp [x0,y1]
 ·by_cases x1:x.Kind=1
  ·cases hx:hasP s x.Column with
   | false=>
    by_cases y2:y.Kind=2 <;>simp [x1,hx,y2]
   | true=>
    by_cases y2:y.Kind=2
    ·simp [x1,hx,y2]
    ·by_cases y1:y.Kind=1
     ·cases hy:hasP s y.Column with
      | false=>simp [x1,hx,y1,hy]
      | true=>simp [x1,hx,y1,hy,zEY h op hx hy]
     ·by_cases y0:y.Kind=0
      ·simp [x1,hx,y0,zzi h op hx]
      ·simp [x1,hx,y0,y1,y2]
  ·simp [x0,x1]
theorem zIK {g:estimator→Scalar→Bool×Int} {s:Stats} (h:okS s=true) (e:Scalar) (n:Nat) (hg:∀ z∈e.Args,g ⟨s⟩ z=(true,estP s n z)):zdZ g ⟨s⟩ e=(true,estP s (n+1) e):=by
 have hr:=zvy h n
 have z0:Int.toNat (0:Int)=0:=rfl
 have z1:Int.toNat (1:Int)=1:=rfl
 have e2:(Int.ofNat e.Args.length != (2:Int))= !decide (e.Args.length=2):=by
  rw [bne0]
  congr 1
  by_cases h:e.Args.length=2
  ·rw [h]; rfl
  ·rw [decide_eq_false h,decide_eq_false]; intro hc; exact h (Int.ofNat.inj hc)
 have e1:(Int.ofNat e.Args.length==(1:Int))=decide (e.Args.length=1):=by
  rw [beqd]
  by_cases h:e.Args.length=1
  ·rw [h]; rfl
  ·rw [decide_eq_false h,decide_eq_false]; intro hc; exact h (Int.ofNat.inj hc)
 unfold zdZ zhE estP
 simp only [vyes]
 simp only [Wy.fin_i,Wy.fin_bn,Wy.fin_k,Wy.fin_d,Scalar.eta,e1,e2,z0,z1,zDE,zFM h]
 simp only [beqd,bne0,cond_true]
 by_cases k0:e.Kind=0
 ·rw [decide_eq_true k0,if_pos k0,cond_true]
  by_cases hv:e.Value=yesV
  ·rw [if_pos hv,decide_eq_true (show e.Value=⟨2,1,ByteArray.mk #[]⟩ from hv)]; rfl
  ·rw [if_neg hv,decide_eq_false (show ¬ e.Value=⟨2,1,ByteArray.mk #[]⟩ from hv)]; rfl
 ·rw [decide_eq_false k0,if_neg k0,cond_false]
  by_cases k1:e.Kind=1
  ·have k2:¬ e.Kind=2:=by omega
   rw [decide_eq_true k1,if_pos k1,cond_true]
   cases hh:hasP s e.Column with
   | false=>rw [decide_eq_false k2]; rfl
   | true=>rw [zBO h hh]; rfl
  ·rw [decide_eq_false k1,if_neg k1,cond_false]
   by_cases k2:e.Kind=2
   ·rw [decide_eq_true k2,if_neg (show ¬ (e.Kind≠2) from fun hc=>hc k2),Bool.not_true,cond_false]
    by_cases h2:e.Args.length=2
    ·have h1:¬ e.Args.length=1:=by omega
     have m0:e.Args.getD 0 default∈e.Args:=zfr (by omega)
     have m1:e.Args.getD 1 default∈e.Args:=zfr (by omega)
     have c0:(decide ((0:Int)≤(0:Int))&&decide ((0:Int)<Int.ofNat e.Args.length))=true:=by rw [h2]; rfl
     have c1:(decide ((0:Int)≤(1:Int))&&decide ((1:Int)<Int.ofNat e.Args.length))=true:=by rw [h2]; rfl
     rw [c0,c1,hg _ m0,hg _ m1,decide_eq_false h1,decide_eq_true h2]
     simp only [cond_true,cond_false,Bool.not_true]
     rw [wsum (hr _) (hr _),wmul (hr _) (hr _),if_neg (show ¬ (e.Op=13∧e.Args.length=1) from fun hc=>h1 hc.2),if_neg (show ¬ (e.Args.length≠2) from fun hc=>hc h2)]
     have ht:∀ q,q=(bif decide (e.Op=11) then (true,(estP s n (e.Args.getD 0 default)*estP s n (e.Args.getD 1 default)).tdiv 1000) else bif decide (e.Op=12) then (true,estP s n (e.Args.getD 0 default)+estP s n (e.Args.getD 1 default) - (estP s n (e.Args.getD 0 default)*estP s n (e.Args.getD 1 default)).tdiv 1000) else bif decide (e.Op≥5) then bif decide (e.Op≤10) then (true,cmpP s e.Op (e.Args.getD 0 default) (e.Args.getD 1 default)) else (true,(333:Int)) else (true,333))→
       q=(true,if e.Op=11 then Int.tdiv (estP s n (e.Args.getD 0 default)*estP s n (e.Args.getD 1 default)) 1000
   else if e.Op=12 then estP s n (e.Args.getD 0 default)+estP s n (e.Args.getD 1 default) - Int.tdiv (estP s n (e.Args.getD 0 default)*estP s n (e.Args.getD 1 default)) 1000
   else if e.Op<5∨e.Op>10 then 333 else cmpP s e.Op (e.Args.getD 0 default) (e.Args.getD 1 default)):=fun q hq=>by
      rw [hq]
      by_cases o1:e.Op=11
      ·rw [decide_eq_true o1,if_pos o1]; rfl
      ·by_cases o2:e.Op=12
       ·rw [decide_eq_false o1,if_neg o1,decide_eq_true o2,if_pos o2]; rfl
       ·rw [decide_eq_false o1,if_neg o1,decide_eq_false o2,if_neg o2]
        by_cases o3:e.Op≥5
        ·by_cases o4:e.Op≤10
         ·rw [decide_eq_true o3,decide_eq_true o4,if_neg (show ¬ (e.Op<5∨e.Op>10) by omega)]; rfl
         ·rw [decide_eq_true o3,decide_eq_false o4,if_pos (show (e.Op<5∨e.Op>10) by omega)]; rfl
        ·rw [decide_eq_false o3,if_pos (show (e.Op<5∨e.Op>10) by omega)]; rfl
     by_cases h13:e.Op=13
     ·rw [decide_eq_true h13,cond_true]
      exact ht _ rfl
     ·rw [decide_eq_false h13,cond_false]
      exact ht _ rfl
    ·rw [decide_eq_false h2]
     simp only [cond_true,Bool.not_false]
     by_cases h13:e.Op=13
     ·by_cases h1:e.Args.length=1
      ·have c0:(decide ((0:Int)≤(0:Int))&&decide ((0:Int)<Int.ofNat e.Args.length))=true:=by rw [h1]; rfl
       rw [c0,hg _ (zfr (by omega)),decide_eq_true h13,decide_eq_true h1,if_pos (show e.Op=13∧e.Args.length=1 from ⟨h13,h1⟩)]
       simp only [cond_true]
       rw [zzz (hr _)]
      ·rw [decide_eq_true h13,decide_eq_false h1,if_neg (show ¬ (e.Op=13∧e.Args.length=1) from fun hc=>h1 hc.2),if_pos (show e.Args.length≠2 from h2)]; rfl
     ·rw [decide_eq_false h13,if_neg (show ¬ (e.Op=13∧e.Args.length=1) from fun hc=>h13 hc.1),if_pos (show e.Args.length≠2 from h2)]; rfl
   ·rw [decide_eq_false k2,if_pos (show e.Kind≠2 from k2)]; rfl
theorem zIG {s:Stats} (h:okS s=true):∀ (d n:Nat) (e:Scalar),zg4 d e→d≤n→zcQ n ⟨s⟩ e=(true,estP s n e)
 | 0,_,_,hf,_=>hf.elim
 | d+1,0,_,_,hd=>by omega
 | d+1,n+1,e,hf,hd=>by
  rw [zrp]
  exact zIK h e n fun z hz=>zIG h d n z (hf.2 z hz) (by omega)
theorem zKx {s:Stats} (h:okS s=true) {e:Scalar} (hf:zg4 32 e):zjc ⟨s⟩ e=(true,estP s 32 e):=by
 show zcQ 1000 ⟨s⟩ e=_
 rw [zIG h 32 1000 e hf (by omega),zBR s 32 1000 32 e hf (by omega) (by omega)]
theorem zE1 (s:Stats) {e:Scalar} (hf:zg4 32 e):zgs s e=(true,selP s e):=by
 unfold zgs zjK selP
 simp only [Wy.fin_i,Wy.fin_bn,Wy.fin_k,zAX,cond_true,Scalar.eta]
 cases h:okS s with
 | false=>rfl
 | true=>
  have:=zKx h hf
  rw [this]; rfl
theorem zJz (s:Stats) (e:Scalar):0≤selP s e∧selP s e≤1000:=by
 unfold selP
 cases h:okS s with
 | false=>simp
 | true=>exact zvy h 32 e
theorem zCm (s:Stats) (e:Scalar) (hs:wf30 s) (he:wf47 e):zcO s e=(true,true):=by
 obtain ⟨q,q1,q2⟩:=zJv s hs
 obtain ⟨p,p1,p2⟩:=zJk e he
 have l5:zg4 32 e→zkA 1 s e=(true,true):=fun hf=>by
  show (zhe s e).ev (zN zeN default 0) (fun r=>(true,r)) (false,default)=_
  unfold zhe
  have hr:=zJz s e
  have g0:decide (selP s e≥(0:Int))=true:=decide_eq_true hr.1
  have g1:decide (selP s e≤(1000:Int))=true:=decide_eq_true hr.2
  simp only [Wy.ev_i,Wy.ev_k,Wy.ev_bn,Scalar.eta,zE1 s hf,zzr s hf,cond_true,g0,g1,beqd,decide_true]
 have l3:zko 1 s e=(true,true):=by
  show (zhq s e).ev (zN zeG default 0) (fun r=>(true,r)) (false,default)=_
  unfold zhq
  simp only [Wy.ev_i,Wy.ev_k,Wy.ev_bn,Scalar.eta,q1,p1,cond_true]
  cases q with
  | false=>rfl
  | true=>
   cases p with
   | false=>rfl
   | true=>rw [l5 ((p2 rfl).mono (by omega))]; rfl
 unfold zcO zhK
 rw [Wy.fin_bn,Scalar.eta,l3]
 rfl
end Go.Proofs.YtddkaehkimnklaaGreatDoor
end
