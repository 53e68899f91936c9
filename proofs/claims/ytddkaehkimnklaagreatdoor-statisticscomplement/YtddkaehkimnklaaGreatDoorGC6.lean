/- Texts of this claim, joined (the program, its functions in plain words, and what they compute). -/
import Derived.Test.YtddkaehkimnklaaGreatDoorGC1
import Derived.Test.YtddkaehkimnklaaGreatDoorGC5
import Derived.Test.YtddkaehkimnklaaGreatDoorGA3
import Derived.Test.YtddkaehkimnklaaGreatDoorGC4
set_option autoImplicit false
set_option linter.unusedVariables false
set_option linter.unusedSectionVars false
set_option linter.unusedSimpArgs false
set_option maxRecDepth 1000000
set_option maxHeartbeats 0
noncomputable section
namespace Go.Proofs.YtddkaehkimnklaaGreatDoor
open Go Go.Ab
theorem znf {s:Stats} {k:Int} (h:hasP s k=true):((k.toNat:Nat):Int)=k∧k.toNat<s.Columns.length:=by
 have:=zrL.1 h; omega
theorem zzC {s:Stats} (h:okS s=true) {k:Int} (hk:hasP s k=true) (v:Value):zpj s k v=(true,eqP s k.toNat v):=by
 have:=znf hk
 rw [← zv8 h this.2,this.1]
theorem zzk {s:Stats} (h:okS s=true) (op:Int) {k:Int} (hk:hasP s k=true) (v:Value):znF s op k v=(true,zfl s op k.toNat v):=by
 have:=znf hk
 rw [← zz4 h op this.2,this.1]
section
variable (g:Stats→Scalar→Bool×Int) {s:Stats} (h:okS s=true) (e x y:Scalar)
include h
omit h in
theorem wmul {a b:Int} (ha:0≤a∧a≤1000) (hb:0≤b∧b≤1000):IntKind.i64.wrap ((IntKind.i64.wrap (a*b)).tdiv (1000:Int))=(a*b).tdiv 1000:=by
 have:=zCc ha hb
 rw [zj1 (z:=a*b) (by omega) (by omega),zj1 (by omega) (by omega)]
omit h in
theorem wsum {a b:Int} (ha:0≤a∧a≤1000) (hb:0≤b∧b≤1000):IntKind.i64.wrap (IntKind.i64.wrap (a+b) - IntKind.i64.wrap ((IntKind.i64.wrap (a*b)).tdiv (1000:Int)))=a+b - (a*b).tdiv 1000:=by
 have:=zCc ha hb
 rw [wmul ha hb,zj1 (z:=a+b) (by omega) (by omega),zj1 (by omega) (by omega)]
end
def selP (s:Stats) (e:Scalar):Int:=bif okS s then estP s 32 e else 0
theorem zAn (l:List Value) (hl:l.length≤1000000):∀ (n i:Nat),i<l.length→i<n→zdi n l i=(true,bif allN (srtB l) (i+1) 0 then .inr () else .inl false)
 | 0,i,hi,hn=>by omega
 | n+1,i,hi,hn=>by
  show (zdm l i).ev (fun x y=>zdi n x.1 x.2.2.1) (fun r=>(true,r)) (false,.inl default)=_
  unfold zdm
  have hg:decide ((i:Int)>(0:Int))=decide (0<i):=zDt i 0
  cases i with
  | zero=>simp [Wy.ev_i,Wy.ev_k,allN,srtB]
  | succ i=>
   have hi':i<l.length:=by omega
   have hw:IntKind.i64.wrap (((i+1:Nat):Int) - 1)=(i:Int):=by rw [zzG (by omega) (by omega)]; rfl
   have hp:decide (0<i+1)=true:=by simp
   simp only [Wy.ev_i,Wy.ev_k,Wy.ev_h,Wy.ev_bn,Wy.ev_d,hg,hp,hw,tT,hi,hi',value_Compare_eq']
   rw [zAn l hl n i hi' (by omega),zCE _ (i+1),Nat.zero_add]
   have:srtB l (i+1)= !decide (cmpV (l.getD (i+1) default) (l.getD i default)<0):=by
    unfold srtB
    rw [show i+1 - 1=i from rfl,zCu (l.getD (i+1) default) (l.getD i default)]
    generalize cmpV (l.getD (i+1) default) (l.getD i default)=z
    by_cases hz:z<0
    ·have:¬ (-z≤0):=by omega
     simp [hz,this]
    ·have:(-z≤0):=by omega
     simp [hz,this]
   rw [this]
   cases decide (cmpV (l.getD (i+1) default) (l.getD i default)<0) <;>simp
theorem zFY (l:List Value) (hl:l.length≤1000000):zbR l=(true,allN (srtB l) l.length 0):=by
 unfold zbR zdH
 match l,hl with
 | [],_=>rfl
 | x::r,hl=>
  have hw:IntKind.i64.wrap (Int.ofNat (x::r).length - 1)=(r.length:Int):=by
   rw [List.length_cons] at hl
   rw [show Int.ofNat (x::r).length=(((x::r).length:Nat):Int) from rfl,zzG (by simp) (by simp; omega)]; rfl
  rw [Wy.fin_bn,hw,zAn (x::r) hl _ r.length (by simp) (by simp; omega)]
  cases allN (srtB (x::r)) (r.length+1) 0 with
  | true=>simp [Wy.fin_i,Wy.fin_k,isL]
  | false=>simp [Wy.fin_i,Wy.fin_k,isL,getL]
theorem zIh (l:List Value) (c:ColumnStats) (h:l.length≤1000000):zbw l c=(true, !l.all (zxT c.Min.Kind)):=by
 unfold zbw zc5
 have:zcz l c=IG (fun (g:ColumnStats×Unit) x=>zde x g.1) (l.length+c.Bounds.length+(Int.ofNat l.length).toNat +Int.toNat (0:Int)+(1000:Nat)) (c,()) l:=rfl
 have e:(!l.all (zxT c.Min.Kind))=l.any fun w=> !zxT c.Min.Kind w:=by simp [List.all_eq_not_any_not]
 rw [e]
 exact zAf (this.trans (zG5 _ _ _ _ _ (by omega) (fun x _=>by
  show zde x c=_
  unfold zde zin zxT
  simp only [Wy.fin_i,Wy.fin_k,Wy.fin_bn,zxc,cond_true,bne0]
  cases valV x <;>cases decide (x.Kind=c.Min.Kind) <;>rfl) (by omega)))
theorem ztN (c:ColumnStats) (rows:Int):zgy c rows=(true,okC c rows):=by
 unfold zgy zjE okC
 by_cases h0:rows=0
 ·subst h0
  simp only [zIs]
  simp only [Wy.fin_i,Wy.fin_k,beqd,if_pos,decide_true,cond_true]
  have e:decide (Int.ofNat c.Bounds.length=(0:Int))=decide (c.Bounds.length=0):=by
   by_cases h:c.Bounds.length=0
   ·rw [h]; rfl
   ·rw [decide_eq_false h,decide_eq_false]; intro hc; exact h (Int.ofNat.inj hc)
  rw [e]
  cases decide (c.Distinct=0) <;>cases decide (c.Min=zV) <;>cases decide (c.Max=zV) <;>rfl
 ·have e8:(Int.ofNat c.Bounds.length != (8:Int))= !decide (c.Bounds.length=8):=by
   rw [bne0]
   congr 1
   by_cases h:c.Bounds.length=8
   ·rw [h]; rfl
   ·rw [decide_eq_false h,decide_eq_false]; intro hc; exact h (Int.ofNat.inj hc)
  have er:(rows==(0:Int))=false:=by rw [beqd,decide_eq_false h0]
  have z7:Int.toNat (7:Int)=7:=rfl
  have z0:Int.toNat (0:Int)=0:=rfl
  have g1:decide (c.Distinct≥(1:Int))=decide (1≤c.Distinct):=rfl
  have gl:decide (cmpV (c.Bounds.getD 0 default) c.Min<0)= !decide (cmpV c.Min (c.Bounds.getD 0 default)≤0):=by
   rw [zCu c.Min (c.Bounds.getD 0 default)]
   generalize cmpV c.Min (c.Bounds.getD 0 default)=z
   by_cases h:z≤0
   ·have:¬ (-z<0):=by omega
    simp [h,this]
   ·have: -z<0:=by omega
    rw [decide_eq_true this,decide_eq_false h]; rfl
  simp only [veq]
  simp only [Wy.fin_i,Wy.fin_bn,Wy.fin_k,er,if_neg h0,cond_false,cond_true,zxc,value_Compare_eq',g1,beqd c.Min.Kind,e8,z7,z0,gl]
  by_cases h8:c.Bounds.length=8
  ·have e7:(decide ((0:Int)≤(7:Int))&&decide ((7:Int)<Int.ofNat c.Bounds.length))=true:=by rw [h8]; rfl
   have e0:(decide ((0:Int)≤(0:Int))&&decide ((0:Int)<Int.ofNat c.Bounds.length))=true:=by rw [h8]; rfl
   rw [e7,e0,zFY _ (by omega),zIh _ _ (by omega),decide_eq_true h8]
   cases decide (1≤c.Distinct) <;>cases decide (c.Distinct≤rows) <;>cases valV c.Min <;>cases valV c.Max <;>cases decide (c.Min.Kind=c.Max.Kind) <;>cases decide (cmpV c.Min c.Max≤0) <;>try rfl
   generalize allN (srtB c.Bounds) c.Bounds.length 0=q1
   generalize c.Bounds.all (zxT c.Min.Kind)=q2
   cases q1 <;>cases q2 <;>cases decide (c.Bounds.getD 7 default=c.Max) <;>cases decide (cmpV c.Min (c.Bounds.getD 0 default)≤0) <;>rfl
  ·rw [decide_eq_false h8]
   cases decide (1≤c.Distinct) <;>cases decide (c.Distinct≤rows) <;>cases valV c.Min <;>cases valV c.Max <;>cases decide (c.Min.Kind=c.Max.Kind) <;>cases decide (cmpV c.Min c.Max≤0) <;>rfl
theorem zHT (l:List ColumnStats) (s:Stats) (h:l.length≤1000000):zY l s=(true, !l.all fun c=>okC c s.Rows):=by
 unfold zY zbY
 have:zbv l s=IG (fun (g:Stats×Unit) x=>zgt x g.1) (l.length+s.Columns.length+(Int.ofNat l.length).toNat +Int.toNat (0:Int)+(1000:Nat)) (s,()) l:=rfl
 have e:(!l.all fun c=>okC c s.Rows)=l.any fun c=> !okC c s.Rows:=by simp [List.all_eq_not_any_not]
 rw [e]
 exact zAf (this.trans (zG5 _ _ _ _ _ (by omega) (fun x _=>by
  show zgt x s=_
  unfold zgt zlj
  rw [Wy.fin_bn,ztN]
  rfl) (by omega)))
theorem zrs (s:Stats):zgX s=(true,okS s):=by
 unfold zgX znc okS
 have el:decide (Int.ofNat s.Columns.length≤(16:Int))=decide (s.Columns.length≤16):=zwG _ 16
 have e0:decide (s.Rows≥(0:Int))=decide (0≤s.Rows):=rfl
 simp only [Wy.fin_i,Wy.fin_bn,Wy.fin_k,e0,el]
 by_cases hl:s.Columns.length≤16
 ·rw [zHT _ _ (by omega),decide_eq_true hl]
  cases decide (0≤s.Rows) <;>cases decide (s.Rows≤1000000) <;>try rfl
  cases s.Columns.all (fun c=>okC c s.Rows) <;>rfl
 ·rw [decide_eq_false hl]
  cases decide (0≤s.Rows) <;>cases decide (s.Rows≤1000000) <;>rfl
theorem zB0 (s:Stats) (k:Int):zbQ ⟨s⟩ k=(true,hasP s k):=by
 unfold zbQ ziJ hasP
 rw [Wy.fin_i,ge0]
 by_cases h:0≤k
 ·rw [decide_eq_true h]; rfl
 ·rw [decide_eq_false h]; rfl
theorem zwh (v:Value) (l:List Value) (hl:l.length≤1000):∀ (n i m:Nat),l.length<i+n→i≤l.length→m≤125*i→
   zgN n m l l.length i v=(true,((m+125*((l.drop i).filter fun b=>decide (cmpV b v<0)).length:Nat):Int))
 | 0,i,m,h,h2,_=>by omega
 | n+1,i,m,h,h2,h3=>by
  show (ziH m l l.length i v).ev (fun x y=>zgN n x.2.1 x.2.2.1 x.2.2.2.1 x.2.2.2.2.1 y.1) (fun r=>(true,r)) (false,default)=_
  unfold ziH
  by_cases hi:i<l.length
  ·have hw:IntKind.i64.wrap ((m:Int)+(125:Int))=((m+125:Nat):Int):=by
    rw [zj1 (by omega) (by omega)]; rfl
   simp only [Wy.ev_i,Wy.ev_k,Wy.ev_h,Wy.ev_bn,Wy.ev_d,tT,hi,value_Compare_eq',hw,zjl (show i<4611686018427387904 by omega)]
   rw [ztS hi]
   by_cases hx:cmpV (l.getD i default) v<0
   ·rw [decide_eq_true hx,cond_true,zwh v l hl n (i+1) (m+125) (by omega) (by omega) (by omega),List.filter_cons_of_pos (by simpa using hx),List.length_cons]
    congr 2; omega
   ·rw [decide_eq_false hx,cond_false,zwh v l hl n (i+1) m (by omega) (by omega) (by omega),List.filter_cons_of_neg (by simpa using hx)]
  ·simp only [Wy.ev_i,Wy.ev_k,Wy.ev_h,Wy.ev_bn,Wy.ev_d,tT,hi,ztV hi]
   rfl
theorem zCP {s:Stats} (h:okS s=true) {k:Int} (hk:hasP s k=true) (v:Value):zcT ⟨s⟩ k v=(true,ltP s k.toNat v):=by
 obtain ⟨h1,h2⟩:=znf hk
 have hb:=zzz h h2
 have hz:∀ (n:Nat),(s.Columns.getD k.toNat default).Bounds.length<n→zgN n 0 (s.Columns.getD k.toNat default).Bounds (Int.ofNat (s.Columns.getD k.toNat default).Bounds.length) 0 v=(true,ltP s k.toNat v):=fun n hn=>by
  have:=zwh v (s.Columns.getD k.toNat default).Bounds (by omega) n 0 0 (by omega) (by omega) (by omega)
  rw [List.drop_zero,Nat.zero_add] at this
  exact this
 have hin:(decide ((0:Int)≤k)&&decide (k<Int.ofNat s.Columns.length))=true:=hk
 unfold zcT zi2
 rw [Wy.fin_i,hin,cond_true,Wy.fin_bn,hz _ (by omega)]
 rfl
theorem zzx {s:Stats} (h:okS s=true) {k:Int} (hk:hasP s k=true) (v:Value):zcn ⟨s⟩ k v=(true,eqP s k.toNat v):=by
 rw [← zzC h hk]
 unfold zcn zjf zpj zyb
 simp only [value_Compare_eq',ref01_Compare_eq']
theorem zFZ {s:Stats} (h:okS s=true) {k:Int} (hk:hasP s k=true) (v:Value):zd4 ⟨s⟩ k v=(true,leP s k.toNat v):=by
 obtain ⟨_,hk2⟩:=znf hk
 have h1:=ztU h hk2 v
 have h2:=zr6 h hk2 v
 unfold zd4 zi5 leP
 rw [Wy.fin_bn,zCP h hk,cond_true,Wy.fin_bn,zzx h hk,cond_true,Wy.fin_k,zj1 (by omega) (by omega)]
theorem zwQ {s:Stats} (h:okS s=true) (op:Int) {k:Int} (hk:hasP s k=true) (v:Value):zbH ⟨s⟩ op k v=(true,zfl s op k.toNat v):=by
 obtain ⟨h1,h2⟩:=znf hk
 rw [← zzk h op hk]
 unfold zbH zhn znF zpd
 have e1:=zv3 h h2 v
 have e2:=zAk h h2 v
 rw [h1] at e1 e2
 simp only [Wy.fin_i,Wy.fin_bn,Wy.fin_k,zCP h hk,zzx h hk,zFZ h hk,zzC h hk,e1,e2]
theorem zB3 {s:Stats} (h:okS s=true) (op:Int) {a b:Int} (ha:hasP s a=true) (hb:hasP s b=true):zbF ⟨s⟩ op a b=(true,zzS s op a.toNat b.toNat):=by
 obtain ⟨a1,a2⟩:=znf ha
 obtain ⟨b1,b2⟩:=znf hb
 obtain ⟨h1,h2,h3,h4⟩:=zwW h
 have hca:=h4 _ (zh1 a2)
 have ia:(decide ((0:Int)≤a)&&decide (a<Int.ofNat s.Columns.length))=true:=ha
 have ib:(decide ((0:Int)≤b)&&decide (b<Int.ofNat s.Columns.length))=true:=hb
 unfold zbF zhq zzS
 simp only [Wy.fin_i,Wy.fin_k,ia,ib,cond_true,beqd]
 by_cases h0:s.Rows>0
 ·have hd:=(zwU (by omega) hca).1
  have hm:(if (s.Columns.getD b.toNat default).Distinct>(s.Columns.getD a.toNat default).Distinct then (s.Columns.getD b.toNat default).Distinct else (s.Columns.getD a.toNat default).Distinct)=maxP (s.Columns.getD a.toNat default).Distinct (s.Columns.getD b.toNat default).Distinct:=rfl
  have hm1:1≤maxP (s.Columns.getD a.toNat default).Distinct (s.Columns.getD b.toNat default).Distinct:=by unfold maxP; split <;>omega
  have hne:¬ maxP (s.Columns.getD a.toNat default).Distinct (s.Columns.getD b.toNat default).Distinct=0:=by omega
  have hq:=zDW hm1
  simp only [hm,zEK hm1,decide_eq_true h0,decide_eq_false hne,if_pos h0,cond_true,Bool.not_false,zAY (show 0≤qP (maxP (s.Columns.getD a.toNat default).Distinct (s.Columns.getD b.toNat default).Distinct)∧qP (maxP (s.Columns.getD a.toNat default).Distinct (s.Columns.getD b.toNat default).Distinct)≤1000 by omega)]
  by_cases h5:op=5
  ·simp [h5]
  ·by_cases h6:op=6
   ·simp [h6]
   ·simp [h5,h6]
 ·simp only [decide_eq_false h0,if_neg h0,cond_false]
  by_cases h5:op=5
  ·simp [h5]
  ·by_cases h6:op=6
   ·simp [h6]; rfl
   ·simp [h5,h6]
theorem zEm (op:Int):zhQ op=(true,mirP op):=by
 have hk:∀ a b:Int,zjb (Value.int IntKind.i64 a) (Value.int IntKind.i64 b)=decide (a=b):=fun a b=>beqd a b
 unfold zhQ zlm mirP zG8 zHb ztE
 simp only [mset,mget,mhas,hk]
 by_cases h7:op=7
 ·subst h7; rfl
 ·by_cases h8:op=8
  ·subst h8; rfl
  ·by_cases h9:op=9
   ·subst h9; rfl
   ·by_cases h10:op=10
    ·subst h10; rfl
    ·simp [Wy.fin_i,Wy.fin_k,h7,h8,h9,h10,mset,mhas,hk]
theorem zC5 {s:Stats} (h:okS s=true) (op:Int) (x y:Scalar):zbn ⟨s⟩ op x y=(true,cmpP s op x y):=by
 unfold zbn zgw
 simp only [Wy.fin_i,Wy.fin_bn,Wy.fin_k,zB0,zEm,beqd,bne0,cond_true]
 unfold cmpP
 by_cases x0:x.Kind=0
 ·have x1:¬ x.Kind=1:=by omega
  have x2:¬ x.Kind=2:=by omega
  by_cases y1:y.Kind=1
  ·have y0:¬ y.Kind=0:=by omega
   cases hy:hasP s y.Column with
   | false=>simp [x0,y1,hy]
   | true=>simp [x0,y1,hy,zwQ h (mirP op) hy]
  ·simp [x0,y1]
 ·by_cases x1:x.Kind=1
  ·cases hx:hasP s x.Column with
   | false=>
    by_cases y2:y.Kind=2 <;>simp [x1,hx,y2]
   | true=>
    by_cases y2:y.Kind=2
    ·simp [x1,hx,y2]
    ·by_cases y1:y.Kind=1
     ·cases hy:hasP s y.Column with
      | false=>simp [x1,hx,y1,hy]
      | true=>simp [x1,hx,y1,hy,zB3 h op hx hy]
     ·by_cases y0:y.Kind=0
      ·simp [x1,hx,y0,zwQ h op hx]
      ·simp [x1,hx,y0,y1,y2]
  ·simp [x0,x1]
theorem zF8 {g:estimator→Scalar→Bool×Int} {s:Stats} (h:okS s=true) (e:Scalar) (n:Nat) (hg:∀ z∈e.Args,g ⟨s⟩ z=(true,estP s n z)):zd1 g ⟨s⟩ e=(true,estP s (n+1) e):=by
 have hr:=zxy h n
 have z0:Int.toNat (0:Int)=0:=rfl
 have z1:Int.toNat (1:Int)=1:=rfl
 have e2:(Int.ofNat e.Args.length != (2:Int))= !decide (e.Args.length=2):=by
  rw [bne0]
  congr 1
  by_cases h:e.Args.length=2
  ·rw [h]; rfl
  ·rw [decide_eq_false h,decide_eq_false]; intro hc; exact h (Int.ofNat.inj hc)
 have e1:(Int.ofNat e.Args.length==(1:Int))=decide (e.Args.length=1):=by
  rw [beqd]
  by_cases h:e.Args.length=1
  ·rw [h]; rfl
  ·rw [decide_eq_false h,decide_eq_false]; intro hc; exact h (Int.ofNat.inj hc)
 unfold zd1 zhO estP
 simp only [vyes]
 simp only [Wy.fin_i,Wy.fin_bn,Wy.fin_k,Wy.fin_d,Scalar.eta,e1,e2,z0,z1,zB0,zC5 h]
 simp only [beqd,bne0,cond_true]
 by_cases k0:e.Kind=0
 ·rw [decide_eq_true k0,if_pos k0,cond_true]
  by_cases hv:e.Value=yesV
  ·rw [if_pos hv,decide_eq_true (show e.Value=⟨2,1,ByteArray.mk #[]⟩ from hv)]; rfl
  ·rw [if_neg hv,decide_eq_false (show ¬ e.Value=⟨2,1,ByteArray.mk #[]⟩ from hv)]; rfl
 ·rw [decide_eq_false k0,if_neg k0,cond_false]
  by_cases k1:e.Kind=1
  ·have k2:¬ e.Kind=2:=by omega
   rw [decide_eq_true k1,if_pos k1,cond_true]
   cases hh:hasP s e.Column with
   | false=>rw [decide_eq_false k2]; rfl
   | true=>rw [zzx h hh]; rfl
  ·rw [decide_eq_false k1,if_neg k1,cond_false]
   by_cases k2:e.Kind=2
   ·rw [decide_eq_true k2,if_neg (show ¬ (e.Kind≠2) from fun hc=>hc k2),Bool.not_true,cond_false]
    by_cases h2:e.Args.length=2
    ·have h1:¬ e.Args.length=1:=by omega
     have m0:e.Args.getD 0 default∈e.Args:=zh1 (by omega)
     have m1:e.Args.getD 1 default∈e.Args:=zh1 (by omega)
     have c0:(decide ((0:Int)≤(0:Int))&&decide ((0:Int)<Int.ofNat e.Args.length))=true:=by rw [h2]; rfl
     have c1:(decide ((0:Int)≤(1:Int))&&decide ((1:Int)<Int.ofNat e.Args.length))=true:=by rw [h2]; rfl
     rw [c0,c1,hg _ m0,hg _ m1,decide_eq_false h1,decide_eq_true h2]
     simp only [cond_true,cond_false,Bool.not_true]
     rw [wsum (hr _) (hr _),wmul (hr _) (hr _),if_neg (show ¬ (e.Op=13∧e.Args.length=1) from fun hc=>h1 hc.2),if_neg (show ¬ (e.Args.length≠2) from fun hc=>hc h2)]
     have ht:∀ q,q=(bif decide (e.Op=11) then (true,(estP s n (e.Args.getD 0 default)*estP s n (e.Args.getD 1 default)).tdiv 1000) else bif decide (e.Op=12) then (true,estP s n (e.Args.getD 0 default)+estP s n (e.Args.getD 1 default) - (estP s n (e.Args.getD 0 default)*estP s n (e.Args.getD 1 default)).tdiv 1000) else bif decide (e.Op≥5) then bif decide (e.Op≤10) then (true,cmpP s e.Op (e.Args.getD 0 default) (e.Args.getD 1 default)) else (true,(333:Int)) else (true,333))→
       q=(true,if e.Op=11 then Int.tdiv (estP s n (e.Args.getD 0 default)*estP s n (e.Args.getD 1 default)) 1000
   else if e.Op=12 then estP s n (e.Args.getD 0 default)+estP s n (e.Args.getD 1 default) - Int.tdiv (estP s n (e.Args.getD 0 default)*estP s n (e.Args.getD 1 default)) 1000
   else if e.Op<5∨e.Op>10 then 333 else cmpP s e.Op (e.Args.getD 0 default) (e.Args.getD 1 default)):=fun q hq=>by
      rw [hq]
      by_cases o1:e.Op=11
      ·rw [decide_eq_true o1,if_pos o1]; rfl
      ·by_cases o2:e.Op=12
       ·rw [decide_eq_false o1,if_neg o1,decide_eq_true o2,if_pos o2]; rfl
       ·rw [decide_eq_false o1,if_neg o1,decide_eq_false o2,if_neg o2]
        by_cases o3:e.Op≥5
        ·by_cases o4:e.Op≤10
         ·rw [decide_eq_true o3,decide_eq_true o4,if_neg (show ¬ (e.Op<5∨e.Op>10) by omega)]; rfl
         ·rw [decide_eq_true o3,decide_eq_false o4,if_pos (show (e.Op<5∨e.Op>10) by omega)]; rfl
        ·rw [decide_eq_false o3,if_pos (show (e.Op<5∨e.Op>10) by omega)]; rfl
     by_cases h13:e.Op=13
     ·rw [decide_eq_true h13,cond_true]
      exact ht _ rfl
     ·rw [decide_eq_false h13,cond_false]
      exact ht _ rfl
    ·rw [decide_eq_false h2]
     simp only [cond_true,Bool.not_false]
     by_cases h13:e.Op=13
     ·by_cases h1:e.Args.length=1
      ·have c0:(decide ((0:Int)≤(0:Int))&&decide ((0:Int)<Int.ofNat e.Args.length))=true:=by rw [h1]; rfl
       rw [c0,hg _ (zh1 (by omega)),decide_eq_true h13,decide_eq_true h1,if_pos (show e.Op=13∧e.Args.length=1 from ⟨h13,h1⟩)]
       simp only [cond_true]
       rw [zAY (hr _)]
      ·rw [decide_eq_true h13,decide_eq_false h1,if_neg (show ¬ (e.Op=13∧e.Args.length=1) from fun hc=>h1 hc.2),if_pos (show e.Args.length≠2 from h2)]; rfl
     ·rw [decide_eq_false h13,if_neg (show ¬ (e.Op=13∧e.Args.length=1) from fun hc=>h13 hc.1),if_pos (show e.Args.length≠2 from h2)]; rfl
   ·rw [decide_eq_false k2,if_pos (show e.Kind≠2 from k2)]; rfl
theorem zF2 {s:Stats} (h:okS s=true):∀ (d n:Nat) (e:Scalar),zgp d e→d≤n→zcN n ⟨s⟩ e=(true,estP s n e)
 | 0,_,_,hf,_=>hf.elim
 | d+1,0,_,_,hd=>by omega
 | d+1,n+1,e,hf,hd=>by
  rw [zq2]
  exact zF8 h e n fun z hz=>zF2 h d n z (hf.2 z hz) (by omega)
theorem zHe {s:Stats} (h:okS s=true) {e:Scalar} (hf:zgp 32 e):zi4 ⟨s⟩ e=(true,estP s 32 e):=by
 show zcN 1000 ⟨s⟩ e=_
 rw [zF2 h 32 1000 e hf (by omega),zzj s 32 1000 32 e hf (by omega) (by omega)]
theorem znG (s:Stats) {e:Scalar} (hf:zgp 32 e):zbf s e=(true,selP s e):=by
 unfold zbf zjD selP
 simp only [Wy.fin_i,Wy.fin_bn,Wy.fin_k,zrs,cond_true,Scalar.eta]
 cases h:okS s with
 | false=>rfl
 | true=>
  have:=zHe h hf
  rw [this]; rfl
theorem zGH (s:Stats) (e:Scalar):0≤selP s e∧selP s e≤1000:=by
 unfold selP
 cases h:okS s with
 | false=>simp
 | true=>exact zxy h 32 e
def colE:Scalar:=⟨1,0,zV,0,[]⟩
def valE (v:Value):Scalar:=⟨0,0,v,0,[]⟩
def cmpE (op:Int) (x y:Scalar):Scalar:=⟨2,0,zV,op,[x,y]⟩
theorem zBJ (op:Int) (v:Value):zS op v=(true,cmpE op colE (valE v)):=rfl
theorem zCG (op:Int) (v:Value):zgp 32 (cmpE op colE (valE v))∧zgp 32 (cmpE op (valE v) colE):=by
 have h1:zgp 31 colE:=⟨by simp [colE],fun x hx=>by simp [colE] at hx⟩
 have h2:zgp 31 (valE v):=⟨by simp [valE],fun x hx=>by simp [valE] at hx⟩
 refine ⟨⟨by simp [cmpE],fun x hx=> ?_⟩,⟨by simp [cmpE],fun x hx=> ?_⟩⟩
 all_goals
  simp only [cmpE,List.mem_cons,List.not_mem_nil,or_false] at hx
  rcases hx with rfl | rfl <;>assumption
theorem zEG {s:Stats} (h:okS s=true) (h0:0<s.Columns.length) {op:Int} (ho:5≤op∧op≤10) (v:Value):zbf s (cmpE op colE (valE v))=(true,zfl s op 0 v):=by
 have hh:hasP s 0=true:=zrL.2 ⟨Int.le_refl _,h0⟩
 rw [znG s (zCG op v).1]
 unfold selP
 rw [h,cond_true]
 have e:estP s 32 (cmpE op colE (valE v))=cmpP s op colE (valE v):=by
  have:¬ op=13:=by omega
  have a:¬ op=11:=by omega
  have b:¬ op=12:=by omega
  have c:¬ (op<5∨op>10):=by omega
  show estP s (31+1) _=_
  unfold estP
  simp [cmpE,this,a,b,c]
 rw [e]
 have e2:cmpP s op colE (valE v)=zfl s op 0 v:=by simp [cmpP,colE,valE,hh]
 rw [e2]
theorem sel_cmp' {s:Stats} (h:okS s=true) (h0:0<s.Columns.length) {op:Int} (ho:5≤op∧op≤10) (v:Value):zbf s (cmpE op (valE v) colE)=(true,zfl s (mirP op) 0 v):=by
 have hh:hasP s 0=true:=zrL.2 ⟨Int.le_refl _,h0⟩
 rw [znG s (zCG op v).2]
 unfold selP
 rw [h,cond_true]
 have e:estP s 32 (cmpE op (valE v) colE)=cmpP s op (valE v) colE:=by
  have:¬ op=13:=by omega
  have a:¬ op=11:=by omega
  have b:¬ op=12:=by omega
  have c:¬ (op<5∨op>10):=by omega
  show estP s (31+1) _=_
  unfold estP
  simp [cmpE,this,a,b,c]
 rw [e]
 have e2:cmpP s op (valE v) colE=zfl s (mirP op) 0 v:=by simp [cmpP,colE,valE,hh]
 rw [e2]
theorem zGx (s:Stats) (q:Nat) (e:Scalar):estP s (q+1) (Scalar.mk (2:Int) (0:Int) (Value.mk (0:Int) (0:Int) (ByteArray.mk #[])) (13:Int) [e])=1000 - estP s q e:=by
 rw [estP]
 simp
def cP:List Int:=[5,6,7,10,9,8]
def cM:List Int:=[5,6,9,8,7,10]
theorem zpM {s:Stats} (h:okS s=true) (h0:0<s.Columns.length) (v:Value) (i:Nat) (op mop pop:Int) (hi:i<6) (h1:cP.getD i default=op) (h2:cM.getD i default=mop) (h3:i % 2=1→cP.getD (i - 1) default=pop∧zfl s op 0 v+zfl s pop 0 v=1000) (h4:zfl s (mirP mop) 0 v=zfl s op 0 v) (ho:5≤op∧op≤10) (hm:5≤mop∧mop≤10) (hp:5≤pop∧pop≤10) (n:Nat):
  zda (n+1) i s v cP cM=zda n ((i+1:Nat):Int) s v cP cM:=by
 show (zhi i s v cP cM).ev (zba zeG (.inl default) n) (fun r=>(true,r)) (false,.inl default)=_
 unfold zhi
 have l1:decide ((i:Int)<Int.ofNat cP.length)=true:=decide_eq_true (by show (i:Int)<6; omega)
 have l2:(decide ((0:Int)≤(i:Int))&&decide ((i:Int)<Int.ofNat cP.length))=true:=by rw [l1,decide_eq_true (by omega)]; rfl
 have l3:(decide ((0:Int)≤(i:Int))&&decide ((i:Int)<Int.ofNat cM.length))=true:=by rw [decide_eq_true (show (i:Int)<Int.ofNat cM.length by show (i:Int)<6; omega),decide_eq_true (by omega)]; rfl
 have a1:∀ op:Int,(cmpE op colE (valE v)).Args.getD (Int.toNat (1:Int)) default=valE v:=fun _=>rfl
 have a0:∀ op:Int,(cmpE op colE (valE v)).Args.getD (Int.toNat (0:Int)) default=colE:=fun _=>rfl
 have mk:(Scalar.mk (2:Int) (0:Int) (Value.mk (0:Int) (0:Int) (ByteArray.mk #[])) mop [valE v,colE])=cmpE mop (valE v) colE:=rfl
 have tm:((i:Int).tmod (2:Int)==(1:Int))=decide (i % 2=1):=zEI (i % 2) 1
 simp only [Wy.ev_i,Wy.ev_bn,Int.toNat_natCast,l1,l2,l3,h1,h2,zBJ,Scalar.eta,a0,a1,mk,zEG h h0 ho,sel_cmp' h h0 hm,h4,cond_true,bne0,decide_true,Bool.not_true,cond_false,tm]
 by_cases hodd:i % 2=1
 ·obtain ⟨h5,h6⟩:=h3 hodd
  have hw:IntKind.i64.wrap ((i:Int) - 1)=((i - 1:Nat):Int):=zzG (by omega) (by omega)
  have l4:(decide ((0:Int)≤((i - 1:Nat):Int))&&decide (((i - 1:Nat):Int)<Int.ofNat cP.length))=true:=by rw [decide_eq_true (show ((i - 1:Nat):Int)<Int.ofNat cP.length by show ((i - 1:Nat):Int)<6; omega),decide_eq_true (by omega)]; rfl
  rw [decide_eq_true hodd,cond_true,hw,l4,cond_true]
  simp only [Int.toNat_natCast,h5,zBJ,zEG h h0 hp,cond_true]
  rw [h6,show IntKind.i64.wrap (1000:Int)=1000 by decide,decide_eq_true rfl,Bool.not_true,cond_false,Wy.ev_h,zjl (by omega)]
  rfl
 ·rw [decide_eq_false hodd,cond_false,Wy.ev_h,zjl (by omega)]
  rfl
theorem zAC (s:Stats) (e:Scalar) (v:Value) (hs:wf30 s) (he:wf47 e) (_:wf40 v):zc0 s e v=(true,true):=by
 obtain ⟨q,q1,q2⟩:=zGI s hs
 obtain ⟨p,p1,p2⟩:=zGw e he
 have l8:okS s=true→0<s.Columns.length→zkx 1 s v=(true,true):=fun h h0=>by
  have r1:=ztU h h0 v
  have r2:=zr6 h h0 v
  have r3:=zB9 h h0 v
  have c5:zfl s 5 0 v=eqP s 0 v:=rfl
  have c6:zfl s 6 0 v=1000 - eqP s 0 v:=rfl
  have c7:zfl s 7 0 v=ltP s 0 v:=rfl
  have c8:zfl s 8 0 v=leP s 0 v:=rfl
  have c9:zfl s 9 0 v=1000 - leP s 0 v:=rfl
  have c10:zfl s 10 0 v=1000 - ltP s 0 v:=rfl
  have run:∀ n,zda (n+7) (0:Int) s v cP cM=(true,.inr ()):=fun n=>by
   have s0:=zpM h h0 v 0 5 5 5 (by omega) rfl rfl (fun hc=>by omega) rfl (by omega) (by omega) (by omega) (n+6)
   have s1:=zpM h h0 v 1 6 6 5 (by omega) rfl rfl (fun _=>⟨rfl,by rw [c6,c5]; omega⟩) rfl (by omega) (by omega) (by omega) (n+5)
   have s2:=zpM h h0 v 2 7 9 5 (by omega) rfl rfl (fun hc=>by omega) rfl (by omega) (by omega) (by omega) (n+4)
   have s3:=zpM h h0 v 3 10 8 7 (by omega) rfl rfl (fun _=>⟨rfl,by rw [c10,c7]; omega⟩) rfl (by omega) (by omega) (by omega) (n+3)
   have s4:=zpM h h0 v 4 9 7 5 (by omega) rfl rfl (fun hc=>by omega) rfl (by omega) (by omega) (by omega) (n+2)
   have s5:=zpM h h0 v 5 8 10 9 (by omega) rfl rfl (fun _=>⟨rfl,by rw [c8,c9]; omega⟩) rfl (by omega) (by omega) (by omega) (n+1)
   refine s0.trans (s1.trans (s2.trans (s3.trans (s4.trans (s5.trans ?_)))))
   rfl
  show (zhM s v).ev (zba zfb default 0) (fun r=>(true,r)) (false,default)=_
  unfold zhM
  rw [Wy.ev_bn]
  have hf:∀ a:Nat,zda (a+1000) (0:Int) s v [(5:Int),(6:Int),(7:Int),(10:Int),(9:Int),(8:Int)] [(5:Int),(6:Int),(9:Int),(8:Int),(7:Int),(10:Int)]=(true,.inr ()):=fun a=>run (a+993)
  rw [hf]; rfl
 have l5:zgp 31 e→okS s=true→0<s.Columns.length→zkE 1 s e v=(true,true):=fun hf h h0=>by
  show (zhJ s e v).ev (zba zfa default 0) (fun r=>(true,r)) (false,default)=_
  unfold zhJ
  have hn:zgp 32 (Scalar.mk (2:Int) (0:Int) (Value.mk (0:Int) (0:Int) (ByteArray.mk #[])) (13:Int) [e]):=⟨by simp,fun x hx=>by
   simp only [List.mem_singleton] at hx; subst hx; exact hf⟩
  have hsel:selP s (Scalar.mk (2:Int) (0:Int) (Value.mk (0:Int) (0:Int) (ByteArray.mk #[])) (13:Int) [e])=1000 - selP s e:=by
   unfold selP
   rw [h,cond_true,cond_true,zzj s 31 32 31 e hf (by omega) (by omega)]
   exact zGx s 31 e
  have hr:=zGH s e
  simp only [Wy.ev_i,Wy.ev_k,Wy.ev_bn,Scalar.eta,znG s (hf.mono (show 31≤32 by omega)),znG s hn,hsel,cond_true]
  rw [show selP s e+(1000 - selP s e)=1000 by omega,show IntKind.i64.wrap (1000:Int)=1000 by decide,l8 h h0]
  rfl
 have l3:zkD 1 s e v=(true,true):=by
  show (zhH s e v).ev (zba ze9 default 0) (fun r=>(true,r)) (false,default)=_
  unfold zhH
  simp only [Wy.ev_i,Wy.ev_k,Wy.ev_bn,Scalar.eta,q1,p1,zrs,cond_true]
  generalize decide (_>(300:Int))=z
  have e0:(Int.ofNat s.Columns.length==(0:Int))=decide (s.Columns.length=0):=zEI _ 0
  rw [e0]
  by_cases hc:s.Columns.length=0
  ·rw [decide_eq_true hc]
   cases q <;>cases p <;>cases z <;>cases okS s <;>rfl
  ·rw [decide_eq_false hc]
   cases q with
   | false=>rfl
   | true=>
    cases p with
    | false=>rfl
    | true=>
     cases z with
     | true=>rfl
     | false=>
      cases h:okS s with
      | false=>rfl
      | true=>rw [l5 (p2 rfl) h (by omega)]; rfl
 unfold zc0 zh4
 rw [Wy.fin_bn,Scalar.eta,l3]
 rfl
end Go.Proofs.YtddkaehkimnklaaGreatDoor
end
