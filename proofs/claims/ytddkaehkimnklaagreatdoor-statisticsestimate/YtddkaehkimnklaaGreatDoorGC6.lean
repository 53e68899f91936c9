/- Texts of this claim, joined (the program, its functions in plain words, and what they compute). -/
import Derived.KernelRfl
import Derived.Test.YtddkaehkimnklaaGreatDoorGC5
import Derived.Test.YtddkaehkimnklaaGreatDoorGC1
import Derived.Test.YtddkaehkimnklaaGreatDoorGA3
import Derived.Test.YtddkaehkimnklaaGreatDoorGC4
set_option autoImplicit false
set_option linter.unusedVariables false
set_option linter.unusedSectionVars false
set_option linter.unusedSimpArgs false
set_option maxRecDepth 1000000
set_option maxHeartbeats 0
/- The reference's estimates are what they are said to be. -/
noncomputable section
namespace Go.Proofs.YtddkaehkimnklaaGreatDoor
open Go Go.Ab
theorem ge0 (k:Int):decide (k≥(0:Int))=decide (0≤k):=rfl
theorem zDD (s:Stats) (k:Nat) (v:Value) (hk:k<s.Columns.length) (hb:(s.Columns.getD k default).Bounds.length≤1000):
  ∀ (n i m:Nat),(s.Columns.getD k default).Bounds.length<i+n→i≤(s.Columns.getD k default).Bounds.length→m≤125*i→
   zs1 n k m i s v=(true,((m+125*(((s.Columns.getD k default).Bounds.drop i).filter fun b=>decide (cmpV b v<0)).length:Nat):Int))
 | 0,i,m,h,h2,_=>by omega
 | n+1,i,m,h,h2,h3=>by
  show (zw4 k m i s v).ev (fun x y=>zs1 n x.1 x.2.2.2.1 x.2.2.2.2.1 y.1 y.2.1) (fun r=>(true,r)) (false,default)=_
  unfold zw4
  by_cases hi:i<(s.Columns.getD k default).Bounds.length
  ·have hw:IntKind.i64.wrap ((m:Int)+(125:Int))=((m+125:Nat):Int):=by
    rw [zcq (by omega) (by omega)]; rfl
   simp only [Wy.ev_i,Wy.ev_k,Wy.ev_h,Wy.ev_bn,Wy.ev_d,tT,hi,hk,ref01_Compare_eq',hw,zcs (show i<4611686018427387904 by omega)]
   rw [zjN hi]
   by_cases hx:cmpV ((s.Columns.getD k default).Bounds.getD i default) v<0
   ·rw [decide_eq_true hx,cond_true,zDD s k v hk hb n (i+1) (m+125) (by omega) (by omega) (by omega),List.filter_cons_of_pos (by simpa using hx),List.length_cons]
    congr 2; omega
   ·rw [decide_eq_false hx,cond_false,zDD s k v hk hb n (i+1) m (by omega) (by omega) (by omega),List.filter_cons_of_neg (by simpa using hx)]
  ·simp only [Wy.ev_i,Wy.ev_k,Wy.ev_h,Wy.ev_bn,Wy.ev_d,tT,hi,hk,zjR hi]
   rfl
theorem zwY {s:Stats} (h:okS s=true) {k:Nat} (hk:k<s.Columns.length) (v:Value):zvE s k v=(true,ltP s k v):=by
 have hb:=zAI h hk
 have hz:∀ (n:Nat),(s.Columns.getD k default).Bounds.length<n→zs1 n k 0 0 s v=(true,ltP s k v):=fun n hn=>by
  have:=zDD s k v hk (by omega) n 0 0 (by omega) (by omega) (by omega)
  rw [List.drop_zero,Nat.zero_add] at this
  exact this
 unfold zvE zCK
 rw [Wy.fin_bn,hz _ (by omega)]
 rfl
theorem zJe {s:Stats} {k:Nat} (hk:k<s.Columns.length):(decide ((0:Int)≤(k:Int))&&decide ((k:Int)<Int.ofNat s.Columns.length))=true:=by
 simp only [tT,hk]
theorem zxm {s:Stats} (h:okS s=true) {k:Nat} (hk:k<s.Columns.length) (v:Value):zp6 s k v=(true,eqP s k v):=by
 obtain ⟨h1,h2,h3,h4⟩:=zxD h
 have hc:=h4 _ (zc6 hk)
 unfold zp6 zyv eqP
 simp only [Wy.fin_i,Wy.fin_bn,Wy.fin_k,zJe hk,cond_true,Int.toNat_natCast,ref01_Compare_eq',beqd]
 by_cases h0:s.Rows=0
 ·rw [decide_eq_true h0,if_pos h0]; rfl
 ·have hd:=(zxX h0 hc).1
  have hne:¬ (s.Columns.getD k default).Distinct=0:=by omega
  rw [decide_eq_false h0,if_neg h0,decide_eq_false hne,zGD hd]
  by_cases g1:cmpV v (s.Columns.getD k default).Min<0
  ·rw [decide_eq_true g1,if_pos g1]; rfl
  ·rw [decide_eq_false g1,if_neg g1]
   by_cases g2:cmpV v (s.Columns.getD k default).Max>0
   ·rw [decide_eq_true g2,if_pos g2]; rfl
   ·rw [decide_eq_false g2,if_neg g2]; rfl
theorem zBz {s:Stats} (h:okS s=true) {k:Nat} (hk:k<s.Columns.length) (v:Value):zyy s k v=(true,leP s k v):=by
 have h1:=zu1 h hk v
 have h2:=zuY h hk v
 unfold zyy zC2 leP
 rw [Wy.fin_bn,zwY h hk,cond_true,Wy.fin_bn,zxm h hk,cond_true,Wy.fin_k,zcq (by omega) (by omega)]
theorem zCh {x:Int} (h:0≤x∧x≤1000):IntKind.i64.wrap ((1000:Int) - x)=1000 - x:=zcq (by omega) (by omega)
theorem zBb {s:Stats} (h:okS s=true) (op:Int) {k:Nat} (hk:k<s.Columns.length) (v:Value):zop s op k v=(true,znV s op k v):=by
 unfold zop zp5 znV
 simp only [Wy.fin_i,Wy.fin_bn,Wy.fin_k,zwY h hk,zxm h hk,zBz h hk,cond_true,beqd,zCh (zuY h hk v),zCh (zu1 h hk v),zCh (zGH h hk v)]
 by_cases h5:op=5
 ·rw [decide_eq_true h5,if_pos h5]; rfl
 ·rw [decide_eq_false h5,if_neg h5,cond_false]
  by_cases h6:op=6
  ·rw [decide_eq_true h6,if_pos h6]; rfl
  ·rw [decide_eq_false h6,if_neg h6,cond_false]
   by_cases h7:op=7
   ·rw [decide_eq_true h7,if_pos h7]; rfl
   ·rw [decide_eq_false h7,if_neg h7,cond_false]
    by_cases h8:op=8
    ·rw [decide_eq_true h8,if_pos h8]; rfl
    ·rw [decide_eq_false h8,if_neg h8,cond_false]
     by_cases h9:op=9
     ·rw [decide_eq_true h9,if_pos h9]; rfl
     ·rw [decide_eq_false h9,if_neg h9]; rfl
theorem zCN (l:List Value) (m:Int) (hl:l.length≤roomLen):∀ (n i:Nat),l.length<i+n→i≤l.length→∃ r,zsQ n l m i=(true,r)∧(r=.inl false∨(r=.inr (l,m)∧∀ x∈l.drop i,x.Text.size≤300))
 | 0,i,h,h2=>by omega
 | n+1,i,h,h2=>by
  show ∃ r,(zsL l m i).ev (fun x y=>zsQ n x.1 x.2.1 x.2.2.1) (fun r=>(true,r)) (false,.inl default)=(true,r)∧_
  unfold zsL
  by_cases hi:i<l.length
  ·have hw:i<4611686018427387904:=by
    have:roomLen<4611686018427387904:=by decide
    omega
   have hs:decide (((l.getD i default).Text.size:Int)>(300:Int))=decide ((l.getD i default).Text.size>300):=zzQ _ 300
   simp only [Wy.ev_i,Wy.ev_k,Wy.ev_h,Wy.ev_bn,Wy.ev_d,tT,hi]
   rw [hs]
   by_cases h3:(l.getD i default).Text.size>300
   ·rw [decide_eq_true h3]
    exact ⟨_,rfl,.inl rfl⟩
   ·rw [decide_eq_false h3,cond_false,zcs hw]
    obtain ⟨r,h4,h5⟩:=zCN l m hl n (i+1) (by omega) (by omega)
    refine ⟨r,h4, ?_⟩
    rcases h5 with h5 | ⟨h5,h6⟩
    ·exact .inl h5
    ·refine .inr ⟨h5,fun x hx=> ?_⟩
     rw [zjN hi] at hx
     rcases List.mem_cons.1 hx with rfl | hx
     ·omega
     ·exact h6 x hx
  ·simp only [Wy.ev_i,Wy.ev_k,Wy.ev_h,Wy.ev_bn,Wy.ev_d,tT,hi]
   exact ⟨_,rfl,.inr ⟨rfl,fun x hx=>by rw [zjR hi] at hx; cases hx⟩⟩
theorem zIK (l:List Value) (m:Nat) (hl:l.length≤roomLen):∃ b,zm6 l m=(true,b)∧(b=true→l.length≤m∧∀ x∈l,x.Text.size≤300):=by
 unfold zm6 zt1
 obtain ⟨r,h1,h2⟩:=zCN l m hl (l.length+(m:Int).toNat +Int.toNat (0:Int)+(1:Nat)) 0 (by omega) (by omega)
 rw [show ((0:Nat):Int)=(0:Int) from rfl] at h1
 rw [Wy.fin_bn,h1]
 rcases h2 with rfl | ⟨rfl,h2⟩
 ·exact ⟨false,rfl,fun h=>by cases h⟩
 ·refine ⟨decide (l.length≤m), ?_,fun h=>⟨of_decide_eq_true h,h2⟩⟩
  show (true,decide (Int.ofNat l.length≤(m:Int)))=_
  rw [show decide (Int.ofNat l.length≤(m:Int))=decide (l.length≤m) from zmU _ _]
end Go.Proofs.YtddkaehkimnklaaGreatDoor
namespace Go.Proofs.YtddkaehkimnklaaGreatDoor
open Go Go.Ab
end Go.Proofs.YtddkaehkimnklaaGreatDoor
/- The reference's estimate of a condition. -/
namespace Go.Proofs.YtddkaehkimnklaaGreatDoor
open Go Go.Ab
theorem zoi {s:Stats} {k:Int} (h:hasP s k=true):((k.toNat:Nat):Int)=k∧k.toNat<s.Columns.length:=by
 have:=zvL.1 h; omega
theorem zAb {s:Stats} (h:okS s=true) {k:Int} (hk:hasP s k=true) (v:Value):zp6 s k v=(true,eqP s k.toNat v):=by
 have:=zoi hk
 rw [← zxm h this.2,this.1]
theorem zz4 {s:Stats} (h:okS s=true) (op:Int) {k:Int} (hk:hasP s k=true) (v:Value):zop s op k v=(true,znV s op k.toNat v):=by
 have:=zoi hk
 rw [← zBb h op this.2,this.1]
section
variable (g:Stats→Scalar→Bool×Int) {s:Stats} (h:okS s=true) (e x y:Scalar)
include h
omit h in
theorem wmul {a b:Int} (ha:0≤a∧a≤1000) (hb:0≤b∧b≤1000):IntKind.i64.wrap ((IntKind.i64.wrap (a*b)).tdiv (1000:Int))=(a*b).tdiv 1000:=by
 have:=zDA ha hb
 rw [zcq (z:=a*b) (by omega) (by omega),zcq (by omega) (by omega)]
omit h in
theorem wsum {a b:Int} (ha:0≤a∧a≤1000) (hb:0≤b∧b≤1000):IntKind.i64.wrap (IntKind.i64.wrap (a+b) - IntKind.i64.wrap ((IntKind.i64.wrap (a*b)).tdiv (1000:Int)))=a+b - (a*b).tdiv 1000:=by
 have:=zDA ha hb
 rw [wmul ha hb,zcq (z:=a+b) (by omega) (by omega),zcq (by omega) (by omega)]
end
def selP (s:Stats) (e:Scalar):Int:=bif okS s then estP s 32 e else 0
theorem zBF (l:List Value) (hl:l.length≤1000000):∀ (n i:Nat),i<l.length→i<n→zdp n l i=(true,bif allN (srtB l) (i+1) 0 then .inr () else .inl false)
 | 0,i,hi,hn=>by omega
 | n+1,i,hi,hn=>by
  show (zdr l i).ev (fun x y=>zdp n x.1 x.2.2.1) (fun r=>(true,r)) (false,.inl default)=_
  unfold zdr
  have hg:decide ((i:Int)>(0:Int))=decide (0<i):=zzQ i 0
  cases i with
  | zero=>simp [Wy.ev_i,Wy.ev_k,allN,srtB]
  | succ i=>
   have hi':i<l.length:=by omega
   have hw:IntKind.i64.wrap (((i+1:Nat):Int) - 1)=(i:Int):=by rw [zAv (by omega) (by omega)]; rfl
   have hp:decide (0<i+1)=true:=by simp
   simp only [Wy.ev_i,Wy.ev_k,Wy.ev_h,Wy.ev_bn,Wy.ev_d,hg,hp,hw,tT,hi,hi',value_Compare_eq']
   rw [zBF l hl n i hi' (by omega),zAF _ (i+1),Nat.zero_add]
   have:srtB l (i+1)= !decide (cmpV (l.getD (i+1) default) (l.getD i default)<0):=by
    unfold srtB
    rw [show i+1 - 1=i from rfl,zlY (l.getD (i+1) default) (l.getD i default)]
    generalize cmpV (l.getD (i+1) default) (l.getD i default)=z
    by_cases hz:z<0
    ·have:¬ (-z≤0):=by omega
     simp [hz,this]
    ·have:(-z≤0):=by omega
     simp [hz,this]
   rw [this]
   cases decide (cmpV (l.getD (i+1) default) (l.getD i default)<0) <;>simp
theorem zHP (l:List Value) (hl:l.length≤1000000):zbR l=(true,allN (srtB l) l.length 0):=by
 unfold zbR zdJ
 match l,hl with
 | [],_=>rfl
 | x::r,hl=>
  have hw:IntKind.i64.wrap (Int.ofNat (x::r).length - 1)=(r.length:Int):=by
   rw [List.length_cons] at hl
   rw [show Int.ofNat (x::r).length=(((x::r).length:Nat):Int) from rfl,zAv (by simp) (by simp; omega)]; rfl
  rw [Wy.fin_bn,hw,zBF (x::r) hl _ r.length (by simp) (by simp; omega)]
  cases allN (srtB (x::r)) (r.length+1) 0 with
  | true=>simp [Wy.fin_i,Wy.fin_k,isL]
  | false=>simp [Wy.fin_i,Wy.fin_k,isL,getL]
theorem zJ3 (l:List Value) (c:ColumnStats) (h:l.length≤1000000):zby l c=(true, !l.all (zj5 c.Min.Kind)):=by
 unfold zby zdc
 have:zcH l c=IG (fun (g:ColumnStats×Unit) x=>zdn x g.1) (l.length+c.Bounds.length+(Int.ofNat l.length).toNat +Int.toNat (0:Int)+(1000:Nat)) (c,()) l:=rfl
 have e:(!l.all (zj5 c.Min.Kind))=l.any fun w=> !zj5 c.Min.Kind w:=by simp [List.all_eq_not_any_not]
 rw [e]
 exact zs6 (this.trans (zEA _ _ _ _ _ (by omega) (fun x _=>by
  show zdn x c=_
  unfold zdn ziB zj5
  simp only [Wy.fin_i,Wy.fin_k,Wy.fin_bn,zsH,cond_true,bne0]
  cases valV x <;>cases decide (x.Kind=c.Min.Kind) <;>rfl) (by omega)))
theorem zuP (c:ColumnStats) (rows:Int):zgQ c rows=(true,okC c rows):=by
 unfold zgQ zj3 okC
 by_cases h0:rows=0
 ·subst h0
  simp only [zKE]
  simp only [Wy.fin_i,Wy.fin_k,beqd,if_pos,decide_true,cond_true]
  have e:decide (Int.ofNat c.Bounds.length=(0:Int))=decide (c.Bounds.length=0):=by
   by_cases h:c.Bounds.length=0
   ·rw [h]; rfl
   ·rw [decide_eq_false h,decide_eq_false]; intro hc; exact h (Int.ofNat.inj hc)
  rw [e]
  cases decide (c.Distinct=0) <;>cases decide (c.Min=zV) <;>cases decide (c.Max=zV) <;>rfl
 ·have e8:(Int.ofNat c.Bounds.length != (8:Int))= !decide (c.Bounds.length=8):=by
   rw [bne0]
   congr 1
   by_cases h:c.Bounds.length=8
   ·rw [h]; rfl
   ·rw [decide_eq_false h,decide_eq_false]; intro hc; exact h (Int.ofNat.inj hc)
  have er:(rows==(0:Int))=false:=by rw [beqd,decide_eq_false h0]
  have z7:Int.toNat (7:Int)=7:=rfl
  have z0:Int.toNat (0:Int)=0:=rfl
  have g1:decide (c.Distinct≥(1:Int))=decide (1≤c.Distinct):=rfl
  have gl:decide (cmpV (c.Bounds.getD 0 default) c.Min<0)= !decide (cmpV c.Min (c.Bounds.getD 0 default)≤0):=by
   rw [zlY c.Min (c.Bounds.getD 0 default)]
   generalize cmpV c.Min (c.Bounds.getD 0 default)=z
   by_cases h:z≤0
   ·have:¬ (-z<0):=by omega
    simp [h,this]
   ·have: -z<0:=by omega
    rw [decide_eq_true this,decide_eq_false h]; rfl
  simp only [veq]
  simp only [Wy.fin_i,Wy.fin_bn,Wy.fin_k,er,if_neg h0,cond_false,cond_true,zsH,value_Compare_eq',g1,beqd c.Min.Kind,e8,z7,z0,gl]
  by_cases h8:c.Bounds.length=8
  ·have e7:(decide ((0:Int)≤(7:Int))&&decide ((7:Int)<Int.ofNat c.Bounds.length))=true:=by rw [h8]; rfl
   have e0:(decide ((0:Int)≤(0:Int))&&decide ((0:Int)<Int.ofNat c.Bounds.length))=true:=by rw [h8]; rfl
   rw [e7,e0,zHP _ (by omega),zJ3 _ _ (by omega),decide_eq_true h8]
   cases decide (1≤c.Distinct) <;>cases decide (c.Distinct≤rows) <;>cases valV c.Min <;>cases valV c.Max <;>cases decide (c.Min.Kind=c.Max.Kind) <;>cases decide (cmpV c.Min c.Max≤0) <;>try rfl
   generalize allN (srtB c.Bounds) c.Bounds.length 0=q1
   generalize c.Bounds.all (zj5 c.Min.Kind)=q2
   cases q1 <;>cases q2 <;>cases decide (c.Bounds.getD 7 default=c.Max) <;>cases decide (cmpV c.Min (c.Bounds.getD 0 default)≤0) <;>rfl
  ·rw [decide_eq_false h8]
   cases decide (1≤c.Distinct) <;>cases decide (c.Distinct≤rows) <;>cases valV c.Min <;>cases valV c.Max <;>cases decide (c.Min.Kind=c.Max.Kind) <;>cases decide (cmpV c.Min c.Max≤0) <;>rfl
theorem zKl (l:List ColumnStats) (s:Stats) (h:l.length≤1000000):zbb l s=(true, !l.all fun c=>okC c s.Rows):=by
 unfold zbb zb0
 have:zbx l s=IG (fun (g:Stats×Unit) x=>zgA x g.1) (l.length+s.Columns.length+(Int.ofNat l.length).toNat +Int.toNat (0:Int)+(1000:Nat)) (s,()) l:=rfl
 have e:(!l.all fun c=>okC c s.Rows)=l.any fun c=> !okC c s.Rows:=by simp [List.all_eq_not_any_not]
 rw [e]
 exact zs6 (this.trans (zEA _ _ _ _ _ (by omega) (fun x _=>by
  show zgA x s=_
  unfold zgA zln
  rw [Wy.fin_bn,zuP]
  rfl) (by omega)))
theorem zzH (s:Stats):zh6 s=(true,okS s):=by
 unfold zh6 zoc okS
 have el:decide (Int.ofNat s.Columns.length≤(16:Int))=decide (s.Columns.length≤16):=zmU _ 16
 have e0:decide (s.Rows≥(0:Int))=decide (0≤s.Rows):=rfl
 simp only [Wy.fin_i,Wy.fin_bn,Wy.fin_k,e0,el]
 by_cases hl:s.Columns.length≤16
 ·rw [zKl _ _ (by omega),decide_eq_true hl]
  cases decide (0≤s.Rows) <;>cases decide (s.Rows≤1000000) <;>try rfl
  cases s.Columns.all (fun c=>okC c s.Rows) <;>rfl
 ·rw [decide_eq_false hl]
  cases decide (0≤s.Rows) <;>cases decide (s.Rows≤1000000) <;>rfl
theorem zCD (s:Stats) (k:Int):zbO ⟨s⟩ k=(true,hasP s k):=by
 unfold zbO ziZ hasP
 rw [Wy.fin_i,ge0]
 by_cases h:0≤k
 ·rw [decide_eq_true h]; rfl
 ·rw [decide_eq_false h]; rfl
theorem zw9 (v:Value) (l:List Value) (hl:l.length≤1000):∀ (n i m:Nat),l.length<i+n→i≤l.length→m≤125*i→
   zgR n m l l.length i v=(true,((m+125*((l.drop i).filter fun b=>decide (cmpV b v<0)).length:Nat):Int))
 | 0,i,m,h,h2,_=>by omega
 | n+1,i,m,h,h2,h3=>by
  show (ziT m l l.length i v).ev (fun x y=>zgR n x.2.1 x.2.2.1 x.2.2.2.1 x.2.2.2.2.1 y.1) (fun r=>(true,r)) (false,default)=_
  unfold ziT
  by_cases hi:i<l.length
  ·have hw:IntKind.i64.wrap ((m:Int)+(125:Int))=((m+125:Nat):Int):=by
    rw [zcq (by omega) (by omega)]; rfl
   simp only [Wy.ev_i,Wy.ev_k,Wy.ev_h,Wy.ev_bn,Wy.ev_d,tT,hi,value_Compare_eq',hw,zcs (show i<4611686018427387904 by omega)]
   rw [zjN hi]
   by_cases hx:cmpV (l.getD i default) v<0
   ·rw [decide_eq_true hx,cond_true,zw9 v l hl n (i+1) (m+125) (by omega) (by omega) (by omega),List.filter_cons_of_pos (by simpa using hx),List.length_cons]
    congr 2; omega
   ·rw [decide_eq_false hx,cond_false,zw9 v l hl n (i+1) m (by omega) (by omega) (by omega),List.filter_cons_of_neg (by simpa using hx)]
  ·simp only [Wy.ev_i,Wy.ev_k,Wy.ev_h,Wy.ev_bn,Wy.ev_d,tT,hi,zjR hi]
   rfl
theorem zDK {s:Stats} (h:okS s=true) {k:Int} (hk:hasP s k=true) (v:Value):zc1 ⟨s⟩ k v=(true,ltP s k.toNat v):=by
 obtain ⟨h1,h2⟩:=zoi hk
 have hb:=zAI h h2
 have hz:∀ (n:Nat),(s.Columns.getD k.toNat default).Bounds.length<n→zgR n 0 (s.Columns.getD k.toNat default).Bounds (Int.ofNat (s.Columns.getD k.toNat default).Bounds.length) 0 v=(true,ltP s k.toNat v):=fun n hn=>by
  have:=zw9 v (s.Columns.getD k.toNat default).Bounds (by omega) n 0 0 (by omega) (by omega) (by omega)
  rw [List.drop_zero,Nat.zero_add] at this
  exact this
 have hin:(decide ((0:Int)≤k)&&decide (k<Int.ofNat s.Columns.length))=true:=hk
 unfold zc1 zjs
 rw [Wy.fin_i,hin,cond_true,Wy.fin_bn,hz _ (by omega)]
 rfl
theorem zAW {s:Stats} (h:okS s=true) {k:Int} (hk:hasP s k=true) (v:Value):zcu ⟨s⟩ k v=(true,eqP s k.toNat v):=by
 rw [← zAb h hk]
 unfold zcu zji zp6 zyv
 simp only [value_Compare_eq',ref01_Compare_eq']
theorem zHR {s:Stats} (h:okS s=true) {k:Int} (hk:hasP s k=true) (v:Value):zed ⟨s⟩ k v=(true,leP s k.toNat v):=by
 obtain ⟨_,hk2⟩:=zoi hk
 have h1:=zu1 h hk2 v
 have h2:=zuY h hk2 v
 unfold zed zjj leP
 rw [Wy.fin_bn,zDK h hk,cond_true,Wy.fin_bn,zAW h hk,cond_true,Wy.fin_k,zcq (by omega) (by omega)]
theorem zyi {s:Stats} (h:okS s=true) (op:Int) {k:Int} (hk:hasP s k=true) (v:Value):zbG ⟨s⟩ op k v=(true,znV s op k.toNat v):=by
 obtain ⟨h1,h2⟩:=zoi hk
 rw [← zz4 h op hk]
 unfold zbG zhq zop zp5
 have e1:=zwY h h2 v
 have e2:=zBz h h2 v
 rw [h1] at e1 e2
 simp only [Wy.fin_i,Wy.fin_bn,Wy.fin_k,zDK h hk,zAW h hk,zHR h hk,zAb h hk,e1,e2]
theorem zDi {s:Stats} (h:okS s=true) (op:Int) {a b:Int} (ha:hasP s a=true) (hb:hasP s b=true):zbH ⟨s⟩ op a b=(true,zA1 s op a.toNat b.toNat):=by
 obtain ⟨a1,a2⟩:=zoi ha
 obtain ⟨b1,b2⟩:=zoi hb
 obtain ⟨h1,h2,h3,h4⟩:=zxD h
 have hca:=h4 _ (zc6 a2)
 have ia:(decide ((0:Int)≤a)&&decide (a<Int.ofNat s.Columns.length))=true:=ha
 have ib:(decide ((0:Int)≤b)&&decide (b<Int.ofNat s.Columns.length))=true:=hb
 unfold zbH zhu zA1
 simp only [Wy.fin_i,Wy.fin_k,ia,ib,cond_true,beqd]
 by_cases h0:s.Rows>0
 ·have hd:=(zxX (by omega) hca).1
  have hm:(if (s.Columns.getD b.toNat default).Distinct>(s.Columns.getD a.toNat default).Distinct then (s.Columns.getD b.toNat default).Distinct else (s.Columns.getD a.toNat default).Distinct)=maxP (s.Columns.getD a.toNat default).Distinct (s.Columns.getD b.toNat default).Distinct:=rfl
  have hm1:1≤maxP (s.Columns.getD a.toNat default).Distinct (s.Columns.getD b.toNat default).Distinct:=by unfold maxP; split <;>omega
  have hne:¬ maxP (s.Columns.getD a.toNat default).Distinct (s.Columns.getD b.toNat default).Distinct=0:=by omega
  have hq:=zFF hm1
  simp only [hm,zGD hm1,decide_eq_true h0,decide_eq_false hne,if_pos h0,cond_true,Bool.not_false,zCh (show 0≤qP (maxP (s.Columns.getD a.toNat default).Distinct (s.Columns.getD b.toNat default).Distinct)∧qP (maxP (s.Columns.getD a.toNat default).Distinct (s.Columns.getD b.toNat default).Distinct)≤1000 by omega)]
  by_cases h5:op=5
  ·simp [h5]
  ·by_cases h6:op=6
   ·simp [h6]
   ·simp [h5,h6]
 ·simp only [decide_eq_false h0,if_neg h0,cond_false]
  by_cases h5:op=5
  ·simp [h5]
  ·by_cases h6:op=6
   ·simp [h6]; rfl
   ·simp [h5,h6]
theorem zFW (op:Int):zhX op=(true,mirP op):=by
 have hk:∀ a b:Int,zid (Value.int IntKind.i64 a) (Value.int IntKind.i64 b)=decide (a=b):=fun a b=>beqd a b
 unfold zhX zlH mirP zI4 zI9 zuS
 simp only [mset,mget,mhas,hk]
 by_cases h7:op=7
 ·subst h7; rfl
 ·by_cases h8:op=8
  ·subst h8; rfl
  ·by_cases h9:op=9
   ·subst h9; rfl
   ·by_cases h10:op=10
    ·subst h10; rfl
    ·simp [Wy.fin_i,Wy.fin_k,h7,h8,h9,h10,mset,mhas,hk]
theorem zEv {s:Stats} (h:okS s=true) (op:Int) (x y:Scalar):zbn ⟨s⟩ op x y=(true,cmpP s op x y):=by
 unfold zbn zgF
 simp only [Wy.fin_i,Wy.fin_bn,Wy.fin_k,zCD,zFW,beqd,bne0,cond_true]
 unfold cmpP
 by_cases x0:x.Kind=0
 ·have x1:¬ x.Kind=1:=by omega
  have x2:¬ x.Kind=2:=by omega
  by_cases y1:y.Kind=1
  ·have y0:¬ y.Kind=0:=by omega
   cases hy:hasP s y.Column with
   | false=>simp [x0,y1,hy]
   | true=>simp [x0,y1,hy,zyi h (mirP op) hy]
  ·simp [x0,y1]
 ·by_cases x1:x.Kind=1
  ·cases hx:hasP s x.Column with
   | false=>
    by_cases y2:y.Kind=2 <;>simp [x1,hx,y2]
   | true=>
    by_cases y2:y.Kind=2
    ·simp [x1,hx,y2]
    ·by_cases y1:y.Kind=1
     ·cases hy:hasP s y.Column with
      | false=>simp [x1,hx,y1,hy]
      | true=>simp [x1,hx,y1,hy,zDi h op hx hy]
     ·by_cases y0:y.Kind=0
      ·simp [x1,hx,y0,zyi h op hx]
      ·simp [x1,hx,y0,y1,y2]
  ·simp [x0,x1]
theorem zIj {g:estimator→Scalar→Bool×Int} {s:Stats} (h:okS s=true) (e:Scalar) (n:Nat) (hg:∀ z∈e.Args,g ⟨s⟩ z=(true,estP s n z)):zd3 g ⟨s⟩ e=(true,estP s (n+1) e):=by
 have hr:=zB6 h n
 have z0:Int.toNat (0:Int)=0:=rfl
 have z1:Int.toNat (1:Int)=1:=rfl
 have e2:(Int.ofNat e.Args.length != (2:Int))= !decide (e.Args.length=2):=by
  rw [bne0]
  congr 1
  by_cases h:e.Args.length=2
  ·rw [h]; rfl
  ·rw [decide_eq_false h,decide_eq_false]; intro hc; exact h (Int.ofNat.inj hc)
 have e1:(Int.ofNat e.Args.length==(1:Int))=decide (e.Args.length=1):=by
  rw [beqd]
  by_cases h:e.Args.length=1
  ·rw [h]; rfl
  ·rw [decide_eq_false h,decide_eq_false]; intro hc; exact h (Int.ofNat.inj hc)
 unfold zd3 zhH estP
 simp only [vyes]
 simp only [Wy.fin_i,Wy.fin_bn,Wy.fin_k,Wy.fin_d,Scalar.eta,e1,e2,z0,z1,zCD,zEv h]
 simp only [beqd,bne0,cond_true]
 by_cases k0:e.Kind=0
 ·rw [decide_eq_true k0,if_pos k0,cond_true]
  by_cases hv:e.Value=yesV
  ·rw [if_pos hv,decide_eq_true (show e.Value=⟨2,1,ByteArray.mk #[]⟩ from hv)]; rfl
  ·rw [if_neg hv,decide_eq_false (show ¬ e.Value=⟨2,1,ByteArray.mk #[]⟩ from hv)]; rfl
 ·rw [decide_eq_false k0,if_neg k0,cond_false]
  by_cases k1:e.Kind=1
  ·have k2:¬ e.Kind=2:=by omega
   rw [decide_eq_true k1,if_pos k1,cond_true]
   cases hh:hasP s e.Column with
   | false=>rw [decide_eq_false k2]; rfl
   | true=>rw [zAW h hh]; rfl
  ·rw [decide_eq_false k1,if_neg k1,cond_false]
   by_cases k2:e.Kind=2
   ·rw [decide_eq_true k2,if_neg (show ¬ (e.Kind≠2) from fun hc=>hc k2),Bool.not_true,cond_false]
    by_cases h2:e.Args.length=2
    ·have h1:¬ e.Args.length=1:=by omega
     have m0:e.Args.getD 0 default∈e.Args:=zc6 (by omega)
     have m1:e.Args.getD 1 default∈e.Args:=zc6 (by omega)
     have c0:(decide ((0:Int)≤(0:Int))&&decide ((0:Int)<Int.ofNat e.Args.length))=true:=by rw [h2]; rfl
     have c1:(decide ((0:Int)≤(1:Int))&&decide ((1:Int)<Int.ofNat e.Args.length))=true:=by rw [h2]; rfl
     rw [c0,c1,hg _ m0,hg _ m1,decide_eq_false h1,decide_eq_true h2]
     simp only [cond_true,cond_false,Bool.not_true]
     rw [wsum (hr _) (hr _),wmul (hr _) (hr _),if_neg (show ¬ (e.Op=13∧e.Args.length=1) from fun hc=>h1 hc.2),if_neg (show ¬ (e.Args.length≠2) from fun hc=>hc h2)]
     have ht:∀ q,q=(bif decide (e.Op=11) then (true,(estP s n (e.Args.getD 0 default)*estP s n (e.Args.getD 1 default)).tdiv 1000) else bif decide (e.Op=12) then (true,estP s n (e.Args.getD 0 default)+estP s n (e.Args.getD 1 default) - (estP s n (e.Args.getD 0 default)*estP s n (e.Args.getD 1 default)).tdiv 1000) else bif decide (e.Op≥5) then bif decide (e.Op≤10) then (true,cmpP s e.Op (e.Args.getD 0 default) (e.Args.getD 1 default)) else (true,(333:Int)) else (true,333))→
       q=(true,if e.Op=11 then Int.tdiv (estP s n (e.Args.getD 0 default)*estP s n (e.Args.getD 1 default)) 1000
   else if e.Op=12 then estP s n (e.Args.getD 0 default)+estP s n (e.Args.getD 1 default) - Int.tdiv (estP s n (e.Args.getD 0 default)*estP s n (e.Args.getD 1 default)) 1000
   else if e.Op<5∨e.Op>10 then 333 else cmpP s e.Op (e.Args.getD 0 default) (e.Args.getD 1 default)):=fun q hq=>by
      rw [hq]
      by_cases o1:e.Op=11
      ·rw [decide_eq_true o1,if_pos o1]; rfl
      ·by_cases o2:e.Op=12
       ·rw [decide_eq_false o1,if_neg o1,decide_eq_true o2,if_pos o2]; rfl
       ·rw [decide_eq_false o1,if_neg o1,decide_eq_false o2,if_neg o2]
        by_cases o3:e.Op≥5
        ·by_cases o4:e.Op≤10
         ·rw [decide_eq_true o3,decide_eq_true o4,if_neg (show ¬ (e.Op<5∨e.Op>10) by omega)]; rfl
         ·rw [decide_eq_true o3,decide_eq_false o4,if_pos (show (e.Op<5∨e.Op>10) by omega)]; rfl
        ·rw [decide_eq_false o3,if_pos (show (e.Op<5∨e.Op>10) by omega)]; rfl
     by_cases h13:e.Op=13
     ·rw [decide_eq_true h13,cond_true]
      exact ht _ rfl
     ·rw [decide_eq_false h13,cond_false]
      exact ht _ rfl
    ·rw [decide_eq_false h2]
     simp only [cond_true,Bool.not_false]
     by_cases h13:e.Op=13
     ·by_cases h1:e.Args.length=1
      ·have c0:(decide ((0:Int)≤(0:Int))&&decide ((0:Int)<Int.ofNat e.Args.length))=true:=by rw [h1]; rfl
       rw [c0,hg _ (zc6 (by omega)),decide_eq_true h13,decide_eq_true h1,if_pos (show e.Op=13∧e.Args.length=1 from ⟨h13,h1⟩)]
       simp only [cond_true]
       rw [zCh (hr _)]
      ·rw [decide_eq_true h13,decide_eq_false h1,if_neg (show ¬ (e.Op=13∧e.Args.length=1) from fun hc=>h1 hc.2),if_pos (show e.Args.length≠2 from h2)]; rfl
     ·rw [decide_eq_false h13,if_neg (show ¬ (e.Op=13∧e.Args.length=1) from fun hc=>h13 hc.1),if_pos (show e.Args.length≠2 from h2)]; rfl
   ·rw [decide_eq_false k2,if_pos (show e.Kind≠2 from k2)]; rfl
theorem zIl {s:Stats} (h:okS s=true):∀ (d n:Nat) (e:Scalar),zku d e→d≤n→zcU n ⟨s⟩ e=(true,estP s n e)
 | 0,_,_,hf,_=>hf.elim
 | d+1,0,_,_,hd=>by omega
 | d+1,n+1,e,hf,hd=>by
  rw [zrQ]
  exact zIj h e n fun z hz=>zIl h d n z (hf.2 z hz) (by omega)
theorem zJw {s:Stats} (h:okS s=true) {e:Scalar} (hf:zku 32 e):zjm ⟨s⟩ e=(true,estP s 32 e):=by
 show zcU 1000 ⟨s⟩ e=_
 rw [zIl h 32 1000 e hf (by omega),zD1 s 32 1000 32 e hf (by omega) (by omega)]
theorem zDm (s:Stats) {e:Scalar} (hf:zku 32 e):zcK s e=(true,selP s e):=by
 unfold zcK zj0 selP
 simp only [Wy.fin_i,Wy.fin_bn,Wy.fin_k,zzH,cond_true,Scalar.eta]
 cases h:okS s with
 | false=>rfl
 | true=>
  have:=zJw h hf
  rw [this]; rfl
theorem in0' {n:Nat} (h:0<n):(decide ((0:Int)≤(0:Int))&&decide ((0:Int)<Int.ofNat n))=true:=by
 simp only [Bool.and_eq_true,decide_eq_true_eq]
 exact ⟨Int.le_refl _,by show (0:Int)<(n:Int); omega⟩
def bndP (s:List Value) (n j:Nat):Value:=s.getD (((j+1)*n+7) / 8 - 1) default
def bnds (s:List Value) (n k:Nat):List Value:=(List.range k).map (bndP s n)
theorem zHB (s:List Value) (n k:Nat):bnds s n (k+1)=bnds s n k++[bndP s n k]:=by
 unfold bnds; rw [List.range_succ,List.map_append]; rfl
theorem zxa (s:List Value) (n k:Nat):(bnds s n k).length=k:=by simp [bnds]
def colR (l:List Value):ColumnStats:=
 if l.length=0 then ⟨0,zV,zV,[]⟩ else ⟨(zx0 (srtV l):Int),(srtV l).getD 0 default,(srtV l).getD (l.length - 1) default,bnds (srtV l) l.length 8⟩
theorem zJ0 {n i:Nat} (hn:n≤1000000) (hi:i≤7):IntKind.i64.wrap (IntKind.i64.wrap ((IntKind.i64.wrap (IntKind.i64.wrap (((i+1:Nat):Int)*(n:Int))+(7:Int))).tdiv (8:Int)) - (1:Int))=((((i+1)*n+7) / 8:Nat):Int) - 1:=by
 have h1:(i+1)*n≤8*1000000:=Nat.mul_le_mul (by omega) hn
 have e1:(((i+1:Nat):Int)*(n:Int))=(((i+1)*n:Nat):Int):=by rw [Int.natCast_mul]
 rw [e1]
 generalize (i+1)*n=q at h1 ⊢
 rw [zcq (z:=(q:Int)) (by omega) (by omega),zcq (z:=(q:Int)+7) (by omega) (by omega)]
 have e2:Int.tdiv ((q:Int)+7) 8=(((q+7) / 8:Nat):Int):=by
  rw [show (q:Int)+7=((q+7:Nat):Int) by omega]; rfl
 rw [e2,zcq (z:=(((q+7) / 8:Nat):Int)) (by omega) (by omega),zcq (by omega) (by omega)]
theorem zFa {n i:Nat} (hn:0<n) (hi:i≤7):1≤((i+1)*n+7) / 8∧((i+1)*n+7) / 8≤n:=by
 have h1:(i+1)*n≤8*n:=Nat.mul_le_mul (by omega) (Nat.le_refl _)
 have h2:1*n≤(i+1)*n:=Nat.mul_le_mul (by omega) (Nat.le_refl _)
 generalize (i+1)*n=q at h1 h2 ⊢
 omega
def keyV (v:Value):Go.Value:=Go.Value.agg #[Go.Value.int IntKind.i64 v.Kind,Go.Value.int IntKind.i64 v.Int,Go.Value.string v.Text]
theorem zJB (a b:Value):zid (keyV a) (keyV b)=decide (a=b):=by
 show zlq [Go.Value.int IntKind.i64 a.Kind,Go.Value.int IntKind.i64 a.Int,Go.Value.string a.Text] [Go.Value.int IntKind.i64 b.Kind,Go.Value.int IntKind.i64 b.Int,Go.Value.string b.Text]=_
 rw [← veq]; rfl
def insD (v:Value) (d:List Value):List Value:=if v∈d then d else d++[v]
theorem zDJ (v:Value):∀ d:List Value,zEF (keyV v) true (d.map fun x=>(keyV x,true))=(insD v d).map fun x=>(keyV x,true)
 | []=>rfl
 | x::r=>by
  have ih:=zDJ v r
  show (bif zid (keyV v) (keyV x) then (keyV v,true)::(r.map fun x=>(keyV x,true)) else (keyV x,true)::zEF (keyV v) true (r.map fun x=>(keyV x,true)))=_
  rw [zJB]
  by_cases h:v=x
  ·subst h
   rw [decide_eq_true rfl,cond_true]
   unfold insD
   rw [if_pos (by simp)]; rfl
  ·rw [decide_eq_false h,cond_false,ih]
   unfold insD
   by_cases hm:v∈r
   ·rw [if_pos hm,if_pos (by simp [hm])]; rfl
   ·rw [if_neg hm,if_neg (by simp [h,hm])]; rfl
theorem zJA (v:Value) (d:List Value) (h:d.Nodup):(insD v d).Nodup∧∀ x,x∈insD v d↔x=v∨x∈d:=by
 unfold insD
 by_cases hm:v∈d
 ·rw [if_pos hm]
  refine ⟨h,fun x=>⟨.inr, ?_⟩⟩
  rintro (rfl | hx)
  ·exact hm
  ·exact hx
 ·rw [if_neg hm]
  refine ⟨List.nodup_append.2 ⟨h,by simp,fun a ha b hb=> ?_⟩,fun x=>by simp [or_comm]⟩
  rw [List.mem_singleton] at hb; subst hb
  exact fun e=>hm (e ▸ ha)
theorem zI3:∀ (l d:List Value),d.Nodup→(l.foldl (fun d v=>insD v d) d).Nodup∧∀ x,x∈l.foldl (fun d v=>insD v d) d↔x∈l∨x∈d
 | [],d,h=>⟨h,fun x=>by simp⟩
 | v::r,d,h=>by
  obtain ⟨h1,h2⟩:=zJA v d h
  obtain ⟨h3,h4⟩:=zI3 r _ h1
  refine ⟨h3,fun x=> ?_⟩
  rw [List.foldl_cons,h4,h2,List.mem_cons]
  constructor
  ·rintro (h | h | h)
   ·exact .inl (.inr h)
   ·exact .inl (.inl h)
   ·exact .inr h
  ·rintro ((h | h) | h)
   ·exact .inr (.inl h)
   ·exact .inl h
   ·exact .inr (.inr h)
def dedV (l:List Value):List Value:=l.foldl (fun d v=>insD v d) []
theorem zF8 {l:List Value} (h:l.length<4611686018427387904):(dedV (srtV l)).length=zx0 (srtV l):=by
 obtain ⟨h1,h2⟩:=zI3 (srtV l) [] .nil
 exact zH4 h h1 fun x=>by
  rw [show (x∈dedV (srtV l))=(x∈(srtV l).foldl (fun d v=>insD v d) []) from rfl,h2]
  simp [(ztk l).mem_iff]
theorem zDQ (nn:Int) (l:List Value) (hl:l.length≤1000000) (a b c:Int) (d:ByteArray) (e f:Int) (g:ByteArray):∀ (n i:Nat) (D:List Value),l.length<i+n→i≤l.length→
  zmD n nn l.length i l a b c d e f g (D.map fun x=>(keyV x,true))=(true,(nn,l,a,b,c,d,e,f,g,((l.drop i).foldl (fun d v=>insD v d) D).map fun x=>(keyV x,true)))
 | 0,i,D,h,h2=>by omega
 | n+1,i,D,h,h2=>by
  show (zmy nn l.length i l a b c d e f g (D.map fun x=>(keyV x,true))).ev (zO zjl default n) (fun r=>(true,r)) (false,default)=_
  unfold zmy
  by_cases hi:i<l.length
  ·simp only [Wy.ev_i,Wy.ev_k,Wy.ev_h,Wy.ev_bn,Wy.ev_d,tT,hi]
   rw [zcs (by omega),zjN hi,List.foldl_cons]
   have hm:=zDJ (l.getD i default) D
   rw [show zEF (Go.Value.agg #[Go.Value.int IntKind.i64 (l.getD i default).Kind,Go.Value.int IntKind.i64 (l.getD i default).Int,Go.Value.string (l.getD i default).Text]) true (D.map fun x=>(keyV x,true))=_ from hm]
   exact zDQ nn l hl a b c d e f g n (i+1) _ (by omega) (by omega)
  ·simp only [Wy.ev_i,Wy.ev_k,Wy.ev_h,Wy.ev_bn,Wy.ev_d,tT,hi,zjR hi]
   rfl
theorem zE5 (l:List Value) (m:Nat) (hm:0<m) (hm2:m≤1000000) (hl:l.length=m) (a b c:Int) (d:ByteArray) (e f:Int) (g:ByteArray) (a' b' c':Int) (d':ByteArray) (e' f':Int) (g':ByteArray):∀ (n i:Nat),8<i+n→i≤8→
  zlg n m ((i+1:Nat):Int) l a b c d e f g a' b' c' d' e' f' g' (bnds l m i)=(true,(a,b,c,d,e,f,g,a',b',c',d',e',f',g',bnds l m 8))
 | 0,i,h,h2=>by omega
 | n+1,i,h,h2=>by
  show (zly m ((i+1:Nat):Int) l a b c d e f g a' b' c' d' e' f' g' (bnds l m i)).ev (zO ziJ default n) (fun r=>(true,r)) (false,default)=_
  unfold zly
  by_cases hi:i<8
  ·have g8:decide (((i+1:Nat):Int)≤(8:Int))=true:=decide_eq_true (by omega)
   have hb:=zFa (n:=m) (i:=i) hm (by omega)
   have hin:(decide ((0:Int)≤((((i+1)*m+7) / 8:Nat):Int) - 1)&&decide (((((i+1)*m+7) / 8:Nat):Int) - 1<Int.ofNat l.length))=true:=by
    simp only [Bool.and_eq_true,decide_eq_true_eq]
    refine ⟨by omega, ?_⟩
    show ((((i+1)*m+7) / 8:Nat):Int) - 1<(l.length:Int)
    omega
   have ht:(((((i+1)*m+7) / 8:Nat):Int) - 1).toNat=((i+1)*m+7) / 8 - 1:=by omega
   simp only [Wy.ev_i,Wy.ev_k,Wy.ev_h,Wy.ev_d,g8,zJ0 hm2 (show i≤7 by omega),hin,ht,cond_true]
   rw [decide_eq_true (zGk (by rw [zxa]; simp; omega)),cond_true,zcs (by omega)]
   have:=zE5 l m hm hm2 hl a b c d e f g a' b' c' d' e' f' g' n (i+1) (by omega) (by omega)
   rw [zHB] at this
   exact this
  ·have g8:decide (((i+1:Nat):Int)≤(8:Int))=false:=decide_eq_false (by omega)
   have:i=8:=by omega
   subst this
   simp only [Wy.ev_i,Wy.ev_k,g8,cond_false]
theorem zIh (l:List Value) (hl:l.length≤1000000):zjd l=(true,colR l):=by
 unfold zjd znb colR
 have e0:(Int.ofNat l.length==(0:Int))=decide (l.length=0):=zDB _ 0
 rw [Wy.fin_i,e0]
 by_cases h0:l.length=0
 ·rw [decide_eq_true h0,if_pos h0]; rfl
 ·rw [decide_eq_false h0,if_neg h0,cond_false]
  have hs:zdf l=(true,srtV l):=by
   show (decide (SortOK zbc l),zjw zbc l)=_
   rw [decide_eq_true (zDh (by omega))]; rfl
  have hsl:=zwP l
  have key1:∀ n,l.length<n→zmD n (Int.ofNat l.length) (Int.ofNat (srtV l).length) (0:Int) (srtV l) (0:Int) (0:Int) (0:Int) (ByteArray.mk #[]) (0:Int) (0:Int) (ByteArray.mk #[]) []=(true,(Int.ofNat l.length,srtV l,0,0,0,ByteArray.mk #[],0,0,ByteArray.mk #[],(dedV (srtV l)).map fun x=>(keyV x,true))):=fun n hn=>by
   have:=zDQ (Int.ofNat l.length) (srtV l) (by omega) 0 0 0 (ByteArray.mk #[]) 0 0 (ByteArray.mk #[]) n 0 [] (by omega) (by omega)
   rw [List.drop_zero] at this
   exact this
  rw [Wy.fin_bn,hs,cond_true,Wy.fin_bn,key1 _ (by rw [hsl]; show l.length<l.length+l.length+_+_+_+_+_+_+_+_+_+_+_; omega),cond_true]
  have hw:IntKind.i64.wrap (Int.ofNat l.length - (1:Int))=((l.length - 1:Nat):Int):=zAv (i:=l.length) (by omega) (by omega)
  have c0:(decide ((0:Int)≤(0:Int))&&decide ((0:Int)<Int.ofNat (srtV l).length))=true:=in0' (by omega)
  have c1:(decide ((0:Int)≤((l.length - 1:Nat):Int))&&decide (((l.length - 1:Nat):Int)<Int.ofNat (srtV l).length))=true:=by
   simp only [tT]; simp; omega
  simp only [Wy.fin_i,hw,c0,c1,cond_true,Int.toNat_natCast]
  have key2:∀ n a b c d e f g a' b' c' d' e' f' g',9<n→zlg n (Int.ofNat l.length) (1:Int) (srtV l) a b c d e f g a' b' c' d' e' f' g' []=(true,(a,b,c,d,e,f,g,a',b',c',d',e',f',g',bnds (srtV l) l.length 8)):=fun n a b c d e f g a' b' c' d' e' f' g' hn=>
   zE5 (srtV l) l.length (by omega) hl hsl a b c d e f g a' b' c' d' e' f' g' n 0 (by omega) (by omega)
  rw [Wy.fin_bn,key2 _ _ _ _ _ _ _ _ _ _ _ _ _ _ _ (by omega),cond_true,Wy.fin_k]
  have hd:Int.ofNat ((dedV (srtV l)).map fun x=>(keyV x,true)).length=(zx0 (srtV l):Int):=by
   rw [List.length_map,zF8 (by omega)]; rfl
  simp only [hd]
  rfl
end Go.Proofs.YtddkaehkimnklaaGreatDoor
/- Columns, rows that fit them, and the normal form of a relation with one row and without one. -/
set_option maxRecDepth 100000
namespace Go.Proofs.YtddkaehkimnklaaGreatDoor
open Go Go.Ab
def tyOK (c:Column):Bool:=decide (0≤c.Type_)&&decide (c.Type_≤2)
def zou (l:List Column):Bool:=decide (l.length≤16)&&l.all tyOK
def fitR (l:List Column) (row:List Value):Bool:=decide (l.length=row.length)&&allN (fun i=>zj5 (l.getD i default).Type_ (row.getD i default)) l.length 0
theorem zIS (a b:Nat):decide (Int.ofNat a=Int.ofNat b)=decide (a=b):=by
 by_cases h:a=b
 ·rw [h]; simp
 ·rw [decide_eq_false h,decide_eq_false]; intro e; exact h (Int.ofNat.inj e)
theorem zKN:zbd ⟨default,0⟩=(true,false):=by kernel_rfl
theorem zKQ:zbd ⟨default,1⟩=(true,false):=by kernel_rfl
theorem zKL:zbd ⟨default,2⟩=(true,false):=by kernel_rfl
theorem zKF (c:Column):zbd c=(true, !tyOK c):=by
 have hc:zbd c=zbd ⟨default,c.Type_⟩:=rfl
 rw [hc]
 unfold tyOK
 generalize c.Type_=t
 by_cases h0:t<0
 ·unfold zbd zgV zlJ zmw
  rw [Wy.fin_bn,Wy.fin_i,decide_eq_true h0,decide_eq_false (show ¬ 0≤t by omega)]
  show (true,((ByteArray.mk #[]).toList==(ByteArray.mk #[]).toList))=_
  rw [ztL]; rfl
 ·by_cases h2:t>2
  ·unfold zbd zgV zlJ zmw
   rw [Wy.fin_bn,Wy.fin_i,Wy.fin_i,decide_eq_false h0,decide_eq_true h2,decide_eq_false (show ¬ t≤2 by omega),Bool.and_false]
   show (true,((ByteArray.mk #[]).toList==(ByteArray.mk #[]).toList))=_
   rw [ztL]; rfl
  ·rw [decide_eq_true (show 0≤t by omega),decide_eq_true (show t≤2 by omega)]
   have:t=0∨t=1∨t=2:=by omega
   rcases this with rfl | rfl | rfl
   ·exact zKN
   ·exact zKQ
   ·exact zKL
theorem zwj (l:List Column) (hl:l.length≤1000000):zg7 l=(true,zou l):=by
 have hc:zbt l=(true, !l.all tyOK):=by
  unfold zbt zcY
  have:zco l=IG (fun (_:Unit) x=>zbd x) (l.length+(Int.ofNat l.length).toNat +Int.toNat (0:Int)+(1000:Nat)) () l:=rfl
  have e:(!l.all tyOK)=l.any fun c=> !tyOK c:=by simp [List.all_eq_not_any_not]
  rw [e]
  exact zs6 (this.trans (zEA _ _ _ _ _ (by omega) (fun x _=>zKF x) (by omega)))
 unfold zg7 zj9 zou
 have el:decide (Int.ofNat l.length≤(16:Int))=decide (l.length≤16):=zmU _ 16
 rw [Wy.fin_i,Wy.fin_bn,hc,el]
 cases decide (l.length≤16) <;>cases l.all tyOK <;>rfl
def zips (l:List Column) (row:List Value) (k:Nat):List pair:=(List.range k).map fun i=>pair.mk (l.getD i default) (row.getD i default)
theorem zDV (l:List Column) (row:List Value) (k:Nat):zips l row (k+1)=zips l row k++[pair.mk (l.getD k default) (row.getD k default)]:=by
 unfold zips; rw [List.range_succ,List.map_append]; rfl
theorem zBl (l:List Column) (row:List Value) (k:Nat):(zips l row k).length=k:=by simp [zips]
theorem zFK (l:List Column) (row:List Value) (he:l.length=row.length) (hl:l.length≤1000000):∀ (n i:Nat),row.length<i+n→i≤row.length→zrE n l row row.length i (zips l row i)=(true,zips l row row.length)
 | 0,i,h,h2=>by omega
 | n+1,i,h,h2=>by
  show (zrr l row row.length i (zips l row i)).ev (zO znk default n) (fun r=>(true,r)) (false,default)=_
  unfold zrr
  by_cases hi:i<row.length
  ·have hi':i<l.length:=by omega
   simp only [Wy.ev_i,Wy.ev_k,Wy.ev_h,Wy.ev_bn,Wy.ev_d,tT,hi,hi']
   rw [decide_eq_true (show ((zips l row i).length+[pair.mk (l.getD i default) (row.getD i default)].length)*56≤reach from zp7 (by rw [zBl]; simp; omega) (by omega)),cond_true,zcs (by omega), ← zDV]
   exact zFK l row he hl n (i+1) (by omega) (by omega)
  ·have:i=row.length:=by omega
   subst this
   simp only [Wy.ev_i,Wy.ev_k,Wy.ev_h,Wy.ev_bn,Wy.ev_d,tT,Nat.lt_irrefl]
theorem zFm (l:List Column) (row:List Value) (p:pair→Bool):∀ k,(zips l row k).all p=allN (fun i=>p (pair.mk (l.getD i default) (row.getD i default))) k 0
 | 0=>rfl
 | k+1=>by
  rw [zDV,List.all_append,zFm l row p k,zAF,Nat.zero_add]
  simp
theorem zJt (l:List Column) (row:List Value) (hl:l.length≤1000000):zkp l row=(true,fitR l row):=by
 unfold zkp zra fitR
 rw [Wy.fin_i,beqd,zIS]
 by_cases he:l.length=row.length
 ·have hz:zn8 l row=(true,zips l row row.length):=by
   unfold zn8 zsP
   have key:∀ n,row.length<n→zrE n l row (Int.ofNat row.length) 0 []=(true,zips l row row.length):=fun n hn=>zFK l row he hl n 0 (by omega) (by omega)
   rw [Wy.fin_bn,key _ (by omega)]; rfl
  have hc:zbf (zips l row row.length)=(true, !(zips l row row.length).all fun p=>zj5 p.c.Type_ p.v):=by
   generalize hq:zips l row row.length=q
   have hql:q.length≤1000000:=by rw [← hq,zBl]; omega
   unfold zbf zci
   have:zbQ q=IG (fun (_:Unit) x=>zh2 x) (q.length+(Int.ofNat q.length).toNat +Int.toNat (0:Int)+(1000:Nat)) () q:=rfl
   have e:(!q.all fun p=>zj5 p.c.Type_ p.v)=q.any fun p=> !zj5 p.c.Type_ p.v:=by simp [List.all_eq_not_any_not]
   rw [e]
   exact zs6 (this.trans (zEA _ _ _ _ _ (by omega) (fun x _=>by
    show zh2 x=_
    unfold zh2 znW zj5
    simp only [Wy.fin_i,Wy.fin_k,Wy.fin_bn,zsH,cond_true,bne0]
    cases valV x.v <;>cases decide (x.v.Kind=x.c.Type_) <;>rfl) (by omega)))
  rw [decide_eq_true he,cond_true,Wy.fin_bn,hz,cond_true,Wy.fin_bn,hc,zFm,he]
  cases allN (fun i=>zj5 (l.getD i default).Type_ (row.getD i default)) row.length 0 <;>rfl
 ·rw [decide_eq_false he]; rfl
theorem zFy:zmp []=(true,true):=by kernel_rfl
theorem zG4 (v:List Value):zcA [⟨v,[]⟩]=(true,[]):=by kernel_rfl
theorem zGU:zcA []=(true,[]):=by kernel_rfl
theorem zEJ:zY []=(true,[]):=by kernel_rfl
theorem zEh (cols:List Column) (n:Nat):zpz (n+1) (Int.ofNat ([]:List Row).length) 0 [] cols []=(true,(cols,[])):=rfl
theorem zC5 (cols:List Column) (h:cols.length≤1000000):zcl cols=(true,cols):=by
 unfold zcl
 rw [decide_eq_true (zp7 (by omega) (by omega))]
theorem zIk (v:List Value):zbV [⟨v,[]⟩]=(true,[⟨v,[]⟩]):=by
 unfold zbV
 rw [decide_eq_true (zp7 (by simp) (by omega))]
theorem zHS:zbV []=(true,[]):=by
 unfold zbV
 rw [decide_eq_true (zp7 (by simp) (by omega))]
theorem zID (cols:List Column) (h:cols.length≤1000000):∃ r,zec ⟨cols,[]⟩=(true,(r,if zou cols then 0 else 1)):=by
 unfold zec zjx
 rw [Wy.fin_bn,zwj cols h,cond_true,Wy.fin_i]
 cases zou cols with
 | false=>exact ⟨_,rfl⟩
 | true=>
  have l4:∀ n,zlh (n+1) [] (Int.ofNat ([]:List Row).length) 0 ⟨cols,[]⟩=(true,.inr ⟨cols,[]⟩):=fun n=>rfl
  rw [Bool.not_true,cond_false,Wy.fin_bn,show ∀ a:Nat,a+1000=(a+999)+1 from fun _=>rfl,l4,cond_true]
  simp only [isL,getR,Wy.fin_i,cond_false]
  rw [Wy.fin_bn,zHS,cond_true,Wy.fin_bn,zGU,cond_true,Wy.fin_bn,zEJ,cond_true,Wy.fin_bn,zC5 cols h,cond_true,Wy.fin_bn,show ∀ a:Nat,a+1000=(a+999)+1 from fun _=>rfl,zEh]
  exact ⟨_,rfl⟩
theorem zIX (cols:List Column) (v:List Value) (h:cols.length≤1000000):∃ r,zec ⟨cols,[⟨v,[]⟩]⟩=(true,(r,if zou cols then (if fitR cols v then 0 else 7) else 1)):=by
 unfold zec zjx
 rw [Wy.fin_bn,zwj cols h,cond_true,Wy.fin_i]
 cases zou cols with
 | false=>exact ⟨_,rfl⟩
 | true=>
  have l4:∀ n,zlh (n+2) [⟨v,[]⟩] (Int.ofNat [(⟨v,[]⟩:Row)].length) 0 ⟨cols,[⟨v,[]⟩]⟩=(true,bif fitR cols v then .inr ⟨cols,[⟨v,[]⟩]⟩ else .inl 7):=fun n=>by
   show (zla [⟨v,[]⟩] (Int.ofNat [(⟨v,[]⟩:Row)].length) 0 ⟨cols,[⟨v,[]⟩]⟩).ev (zO zg9 (.inl default) (n+1)) (fun r=>(true,r)) (false,.inl default)=_
   unfold zla
   show (Wy.bn (zkp cols v) fun r5=>Wy.i (!r5) (.k (.inl (7:Int))) (.bn (zmp []) fun r4=>.i (!r4) (.k (.inl (1:Int))) (.h ((),(),[(⟨v,[]⟩:Row)],(Int.ofNat [(⟨v,[]⟩:Row)].length),(IntKind.i64.wrap (0+(1:Int))),()) (⟨cols,[⟨v,[]⟩]⟩,((),(),()),())))).ev (zO zg9 (.inl default) (n+1)) (fun r=>(true,r)) (false,.inl default)=_
   rw [Wy.ev_bn,zJt cols v h,cond_true,Wy.ev_i]
   cases fitR cols v with
   | false=>rfl
   | true=>rw [Bool.not_true,cond_false,Wy.ev_bn,zFy]; rfl
  rw [Bool.not_true,cond_false,Wy.fin_bn,show ∀ a:Nat,a+1000=(a+998)+2 from fun _=>rfl,l4,cond_true]
  cases fitR cols v with
  | false=>exact ⟨_,rfl⟩
  | true=>
   simp only [isL,getR,Wy.fin_i,cond_false,cond_true]
   rw [Wy.fin_bn,zIk,cond_true,Wy.fin_bn,zG4,cond_true,Wy.fin_bn,zEJ,cond_true,Wy.fin_bn,zC5 cols h,cond_true,Wy.fin_bn,show ∀ a:Nat,a+1000=(a+999)+1 from fun _=>rfl,zEh]
   exact ⟨_,rfl⟩
end Go.Proofs.YtddkaehkimnklaaGreatDoor
end
