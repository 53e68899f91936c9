/- Texts of this claim, joined (the program, its functions in plain words, and what they compute). -/
import Derived.Test.YtddkaehkimnklaaGreatDoorGC1
import Derived.Test.YtddkaehkimnklaaGreatDoorGA3
import Derived.Test.YtddkaehkimnklaaGreatDoorGC5
import Derived.Test.YtddkaehkimnklaaGreatDoorGC4
set_option autoImplicit false
set_option linter.unusedVariables false
set_option linter.unusedSectionVars false
set_option linter.unusedSimpArgs false
set_option maxRecDepth 1000000
set_option maxHeartbeats 0
noncomputable section
namespace Go.Proofs.YtddkaehkimnklaaGreatDoor
open Go Go.Ab
end Go.Proofs.YtddkaehkimnklaaGreatDoor
namespace Go.Proofs.YtddkaehkimnklaaGreatDoor
open Go Go.Ab
end Go.Proofs.YtddkaehkimnklaaGreatDoor
/- The reference's estimate of a condition. -/
namespace Go.Proofs.YtddkaehkimnklaaGreatDoor
open Go Go.Ab
theorem zhp {s:Stats} {k:Int} (h:hasP s k=true):((k.toNat:Nat):Int)=k∧k.toNat<s.Columns.length:=by
 have:=zEj.1 h; omega
theorem zEs {s:Stats} (h:okS s=true) {k:Int} (hk:hasP s k=true) (v:Value):zpk s k v=(true,eqP s k.toNat v):=by
 have:=zhp hk
 rw [← zAM h this.2,this.1]
section
variable (g:Stats→Scalar→Bool×Int) {s:Stats} (h:okS s=true) (e x y:Scalar)
include h
end
theorem zAQ (l:List Value) (hl:l.length≤1000000):∀ (n i:Nat),i<l.length→i<n→zdd n l i=(true,bif allN (srtB l) (i+1) 0 then .inr () else .inl false)
 | 0,i,hi,hn=>by omega
 | n+1,i,hi,hn=>by
  show (zda l i).ev (fun x y=>zdd n x.1 x.2.2.1) (fun r=>(true,r)) (false,.inl default)=_
  unfold zda
  have hg:decide ((i:Int)>(0:Int))=decide (0<i):=zzL i 0
  cases i with
  | zero=>simp [Wy.ev_i,Wy.ev_k,allN,srtB]
  | succ i=>
   have hi':i<l.length:=by omega
   have hw:IntKind.i64.wrap (((i+1:Nat):Int) - 1)=(i:Int):=by rw [zDq (by omega) (by omega)]; rfl
   have hp:decide (0<i+1)=true:=by simp
   simp only [Wy.ev_i,Wy.ev_k,Wy.ev_h,Wy.ev_bn,Wy.ev_d,hg,hp,hw,tT,hi,hi',value_Compare_eq']
   rw [zAQ l hl n i hi' (by omega),zDs _ (i+1),Nat.zero_add]
   have:srtB l (i+1)= !decide (cmpV (l.getD (i+1) default) (l.getD i default)<0):=by
    unfold srtB
    rw [show i+1 - 1=i from rfl,zDl (l.getD (i+1) default) (l.getD i default)]
    generalize cmpV (l.getD (i+1) default) (l.getD i default)=z
    by_cases hz:z<0
    ·have:¬ (-z≤0):=by omega
     simp [hz,this]
    ·have:(-z≤0):=by omega
     simp [hz,this]
   rw [this]
   cases decide (cmpV (l.getD (i+1) default) (l.getD i default)<0) <;>simp
theorem zGK (l:List Value) (hl:l.length≤1000000):zbJ l=(true,allN (srtB l) l.length 0):=by
 unfold zbJ zdB
 match l,hl with
 | [],_=>rfl
 | x::r,hl=>
  have hw:IntKind.i64.wrap (Int.ofNat (x::r).length - 1)=(r.length:Int):=by
   rw [List.length_cons] at hl
   rw [show Int.ofNat (x::r).length=(((x::r).length:Nat):Int) from rfl,zDq (by simp) (by simp; omega)]; rfl
  rw [Wy.fin_bn,hw,zAQ (x::r) hl _ r.length (by simp) (by simp; omega)]
  cases allN (srtB (x::r)) (r.length+1) 0 with
  | true=>simp [Wy.fin_i,Wy.fin_k,isL]
  | false=>simp [Wy.fin_i,Wy.fin_k,isL,getL]
theorem zIJ (l:List Value) (c:ColumnStats) (h:l.length≤1000000):zbt l c=(true, !l.all (zph c.Min.Kind)):=by
 unfold zbt zc2
 have:zct l c=IG (fun (g:ColumnStats×Unit) x=>zc7 x g.1) (l.length+c.Bounds.length+(Int.ofNat l.length).toNat +Int.toNat (0:Int)+(1000:Nat)) (c,()) l:=rfl
 have e:(!l.all (zph c.Min.Kind))=l.any fun w=> !zph c.Min.Kind w:=by simp [List.all_eq_not_any_not]
 rw [e]
 exact zA8 (this.trans (zHO _ _ _ _ _ (by omega) (fun x _=>by
  show zc7 x c=_
  unfold zc7 zh8 zph
  simp only [Wy.fin_i,Wy.fin_k,Wy.fin_bn,zxL,cond_true,bne0]
  cases valV x <;>cases decide (x.Kind=c.Min.Kind) <;>rfl) (by omega)))
theorem ztX (c:ColumnStats) (rows:Int):zgp c rows=(true,okC c rows):=by
 unfold zgp zjs okC
 by_cases h0:rows=0
 ·subst h0
  simp only [zHK]
  simp only [Wy.fin_i,Wy.fin_k,beqd,if_pos,decide_true,cond_true]
  have e:decide (Int.ofNat c.Bounds.length=(0:Int))=decide (c.Bounds.length=0):=by
   by_cases h:c.Bounds.length=0
   ·rw [h]; rfl
   ·rw [decide_eq_false h,decide_eq_false]; intro hc; exact h (Int.ofNat.inj hc)
  rw [e]
  cases decide (c.Distinct=0) <;>cases decide (c.Min=zV) <;>cases decide (c.Max=zV) <;>rfl
 ·have e8:(Int.ofNat c.Bounds.length != (8:Int))= !decide (c.Bounds.length=8):=by
   rw [bne0]
   congr 1
   by_cases h:c.Bounds.length=8
   ·rw [h]; rfl
   ·rw [decide_eq_false h,decide_eq_false]; intro hc; exact h (Int.ofNat.inj hc)
  have er:(rows==(0:Int))=false:=by rw [beqd,decide_eq_false h0]
  have z7:Int.toNat (7:Int)=7:=rfl
  have z0:Int.toNat (0:Int)=0:=rfl
  have g1:decide (c.Distinct≥(1:Int))=decide (1≤c.Distinct):=rfl
  have gl:decide (cmpV (c.Bounds.getD 0 default) c.Min<0)= !decide (cmpV c.Min (c.Bounds.getD 0 default)≤0):=by
   rw [zDl c.Min (c.Bounds.getD 0 default)]
   generalize cmpV c.Min (c.Bounds.getD 0 default)=z
   by_cases h:z≤0
   ·have:¬ (-z<0):=by omega
    simp [h,this]
   ·have: -z<0:=by omega
    rw [decide_eq_true this,decide_eq_false h]; rfl
  simp only [veq]
  simp only [Wy.fin_i,Wy.fin_bn,Wy.fin_k,er,if_neg h0,cond_false,cond_true,zxL,value_Compare_eq',g1,beqd c.Min.Kind,e8,z7,z0,gl]
  by_cases h8:c.Bounds.length=8
  ·have e7:(decide ((0:Int)≤(7:Int))&&decide ((7:Int)<Int.ofNat c.Bounds.length))=true:=by rw [h8]; rfl
   have e0:(decide ((0:Int)≤(0:Int))&&decide ((0:Int)<Int.ofNat c.Bounds.length))=true:=by rw [h8]; rfl
   rw [e7,e0,zGK _ (by omega),zIJ _ _ (by omega),decide_eq_true h8]
   cases decide (1≤c.Distinct) <;>cases decide (c.Distinct≤rows) <;>cases valV c.Min <;>cases valV c.Max <;>cases decide (c.Min.Kind=c.Max.Kind) <;>cases decide (cmpV c.Min c.Max≤0) <;>try rfl
   generalize allN (srtB c.Bounds) c.Bounds.length 0=q1
   generalize c.Bounds.all (zph c.Min.Kind)=q2
   cases q1 <;>cases q2 <;>cases decide (c.Bounds.getD 7 default=c.Max) <;>cases decide (cmpV c.Min (c.Bounds.getD 0 default)≤0) <;>rfl
  ·rw [decide_eq_false h8]
   cases decide (1≤c.Distinct) <;>cases decide (c.Distinct≤rows) <;>cases valV c.Min <;>cases valV c.Max <;>cases decide (c.Min.Kind=c.Max.Kind) <;>cases decide (cmpV c.Min c.Max≤0) <;>rfl
theorem zID (l:List ColumnStats) (s:Stats) (h:l.length≤1000000):zZ l s=(true, !l.all fun c=>okC c s.Rows):=by
 unfold zZ zbS
 have:zbs l s=IG (fun (g:Stats×Unit) x=>zgm x g.1) (l.length+s.Columns.length+(Int.ofNat l.length).toNat +Int.toNat (0:Int)+(1000:Nat)) (s,()) l:=rfl
 have e:(!l.all fun c=>okC c s.Rows)=l.any fun c=> !okC c s.Rows:=by simp [List.all_eq_not_any_not]
 rw [e]
 exact zA8 (this.trans (zHO _ _ _ _ _ (by omega) (fun x _=>by
  show zgm x s=_
  unfold zgm zk1
  rw [Wy.fin_bn,ztX]
  rfl) (by omega)))
theorem zjB (s:Stats):zd0 s=(true,okS s):=by
 unfold zd0 znb okS
 have el:decide (Int.ofNat s.Columns.length≤(16:Int))=decide (s.Columns.length≤16):=zzE _ 16
 have e0:decide (s.Rows≥(0:Int))=decide (0≤s.Rows):=rfl
 simp only [Wy.fin_i,Wy.fin_bn,Wy.fin_k,e0,el]
 by_cases hl:s.Columns.length≤16
 ·rw [zID _ _ (by omega),decide_eq_true hl]
  cases decide (0≤s.Rows) <;>cases decide (s.Rows≤1000000) <;>try rfl
  cases s.Columns.all (fun c=>okC c s.Rows) <;>rfl
 ·rw [decide_eq_false hl]
  cases decide (0≤s.Rows) <;>cases decide (s.Rows≤1000000) <;>rfl
theorem zyD (s:Stats) (k:Int):zbe ⟨s⟩ k=(true,hasP s k):=by
 unfold zbe ziD hasP
 rw [Wy.fin_i,ge0]
 by_cases h:0≤k
 ·rw [decide_eq_true h]; rfl
 ·rw [decide_eq_false h]; rfl
theorem zwG (v:Value) (l:List Value) (hl:l.length≤1000):∀ (n i m:Nat),l.length<i+n→i≤l.length→m≤125*i→
   zgD n m l l.length i v=(true,((m+125*((l.drop i).filter fun b=>decide (cmpV b v<0)).length:Nat):Int))
 | 0,i,m,h,h2,_=>by omega
 | n+1,i,m,h,h2,h3=>by
  show (ziz m l l.length i v).ev (fun x y=>zgD n x.2.1 x.2.2.1 x.2.2.2.1 x.2.2.2.2.1 y.1) (fun r=>(true,r)) (false,default)=_
  unfold ziz
  by_cases hi:i<l.length
  ·have hw:IntKind.i64.wrap ((m:Int)+(125:Int))=((m+125:Nat):Int):=by
    rw [zpU (by omega) (by omega)]; rfl
   simp only [Wy.ev_i,Wy.ev_k,Wy.ev_h,Wy.ev_bn,Wy.ev_d,tT,hi,value_Compare_eq',hw,zjc (show i<4611686018427387904 by omega)]
   rw [zny hi]
   by_cases hx:cmpV (l.getD i default) v<0
   ·rw [decide_eq_true hx,cond_true,zwG v l hl n (i+1) (m+125) (by omega) (by omega) (by omega),List.filter_cons_of_pos (by simpa using hx),List.length_cons]
    congr 2; omega
   ·rw [decide_eq_false hx,cond_false,zwG v l hl n (i+1) m (by omega) (by omega) (by omega),List.filter_cons_of_neg (by simpa using hx)]
  ·simp only [Wy.ev_i,Wy.ev_k,Wy.ev_h,Wy.ev_bn,Wy.ev_d,tT,hi,znI hi]
   rfl
theorem zAk {s:Stats} (h:okS s=true) {k:Int} (hk:hasP s k=true) (v:Value):zcj ⟨s⟩ k v=(true,ltP s k.toNat v):=by
 obtain ⟨h1,h2⟩:=zhp hk
 have hb:=zzt h h2
 have hz:∀ (n:Nat),(s.Columns.getD k.toNat default).Bounds.length<n→zgD n 0 (s.Columns.getD k.toNat default).Bounds (Int.ofNat (s.Columns.getD k.toNat default).Bounds.length) 0 v=(true,ltP s k.toNat v):=fun n hn=>by
  have:=zwG v (s.Columns.getD k.toNat default).Bounds (by omega) n 0 0 (by omega) (by omega) (by omega)
  rw [List.drop_zero,Nat.zero_add] at this
  exact this
 have hin:(decide ((0:Int)≤k)&&decide (k<Int.ofNat s.Columns.length))=true:=hk
 unfold zcj zi2
 rw [Wy.fin_i,hin,cond_true,Wy.fin_bn,hz _ (by omega)]
 rfl
theorem zG0 {s:Stats} (h:okS s=true) {k:Int} (hk:hasP s k=true) (v:Value):zch ⟨s⟩ k v=(true,eqP s k.toNat v):=by
 rw [← zEs h hk]
 unfold zch zi3 zpk zt9
 simp only [value_Compare_eq',ref01_Compare_eq']
theorem zC0 {s:Stats} (h:okS s=true) {k:Int} (hk:hasP s k=true) (v:Value):zck ⟨s⟩ k v=(true,leP s k.toNat v):=by
 obtain ⟨_,hk2⟩:=zhp hk
 have h1:=zxs h hk2 v
 have h2:=zCU h hk2 v
 unfold zck ziX leP
 rw [Wy.fin_bn,zAk h hk,cond_true,Wy.fin_bn,zG0 h hk,cond_true,Wy.fin_k,zpU (by omega) (by omega)]
def zgG (s:Stats) (n i:Int):Int:=if hasP s i=true then (if s.Rows<n*(s.Columns.getD i.toNat default).Distinct then s.Rows else n*(s.Columns.getD i.toNat default).Distinct) else n
theorem zEE {s:Stats} (h:okS s=true) {k:Nat} (hk:k<s.Columns.length):0≤(s.Columns.getD k default).Distinct∧(s.Columns.getD k default).Distinct≤s.Rows:=by
 obtain ⟨h1,h2,h3,h4⟩:=znz h
 have hc:=h4 _ (zrP hk)
 by_cases h0:s.Rows=0
 ·rw [h0] at hc; have:=(zEq hc).1; omega
 ·have:=zAv h0 hc; omega
theorem dmul {s:Stats} (h:okS s=true) {k:Nat} (hk:k<s.Columns.length) {n:Int} (h0:0≤n) (hn:n≤1000000):0≤n*(s.Columns.getD k default).Distinct∧n*(s.Columns.getD k default).Distinct≤1000000000000:=by
 have hd:=zEE h hk
 have hr:=(znz h).2.1
 refine ⟨Int.mul_nonneg h0 hd.1, ?_⟩
 have h1:n*(s.Columns.getD k default).Distinct≤1000000*(s.Columns.getD k default).Distinct:=Int.mul_le_mul_of_nonneg_right hn hd.1
 omega
theorem zwc {s:Stats} (h:okS s=true) {n:Int} (i:Int) (h0:0≤n) (hn:n≤1000000):0≤zgG s n i∧zgG s n i≤1000000:=by
 have hr:=znz h
 unfold zgG
 split
 ·rename_i hh
  have:=dmul h (zhp hh).2 h0 hn
  split <;>omega
 ·exact ⟨h0,hn⟩
theorem zHz {s:Stats} (h:okS s=true) {n:Int} (i:Int) (hn:n≤s.Rows):zgG s n i≤s.Rows:=by
 unfold zgG
 split
 ·split <;>omega
 ·exact hn
theorem zyw {s:Stats} (h:okS s=true):∀ (l:List Int) (n:Int),n≤s.Rows→l.foldl (zgG s) n≤s.Rows
 | [],n,hn=>hn
 | x::r,n,hn=>zyw h r _ (zHz h x hn)
theorem zDe {s:Stats} (h:okS s=true):∀ (l:List Int) (n:Int),0≤n→n≤1000000→0≤l.foldl (zgG s) n∧l.foldl (zgG s) n≤1000000
 | [],n,h0,hn=>⟨h0,hn⟩
 | x::r,n,h0,hn=>by
  have:=zwc h x h0 hn
  exact zDe h r _ this.1 this.2
def disP (s:Stats) (l:List Int):Int:=l.foldl (zgG s) (if s.Rows<1 then s.Rows else 1)
theorem zxX {s:Stats} (h:okS s=true) (h0:s.Rows=0):∀ (l:List Int) (n:Int),0≤n→n≤1→0≤l.foldl (zgG s) n
 | [],n,hn,_=>hn
 | x::r,n,hn,h1=>by
  have:=zwc h x hn (by omega)
  have hle:zgG s n x≤1:=by
   unfold zgG
   split
   ·rename_i hh
    have hd:=zEE h (zhp hh).2
    have:(s.Columns.getD x.toNat default).Distinct=0:=by omega
    rw [this,Int.mul_zero]; split <;>omega
   ·exact h1
  exact zxX h h0 r _ this.1 hle
theorem zHE {s:Stats} (h:okS s=true) (l:List Int):(if s.Rows<l.foldl (zgG s) 1 then s.Rows else l.foldl (zgG s) 1)=disP s l:=by
 obtain ⟨h1,h2,h3,h4⟩:=znz h
 unfold disP
 by_cases h0:s.Rows=0
 ·have a:=zxX h h0 l 1 (by omega) (by omega)
  have b:=zxX h h0 l 0 (by omega) (by omega)
  have c:=zyw h l 0 (by omega)
  rw [h0,if_pos (show (0:Int)<1 by omega)]
  rw [h0] at c
  split <;>omega
 ·have c:=zyw h l 1 (by omega)
  rw [if_neg (show ¬ s.Rows<1 by omega),if_neg (by omega)]
theorem zHh {s:Stats} (h:okS s=true) (l:List Int):0≤disP s l∧disP s l≤s.Rows:=by
 obtain ⟨h1,h2,h3,h4⟩:=znz h
 unfold disP
 exact ⟨(zDe h l _ (by split <;>omega) (by split <;>omega)).1,zyw h l _ (by split <;>omega)⟩
theorem zBh {s:Stats} (h:okS s=true) (l:List Int) (hl:l.length≤1000000):∀ (n i:Nat) (m:Int),l.length<i+n→i≤l.length→0≤m→m≤1000000→zhW n m l l.length i s=(true,(l.drop i).foldl (zgG s) m)
 | 0,i,m,h1,h2,_,_=>by omega
 | n+1,i,m,h1,h2,h3,h4=>by
  show (zki m l l.length i s).ev (fun x y=>zhW n x.2.1 x.2.2.1 x.2.2.2.1 x.2.2.2.2.1 y.1) (fun r=>(true,r)) (false,default)=_
  unfold zki
  by_cases hi:i<l.length
  ·simp only [Wy.ev_i,Wy.ev_k,Wy.ev_h,Wy.ev_bn,Wy.ev_d,tT,hi,zyD,zjc (show i<4611686018427387904 by omega)]
   rw [zny hi,List.foldl_cons]
   have hs:=zwc h (l.getD i default) h3 h4
   cases hh:hasP s (l.getD i default) with
   | false=>
    have:zgG s m (l.getD i default)=m:=by unfold zgG; rw [hh]; rfl
    rw [this,cond_false]
    exact zBh h l hl n (i+1) m (by omega) (by omega) h3 h4
   | true=>
    have hk:=zhp hh
    have hin:(decide ((0:Int)≤l.getD i default)&&decide (l.getD i default<(s.Columns.length:Int)))=true:=hh
    have hm:=dmul h hk.2 h3 h4
    have hd:zgG s m (l.getD i default)=(if s.Rows<m*(s.Columns.getD (l.getD i default).toNat default).Distinct then s.Rows else m*(s.Columns.getD (l.getD i default).toNat default).Distinct):=by unfold zgG; rw [if_pos hh]
    rw [cond_true,hin,cond_true,zpU (by omega) (by omega), ← hd]
    exact zBh h l hl n (i+1) _ (by omega) (by omega) hs.1 hs.2
  ·simp only [Wy.ev_i,Wy.ev_k,Wy.ev_h,Wy.ev_bn,Wy.ev_d,tT,hi,znI hi]
   rfl
theorem zE2 (s:Stats) (l:List Int) (hl:l.length≤1000000):zhL s l=(true,bif okS s then disP s l else 0):=by
 unfold zhL zkS
 simp only [Wy.fin_i,Wy.fin_bn,Wy.fin_k,zjB,cond_true]
 cases h:okS s with
 | false=>rfl
 | true=>
  have hr:=znz h
  have hz:∀ (n:Nat),l.length<n→zhW n (if s.Rows<(1:Int) then s.Rows else (1:Int)) l (Int.ofNat l.length) 0 s=(true,disP s l):=fun n hn=>by
   have:=zBh h l hl n 0 (if s.Rows<(1:Int) then s.Rows else (1:Int)) (by omega) (by omega) (by split <;>omega) (by split <;>omega)
   rw [List.drop_zero] at this
   exact this
  rw [hz _ (by omega)]
  rfl
theorem zzq {s:Stats} (h:okS s=true) (l:List Int) (hl:l.length≤1000000):∀ (n i:Nat) (m:Int),l.length<i+n→i≤l.length→0≤m→m≤1000000→zkw n l m i s=(true,((l.drop i).foldl (zgG s) m,s))
 | 0,i,m,h1,h2,_,_=>by omega
 | n+1,i,m,h1,h2,h3,h4=>by
  show (zoh l m i s).ev (fun x y=>zkw n x.1 x.2.2.1 x.2.2.2.1 y.1) (fun r=>(true,r)) (false,default)=_
  unfold zoh
  by_cases hi:i<l.length
  ·simp only [Wy.ev_i,Wy.ev_k,Wy.ev_h,Wy.ev_bn,Wy.ev_d,tT,hi,zzn,zjc (show i<4611686018427387904 by omega)]
   rw [zny hi,List.foldl_cons]
   have hs:=zwc h (l.getD i default) h3 h4
   cases hh:hasP s (l.getD i default) with
   | false=>
    have:zgG s m (l.getD i default)=m:=by unfold zgG; rw [hh]; rfl
    rw [this,cond_false]
    exact zzq h l hl n (i+1) m (by omega) (by omega) h3 h4
   | true=>
    have hk:=zhp hh
    have hin:(decide ((0:Int)≤l.getD i default)&&decide (l.getD i default<(s.Columns.length:Int)))=true:=hh
    have hm:=dmul h hk.2 h3 h4
    have hd:zgG s m (l.getD i default)=(if s.Rows<m*(s.Columns.getD (l.getD i default).toNat default).Distinct then s.Rows else m*(s.Columns.getD (l.getD i default).toNat default).Distinct):=by unfold zgG; rw [if_pos hh]
    rw [cond_true,hin,cond_true,zpU (by omega) (by omega), ← hd]
    exact zzq h l hl n (i+1) _ (by omega) (by omega) hs.1 hs.2
  ·simp only [Wy.ev_i,Wy.ev_k,Wy.ev_h,Wy.ev_bn,Wy.ev_d,tT,hi,znI hi]
   rfl
theorem zAA (s:Stats) (l:List Int) (hl:l.length≤1000000):zkK s l=(true,bif okS s then disP s l else 0):=by
 unfold zkK zpq
 simp only [Wy.fin_i,Wy.fin_bn,Wy.fin_k,zxA,cond_true]
 cases h:okS s with
 | false=>rfl
 | true=>
  have hz:∀ (n:Nat),l.length<n→zkw n l 1 0 s=(true,(l.foldl (zgG s) 1,s)):=fun n hn=>by
   have:=zzq h l hl n 0 1 (by omega) (by omega) (by omega) (by omega)
   rw [List.drop_zero] at this
   exact this
  rw [hz _ (by omega)]
  simp only [Bool.not_true,cond_false,cond_true]
  rw [zHE h l]
def ranP (s:Stats) (k:Int) (low high:List Value):Int:=
 if hasP s k=true then (
  let a:=if low.length>0 then ltP s k.toNat (low.getD 0 default) else 0
  let b:=if high.length>0 then leP s k.toNat (high.getD 0 default) else 1000
  if b - a>0 then b - a else 0) else 333
theorem zH3 {s:Stats} (h:okS s=true) (k:Int) (low high:List Value):0≤ranP s k low high∧ranP s k low high≤1000:=by
 unfold ranP
 split
 ·rename_i hh
  have h1:=zxs h (zhp hh).2 (low.getD 0 default)
  have h2:=zFw h (zhp hh).2 (high.getD 0 default)
  simp only
  repeat' split
  all_goals omega
 ·omega
theorem gt0 (n:Nat):decide (Int.ofNat n>(0:Int))=decide (n>0):=zzL n 0
theorem zFN {a b:Int} (ha:0≤a∧a≤1000) (hb:0≤b∧b≤1000):IntKind.i64.wrap (b - a)=b - a:=zpU (by omega) (by omega)
theorem zBl (s:Stats) (k:Int) (low high:List Value):zgP s k low high=(true,bif okS s then ranP s k low high else 0):=by
 unfold zgP zj4 ranP
 have z0:Int.toNat (0:Int)=0:=rfl
 simp only [Wy.fin_i,Wy.fin_bn,Wy.fin_k,zjB,zyD,cond_true,gt0,z0]
 cases h:okS s with
 | false=>rfl
 | true=>
  cases hh:hasP s k with
  | false=>rfl
  | true=>
   have h1:=zxs h (zhp hh).2 (low.getD 0 default)
   have h2:=zFw h (zhp hh).2 (high.getD 0 default)
   simp only [Bool.not_true,cond_false,cond_true,zAk h hh,zC0 h hh,zFN h1 h2,zFN h1 (show (0:Int)≤1000∧(1000:Int)≤1000 by omega),zFN (show (0:Int)≤0∧(0:Int)≤1000 by omega) h2]
   have w0:IntKind.i64.wrap (1000:Int)=1000:=by decide
   by_cases l1:low.length>0 <;>by_cases l2:high.length>0 <;>simp [l1,l2,w0]
theorem zCB (s:Stats) (k:Int) (low high:List Value):zoS s k low high=(true,bif okS s then ranP s k low high else 0):=by
 rw [← zBl]
 unfold zgP zj4 zoS ztq
 simp only [Wy.fin_i,Wy.fin_bn,zjB,zxA,zyD,zzn,cond_true]
 cases h:okS s with
 | false=>rfl
 | true=>
  cases hh:hasP s k with
  | false=>rfl
  | true=>
   have hk:=zhp hh
   have e1:=fun v=>zAN h hk.2 v
   have e2:=fun v=>zFf h hk.2 v
   rw [hk.1] at e1 e2
   simp only [zAk h hh,zC0 h hh,e1,e2]
theorem zEK (s:Stats) (columns:List Int) (column:Int) (low high:List Value) (hs:wf30 s) (hc:wf53 columns) (_:wf3 column) (hl:wf34 low) (hh:wf34 high):zel s columns column low high=(true,true):=by
 obtain ⟨q,q1,q2⟩:=zHw s hs
 obtain ⟨a,a1,a2⟩:=zBc low 3 hl.2
 obtain ⟨b,b1,b2⟩:=zBc high 3 hh.2
 replace a1:zg9 low (3:Int)=(true,a):=a1
 replace b1:zg9 high (3:Int)=(true,b):=b1
 have l8:∀ m:Int,(okS s=true→m≤s.Rows)→zmu 1 column m s=(true,true):=fun m hm=>by
  show (ziP column m s).ev (zY zg1 default 0) (fun r=>(true,r)) (false,default)=_
  unfold ziP
  simp only [Wy.ev_i,Wy.ev_k,Wy.ev_bn,zjB,zBl,cond_true]
  cases h:okS s with
  | false=>rfl
  | true=>
   rw [decide_eq_true (hm h)]
   by_cases h1:column<0
   ·rw [decide_eq_true h1]; rfl
   ·by_cases h2:column≥Int.ofNat s.Columns.length
    ·rw [decide_eq_false h1,decide_eq_true h2]; rfl
    ·have hp:hasP s column=true:=zEj.2 ⟨by omega,by
      have:column<(s.Columns.length:Int):=by
       have:¬ column≥(s.Columns.length:Int):=h2
       omega
      omega⟩
     have hr:ranP s column [] []=1000:=by unfold ranP; rw [if_pos hp]; rfl
     rw [decide_eq_false h1,decide_eq_false h2,hr]; rfl
 have l5:columns.length≤8→zmx 1 columns column low high s=(true,true):=fun h8=>by
  show (ziU columns column low high s).ev (zY zg0 default 0) (fun r=>(true,r)) (false,default)=_
  unfold ziU
  have hr:0≤(bif okS s then ranP s column low high else 0)∧(bif okS s then ranP s column low high else 0)≤1000:=by
   cases h:okS s with
   | false=>simp
   | true=>exact zH3 h _ _ _
  have hm:okS s=true→(bif okS s then disP s columns else 0)≤s.Rows:=fun h=>by rw [h]; exact (zHh h columns).2
  have g1:decide ((bif okS s then ranP s column low high else 0)<(0:Int))=false:=decide_eq_false (by omega)
  have g2:decide ((bif okS s then ranP s column low high else 0)>(1000:Int))=false:=decide_eq_false (by omega)
  simp only [Wy.ev_i,Wy.ev_k,Wy.ev_bn,zE2 s columns (by omega),zAA s columns (by omega),zBl,zCB,cond_true,bne0,decide_true,Bool.not_true,cond_false,g1,g2,l8 _ hm]
 have l3:zmO 1 columns column low high s=(true,true):=by
  show (zi4 columns column low high s).ev (zY zgY default 0) (fun r=>(true,r)) (false,default)=_
  unfold zi4
  have g:decide (Int.ofNat columns.length>(8:Int))=decide (columns.length>8):=zzL _ 8
  simp only [Wy.ev_i,Wy.ev_k,Wy.ev_bn,q1,a1,b1,cond_true,g]
  by_cases h8:columns.length>8
  ·rw [decide_eq_true h8]; cases q <;>rfl
  ·rw [decide_eq_false h8,l5 (by omega)]
   cases q <;>cases a <;>cases b <;>rfl
 unfold zel zjo
 rw [Wy.fin_bn,l3]
 rfl
end Go.Proofs.YtddkaehkimnklaaGreatDoor
end
