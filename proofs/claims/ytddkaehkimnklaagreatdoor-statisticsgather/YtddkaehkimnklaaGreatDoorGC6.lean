/- Texts of this claim, joined (the program, its functions in plain words, and what they compute). -/
import Derived.KernelRfl
import Derived.Test.YtddkaehkimnklaaGreatDoorGC1
import Derived.Test.YtddkaehkimnklaaGreatDoorGA3
import Derived.Test.YtddkaehkimnklaaGreatDoorGC4
import Derived.Test.YtddkaehkimnklaaGreatDoorGC5
set_option autoImplicit false
set_option linter.unusedVariables false
set_option linter.unusedSectionVars false
set_option linter.unusedSimpArgs false
set_option maxRecDepth 1000000
set_option maxHeartbeats 0
noncomputable section
namespace Go.Proofs.YtddkaehkimnklaaGreatDoor
open Go Go.Ab
theorem zEv (l:List Value) (m:Int) (hl:l.length≤roomLen):∀ (n i:Nat),l.length<i+n→i≤l.length→∃ r,zsR n l m i=(true,r)∧(r=.inl false∨(r=.inr (l,m)∧∀ x∈l.drop i,x.Text.size≤300))
 | 0,i,h,h2=>by omega
 | n+1,i,h,h2=>by
  show ∃ r,(zsY l m i).ev (fun x y=>zsR n x.1 x.2.1 x.2.2.1) (fun r=>(true,r)) (false,.inl default)=(true,r)∧_
  unfold zsY
  by_cases hi:i<l.length
  ·have hw:i<4611686018427387904:=by
    have:roomLen<4611686018427387904:=by decide
    omega
   have hs:decide (((l.getD i default).Text.size:Int)>(300:Int))=decide ((l.getD i default).Text.size>300):=zBY _ 300
   simp only [Wy.ev_i,Wy.ev_k,Wy.ev_h,Wy.ev_bn,Wy.ev_d,tT,hi]
   rw [hs]
   by_cases h3:(l.getD i default).Text.size>300
   ·rw [decide_eq_true h3]
    exact ⟨_,rfl,.inl rfl⟩
   ·rw [decide_eq_false h3,cond_false,zbt hw]
    obtain ⟨r,h4,h5⟩:=zEv l m hl n (i+1) (by omega) (by omega)
    refine ⟨r,h4, ?_⟩
    rcases h5 with h5 | ⟨h5,h6⟩
    ·exact .inl h5
    ·refine .inr ⟨h5,fun x hx=> ?_⟩
     rw [ziz hi] at hx
     rcases List.mem_cons.1 hx with rfl | hx
     ·omega
     ·exact h6 x hx
  ·simp only [Wy.ev_i,Wy.ev_k,Wy.ev_h,Wy.ev_bn,Wy.ev_d,tT,hi]
   exact ⟨_,rfl,.inr ⟨rfl,fun x hx=>by rw [zit hi] at hx; cases hx⟩⟩
theorem zKb (l:List Value) (m:Nat) (hl:l.length≤roomLen):∃ b,zmM l m=(true,b)∧(b=true→l.length≤m∧∀ x∈l,x.Text.size≤300):=by
 unfold zmM zuj
 obtain ⟨r,h1,h2⟩:=zEv l m hl (l.length+(m:Int).toNat +Int.toNat (0:Int)+(1:Nat)) 0 (by omega) (by omega)
 rw [show ((0:Nat):Int)=(0:Int) from rfl] at h1
 rw [Wy.fin_bn,h1]
 rcases h2 with rfl | ⟨rfl,h2⟩
 ·exact ⟨false,rfl,fun h=>by cases h⟩
 ·refine ⟨decide (l.length≤m), ?_,fun h=>⟨of_decide_eq_true h,h2⟩⟩
  show (true,decide (Int.ofNat l.length≤(m:Int)))=_
  rw [show decide (Int.ofNat l.length≤(m:Int))=decide (l.length≤m) from zkh _ _]
theorem zzn (l:List Value) (hl:l.length≤1000000):∀ (n i:Nat),l.length<i+n→i≤l.length→zl0 n l l i=(true,.inr (l,l))
 | 0,i,h,h2=>by omega
 | n+1,i,h,h2=>by
  show (zl1 l l i).ev (fun x y=>zl0 n x.1 x.2.1 x.2.2.1) (fun r=>(true,r)) (false,.inl default)=_
  unfold zl1
  by_cases hi:i<l.length
  ·have h0:(cmpV (l.getD i default) (l.getD i default) != 0)=false:=by rw [(zxF _ _).2 rfl]; rfl
   simp only [Wy.ev_i,Wy.ev_k,Wy.ev_h,Wy.ev_bn,Wy.ev_d,tT,hi,ref01_Compare_eq',h0]
   rw [zbt (by omega)]
   exact zzn l hl n (i+1) (by omega) (by omega)
  ·simp only [Wy.ev_i,Wy.ev_k,Wy.ev_h,Wy.ev_bn,Wy.ev_d,tT,hi]
theorem zJF (l:List Value) (hl:l.length≤1000000):zsa l l=(true,true):=by
 have h:=zzn l hl (l.length+l.length+Int.toNat (0:Int)+(1:Nat)) 0 (by omega) (by omega)
 rw [show ((0:Nat):Int)=(0:Int) from rfl] at h
 have hb:(Int.ofNat l.length==Int.ofNat l.length)=true:=by simp
 unfold zsa zwA zkM zmS
 rw [Wy.fin_bn,Wy.fin_bn,h]
 simp only [Wy.fin_i,Wy.fin_k,isL,getR,hb,cond_true,cond_false]
 rfl
theorem zDz (c:ColumnStats) (h:c.Bounds.length≤1000000):zjL c c=(true,true):=by
 unfold zjL zoe
 simp only [veq]
 simp only [Wy.fin_i,Wy.fin_bn,Wy.fin_k,zJF _ h,beqd,decide_true,cond_true]
theorem zHz (s:Stats) (h:s.Columns.length≤1000000) (hc:∀ c∈s.Columns,c.Bounds.length≤1000000):zrQ s s=(true,true):=by
 unfold zrQ zvL
 have key:=zxp (W:=zp6) (z:=.inl default) s.Columns.length (fun i=>((),(),(i:Int),())) (fun _=>(s,s,())) (fun i=>true) (.inl false) (.inr ()) (fun i hi H K D=>by
    show (zmu i s s).ev H K D=_
    unfold zmu
    simp only [Wy.ev_i,Wy.ev_k,Wy.ev_h,Wy.ev_bn,Wy.ev_d,tT,hi,zDz _ (hc _ (zhR hi)),zbt (show i<4611686018427387904 by omega)]) (fun H K D=>by
    show (zmu s.Columns.length s s).ev H K D=_
    unfold zmu
    simp only [Wy.ev_i,Wy.ev_k,Wy.ev_h,Wy.ev_bn,Wy.ev_d,tT,Nat.lt_irrefl]) (Int.toNat (0:Int)+s.Columns.length+s.Columns.length+(1:Nat)) (by omega)
 replace key:zAu (Int.toNat (0:Int)+s.Columns.length+s.Columns.length+(1:Nat)) 0 s s=_:=key
 have ht:allN (fun _=>true) s.Columns.length 0=true:=zzV.2 fun _ _ _=>rfl
 rw [ht] at key
 simp only [Wy.fin_i,Wy.fin_bn,Wy.fin_k,key,bne0,decide_true,Bool.not_true,cond_false,cond_true]
 rfl
end Go.Proofs.YtddkaehkimnklaaGreatDoor
namespace Go.Proofs.YtddkaehkimnklaaGreatDoor
open Go Go.Ab
end Go.Proofs.YtddkaehkimnklaaGreatDoor
/- The reference's estimate of a condition. -/
namespace Go.Proofs.YtddkaehkimnklaaGreatDoor
open Go Go.Ab
section
variable (g:Stats→Scalar→Bool×Int) {s:Stats} (h:okS s=true) (e x y:Scalar)
include h
end
theorem zCU (l:List Value) (hl:l.length≤1000000):∀ (n i:Nat),i<l.length→i<n→zdk n l i=(true,bif allN (srtB l) (i+1) 0 then .inr () else .inl false)
 | 0,i,hi,hn=>by omega
 | n+1,i,hi,hn=>by
  show (zdp l i).ev (fun x y=>zdk n x.1 x.2.2.1) (fun r=>(true,r)) (false,.inl default)=_
  unfold zdp
  have hg:decide ((i:Int)>(0:Int))=decide (0<i):=zBY i 0
  cases i with
  | zero=>simp [Wy.ev_i,Wy.ev_k,allN,srtB]
  | succ i=>
   have hi':i<l.length:=by omega
   have hw:IntKind.i64.wrap (((i+1:Nat):Int) - 1)=(i:Int):=by rw [ztV (by omega) (by omega)]; rfl
   have hp:decide (0<i+1)=true:=by simp
   simp only [Wy.ev_i,Wy.ev_k,Wy.ev_h,Wy.ev_bn,Wy.ev_d,hg,hp,hw,tT,hi,hi',value_Compare_eq']
   rw [zCU l hl n i hi' (by omega),zBS _ (i+1),Nat.zero_add]
   have:srtB l (i+1)= !decide (cmpV (l.getD (i+1) default) (l.getD i default)<0):=by
    unfold srtB
    rw [show i+1 - 1=i from rfl,zn9 (l.getD (i+1) default) (l.getD i default)]
    generalize cmpV (l.getD (i+1) default) (l.getD i default)=z
    by_cases hz:z<0
    ·have:¬ (-z≤0):=by omega
     simp [hz,this]
    ·have:(-z≤0):=by omega
     simp [hz,this]
   rw [this]
   cases decide (cmpV (l.getD (i+1) default) (l.getD i default)<0) <;>simp
theorem zI0 (l:List Value) (hl:l.length≤1000000):zbQ l=(true,allN (srtB l) l.length 0):=by
 unfold zbQ zdG
 match l,hl with
 | [],_=>rfl
 | x::r,hl=>
  have hw:IntKind.i64.wrap (Int.ofNat (x::r).length - 1)=(r.length:Int):=by
   rw [List.length_cons] at hl
   rw [show Int.ofNat (x::r).length=(((x::r).length:Nat):Int) from rfl,ztV (by simp) (by simp; omega)]; rfl
  rw [Wy.fin_bn,hw,zCU (x::r) hl _ r.length (by simp) (by simp; omega)]
  cases allN (srtB (x::r)) (r.length+1) 0 with
  | true=>simp [Wy.fin_i,Wy.fin_k,isL]
  | false=>simp [Wy.fin_i,Wy.fin_k,isL,getL]
theorem zLp (l:List Value) (c:ColumnStats) (h:l.length≤1000000):zbB l c=(true, !l.all (zir c.Min.Kind)):=by
 unfold zbB zda
 have:zcB l c=IG (fun (g:ColumnStats×Unit) x=>zdh x g.1) (l.length+c.Bounds.length+(Int.ofNat l.length).toNat +Int.toNat (0:Int)+(1000:Nat)) (c,()) l:=rfl
 have e:(!l.all (zir c.Min.Kind))=l.any fun w=> !zir c.Min.Kind w:=by simp [List.all_eq_not_any_not]
 rw [e]
 exact ztk (this.trans (zF1 _ _ _ _ _ (by omega) (fun x _=>by
  show zdh x c=_
  unfold zdh zij zir
  simp only [Wy.fin_i,Wy.fin_k,Wy.fin_bn,ztf,cond_true,bne0]
  cases valV x <;>cases decide (x.Kind=c.Min.Kind) <;>rfl) (by omega)))
theorem zvs (c:ColumnStats) (rows:Int):zgo c rows=(true,okC c rows):=by
 unfold zgo zjE okC
 by_cases h0:rows=0
 ·subst h0
  simp only [zLG]
  simp only [Wy.fin_i,Wy.fin_k,beqd,if_pos,decide_true,cond_true]
  have e:decide (Int.ofNat c.Bounds.length=(0:Int))=decide (c.Bounds.length=0):=by
   by_cases h:c.Bounds.length=0
   ·rw [h]; rfl
   ·rw [decide_eq_false h,decide_eq_false]; intro hc; exact h (Int.ofNat.inj hc)
  rw [e]
  cases decide (c.Distinct=0) <;>cases decide (c.Min=zV) <;>cases decide (c.Max=zV) <;>rfl
 ·have e8:(Int.ofNat c.Bounds.length != (8:Int))= !decide (c.Bounds.length=8):=by
   rw [bne0]
   congr 1
   by_cases h:c.Bounds.length=8
   ·rw [h]; rfl
   ·rw [decide_eq_false h,decide_eq_false]; intro hc; exact h (Int.ofNat.inj hc)
  have er:(rows==(0:Int))=false:=by rw [beqd,decide_eq_false h0]
  have z7:Int.toNat (7:Int)=7:=rfl
  have z0:Int.toNat (0:Int)=0:=rfl
  have g1:decide (c.Distinct≥(1:Int))=decide (1≤c.Distinct):=rfl
  have gl:decide (cmpV (c.Bounds.getD 0 default) c.Min<0)= !decide (cmpV c.Min (c.Bounds.getD 0 default)≤0):=by
   rw [zn9 c.Min (c.Bounds.getD 0 default)]
   generalize cmpV c.Min (c.Bounds.getD 0 default)=z
   by_cases h:z≤0
   ·have:¬ (-z<0):=by omega
    simp [h,this]
   ·have: -z<0:=by omega
    rw [decide_eq_true this,decide_eq_false h]; rfl
  simp only [veq]
  simp only [Wy.fin_i,Wy.fin_bn,Wy.fin_k,er,if_neg h0,cond_false,cond_true,ztf,value_Compare_eq',g1,beqd c.Min.Kind,e8,z7,z0,gl]
  by_cases h8:c.Bounds.length=8
  ·have e7:(decide ((0:Int)≤(7:Int))&&decide ((7:Int)<Int.ofNat c.Bounds.length))=true:=by rw [h8]; rfl
   have e0:(decide ((0:Int)≤(0:Int))&&decide ((0:Int)<Int.ofNat c.Bounds.length))=true:=by rw [h8]; rfl
   rw [e7,e0,zI0 _ (by omega),zLp _ _ (by omega),decide_eq_true h8]
   cases decide (1≤c.Distinct) <;>cases decide (c.Distinct≤rows) <;>cases valV c.Min <;>cases valV c.Max <;>cases decide (c.Min.Kind=c.Max.Kind) <;>cases decide (cmpV c.Min c.Max≤0) <;>try rfl
   generalize allN (srtB c.Bounds) c.Bounds.length 0=q1
   generalize c.Bounds.all (zir c.Min.Kind)=q2
   cases q1 <;>cases q2 <;>cases decide (c.Bounds.getD 7 default=c.Max) <;>cases decide (cmpV c.Min (c.Bounds.getD 0 default)≤0) <;>rfl
  ·rw [decide_eq_false h8]
   cases decide (1≤c.Distinct) <;>cases decide (c.Distinct≤rows) <;>cases valV c.Min <;>cases valV c.Max <;>cases decide (c.Min.Kind=c.Max.Kind) <;>cases decide (cmpV c.Min c.Max≤0) <;>rfl
theorem zLb (l:List ColumnStats) (s:Stats) (h:l.length≤1000000):zba l s=(true, !l.all fun c=>okC c s.Rows):=by
 unfold zba zbZ
 have:zbx l s=IG (fun (g:Stats×Unit) x=>zgn x g.1) (l.length+s.Columns.length+(Int.ofNat l.length).toNat +Int.toNat (0:Int)+(1000:Nat)) (s,()) l:=rfl
 have e:(!l.all fun c=>okC c s.Rows)=l.any fun c=> !okC c s.Rows:=by simp [List.all_eq_not_any_not]
 rw [e]
 exact ztk (this.trans (zF1 _ _ _ _ _ (by omega) (fun x _=>by
  show zgn x s=_
  unfold zgn zkR
  rw [Wy.fin_bn,zvs]
  rfl) (by omega)))
theorem zAX (s:Stats):zgN s=(true,okS s):=by
 unfold zgN zok okS
 have el:decide (Int.ofNat s.Columns.length≤(16:Int))=decide (s.Columns.length≤16):=zkh _ 16
 have e0:decide (s.Rows≥(0:Int))=decide (0≤s.Rows):=rfl
 simp only [Wy.fin_i,Wy.fin_bn,Wy.fin_k,e0,el]
 by_cases hl:s.Columns.length≤16
 ·rw [zLb _ _ (by omega),decide_eq_true hl]
  cases decide (0≤s.Rows) <;>cases decide (s.Rows≤1000000) <;>try rfl
  cases s.Columns.all (fun c=>okC c s.Rows) <;>rfl
 ·rw [decide_eq_false hl]
  cases decide (0≤s.Rows) <;>cases decide (s.Rows≤1000000) <;>rfl
theorem in0' {n:Nat} (h:0<n):(decide ((0:Int)≤(0:Int))&&decide ((0:Int)<Int.ofNat n))=true:=by
 simp only [Bool.and_eq_true,decide_eq_true_eq]
 exact ⟨Int.le_refl _,by show (0:Int)<(n:Int); omega⟩
def bndP (s:List Value) (n j:Nat):Value:=s.getD (((j+1)*n+7) / 8 - 1) default
def bnds (s:List Value) (n k:Nat):List Value:=(List.range k).map (bndP s n)
theorem zFa (s:List Value) (n k:Nat):bnds s n (k+1)=bnds s n k++[bndP s n k]:=by
 unfold bnds; rw [List.range_succ,List.map_append]; rfl
theorem zpR (s:List Value) (n k:Nat):(bnds s n k).length=k:=by simp [bnds]
def colR (l:List Value):ColumnStats:=
 if l.length=0 then ⟨0,zV,zV,[]⟩ else ⟨(zty (srtV l):Int),(srtV l).getD 0 default,(srtV l).getD (l.length - 1) default,bnds (srtV l) l.length 8⟩
theorem zJf {n i:Nat} (hn:n≤1000000) (hi:i≤7):IntKind.i64.wrap (IntKind.i64.wrap ((IntKind.i64.wrap (IntKind.i64.wrap (((i+1:Nat):Int)*(n:Int))+(7:Int))).tdiv (8:Int)) - (1:Int))=((((i+1)*n+7) / 8:Nat):Int) - 1:=by
 have h1:(i+1)*n≤8*1000000:=Nat.mul_le_mul (by omega) hn
 have e1:(((i+1:Nat):Int)*(n:Int))=(((i+1)*n:Nat):Int):=by rw [Int.natCast_mul]
 rw [e1]
 generalize (i+1)*n=q at h1 ⊢
 rw [zhM (z:=(q:Int)) (by omega) (by omega),zhM (z:=(q:Int)+7) (by omega) (by omega)]
 have e2:Int.tdiv ((q:Int)+7) 8=(((q+7) / 8:Nat):Int):=by
  rw [show (q:Int)+7=((q+7:Nat):Int) by omega]; rfl
 rw [e2,zhM (z:=(((q+7) / 8:Nat):Int)) (by omega) (by omega),zhM (by omega) (by omega)]
theorem zGl {n i:Nat} (hn:0<n) (hi:i≤7):1≤((i+1)*n+7) / 8∧((i+1)*n+7) / 8≤n:=by
 have h1:(i+1)*n≤8*n:=Nat.mul_le_mul (by omega) (Nat.le_refl _)
 have h2:1*n≤(i+1)*n:=Nat.mul_le_mul (by omega) (Nat.le_refl _)
 generalize (i+1)*n=q at h1 h2 ⊢
 omega
def keyV (v:Value):Go.Value:=Go.Value.agg #[Go.Value.int IntKind.i64 v.Kind,Go.Value.int IntKind.i64 v.Int,Go.Value.string v.Text]
theorem zKL (a b:Value):ziC (keyV a) (keyV b)=decide (a=b):=by
 show zlb [Go.Value.int IntKind.i64 a.Kind,Go.Value.int IntKind.i64 a.Int,Go.Value.string a.Text] [Go.Value.int IntKind.i64 b.Kind,Go.Value.int IntKind.i64 b.Int,Go.Value.string b.Text]=_
 rw [← veq]; rfl
def insD (v:Value) (d:List Value):List Value:=if v∈d then d else d++[v]
theorem zFr (v:Value):∀ d:List Value,zFV (keyV v) true (d.map fun x=>(keyV x,true))=(insD v d).map fun x=>(keyV x,true)
 | []=>rfl
 | x::r=>by
  have ih:=zFr v r
  show (bif ziC (keyV v) (keyV x) then (keyV v,true)::(r.map fun x=>(keyV x,true)) else (keyV x,true)::zFV (keyV v) true (r.map fun x=>(keyV x,true)))=_
  rw [zKL]
  by_cases h:v=x
  ·subst h
   rw [decide_eq_true rfl,cond_true]
   unfold insD
   rw [if_pos (by simp)]; rfl
  ·rw [decide_eq_false h,cond_false,ih]
   unfold insD
   by_cases hm:v∈r
   ·rw [if_pos hm,if_pos (by simp [hm])]; rfl
   ·rw [if_neg hm,if_neg (by simp [h,hm])]; rfl
theorem zKE (v:Value) (d:List Value) (h:d.Nodup):(insD v d).Nodup∧∀ x,x∈insD v d↔x=v∨x∈d:=by
 unfold insD
 by_cases hm:v∈d
 ·rw [if_pos hm]
  refine ⟨h,fun x=>⟨.inr, ?_⟩⟩
  rintro (rfl | hx)
  ·exact hm
  ·exact hx
 ·rw [if_neg hm]
  refine ⟨List.nodup_append.2 ⟨h,by simp,fun a ha b hb=> ?_⟩,fun x=>by simp [or_comm]⟩
  rw [List.mem_singleton] at hb; subst hb
  exact fun e=>hm (e ▸ ha)
theorem zKl:∀ (l d:List Value),d.Nodup→(l.foldl (fun d v=>insD v d) d).Nodup∧∀ x,x∈l.foldl (fun d v=>insD v d) d↔x∈l∨x∈d
 | [],d,h=>⟨h,fun x=>by simp⟩
 | v::r,d,h=>by
  obtain ⟨h1,h2⟩:=zKE v d h
  obtain ⟨h3,h4⟩:=zKl r _ h1
  refine ⟨h3,fun x=> ?_⟩
  rw [List.foldl_cons,h4,h2,List.mem_cons]
  constructor
  ·rintro (h | h | h)
   ·exact .inl (.inr h)
   ·exact .inl (.inl h)
   ·exact .inr h
  ·rintro ((h | h) | h)
   ·exact .inr (.inl h)
   ·exact .inl h
   ·exact .inr (.inr h)
def dedV (l:List Value):List Value:=l.foldl (fun d v=>insD v d) []
theorem zHm {l:List Value} (h:l.length<4611686018427387904):(dedV (srtV l)).length=zty (srtV l):=by
 obtain ⟨h1,h2⟩:=zKl (srtV l) [] .nil
 exact zJn h h1 fun x=>by
  rw [show (x∈dedV (srtV l))=(x∈(srtV l).foldl (fun d v=>insD v d) []) from rfl,h2]
  simp [(zxX l).mem_iff]
theorem zFm (nn:Int) (l:List Value) (hl:l.length≤1000000) (a b c:Int) (d:ByteArray) (e f:Int) (g:ByteArray):∀ (n i:Nat) (D:List Value),l.length<i+n→i≤l.length→
  zmg n nn l.length i l a b c d e f g (D.map fun x=>(keyV x,true))=(true,(nn,l,a,b,c,d,e,f,g,((l.drop i).foldl (fun d v=>insD v d) D).map fun x=>(keyV x,true)))
 | 0,i,D,h,h2=>by omega
 | n+1,i,D,h,h2=>by
  show (zmf nn l.length i l a b c d e f g (D.map fun x=>(keyV x,true))).ev (zN zi2 default n) (fun r=>(true,r)) (false,default)=_
  unfold zmf
  by_cases hi:i<l.length
  ·simp only [Wy.ev_i,Wy.ev_k,Wy.ev_h,Wy.ev_bn,Wy.ev_d,tT,hi]
   rw [zbt (by omega),ziz hi,List.foldl_cons]
   have hm:=zFr (l.getD i default) D
   rw [show zFV (Go.Value.agg #[Go.Value.int IntKind.i64 (l.getD i default).Kind,Go.Value.int IntKind.i64 (l.getD i default).Int,Go.Value.string (l.getD i default).Text]) true (D.map fun x=>(keyV x,true))=_ from hm]
   exact zFm nn l hl a b c d e f g n (i+1) _ (by omega) (by omega)
  ·simp only [Wy.ev_i,Wy.ev_k,Wy.ev_h,Wy.ev_bn,Wy.ev_d,tT,hi,zit hi]
   rfl
theorem zG1 (l:List Value) (m:Nat) (hm:0<m) (hm2:m≤1000000) (hl:l.length=m) (a b c:Int) (d:ByteArray) (e f:Int) (g:ByteArray) (a' b' c':Int) (d':ByteArray) (e' f':Int) (g':ByteArray):∀ (n i:Nat),8<i+n→i≤8→
  zlj n m ((i+1:Nat):Int) l a b c d e f g a' b' c' d' e' f' g' (bnds l m i)=(true,(a,b,c,d,e,f,g,a',b',c',d',e',f',g',bnds l m 8))
 | 0,i,h,h2=>by omega
 | n+1,i,h,h2=>by
  show (zll m ((i+1:Nat):Int) l a b c d e f g a' b' c' d' e' f' g' (bnds l m i)).ev (zN ziB default n) (fun r=>(true,r)) (false,default)=_
  unfold zll
  by_cases hi:i<8
  ·have g8:decide (((i+1:Nat):Int)≤(8:Int))=true:=decide_eq_true (by omega)
   have hb:=zGl (n:=m) (i:=i) hm (by omega)
   have hin:(decide ((0:Int)≤((((i+1)*m+7) / 8:Nat):Int) - 1)&&decide (((((i+1)*m+7) / 8:Nat):Int) - 1<Int.ofNat l.length))=true:=by
    simp only [Bool.and_eq_true,decide_eq_true_eq]
    refine ⟨by omega, ?_⟩
    show ((((i+1)*m+7) / 8:Nat):Int) - 1<(l.length:Int)
    omega
   have ht:(((((i+1)*m+7) / 8:Nat):Int) - 1).toNat=((i+1)*m+7) / 8 - 1:=by omega
   simp only [Wy.ev_i,Wy.ev_k,Wy.ev_h,Wy.ev_d,g8,zJf hm2 (show i≤7 by omega),hin,ht,cond_true]
   rw [decide_eq_true (zvy (by rw [zpR]; simp; omega)),cond_true,zbt (by omega)]
   have:=zG1 l m hm hm2 hl a b c d e f g a' b' c' d' e' f' g' n (i+1) (by omega) (by omega)
   rw [zFa] at this
   exact this
  ·have g8:decide (((i+1:Nat):Int)≤(8:Int))=false:=decide_eq_false (by omega)
   have:i=8:=by omega
   subst this
   simp only [Wy.ev_i,Wy.ev_k,g8,cond_false]
theorem zI9 (l:List Value) (hl:l.length≤1000000):ziU l=(true,colR l):=by
 unfold ziU zmV colR
 have e0:(Int.ofNat l.length==(0:Int))=decide (l.length=0):=zEO _ 0
 rw [Wy.fin_i,e0]
 by_cases h0:l.length=0
 ·rw [decide_eq_true h0,if_pos h0]; rfl
 ·rw [decide_eq_false h0,if_neg h0,cond_false]
  have hs:zc7 l=(true,srtV l):=by
   show (decide (SortOK zbd l),zi5 zbd l)=_
   rw [decide_eq_true (zCe (by omega))]; rfl
  have hsl:=zyh l
  have key1:∀ n,l.length<n→zmg n (Int.ofNat l.length) (Int.ofNat (srtV l).length) (0:Int) (srtV l) (0:Int) (0:Int) (0:Int) (ByteArray.mk #[]) (0:Int) (0:Int) (ByteArray.mk #[]) []=(true,(Int.ofNat l.length,srtV l,0,0,0,ByteArray.mk #[],0,0,ByteArray.mk #[],(dedV (srtV l)).map fun x=>(keyV x,true))):=fun n hn=>by
   have:=zFm (Int.ofNat l.length) (srtV l) (by omega) 0 0 0 (ByteArray.mk #[]) 0 0 (ByteArray.mk #[]) n 0 [] (by omega) (by omega)
   rw [List.drop_zero] at this
   exact this
  rw [Wy.fin_bn,hs,cond_true,Wy.fin_bn,key1 _ (by rw [hsl]; show l.length<l.length+l.length+_+_+_+_+_+_+_+_+_+_+_; omega),cond_true]
  have hw:IntKind.i64.wrap (Int.ofNat l.length - (1:Int))=((l.length - 1:Nat):Int):=ztV (i:=l.length) (by omega) (by omega)
  have c0:(decide ((0:Int)≤(0:Int))&&decide ((0:Int)<Int.ofNat (srtV l).length))=true:=in0' (by omega)
  have c1:(decide ((0:Int)≤((l.length - 1:Nat):Int))&&decide (((l.length - 1:Nat):Int)<Int.ofNat (srtV l).length))=true:=by
   simp only [tT]; simp; omega
  simp only [Wy.fin_i,hw,c0,c1,cond_true,Int.toNat_natCast]
  have key2:∀ n a b c d e f g a' b' c' d' e' f' g',9<n→zlj n (Int.ofNat l.length) (1:Int) (srtV l) a b c d e f g a' b' c' d' e' f' g' []=(true,(a,b,c,d,e,f,g,a',b',c',d',e',f',g',bnds (srtV l) l.length 8)):=fun n a b c d e f g a' b' c' d' e' f' g' hn=>
   zG1 (srtV l) l.length (by omega) hl hsl a b c d e f g a' b' c' d' e' f' g' n 0 (by omega) (by omega)
  rw [Wy.fin_bn,key2 _ _ _ _ _ _ _ _ _ _ _ _ _ _ _ (by omega),cond_true,Wy.fin_k]
  have hd:Int.ofNat ((dedV (srtV l)).map fun x=>(keyV x,true)).length=(zty (srtV l):Int):=by
   rw [List.length_map,zHm (by omega)]; rfl
  simp only [hd]
  rfl
end Go.Proofs.YtddkaehkimnklaaGreatDoor
/- Columns, rows that fit them, and the normal form of a relation with one row and without one. -/
set_option maxRecDepth 100000
namespace Go.Proofs.YtddkaehkimnklaaGreatDoor
open Go Go.Ab
def tyOK (c:Column):Bool:=decide (0≤c.Type_)&&decide (c.Type_≤2)
def zkK (l:List Column):Bool:=decide (l.length≤16)&&l.all tyOK
def fitR (l:List Column) (row:List Value):Bool:=decide (l.length=row.length)&&allN (fun i=>zir (l.getD i default).Type_ (row.getD i default)) l.length 0
theorem zGw (a b:Nat):decide (Int.ofNat a=Int.ofNat b)=decide (a=b):=by
 by_cases h:a=b
 ·rw [h]; simp
 ·rw [decide_eq_false h,decide_eq_false]; intro e; exact h (Int.ofNat.inj e)
theorem zE3 (l:List Column) (hl:l.length≤1000000):∀ (n i:Nat),l.length<i+n→i≤l.length→zwf n l i=(true,bif (l.drop i).all tyOK then .inr l else .inl false)
 | 0,i,h,h2=>by omega
 | n+1,i,h,h2=>by
  show (zqf l i).ev (zN zl5 (.inl default) n) (fun r=>(true,r)) (false,.inl default)=_
  unfold zqf
  by_cases hi:i<l.length
  ·simp only [Wy.ev_i,Wy.ev_k,Wy.ev_h,Wy.ev_bn,Wy.ev_d,tT,hi]
   rw [ziz hi,List.all_cons,zbt (by omega)]
   have ih:=zE3 l hl n (i+1) (by omega) (by omega)
   unfold tyOK
   by_cases h1:0≤(l.getD i default).Type_
   ·by_cases h2:(l.getD i default).Type_≤2
    ·rw [decide_eq_true h1,decide_eq_true h2,decide_eq_false (show ¬ (l.getD i default).Type_<0 by omega),decide_eq_false (show ¬ (l.getD i default).Type_>2 by omega)]
     exact ih
    ·rw [decide_eq_true h1,decide_eq_false h2,decide_eq_false (show ¬ (l.getD i default).Type_<0 by omega),decide_eq_true (show (l.getD i default).Type_>2 by omega)]
     rfl
   ·rw [decide_eq_false h1,decide_eq_true (show (l.getD i default).Type_<0 by omega)]
    rfl
  ·simp only [Wy.ev_i,Wy.ev_k,Wy.ev_h,Wy.ev_bn,Wy.ev_d,tT,hi,zit hi]
   rfl
theorem zDt (l:List Column) (hl:l.length≤1000000):zmI l=(true,zkK l):=by
 have h:=zE3 l hl (l.length+Int.toNat (0:Int)+(1:Nat)) 0 (by omega) (by omega)
 rw [show ((0:Nat):Int)=(0:Int) from rfl,List.drop_zero] at h
 unfold zmI zr9 zkK
 rw [Wy.fin_bn,h,cond_true]
 cases l.all tyOK with
 | false=>rw [Bool.and_false]; rfl
 | true=>
  rw [Bool.and_true]
  show (true,decide (Int.ofNat l.length≤(16:Int)))=_
  rw [show decide (Int.ofNat l.length≤(16:Int))=decide (l.length≤16) from zkh _ 16]
theorem zFP (l:List Column) (row:List Value) (hl:l.length≤1000000):zr0 l row=(true,fitR l row):=by
 unfold zr0 zwJ fitR
 rw [Wy.fin_i,bne0,zGw]
 by_cases he:l.length=row.length
 ·have key:=zxp (W:=zp4) (z:=.inl default) l.length (fun i=>(l,row,(i:Int),())) (fun _=>()) (fun i=>zir (l.getD i default).Type_ (row.getD i default)) (.inl false) (.inr ()) (fun i hi H K D=>by
    show (zmr l row i).ev H K D=_
    unfold zmr
    have hi':i<row.length:=by omega
    simp only [Wy.ev_i,Wy.ev_k,Wy.ev_h,Wy.ev_bn,Wy.ev_d,tT,hi,hi',zEG,bne0,zir,zbt (show i<4611686018427387904 by omega)]
    cases valV (row.getD i default) <;>cases decide ((row.getD i default).Kind=(l.getD i default).Type_) <;>rfl) (fun H K D=>by
    show (zmr l row l.length).ev H K D=_
    unfold zmr
    simp only [Wy.ev_i,Wy.ev_k,Wy.ev_h,Wy.ev_bn,Wy.ev_d,tT,Nat.lt_irrefl]) (l.length+row.length+Int.toNat (0:Int)+(1:Nat)) (by omega)
  replace key:zAI (l.length+row.length+Int.toNat (0:Int)+(1:Nat)) l row 0=_:=key
  rw [decide_eq_true he,Bool.not_true,cond_false,Wy.fin_bn,key]
  cases allN (fun i=>zir (l.getD i default).Type_ (row.getD i default)) l.length 0 <;>rfl
 ·rw [decide_eq_false he]; rfl
theorem zLX:zbe ⟨default,0⟩=(true,false):=by kernel_rfl
theorem zLU:zbe ⟨default,1⟩=(true,false):=by kernel_rfl
theorem zLZ:zbe ⟨default,2⟩=(true,false):=by kernel_rfl
theorem zL1 (c:Column):zbe c=(true, !tyOK c):=by
 have hc:zbe c=zbe ⟨default,c.Type_⟩:=rfl
 rw [hc]
 unfold tyOK
 generalize c.Type_=t
 by_cases h0:t<0
 ·unfold zbe zgG zk6 zlW
  rw [Wy.fin_bn,Wy.fin_i,decide_eq_true h0,decide_eq_false (show ¬ 0≤t by omega)]
  show (true,((ByteArray.mk #[]).toList==(ByteArray.mk #[]).toList))=_
  rw [ztm]; rfl
 ·by_cases h2:t>2
  ·unfold zbe zgG zk6 zlW
   rw [Wy.fin_bn,Wy.fin_i,Wy.fin_i,decide_eq_false h0,decide_eq_true h2,decide_eq_false (show ¬ t≤2 by omega),Bool.and_false]
   show (true,((ByteArray.mk #[]).toList==(ByteArray.mk #[]).toList))=_
   rw [ztm]; rfl
  ·rw [decide_eq_true (show 0≤t by omega),decide_eq_true (show t≤2 by omega)]
   have:t=0∨t=1∨t=2:=by omega
   rcases this with rfl | rfl | rfl
   ·exact zLX
   ·exact zLU
   ·exact zLZ
theorem zxE (l:List Column) (hl:l.length≤1000000):zgT l=(true,zkK l):=by
 have hc:zbu l=(true, !l.all tyOK):=by
  unfold zbu zcV
  have:zco l=IG (fun (_:Unit) x=>zbe x) (l.length+(Int.ofNat l.length).toNat +Int.toNat (0:Int)+(1000:Nat)) () l:=rfl
  have e:(!l.all tyOK)=l.any fun c=> !tyOK c:=by simp [List.all_eq_not_any_not]
  rw [e]
  exact ztk (this.trans (zF1 _ _ _ _ _ (by omega) (fun x _=>zL1 x) (by omega)))
 unfold zgT zj3 zkK
 have el:decide (Int.ofNat l.length≤(16:Int))=decide (l.length≤16):=zkh _ 16
 rw [Wy.fin_i,Wy.fin_bn,hc,el]
 cases decide (l.length≤16) <;>cases l.all tyOK <;>rfl
def zips (l:List Column) (row:List Value) (k:Nat):List pair:=(List.range k).map fun i=>pair.mk (l.getD i default) (row.getD i default)
theorem zFk (l:List Column) (row:List Value) (k:Nat):zips l row (k+1)=zips l row k++[pair.mk (l.getD k default) (row.getD k default)]:=by
 unfold zips; rw [List.range_succ,List.map_append]; rfl
theorem zCJ (l:List Column) (row:List Value) (k:Nat):(zips l row k).length=k:=by simp [zips]
theorem zHg (l:List Column) (row:List Value) (he:l.length=row.length) (hl:l.length≤1000000):∀ (n i:Nat),row.length<i+n→i≤row.length→zrm n l row row.length i (zips l row i)=(true,zips l row row.length)
 | 0,i,h,h2=>by omega
 | n+1,i,h,h2=>by
  show (zr7 l row row.length i (zips l row i)).ev (zN znA default n) (fun r=>(true,r)) (false,default)=_
  unfold zr7
  by_cases hi:i<row.length
  ·have hi':i<l.length:=by omega
   simp only [Wy.ev_i,Wy.ev_k,Wy.ev_h,Wy.ev_bn,Wy.ev_d,tT,hi,hi']
   rw [decide_eq_true (show ((zips l row i).length+[pair.mk (l.getD i default) (row.getD i default)].length)*56≤reach from zn7 (by rw [zCJ]; simp; omega) (by omega)),cond_true,zbt (by omega), ← zFk]
   exact zHg l row he hl n (i+1) (by omega) (by omega)
  ·have:i=row.length:=by omega
   subst this
   simp only [Wy.ev_i,Wy.ev_k,Wy.ev_h,Wy.ev_bn,Wy.ev_d,tT,Nat.lt_irrefl]
theorem zGD (l:List Column) (row:List Value) (p:pair→Bool):∀ k,(zips l row k).all p=allN (fun i=>p (pair.mk (l.getD i default) (row.getD i default))) k 0
 | 0=>rfl
 | k+1=>by
  rw [zFk,List.all_append,zGD l row p k,zBS,Nat.zero_add]
  simp
theorem zKq (l:List Column) (row:List Value) (hl:l.length≤1000000):zj6 l row=(true,fitR l row):=by
 unfold zj6 zrX fitR
 rw [Wy.fin_i,beqd,zGw]
 by_cases he:l.length=row.length
 ·have hz:znL l row=(true,zips l row row.length):=by
   unfold znL ztc
   have key:∀ n,row.length<n→zrm n l row (Int.ofNat row.length) 0 []=(true,zips l row row.length):=fun n hn=>zHg l row he hl n 0 (by omega) (by omega)
   rw [Wy.fin_bn,key _ (by omega)]; rfl
  have hc:zbg (zips l row row.length)=(true, !(zips l row row.length).all fun p=>zir p.c.Type_ p.v):=by
   generalize hq:zips l row row.length=q
   have hql:q.length≤1000000:=by rw [← hq,zCJ]; omega
   unfold zbg zch
   have:zbO q=IG (fun (_:Unit) x=>zhP x) (q.length+(Int.ofNat q.length).toNat +Int.toNat (0:Int)+(1000:Nat)) () q:=rfl
   have e:(!q.all fun p=>zir p.c.Type_ p.v)=q.any fun p=> !zir p.c.Type_ p.v:=by simp [List.all_eq_not_any_not]
   rw [e]
   exact ztk (this.trans (zF1 _ _ _ _ _ (by omega) (fun x _=>by
    show zhP x=_
    unfold zhP zod zir
    simp only [Wy.fin_i,Wy.fin_k,Wy.fin_bn,ztf,cond_true,bne0]
    cases valV x.v <;>cases decide (x.v.Kind=x.c.Type_) <;>rfl) (by omega)))
  rw [decide_eq_true he,cond_true,Wy.fin_bn,hz,cond_true,Wy.fin_bn,hc,zGD,he]
  cases allN (fun i=>zir (l.getD i default).Type_ (row.getD i default)) row.length 0 <;>rfl
 ·rw [decide_eq_false he]; rfl
theorem zGp:zmn []=(true,true):=by kernel_rfl
theorem zIO (v:List Value):zcx [⟨v,[]⟩]=(true,[]):=by kernel_rfl
theorem zIv:zcx []=(true,[]):=by kernel_rfl
theorem zG5:zZ []=(true,[]):=by kernel_rfl
theorem zFf (cols:List Column) (n:Nat):zpl (n+1) (Int.ofNat ([]:List Row).length) 0 [] cols []=(true,(cols,[])):=rfl
theorem zDI (cols:List Column) (h:cols.length≤1000000):zcm cols=(true,cols):=by
 unfold zcm
 rw [decide_eq_true (zn7 (by omega) (by omega))]
theorem zJx (v:List Value):zbT [⟨v,[]⟩]=(true,[⟨v,[]⟩]):=by
 unfold zbT
 rw [decide_eq_true (zn7 (by simp) (by omega))]
theorem zIX:zbT []=(true,[]):=by
 unfold zbT
 rw [decide_eq_true (zn7 (by simp) (by omega))]
theorem zJ2 (cols:List Column) (h:cols.length≤1000000):∃ r,zd0 ⟨cols,[]⟩=(true,(r,if zkK cols then 0 else 1)):=by
 unfold zd0 zi8
 rw [Wy.fin_bn,zxE cols h,cond_true,Wy.fin_i]
 cases zkK cols with
 | false=>exact ⟨_,rfl⟩
 | true=>
  have l4:∀ n,zkP (n+1) [] (Int.ofNat ([]:List Row).length) 0 ⟨cols,[]⟩=(true,.inr ⟨cols,[]⟩):=fun n=>rfl
  rw [Bool.not_true,cond_false,Wy.fin_bn,show ∀ a:Nat,a+1000=(a+999)+1 from fun _=>rfl,l4,cond_true]
  simp only [isL,getR,Wy.fin_i,cond_false]
  rw [Wy.fin_bn,zIX,cond_true,Wy.fin_bn,zIv,cond_true,Wy.fin_bn,zG5,cond_true,Wy.fin_bn,zDI cols h,cond_true,Wy.fin_bn,show ∀ a:Nat,a+1000=(a+999)+1 from fun _=>rfl,zFf]
  exact ⟨_,rfl⟩
theorem zKg (cols:List Column) (v:List Value) (h:cols.length≤1000000):∃ r,zd0 ⟨cols,[⟨v,[]⟩]⟩=(true,(r,if zkK cols then (if fitR cols v then 0 else 7) else 1)):=by
 unfold zd0 zi8
 rw [Wy.fin_bn,zxE cols h,cond_true,Wy.fin_i]
 cases zkK cols with
 | false=>exact ⟨_,rfl⟩
 | true=>
  have l4:∀ n,zkP (n+2) [⟨v,[]⟩] (Int.ofNat [(⟨v,[]⟩:Row)].length) 0 ⟨cols,[⟨v,[]⟩]⟩=(true,bif fitR cols v then .inr ⟨cols,[⟨v,[]⟩]⟩ else .inl 7):=fun n=>by
   show (zk9 [⟨v,[]⟩] (Int.ofNat [(⟨v,[]⟩:Row)].length) 0 ⟨cols,[⟨v,[]⟩]⟩).ev (zN zgX (.inl default) (n+1)) (fun r=>(true,r)) (false,.inl default)=_
   unfold zk9
   show (Wy.bn (zj6 cols v) fun r5=>Wy.i (!r5) (.k (.inl (7:Int))) (.bn (zmn []) fun r4=>.i (!r4) (.k (.inl (1:Int))) (.h ((),(),[(⟨v,[]⟩:Row)],(Int.ofNat [(⟨v,[]⟩:Row)].length),(IntKind.i64.wrap (0+(1:Int))),()) (⟨cols,[⟨v,[]⟩]⟩,((),(),()),())))).ev (zN zgX (.inl default) (n+1)) (fun r=>(true,r)) (false,.inl default)=_
   rw [Wy.ev_bn,zKq cols v h,cond_true,Wy.ev_i]
   cases fitR cols v with
   | false=>rfl
   | true=>rw [Bool.not_true,cond_false,Wy.ev_bn,zGp]; rfl
  rw [Bool.not_true,cond_false,Wy.fin_bn,show ∀ a:Nat,a+1000=(a+998)+2 from fun _=>rfl,l4,cond_true]
  cases fitR cols v with
  | false=>exact ⟨_,rfl⟩
  | true=>
   simp only [isL,getR,Wy.fin_i,cond_false,cond_true]
   rw [Wy.fin_bn,zJx,cond_true,Wy.fin_bn,zIO,cond_true,Wy.fin_bn,zG5,cond_true,Wy.fin_bn,zDI cols h,cond_true,Wy.fin_bn,show ∀ a:Nat,a+1000=(a+999)+1 from fun _=>rfl,zFf]
   exact ⟨_,rfl⟩
end Go.Proofs.YtddkaehkimnklaaGreatDoor
/- The reference's statistics of a column; both sides' statistics of a table. -/
namespace Go.Proofs.YtddkaehkimnklaaGreatDoor
open Go Go.Ab
def colV (rows:List Row) (k:Nat):List Value:=rows.map fun r=>r.Values.getD k default
theorem zGf (rows:List Row) (k i:Nat) (hi:i<rows.length):(colV rows k).getD i default=(rows.getD i default).Values.getD k default:=by
 show ((rows.map fun r=>r.Values.getD k default)[i]?).getD default=((rows[i]?).getD default).Values.getD k default
 rw [List.getElem?_map,List.getElem?_eq_getElem hi]; rfl
def wide (rows:List Row) (k:Nat):Prop:=∀ r∈rows,k<r.Values.length
theorem zE7 (rows:List Row) (k:Nat) (hw:wide rows k) (hl:rows.length≤100000) (a b c:Int) (d:ByteArray) (e f:Int) (g:ByteArray):∀ (n i:Nat) (o:List Value),rows.length<i+n→i≤rows.length→o.length≤i→
  zr2 n rows k i a b c d e f g o=(true,(a,b,c,d,e,f,g,((colV rows k).drop i).foldl (fun o x=>insV x o) o))
 | 0,i,o,h,h2,_=>by omega
 | n+1,i,o,h,h2,h3=>by
  show (zrB rows k i a b c d e f g o).ev (zN znl default n) (fun r=>(true,r)) (false,default)=_
  unfold zrB
  by_cases hi:i<rows.length
  ·have hk:=hw _ (zhR hi)
   have hcl:(colV rows k).length=rows.length:=by simp [colV]
   simp only [Wy.ev_i,Wy.ev_k,Wy.ev_h,Wy.ev_bn,Wy.ev_d,tT,hi,hk,zJl o _ (show o.length≤1000000 by omega)]
   rw [zbt (by omega),ziz (l:=colV rows k) (by omega),List.foldl_cons]
   have hg:=zGf rows k i hi
   rw [hg]
   exact zE7 rows k hw hl a b c d e f g n (i+1) _ (by omega) (by omega) (by rw [zHk]; omega)
  ·have hcl:(colV rows k).length=rows.length:=by simp [colV]
   simp only [Wy.ev_i,Wy.ev_k,Wy.ev_h,Wy.ev_bn,Wy.ev_d,tT,hi,zit (l:=colV rows k) (show ¬ i<(colV rows k).length by omega)]
   rfl
def zky (s:List Value) (i:Nat):Nat:=if i=0 then zty s else (ziu (fun a b=>decide (a=b)) (s.getD (i - 1) default) (s.drop i)).length
theorem zvl (s:List Value) (hl:s.length≤100000) (a b c:Int) (d:ByteArray) (e f:Int) (g:ByteArray) (b' c':Int) (d':ByteArray) (e' f':Int) (g':ByteArray):∀ (n i m:Nat),s.length<i+n→i≤s.length→m≤i→
  zqc n s.length i a b c d e f g s m b' c' d' e' f' g'=(true,((s.length:Int),a,b,c,d,e,f,g,s,((m+zky s i:Nat):Int),b',c',d',e',f',g'))
 | 0,i,m,h,h2,_=>by omega
 | n+1,i,m,h,h2,h3=>by
  show (zqg s.length i a b c d e f g s m b' c' d' e' f' g').ev (zN zme default n) (fun r=>(true,r)) (false,default)=_
  unfold zqg
  by_cases hi:i<s.length
  ·have hw1:IntKind.i64.wrap ((m:Int)+1)=((m+1:Nat):Int):=zbt (by omega)
   have hz:((i:Int)==(0:Int))=decide (i=0):=zEO i 0
   simp only [Wy.ev_i,Wy.ev_k,Wy.ev_h,Wy.ev_bn,Wy.ev_d,zwv,hi,decide_true,cond_true,hz,hw1,zbt (show i<4611686018427387904 by omega)]
   by_cases h0:i=0
   ·subst h0
    rw [decide_eq_true rfl,cond_true]
    have ih:=zvl s hl a b c d e f g b' c' d' e' f' g' n (0+1) (m+1) (by omega) (by omega) (by omega)
    refine Eq.trans ih ?_
    have:zky s 0=zky s (0+1)+1:=by
     unfold zky
     rw [if_pos rfl,if_neg (by omega)]
     cases s with
     | nil=>simp at hi
     | cons x r=>rfl
    rw [this]
    congr 11
    omega
   ·rw [decide_eq_false h0,cond_false]
    obtain ⟨j,rfl⟩:∃ j,i=j+1:=⟨i - 1,by omega⟩
    have hp:IntKind.i64.wrap (((j+1:Nat):Int) - 1)=(j:Int):=by rw [ztV (by omega) (by omega)]; rfl
    have hj:j<s.length:=by omega
    have i1:(decide ((0:Int)≤((j+1:Nat):Int))&&decide (((j+1:Nat):Int)<Int.ofNat s.length))=true:=by simp only [tT,hi]
    have i2:(decide ((0:Int)≤(j:Int))&&decide ((j:Int)<Int.ofNat s.length))=true:=by simp only [tT,hj]
    rw [hp,i1,i2,cond_true,cond_true,Int.toNat_natCast,Int.toNat_natCast,veq]
    have hstep:zky s (j+1)=(bif decide (s.getD (j+1) default=s.getD j default) then zky s (j+1+1) else zky s (j+1+1)+1):=by
     unfold zky
     rw [if_neg (by omega),if_neg (by omega),ziz hi]
     show (bif decide (s.getD (j+1) default=s.getD j default) then ziu _ (s.getD (j+1) default) (s.drop (j+1+1)) else s.getD (j+1) default::ziu _ (s.getD (j+1) default) (s.drop (j+1+1))).length=_
     cases decide (s.getD (j+1) default=s.getD j default) <;>rfl
    cases hb:decide (s.getD (j+1) default=s.getD j default) with
    | true=>
     rw [Bool.not_true,cond_false]
     have ih:=zvl s hl a b c d e f g b' c' d' e' f' g' n (j+1+1) m (by omega) (by omega) (by omega)
     refine Eq.trans ih ?_
     rw [hstep,hb]; rfl
    | false=>
     rw [Bool.not_false,cond_true]
     have ih:=zvl s hl a b c d e f g b' c' d' e' f' g' n (j+1+1) (m+1) (by omega) (by omega) (by omega)
     refine Eq.trans ih ?_
     rw [hstep,hb,cond_false]
     congr 11
     omega
  ·have:i=s.length:=by omega
   subst this
   simp only [Wy.ev_i,Wy.ev_k,Wy.ev_h,Wy.ev_bn,Wy.ev_d,zwv,hi,decide_false,cond_false]
   have:zky s s.length=0:=by
    unfold zky
    by_cases h0:s.length=0
    ·rw [if_pos h0,List.length_eq_zero_iff.1 h0]; rfl
    ·rw [if_neg h0,zit (Nat.lt_irrefl _)]; rfl
   rw [this]; rfl
theorem zFy (l:List Value) (m:Nat) (hm:0<m) (hm2:m≤1000000) (hl:l.length=m) (a b c:Int) (d:ByteArray) (e f:Int) (g:ByteArray) (a' b' c':Int) (d':ByteArray) (e' f':Int) (g':ByteArray):∀ (n i:Nat),8<i+n→i≤8→
  zp8 n m ((i+1:Nat):Int) a b c d e f g l a' b' c' d' e' f' g' (bnds l m i)=(true,(a,b,c,d,e,f,g,a',b',c',d',e',f',g',bnds l m 8))
 | 0,i,h,h2=>by omega
 | n+1,i,h,h2=>by
  show (zqb m ((i+1:Nat):Int) a b c d e f g l a' b' c' d' e' f' g' (bnds l m i)).ev (zN zl4 default n) (fun r=>(true,r)) (false,default)=_
  unfold zqb
  by_cases hi:i<8
  ·have g8:decide (((i+1:Nat):Int)≤(8:Int))=true:=decide_eq_true (by omega)
   have hb:=zGl (n:=m) (i:=i) hm (by omega)
   have hin:(decide ((0:Int)≤((((i+1)*m+7) / 8:Nat):Int) - 1)&&decide (((((i+1)*m+7) / 8:Nat):Int) - 1<Int.ofNat l.length))=true:=by
    simp only [Bool.and_eq_true,decide_eq_true_eq]
    refine ⟨by omega, ?_⟩
    show ((((i+1)*m+7) / 8:Nat):Int) - 1<(l.length:Int)
    omega
   have ht:(((((i+1)*m+7) / 8:Nat):Int) - 1).toNat=((i+1)*m+7) / 8 - 1:=by omega
   simp only [Wy.ev_i,Wy.ev_k,Wy.ev_h,Wy.ev_d,g8,zJf hm2 (show i≤7 by omega),hin,ht,cond_true]
   rw [decide_eq_true (zvy (by rw [zpR]; simp; omega)),cond_true,zbt (by omega)]
   have:=zFy l m hm hm2 hl a b c d e f g a' b' c' d' e' f' g' n (i+1) (by omega) (by omega)
   rw [zFa] at this
   exact this
  ·have g8:decide (((i+1:Nat):Int)≤(8:Int))=false:=decide_eq_false (by omega)
   have:i=8:=by omega
   subst this
   simp only [Wy.ev_i,Wy.ev_k,g8,cond_false]
theorem zDV (rows:List Row) (k:Nat) (hw:wide rows k) (hl:rows.length≤100000):znO rows k=(true,colR (colV rows k)):=by
 have hcl:(colV rows k).length=rows.length:=by simp [colV]
 have key0:∀ n,rows.length<n→zr2 n rows k (0:Int) (0:Int) (0:Int) (0:Int) (ByteArray.mk #[]) (0:Int) (0:Int) (ByteArray.mk #[]) []=(true,(0,0,0,ByteArray.mk #[],0,0,ByteArray.mk #[],srtV (colV rows k))):=fun n hn=>by
  have:=zE7 rows k hw hl 0 0 0 (ByteArray.mk #[]) 0 0 (ByteArray.mk #[]) n 0 [] (by omega) (by omega) (by simp)
  rw [List.drop_zero,zH9 (by omega)] at this
  exact this
 unfold znO zsV colR
 have hs:=zyh (colV rows k)
 rw [Wy.fin_bn,key0 _ (by omega),cond_true]
 have e0:(Int.ofNat (srtV (colV rows k)).length==(0:Int))=decide ((colV rows k).length=0):=by rw [hs]; exact zEO _ 0
 simp only [Wy.fin_i,e0]
 by_cases h0:(colV rows k).length=0
 ·rw [decide_eq_true h0,if_pos h0]; rfl
 ·rw [decide_eq_false h0,if_neg h0,cond_false]
  generalize hsd:srtV (colV rows k)=s at hs ⊢
  generalize (colV rows k).length=m at hs h0 hcl
  have key1:∀ n,s.length<n→zqc n (Int.ofNat s.length) (0:Int) 0 0 0 (ByteArray.mk #[]) 0 0 (ByteArray.mk #[]) s (0:Int) (0:Int) (0:Int) (ByteArray.mk #[]) (0:Int) (0:Int) (ByteArray.mk #[])=(true,((s.length:Int),0,0,0,ByteArray.mk #[],0,0,ByteArray.mk #[],s,(zty s:Int),0,0,ByteArray.mk #[],0,0,ByteArray.mk #[])):=fun n hn=>by
   have:=zvl s (by omega) 0 0 0 (ByteArray.mk #[]) 0 0 (ByteArray.mk #[]) 0 0 (ByteArray.mk #[]) 0 0 (ByteArray.mk #[]) n 0 0 (by omega) (by omega) (by omega)
   rw [Nat.zero_add] at this
   exact this
  rw [Wy.fin_bn,key1 _ (by omega),cond_true]
  have hw:IntKind.i64.wrap ((s.length:Int) - (1:Int))=((m - 1:Nat):Int):=by rw [hs]; exact ztV (i:=m) (by omega) (by omega)
  have c0:(decide ((0:Int)≤(0:Int))&&decide ((0:Int)<Int.ofNat s.length))=true:=in0' (by omega)
  have c1:(decide ((0:Int)≤((m - 1:Nat):Int))&&decide (((m - 1:Nat):Int)<Int.ofNat s.length))=true:=by
   simp only [tT]; simp; omega
  simp only [Wy.fin_i,hw,c0,c1,cond_true,Int.toNat_natCast]
  have key2:∀ n a b c d e f g a' b' c' d' e' f' g',9<n→zp8 n (s.length:Int) (1:Int) a b c d e f g s a' b' c' d' e' f' g' []=(true,(a,b,c,d,e,f,g,a',b',c',d',e',f',g',bnds s m 8)):=fun n a b c d e f g a' b' c' d' e' f' g' hn=>by
   rw [hs]
   exact zFy s m (by omega) (by omega) hs a b c d e f g a' b' c' d' e' f' g' n 0 (by omega) (by omega)
  rw [Wy.fin_bn,key2 _ _ _ _ _ _ _ _ _ _ _ _ _ _ _ (by omega),cond_true,Wy.fin_k]
  rfl
def okT (t:Table):Bool:=zkK t.Columns&&t.Rows.all fun r=>fitR t.Columns r.Values
def zh1 (t:Table) (n:Nat):List ColumnStats:=(List.range n).map fun k=>colR (colV t.Rows k)
theorem zD6 (t:Table) (n:Nat):zh1 t (n+1)=zh1 t n++[colR (colV t.Rows n)]:=by
 unfold zh1; rw [List.range_succ,List.map_append]; rfl
theorem zrp (t:Table) (n:Nat):(zh1 t n).length=n:=by simp [zh1]
def gatR (t:Table):Stats:=bif okT t then ⟨t.ID,(t.Rows.length:Int),zh1 t t.Columns.length⟩ else ⟨0,0,[]⟩
theorem zGH {t:Table} (h:okT t=true) {k:Nat} (hk:k<t.Columns.length):wide t.Rows k:=fun r hr=>by
 unfold okT at h
 simp only [Bool.and_eq_true,List.all_eq_true] at h
 have:=h.2 r hr
 unfold fitR at this
 simp only [Bool.and_eq_true,decide_eq_true_eq] at this
 omega
theorem zDf {t:Table} (h:okT t=true):t.Columns.length≤16:=by
 unfold okT zkK at h
 simp only [Bool.and_eq_true,decide_eq_true_eq] at h
 exact h.1.1
theorem zFt (t:Table) (hr:t.Rows.length≤1000) (hc:t.Columns.length≤16) (hw:∀ k,k<t.Columns.length→wide t.Rows k) (a b c d:Int):∀ (n i:Nat),t.Columns.length<i+n→i≤t.Columns.length→
  zqd n i t a b c d (zh1 t i)=(true,(a,b,c,d,zh1 t t.Columns.length))
 | 0,i,h,h2=>by omega
 | n+1,i,h,h2=>by
  show (zqa i t a b c d (zh1 t i)).ev (zN zl8 default n) (fun r=>(true,r)) (false,default)=_
  unfold zqa
  by_cases hi:i<t.Columns.length
  ·simp only [Wy.ev_i,Wy.ev_k,Wy.ev_h,Wy.ev_bn,Wy.ev_d,tT,hi,zDV t.Rows i (hw i hi) (by omega)]
   rw [decide_eq_true (zn7 (show (zh1 t i).length+[colR (colV t.Rows i)].length≤1073741824 by rw [zrp]; simp; omega) (by omega)),cond_true,zbt (by omega), ← zD6]
   exact zFt t hr hc hw a b c d n (i+1) (by omega) (by omega)
  ·have:i=t.Columns.length:=by omega
   subst this
   simp only [Wy.ev_i,Wy.ev_k,Wy.ev_h,Wy.ev_bn,Wy.ev_d,tT,Nat.lt_irrefl]
theorem zDU (t:Table) (hr:t.Rows.length≤1000) (hc:t.Columns.length≤1000):zob t=(true,gatR t):=by
 unfold zob zsO gatR
 rw [Wy.fin_bn,zDt _ (by omega),cond_true,Wy.fin_i,Wy.fin_i]
 have hg:decide (Int.ofNat t.Rows.length>(1000000:Int))=false:=decide_eq_false (by show ¬ (t.Rows.length:Int)>1000000; omega)
 cases hok:zkK t.Columns with
 | false=>
  have:okT t=false:=by unfold okT; rw [hok]; rfl
  rw [this]; rfl
 | true=>
  have l4:∀ n,t.Rows.length<n→zxW n 0 t 0 0=(true,bif allN (fun i=>fitR t.Columns (t.Rows.getD i default).Values) t.Rows.length 0 then .inr (t,0,0) else .inl (0,0)):=fun n hn=>
   zxp (W:=zm3) (z:=.inl default) t.Rows.length (fun i=>((),(),(i:Int),())) (fun _=>(t,(0,0,(),()),())) (fun i=>fitR t.Columns (t.Rows.getD i default).Values) (.inl (0,0)) (.inr (t,0,0)) (fun i hi H K D=>by
    show (zkb i t 0 0).ev H K D=_
    unfold zkb
    simp only [Wy.ev_i,Wy.ev_k,Wy.ev_h,Wy.ev_bn,Wy.ev_d,tT,hi,zFP t.Columns (t.Rows.getD i default).Values (by omega),zbt (show i<4611686018427387904 by omega)]
    cases fitR t.Columns (t.Rows.getD i default).Values <;>rfl) (fun H K D=>by
    show (zkb t.Rows.length t 0 0).ev H K D=_
    unfold zkb
    simp only [Wy.ev_i,Wy.ev_k,Wy.ev_h,Wy.ev_bn,Wy.ev_d,tT,Nat.lt_irrefl]) n hn
  rw [hg,Bool.not_true,cond_false,cond_false,Wy.fin_bn,l4 _ (by omega),zFA (fun r:Row=>fitR t.Columns r.Values)]
  have hT:okT t=t.Rows.all fun r=>fitR t.Columns r.Values:=by unfold okT; rw [hok,Bool.true_and]
  rw [hT]
  cases hf:t.Rows.all fun r=>fitR t.Columns r.Values with
  | false=>rfl
  | true=>
   rw [hf] at hT
   have h10:∀ n,t.Columns.length<n→zqd n 0 t 0 0 t.ID (Int.ofNat t.Rows.length) []=(true,(0,0,t.ID,Int.ofNat t.Rows.length,zh1 t t.Columns.length)):=fun n hn=>
    zFt t hr (zDf hT) (fun k hk=>zGH hT hk) 0 0 t.ID (Int.ofNat t.Rows.length) n 0 (by omega) (by omega)
   simp only [cond_true,Wy.fin_i,isL,getR,cond_false]
   rw [Wy.fin_bn,h10 _ (by omega)]
   rfl
theorem zE9 (t:Table) (k:Nat) (hw:wide t.Rows k) (hl:t.Rows.length≤100000) (a b:Int) (c d e f:Int) (b4:List ColumnStats):∀ (n i:Nat),t.Rows.length<i+n→i≤t.Rows.length→
  zkT n k a b t.Rows t.Rows.length i t c d e f ((colV t.Rows k).take i) b4=(true,(a,b,t,c,d,e,f,colV t.Rows k,b4))
 | 0,i,h,h2=>by omega
 | n+1,i,h,h2=>by
  have hcl:(colV t.Rows k).length=t.Rows.length:=by simp [colV]
  show (zkX k a b t.Rows t.Rows.length i t c d e f ((colV t.Rows k).take i) b4).ev (zN zim default n) (fun r=>(true,r)) (false,default)=_
  unfold zkX
  by_cases hi:i<t.Rows.length
  ·have hk:=hw _ (zhR hi)
   have hg:=zGf t.Rows k i hi
   simp only [Wy.ev_i,Wy.ev_k,Wy.ev_h,Wy.ev_bn,Wy.ev_d,tT,hi,hk]
   rw [decide_eq_true (zvy (by rw [List.length_take]; simp; omega)),cond_true,zbt (by omega), ← hg, ← zEX (l:=colV t.Rows k) (by omega)]
   exact zE9 t k hw hl a b c d e f b4 n (i+1) (by omega) (by omega)
  ·simp only [Wy.ev_i,Wy.ev_k,Wy.ev_h,Wy.ev_bn,Wy.ev_d,tT,hi]
   rw [List.take_of_length_le (by omega)]
theorem zFj (t:Table) (hr:t.Rows.length≤1000) (hc:t.Columns.length≤16) (hw:∀ k,k<t.Columns.length→wide t.Rows k) (a b c d:Int):∀ (n i:Nat),t.Columns.length<i+n→i≤t.Columns.length→
  zk8 n t.Columns.length i t a b c d (zh1 t i)=(true,(a,b,c,d,zh1 t t.Columns.length))
 | 0,i,h,h2=>by omega
 | n+1,i,h,h2=>by
  show (zkS t.Columns.length i t a b c d (zh1 t i)).ev (zN ziv default n) (fun r=>(true,r)) (false,default)=_
  unfold zkS
  by_cases hi:i<t.Columns.length
  ·have hcl:(colV t.Rows i).length=t.Rows.length:=by simp [colV]
   have key:∀ n,t.Rows.length<n→zkT n i t.Columns.length i t.Rows (Int.ofNat t.Rows.length) 0 t a b c d [] (zh1 t i)=(true,((t.Columns.length:Int),(i:Int),t,a,b,c,d,colV t.Rows i,zh1 t i)):=fun n hn=>
    zE9 t i (hw i hi) (by omega) t.Columns.length i a b c d (zh1 t i) n 0 (by omega) (by omega)
   rw [Wy.ev_i,zwv,decide_eq_true hi,cond_true,Wy.ev_bn,key _ (by omega),cond_true]
   dsimp only
   rw [Wy.ev_bn,zI9 (colV t.Rows i) (by omega),cond_true,Wy.ev_i]
   rw [decide_eq_true (zn7 (show (zh1 t i).length+[colR (colV t.Rows i)].length≤1073741824 by rw [zrp]; simp; omega) (by omega)),cond_true,Wy.ev_h,zbt (by omega), ← zD6]
   exact zFj t hr hc hw a b c d n (i+1) (by omega) (by omega)
  ·have:i=t.Columns.length:=by omega
   subst this
   rw [Wy.ev_i,zwv,decide_eq_false (Nat.lt_irrefl _)]; rfl
theorem zJH (t:Table) (hr:t.Rows.length≤1000) (hc:t.Columns.length≤1000):ziV t=(true,gatR t):=by
 unfold ziV zmQ
 have hg:decide (Int.ofNat t.Rows.length>(1000000:Int))=false:=decide_eq_false (by show ¬ (t.Rows.length:Int)>1000000; omega)
 have hrc:decide (((0:Nat)+t.Rows.length)*(48:Nat)≤reach)=true:=decide_eq_true (zn7 (by omega) (by omega))
 rw [Wy.fin_i,hg,cond_false,Wy.fin_i,hrc,cond_true]
 simp only [List.nil_append]
 have l4:∀ n,t.Rows.length<n→zsg n (Int.ofNat t.Rows.length) 0 t 0 0 t.Rows=(true,bif allN (fun i=>zkK t.Columns&&fitR t.Columns (t.Rows.getD i default).Values) t.Rows.length 0 then .inr (t,0,0) else .inl (0,0)):=fun n hn=>
  zxp (W:=zjc) (z:=.inl default) t.Rows.length (fun i=>((),(),(),Int.ofNat t.Rows.length,(i:Int),())) (fun _=>(t,(0,0,(),()),t.Rows,())) (fun i=>zkK t.Columns&&fitR t.Columns (t.Rows.getD i default).Values) (.inl (0,0)) (.inr (t,0,0)) (fun i hi H K D=>by
    show (zhj (Int.ofNat t.Rows.length) i t 0 0 t.Rows).ev H K D=_
    unfold zhj
    obtain ⟨r,hn1⟩:=zKg t.Columns (t.Rows.getD i default).Values (by omega)
    simp only [Wy.ev_i,Wy.ev_k,Wy.ev_h,Wy.ev_bn,Wy.ev_d,tT,hi,hn1,zbt (show i<4611686018427387904 by omega)]
    cases zkK t.Columns <;>cases fitR t.Columns (t.Rows.getD i default).Values <;>rfl) (fun H K D=>by
    show (zhj (Int.ofNat t.Rows.length) t.Rows.length t 0 0 t.Rows).ev H K D=_
    unfold zhj
    simp only [Wy.ev_i,Wy.ev_k,Wy.ev_h,Wy.ev_bn,Wy.ev_d,tT,Nat.lt_irrefl]) n hn
 obtain ⟨r0,hn0⟩:=zJ2 t.Columns (by omega)
 rw [Wy.fin_bn,l4 _ (by omega),zFA (fun r:Row=>zkK t.Columns&&fitR t.Columns r.Values),cond_true]
 unfold gatR
 cases hok:zkK t.Columns with
 | false=>
  have hT:okT t=false:=by unfold okT; rw [hok]; rfl
  rw [hT]
  cases hrow:t.Rows with
  | nil=>
   simp only [List.all_nil,cond_true,Wy.fin_i,isL,getR,cond_false]
   rw [Wy.fin_bn,hn0,hok]; rfl
  | cons x rr=>rfl
 | true=>
  have hT:okT t=t.Rows.all fun r=>true&&fitR t.Columns r.Values:=by unfold okT; rw [hok,Bool.true_and]; simp only [Bool.true_and]
  rw [← hT]
  cases hf:okT t with
  | false=>rfl
  | true=>
   have h15:∀ n,t.Columns.length<n→zk8 n (Int.ofNat t.Columns.length) 0 t 0 0 t.ID (Int.ofNat t.Rows.length) []=(true,(0,0,t.ID,Int.ofNat t.Rows.length,zh1 t t.Columns.length)):=fun n hn=>
    zFj t hr (zDf hf) (fun k hk=>zGH hf hk) 0 0 t.ID (Int.ofNat t.Rows.length) n 0 (by omega) (by omega)
   simp only [cond_true,Wy.fin_i,isL,getR,cond_false]
   rw [Wy.fin_bn,hn0,hok,cond_true]
   simp only [Wy.fin_i]
   show (bif ((0:Int) != 0) then _ else _)=_
   rw [show ((0:Int) != 0)=false from rfl,cond_false,Wy.fin_bn,h15 _ (by omega)]
   rfl
end Go.Proofs.YtddkaehkimnklaaGreatDoor
end
