/- Texts of this claim, joined (the program, its functions in plain words, and what they compute). -/
import Derived.KernelRfl
import Derived.Test.YtddkaehkimnklaaGreatDoorGC5
import Derived.Test.YtddkaehkimnklaaGreatDoorGC4
import Derived.Test.YtddkaehkimnklaaGreatDoorGC1
import Derived.Test.YtddkaehkimnklaaGreatDoorGA3
set_option autoImplicit false
set_option linter.unusedVariables false
set_option linter.unusedSectionVars false
set_option linter.unusedSimpArgs false
set_option maxRecDepth 1000000
set_option maxHeartbeats 0
/- The reference's estimates are what they are said to be. -/
noncomputable section
namespace Go.Proofs.YtddkaehkimnklaaGreatDoor
open Go Go.Ab
theorem zCI (l:List Value) (m:Int) (hl:l.length≤roomLen):∀ (n i:Nat),l.length<i+n→i≤l.length→∃ r,zs3 n l m i=(true,r)∧(r=.inl false∨(r=.inr (l,m)∧∀ x∈l.drop i,x.Text.size≤300))
 | 0,i,h,h2=>by omega
 | n+1,i,h,h2=>by
  show ∃ r,(zs4 l m i).ev (fun x y=>zs3 n x.1 x.2.1 x.2.2.1) (fun r=>(true,r)) (false,.inl default)=(true,r)∧_
  unfold zs4
  by_cases hi:i<l.length
  ·have hw:i<4611686018427387904:=by
    have:roomLen<4611686018427387904:=by decide
    omega
   have hs:decide (((l.getD i default).Text.size:Int)>(300:Int))=decide ((l.getD i default).Text.size>300):=zDn _ 300
   simp only [Wy.ev_i,Wy.ev_k,Wy.ev_h,Wy.ev_bn,Wy.ev_d,tT,hi]
   rw [hs]
   by_cases h3:(l.getD i default).Text.size>300
   ·rw [decide_eq_true h3]
    exact ⟨_,rfl,.inl rfl⟩
   ·rw [decide_eq_false h3,cond_false,zbM hw]
    obtain ⟨r,h4,h5⟩:=zCI l m hl n (i+1) (by omega) (by omega)
    refine ⟨r,h4, ?_⟩
    rcases h5 with h5 | ⟨h5,h6⟩
    ·exact .inl h5
    ·refine .inr ⟨h5,fun x hx=> ?_⟩
     rw [zla hi] at hx
     rcases List.mem_cons.1 hx with rfl | hx
     ·omega
     ·exact h6 x hx
  ·simp only [Wy.ev_i,Wy.ev_k,Wy.ev_h,Wy.ev_bn,Wy.ev_d,tT,hi]
   exact ⟨_,rfl,.inr ⟨rfl,fun x hx=>by rw [zmQ hi] at hx; cases hx⟩⟩
theorem zIS (l:List Value) (m:Nat) (hl:l.length≤roomLen):∃ b,zmS l m=(true,b)∧(b=true→l.length≤m∧∀ x∈l,x.Text.size≤300):=by
 unfold zmS zuq
 obtain ⟨r,h1,h2⟩:=zCI l m hl (l.length+(m:Int).toNat +Int.toNat (0:Int)+(1:Nat)) 0 (by omega) (by omega)
 rw [show ((0:Nat):Int)=(0:Int) from rfl] at h1
 rw [Wy.fin_bn,h1]
 rcases h2 with rfl | ⟨rfl,h2⟩
 ·exact ⟨false,rfl,fun h=>by cases h⟩
 ·refine ⟨decide (l.length≤m), ?_,fun h=>⟨of_decide_eq_true h,h2⟩⟩
  show (true,decide (Int.ofNat l.length≤(m:Int)))=_
  rw [show decide (Int.ofNat l.length≤(m:Int))=decide (l.length≤m) from zoG _ _]
theorem zx8 (l:List Value) (hl:l.length≤1000000):∀ (n i:Nat),l.length<i+n→i≤l.length→zl0 n l l i=(true,.inr (l,l))
 | 0,i,h,h2=>by omega
 | n+1,i,h,h2=>by
  show (zl8 l l i).ev (fun x y=>zl0 n x.1 x.2.1 x.2.2.1) (fun r=>(true,r)) (false,.inl default)=_
  unfold zl8
  by_cases hi:i<l.length
  ·have h0:(cmpV (l.getD i default) (l.getD i default) != 0)=false:=by rw [(zwQ _ _).2 rfl]; rfl
   simp only [Wy.ev_i,Wy.ev_k,Wy.ev_h,Wy.ev_bn,Wy.ev_d,tT,hi,ref01_Compare_eq',h0]
   rw [zbM (by omega)]
   exact zx8 l hl n (i+1) (by omega) (by omega)
  ·simp only [Wy.ev_i,Wy.ev_k,Wy.ev_h,Wy.ev_bn,Wy.ev_d,tT,hi]
theorem zH1 (l:List Value) (hl:l.length≤1000000):zr5 l l=(true,true):=by
 have h:=zx8 l hl (l.length+l.length+Int.toNat (0:Int)+(1:Nat)) 0 (by omega) (by omega)
 rw [show ((0:Nat):Int)=(0:Int) from rfl] at h
 have hb:(Int.ofNat l.length==Int.ofNat l.length)=true:=by simp
 unfold zr5 zvM zkN zmX
 rw [Wy.fin_bn,Wy.fin_bn,h]
 simp only [Wy.fin_i,Wy.fin_k,isL,getR,hb,cond_true,cond_false]
 rfl
theorem zCX (c:ColumnStats) (h:c.Bounds.length≤1000000):zjH c c=(true,true):=by
 unfold zjH zov
 simp only [veq]
 simp only [Wy.fin_i,Wy.fin_bn,Wy.fin_k,zH1 _ h,beqd,decide_true,cond_true]
theorem zF7 (s:Stats) (h:s.Columns.length≤1000000) (hc:∀ c∈s.Columns,c.Bounds.length≤1000000):zoJ s s=(true,true):=by
 unfold zoJ zvS
 have key:=zDQ (W:=zqn) (z:=.inl default) s.Columns.length (fun i=>((),(),(i:Int),())) (fun _=>(s,s,())) (fun i=>true) (.inl false) (.inr ()) (fun i hi H K D=>by
    show (zmq i s s).ev H K D=_
    unfold zmq
    simp only [Wy.ev_i,Wy.ev_k,Wy.ev_h,Wy.ev_bn,Wy.ev_d,tT,hi,zCX _ (hc _ (zhg hi)),zbM (show i<4611686018427387904 by omega)]) (fun H K D=>by
    show (zmq s.Columns.length s s).ev H K D=_
    unfold zmq
    simp only [Wy.ev_i,Wy.ev_k,Wy.ev_h,Wy.ev_bn,Wy.ev_d,tT,Nat.lt_irrefl]) (Int.toNat (0:Int)+s.Columns.length+s.Columns.length+(1:Nat)) (by omega)
 replace key:zzF (Int.toNat (0:Int)+s.Columns.length+s.Columns.length+(1:Nat)) 0 s s=_:=key
 have ht:allN (fun _=>true) s.Columns.length 0=true:=zFV.2 fun _ _ _=>rfl
 rw [ht] at key
 simp only [Wy.fin_i,Wy.fin_bn,Wy.fin_k,key,bne0,decide_true,Bool.not_true,cond_false,cond_true]
 rfl
end Go.Proofs.YtddkaehkimnklaaGreatDoor
namespace Go.Proofs.YtddkaehkimnklaaGreatDoor
open Go Go.Ab
end Go.Proofs.YtddkaehkimnklaaGreatDoor
/- The reference's estimate of a condition. -/
namespace Go.Proofs.YtddkaehkimnklaaGreatDoor
open Go Go.Ab
section
variable (g:Stats→Scalar→Bool×Int) {s:Stats} (h:okS s=true) (e x y:Scalar)
include h
end
theorem in0' {n:Nat} (h:0<n):(decide ((0:Int)≤(0:Int))&&decide ((0:Int)<Int.ofNat n))=true:=by
 simp only [Bool.and_eq_true,decide_eq_true_eq]
 exact ⟨Int.le_refl _,by show (0:Int)<(n:Int); omega⟩
def bndP (s:List Value) (n j:Nat):Value:=s.getD (((j+1)*n+7) / 8 - 1) default
def bnds (s:List Value) (n k:Nat):List Value:=(List.range k).map (bndP s n)
theorem zH0 (s:List Value) (n k:Nat):bnds s n (k+1)=bnds s n k++[bndP s n k]:=by
 unfold bnds; rw [List.range_succ,List.map_append]; rfl
theorem zBR (s:List Value) (n k:Nat):(bnds s n k).length=k:=by simp [bnds]
def colR (l:List Value):ColumnStats:=
 if l.length=0 then ⟨0,zV,zV,[]⟩ else ⟨(zAw (srtV l):Int),(srtV l).getD 0 default,(srtV l).getD (l.length - 1) default,bnds (srtV l) l.length 8⟩
theorem zKo {n i:Nat} (hn:n≤1000000) (hi:i≤7):IntKind.i64.wrap (IntKind.i64.wrap ((IntKind.i64.wrap (IntKind.i64.wrap (((i+1:Nat):Int)*(n:Int))+(7:Int))).tdiv (8:Int)) - (1:Int))=((((i+1)*n+7) / 8:Nat):Int) - 1:=by
 have h1:(i+1)*n≤8*1000000:=Nat.mul_le_mul (by omega) hn
 have e1:(((i+1:Nat):Int)*(n:Int))=(((i+1)*n:Nat):Int):=by rw [Int.natCast_mul]
 rw [e1]
 generalize (i+1)*n=q at h1 ⊢
 rw [zgT (z:=(q:Int)) (by omega) (by omega),zgT (z:=(q:Int)+7) (by omega) (by omega)]
 have e2:Int.tdiv ((q:Int)+7) 8=(((q+7) / 8:Nat):Int):=by
  rw [show (q:Int)+7=((q+7:Nat):Int) by omega]; rfl
 rw [e2,zgT (z:=(((q+7) / 8:Nat):Int)) (by omega) (by omega),zgT (by omega) (by omega)]
theorem zJ6 {n i:Nat} (hn:0<n) (hi:i≤7):1≤((i+1)*n+7) / 8∧((i+1)*n+7) / 8≤n:=by
 have h1:(i+1)*n≤8*n:=Nat.mul_le_mul (by omega) (Nat.le_refl _)
 have h2:1*n≤(i+1)*n:=Nat.mul_le_mul (by omega) (Nat.le_refl _)
 generalize (i+1)*n=q at h1 h2 ⊢
 omega
def keyV (v:Value):Go.Value:=Go.Value.agg #[Go.Value.int IntKind.i64 v.Kind,Go.Value.int IntKind.i64 v.Int,Go.Value.string v.Text]
theorem zJh (a b:Value):zik (keyV a) (keyV b)=decide (a=b):=by
 show zkY [Go.Value.int IntKind.i64 a.Kind,Go.Value.int IntKind.i64 a.Int,Go.Value.string a.Text] [Go.Value.int IntKind.i64 b.Kind,Go.Value.int IntKind.i64 b.Int,Go.Value.string b.Text]=_
 rw [← veq]; rfl
def insD (v:Value) (d:List Value):List Value:=if v∈d then d else d++[v]
theorem zDU (v:Value):∀ d:List Value,zEF (keyV v) true (d.map fun x=>(keyV x,true))=(insD v d).map fun x=>(keyV x,true)
 | []=>rfl
 | x::r=>by
  have ih:=zDU v r
  show (bif zik (keyV v) (keyV x) then (keyV v,true)::(r.map fun x=>(keyV x,true)) else (keyV x,true)::zEF (keyV v) true (r.map fun x=>(keyV x,true)))=_
  rw [zJh]
  by_cases h:v=x
  ·subst h
   rw [decide_eq_true rfl,cond_true]
   unfold insD
   rw [if_pos (by simp)]; rfl
  ·rw [decide_eq_false h,cond_false,ih]
   unfold insD
   by_cases hm:v∈r
   ·rw [if_pos hm,if_pos (by simp [hm])]; rfl
   ·rw [if_neg hm,if_neg (by simp [h,hm])]; rfl
theorem zJF (v:Value) (d:List Value) (h:d.Nodup):(insD v d).Nodup∧∀ x,x∈insD v d↔x=v∨x∈d:=by
 unfold insD
 by_cases hm:v∈d
 ·rw [if_pos hm]
  refine ⟨h,fun x=>⟨.inr, ?_⟩⟩
  rintro (rfl | hx)
  ·exact hm
  ·exact hx
 ·rw [if_neg hm]
  refine ⟨List.nodup_append.2 ⟨h,by simp,fun a ha b hb=> ?_⟩,fun x=>by simp [or_comm]⟩
  rw [List.mem_singleton] at hb; subst hb
  exact fun e=>hm (e ▸ ha)
theorem zG9:∀ (l d:List Value),d.Nodup→(l.foldl (fun d v=>insD v d) d).Nodup∧∀ x,x∈l.foldl (fun d v=>insD v d) d↔x∈l∨x∈d
 | [],d,h=>⟨h,fun x=>by simp⟩
 | v::r,d,h=>by
  obtain ⟨h1,h2⟩:=zJF v d h
  obtain ⟨h3,h4⟩:=zG9 r _ h1
  refine ⟨h3,fun x=> ?_⟩
  rw [List.foldl_cons,h4,h2,List.mem_cons]
  constructor
  ·rintro (h | h | h)
   ·exact .inl (.inr h)
   ·exact .inl (.inl h)
   ·exact .inr h
  ·rintro ((h | h) | h)
   ·exact .inr (.inl h)
   ·exact .inl h
   ·exact .inr (.inr h)
def dedV (l:List Value):List Value:=l.foldl (fun d v=>insD v d) []
theorem zGg {l:List Value} (h:l.length<4611686018427387904):(dedV (srtV l)).length=zAw (srtV l):=by
 obtain ⟨h1,h2⟩:=zG9 (srtV l) [] .nil
 exact zD6 h h1 fun x=>by
  rw [show (x∈dedV (srtV l))=(x∈(srtV l).foldl (fun d v=>insD v d) []) from rfl,h2]
  simp [(ztI l).mem_iff]
theorem zEg (nn:Int) (l:List Value) (hl:l.length≤1000000) (a b c:Int) (d:ByteArray) (e f:Int) (g:ByteArray):∀ (n i:Nat) (D:List Value),l.length<i+n→i≤l.length→
  zmh n nn l.length i l a b c d e f g (D.map fun x=>(keyV x,true))=(true,(nn,l,a,b,c,d,e,f,g,((l.drop i).foldl (fun d v=>insD v d) D).map fun x=>(keyV x,true)))
 | 0,i,D,h,h2=>by omega
 | n+1,i,D,h,h2=>by
  show (zlZ nn l.length i l a b c d e f g (D.map fun x=>(keyV x,true))).ev (zM zi6 default n) (fun r=>(true,r)) (false,default)=_
  unfold zlZ
  by_cases hi:i<l.length
  ·simp only [Wy.ev_i,Wy.ev_k,Wy.ev_h,Wy.ev_bn,Wy.ev_d,tT,hi]
   rw [zbM (by omega),zla hi,List.foldl_cons]
   have hm:=zDU (l.getD i default) D
   rw [show zEF (Go.Value.agg #[Go.Value.int IntKind.i64 (l.getD i default).Kind,Go.Value.int IntKind.i64 (l.getD i default).Int,Go.Value.string (l.getD i default).Text]) true (D.map fun x=>(keyV x,true))=_ from hm]
   exact zEg nn l hl a b c d e f g n (i+1) _ (by omega) (by omega)
  ·simp only [Wy.ev_i,Wy.ev_k,Wy.ev_h,Wy.ev_bn,Wy.ev_d,tT,hi,zmQ hi]
   rfl
theorem zE6 (l:List Value) (m:Nat) (hm:0<m) (hm2:m≤1000000) (hl:l.length=m) (a b c:Int) (d:ByteArray) (e f:Int) (g:ByteArray) (a' b' c':Int) (d':ByteArray) (e' f':Int) (g':ByteArray):∀ (n i:Nat),8<i+n→i≤8→
  zlk n m ((i+1:Nat):Int) l a b c d e f g a' b' c' d' e' f' g' (bnds l m i)=(true,(a,b,c,d,e,f,g,a',b',c',d',e',f',g',bnds l m 8))
 | 0,i,h,h2=>by omega
 | n+1,i,h,h2=>by
  show (zkW m ((i+1:Nat):Int) l a b c d e f g a' b' c' d' e' f' g' (bnds l m i)).ev (zM ziw default n) (fun r=>(true,r)) (false,default)=_
  unfold zkW
  by_cases hi:i<8
  ·have g8:decide (((i+1:Nat):Int)≤(8:Int))=true:=decide_eq_true (by omega)
   have hb:=zJ6 (n:=m) (i:=i) hm (by omega)
   have hin:(decide ((0:Int)≤((((i+1)*m+7) / 8:Nat):Int) - 1)&&decide (((((i+1)*m+7) / 8:Nat):Int) - 1<Int.ofNat l.length))=true:=by
    simp only [Bool.and_eq_true,decide_eq_true_eq]
    refine ⟨by omega, ?_⟩
    show ((((i+1)*m+7) / 8:Nat):Int) - 1<(l.length:Int)
    omega
   have ht:(((((i+1)*m+7) / 8:Nat):Int) - 1).toNat=((i+1)*m+7) / 8 - 1:=by omega
   simp only [Wy.ev_i,Wy.ev_k,Wy.ev_h,Wy.ev_d,g8,zKo hm2 (show i≤7 by omega),hin,ht,cond_true]
   rw [decide_eq_true (zGD (by rw [zBR]; simp; omega)),cond_true,zbM (by omega)]
   have:=zE6 l m hm hm2 hl a b c d e f g a' b' c' d' e' f' g' n (i+1) (by omega) (by omega)
   rw [zH0] at this
   exact this
  ·have g8:decide (((i+1:Nat):Int)≤(8:Int))=false:=decide_eq_false (by omega)
   have:i=8:=by omega
   subst this
   simp only [Wy.ev_i,Wy.ev_k,g8,cond_false]
theorem zIg (l:List Value) (hl:l.length≤1000000):ziL l=(true,colR l):=by
 unfold ziL zm1 colR
 have e0:(Int.ofNat l.length==(0:Int))=decide (l.length=0):=zJE _ 0
 rw [Wy.fin_i,e0]
 by_cases h0:l.length=0
 ·rw [decide_eq_true h0,if_pos h0]; rfl
 ·rw [decide_eq_false h0,if_neg h0,cond_false]
  have hs:zc1 l=(true,srtV l):=by
   show (decide (SortOK zba l),zi1 zba l)=_
   rw [decide_eq_true (zBn (by omega))]; rfl
  have hsl:=zBL l
  have key1:∀ n,l.length<n→zmh n (Int.ofNat l.length) (Int.ofNat (srtV l).length) (0:Int) (srtV l) (0:Int) (0:Int) (0:Int) (ByteArray.mk #[]) (0:Int) (0:Int) (ByteArray.mk #[]) []=(true,(Int.ofNat l.length,srtV l,0,0,0,ByteArray.mk #[],0,0,ByteArray.mk #[],(dedV (srtV l)).map fun x=>(keyV x,true))):=fun n hn=>by
   have:=zEg (Int.ofNat l.length) (srtV l) (by omega) 0 0 0 (ByteArray.mk #[]) 0 0 (ByteArray.mk #[]) n 0 [] (by omega) (by omega)
   rw [List.drop_zero] at this
   exact this
  rw [Wy.fin_bn,hs,cond_true,Wy.fin_bn,key1 _ (by rw [hsl]; show l.length<l.length+l.length+_+_+_+_+_+_+_+_+_+_+_; omega),cond_true]
  have hw:IntKind.i64.wrap (Int.ofNat l.length - (1:Int))=((l.length - 1:Nat):Int):=zIn (i:=l.length) (by omega) (by omega)
  have c0:(decide ((0:Int)≤(0:Int))&&decide ((0:Int)<Int.ofNat (srtV l).length))=true:=in0' (by omega)
  have c1:(decide ((0:Int)≤((l.length - 1:Nat):Int))&&decide (((l.length - 1:Nat):Int)<Int.ofNat (srtV l).length))=true:=by
   simp only [tT]; simp; omega
  simp only [Wy.fin_i,hw,c0,c1,cond_true,Int.toNat_natCast]
  have key2:∀ n a b c d e f g a' b' c' d' e' f' g',9<n→zlk n (Int.ofNat l.length) (1:Int) (srtV l) a b c d e f g a' b' c' d' e' f' g' []=(true,(a,b,c,d,e,f,g,a',b',c',d',e',f',g',bnds (srtV l) l.length 8)):=fun n a b c d e f g a' b' c' d' e' f' g' hn=>
   zE6 (srtV l) l.length (by omega) hl hsl a b c d e f g a' b' c' d' e' f' g' n 0 (by omega) (by omega)
  rw [Wy.fin_bn,key2 _ _ _ _ _ _ _ _ _ _ _ _ _ _ _ (by omega),cond_true,Wy.fin_k]
  have hd:Int.ofNat ((dedV (srtV l)).map fun x=>(keyV x,true)).length=(zAw (srtV l):Int):=by
   rw [List.length_map,zGg (by omega)]; rfl
  simp only [hd]
  rfl
end Go.Proofs.YtddkaehkimnklaaGreatDoor
/- Columns, rows that fit them, and the normal form of a relation with one row and without one. -/
set_option maxRecDepth 100000
namespace Go.Proofs.YtddkaehkimnklaaGreatDoor
open Go Go.Ab
def tyOK (c:Column):Bool:=decide (0≤c.Type_)&&decide (c.Type_≤2)
def znp (l:List Column):Bool:=decide (l.length≤16)&&l.all tyOK
def fitR (l:List Column) (row:List Value):Bool:=decide (l.length=row.length)&&allN (fun i=>zzc (l.getD i default).Type_ (row.getD i default)) l.length 0
theorem zIw (a b:Nat):decide (Int.ofNat a=Int.ofNat b)=decide (a=b):=by
 by_cases h:a=b
 ·rw [h]; simp
 ·rw [decide_eq_false h,decide_eq_false]; intro e; exact h (Int.ofNat.inj e)
theorem zKO:zbb ⟨default,0⟩=(true,false):=by kernel_rfl
theorem zKt:zbb ⟨default,1⟩=(true,false):=by kernel_rfl
theorem zKC:zbb ⟨default,2⟩=(true,false):=by kernel_rfl
theorem zKu (c:Column):zbb c=(true, !tyOK c):=by
 have hc:zbb c=zbb ⟨default,c.Type_⟩:=rfl
 rw [hc]
 unfold tyOK
 generalize c.Type_=t
 by_cases h0:t<0
 ·unfold zbb zgB zlo zl4
  rw [Wy.fin_bn,Wy.fin_i,decide_eq_true h0,decide_eq_false (show ¬ 0≤t by omega)]
  show (true,((ByteArray.mk #[]).toList==(ByteArray.mk #[]).toList))=_
  rw [ztC]; rfl
 ·by_cases h2:t>2
  ·unfold zbb zgB zlo zl4
   rw [Wy.fin_bn,Wy.fin_i,Wy.fin_i,decide_eq_false h0,decide_eq_true h2,decide_eq_false (show ¬ t≤2 by omega),Bool.and_false]
   show (true,((ByteArray.mk #[]).toList==(ByteArray.mk #[]).toList))=_
   rw [ztC]; rfl
  ·rw [decide_eq_true (show 0≤t by omega),decide_eq_true (show t≤2 by omega)]
   have:t=0∨t=1∨t=2:=by omega
   rcases this with rfl | rfl | rfl
   ·exact zKO
   ·exact zKt
   ·exact zKC
theorem zwV (l:List Column) (hl:l.length≤1000000):zgO l=(true,znp l):=by
 have hc:zbq l=(true, !l.all tyOK):=by
  unfold zbq zcQ
  have:zcf l=IG (fun (_:Unit) x=>zbb x) (l.length+(Int.ofNat l.length).toNat +Int.toNat (0:Int)+(1000:Nat)) () l:=rfl
  have e:(!l.all tyOK)=l.any fun c=> !tyOK c:=by simp [List.all_eq_not_any_not]
  rw [e]
  exact zBO (this.trans (zI4 _ _ _ _ _ (by omega) (fun x _=>zKu x) (by omega)))
 unfold zgO zj4 znp
 have el:decide (Int.ofNat l.length≤(16:Int))=decide (l.length≤16):=zoG _ 16
 rw [Wy.fin_i,Wy.fin_bn,hc,el]
 cases decide (l.length≤16) <;>cases l.all tyOK <;>rfl
def zips (l:List Column) (row:List Value) (k:Nat):List pair:=(List.range k).map fun i=>pair.mk (l.getD i default) (row.getD i default)
theorem zEm (l:List Column) (row:List Value) (k:Nat):zips l row (k+1)=zips l row k++[pair.mk (l.getD k default) (row.getD k default)]:=by
 unfold zips; rw [List.range_succ,List.map_append]; rfl
theorem zBM (l:List Column) (row:List Value) (k:Nat):(zips l row k).length=k:=by simp [zips]
theorem zFQ (l:List Column) (row:List Value) (he:l.length=row.length) (hl:l.length≤1000000):∀ (n i:Nat),row.length<i+n→i≤row.length→zrU n l row row.length i (zips l row i)=(true,zips l row row.length)
 | 0,i,h,h2=>by omega
 | n+1,i,h,h2=>by
  show (zrT l row row.length i (zips l row i)).ev (zM znm default n) (fun r=>(true,r)) (false,default)=_
  unfold zrT
  by_cases hi:i<row.length
  ·have hi':i<l.length:=by omega
   simp only [Wy.ev_i,Wy.ev_k,Wy.ev_h,Wy.ev_bn,Wy.ev_d,tT,hi,hi']
   rw [decide_eq_true (show ((zips l row i).length+[pair.mk (l.getD i default) (row.getD i default)].length)*56≤reach from zn9 (by rw [zBM]; simp; omega) (by omega)),cond_true,zbM (by omega), ← zEm]
   exact zFQ l row he hl n (i+1) (by omega) (by omega)
  ·have:i=row.length:=by omega
   subst this
   simp only [Wy.ev_i,Wy.ev_k,Wy.ev_h,Wy.ev_bn,Wy.ev_d,tT,Nat.lt_irrefl]
theorem zFL (l:List Column) (row:List Value) (p:pair→Bool):∀ k,(zips l row k).all p=allN (fun i=>p (pair.mk (l.getD i default) (row.getD i default))) k 0
 | 0=>rfl
 | k+1=>by
  rw [zEm,List.all_append,zFL l row p k,zEk,Nat.zero_add]
  simp
theorem zJO (l:List Column) (row:List Value) (hl:l.length≤1000000):zj9 l row=(true,fitR l row):=by
 unfold zj9 zry fitR
 rw [Wy.fin_i,beqd,zIw]
 by_cases he:l.length=row.length
 ·have hz:zn8 l row=(true,zips l row row.length):=by
   unfold zn8 zsQ
   have key:∀ n,row.length<n→zrU n l row (Int.ofNat row.length) 0 []=(true,zips l row row.length):=fun n hn=>zFQ l row he hl n 0 (by omega) (by omega)
   rw [Wy.fin_bn,key _ (by omega)]; rfl
  have hc:zbd (zips l row row.length)=(true, !(zips l row row.length).all fun p=>zzc p.c.Type_ p.v):=by
   generalize hq:zips l row row.length=q
   have hql:q.length≤1000000:=by rw [← hq,zBM]; omega
   unfold zbd zcd
   have:zbK q=IG (fun (_:Unit) x=>zhT x) (q.length+(Int.ofNat q.length).toNat +Int.toNat (0:Int)+(1000:Nat)) () q:=rfl
   have e:(!q.all fun p=>zzc p.c.Type_ p.v)=q.any fun p=> !zzc p.c.Type_ p.v:=by simp [List.all_eq_not_any_not]
   rw [e]
   exact zBO (this.trans (zI4 _ _ _ _ _ (by omega) (fun x _=>by
    show zhT x=_
    unfold zhT zon zzc
    simp only [Wy.fin_i,Wy.fin_k,Wy.fin_bn,zDN,cond_true,bne0]
    cases valV x.v <;>cases decide (x.v.Kind=x.c.Type_) <;>rfl) (by omega)))
  rw [decide_eq_true he,cond_true,Wy.fin_bn,hz,cond_true,Wy.fin_bn,hc,zFL,he]
  cases allN (fun i=>zzc (l.getD i default).Type_ (row.getD i default)) row.length 0 <;>rfl
 ·rw [decide_eq_false he]; rfl
theorem zFW:zmd []=(true,true):=by kernel_rfl
theorem zHf (v:List Value):zcq [⟨v,[]⟩]=(true,[]):=by kernel_rfl
theorem zHy:zcq []=(true,[]):=by kernel_rfl
theorem zFR:zY []=(true,[]):=by kernel_rfl
theorem zEb (cols:List Column) (n:Nat):zpI (n+1) (Int.ofNat ([]:List Row).length) 0 [] cols []=(true,(cols,[])):=rfl
theorem zCq (cols:List Column) (h:cols.length≤1000000):zck cols=(true,cols):=by
 unfold zck
 rw [decide_eq_true (zn9 (by omega) (by omega))]
theorem zH6 (v:List Value):zbO [⟨v,[]⟩]=(true,[⟨v,[]⟩]):=by
 unfold zbO
 rw [decide_eq_true (zn9 (by simp) (by omega))]
theorem zIi:zbO []=(true,[]):=by
 unfold zbO
 rw [decide_eq_true (zn9 (by simp) (by omega))]
theorem zIs (cols:List Column) (h:cols.length≤1000000):∃ r,zdS ⟨cols,[]⟩=(true,(r,if znp cols then 0 else 1)):=by
 unfold zdS zi2
 rw [Wy.fin_bn,zwV cols h,cond_true,Wy.fin_i]
 cases znp cols with
 | false=>exact ⟨_,rfl⟩
 | true=>
  have l4:∀ n,zlg (n+1) [] (Int.ofNat ([]:List Row).length) 0 ⟨cols,[]⟩=(true,.inr ⟨cols,[]⟩):=fun n=>rfl
  rw [Bool.not_true,cond_false,Wy.fin_bn,show ∀ a:Nat,a+1000=(a+999)+1 from fun _=>rfl,l4,cond_true]
  simp only [isL,getR,Wy.fin_i,cond_false]
  rw [Wy.fin_bn,zIi,cond_true,Wy.fin_bn,zHy,cond_true,Wy.fin_bn,zFR,cond_true,Wy.fin_bn,zCq cols h,cond_true,Wy.fin_bn,show ∀ a:Nat,a+1000=(a+999)+1 from fun _=>rfl,zEb]
  exact ⟨_,rfl⟩
theorem zIZ (cols:List Column) (v:List Value) (h:cols.length≤1000000):∃ r,zdS ⟨cols,[⟨v,[]⟩]⟩=(true,(r,if znp cols then (if fitR cols v then 0 else 7) else 1)):=by
 unfold zdS zi2
 rw [Wy.fin_bn,zwV cols h,cond_true,Wy.fin_i]
 cases znp cols with
 | false=>exact ⟨_,rfl⟩
 | true=>
  have l4:∀ n,zlg (n+2) [⟨v,[]⟩] (Int.ofNat [(⟨v,[]⟩:Row)].length) 0 ⟨cols,[⟨v,[]⟩]⟩=(true,bif fitR cols v then .inr ⟨cols,[⟨v,[]⟩]⟩ else .inl 7):=fun n=>by
   show (zld [⟨v,[]⟩] (Int.ofNat [(⟨v,[]⟩:Row)].length) 0 ⟨cols,[⟨v,[]⟩]⟩).ev (zM zgQ (.inl default) (n+1)) (fun r=>(true,r)) (false,.inl default)=_
   unfold zld
   show (Wy.bn (zj9 cols v) fun r5=>Wy.i (!r5) (.k (.inl (7:Int))) (.bn (zmd []) fun r4=>.i (!r4) (.k (.inl (1:Int))) (.h ((),(),[(⟨v,[]⟩:Row)],(Int.ofNat [(⟨v,[]⟩:Row)].length),(IntKind.i64.wrap (0+(1:Int))),()) (⟨cols,[⟨v,[]⟩]⟩,((),(),()),())))).ev (zM zgQ (.inl default) (n+1)) (fun r=>(true,r)) (false,.inl default)=_
   rw [Wy.ev_bn,zJO cols v h,cond_true,Wy.ev_i]
   cases fitR cols v with
   | false=>rfl
   | true=>rw [Bool.not_true,cond_false,Wy.ev_bn,zFW]; rfl
  rw [Bool.not_true,cond_false,Wy.fin_bn,show ∀ a:Nat,a+1000=(a+998)+2 from fun _=>rfl,l4,cond_true]
  cases fitR cols v with
  | false=>exact ⟨_,rfl⟩
  | true=>
   simp only [isL,getR,Wy.fin_i,cond_false,cond_true]
   rw [Wy.fin_bn,zH6,cond_true,Wy.fin_bn,zHf,cond_true,Wy.fin_bn,zFR,cond_true,Wy.fin_bn,zCq cols h,cond_true,Wy.fin_bn,show ∀ a:Nat,a+1000=(a+999)+1 from fun _=>rfl,zEb]
   exact ⟨_,rfl⟩
end Go.Proofs.YtddkaehkimnklaaGreatDoor
end
