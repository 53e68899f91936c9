/- Texts of this claim, joined (the program, its functions in plain words, and what they compute). -/
import Derived.Test.YtddkaehkimnklaaGreatDoorGC5
import Derived.Test.YtddkaehkimnklaaGreatDoorGC4
import Derived.Test.YtddkaehkimnklaaGreatDoorGC1
import Derived.Test.YtddkaehkimnklaaGreatDoorGA3
import Derived.Test.YtddkaehkimnklaaGreatDoorGB1
import Derived.Test.YtddkaehkimnklaaGreatDoorGC2
set_option autoImplicit false
set_option linter.unusedVariables false
set_option linter.unusedSectionVars false
set_option linter.unusedSimpArgs false
set_option maxRecDepth 1000000
set_option maxHeartbeats 0
/- The reference's estimates are what they are said to be. -/
noncomputable section
namespace Go.Proofs.YtddkaehkimnklaaGreatDoor
open Go Go.Ab
theorem zDE (l:List Value) (m:Int) (hl:l.length≤roomLen):∀ (n i:Nat),l.length<i+n→i≤l.length→∃ r,zto n l m i=(true,r)∧(r=.inl false∨(r=.inr (l,m)∧∀ x∈l.drop i,x.Text.size≤300))
 | 0,i,h,h2=>by omega
 | n+1,i,h,h2=>by
  show ∃ r,(zsZ l m i).ev (fun x y=>zto n x.1 x.2.1 x.2.2.1) (fun r=>(true,r)) (false,.inl default)=(true,r)∧_
  unfold zsZ
  by_cases hi:i<l.length
  ·have hw:i<4611686018427387904:=by
    have:roomLen<4611686018427387904:=by decide
    omega
   have hs:decide (((l.getD i default).Text.size:Int)>(300:Int))=decide ((l.getD i default).Text.size>300):=zDy _ 300
   simp only [Wy.ev_i,Wy.ev_k,Wy.ev_h,Wy.ev_bn,Wy.ev_d,tT,hi]
   rw [hs]
   by_cases h3:(l.getD i default).Text.size>300
   ·rw [decide_eq_true h3]
    exact ⟨_,rfl,.inl rfl⟩
   ·rw [decide_eq_false h3,cond_false,zev hw]
    obtain ⟨r,h4,h5⟩:=zDE l m hl n (i+1) (by omega) (by omega)
    refine ⟨r,h4, ?_⟩
    rcases h5 with h5 | ⟨h5,h6⟩
    ·exact .inl h5
    ·refine .inr ⟨h5,fun x hx=> ?_⟩
     rw [ztm hi] at hx
     rcases List.mem_cons.1 hx with rfl | hx
     ·omega
     ·exact h6 x hx
  ·simp only [Wy.ev_i,Wy.ev_k,Wy.ev_h,Wy.ev_bn,Wy.ev_d,tT,hi]
   exact ⟨_,rfl,.inr ⟨rfl,fun x hx=>by rw [zs2 hi] at hx; cases hx⟩⟩
theorem zIO (l:List Value) (m:Nat) (hl:l.length≤roomLen):∃ b,zm8 l m=(true,b)∧(b=true→l.length≤m∧∀ x∈l,x.Text.size≤300):=by
 unfold zm8 zun
 obtain ⟨r,h1,h2⟩:=zDE l m hl (l.length+(m:Int).toNat +Int.toNat (0:Int)+(1:Nat)) 0 (by omega) (by omega)
 rw [show ((0:Nat):Int)=(0:Int) from rfl] at h1
 rw [Wy.fin_bn,h1]
 rcases h2 with rfl | ⟨rfl,h2⟩
 ·exact ⟨false,rfl,fun h=>by cases h⟩
 ·refine ⟨decide (l.length≤m), ?_,fun h=>⟨of_decide_eq_true h,h2⟩⟩
  show (true,decide (Int.ofNat l.length≤(m:Int)))=_
  rw [show decide (Int.ofNat l.length≤(m:Int))=decide (l.length≤m) from zBm _ _]
def zmM (s:Stats):Prop:=s.Columns.length≤20∧∀ c∈s.Columns,c.Bounds.length≤20
theorem zDr (s:Stats) (hs:wf30 s):∀ (n i:Nat),s.Columns.length<i+n→i≤s.Columns.length→∃ r,zwa n i s=(true,r)∧(r=.inl false∨(r=.inr s∧∀ c∈s.Columns.drop i,c.Bounds.length≤20))
 | 0,i,h,h2=>by omega
 | n+1,i,h,h2=>by
  show ∃ r,(zvz i s).ev (fun x y=>zwa n x.2.1 y.1) (fun r=>(true,r)) (false,.inl default)=(true,r)∧_
  unfold zvz
  by_cases hi:i<s.Columns.length
  ·have hw:i<4611686018427387904:=by
    have:=hs.2.2.2
    have:roomLen<4611686018427387904:=by decide
    omega
   have hc:=hs.2.2.1 _ (zms hi)
   obtain ⟨b,hb,hb2⟩:=zIO (s.Columns.getD i default).Bounds 20 hc.2.2.2.2
   replace hb:zm8 (s.Columns.getD i default).Bounds (20:Int)=(true,b):=hb
   simp only [Wy.ev_i,Wy.ev_k,Wy.ev_h,Wy.ev_bn,Wy.ev_d,tT,hi,hb]
   cases b with
   | false=>exact ⟨_,rfl,.inl rfl⟩
   | true=>
    simp only [Bool.not_true,cond_false]
    generalize decide (IntKind.i64.wrap _>(600:Int))=q
    cases q with
    | true=>exact ⟨_,rfl,.inl rfl⟩
    | false=>
     rw [cond_false,zev hw]
     obtain ⟨r,h4,h5⟩:=zDr s hs n (i+1) (by omega) (by omega)
     refine ⟨r,h4, ?_⟩
     rcases h5 with h5 | ⟨h5,h6⟩
     ·exact .inl h5
     ·refine .inr ⟨h5,fun x hx=> ?_⟩
      rw [ztm hi] at hx
      rcases List.mem_cons.1 hx with rfl | hx
      ·exact (hb2 rfl).1
      ·exact h6 x hx
  ·simp only [Wy.ev_i,Wy.ev_k,Wy.ev_h,Wy.ev_bn,Wy.ev_d,tT,hi]
   exact ⟨_,rfl,.inr ⟨rfl,fun x hx=>by rw [zs2 hi] at hx; cases hx⟩⟩
theorem zFA (s:Stats) (hs:wf30 s):∃ b,zqu s=(true,b)∧(b=true→zmM s):=by
 unfold zqu zx0
 obtain ⟨r,h1,h2⟩:=zDr s hs (Int.toNat (0:Int)+s.Columns.length+(1:Nat)) 0 (by omega) (by omega)
 rw [show ((0:Nat):Int)=(0:Int) from rfl] at h1
 rw [Wy.fin_bn,h1]
 rcases h2 with rfl | ⟨rfl,h2⟩
 ·exact ⟨false,rfl,fun h=>by cases h⟩
 ·refine ⟨decide (s.Columns.length≤20), ?_,fun h=>⟨of_decide_eq_true h,h2⟩⟩
  show (true,decide (Int.ofNat s.Columns.length≤(20:Int)))=_
  rw [show decide (Int.ofNat s.Columns.length≤(20:Int))=decide (s.Columns.length≤20) from zBm _ 20]
theorem zzb (l:List Value) (hl:l.length≤1000000):∀ (n i:Nat),l.length<i+n→i≤l.length→zmw n l l i=(true,.inr (l,l))
 | 0,i,h,h2=>by omega
 | n+1,i,h,h2=>by
  show (zmv l l i).ev (fun x y=>zmw n x.1 x.2.1 x.2.2.1) (fun r=>(true,r)) (false,.inl default)=_
  unfold zmv
  by_cases hi:i<l.length
  ·have h0:(cmpV (l.getD i default) (l.getD i default) != 0)=false:=by rw [(zH8 _ _).2 rfl]; rfl
   simp only [Wy.ev_i,Wy.ev_k,Wy.ev_h,Wy.ev_bn,Wy.ev_d,tT,hi,ref01_Compare_eq',h0]
   rw [zev (by omega)]
   exact zzb l hl n (i+1) (by omega) (by omega)
  ·simp only [Wy.ev_i,Wy.ev_k,Wy.ev_h,Wy.ev_bn,Wy.ev_d,tT,hi]
theorem zIH (l:List Value) (hl:l.length≤1000000):zsb l l=(true,true):=by
 have h:=zzb l hl (l.length+l.length+Int.toNat (0:Int)+(1:Nat)) 0 (by omega) (by omega)
 rw [show ((0:Nat):Int)=(0:Int) from rfl] at h
 have hb:(Int.ofNat l.length==Int.ofNat l.length)=true:=by simp
 unfold zsb zvL zkY znd
 rw [Wy.fin_bn,Wy.fin_bn,h]
 simp only [Wy.fin_i,Wy.fin_k,isL,getR,hb,cond_true,cond_false]
 rfl
theorem zDK (c:ColumnStats) (h:c.Bounds.length≤1000000):zjT c c=(true,true):=by
 unfold zjT zn6
 simp only [veq]
 simp only [Wy.fin_i,Wy.fin_bn,Wy.fin_k,zIH _ h,beqd,decide_true,cond_true]
theorem zGB (s:Stats) (h:s.Columns.length≤1000000) (hc:∀ c∈s.Columns,c.Bounds.length≤1000000):zrR s s=(true,true):=by
 unfold zrR zvH
 have key:=zAW (W:=zp1) (z:=.inl default) s.Columns.length (fun i=>((),(),(i:Int),())) (fun _=>(s,s,())) (fun i=>true) (.inl false) (.inr ()) (fun i hi H K D=>by
    show (zmU i s s).ev H K D=_
    unfold zmU
    simp only [Wy.ev_i,Wy.ev_k,Wy.ev_h,Wy.ev_bn,Wy.ev_d,tT,hi,zDK _ (hc _ (zms hi)),zev (show i<4611686018427387904 by omega)]) (fun H K D=>by
    show (zmU s.Columns.length s s).ev H K D=_
    unfold zmU
    simp only [Wy.ev_i,Wy.ev_k,Wy.ev_h,Wy.ev_bn,Wy.ev_d,tT,Nat.lt_irrefl]) (Int.toNat (0:Int)+s.Columns.length+s.Columns.length+(1:Nat)) (by omega)
 replace key:zAa (Int.toNat (0:Int)+s.Columns.length+s.Columns.length+(1:Nat)) 0 s s=_:=key
 have ht:allN (fun _=>true) s.Columns.length 0=true:=zFE.2 fun _ _ _=>rfl
 rw [ht] at key
 simp only [Wy.fin_i,Wy.fin_bn,Wy.fin_k,key,bne0,decide_true,Bool.not_true,cond_false,cond_true]
 rfl
end Go.Proofs.YtddkaehkimnklaaGreatDoor
namespace Go.Proofs.YtddkaehkimnklaaGreatDoor
open Go Go.Ab
end Go.Proofs.YtddkaehkimnklaaGreatDoor
/- The reference's estimate of a condition. -/
namespace Go.Proofs.YtddkaehkimnklaaGreatDoor
open Go Go.Ab
section
variable (g:Stats→Scalar→Bool×Int) {s:Stats} (h:okS s=true) (e x y:Scalar)
include h
end
theorem zCo (l:List Value) (hl:l.length≤1000000):∀ (n i:Nat),i<l.length→i<n→zdb n l i=(true,bif allN (srtB l) (i+1) 0 then .inr () else .inl false)
 | 0,i,hi,hn=>by omega
 | n+1,i,hi,hn=>by
  show (zdc l i).ev (fun x y=>zdb n x.1 x.2.2.1) (fun r=>(true,r)) (false,.inl default)=_
  unfold zdc
  have hg:decide ((i:Int)>(0:Int))=decide (0<i):=zDy i 0
  cases i with
  | zero=>simp [Wy.ev_i,Wy.ev_k,allN,srtB]
  | succ i=>
   have hi':i<l.length:=by omega
   have hw:IntKind.i64.wrap (((i+1:Nat):Int) - 1)=(i:Int):=by rw [zEQ (by omega) (by omega)]; rfl
   have hp:decide (0<i+1)=true:=by simp
   simp only [Wy.ev_i,Wy.ev_k,Wy.ev_h,Wy.ev_bn,Wy.ev_d,hg,hp,hw,tT,hi,hi',value_Compare_eq']
   rw [zCo l hl n i hi' (by omega),zED _ (i+1),Nat.zero_add]
   have:srtB l (i+1)= !decide (cmpV (l.getD (i+1) default) (l.getD i default)<0):=by
    unfold srtB
    rw [show i+1 - 1=i from rfl,zEL (l.getD (i+1) default) (l.getD i default)]
    generalize cmpV (l.getD (i+1) default) (l.getD i default)=z
    by_cases hz:z<0
    ·have:¬ (-z≤0):=by omega
     simp [hz,this]
    ·have:(-z≤0):=by omega
     simp [hz,this]
   rw [this]
   cases decide (cmpV (l.getD (i+1) default) (l.getD i default)<0) <;>simp
theorem zID (l:List Value) (hl:l.length≤1000000):zbK l=(true,allN (srtB l) l.length 0):=by
 unfold zbK zdD
 match l,hl with
 | [],_=>rfl
 | x::r,hl=>
  have hw:IntKind.i64.wrap (Int.ofNat (x::r).length - 1)=(r.length:Int):=by
   rw [List.length_cons] at hl
   rw [show Int.ofNat (x::r).length=(((x::r).length:Nat):Int) from rfl,zEQ (by simp) (by simp; omega)]; rfl
  rw [Wy.fin_bn,hw,zCo (x::r) hl _ r.length (by simp) (by simp; omega)]
  cases allN (srtB (x::r)) (r.length+1) 0 with
  | true=>simp [Wy.fin_i,Wy.fin_k,isL]
  | false=>simp [Wy.fin_i,Wy.fin_k,isL,getL]
theorem zKw (l:List Value) (c:ColumnStats) (h:l.length≤1000000):zbv l c=(true, !l.all (zoq c.Min.Kind)):=by
 unfold zbv zcZ
 have:zcw l c=IG (fun (g:ColumnStats×Unit) x=>zda x g.1) (l.length+c.Bounds.length+(Int.ofNat l.length).toNat +Int.toNat (0:Int)+(1000:Nat)) (c,()) l:=rfl
 have e:(!l.all (zoq c.Min.Kind))=l.any fun w=> !zoq c.Min.Kind w:=by simp [List.all_eq_not_any_not]
 rw [e]
 exact zCv (this.trans (zJg _ _ _ _ _ (by omega) (fun x _=>by
  show zda x c=_
  unfold zda ziz zoq
  simp only [Wy.fin_i,Wy.fin_k,Wy.fin_bn,ztj,cond_true,bne0]
  cases valV x <;>cases decide (x.Kind=c.Min.Kind) <;>rfl) (by omega)))
theorem zvt (c:ColumnStats) (rows:Int):zgA c rows=(true,okC c rows):=by
 unfold zgA zjW okC
 by_cases h0:rows=0
 ·subst h0
  simp only [zJj]
  simp only [Wy.fin_i,Wy.fin_k,beqd,if_pos,decide_true,cond_true]
  have e:decide (Int.ofNat c.Bounds.length=(0:Int))=decide (c.Bounds.length=0):=by
   by_cases h:c.Bounds.length=0
   ·rw [h]; rfl
   ·rw [decide_eq_false h,decide_eq_false]; intro hc; exact h (Int.ofNat.inj hc)
  rw [e]
  cases decide (c.Distinct=0) <;>cases decide (c.Min=zV) <;>cases decide (c.Max=zV) <;>rfl
 ·have e8:(Int.ofNat c.Bounds.length != (8:Int))= !decide (c.Bounds.length=8):=by
   rw [bne0]
   congr 1
   by_cases h:c.Bounds.length=8
   ·rw [h]; rfl
   ·rw [decide_eq_false h,decide_eq_false]; intro hc; exact h (Int.ofNat.inj hc)
  have er:(rows==(0:Int))=false:=by rw [beqd,decide_eq_false h0]
  have z7:Int.toNat (7:Int)=7:=rfl
  have z0:Int.toNat (0:Int)=0:=rfl
  have g1:decide (c.Distinct≥(1:Int))=decide (1≤c.Distinct):=rfl
  have gl:decide (cmpV (c.Bounds.getD 0 default) c.Min<0)= !decide (cmpV c.Min (c.Bounds.getD 0 default)≤0):=by
   rw [zEL c.Min (c.Bounds.getD 0 default)]
   generalize cmpV c.Min (c.Bounds.getD 0 default)=z
   by_cases h:z≤0
   ·have:¬ (-z<0):=by omega
    simp [h,this]
   ·have: -z<0:=by omega
    rw [decide_eq_true this,decide_eq_false h]; rfl
  simp only [veq]
  simp only [Wy.fin_i,Wy.fin_bn,Wy.fin_k,er,if_neg h0,cond_false,cond_true,ztj,value_Compare_eq',g1,beqd c.Min.Kind,e8,z7,z0,gl]
  by_cases h8:c.Bounds.length=8
  ·have e7:(decide ((0:Int)≤(7:Int))&&decide ((7:Int)<Int.ofNat c.Bounds.length))=true:=by rw [h8]; rfl
   have e0:(decide ((0:Int)≤(0:Int))&&decide ((0:Int)<Int.ofNat c.Bounds.length))=true:=by rw [h8]; rfl
   rw [e7,e0,zID _ (by omega),zKw _ _ (by omega),decide_eq_true h8]
   cases decide (1≤c.Distinct) <;>cases decide (c.Distinct≤rows) <;>cases valV c.Min <;>cases valV c.Max <;>cases decide (c.Min.Kind=c.Max.Kind) <;>cases decide (cmpV c.Min c.Max≤0) <;>try rfl
   generalize allN (srtB c.Bounds) c.Bounds.length 0=q1
   generalize c.Bounds.all (zoq c.Min.Kind)=q2
   cases q1 <;>cases q2 <;>cases decide (c.Bounds.getD 7 default=c.Max) <;>cases decide (cmpV c.Min (c.Bounds.getD 0 default)≤0) <;>rfl
  ·rw [decide_eq_false h8]
   cases decide (1≤c.Distinct) <;>cases decide (c.Distinct≤rows) <;>cases valV c.Min <;>cases valV c.Max <;>cases decide (c.Min.Kind=c.Max.Kind) <;>cases decide (cmpV c.Min c.Max≤0) <;>rfl
theorem zKx (l:List ColumnStats) (s:Stats) (h:l.length≤1000000):z6 l s=(true, !l.all fun c=>okC c s.Rows):=by
 unfold z6 zbV
 have:zbs l s=IG (fun (g:Stats×Unit) x=>zgt x g.1) (l.length+s.Columns.length+(Int.ofNat l.length).toNat +Int.toNat (0:Int)+(1000:Nat)) (s,()) l:=rfl
 have e:(!l.all fun c=>okC c s.Rows)=l.any fun c=> !okC c s.Rows:=by simp [List.all_eq_not_any_not]
 rw [e]
 exact zCv (this.trans (zJg _ _ _ _ _ (by omega) (fun x _=>by
  show zgt x s=_
  unfold zgt zls
  rw [Wy.fin_bn,zvt]
  rfl) (by omega)))
theorem zss (s:Stats):zgZ s=(true,okS s):=by
 unfold zgZ zoc okS
 have el:decide (Int.ofNat s.Columns.length≤(16:Int))=decide (s.Columns.length≤16):=zBm _ 16
 have e0:decide (s.Rows≥(0:Int))=decide (0≤s.Rows):=rfl
 simp only [Wy.fin_i,Wy.fin_bn,Wy.fin_k,e0,el]
 by_cases hl:s.Columns.length≤16
 ·rw [zKx _ _ (by omega),decide_eq_true hl]
  cases decide (0≤s.Rows) <;>cases decide (s.Rows≤1000000) <;>try rfl
  cases s.Columns.all (fun c=>okC c s.Rows) <;>rfl
 ·rw [decide_eq_false hl]
  cases decide (0≤s.Rows) <;>cases decide (s.Rows≤1000000) <;>rfl
def txV (v:Value):List UInt8:=if v.Kind=0 then ziB v.Int else if v.Kind=1 then 39::(v.Text.data.toList.flatMap esc++[39]) else if v.Int=1 then [84,82,85,69] else [70,65,76,83,69]
theorem zBt {v:Value} (h:valV v=true):v.Text.size≤255:=by
 simp only [valV,Bool.or_eq_true,Bool.and_eq_true,beq_iff_eq,decide_eq_true_eq] at h
 omega
theorem zIt {v:Value} (h:valV v=true):v.Kind=0∨v.Kind=1∨v.Kind=2:=by
 simp only [valV,Bool.or_eq_true,Bool.and_eq_true,beq_iff_eq,decide_eq_true_eq] at h
 omega
theorem zvx {v:Value} (h:valV v=true):(txV v).length≤512:=by
 have ht:=zBt h
 unfold txV
 have h1:=zkg v.Int
 have h2:=zBP v.Text.data.toList
 have h3:v.Text.data.toList.length=v.Text.size:=by rw [Array.length_toList]; rfl
 split
 ·omega
 ·split
  ·simp only [List.length_cons,List.length_append,List.length_nil]; omega
  ·split <;>simp
def rng (n:Int):Prop:= -9223372036854775808≤n∧n≤9223372036854775807
theorem ztM {n:Int} (h:wf3 n):rng n:=by
 have h:(Lit.int .i64 n).wf=true:=h
 have:IntKind.i64.min≤n∧n≤IntKind.i64.max:=by simpa [Lit.wf] using h
 exact ⟨this.1,this.2⟩
theorem zz5 {n:Int} (h:rng n):strconv_Itoa n=(true,bs (ziB n)):=by
 unfold strconv_Itoa zzl zxB
 rw [decide_eq_true h.1,decide_eq_true h.2]; rfl
theorem zJx {n:Int} (h:rng n):ziZ n 10=(true,bs (ziB n)):=by
 unfold ziZ zmB zxB
 rw [decide_eq_true h.1,decide_eq_true h.2]; rfl
theorem okN (n m:Nat) (h:n+m≤9223372036854775807):decide (n+m≤9223372036854775807)=true:=decide_eq_true h
theorem zCz {v:Value} (h:valV v=true) (hr:rng v.Int):zjJ v=(true,bs (txV v)):=by
 unfold zjJ zs5 txV strings_ReplaceAll
 have ht:=zBt h
 rw [show ByteArray.mk #[(39:UInt8)]=bs [39] from rfl,show ByteArray.mk #[(39:UInt8),(39:UInt8)]=bs [39,39] from rfl]
 simp only [Wy.fin_bn,Wy.fin_i,Wy.fin_k,ztj,h,zJx hr,zD6 _ ht,cond_true,cond_false,Bool.not_true,zjR,zc9,List.length_append,List.length_cons,List.length_nil]
 have h2:=zBP v.Text.data.toList
 have h3:v.Text.data.toList.length=v.Text.size:=by rw [Array.length_toList]; rfl
 rw [okN _ _ (by omega),okN _ _ (by omega)]
 by_cases k0:v.Kind=0
 ·simp [k0]
 by_cases k1:v.Kind=1
 ·simp [k1]
 simp only [beqd,k0,k1,decide_false,cond_false,if_false]
 by_cases i1:v.Int=1
 ·simp only [i1,decide_true,cond_true,if_true]; rfl
 ·simp only [i1,decide_false,cond_false,if_false]; rfl
theorem zHO {z:Int} (h0:0≤z) (h1:z<18446744073709551616):IntKind.u64.wrap z=z:=by
 have e1:(2:Int) ^ 64=18446744073709551616:=rfl
 simp only [IntKind.wrap,IntKind.bits,IntKind.signed,Bool.false_and,e1]
 simp only [Bool.false_eq_true,if_false]
 omega
theorem zJn {z:Int} (h0: -18446744073709551616≤z) (h1:z<0):IntKind.u64.wrap z=z+18446744073709551616:=by
 have e1:(2:Int) ^ 64=18446744073709551616:=rfl
 simp only [IntKind.wrap,IntKind.bits,IntKind.signed,Bool.false_and,e1]
 simp only [Bool.false_eq_true,if_false]
 omega
theorem dig1 {n:Nat} (h:n<10):List.foldl (fun r n=>r.push (UInt8.ofNat n.toNat)) ByteArray.empty [IntKind.u8.wrap (IntKind.u64.wrap ((48:Int)+(n:Int)))]=bs [UInt8.ofNat (48+n)]:=by
 match n,h with
 | 0,_ | 1,_ | 2,_ | 3,_ | 4,_ | 5,_ | 6,_ | 7,_ | 8,_ | 9,_=>rfl
theorem zCq:∀ (k m n:Nat),n<10 ^ (k+1)→n≤9223372036854775808→zjG (k+1+m) (n:Int)=(true,bs (Lib.decDigits n))
 | k,m,n,hn,hm=>by
  rw [show k+1+m=(k+m)+1 by omega,zBY]
  unfold zoz zp8
  rw [Wy.fin_i]
  by_cases h:n<10
  ·rw [decide_eq_true (show (n:Int)<10 by omega),Lib.decDigits,dif_pos h,cond_true,Wy.fin_k,dig1 h]
  ·rw [decide_eq_false (show ¬ (n:Int)<10 by omega),cond_false]
   cases k with
   | zero=>simp at hn; omega
   | succ k=>
    have e1:IntKind.u64.wrap ((n:Int).tdiv (10:Int))=((n / 10:Nat):Int):=by
     rw [show (n:Int).tdiv (10:Int)=((n / 10:Nat):Int) from rfl,zHO (by omega) (by omega)]
    have e2:(n:Int).tmod (10:Int)=((n % 10:Nat):Int):=rfl
    have hd:n / 10<10 ^ (k+1):=by rw [Nat.pow_succ] at hn; omega
    rw [Wy.fin_bn,e1,e2,show k+1+m=k+1+m from rfl,zCq k m (n / 10) hd (by omega),cond_true,dig1 (show n % 10<10 by omega)]
    have l1:(Lib.decDigits (n / 10)).length≤20:=by
     have:=zBW 20 (n / 10) (by omega)
     rcases this with h' | h'
     ·rw [← h']; exact zwm _ _
     ·omega
    have l3:Lib.decDigits n=Lib.decDigits (n / 10)++[UInt8.ofNat (48+n % 10)]:=by rw [Lib.decDigits,dif_neg h]
    rw [Wy.fin_i,l3,zc9,zc9,okN _ _ (by rw [List.length_singleton]; omega),cond_true,Wy.fin_k,zjR]
theorem zxs {n:Nat} (h:n≤9223372036854775808):zrF (n:Int)=(true,bs (decF 20 n)):=by
 show zjG 1000 n=_
 rw [show (1000:Nat)=19+1+980 from rfl,zCq 19 980 n (by omega) h,(zBW 20 n (by omega)).resolve_right (by omega)]
theorem zrU {n:Int} (h:rng n):zgK n=(true,bs (ziB n)):=by
 unfold zgK zsf ziB
 obtain ⟨h1,h2⟩:=h
 rw [Wy.fin_i]
 by_cases hn:n<0
 ·have e:IntKind.u64.wrap ((0:Int) - IntKind.u64.wrap n)=((n.natAbs:Nat):Int):=by
   rw [zJn (z:=n) (by omega) hn]
   by_cases hz:(0:Int) - (n+18446744073709551616)<0
   ·rw [zJn (by omega) hz]; omega
   ·rw [zHO (by omega) (by omega)]; omega
  have hl:=zwm 20 n.natAbs
  rw [decide_eq_true hn,cond_true,Wy.fin_bn,e,zxs (by omega),cond_true,Wy.fin_i,show ByteArray.mk #[(45:UInt8)]=bs [45] from rfl,zc9,zc9,okN _ _ (by rw [List.length_singleton]; omega),cond_true,Wy.fin_k,zjR]
  rfl
 ·have e:IntKind.u64.wrap n=((n.toNat:Nat):Int):=by rw [zHO (by omega) (by omega)]; omega
  rw [decide_eq_false hn,cond_false,Wy.fin_bn,e,zxs (by omega)]
  rfl
theorem zHJ (s:ByteArray) {i:Nat} (h:i<s.size):s.extract i (i+1)=bs [s.data.toList.getD i 0]:=by
 have hl:i<s.data.toList.length:=by rw [← Lib.size_eq]; exact h
 refine zxv ?_
 rw [zoB,ByteArray.data_extract,Array.toList_extract,List.extract_eq_take_drop]
 rw [List.drop_eq_getElem_cons hl,show i+1 - i=1 by omega,List.take_succ_cons,List.take_zero,List.getD_eq_getElem?_getD,List.getElem?_eq_getElem hl]
 rfl
theorem zIB (s:ByteArray) {i:Nat} (h:i<s.size):zyE s (i:Int)=((s.data.toList.getD i 0).toNat:Int):=by
 have hl:i<s.data.toList.length:=by rw [← Lib.size_eq]; exact h
 unfold zyE
 rw [Int.toNat_natCast,dif_pos h,List.getD_eq_getElem?_getD,List.getElem?_eq_getElem hl]
 rfl
theorem zCP (v:Value) (hs:v.Text.size≤255):∀ (n i:Nat) (o:List UInt8),v.Text.size<i+n→i≤v.Text.size→o.length≤1+2*i→zp7 n (bs o) i v=(true,bs (o++(v.Text.data.toList.drop i).flatMap esc))
 | 0,i,o,h,h2,_=>by omega
 | n+1,i,o,h,h2,h3=>by
  have hsz:v.Text.data.toList.length=v.Text.size:=by rw [Array.length_toList]; rfl
  show (zqd (bs o) i v).ev (zP zmu default n) (fun r=>(true,r)) (false,default)=_
  unfold zqd
  by_cases hi:i<v.Text.size
  ·have hw:IntKind.i64.wrap ((i:Int)+1)=((i+1:Nat):Int):=zev (by omega)
   have c1:decide ((i:Int)<Int.ofNat v.Text.size)=true:=decide_eq_true (by show (i:Int)<(v.Text.size:Int); omega)
   have c2:(decide ((0:Int)≤(i:Int))&&decide ((i:Int)≤((i+1:Nat):Int))&&decide (((i+1:Nat):Int)≤Int.ofNat v.Text.size))=true:=by
    rw [decide_eq_true (show (0:Int)≤(i:Int) by omega),decide_eq_true (show (i:Int)≤((i+1:Nat):Int) by omega),decide_eq_true (show ((i+1:Nat):Int)≤Int.ofNat v.Text.size by show ((i+1:Nat):Int)≤(v.Text.size:Int); omega)]; rfl
   have c3:(decide ((0:Int)≤(i:Int))&&decide ((i:Int)<Int.ofNat v.Text.size))=true:=by rw [c1,decide_eq_true (by omega)]; rfl
   rw [Wy.ev_i,Wy.ev_i,Wy.ev_i,Wy.ev_i,Wy.ev_i,hw,c3,c1,c2]
   simp only [cond_true,Int.toNat_natCast,zHJ v.Text hi,zIB v.Text hi,zjR,zc9]
   rw [ztm (l:=v.Text.data.toList) (by omega)]
   show _=(true,bs (o++((v.Text.data.toList.getD i 0)::v.Text.data.toList.drop (i+1)).flatMap esc))
   generalize v.Text.data.toList.getD i 0=c
   rw [okN _ _ (by rw [List.length_singleton]; omega),cond_true,List.flatMap_cons]
   by_cases hc:c=39
   ·subst hc
    have e39:(((39:UInt8).toNat:Int)==(39:Int))=true:=rfl
    rw [e39,cond_true,show ByteArray.mk #[(39:UInt8)]=bs [39] from rfl,Wy.ev_i]
    simp only [zjR,zc9]
    rw [okN _ _ (by simp only [List.length_append,List.length_singleton]; omega),cond_true,Wy.ev_h]
    have ih:=zCP v hs n (i+1) (o++[39]++[39]) (by omega) (by omega) (by simp only [List.length_append,List.length_singleton]; omega)
    refine Eq.trans ih ?_
    rw [show esc 39=[39,39] from rfl]
    simp
   ·have hne:((c.toNat:Int)==(39:Int))=false:=by
     rw [beqd,decide_eq_false]
     intro e
     exact hc (UInt8.toNat_inj.1 (by show c.toNat=39; omega))
    rw [hne,cond_false,Wy.ev_h]
    have ih:=zCP v hs n (i+1) (o++[c]) (by omega) (by omega) (by simp only [List.length_append,List.length_singleton]; omega)
    refine Eq.trans ih ?_
    rw [show esc c=[c] by unfold esc; rw [if_neg hc]]
    simp
  ·have c1:decide ((i:Int)<Int.ofNat v.Text.size)=false:=decide_eq_false (by show ¬ (i:Int)<(v.Text.size:Int); omega)
   rw [Wy.ev_i,c1,cond_false,Wy.ev_k,zs2 (l:=v.Text.data.toList) (by omega)]
   simp
theorem zvs {v:Value} (h:valV v=true) (hr:rng v.Int):ziv v=(true,bs (txV v)):=by
 have ht:=zBt h
 have hk:=zIt h
 have h2:=zBP v.Text.data.toList
 have h3:v.Text.data.toList.length=v.Text.size:=by rw [Array.length_toList]; rfl
 unfold ziv zs8 txV
 rw [Wy.fin_bn,zth,h,cond_true,Wy.fin_i,Bool.not_true,cond_false,Wy.fin_i,beqd]
 by_cases k0:v.Kind=0
 ·rw [decide_eq_true k0,if_pos k0,cond_true,Wy.fin_bn,zrU hr]; rfl
 ·rw [decide_eq_false k0,if_neg k0,cond_false,Wy.fin_i,beqd]
  by_cases k2:v.Kind=2
  ·rw [decide_eq_true k2,cond_true,Wy.fin_i,beqd,if_neg (show ¬ v.Kind=1 by omega)]
   by_cases i1:v.Int=1
   ·rw [decide_eq_true i1,if_pos i1]; rfl
   ·rw [decide_eq_false i1,if_neg i1]; rfl
  ·have k1:v.Kind=1:=by omega
   rw [decide_eq_false k2,if_pos k1,cond_false,Wy.fin_bn,show ByteArray.mk #[(39:UInt8)]=bs [39] from rfl]
   have key:∀ n,v.Text.size<n→zp7 n (bs [39]) (0:Int) v=(true,bs ([39]++v.Text.data.toList.flatMap esc)):=fun n hn=>by
    have:=zCP v ht n 0 [39] (by omega) (by omega) (by simp)
    rw [List.drop_zero] at this
    exact this
   rw [key _ (by rw [zc9,List.length_singleton]; omega),cond_true,Wy.fin_i,zc9,zc9,okN _ _ (by simp only [List.length_append,List.length_singleton]; omega),cond_true,Wy.fin_k,zjR]
   rfl
def lits (l:List Value):List UInt8:=zp2 (l.map txV) [44,32]
theorem zHW (l:List Value) (x:Value) (h:l≠[]):lits (l++[x])=lits l++([44,32]++txV x):=by
 unfold lits
 induction l with
 | nil=>exact absurd rfl h
 | cons y r ih=>
  cases r with
  | nil=>simp [zp2]
  | cons z r=>
   have:=ih (by simp)
   simp only [List.map_cons,List.cons_append,zp2] at this ⊢
   rw [this]
   simp [List.append_assoc]
theorem zzB (l:List Value) (h:∀ v∈l,valV v=true):(lits l).length≤l.length*514:=by
 have:=zEp (B:=514) (l.map txV) [44,32] (fun x hx=>by
  obtain ⟨v,hv,rfl⟩:=List.mem_map.1 hx
  have:=zvx (h v hv)
  simp; omega)
 rwa [List.length_map] at this
theorem zCQ (l:List Value) (hl:l.length≤1000) (hv:∀ v∈l,valV v=true∧rng v.Int):∀ (n i:Nat),l.length<i+n→i≤l.length→zuL n l (bs (lits (l.take i))) i=(true,bs (lits l))
 | 0,i,h,h2=>by omega
 | n+1,i,h,h2=>by
  show (zo7 l (bs (lits (l.take i))) i).ev (zP zkX default n) (fun r=>(true,r)) (false,default)=_
  unfold zo7
  by_cases hi:i<l.length
  ·have hx:=hv _ (zms hi)
   have hll:=zzB (l.take i) fun v h=>(hv v (List.mem_of_mem_take h)).1
   have htl:(l.take i).length=i:=by rw [List.length_take]; omega
   rw [htl] at hll
   have hxl:=zvx hx.1
   have c0:decide ((i:Int)>(0:Int))=decide (0<i):=zDy i 0
   have c1:decide ((i:Int)<Int.ofNat l.length)=true:=decide_eq_true (by show (i:Int)<(l.length:Int); omega)
   have c2:(decide ((0:Int)≤(i:Int))&&true)=true:=by rw [decide_eq_true (by omega)]; rfl
   have hw:IntKind.i64.wrap ((i:Int)+1)=((i+1:Nat):Int):=zev (by omega)
   rw [Wy.ev_i,Wy.ev_i,c1,c0,cond_true]
   by_cases h0:i=0
   ·subst h0
    rw [decide_eq_false (by omega),cond_false,Wy.ev_i,c2,cond_true,Wy.ev_bn,Int.toNat_natCast,zvs hx.1 hx.2,cond_true,Wy.ev_i,zc9,zc9,okN _ _ (by omega),cond_true,Wy.ev_h,hw,zjR]
    have ih:=zCQ l hl hv n (0+1) (by omega) (by omega)
    rw [ztp hi] at ih
    exact ih
   ·rw [decide_eq_true (by omega),cond_true,Wy.ev_i,show ByteArray.mk #[(44:UInt8),(32:UInt8)]=bs [44,32] from rfl,zc9,zc9,okN _ _ (by simp only [List.length_append,List.length_cons,List.length_nil]; omega),cond_true,Wy.ev_i,c2,cond_true,Wy.ev_bn,Int.toNat_natCast,zvs hx.1 hx.2,cond_true,Wy.ev_i,zjR,zc9,zc9,okN _ _ (by simp only [List.length_append,List.length_cons,List.length_nil]; omega),cond_true,Wy.ev_h,hw,zjR]
    have ih:=zCQ l hl hv n (i+1) (by omega) (by omega)
    rw [ztp hi,zHW _ _ (fun e=>by rw [e] at htl; simp at htl; omega), ← List.append_assoc] at ih
    exact ih
  ·have c1:decide ((i:Int)<Int.ofNat l.length)=false:=decide_eq_false (by show ¬ (i:Int)<(l.length:Int); omega)
   rw [Wy.ev_i,c1,cond_false,Wy.ev_k,List.take_of_length_le (by omega)]
theorem zGr (l:List Value) (hl:l.length≤1000) (hv:∀ v∈l,valV v=true∧rng v.Int):zld l=(true,bs (lits l)):=by
 unfold zld zqb
 have:=zCQ l hl hv (l.length+(ByteArray.mk #[]).size+Int.toNat (0:Int)+(1:Nat)) 0 (by omega) (by omega)
 rw [Wy.fin_bn,show ByteArray.mk #[]=bs (lits (l.take 0)) from rfl]
 rw [show ((0:Nat):Int)=(0:Int) from rfl] at this
 rw [show (bs (lits (l.take 0))).size=(ByteArray.mk #[]).size from rfl,this]
 rfl
def fndP (a b:Stats) (table:Int):Stats×Bool:=if a.Table=table then (a,true) else if b.Table=table then (b,true) else (⟨0,0,[]⟩,false)
theorem zI3 {α:Type} [Inhabited α] (l:List α) (i:Nat) (h:i<l.length):l.set i (l.getD i default)=l:=by
 refine List.ext_getElem (by simp) fun j h1 h2=> ?_
 rw [List.getElem_set]
 split
 ·rename_i e; subst e
  rw [List.getD_eq_getElem?_getD,List.getElem?_eq_getElem h]; rfl
 ·rfl
theorem zFM (l:List ColumnStats) (hl:l.length≤1000000) (hb:∀ c∈l,c.Bounds.length≤1000000) (a b c d:Int):∀ (n i:Nat),l.length<i+n→i≤l.length→ziu n l.length i a b c d l=(true,(a,b,c,d,l))
 | 0,i,h,h2=>by omega
 | n+1,i,h,h2=>by
  show (zn8 l.length i a b c d l).ev (zP zio default n) (fun r=>(true,r)) (false,default)=_
  unfold zn8
  by_cases hi:i<l.length
  ·have hc:zbS (l.getD i default).Bounds=(true,(l.getD i default).Bounds):=by
    unfold zbS
    have:=hb _ (zms hi)
    rw [decide_eq_true (zvY (by omega) (by omega))]
   simp only [Wy.ev_i,Wy.ev_k,Wy.ev_h,Wy.ev_bn,Wy.ev_d,tT,hi,hc]
   rw [zev (by omega)]
   show zP zio default n ((),(),(l.length:Int),((i+1:Nat):Int),()) ((a,b,(),()),(c,d,(),()),l.set i (l.getD i default),())=_
   rw [zI3 l i hi]
   exact zFM l hl hb a b c d n (i+1) (by omega) (by omega)
  ·simp only [Wy.ev_i,Wy.ev_k,Wy.ev_h,Wy.ev_bn,Wy.ev_d,tT,hi]
theorem zFm (s:Stats) (hs:zmM s):∀ N,s.Columns.length<N→ziu N (Int.ofNat s.Columns.length) (0:Int) (0:Int) (0:Int) s.Table s.Rows s.Columns=(true,(0,0,s.Table,s.Rows,s.Columns)):=fun N hN=>
 zFM s.Columns (by have:=hs.1; omega) (fun c hc=>by have:=hs.2 c hc; omega) 0 0 s.Table s.Rows N 0 (by omega) (by omega)
theorem zJY (a b:Stats) (table:Int) (ha:zmM a) (hb:zmM b):zko [a,b] table=(true,fndP a b table):=by
 have hix:zbO [a,b] table=(true,ixf (fun s:Stats=>decide (s.Table=table)) [a,b] 0):=by
  have:zbO [a,b] table=IH (fun (g:(Int×Unit)×Unit) x=>zg9 x g.1.1) ([a,b].length+table.toNat +(Int.ofNat [a,b].length).toNat +Int.toNat (0:Int)+(1000:Nat)) ((table,()),()) [a,b]:=rfl
  exact this.trans (zKG _ _ _ _ _ (by simp) (fun x _=>by
   show zg9 x table=_
   unfold zg9 zmy
   rw [Wy.fin_k,beqd]) (by omega))
 have hcl:∀ s:Stats,zmM s→zX s.Columns=(true,s.Columns):=fun s hs=>by
  unfold zX
  have:=hs.1
  rw [decide_eq_true (zvY (by omega) (by omega))]
 unfold zko zpc fndP
 rw [Wy.fin_bn,hix,cond_true]
 by_cases h1:a.Table=table
 ·have e:ixf (fun s:Stats=>decide (s.Table=table)) [a,b] 0=0:=by simp [ixf,h1]
  rw [e,if_pos h1,Wy.fin_i,show decide ((0:Int)<0)=false from rfl,cond_false,Wy.fin_i]
  show (bif true then (Wy.bn (zX a.Columns) fun r3=>.bn (ziu ((Int.ofNat r3.length).toNat +Int.toNat (0:Int)+Int.toNat (0:Int)+Int.toNat (0:Int)+a.Table.toNat +a.Rows.toNat +r3.length+(1000:Nat)) (Int.ofNat r3.length) (0:Int) (0:Int) (0:Int) a.Table a.Rows r3) fun r2=>.k ((⟨r2.snd.snd.fst,r2.snd.snd.snd.fst,r2.snd.snd.snd.snd⟩:Stats),true):Wy0 (Stats×Bool)).fin default else _)=_
  rw [cond_true,Wy.fin_bn,hcl a ha,cond_true]
  dsimp only
  rw [Wy.fin_bn,zFm a ha _ (by omega)]
  rfl
 ·rw [if_neg h1]
  by_cases h2:b.Table=table
  ·have e:ixf (fun s:Stats=>decide (s.Table=table)) [a,b] 0=1:=by simp [ixf,h1,h2]
   rw [e,if_pos h2,Wy.fin_i,show decide ((1:Int)<0)=false from rfl,cond_false,Wy.fin_i]
   show (bif true then (Wy.bn (zX b.Columns) fun r3=>.bn (ziu ((Int.ofNat r3.length).toNat +Int.toNat (0:Int)+Int.toNat (0:Int)+Int.toNat (0:Int)+b.Table.toNat +b.Rows.toNat +r3.length+(1000:Nat)) (Int.ofNat r3.length) (0:Int) (0:Int) (0:Int) b.Table b.Rows r3) fun r2=>.k ((⟨r2.snd.snd.fst,r2.snd.snd.snd.fst,r2.snd.snd.snd.snd⟩:Stats),true):Wy0 (Stats×Bool)).fin default else _)=_
   rw [cond_true,Wy.fin_bn,hcl b hb,cond_true]
   dsimp only
   rw [Wy.fin_bn,zFm b hb _ (by omega)]
   rfl
  ·have e:ixf (fun s:Stats=>decide (s.Table=table)) [a,b] 0= -1:=by simp [ixf,h1,h2]
   rw [e,if_neg h2]; rfl
theorem zEZ (a b:Stats) (table:Int):zrj [a,b] table=(true,fndP a b table):=by
 have st:∀ n,ziW (n+3) [a,b] table (0:Int) (0:Int) (0:Int)=(true,if a.Table=table then .inl (true,a) else if b.Table=table then .inl (true,b) else .inr (0,0)):=fun n=>by
  have s2:ziW (n+1) [a,b] table (2:Int) (0:Int) (0:Int)=(true,.inr (0,0)):=rfl
  have s1:ziW (n+2) [a,b] table (1:Int) (0:Int) (0:Int)=(true,if b.Table=table then .inl (true,b) else .inr (0,0)):=by
   show (bif (b.Table==table) then (true,.inl (true,b)) else ziW (n+1) [a,b] table (2:Int) (0:Int) (0:Int))=_
   rw [s2,beqd]
   by_cases h:b.Table=table <;>simp [h]
  show (bif (a.Table==table) then (true,.inl (true,a)) else ziW (n+2) [a,b] table (1:Int) (0:Int) (0:Int))=_
  rw [s1,beqd]
  by_cases h:a.Table=table <;>simp [h]
 unfold zrj zwC fndP
 rw [Wy.fin_bn]
 have hN:ziW (2+table.toNat +0+0+0+1) [a,b] table (0:Int) (0:Int) (0:Int)=(true,if a.Table=table then .inl (true,a) else if b.Table=table then .inl (true,b) else .inr (0,0)):=by
  rw [show 2+table.toNat +0+0+0+1=table.toNat +3 by omega]; exact st _
 rw [show ((2:Nat)+table.toNat +0+0+0+1)=[a,b].length+table.toNat +Int.toNat (0:Int)+Int.toNat (0:Int)+Int.toNat (0:Int)+(1:Nat) from rfl] at hN
 rw [hN]
 by_cases h1:a.Table=table
 ·simp only [if_pos h1]; rfl
 ·simp only [if_neg h1]
  by_cases h2:b.Table=table
  ·simp only [if_pos h2]; rfl
  ·simp only [if_neg h2]; rfl
def kCol:List UInt8:=[99,111,108,117,109,110,32]
def kCS:List UInt8:=[58,32]
def kDis:List UInt8:=[32,100,105,115,116,105,110,99,116]
def kCm:List UInt8:=[44,32]
def kTo:List UInt8:=[32,116,111,32]
def kBd:List UInt8:=[44,32,98,111,117,110,100,97,114,105,101,115,32]
def kTab:List UInt8:=[116,97,98,108,101,32,116]
def kRow:List UInt8:=[32,114,111,119,115]
theorem mCol:ByteArray.mk #[(99:UInt8),(111:UInt8),(108:UInt8),(117:UInt8),(109:UInt8),(110:UInt8),(32:UInt8)]=bs kCol:=rfl
theorem mCS:ByteArray.mk #[(58:UInt8),(32:UInt8)]=bs kCS:=rfl
theorem mDis:ByteArray.mk #[(32:UInt8),(100:UInt8),(105:UInt8),(115:UInt8),(116:UInt8),(105:UInt8),(110:UInt8),(99:UInt8),(116:UInt8)]=bs kDis:=rfl
theorem mCm:ByteArray.mk #[(44:UInt8),(32:UInt8)]=bs kCm:=rfl
theorem mTo:ByteArray.mk #[(32:UInt8),(116:UInt8),(111:UInt8),(32:UInt8)]=bs kTo:=rfl
theorem mBd:ByteArray.mk #[(44:UInt8),(32:UInt8),(98:UInt8),(111:UInt8),(117:UInt8),(110:UInt8),(100:UInt8),(97:UInt8),(114:UInt8),(105:UInt8),(101:UInt8),(115:UInt8),(32:UInt8)]=bs kBd:=rfl
theorem mTab:ByteArray.mk #[(116:UInt8),(97:UInt8),(98:UInt8),(108:UInt8),(101:UInt8),(32:UInt8),(116:UInt8)]=bs kTab:=rfl
theorem mRow:ByteArray.mk #[(32:UInt8),(114:UInt8),(111:UInt8),(119:UInt8),(115:UInt8)]=bs kRow:=rfl
theorem kLen:kCol.length=7∧kCS.length=2∧kDis.length=9∧kCm.length=2∧kTo.length=4∧kBd.length=13∧kTab.length=7∧kRow.length=5:=⟨rfl,rfl,rfl,rfl,rfl,rfl,rfl,rfl⟩
def colL (i:Nat) (c:ColumnStats):List UInt8:=kCol++ziB (i:Int)++kCS++ziB c.Distinct++kDis
def fulL (i:Nat) (c:ColumnStats):List UInt8:=colL i c++kCm++txV c.Min++kTo++txV c.Max++kBd++lits c.Bounds
def linL (s:Stats) (i:Nat):List UInt8:=if s.Rows>0 then fulL i (s.Columns.getD i default) else colL i (s.Columns.getD i default)
def zKF (s:Stats):List UInt8:=kTab++ziB s.Table++kCS++ziB s.Rows++kRow
def outL (s:Stats) (k:Nat):List ByteArray:=bs (zKF s)::(List.range k).map fun i=>bs (linL s i)
theorem zEG (s:Stats) (k:Nat):outL s (k+1)=outL s k++[bs (linL s k)]:=by
 unfold outL; rw [List.range_succ,List.map_append]; rfl
theorem zx2 (s:Stats) (k:Nat):(outL s k).length=k+1:=by simp [outL]
theorem zF2 (line:ByteArray) (t25:List ColumnStats) (t26 t27:Int) (l:List Value) (hl:l.length≤1000) (hv:∀ v∈l,valV v=true∧rng v.Int) (s:Stats) (out:List ByteArray) (c:ColumnStats):∀ (n i:Nat),l.length<i+n→i≤l.length→
  zlo n line t25 t26 t27 l l.length i s out c ((l.take i).map fun v=>bs (txV v))=(true,(line,t25,t26,t27,s,out,c,l.map fun v=>bs (txV v)))
 | 0,i,h,h2=>by omega
 | n+1,i,h,h2=>by
  show (zlx line t25 t26 t27 l l.length i s out c ((l.take i).map fun v=>bs (txV v))).ev (zP ziI default n) (fun r=>(true,r)) (false,default)=_
  unfold zlx
  by_cases hi:i<l.length
  ·have hx:=hv _ (zms hi)
   simp only [Wy.ev_i,Wy.ev_k,Wy.ev_h,Wy.ev_bn,Wy.ev_d,tT,hi,zCz hx.1 hx.2]
   rw [decide_eq_true (zvY (by simp; omega) (by omega)),cond_true,zev (by omega)]
   have ih:=zF2 line t25 t26 t27 l hl hv s out c n (i+1) (by omega) (by omega)
   rw [ztp hi,List.map_append] at ih
   exact ih
  ·simp only [Wy.ev_i,Wy.ev_k,Wy.ev_h,Wy.ev_bn,Wy.ev_d,tT,hi]
   rw [List.take_of_length_le (by omega)]
theorem zDS {s:Stats} (h:okS s=true) (hw:wf30 s) {i:Nat} (hi:i<s.Columns.length):rng (s.Columns.getD i default).Distinct∧(s.Rows>0→(valV (s.Columns.getD i default).Min=true∧rng (s.Columns.getD i default).Min.Int)∧(valV (s.Columns.getD i default).Max=true∧rng (s.Columns.getD i default).Max.Int)∧(s.Columns.getD i default).Bounds.length=8∧∀ v∈(s.Columns.getD i default).Bounds,valV v=true∧rng v.Int):=by
 have hc:=hw.2.2.1 _ (zms hi)
 obtain ⟨h1,h2,h3,h4⟩:=zBO h
 refine ⟨ztM hc.1,fun hr=> ?_⟩
 have ho:=zJ5 (by omega) (h4 _ (zms hi))
 refine ⟨⟨ho.2.2.1,ztM hc.2.1.2.1⟩,⟨ho.2.2.2.1,ztM hc.2.2.1.2.1⟩,ho.2.2.2.2.2.2.1,fun v hv=>⟨?_,ztM (hc.2.2.2.1 v hv).2.1⟩⟩
 have:=ho.2.2.2.2.2.2.2.2.1 v hv
 unfold zoq at this
 simp only [Bool.and_eq_true] at this
 exact this.1
theorem zJw (l:List Value) (hl:l.length=8) (hv:∀ v∈l,valV v=true):strings_Join (l.map fun v=>bs (txV v)) (bs kCm)=(true,bs (lits l)):=by
 have h1:=zzB l hv
 have:strings_Join (l.map fun v=>bs (txV v)) (bs kCm)=zzZ ((l.map txV).map bs) (bs kCm):=by rw [List.map_map]; rfl
 rw [this,zIV _ _ (by rw [List.length_map]; omega) (by
  show (lits l).length≤_
  omega)]
 rfl
theorem zG4 (s:Stats) (h:okS s=true) (hw:wf30 s):∀ (n i:Nat),s.Columns.length<i+n→i≤s.Columns.length→
  zmt n s.Columns s.Columns.length i s (outL s i)=(true,outL s s.Columns.length)
 | 0,i,h1,h2=>by omega
 | n+1,i,h1,h2=>by
  show (zmx s.Columns s.Columns.length i s (outL s i)).ev (zP zjk default n) (fun r=>(true,r)) (false,default)=_
  unfold zmx
  have hcl:=(zBO h).2.2.1
  by_cases hi:i<s.Columns.length
  ·have hf:=zDS h hw hi
   have ri:rng (i:Int):=⟨by omega,by omega⟩
   obtain ⟨k1,k2,k3,k4,k5,k6,k7,k8⟩:=kLen
   have li:=zkg (i:Int)
   have ld:=zkg (s.Columns.getD i default).Distinct
   have hw1:IntKind.i64.wrap ((i:Int)+1)=((i+1:Nat):Int):=zev (by omega)
   have ih:=zG4 s h hw n (i+1) (by omega) (by omega)
   rw [zEG] at ih
   have hlin:linL s i=if s.Rows>0 then fulL i (s.Columns.getD i default) else colL i (s.Columns.getD i default):=rfl
   have hout:∀ x:ByteArray,((outL s i).length+[x].length)*16≤reach:=fun x=>zvY (by rw [zx2]; simp; omega) (by omega)
   simp only [Wy.ev_i,Wy.ev_bn,tT,hi,zz5 ri,zz5 hf.1,mCol,mCS,mDis,mCm,mTo,mBd,zjR,zc9]
   rw [okN _ _ (by omega),okN _ _ (by simp only [List.length_append]; omega),okN _ _ (by simp only [List.length_append]; omega),okN _ _ (by simp only [List.length_append]; omega)]
   simp only [cond_true]
   by_cases hr:s.Rows>0
   ·obtain ⟨m1,m2,m3,m4⟩:=hf.2 hr
    rw [hlin,if_pos hr] at ih
    have lmin:=zvx m1.1
    have lmax:=zvx m2.1
    have llit:=zzB (s.Columns.getD i default).Bounds fun v hv=>(m4 v hv).1
    rw [m3] at llit
    have key:∀ N line,(s.Columns.getD i default).Bounds.length<N→zlo N line s.Columns (s.Columns.length:Int) (i:Int) (s.Columns.getD i default).Bounds ((s.Columns.getD i default).Bounds.length:Int) (0:Int) s (outL s i) (s.Columns.getD i default) []=(true,(line,s.Columns,(s.Columns.length:Int),(i:Int),s,outL s i,s.Columns.getD i default,(s.Columns.getD i default).Bounds.map fun v=>bs (txV v))):=fun N line hN=>
     zF2 line s.Columns s.Columns.length i (s.Columns.getD i default).Bounds (by omega) m4 s (outL s i) (s.Columns.getD i default) N 0 (by omega) (by omega)
    rw [decide_eq_true hr,cond_true,key _ _ (by omega)]
    simp only [cond_true,zCz m1.1 m1.2,zCz m2.1 m2.2,zJw _ m3 (fun v hv=>(m4 v hv).1),zjR,zc9,hw1,Wy.ev_h]
    rw [okN _ _ (by omega),okN _ _ (by simp only [List.length_append]; omega),okN _ _ (by simp only [List.length_append]; omega),okN _ _ (by simp only [List.length_append]; omega),okN _ _ (by simp only [List.length_append]; omega),okN _ _ (by simp only [List.length_append]; omega),decide_eq_true (hout _)]
    simp only [cond_true]
    have hfl:kCol++ziB (i:Int)++kCS++ziB (s.Columns.getD i default).Distinct++kDis++(kCm++txV (s.Columns.getD i default).Min++kTo++txV (s.Columns.getD i default).Max++kBd++lits (s.Columns.getD i default).Bounds)=fulL i (s.Columns.getD i default):=by
     unfold fulL colL; simp only [List.append_assoc]
    rw [hfl]
    exact ih
   ·rw [hlin,if_neg hr] at ih
    rw [decide_eq_false hr,cond_false,decide_eq_true (hout _),cond_true,Wy.ev_h,hw1]
    exact ih
  ·simp only [Wy.ev_i,Wy.ev_k,tT,hi]
   have:i=s.Columns.length:=by omega
   rw [this]
theorem zG2 (s:Stats) (h:okS s=true) (hw:wf30 s):∀ (n i:Nat),s.Columns.length<i+n→i≤s.Columns.length→
  zrY n i s (outL s i)=(true,outL s s.Columns.length)
 | 0,i,h1,h2=>by omega
 | n+1,i,h1,h2=>by
  show (zrt i s (outL s i)).ev (zP znl default n) (fun r=>(true,r)) (false,default)=_
  unfold zrt
  have hcl:=(zBO h).2.2.1
  by_cases hi:i<s.Columns.length
  ·have hf:=zDS h hw hi
   have ri:rng (i:Int):=⟨by omega,by omega⟩
   obtain ⟨k1,k2,k3,k4,k5,k6,k7,k8⟩:=kLen
   have li:=zkg (i:Int)
   have ld:=zkg (s.Columns.getD i default).Distinct
   have hw1:IntKind.i64.wrap ((i:Int)+1)=((i+1:Nat):Int):=zev (by omega)
   have ih:=zG2 s h hw n (i+1) (by omega) (by omega)
   rw [zEG] at ih
   have hlin:linL s i=if s.Rows>0 then fulL i (s.Columns.getD i default) else colL i (s.Columns.getD i default):=rfl
   have hout:∀ x:ByteArray,((outL s i).length+[x].length)*16≤reach:=fun x=>zvY (by rw [zx2]; simp; omega) (by omega)
   simp only [Wy.ev_i,Wy.ev_bn,tT,hi,zrU ri,zrU hf.1,mCol,mCS,mDis,mCm,mTo,mBd,zjR,zc9]
   rw [okN _ _ (by omega),okN _ _ (by simp only [List.length_append]; omega),okN _ _ (by simp only [List.length_append]; omega),okN _ _ (by simp only [List.length_append]; omega)]
   simp only [cond_true]
   by_cases hr:s.Rows>0
   ·obtain ⟨m1,m2,m3,m4⟩:=hf.2 hr
    rw [hlin,if_pos hr] at ih
    have lmin:=zvx m1.1
    have lmax:=zvx m2.1
    have llit:=zzB (s.Columns.getD i default).Bounds fun v hv=>(m4 v hv).1
    rw [m3] at llit
    rw [decide_eq_true hr,cond_true]
    simp only [cond_true,zvs m1.1 m1.2,zvs m2.1 m2.2,zGr _ (show (s.Columns.getD i default).Bounds.length≤1000 by omega) m4,zjR,zc9,hw1,Wy.ev_h]
    rw [okN _ _ (by simp only [List.length_append]; omega),okN _ _ (by simp only [List.length_append]; omega),okN _ _ (by simp only [List.length_append]; omega),okN _ _ (by simp only [List.length_append]; omega),okN _ _ (by simp only [List.length_append]; omega),okN _ _ (by simp only [List.length_append]; omega),decide_eq_true (hout _)]
    simp only [cond_true]
    exact ih
   ·rw [hlin,if_neg hr] at ih
    rw [decide_eq_false hr,cond_false,decide_eq_true (hout _),cond_true,Wy.ev_h,hw1]
    exact ih
  ·simp only [Wy.ev_i,Wy.ev_k,tT,hi]
   have:i=s.Columns.length:=by omega
   rw [this]
def fmtP (s:Stats):List ByteArray:=bif okS s then outL s s.Columns.length else []
theorem zIx (s:Stats) (hw:wf30 s):zi4 s=(true,fmtP s):=by
 unfold zi4 zm9 fmtP
 rw [Wy.fin_bn,zss,cond_true,Wy.fin_i]
 cases h:okS s with
 | false=>rfl
 | true=>
  obtain ⟨k1,k2,k3,k4,k5,k6,k7,k8⟩:=kLen
  have lt:=zkg s.Table
  have lr:=zkg s.Rows
  rw [Bool.not_true,cond_false]
  simp only [Wy.fin_bn,Wy.fin_i,Wy.fin_k,zz5 (ztM hw.1),zz5 (ztM hw.2.1),mTab,mCS,mRow,zjR,zc9,cond_true]
  rw [okN _ _ (by omega),okN _ _ (by simp only [List.length_append]; omega),okN _ _ (by simp only [List.length_append]; omega),okN _ _ (by simp only [List.length_append]; omega)]
  have key:∀ N,s.Columns.length<N→zmt N s.Columns (Int.ofNat s.Columns.length) (0:Int) s [bs (kTab++ziB s.Table++kCS++ziB s.Rows++kRow)]=(true,outL s s.Columns.length):=fun N hN=>zG4 s h hw N 0 (by omega) (by omega)
  rw [key _ (by omega)]
  rfl
theorem zDv (s:Stats) (hw:wf30 s):zn9 s=(true,fmtP s):=by
 unfold zn9 zs9 fmtP
 rw [Wy.fin_bn,zyU,cond_true,Wy.fin_i]
 cases h:okS s with
 | false=>rfl
 | true=>
  obtain ⟨k1,k2,k3,k4,k5,k6,k7,k8⟩:=kLen
  have lt:=zkg s.Table
  have lr:=zkg s.Rows
  rw [Bool.not_true,cond_false]
  simp only [Wy.fin_bn,Wy.fin_i,Wy.fin_k,zrU (ztM hw.1),zrU (ztM hw.2.1),mTab,mCS,mRow,zjR,zc9,cond_true]
  rw [okN _ _ (by omega),okN _ _ (by simp only [List.length_append]; omega),okN _ _ (by simp only [List.length_append]; omega),okN _ _ (by simp only [List.length_append]; omega)]
  have key:∀ N,s.Columns.length<N→zrY N (0:Int) s [bs (kTab++ziB s.Table++kCS++ziB s.Rows++kRow)]=(true,outL s s.Columns.length):=fun N hN=>zG2 s h hw N 0 (by omega) (by omega)
  rw [key _ (by omega)]
  rfl
theorem zGR (x y:Bool) (a s w:Stats) (l:List ByteArray) (hl:l.length≤1000):∀ (n i:Nat),l.length<i+n→i≤l.length→zh4 n x y i a s w l l=(true,.inr (x,y,a,s,w))
 | 0,i,h,h2=>by omega
 | n+1,i,h,h2=>by
  show (zhX x y i a s w l l).ev (zP zfI (.inl default) n) (fun r=>(true,r)) (false,.inl default)=_
  unfold zhX
  by_cases hi:i<l.length
  ·have he:(!ByteArray.toList (l.getD i default)==ByteArray.toList (l.getD i default))=false:=by simp
   simp only [Wy.ev_i,Wy.ev_k,Wy.ev_h,Wy.ev_d,tT,hi,he]
   rw [zev (by omega)]
   exact zGR x y a s w l hl n (i+1) (by omega) (by omega)
  ·simp only [Wy.ev_i,Wy.ev_k,Wy.ev_h,Wy.ev_d,tT,hi]
theorem zIU (s:Stats):(fmtP s).length≤17:=by
 unfold fmtP
 cases h:okS s with
 | false=>simp
 | true=>
  have:=(zBO h).2.2.1
  rw [cond_true,zx2]; omega
theorem zHH (a b:Stats) (table:Int) (ha:zmM a) (hb:zmM b):zmM (fndP a b table).1:=by
 unfold fndP
 split
 ·exact ha
 ·split
  ·exact hb
  ·exact ⟨by simp,fun c hc=>by simp at hc⟩
theorem zDZ (a b:Stats) (table:Int) (ha:wf30 a) (hb:wf30 b) (_:wf3 table):zdt a b table=(true,true):=by
 obtain ⟨p,p1,p2⟩:=zFA a ha
 obtain ⟨q,q1,q2⟩:=zFA b hb
 have l10:zmM a→zmM b→zk2 1 (fndP a b table).2 (fndP a b table).2 a (fndP a b table).1 (fndP a b table).1 (fmtP a) (fmtP a)=(true,true):=fun sa sb=>by
  show (zh1 (fndP a b table).2 (fndP a b table).2 a (fndP a b table).1 (fndP a b table).1 (fmtP a) (fmtP a)).ev (zP zfK default 0) (fun r=>(true,r)) (false,default)=_
  unfold zh1
  have hl:=zIU a
  have hsm:=zHH a b table sa sb
  have key:∀ N,(fmtP a).length<N→zh4 N (fndP a b table).2 (fndP a b table).2 (0:Int) a (fndP a b table).1 (fndP a b table).1 (fmtP a) (fmtP a)=(true,.inr ((fndP a b table).2,(fndP a b table).2,a,(fndP a b table).1,(fndP a b table).1)):=fun N hN=>zGR _ _ a _ _ (fmtP a) (by omega) N 0 (by omega) (by omega)
  rw [Wy.ev_bn,key _ (by omega),cond_true]
  have hb1:(okS a==okS a)=true:=by simp
  have hb2:((fndP a b table).2==(fndP a b table).2)=true:=by simp
  simp only [Wy.ev_i,Wy.ev_bn,Wy.ev_k,isL,getR,cond_false,zss,zyU,cond_true,hb1,hb2,zGB (fndP a b table).1 (by have:=hsm.1; omega) (fun c hc=>by have:=hsm.2 c hc; omega)]
 have l5:zmM a→zmM b→zlP 1 table a b=(true,true):=fun sa sb=>by
  show (zij table a b).ev (zP zgl default 0) (fun r=>(true,r)) (false,default)=_
  unfold zij
  have hne:(Int.ofNat (fmtP a).length != Int.ofNat (fmtP a).length)=false:=by simp
  simp only [Wy.ev_i,Wy.ev_bn,Wy.ev_k,zJY a b table sa sb,zEZ,zIx a ha,zDv a ha,cond_true,hne,cond_false,l10 sa sb]
 have l3:zl6 1 table a b=(true,true):=by
  show (zin table a b).ev (zP zgq default 0) (fun r=>(true,r)) (false,default)=_
  unfold zin
  simp only [Wy.ev_i,Wy.ev_k,Wy.ev_bn,p1,q1,cond_true]
  cases p with
  | false=>rfl
  | true=>
   cases q with
   | false=>rfl
   | true=>rw [l5 (p2 rfl) (q2 rfl)]; rfl
 unfold zdt ziT
 rw [Wy.fin_bn,l3]
 rfl
end Go.Proofs.YtddkaehkimnklaaGreatDoor
end
