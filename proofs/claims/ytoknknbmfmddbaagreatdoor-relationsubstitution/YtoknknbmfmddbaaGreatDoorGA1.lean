/- Texts of this claim, joined (an interpreter of the code over typed data, and its soundness). -/
import Derived.Calls
import Derived.LoopN
import Derived.Orders
import Derived.Maps.AppendAt
import Derived.Below
import Derived.Laws.Entries
import Derived.Tactics
import Derived.MapKept
import Derived.Laws.OwnMore
import Derived.Laws.MakeOwn
import Derived.Laws.BytesString
set_option autoImplicit false
set_option linter.unusedVariables false
set_option linter.unusedSectionVars false
set_option linter.unusedSimpArgs false
/- A run of the machine's own steps never takes a draw back. -/
namespace Go.Ab
theorem qax {α:Type _} {a b:α}:(some a=some b)=(a=b):=Option.some.injEq a b
theorem qbx {α:Type _} {β:Type _} {a c:α} {b d:β}:((a,b)=(c,d))=(a=c/\b=d):=Prod.mk.injEq a b c d
theorem qcx {a b:Bool}:((a&&b)=true)=(a=true/\b=true):=Bool.and_eq_true a b
theorem qdx {α:Type _} {b:α} {l:List α} {a:α}:a∈b::l↔a=b\/a∈l:=_root_.List.mem_cons
theorem qex {p:Prop} [Decidable p]:(decide p=true)=p:=_root_.decide_eq_true_eq
theorem qfx {α:Type _} {a:α} {l:List α}:(a::l).length=l.length+1:=rfl
theorem qgx {α:Type _} {a b:List α}:(a++b).length=a.length+b.length:=_root_.List.length_append
theorem qhx {α:Type _} {a b:α}:a∈[b]↔a=b:=_root_.List.mem_singleton
theorem qix {α:Type _} {R:α->α->Prop} {a:α} {l:List α}:(a::l).Pairwise R↔(∀ b∈l,R a b)/\l.Pairwise R:=_root_.List.pairwise_cons
theorem qjx {α:Type _} {a b:α} {l m:List α}:(a::l=b::m)=(a=b/\l=m):=List.cons.injEq a l b m
theorem q0:type_of% @Option.some.injEq:= @Option.some.injEq
theorem q7:type_of% @cond_true:= @cond_true
theorem q8:type_of% @List.mem_cons:= @List.mem_cons
theorem q9:type_of% @cond_false:= @cond_false
theorem qa:type_of% @Bool.and_eq_true:= @Bool.and_eq_true
theorem qb:type_of% @decide_eq_true_eq:= @decide_eq_true_eq
theorem qc:type_of% @List.length_cons:= @List.length_cons
theorem qd:type_of% @decide_eq_false:= @decide_eq_false
theorem qe:type_of% @Prod.mk.injEq:= @Prod.mk.injEq
theorem qf:type_of% @List.length_append:= @List.length_append
theorem qg:type_of% @decide_eq_true:= @decide_eq_true
theorem qh:type_of% @List.pairwise_cons:= @List.pairwise_cons
theorem qi:type_of% @List.getD_eq_getElem?_getD:= @List.getD_eq_getElem?_getD
theorem qj:type_of% @List.mem_singleton:= @List.mem_singleton
theorem qk:type_of% @Bool.not_true:= @Bool.not_true
theorem ql:type_of% @List.getElem?_eq_getElem:= @List.getElem?_eq_getElem
theorem qm:type_of% @Option.isSome_iff_exists:= @Option.isSome_iff_exists
theorem qn:type_of% @Nat.le_refl:= @Nat.le_refl
theorem qo:type_of% @List.cons_append:= @List.cons_append
theorem qp:type_of% @List.cons.injEq:= @List.cons.injEq
theorem qq:type_of% @List.drop_zero:= @List.drop_zero
theorem qr:type_of% @Nat.lt_irrefl:= @Nat.lt_irrefl
theorem qt:type_of% @Int.toNat_natCast:= @Int.toNat_natCast
theorem qu:type_of% @List.append_assoc:= @List.append_assoc
theorem qv:type_of% @List.length_nil:= @List.length_nil
theorem qw:type_of% @Int.ofNat_eq_natCast:= @Int.ofNat_eq_natCast
theorem qx:type_of% @Nat.eq_of_beq_eq_true:= @Nat.eq_of_beq_eq_true
theorem qy:type_of% @List.length_singleton:= @List.length_singleton
theorem qz:type_of% @Option.map_some:= @Option.map_some
theorem q10:type_of% @List.nil_append:= @List.nil_append
theorem q11:type_of% @List.foldl_cons:= @List.foldl_cons
theorem q12:type_of% @List.mem_append:= @List.mem_append
theorem q13:type_of% @Bool.and_self:= @Bool.and_self
theorem q14:type_of% @List.getElem?_map:= @List.getElem?_map
theorem q15:type_of% @List.length_take:= @List.length_take
theorem q16:type_of% @List.not_mem_nil:= @List.not_mem_nil
theorem q17:type_of% @Bool.not_eq_true':= @Bool.not_eq_true'
theorem q18:type_of% @Nat.le_trans:= @Nat.le_trans
theorem q19:type_of% @Nat.zero_le:= @Nat.zero_le
theorem q1a:type_of% @List.eq_nil_of_length_eq_zero:= @List.eq_nil_of_length_eq_zero
theorem q1b:type_of% @List.length_map:= @List.length_map
theorem q1c:type_of% @decide_eq_false_iff_not:= @decide_eq_false_iff_not
theorem q1d:type_of% @List.all_eq_true:= @List.all_eq_true
theorem q1e:type_of% @Bool.false_eq_true:= @Bool.false_eq_true
theorem q1f:type_of% @List.flatMap_cons:= @List.flatMap_cons
theorem q1g:type_of% @Option.bind_some:= @Option.bind_some
theorem q1h:type_of% @Array.length_toList:= @Array.length_toList
theorem q1i:type_of% @Array.getD_eq_getD_getElem? := @Array.getD_eq_getD_getElem?
theorem q1j:type_of% @Bool.true_and:= @Bool.true_and
theorem q1k:type_of% @Bool.not_false:= @Bool.not_false
theorem q1l:type_of% @List.mem_of_getElem? := @List.mem_of_getElem?
theorem q1m:type_of% @List.pairwise_append:= @List.pairwise_append
theorem q1n:type_of% @Array.getElem?_toList:= @Array.getElem?_toList
theorem q1o:type_of% @List.append_nil:= @List.append_nil
theorem q1p:type_of% @List.mem_map:= @List.mem_map
theorem q1q:type_of% @List.map_cons:= @List.map_cons
theorem q1r:type_of% @Array.getElem?_eq_some_iff:= @Array.getElem?_eq_some_iff
theorem q1s:type_of% @Nat.zero_add:= @Nat.zero_add
theorem q1t:type_of% @List.getElem?_eq_some_iff:= @List.getElem?_eq_some_iff
theorem q1u:type_of% @List.getElem?_append_right:= @List.getElem?_append_right
theorem q1v:type_of% @Nat.mul_le_mul_right:= @Nat.mul_le_mul_right
theorem q1w:type_of% @Bool.or_eq_true:= @Bool.or_eq_true
theorem q1x:type_of% @List.getElem?_cons_zero:= @List.getElem?_cons_zero
theorem q1y:type_of% @List.mem_cons_of_mem:= @List.mem_cons_of_mem
theorem q1z:type_of% @Nat.mul_le_mul:= @Nat.mul_le_mul
theorem q20:type_of% @List.getElem?_take:= @List.getElem?_take
theorem q21:type_of% @List.all_eq_not_any_not:= @List.all_eq_not_any_not
theorem q22:type_of% @beq_eq_false_iff_ne:= @beq_eq_false_iff_ne
theorem q23:type_of% @Bool.and_true:= @Bool.and_true
theorem q24:type_of% @List.take_of_length_le:= @List.take_of_length_le
theorem q25:type_of% @List.getElem?_eq_none:= @List.getElem?_eq_none
theorem q26:type_of% @Option.some.inj:= @Option.some.inj
theorem q27:type_of% @List.getD_cons_zero:= @List.getD_cons_zero
theorem q28:type_of% @List.all_cons:= @List.all_cons
theorem q29:type_of% @List.length_eq_zero_iff:= @List.length_eq_zero_iff
theorem q2a:type_of% @List.getElem?_append_left:= @List.getElem?_append_left
theorem q2b:type_of% @Nat.lt_of_lt_of_le:= @Nat.lt_of_lt_of_le
theorem q2c:type_of% @List.getElem?_drop:= @List.getElem?_drop
theorem q2d:type_of% @Array.getElem?_eq_getElem:= @Array.getElem?_eq_getElem
theorem q2e:type_of% @Nat.add_assoc:= @Nat.add_assoc
theorem q2f:type_of% @List.length_filter_le:= @List.length_filter_le
theorem q2g:type_of% @List.map_append:= @List.map_append
theorem q2h:type_of% @List.contains_eq_mem:= @List.contains_eq_mem
theorem q2i:type_of% @List.getElem?_of_mem:= @List.getElem?_of_mem
theorem q2j:type_of% @Option.getD_some:= @Option.getD_some
theorem q2k:type_of% @Array.getElem?_append_left:= @Array.getElem?_append_left
theorem q2l:type_of% @Nat.succ_mul:= @Nat.succ_mul
theorem q2m:type_of% @List.drop_eq_nil_of_le:= @List.drop_eq_nil_of_le
theorem q2n:type_of% @List.length_replicate:= @List.length_replicate
theorem q2o:type_of% @List.singleton_append:= @List.singleton_append
theorem q2p:type_of% @Nat.le_of_ble_eq_true:= @Nat.le_of_ble_eq_true
theorem q2q:type_of% @List.length_drop:= @List.length_drop
theorem q2r:type_of% @List.getElem?_cons_succ:= @List.getElem?_cons_succ
theorem q2s:type_of% @Nat.add_mul:= @Nat.add_mul
theorem q2t:type_of% @Array.toList_map:= @Array.toList_map
theorem q2u:type_of% @List.filter_cons:= @List.filter_cons
theorem q2v:type_of% @List.take_length:= @List.take_length
theorem q2w:type_of% @Go.MapKept.run_getObj_map:= @Go.MapKept.run_getObj_map
theorem q2x:type_of% @List.drop_eq_getElem_cons:= @List.drop_eq_getElem_cons
theorem q2y:type_of% @List.mem_append_left:= @List.mem_append_left
theorem q2z:type_of% @List.mem_filter:= @List.mem_filter
theorem q30:type_of% @List.mem_of_mem_take:= @List.mem_of_mem_take
theorem q31:type_of% @List.ext_getElem? := @List.ext_getElem?
theorem q32:type_of% @List.getElem?_set:= @List.getElem?_set
theorem q33:type_of% @List.map_congr_left:= @List.map_congr_left
theorem q34:type_of% @List.takeWhile_cons:= @List.takeWhile_cons
theorem q35:type_of% @List.take_append:= @List.take_append
theorem q36:type_of% @List.filter_append:= @List.filter_append
theorem q37:type_of% @List.all_append:= @List.all_append
noncomputable section
theorem zban (w:World) (a:Addr) (v:Value):(w.setCell a v).drawn=w.drawn:=by unfold World.setCell; rfl
theorem zbd5 (w:World) (a:Addr) (n:Nat):(w.freeze a n).drawn=w.drawn:=by
 unfold World.freeze; first | rfl | (split <;>rfl)
theorem z0s {α:Type}:∀ (x:Ask α) (w:World),w.drawn<=(w.ask x).2.drawn
 | .done a,w=>qn _
 | .ask what range k,w=>by
  unfold World.ask
  dsimp only
  split
  ·exact z0s (k 0) w
  ·exact q18 (Nat.le_succ _) (z0s (k _) { w with drawn:=w.drawn+1 })
theorem zbhI (w:World) (c:Sys):w.drawn<=(w.sys c).2.drawn:=by
 unfold World.sys;have h:=z0s (Kernel.perform c w.os) w;split
 ·exact qn _
 ·rename_i r os w' hq;rw [hq] at h;exact h
theorem z8z {P:Program} {w w':World} {a:Addr} {v:Value} {b:Bool} {l:List Addr} (h:w.farStore P a v b=.ok (w',l)):w.drawn<=w'.drawn:=by
 unfold World.farStore at h;split at h
 ·split at h
  ·rename_i r hr;simp only [Except.ok.injEq] at h;subst h;unfold World.viewStore at hr;simp only [bind,Except.bind,pure,Except.pure] at hr
   repeat' (split at hr)
   all_goals first
    | (cases hr; done)
    | (simp only [Except.ok.injEq,qe] at hr; obtain ⟨rfl,_⟩:=hr; exact qn _)
  ·cases h
 ·cases h
theorem z9Z {P:Program} {α:Type}:∀ (m:Sem α) (w w':World) (v:α),m.run P w=.ok v w'->w.drawn<=w'.drawn:=by
 intro m;induction m with
 | pure a=>intro w w' v h; simp only [Sem.run,Result.ok.injEq] at h; rw [h.2]; exact qn _
 | load m a k ih=>
  intro w w' v h;simp only [Sem.run] at h;split at h
  ·exact ih _ w w' v h
  ·split at h
   ·exact ih _ w w' v h
   ·cases h
 | store m a u k ih=>
  intro w w' v h;cases u <;>simp only [Sem.run] at h <;>try (cases h; done)
  all_goals
   split at h
   ·split at h
    ·cases h
    ·have:=ih _ w' v h
     rwa [zban] at this
   ·split at h
    ·rename_i w2 l hfs;exact q18 (z8z hfs) (ih _ w' v h)
    ·cases h
 | new o k ih=>
  intro w w' v h;simp only [Sem.run] at h;exact ih _ { w with heap:=w.heap.push o } w' v h
 | shape r k ih=>
  intro w w' v h;simp only [Sem.run] at h;exact ih _ _ w' v h
 | freeze a n k ih=>
  intro w w' v h;simp only [Sem.run] at h;have:=ih _ w' v h
  rwa [zbd5] at this
 | frozen a k ih=>
  intro w w' v h;simp only [Sem.run] at h;exact ih _ _ w' v h
 | getObj r k ih=>
  intro w w' v h;simp only [Sem.run] at h;split at h
  ·cases h
  ·exact ih _ _ w' v h
  ·cases h
 | setObj r o k ih=>
  intro w w' v h;simp only [Sem.run] at h;split at h
  ·cases h
  ·exact ih { w with heap:=w.heap.setIfInBounds r o } w' v h
  ·cases h
 | choose q k ih=>
  intro w w' v h;simp only [Sem.run] at h;split at h
  ·exact ih _ _ w' v h
  ·exact q18 (Nat.le_succ _) (ih _ { w with drawn:=w.drawn+1 } w' v h)
 | sys c k ih=>
  intro w w' v h;simp only [Sem.run] at h;exact q18 (zbhI w c) (ih _ _ w' v h)
 | program k ih=>
  intro w w' v h;simp only [Sem.run] at h;exact ih _ _ w' v h
 | mark m k ih=>
  intro w w' v h;simp only [Sem.run] at h;exact ih _ w' v h
 | halt x=>intro w w' v h; simp only [Sem.run] at h; cases h
end
end Go.Ab
/- The abstract interpreter: values without addresses, blocks of the call's own, and the evaluation of the model's code over them in continuation form. Definitions alone. -/
namespace Go.Ab
noncomputable section
inductive AV (ty:Nat->Type):Type where
 | lit (v:Value)
 | sl (T:Nat) (l:List (ty T))
 | own (id:Nat)
 | sub (id lo n:Nat)
 | ptr (id off:Nat)
 | eptr (id ix off:Nat)
 | fptr (T:Nat) (x:ty T) (off:Nat)
 | bptr (cs:List (AV ty)) (off:Nat)
 | agg (cs:List (AV ty))
 | tup (vs:List (AV ty))
 | fn (f:Nat) (caps:List (AV ty))
 /-- A value of an interface type: is it there? -/
 | err (there:Bool)
 /-- A map of the call's own. -/
 | mp (id:Nat)
 | dead
inductive Blk (ty:Nat->Type):Type where
 | none
 | dead
 | box (cs:List (AV ty)) (fz:Bool)
 | arr (T:Nat) (l:List (ty T)) (fz:Bool)
 | mp (K V:Nat) (l:List (Value×ty V)) (fz:Bool)
structure St (ty:Nat->Type) where
 tmps:List (AV ty)
 blks:List (Blk ty)
inductive TD where
 | int (k:IntKind) | bool | str | slice (e:Nat) | struct (fs:List (Nat×Nat)) | iface | map (k v:Nat) | other
structure TInfo where
 desc:TD
 size:Nat
 bytes:Nat
 zero:List Value
inductive Arg (ty:Nat->Type):Type where
 | pure (a:AV ty)
 | own (T:Nat) (l:List (ty T))
inductive RV (ty:Nat->Type):Type where
 | pure (a:AV ty)
 | own (T:Nat) (l:List (ty T))
structure ARes (ty:Nat->Type) where
 vals:List (RV ty)
 upd:List (Option ((T:Nat)×List (ty T))):=[]
abbrev Spec (ty:Nat->Type):=List (Arg ty)->Option (Bool×ARes ty)
inductive LMode where
 | keep
 | pure
 | sl (e:Nat)
 | own (T:Nat)
 /-- a pointer to a box: these of its cells (offset, type of the elements) are lists of their own -/
 | boxOwn (l:List (Nat×Nat))
inductive Ex where
 | normal
 | exit (id:Nat)
 | ret
inductive LTree (ty:Nat->Type):Type where
 | done (ex:Ex) (vals:List (AV ty)) (bs:List (Blk ty))
 | ite (b:Bool) (t e:LTree ty)
abbrev zAR (ty:Nat->Type):=List (AV ty)->List (Blk ty)->Option (Bool×LTree ty)
structure Cx (ty:Nat->Type) where
 ti:Nat->Option TInfo
 dflt:(T:Nat)->ty T
 enc:(T:Nat)->ty T->List (AV ty)
 dec:(T:Nat)->List (AV ty)->Option (ty T)
 spec:Nat->Option (Spec ty)
 io:Nat->List Bool
 eqs:Nat->List Value->List Value->Option Bool
 nt:Nat
 head:Nat->List (Nat×LMode)
 out:Nat->Ex->List (Nat×LMode)
 loops:Nat->Option (zAR ty)
 /-- What holds of the package's variables, which lie in the first 'ng' blocks. -/
 ng:Nat:=0
 inv:World->Prop:=λ_=>True
 /-- Are the zCq followed? -/
 dr:Bool:=true
 /-- Callees whose arguments stand as they are (a nil slice stays one). -/
 raw:Nat->Bool:=λ_=>false
 /-- Pieces of code that several ways lead to, by their first region. -/
 joins:Nat->Option (zAR ty):=λ_=>none
section
variable {ty:Nat->Type}
def AV.ofConst:Value->AV ty
 | .agg cs=>.agg (cs.toList.map .lit)
 | .func (.func f) first caps=>match first.toList,caps.toList with
  | [],[]=>.fn f []
  | _,_=>.lit (.func (.func f) first caps)
 | v=>.lit v
noncomputable def gO {α:Type _} (l:List α):Nat->Option α:=List.rec (motive:=λ_=>Nat->Option α) (λ_=>none) (λa _ ih n=>Nat.rec (motive:=λ_=>Option α) (some a) (λm _=>ih m) n) l
noncomputable def gD {α:Type _} (d:α) (l:List α):Nat->α:=List.rec (motive:=λ_=>Nat->α) (λ_=>d) (λa _ ih n=>Nat.rec (motive:=λ_=>α) a (λm _=>ih m) n) l
noncomputable def sT {α:Type _} (v:α) (l:List α):Nat->List α:=List.rec (motive:=λ_=>Nat->List α) (λ_=>[]) (λa r ih n=>Nat.rec (motive:=λ_=>List α) (v::r) (λm _=>a::ih m) n) l
theorem zbgr {α:Type _}:∀ (l:List α) (n:Nat),gO l n=l[n]?
 | [],n=>rfl
 | a::r,0=>rfl
 | a::r,n+1=>by rw [q2r, <- zbgr r n]; rfl
theorem zjB {α:Type _} (d:α):∀ (l:List α) (n:Nat),gD d l n=l.getD n d
 | [],n=>rfl
 | a::r,0=>rfl
 | a::r,n+1=>by rw [List.getD_cons_succ, <- zjB d r n]; rfl
theorem zEB {α:Type _} (v:α):∀ (l:List α) (n:Nat),sT v l n=l.set n v
 | [],n=>rfl
 | a::r,0=>rfl
 | a::r,n+1=>by rw [List.set_cons_succ, <- zEB v r n]; rfl
@[simp] theorem zboa {α : Type _} (d a : α) (l : List α) (n : Nat) : gD d (a :: l) (n + 1) = gD d l n := rfl
@[simp] theorem zbn9 {α : Type _} (d a : α) (l : List α) : gD d (a :: l) 0 = a := rfl
@[simp] theorem zbob {α : Type _} (d : α) (n : Nat) : gD d [] n = d := rfl
noncomputable def St.get (s:St ty) (t:Nat):AV ty:=gD .dead s.tmps t
theorem St.get_def (s:St ty) (t:Nat):s.get t=s.tmps.getD t .dead:=zjB ..
noncomputable def St.setT (s:St ty) (t:Nat) (v:AV ty):St ty:={ s with tmps:=sT v s.tmps t }
theorem St.setT_def (s:St ty) (t:Nat) (v:AV ty):s.setT t v={ s with tmps:=s.tmps.set t v }:=by unfold St.setT; rw [zEB]
noncomputable def St.blk (s:St ty) (i:Nat):Blk ty:=gD .none s.blks i
theorem St.blk_def (s:St ty) (i:Nat):s.blk i=s.blks.getD i .none:=zjB ..
def St.ev (s:St ty):Operand->AV ty
 | .tmp t=>s.get t
 | .const v=>.ofConst v
 | .func f=>.fn f []
 | .global _=>.dead
def zbJ:Value->Bool
 | .agg _ | .tuple _=>false
 | _=>true
def ztO (st:St ty) (id:Nat):Bool:=match st.blk id with | .box _ _=>true | .arr _ _ _=>true | _=>false
def AV.isCell (st:St ty):AV ty->Bool
 | .lit v=>zbJ v
 | .own id | .sub id _ _ | .ptr id _ | .eptr id _ _=>ztO st id
 | .agg _ | .tup _ | .dead | .mp _=>false
 | _=>true
def AV.cells (st:St ty) (v:AV ty):Option (List (AV ty)):=
 match v with
 | .agg cs=>match cs.all (AV.isCell st) with
  | true=>some cs
  | false=>none
 | v=>match v.isCell st with
  | true=>some [v]
  | false=>none
def AV.cellId:AV ty->List Nat
 | .own id | .sub id _ _ | .ptr id _ | .eptr id _ _=>[id]
 | _=>[]
def AV.ids1:AV ty->List Nat
 | .agg cs=>cs.flatMap AV.cellId
 | v=>v.cellId
def z0L (cs:List (AV ty)):List Nat:=cs.flatMap AV.cellId
def AV.int64:AV ty->Option Int
 | .lit (.int .i64 n)=>some n
 | _=>none
def Blk.freeze:Blk ty->Blk ty
 | .box cs _=>.box cs true
 | .arr T l _=>.arr T l true
 | .mp K V l _=>.mp K V l true
 | b=>b
structure Delta (ty:Nat->Type) where
 val:AV ty
 wr:List (Nat×Blk ty):=[]
 fz:List Nat:=[]
 rd:List Nat:=[]
def zcr (b:List (Blk ty)):List (Nat×Blk ty)->List (Blk ty)
 | []=>b
 | (i,x)::r=>zcr (b.set i x) r
def zbY (b:List (Blk ty)):List Nat->List (Blk ty)
 | []=>b
 | i::r=>zbY (b.set i (gD .none b i).freeze) r
def zbgU (b:List (Blk ty)):List (Nat×Blk ty)->List (Blk ty)
 | []=>b
 | (i,x)::r=>zbgU (sT x b i) r
def fzF (b:List (Blk ty)):List Nat->List (Blk ty)
 | []=>b
 | i::r=>fzF (sT (gD .none b i).freeze b i) r
theorem zRA:∀ (l:List (Nat×Blk ty)) (b:List (Blk ty)),zbgU b l=zcr b l
 | [],b=>rfl
 | (i,x)::r,b=>by rw [zbgU,zcr,zEB,zRA r]
theorem zIj:∀ (l:List Nat) (b:List (Blk ty)),fzF b l=zbY b l
 | [],b=>rfl
 | i::r,b=>by rw [fzF,zbY,zEB,zIj r]
def St.app (st:St ty) (dst:Option Tmp) (d:Delta ty):St ty:=
 { tmps:=(match dst with | some t=>sT d.val st.tmps t | none=>st.tmps),
   blks:=zbgU (fzF st.blks d.fz) d.wr }
theorem St.app_blks (st:St ty) (dst:Option Tmp) (d:Delta ty):(st.app dst d).blks=zcr (zbY st.blks d.fz) d.wr:=by unfold St.app; rw [zRA,zIj]
theorem St.app_def (st:St ty) (dst:Option Tmp) (d:Delta ty):st.app dst d={ tmps:=(match dst with | some t=>st.tmps.set t d.val | none=>st.tmps),blks:=zcr (zbY st.blks d.fz) d.wr }:=by
 unfold St.app; rw [zRA,zIj]; cases dst <;>simp [zEB]
def zf3 (f:AV ty->Option (AV ty×List Nat)):List (AV ty)->Option (List (AV ty)×List Nat)
 | []=>some ([],[])
 | c::cs=>match f c with
  | none=>none
  | some (c',i)=>match zf3 f cs with
   | none=>none
   | some (cs',is)=>some (c'::cs',i++is)
def zbE (cx:Cx ty) (st:St ty):Nat->AV ty->Option (AV ty×List Nat)
 | 0,_=>none
 | n+1,v=>match v with
  | .lit v=>some (.lit v,[])
  | .err b=>some (.err b,[])
  | .sl T l=>some (.sl T l,[])
  | .own id=>match st.blk id with
   | .arr T l _=>some (.sl T l,[id])
   | _=>none
  | .sub id lo k=>match st.blk id with
   | .arr T l _=>some (.sl T ((l.drop lo).take k),[id])
   | _=>none
  | .ptr id off=>match st.blk id with
   | .box cs _=>match zf3 (zbE cx st n) cs with
    | some (cs',is)=>some (.bptr cs' off,id::is)
    | none=>none
   | _=>none
  | .eptr id ix off=>match st.blk id with
   | .arr T l _=>some (.fptr T (l.getD ix (cx.dflt T)) off,[id])
   | _=>none
  | .fptr T x off=>some (.fptr T x off,[])
  | .bptr cs off=>some (.bptr cs off,[])
  | .agg cs=>match zf3 (zbE cx st n) cs with
   | some (cs',is)=>some (.agg cs',is)
   | none=>none
  | .fn f cs=>match zf3 (zbE cx st n) cs with
   | some (cs',is)=>some (.fn f cs',is)
   | none=>none
  | .tup _=>none
  | .mp _=>none
  | .dead=>none
def zdh:Nat:=6
def size (cx:Cx ty) (T:Nat):Option Nat:=(cx.ti T).map (·.size)
def zwY (i:TInfo):Bool:=match i.desc with | .struct _=>true | _=>false
def cut (i:TInfo) (cs:List (AV ty)) (off:Nat):Option (AV ty):=
 match zwY i with
 | true=>match Nat.ble (off+i.size) cs.length with
  | true=>some (.agg ((cs.drop off).take i.size))
  | false=>none
 | false=>cs[off]?
def splice (cs:List (AV ty)) (off:Nat) (new:List (AV ty)):Option (List (AV ty)):=
 match Nat.ble (off+new.length) cs.length with
 | true=>some (cs.take off++new++cs.drop (off+new.length))
 | false=>none
def ze2 (cx:Cx ty) (st:St ty):AV ty->Option (List (AV ty)×Nat×List Nat)
 | .ptr id off=>match st.blk id with
  | .box cs _=>some (cs,off,[id])
  | _=>none
 | .eptr id ix off=>match st.blk id with
  | .arr T l _=>some (cx.enc T (l.getD ix (cx.dflt T)),off,[id])
  | _=>none
 | .fptr T x off=>some (cx.enc T x,off,[])
 | .bptr cs off=>some (cs,off,[])
 | _=>none
def shift (o:Nat):AV ty->Option (AV ty)
 | .ptr id off=>some (.ptr id (off+o))
 | .eptr id ix off=>some (.eptr id ix (off+o))
 | .fptr T x off=>some (.fptr T x (off+o))
 | .bptr cs off=>some (.bptr cs (off+o))
 | _=>none
def zed (st:St ty):AV ty->Option (((T:Nat)×List (ty T))×List Nat)
 | .sl T l=>some (⟨T,l⟩,[])
 | .own id=>match st.blk id with
  | .arr T l _=>some (⟨T,l⟩,[id])
  | _=>none
 | .sub id lo n=>match st.blk id with
  | .arr T l _=>some (⟨T,(l.drop lo).take n⟩,[id])
  | _=>none
 | _=>none
def zCD (T T':Nat) (l:List (ty T)):Option (List (ty T')):=if h:T=T' then some (h ▸ l) else none
def zbf5 (op:BinOp) (k:IntKind) (x y:Int):Option (Bool×AV ty):=
 match op with
 | .add=>some (true,.lit (.int k (k.wrap (x+y))))
 | .sub=>some (true,.lit (.int k (k.wrap (x - y))))
 | .mul=>some (true,.lit (.int k (k.wrap (x*y))))
 | .quo=>some (!decide (y=0),.lit (.int k (k.wrap (x.tdiv y))))
 | .rem=>some (!decide (y=0),.lit (.int k (x.tmod y)))
 | .eql=>some (true,.lit (.bool (x==y)))
 | .neq=>some (true,.lit (.bool (x != y)))
 | .lss=>some (true,.lit (.bool (decide (x<y))))
 | .leq=>some (true,.lit (.bool (decide (x<=y))))
 | .gtr=>some (true,.lit (.bool (decide (x>y))))
 | .geq=>some (true,.lit (.bool (decide (x≥y))))
 | .shr=>some (!decide (y<0),.lit (.int k (x.fdiv (2 ^ (min y.toNat k.bits)))))
 | _=>none
def zbj8 (op:BinOp) (x y:ByteArray):Option (Bool×AV ty):=
 match op with
 | .add=>some (decide (x.size+y.size<=9223372036854775807),.lit (.string (x++y)))
 | .eql=>some (true,.lit (.bool (x.toList==y.toList)))
 | .neq=>some (true,.lit (.bool (!(x.toList==y.toList))))
 | .lss=>some (true,.lit (.bool (Op.bytesLess x.toList y.toList)))
 | _=>none
def zIH:List (AV ty)->Option (List Value)
 | []=>some []
 | .lit v::r=>match zIH r with
  | some vs=>some (v::vs)
  | none=>none
 | _=>none
def zbj1 (cx:Cx ty) (op:BinOp) (T:Nat) (x y:AV ty):Option (Bool×AV ty):=
 match x,y with
 | .lit (.int k a),.lit (.int k' b)=>if k=k' then zbf5 op k a b else none
 | .lit (.string a),.lit (.string b)=>zbj8 op a b
 | .lit (.bool a),.lit (.bool b)=>match cx.ti T with
  | some ⟨.bool,_,_,_⟩=>match op with
   | .eql=>some (true,.lit (.bool (a==b)))
   | .neq=>some (true,.lit (.bool (!(a==b))))
   | _=>none
  | _=>none
 | .agg a,.agg b=>match zIH a,zIH b with
  | some us,some vs=>match cx.eqs T us vs with
   | some r=>match op with
    | .eql=>some (true,.lit (.bool r))
    | .neq=>some (true,.lit (.bool (!r)))
    | _=>none
   | none=>none
  | _,_=>none
 | .lit (.slice a _ _),.lit (.slice none 0 0)=>match cx.ti T with
  | some ⟨.slice _,_,_,_⟩=>match op with
   | .eql=>some (true,.lit (.bool a.isNone))
   | .neq=>some (true,.lit (.bool (!a.isNone)))
   | _=>none
  | _=>none
 | .sl _ l,.lit (.slice none 0 0)=>match cx.ti T with
  | some ⟨.slice _,_,_,_⟩=>match op with
   | .eql=>some (!l.isEmpty,.lit (.bool false))
   | .neq=>some (!l.isEmpty,.lit (.bool true))
   | _=>none
  | _=>none
 | _,_=>none
def bytesOf:List (AV ty)->Option (List Int)
 | []=>some []
 | .lit (.int .u8 n)::r=>match bytesOf r with
  | some ns=>some (n::ns)
  | none=>none
 | _=>none
def zbj5 (cx:Cx ty) (op:BinOp) (T:Nat) (x:AV ty) (y:Operand):Option (AV ty):=
 match x,y with
 | .err b,.const .nilIface=>match cx.ti T with
  | some ⟨.iface,_,_,_⟩=>match op with
   | .eql=>some (.lit (.bool (!b)))
   | .neq=>some (.lit (.bool b))
   | _=>none
  | _=>none
 | _,_=>none
def zjI (cx:Cx ty) (st:St ty) (fs:List (Nat×Nat)):List (AV ty)->List (Nat×AV ty)->Option (List (AV ty))
 | cs,[]=>some cs
 | cs,(i,v)::r=>match fs[i]? with
  | none=>none
  | some (off,T)=>match cx.ti T with
   | none=>none
   | some inf=>match v.cells st with
    | none=>none
    | some c=>match Nat.beq c.length inf.size with
     | false=>none
     | true=>match splice cs off c with
      | none=>none
      | some cs'=>zjI cx st fs cs' r
def znw (cx:Cx ty) (st:St ty) (e:Nat):Nat->List (Nat×AV ty)->Option (List (ty e)×List Nat)
 | _,[]=>some ([],[])
 | n,(i,v)::r=>match Nat.beq i n with
  | false=>none
  | true=>match v.cells st with
   | none=>none
   | some c=>match zf3 (zbE cx st zdh) c with
    | none=>none
    | some (c',ids)=>match cx.dec e c' with
     | none=>none
     | some x=>match znw cx st e (n+1) r with
      | none=>none
      | some (xs,is)=>some (x::xs,ids++is)
def z7u (T:Nat):AV ty->Option (List (ty T))
 | .sl T' l=>zCD T' T l
 | .lit (.slice none 0 0)=>some []
 | _=>none
def zbdK (cx:Cx ty) (T:Nat) (v:AV ty):Option (AV ty):=
 match cx.ti T with
 | some ⟨.slice e,_,_,_⟩=>match z7u e v with
  | some l=>some (.sl e l)
  | none=>none
 | some ⟨.struct _,_,_,_⟩=>match v with
  | .agg cs=>match cx.dec T cs with
   | some x=>some (.agg (cx.enc T x))
   | none=>none
  | _=>none
 | _=>some v
def z6m (cx:Cx ty):Option Nat->AV ty->Option (AV ty)
 | none,v=>some v
 | some T,v=>zbdK cx T v
def zmY (cx:Cx ty) (st:St ty):List Bool->List Nat->List (AV ty)->Option (List (Arg ty)×List Nat×List Nat)
 | _,_,[]=>some ([],[],[])
 | io,ts,v::vs=>match zmY cx st io.tail ts.tail vs with
  | none=>none
  | some (as,fz,mv)=>match io.head? with
   | some true=>match v with
    | .own id=>match st.blk id with
     | .arr T l false=>some (.own T l::as,fz,id::mv)
     | _=>none
    | _=>none
   | _=>match zbE cx st zdh v with
    | none=>none
    | some (a,ids)=>match z6m cx ts.head? a with
     | none=>none
     | some a=>some (.pure a::as,ids++fz,mv)
def AV.flat:AV ty->Bool
 | .lit _=>true
 | .err _=>true
 | .agg cs=>cs.all λ| .lit _=>true | _=>false
 | _=>false
def RV.flat:RV ty->Bool
 | .pure a=>a.flat
 | _=>false
def ARes.flat (r:ARes ty):Bool:=r.vals.all RV.flat&&r.upd.all (·.isNone)
def zbc (id:Nat):List (RV ty)->List (AV ty)×List (Nat×Blk ty)
 | []=>([],[])
 | .pure a::r=>let (vs,ws):=zbc (id+1) r; (a::vs,ws)
 | .own T l::r=>let (vs,ws):=zbc (id+1) r; (.own id::vs,(id,.arr T l false)::ws)
def zAd:Option ((T:Nat)×List (ty T))->Blk ty
 | some ⟨T,l⟩=>.arr T l false
 | none=>.dead
def zgr (st:St ty):List Nat->List (Option ((T:Nat)×List (ty T)))->Option (List (Nat×Blk ty))
 | [],[]=>some []
 | id::ids,u::us=>match zgr st ids us with
  | none=>none
  | some r=>match u with
   | none=>some ((id,.dead)::r)
   | some ⟨T,l⟩=>match st.blk id with
    | .arr T' _ _=>match Nat.beq T T' with
     | true=>some ((id,.arr T l false)::r)
     | false=>none
    | _=>none
 | _,_=>none
def zbcx (s:ByteArray) (i:Int):Int:=if h:i.toNat<s.size then ((s[i.toNat]'h).toNat:Int) else 0
def zD:Nat:=70368744177664
section
variable {R:Type}
def zQ (dst:Tmp):Nat:=4*dst
def zfT (st:St ty) (id:Nat):Bool:=match gO st.blks id with | some .none=>true | _=>false
theorem zLw (st:St ty) (id:Nat):zfT st id=match st.blks[id]? with | some .none=>true | _=>false:=by unfold zfT; rw [zbgr]
def zlQ (st:St ty):List (Nat×Blk ty)->Bool
 | []=>true
 | (i,_)::r=>zfT st i&&zlQ st r
def zgB:List Nat->Bool
 | []=>true
 | i::r=> !r.contains i&&zgB r
def zYD (a b:List Nat):Bool:=a.all λi=> !b.contains i
def zblT:List (AV ty)->AV ty
 | [v]=>v
 | vs=>.tup vs
def zy2 (cx:Cx ty) (st:St ty) (dst:Option Tmp) (f:Nat) (ts:List Nat) (vs:List (AV ty)) (K:Delta ty->Option R):Option R:=
 match cx.spec f with
 | none=>none
 | some s=>match zmY cx st (cx.io f) (bif cx.raw f then [] else ts) vs with
  | none=>none
  | some (as,fz,mv)=>match zgB mv&&zYD fz mv with
   | false=>none
   | true=>match s as with
    | none=>none
    | some (pre,res)=>
     bif pre then
      match zgr st mv res.upd with
      | none=>none
      | some us=>match dst with
       | some d=>match zlQ st (zbc (zQ d) res.vals).2&&Nat.ble res.vals.length 3 with
        | true=>K { val:=zblT (zbc (zQ d) res.vals).1
                    wr:=us++(zbc (zQ d) res.vals).2
                    fz:=bif res.flat then [] else fz
                    rd:=fz }
        | false=>none
       | none=>match (zbc 0 res.vals).2 with
        | []=>K { val:=.dead,wr:=us,fz:=bif res.flat then [] else fz,rd:=fz }
        | _=>none
     else none
def zzU (st:St ty):Option Operand->Option (Option Int)
 | none=>some none
 | some x=>match (st.ev x).int64 with
  | some n=>some (some n)
  | none=>none
def ztD (cx:Cx ty) (T:Nat) (st:St ty) (x:AV ty) (lo hi:Option Int) (K:Delta ty->Option R):Option R:=
 match x with
 | .lit (.string s)=>match cx.ti T with
  | some ⟨.str,_,_,_⟩=>
   bif decide (0<=lo.getD 0)&&decide (lo.getD 0<=hi.getD s.size)&&decide (hi.getD s.size<=s.size) then K { val:=.lit (.string (s.extract (lo.getD 0).toNat (hi.getD s.size).toNat)) } else none
  | _=>none
 | .lit (.slice none 0 0)=>match cx.ti T with
  | some ⟨.slice e,_,_,_⟩=>match (cx.ti e).isSome with
   | false=>none
   | true=>bif decide (lo.getD 0=0)&&decide (hi.getD 0=0) then K { val:=.lit (.slice none 0 0) } else none
  | _=>none
 | x=>match cx.ti T,zed st x with
  | some ⟨.slice e,_,_,_⟩,some (⟨T',xs⟩,rd)=>
   match Nat.beq e T'&&(cx.ti e).isSome with
   | false=>none
   | true=>
    bif decide (0<=lo.getD 0)&&decide (lo.getD 0<=hi.getD xs.length)&&decide (hi.getD xs.length<=xs.length) then
     match x with
     | .sl _ _=>K { val:=.sl T' ((xs.drop (lo.getD 0).toNat).take ((hi.getD xs.length).toNat - (lo.getD 0).toNat)) }
     | .own id=>K { val:=.sub id (lo.getD 0).toNat ((hi.getD xs.length).toNat - (lo.getD 0).toNat),rd:=rd }
     | .sub id a _=>K { val:=.sub id (a+(lo.getD 0).toNat) ((hi.getD xs.length).toNat - (lo.getD 0).toNat),rd:=rd }
     | _=>none
    else none
  | _,_=>none
def zs8 (cx:Cx ty) (st:St ty) (dst:Option Tmp) (T:Nat) (s x:AV ty) (K:Delta ty->Option R):Option R:=
 match cx.ti T,dst with
 | some ⟨.slice e,_,_,_⟩,some d=>match cx.ti e with
  | none=>none
  | some inf=>match Nat.beq inf.size 0||Nat.beq inf.bytes 0 with
   | true=>none
   | false=>
       match (match x with | .lit (.slice none 0 0)=>some ([],[]) | .lit (.slice (some _) 0 _)=>some ([],[]) | x=>match zed st x with | some (⟨T',ys⟩,rd)=>(zCD T' e ys).map (·,rd) | none=>none:Option (List (ty e)×List Nat)) with
    | none=>none
    | some (ys,rd)=>
     match s with
     | .lit (.slice none 0 0)=>
      bif zfT st (zQ d)&&decide (ys.length*inf.bytes<=zD) then K { val:=.own (zQ d),wr:=[(zQ d,.arr e ys false)],rd:=rd } else none
     | .own id=>match st.blk id, !rd.contains id&&zfT st (zQ d) with
      | .arr T' l false,true=>match zCD T' e l with
       | none=>none
       | some l=>bif decide ((l.length+ys.length)*inf.bytes<=zD) then K { val:=.own (zQ d),wr:=[(id,.dead),(zQ d,.arr e (l++ys) false)],rd:=rd } else none
      | _,_=>none
     | _=>none
 | _,_=>none
def zvu (cx:Cx ty) (st:St ty) (dst:Option Tmp) (T T':Nat) (s x:AV ty) (K:Delta ty->Option R):Option R:=
 match cx.ti T,cx.ti T',dst with
 | some ⟨.slice e,_,_,_⟩,some ⟨.int .i64,_,_,_⟩,some d=>match s,x with
  | .lit (.slice none 0 0),.lit (.int .i64 n)=>match cx.ti e with
   | some inf=>match cx.dec e (inf.zero.map .lit) with
    | some z=>bif zfT st (zQ d)&&(decide (0<n)&&(decide (n*inf.bytes<=zD)&&(decide (n<=zD)&&(!Nat.beq inf.size 0)))) then K { val:=.own (zQ d),wr:=[(zQ d,.arr e (List.replicate n.toNat z) false)] } else none
    | none=>none
   | none=>none
  | _,_=>none
 | _,_,_=>none
def zDt (f:Int->Int->Int):IntKind->Int->List (AV ty)->Option (AV ty)
 | k,x,[]=>some (.lit (.int k x))
 | k,x,.lit (.int _ y)::r=>zDt f k (f x y) r
 | _,_,_=>none
def zim (cx:Cx ty) (st:St ty) (dst:Option Tmp) (b:Builtin) (ts:List Nat) (vs:List (AV ty)) (K:Delta ty->Option R):Option R:=
 match b,ts,vs with
 | .len,T::_,[v]=>match cx.ti T with
  | some ⟨.str,_,_,_⟩=>match v with
   | .lit (.string s)=>K { val:=.lit (.int .i64 s.size) }
   | _=>none
  | some ⟨.slice _,_,_,_⟩=>match v with
   | .lit (.slice none 0 0)=>K { val:=.lit (.int .i64 0) }
   | .sub id _ n=>match st.blk id with
    | .arr _ _ _=>K { val:=.lit (.int .i64 n),rd:=[id] }
    | _=>none
   | v=>match zed st v with
    | some (⟨_,l⟩,rd)=>K { val:=.lit (.int .i64 l.length),rd:=rd }
    | none=>none
  | some ⟨.map _ _,_,_,_⟩=>match v with
   | .mp id=>match st.blk id with
    | .mp _ _ l _=>K { val:=.lit (.int .i64 l.length),rd:=[id] }
    | _=>none
   | _=>none
  | _=>none
 | .append,[T,T'],[s,x]=>match Nat.beq T T' with
  | true=>zs8 cx st dst T s x K
  | false=>zvu cx st dst T T' s x K
 | .cap,T::_,[.lit (.slice none 0 0)]=>match cx.ti T with
  | some ⟨.slice _,_,_,_⟩=>K { val:=.lit (.int .i64 0) }
  | _=>none
 | .min,_,.lit (.int k x)::r=>match zDt (λx y=>if y<x then y else x) k x r with
  | some v=>K { val:=v }
  | none=>none
 | .max,_,.lit (.int k x)::r=>match zDt (λx y=>if y>x then y else x) k x r with
  | some v=>K { val:=v }
  | none=>none
 | .clear,[T],[.sub id lo n]=>match cx.ti T,st.blk id with
  | some ⟨.slice e,_,_,_⟩,.arr T' l false=>match Nat.beq e T',cx.ti e with
   | true,some inf=>match cx.dec T' (inf.zero.map .lit) with
    | none=>none
    | some z=>bif decide (lo+n<=l.length) then K { val:=.dead,wr:=[(id,.arr T' (l.take lo++List.replicate n z++l.drop (lo+n)) false)] } else none
   | _,_=>none
  | _,_=>none
 | _,_,_=>none
def zbbx (cx:Cx ty) (K:Nat):AV ty->Option Value
 | .lit (.string s)=>match cx.ti K with
  | some ⟨.str,_,_,_⟩=>some (.string s)
  | _=>none
 | .lit (.int k n)=>match cx.ti K with
  | some ⟨.int k',_,_,_⟩=>if k=k' then some (.int k n) else none
  | _=>none
 | .agg cs=>match zIH cs with
  | some us=>match cx.eqs K us us with
   | some _=>some (.agg us.toArray)
   | none=>none
  | none=>none
 | _=>none
def zPv:Value->Value->Bool
 | .string a,.string b=>a.toList==b.toList
 | .int _ a,.int _ b=>a==b
 | .bool a,.bool b=>a==b
 | _,_=>false
def zxQ:List Value->List Value->Bool
 | [],[]=>true
 | x::xs,y::ys=>zPv x y&&zxQ xs ys
 | _,_=>false
def zmo:Value->Value->Bool
 | .string a,.string b=>a==b
 | .int _ a,.int _ b=>a==b
 | .agg a,.agg b=>zxQ a.toList b.toList
 | _,_=>false
def zTC {V:Nat} (k:Value):List (Value×ty V)->Option (ty V)
 | []=>none
 | p::r=>bif zmo k p.1 then some p.2 else zTC k r
def zJ4 {V:Nat} (k:Value):List (Value×ty V)->Bool
 | []=>false
 | p::r=>bif zmo k p.1 then true else zJ4 k r
def zHk {V:Nat} (k:Value) (x:ty V):List (Value×ty V)->List (Value×ty V)
 | []=>[(k,x)]
 | p::r=>bif zmo k p.1 then (k,x)::r else p::zHk k x r
def zGT (cx:Cx ty) (st:St ty) (T:Nat) (m k:AV ty) (ok:Bool) (K:Delta ty->Option R):Option R:=
 match cx.ti T,m with
 | some ⟨.map kt vt,_,_,_⟩,.mp id=>match st.blk id,cx.ti vt with
  | .mp kt' vt' l _,some inf=>match Nat.beq kt kt'&&Nat.beq vt vt'&& !zwY inf,zbbx cx kt k,cx.dec vt' (inf.zero.map .lit) with
   | true,some key,some z=>match cx.enc vt' ((zTC key l).getD z) with
    | [c]=>match ok with
     | true=>K { val:=.tup [c,.lit (.bool (zJ4 key l))],rd:=[id] }
     | false=>K { val:=c,rd:=[id] }
    | _=>none
   | _,_,_=>none
  | _,_=>none
 | _,_=>none
def zvf (cx:Cx ty) (st:St ty) (T:Nat) (m k v:AV ty) (K:Delta ty->Option R):Option R:=
 match cx.ti T,m with
 | some ⟨.map kt vt,_,_,_⟩,.mp id=>match st.blk id with
  | .mp kt' vt' l false=>match Nat.beq kt kt'&&Nat.beq vt vt',zbbx cx kt k,v with
   | true,some key,.lit u=>match cx.dec vt' [.lit u] with
    | some x=>match cx.enc vt' x with
     | [.lit _]=>K { val:=.dead,wr:=[(id,.mp kt' vt' (zHk key x l) false)] }
     | _=>none
    | none=>none
   | _,_,_=>none
  | _=>none
 | _,_=>none
def ze8 (cx:Cx ty) (o:Oper) (st:St ty) (K:Delta ty->Option R):Option R:=
 match o.op with
 | .move x | .assign x=>K { val:=st.ev x }
 | .pick c a b=>match st.ev c with
  | .lit (.bool t)=>K { val:=match t with | true=>st.ev a | false=>st.ev b }
  | _=>none
 | .alloc T=>match cx.ti T,o.dst with
  | some i,some d=>bif zfT st (zQ d) then K { val:=.ptr (zQ d) 0,wr:=[(zQ d,.box (i.zero.map .lit) false)] } else none
  | _,_=>none
 | .box T x=>match cx.ti T,o.dst,(st.ev x).cells st with
  | some _,some d,some cs=>bif zfT st (zQ d) then K { val:=.ptr (zQ d) 0,wr:=[(zQ d,.box cs false)],rd:=z0L cs } else none
  | _,_,_=>none
 | .build T parts=>match cx.ti T with
  | some ⟨.struct fs,_,_,z⟩=>match zjI cx st fs (z.map .lit) (parts.toList.map λ(i,x)=>(i,st.ev x)) with
   | some cs=>K { val:=.agg cs,rd:=parts.toList.flatMap λp=>(st.ev p.2).ids1 }
   | none=>none
  | _=>none
 | .buildSlice T n parts=>match cx.ti T,o.dst with
  | some ⟨.slice e,_,_,_⟩,some d=>match znw cx st e 0 (parts.toList.map λ(i,x)=>(i,st.ev x)),Nat.beq n parts.size,cx.ti e with
   | some (l,fz),true,some inf=>match Nat.ble (n*inf.size) 16777216&&(Nat.ble n 16777216&&zfT st (zQ d)) with
    | true=>K { val:=.own (zQ d),wr:=[(zQ d,.arr e l false)],fz:=fz,rd:=fz }
    | false=>none
   | _,_,_=>none
  | _,_=>none
 | .load T x=>match cx.ti T,ze2 cx st (st.ev x) with
  | some i,some (cs,off,rd)=>match cut i cs off with
   | some v=>K { val:=v,rd:=rd }
   | none=>none
  | _,_=>none
 | .store T x y=>match cx.ti T,(st.ev y).cells st with
  | some i,some new=>match Nat.beq new.length i.size with
   | false=>none
   | true=>match st.ev x with
    | .ptr id off=>match st.blk id with
     | .box cs false=>match splice cs off new with
      | some cs'=>K { val:=.dead,wr:=[(id,.box cs' false)],rd:=z0L new }
      | none=>none
     | _=>none
    | .eptr id ix off=>match st.blk id,zf3 (zbE cx st zdh) new with
     | .arr T' l false,some (new',fz)=>match splice (cx.enc T' (l.getD ix (cx.dflt T'))) off new',fz.contains id with
      | some cs',false=>match cx.dec T' cs' with
       | some x'=>bif decide (ix<l.length) then K { val:=.dead,wr:=[(id,.arr T' (l.set ix x') false)],fz:=fz,rd:=fz } else none
       | none=>none
      | _,_=>none
     | _,_=>none
    | _=>none
  | _,_=>none
 | .nilCheck x=>match st.ev x with
  | .fn f cs=>K { val:=.fn f cs }
  | v=>match ze2 cx st v with
   | some (_,_,rd)=>K { val:=v,rd:=rd }
   | none=>none
 | .binOp op T x y _=>match zbj5 cx op T (st.ev x) y with
  | some v=>K { val:=v }
  | none=>match zbj1 cx op T (st.ev x) (st.ev y) with
  | some (b,v)=>bif b then K { val:=v } else none
  | none=>none
 | .unOp op _ x=>match op,st.ev x with
  | .not,.lit (.bool b)=>K { val:=.lit (.bool (!b)) }
  | .neg,.lit (.int k n)=>K { val:=.lit (.int k (k.wrap (0 - n))) }
  | _,_=>none
 | .convert S D x=>match cx.ti S,cx.ti D,st.ev x with
  | some ⟨.int _,_,_,_⟩,some ⟨.int k,_,_,_⟩,.lit (.int _ n)=>K { val:=.lit (.int k (k.wrap n)) }
  | some ⟨.str,_,_,_⟩,some ⟨.str,_,_,_⟩,.lit (.string s)=>K { val:=.lit (.string s) }
  | some ⟨.slice e,_,_,_⟩,some ⟨.str,_,_,_⟩,v=>match cx.ti e,zed st v with
   | some ⟨.int .u8,sz,_,_⟩,some (⟨T',l⟩,rd)=>match Nat.beq sz 1&&Nat.beq e T',bytesOf (l.flatMap (cx.enc T')) with
    | true,some ns=>K { val:=.lit (.string (ns.foldl (λr n=>r.push (UInt8.ofNat n.toNat)) ByteArray.empty)),rd:=rd }
    | _,_=>none
   | _,_=>none
  | _,_,_=>none
 | .makeFunc (.func g) first caps=>match first.toList with
  | []=>K { val:=.fn g (caps.toList.map st.ev) }
  | _=>none
 | .makeSlice T n c=>match cx.ti T,o.dst,(st.ev n).int64,(st.ev c).int64 with
  | some ⟨.slice e,_,_,_⟩,some d,some n,some c=>match cx.ti e with
   | some inf=>match cx.dec e (inf.zero.map .lit) with
    | some z=>bif zfT st (zQ d)&&decide (0<=n)&&decide (n<=c)&&decide (c*inf.bytes<=zD)&&decide (c<=zD) then K { val:=.own (zQ d),wr:=[(zQ d,.arr e (List.replicate n.toNat z) false)] } else none
    | none=>none
   | none=>none
  | _,_,_,_=>none
 | .slice T x lo hi none=>match zzU st lo,zzU st hi with
  | some lo,some hi=>ztD cx T st (st.ev x) lo hi K
  | _,_=>none
 | .fieldAddr S x f=>match cx.ti S with
  | some ⟨.struct fs,_,_,_⟩=>match fs[f]? with
   | some (o,T)=>match cx.ti T,shift o (st.ev x),ze2 cx st (st.ev x) with
    | some i,some v,some (_,_,rd)=>match Nat.beq i.size 0 with
     | false=>K { val:=v,rd:=rd }
     | true=>none
    | _,_,_=>none
   | none=>none
  | _=>none
 | .field S x f=>match cx.ti S,st.ev x with
  | some ⟨.struct fs,_,_,_⟩,.agg cs=>match fs[f]? with
   | some (o,T)=>match cx.ti T with
    | some i=>match cut i cs o with
     | some v=>K { val:=v }
     | none=>none
    | none=>none
   | none=>none
  | _,_=>none
 | .indexAddr T x i=>match cx.ti T,(st.ev i).int64 with
  | some ⟨.slice e,_,_,_⟩,some i=>match st.ev x with
   | .sl T' l=>match Nat.beq e T'&&(cx.ti e).isSome with
    | true=>bif decide (0<=i)&&decide (i<l.length) then K { val:=.fptr T' (l.getD i.toNat (cx.dflt T')) 0 } else none
    | false=>none
   | .own id=>match st.blk id with
    | .arr T' l _=>match Nat.beq e T'&&(cx.ti e).isSome with
     | true=>bif decide (0<=i)&&decide (i<l.length) then K { val:=.eptr id i.toNat 0,rd:=[id] } else none
     | false=>none
    | _=>none
   | .sub id lo n=>match st.blk id with
    | .arr T' _ _=>match Nat.beq e T'&&(cx.ti e).isSome with
     | true=>bif decide (0<=i)&&decide (i<n) then K { val:=.eptr id (lo+i.toNat) 0,rd:=[id] } else none
     | false=>none
    | _=>none
   | _=>none
  | _,_=>none
 | .index T x i=>match cx.ti T,st.ev x,(st.ev i).int64 with
  | some ⟨.str,_,_,_⟩,.lit (.string s),some i=>bif decide (0<=i)&&decide (i<s.size) then K { val:=.lit (.int .u8 (zbcx s i)) } else none
  | _,_,_=>none
 | .extract x i=>match st.ev x with
  | .tup vs=>match vs[i]? with
   | some v=>K { val:=v }
   | none=>none
  | _=>none
 | .makeMap T none=>match cx.ti T,o.dst with
  | some ⟨.map kt vt,_,_,_⟩,some d=>bif zfT st (zQ d) then K { val:=.mp (zQ d),wr:=[(zQ d,.mp kt vt [] false)] } else none
  | _,_=>none
 | .lookup T m k ok=>zGT cx st T (st.ev m) (st.ev k) ok K
 | .mapUpdate T m k v=>zvf cx st T (st.ev m) (st.ev k) (st.ev v) K
 | .insert T m k v=>zvf cx st T (st.ev m) (st.ev k) (st.ev v) K
 | .call c=>match c.callee with
  | .value f=>match st.ev f with
   | .fn g caps=>zy2 cx st o.dst g c.argTypes.toList (c.args.toList.map st.ev++caps) K
   | _=>none
  | .builtin b=>zim cx st o.dst b c.argTypes.toList (c.args.toList.map st.ev) K
  | _=>none
 | _=>none
def z6h (st:St ty) (t:Tmp) (K:St ty->Option R):Option R:=
 match st.get t with
 | .lit (.bool b)=>bif b then K (st.setT t (.lit (.bool true))) else K (st.setT t (.lit (.bool false)))
 | _=>K st
def zRE:Delta ty:={ val:=.lit undef }
def zbbC (cx:Cx ty) (o:Oper) (st:St ty) (K:Delta ty->St ty->Option R):Option R:=
 match o.op with
 | .pick (.tmp t) _ _=>z6h st t λst=>ze8 cx o st λd=>K d st
 | _=>ze8 cx o st λd=>K d st
def z6d (cx:Cx ty) (ops:Array Oper) (o:Oper) (st:St ty) (K:Delta ty->St ty->Option R):Option R:=
 match o.guard with
 | none=>zbbC cx o st K
 | some (g,want)=>match (gO ops.toList g).bind (·.dst) with
  | none=>none
  | some t=>z6h st t λst=>match st.get t with
   | .lit (.bool b)=>bif (b==want) then zbbC cx o st K else K zRE st
   | .lit (.tuple _)=>K zRE st
   | _=>none
def zDP (ps:List (List Nat)) (o:Oper):List Nat:=
 o.after.toList.flatMap λe=>bif Region.binds .any e then e.on::ps.getD e.on [] else []
def zzu:List (List Nat)->List Oper->List (List Nat)
 | ps,[]=>ps
 | ps,o::r=>zzu (ps++[(zDP ps o).eraseDups]) r
def zbbB (ops:List Oper):List (List Nat):=zzu [] ops
def zNM:Nat->List Oper->Bool
 | _,[]=>true
 | i,o::r=>(o.after.all λe=> !Region.binds .any e||Nat.blt e.on i)&&zNM (i+1) r
structure Foot where
 wr:List Nat
 fz:List Nat
 rd:List Nat
 /-- It makes new blocks alone. -/
 nw:Bool:=false
def Delta.foot (d:Delta ty):Foot:=⟨d.wr.map (·.1),d.fz,d.rd,false⟩
def Delta.footN (d:Delta ty) (st:St ty):Foot:=⟨d.wr.map (·.1),d.fz,d.rd,zlQ st d.wr&&d.fz.isEmpty⟩
def zU2 (o:Oper):Bool:=match o.op with | .load _ _=>true | .fieldAddr _ _ _=>true | _=>false
def zCW (o:Oper):Bool:=match o.op with
 | .load _ _=>true
 | .alloc _=>true
 | .box _ _=>true
 | .store _ _ _=>true
 | .fieldAddr _ _ _=>true
 | .indexAddr _ _ _=>true
 | .build _ _=>true
 | .buildSlice _ _ _=>true
 | .slice _ _ _ _ none=>true
 | .call c=>match c.callee with
  | .value _=>true
  | .builtin .append=>true
  | .builtin .len=>true
  | _=>false
 | _=>false
def Foot.sep (a b:Foot):Bool:=zYD (a.wr++a.fz) (b.wr++(b.fz++b.rd))&&zYD (b.wr++b.fz) (a.wr++(a.fz++a.rd))
def Foot.eff (a:Foot):Bool:= !(a.wr.isEmpty&&a.fz.isEmpty)
def Foot.empty (a:Foot):Bool:=a.wr.isEmpty&&a.fz.isEmpty&&a.rd.isEmpty
def Foot.free (a b:Foot):Bool:=(!a.eff&& !b.eff)||a.empty||b.empty
def zSR (ops:Array Oper) (o:Oper) (pre:List Nat) (f:Foot):List (Nat×Oper×Foot)->Bool
 | []=>true
 | (j,oj,fj)::r=>(pre.contains j||(oj.apart ops o&&(fj.free f||((zU2 oj&&(!fj.eff&&f.nw))||(zCW oj&&(zCW o&&fj.sep f))))))&&zSR ops o pre f r
def z0Q (cx:Cx ty) (ops:Array Oper):List Oper->St ty->(St ty->Option R)->Option R
 | [],st,K=>K st
 | o::r,st,K=>z6d cx ops o st λd st=>z0Q cx ops r (st.app o.dst d) K
def zHe (cx:Cx ty) (ops:Array Oper) (ps:List (List Nat)):Nat->List Oper->List (Nat×Oper×Foot)->St ty->(St ty->Option R)->Option R
 | _,[],_,st,K=>K st
 | i,o::r,tr,st,K=>z6d cx ops o st λd st=>
  match zSR ops o (ps.getD i []) (d.footN st) tr with
  | true=>zHe cx ops ps (i+1) r ((i,o,d.footN st)::tr) (st.app o.dst d) K
  | false=>none
def zbbG (ops:Array Oper) (o:Oper) (pre:List Nat):List (Nat×Oper)->Bool
 | []=>true
 | (j,oj)::r=>(pre.contains j||oj.apart ops o)&&zbbG ops o pre r
def z0A (ops:Array Oper) (ps:List (List Nat)):Nat->List Oper->List (Nat×Oper)->Bool
 | _,[],_=>true
 | i,o::r,tr=>zbbG ops o (gD [] ps i) tr&&z0A ops ps (i+1) r ((i,o)::tr)
def zbdj (o:Oper) (pre:List Nat) (f:Foot):List (Nat×Oper×Foot)->Bool
 | []=>true
 | (j,oj,fj)::r=>((fj.free f||((zU2 oj&&(!fj.eff&&f.nw))||(zCW oj&&(zCW o&&fj.sep f))))||pre.contains j)&&zbdj o pre f r
def zIo (cx:Cx ty) (ops:Array Oper) (ps:List (List Nat)):Nat->List Oper->List (Nat×Oper×Foot)->St ty->(St ty->Option R)->Option R
 | _,[],_,st,K=>K st
 | i,o::r,tr,st,K=>z6d cx ops o st λd st=>
  match (d.footN st).empty with
  | true=>zIo cx ops ps (i+1) r tr (st.app o.dst d) K
  | false=>match zbdj o (gD [] ps i) (d.footN st) tr with
   | true=>zIo cx ops ps (i+1) r ((i,o,d.footN st)::tr) (st.app o.dst d) K
   | false=>none
def zbnD (o:Oper):Bool:=match o.op with | .select ..=>false | _=>true
def zbgC:Nat->AV ty->List Nat
 | 0,_=>[]
 | n+1,v=>match v with
  | .own id | .sub id _ _ | .ptr id _ | .eptr id _ _ | .mp id=>[id]
  | .agg cs | .fn _ cs | .tup cs=>cs.flatMap (zbgC n)
  | _=>[]
def zbiT:Blk ty->List Nat
 | .box cs _=>cs.flatMap (zbgC zdh)
 | _=>[]
def zbcJ (st:St ty):Nat->List Nat->List Nat
 | 0,l=>l.eraseDups
 | n+1,l=>zbcJ st n (l++l.flatMap λi=>zbiT (st.blk i)).eraseDups
def zUp (ren:List (Nat×Nat)) (i:Nat) (K:Nat->AV ty):AV ty:=
 match ren.lookup i with
 | some j=>K j
 | none=>.dead
def zHY (ren:List (Nat×Nat)):Nat->AV ty->AV ty
 | 0,_=>.dead
 | n+1,v=>match v with
  | .own id=>zUp ren id .own
  | .sub id lo k=>zUp ren id (.sub · lo k)
  | .ptr id off=>zUp ren id (.ptr · off)
  | .eptr id ix off=>zUp ren id (.eptr · ix off)
  | .mp id=>zUp ren id .mp
  | .agg cs=>.agg (cs.map (zHY ren n))
  | .tup cs=>.tup (cs.map (zHY ren n))
  | .fn f cs=>.fn f (cs.map (zHY ren n))
  | v=>v
def zMf (ren:List (Nat×Nat)):Blk ty->Blk ty
 | .box cs fz=>.box (cs.map (zHY ren zdh)) fz
 | b=>b
def zTd (t id:Nat):Nat->List (Nat×Nat)->St ty->Option (St ty)
 | _,[],st=>some st
 | k,(off,T)::r,st=>match st.blk id with
  | .box cs false=>match gD .dead cs off with
   | .lit (.slice none 0 0)=>match zfT st (zQ t+k) with
    | true=>zTd t id (k+1) r { st with blks:=sT (.box (sT (.own (zQ t+k)) cs off) false) (sT (.arr T [] false) st.blks (zQ t+k)) id }
    | false=>none
   | .own j=>match st.blk j with
    | .arr T' _ false=>match Nat.beq T T' with
     | true=>zTd t id (k+1) r st
     | false=>none
    | _=>none
   | _=>none
  | _=>none
def zNi (cx:Cx ty) (st:St ty) (t:Nat):LMode->Option (St ty)
 | .keep=>some st
 | .pure=>match zbE cx st zdh (st.get t) with
  | some (v,ids)=>some { tmps:=sT v st.tmps t,blks:=fzF st.blks ids }
  | none=>none
 | .sl e=>match zbE cx st zdh (st.get t) with
  | some (v,ids)=>match z7u e v with
   | some l=>some { tmps:=sT (.sl e l) st.tmps t,blks:=fzF st.blks ids }
   | none=>none
  | none=>none
 | .own T=>match st.get t with
  | .lit (.slice none 0 0)=>match zfT st (zQ t+3) with
   | true=>some { tmps:=sT (.own (zQ t+3)) st.tmps t,blks:=sT (.arr T [] false) st.blks (zQ t+3) }
   | false=>none
  | .own id=>match st.blk id with
   | .arr T' _ false=>match Nat.beq T T' with
    | true=>some st
    | false=>none
   | _=>none
  | _=>none
 | .boxOwn l=>match st.get t with
  | .ptr id _=>zTd t id 1 l st
  | _=>none
def zMD (cx:Cx ty):List (Nat×LMode)->St ty->Option (St ty)
 | [],st=>some st
 | (t,m)::r,st=>match zNi cx st t m with
  | some st=>zMD cx r st
  | none=>none
def zvD:Nat->Nat->List (Nat×AV ty)->List (AV ty)
 | _,0,_=>[]
 | t,n+1,[]=>.dead::zvD (t+1) n []
 | t,n+1,(t',v)::r=>match Nat.beq t t' with
  | true=>v::zvD (t+1) n r
  | false=>.dead::zvD (t+1) n ((t',v)::r)
def z0O (nt:Nat) (live:List (Nat×LMode)) (vals:List (AV ty)) (bs:List (Blk ty)):St ty:=
 { tmps:=zvD 0 nt ((live.map (·.1)).zip vals),blks:=List.replicate (4*nt) .none++bs }
def zBT:List Nat->Bool
 | i::j::r=>Nat.blt i j&&zBT (j::r)
 | _=>true
def zbbu (nt:Nat) (ids:List Nat):List (Nat×Nat):=ids.zip (List.range' (4*nt) ids.length)
def zvw (st:St ty) (live:List (Nat×LMode)):List Nat:=zbcJ st 2 (live.flatMap λt=>zbgC zdh (st.get t.1))
def canon (cx:Cx ty) (live:List (Nat×LMode)) (st:St ty):Option (List (AV ty)×List (Blk ty)):=
 match zMD cx live st with
 | none=>none
 | some st=>
  match zgB (zvw st live)&&zBT (live.map (·.1))&&Nat.beq st.tmps.length cx.nt with
  | true=>some (live.map λt=>zHY (zbbu cx.nt (zvw st live)) zdh (st.get t.1),(zvw st live).map λi=>zMf (zbbu cx.nt (zvw st live)) (st.blk i))
  | false=>none
def zcf:Code->Nat
 | .region id _ _=>id
 | .seq a _=>zcf a
 | .cond _ a _=>zcf a
 | .block _ c=>zcf c
 | .loop c=>zcf c
 | .scope c=>zcf c
 | _=>0
def zy0 (K:Ex->List (AV ty)->List (Blk ty)->Option R):LTree ty->Option R
 | .done ex vals bs=>K ex vals bs
 | .ite b t e=>bif b then zy0 K t else zy0 K e
def z6e (cx:Cx ty) (id:Nat) (K:Ex->St ty->Option R) (ex:Ex) (vals:List (AV ty)) (bs:List (Blk ty)):Option R:=
 K ex (z0O cx.nt (cx.out id ex) vals bs)
def zw4 (cx:Cx ty):Code->St ty->(Ex->St ty->Option R)->Option R
 | .skip,st,K=>K .normal st
 | .label _,st,K=>K .normal st
 | .region _ ops draw,st,K=>match draw with
  | false=>z0Q cx ops ops.toList st (K .normal)
  | true=>match zNM 0 ops.toList&&(ops.toList.all zbnD&&z0A ops (zbbB ops.toList) 0 ops.toList []) with
   | true=>zIo cx ops (zbbB ops.toList) 0 ops.toList [] st (K .normal)
   | false=>none
 | .seq a b,st,K=>zw4 cx a st λex st=>match ex with
  | .normal=>match cx.joins (zcf b) with
   | none=>zw4 cx b st K
   | some sp=>match canon cx (cx.head (zcf b)) st with
    | some (vals,bs)=>match sp vals bs with
     | some (pre,t)=>bif pre then zy0 (z6e cx (zcf b) K) t else none
     | none=>none
    | none=>none
  | ex=>K ex st
 | .cond c a b,st,K=>match c with
  | .tmp t=>match st.get t with
   | .lit (.bool v)=>bif v then zw4 cx a (st.setT t (.lit (.bool true))) K else zw4 cx b (st.setT t (.lit (.bool false))) K
   | _=>none
  | _=>none
 | .block id c,st,K=>zw4 cx c st λex st=>match ex with
  | .exit j=>match Nat.beq j id with
   | true=>K .normal st
   | false=>K (.exit j) st
  | ex=>K ex st
 | .loop c,st,K=>match cx.loops (zcf c),canon cx (cx.head (zcf c)) st with
  | some sp,some (vals,bs)=>match sp vals bs with
   | some (pre,t)=>bif pre then zy0 (z6e cx (zcf c) K) t else none
   | none=>none
  | _,_=>none
 | .exit id,st,K=>K (.exit id) st
 | .ret,st,K=>K .ret st
 | .scope c,st,K=>zw4 cx c st K
 | _,_,_=>none
def zTL (cx:Cx ty) (id:Nat) (H:List (AV ty)->List (Blk ty)->Option R) (K:Ex->List (AV ty)->List (Blk ty)->Option R) (ex:Ex) (st:St ty):Option R:=
 match ex with
 | .normal=>match canon cx (cx.head id) st with
  | some (vals,bs)=>H vals bs
  | none=>none
 | ex=>match canon cx (cx.out id ex) st with
  | some (vals,bs)=>K ex vals bs
  | none=>none
def zE3 (cx:Cx ty) (c:Code) (H:List (AV ty)->List (Blk ty)->Option R) (K:Ex->List (AV ty)->List (Blk ty)->Option R) (vals:List (AV ty)) (bs:List (Blk ty)):Option R:=
 zw4 cx c (z0O cx.nt (cx.head (zcf c)) vals bs) (zTL cx (zcf c) H K)
def zUa (cx:Cx ty) (c:Code) (K:Ex->List (AV ty)->List (Blk ty)->Option R):Nat->List (AV ty)->List (Blk ty)->Option R
 | 0,_,_=>none
 | n+1,vals,bs=>zE3 cx c (zUa cx c K n) K vals bs
end
def zEI (cx:Cx ty) (c:Code) (vals:List (AV ty)) (bs:List (Blk ty)) (t:LTree ty):Prop:=
 ∃ n,∀ (R:Type) (K:Ex->List (AV ty)->List (Blk ty)->Option R),zUa cx c K n vals bs=zy0 K t
theorem zEI.next {cx:Cx ty} {c:Code} {vals vals':List (AV ty)} {bs bs':List (Blk ty)} {t:LTree ty}
  (h:∀ (R:Type) (H:List (AV ty)->List (Blk ty)->Option R) K,zE3 cx c H K vals bs=H vals' bs') (h':zEI cx c vals' bs' t):zEI cx c vals bs t:=by
 obtain ⟨n,hn⟩:=h';exact ⟨n+1,λR K=>(h R _ K).trans (hn R K)⟩
theorem zEI.out {cx:Cx ty} {c:Code} {vals:List (AV ty)} {bs:List (Blk ty)} {t:LTree ty}
  (h:∀ (R:Type) (H:List (AV ty)->List (Blk ty)->Option R) K,zE3 cx c H K vals bs=zy0 K t):zEI cx c vals bs t:=
 ⟨1,λR K=>h R _ K⟩
def zbhX (cx:Cx ty) (c:Code) (vals:List (AV ty)) (bs:List (Blk ty)) (t:LTree ty):Prop:=
 ∀ (R:Type) (K:Ex->List (AV ty)->List (Blk ty)->Option R),zE3 cx c (λ_ _=>none) K vals bs=zy0 K t
inductive RMode where
 | pure
 | own (T:Nat)
 /-- as it stands (a nil slice stays one) -/
 | raw
structure Sig where
 res:List RMode
 upd:List Bool:=[]
def Arg.av (top:Nat):List (Arg ty)->List (AV ty)×List (Blk ty)
 | []=>([],[])
 | .pure a::r=>let (vs,bs):=Arg.av top r; (a::vs,bs)
 | .own T l::r=>let (vs,bs):=Arg.av (top+1) r; (.own top::vs,.arr T l false::bs)
def start (nt:Nat) (args:List (Arg ty)):St ty:=
 let (vs,bs):=Arg.av (4*nt) args
 { tmps:=vs++List.replicate (nt - vs.length) (.lit undef),blks:=List.replicate (4*nt) .none++bs }
def zTT (cx:Cx ty) (st:St ty):List RMode->List Nat->List (AV ty)->Option (List (RV ty)×List Nat×List Nat)
 | [],_,[]=>some ([],[],[])
 | m::ms,ts,v::vs=>match zTT cx st ms ts.tail vs with
  | none=>none
  | some (rs,fz,mv)=>match m with
   | .pure=>match zbE cx st zdh v with
    | some (a,ids)=>match z6m cx ts.head? a with
     | some a=>some (.pure a::rs,ids++fz,mv)
     | none=>none
    | none=>none
   | .raw=>match zbE cx st zdh v with
    | some (a,ids)=>some (.pure a::rs,ids++fz,mv)
    | none=>none
   | .own T=>match v with
    | .lit (.slice none 0 0)=>some (.own T []::rs,fz,mv)
    | .own id=>match st.blk id with
     | .arr T' l false=>match Nat.beq T T' with
      | true=>some (.own T' l::rs,fz,id::mv)
      | false=>none
     | _=>none
    | .sub id 0 n=>match st.blk id with
     | .arr T' l false=>match Nat.beq T T' with
      | true=>some (.own T' (l.take n)::rs,fz,id::mv)
      | false=>none
     | _=>none
    | _=>none
 | _,_,_=>none
def z67 (st:St ty):List Nat->List Bool->Option (List (Option ((T:Nat)×List (ty T)))×List Nat)
 | _,[]=>some ([],[])
 | ts,u::us=>match z67 st ts.tail us with
  | none=>none
  | some (r,mv)=>match u with
   | false=>some (none::r,mv)
   | true=>match ts with
    | []=>none
    | t::_=>match st.get t with
     | .own id=>match st.blk id with
      | .arr T l false=>some (some ⟨T,l⟩::r,id::mv)
      | _=>none
     | _=>none
def zAx:Nat->List (Arg ty)->List Nat
 | _,[]=>[]
 | t,.own _ _::r=>t::zAx (t+1) r
 | t,.pure _::r=>zAx (t+1) r
def z5k (cx:Cx ty) (st:St ty):ResultVar->Option (AV ty)
 | .tmp t=>some (st.get t)
 | .cell a T=>match cx.ti T,ze2 cx st (st.get a) with
  | some i,some (cs,off,_)=>cut i cs off
  | _,_=>none
def zJB (cx:Cx ty) (st:St ty):List ResultVar->Option (List (AV ty))
 | []=>some []
 | r::rs=>match z5k cx st r,zJB cx st rs with
  | some v,some vs=>some (v::vs)
  | _,_=>none
def zYH (cx:Cx ty) (sg:Sig) (ots:List Nat) (ts:List Nat) (rs:List ResultVar) (st:St ty):Option (ARes ty):=
 match zJB cx st rs with
 | none=>none
 | some avs=>match zTT cx st sg.res ts avs,z67 st ots sg.upd with
 | some (vs,fz,mv),some (us,mu)=>match zgB (mv++mu)&&zYD fz (mv++mu) with
  | true=>some ⟨vs,us⟩
  | false=>none
 | _,_=>none
def zeQ (cx:Cx ty) (fn:Func) (c:Code) (sg:Sig) (args:List (Arg ty)):Option (ARes ty):=
 zw4 cx c (start fn.ntmps args) λex st=>match ex with
  | .exit _=>none
  | _=>zYH cx sg (zAx 0 args) fn.resultTypes.toList fn.results.toList st
end
end
end Go.Ab
/- What abstract values mean in a world: the relation between a state of the abstract interpreter and a frame and a world of the machine, and the laws by which it is kept. -/
namespace Go.Ab
noncomputable section
variable {ty:Nat->Type}
structure All2 {α β:Type} (R:α->β->Prop) (us:List α) (cs:List β):Prop where
 len:us.length=cs.length
 at_:∀ (j:Nat) u c,us[j]? =some u->cs[j]? =some c->R u c
def zcP (cx:Cx ty) (T:Nat) (l:List (ty T)):List (AV ty):=l.flatMap (cx.enc T)
inductive Rep (cx:Cx ty) (F:Nat->Prop) (w:World):Value->AV ty->Prop where
 | lit (v:Value):Rep cx F w v (.lit v)
 | slE (a:Option Addr) (c T:Nat) (hn:a=none->c=0):Rep cx F w (.slice a 0 c) (.sl T [])
 | errN:Rep cx F w .nilIface (.err false)
 | errS (t:TypeId) (u:Value):Rep cx F w (.iface t u) (.err true)
 | sl (b off cap T:Nat) (l:List (ty T)) (us:List Value) (hF:F b) (hcap:l.length<=cap) (hlen:us.length=(zcP cx T l).length)
   (hc:∀ (j:Nat) u,us[j]? =some u->w.cell? ⟨b,off+j,none⟩=some u) (hr:∀ (j:Nat) u c,us[j]? =some u->(zcP cx T l)[j]? =some c->Rep cx F w u c):
   Rep cx F w (.slice (some ⟨b,off,none⟩) l.length cap) (.sl T l)
 | fptr (b off0 off T:Nat) (x:ty T) (us:List Value) (hF:F b) (hlen:us.length=(cx.enc T x).length)
   (hc:∀ (j:Nat) u,us[j]? =some u->w.cell? ⟨b,off0+j,none⟩=some u) (hr:∀ (j:Nat) u c,us[j]? =some u->(cx.enc T x)[j]? =some c->Rep cx F w u c):
   Rep cx F w (.pointer (some ⟨b,off0+off,none⟩)) (.fptr T x off)
 | bptr (b off:Nat) (cs:List (AV ty)) (us:List Value) (hF:F b) (hlen:us.length=cs.length)
   (hc:∀ (j:Nat) u,us[j]? =some u->w.cell? ⟨b,j,none⟩=some u) (hr:∀ (j:Nat) u c,us[j]? =some u->cs[j]? =some c->Rep cx F w u c):
   Rep cx F w (.pointer (some ⟨b,off,none⟩)) (.bptr cs off)
 | agg (vs:List Value) (cs:List (AV ty)) (hlen:vs.length=cs.length) (hr:∀ (j:Nat) u c,vs[j]? =some u->cs[j]? =some c->Rep cx F w u c):Rep cx F w (.agg vs.toArray) (.agg cs)
 | fn (f:Nat) (vs:List Value) (cs:List (AV ty)) (hlen:vs.length=cs.length) (hr:∀ (j:Nat) u c,vs[j]? =some u->cs[j]? =some c->Rep cx F w u c):Rep cx F w (.func (.func f) #[] vs.toArray) (.fn f cs)
theorem Rep.mono {cx:Cx ty} {F F':Nat->Prop} {w w':World} (h:∀ b,F b->F' b/\w'.heap[b]? =w.heap[b]?) {v:Value} {a:AV ty} (hr:Rep cx F w v a):Rep cx F' w' v a:=by
 induction hr with
 | lit v=>exact .lit v
 | slE a c T hn=>exact .slE a c T hn
 | errN=>exact .errN
 | errS t u=>exact .errS t u
 | sl b off cap T l us hF hcap hlen hc hr ih=>
  exact .sl b off cap T l us (h b hF).1 hcap hlen (λj u hu=>(World.cell?_of_block (a:=⟨b,off+j,none⟩) (h b hF).2).trans (hc j u hu)) ih
 | fptr b off0 off T x us hF hlen hc hr ih=>
  exact .fptr b off0 off T x us (h b hF).1 hlen (λj u hu=>(World.cell?_of_block (a:=⟨b,off0+j,none⟩) (h b hF).2).trans (hc j u hu)) ih
 | bptr b off cs us hF hlen hc hr ih=>
  exact .bptr b off cs us (h b hF).1 hlen (λj u hu=>(World.cell?_of_block (a:=⟨b,j,none⟩) (h b hF).2).trans (hc j u hu)) ih
 | agg vs cs hlen hr ih=>exact .agg vs cs hlen ih
 | fn f vs cs hlen hr ih=>exact .fn f vs cs hlen ih
inductive Kind where
 | none
 | dead
 | box
 | arr (k n:Nat)
 | mp
def zt (cx:Cx ty) (T:Nat):Nat:=match cx.ti T with | some i=>i.size | none=>0
def Blk.kind (cx:Cx ty):Blk ty->Kind
 | .none=>.none
 | .dead=>.dead
 | .box _ _=>.box
 | .arr T l _=>.arr (zt cx T) l.length
 | .mp _ _ _ _=>.mp
def zow (k lo n:Nat) (row v:Value):Prop:=
 match row with
 | .slice (some a) _ cap=>v=.slice (some (a.add (lo*k))) n (cap - lo)\/(n=0/\0<lo/\∃ b c,v=.slice b 0 c/\(b=none->c=0))
 | _=>∃ b c,v=.slice b n c/\n=0/\(lo=0->v=row)/\(b=none->c=0)
inductive RepA (cx:Cx ty) (F:Nat->Prop) (w:World) (kd:Nat->Kind) (κ:Nat->Value):Value->AV ty->Prop where
 | rep {v:Value} {a:AV ty} (h:Rep cx F w v a):RepA cx F w kd κ v a
 | own (id k n:Nat) (h:kd id=.arr k n):RepA cx F w kd κ (κ id) (.own id)
 | ownD (v:Value) (id:Nat) (h:kd id=.dead):RepA cx F w kd κ v (.own id)
 | sub (v:Value) (id lo n k m:Nat) (h:kd id=.arr k m) (hl:lo+n<=m) (hv:zow k lo n (κ id) v):RepA cx F w kd κ v (.sub id lo n)
 | subD (v:Value) (id lo n:Nat) (h:kd id=.dead):RepA cx F w kd κ v (.sub id lo n)
 | ptr (id off b:Nat) (h:kd id=.box) (hb:κ id=.pointer (some ⟨b,0,none⟩)):RepA cx F w kd κ (.pointer (some ⟨b,off,none⟩)) (.ptr id off)
 | ptrD (v:Value) (id off:Nat) (h:kd id=.dead):RepA cx F w kd κ v (.ptr id off)
 | eptr (id ix off b k m n cap:Nat) (h:kd id=.arr k m) (hi:ix<m) (hb:κ id=.slice (some ⟨b,0,none⟩) n cap):RepA cx F w kd κ (.pointer (some ⟨b,ix*k+off,none⟩)) (.eptr id ix off)
 | eptrD (v:Value) (id ix off:Nat) (h:kd id=.dead):RepA cx F w kd κ v (.eptr id ix off)
 | agg (vs:List Value) (cs:List (AV ty)) (hlen:vs.length=cs.length) (hr:∀ (j:Nat) u c,vs[j]? =some u->cs[j]? =some c->RepA cx F w kd κ u c):RepA cx F w kd κ (.agg vs.toArray) (.agg cs)
 | tup (vs:List Value) (cs:List (AV ty)) (hlen:vs.length=cs.length) (hr:∀ (j:Nat) u c,vs[j]? =some u->cs[j]? =some c->RepA cx F w kd κ u c):RepA cx F w kd κ (.tuple vs.toArray) (.tup cs)
 | fn (f:Nat) (vs:List Value) (cs:List (AV ty)) (hlen:vs.length=cs.length) (hr:∀ (j:Nat) u c,vs[j]? =some u->cs[j]? =some c->RepA cx F w kd κ u c):RepA cx F w kd κ (.func (.func f) #[] vs.toArray) (.fn f cs)
 | mp (id:Nat) (h:kd id=.mp):RepA cx F w kd κ (κ id) (.mp id)
 | mpD (v:Value) (id:Nat) (h:kd id=.dead):RepA cx F w kd κ v (.mp id)
 | dead (v:Value):RepA cx F w kd κ v .dead
theorem RepA.mono {cx:Cx ty} {F F':Nat->Prop} {w w':World} {kd kd':Nat->Kind} {κ κ':Nat->Value} (h:∀ b,F b->F' b/\w'.heap[b]? =w.heap[b]?)
  (hk:∀ id,kd id≠.none->(kd' id=kd id/\κ' id=κ id)\/kd' id=.dead) {v:Value} {a:AV ty} (hr:RepA cx F w kd κ v a):RepA cx F' w' kd' κ' v a:=by
 induction hr with
 | rep hr=>exact .rep (hr.mono h)
 | own id k n hid=>
  rcases hk id (by rw [hid]; simp) with ⟨h1,h2⟩ | h1
  ·rw [<- h2]; exact .own id k n (h1.trans hid)
  ·exact .ownD _ id h1
 | ownD v id hid=>
  rcases hk id (by rw [hid]; simp) with ⟨h1,h2⟩ | h1
  ·exact .ownD _ id (h1.trans hid)
  ·exact .ownD _ id h1
 | sub v id lo n k m hid hl hv=>
  rcases hk id (by rw [hid]; simp) with ⟨h1,h2⟩ | h1
  ·exact .sub v id lo n k m (h1.trans hid) hl (h2 ▸ hv)
  ·exact .subD _ id lo n h1
 | subD v id lo n hid=>
  rcases hk id (by rw [hid]; simp) with ⟨h1,h2⟩ | h1
  ·exact .subD _ id lo n (h1.trans hid)
  ·exact .subD _ id lo n h1
 | ptr id off b hid hb=>
  rcases hk id (by rw [hid]; simp) with ⟨h1,h2⟩ | h1
  ·exact .ptr id off b (h1.trans hid) (h2.trans hb)
  ·exact .ptrD _ id off h1
 | ptrD v id off hid=>
  rcases hk id (by rw [hid]; simp) with ⟨h1,h2⟩ | h1
  ·exact .ptrD _ id off (h1.trans hid)
  ·exact .ptrD _ id off h1
 | eptr id ix off b k m n cap hid hi hb=>
  rcases hk id (by rw [hid]; simp) with ⟨h1,h2⟩ | h1
  ·exact .eptr id ix off b k m n cap (h1.trans hid) hi (h2.trans hb)
  ·exact .eptrD _ id ix off h1
 | eptrD v id ix off hid=>
  rcases hk id (by rw [hid]; simp) with ⟨h1,h2⟩ | h1
  ·exact .eptrD _ id ix off (h1.trans hid)
  ·exact .eptrD _ id ix off h1
 | agg vs cs hlen hr ih=>exact .agg vs cs hlen ih
 | tup vs cs hlen hr ih=>exact .tup vs cs hlen ih
 | fn f vs cs hlen hr ih=>exact .fn f vs cs hlen ih
 | mp id hid=>
  rcases hk id (by rw [hid]; simp) with ⟨h1,h2⟩ | h1
  ·rw [<- h2]; exact .mp id (h1.trans hid)
  ·exact .mpD _ id h1
 | mpD v id hid=>
  rcases hk id (by rw [hid]; simp) with ⟨h1,h2⟩ | h1
  ·exact .mpD _ id (h1.trans hid)
  ·exact .mpD _ id h1
 | dead v=>exact .dead v
structure Env where
 w0:World
 F:Nat->Prop
 OP:Nat->Prop
structure Env.OK (e:Env):Prop where
 F:∀ b,e.F b->b<e.w0.heap.size/\¬ e.OP b
 OP:∀ b,e.OP b->b<e.w0.heap.size
def zbj:Value->Option Nat
 | .slice (some a) _ _=>some a.block
 | .pointer (some a)=>some a.block
 | .map (some r)=>some r
 | _=>none
def Blk.unfz:Blk ty->Prop
 | .box _ fz=>fz=false
 | .arr _ _ fz=>fz=false
 | .mp _ _ _ fz=>fz=false
 | _=>False
def Fz (e:Env) (B:Nat->Blk ty) (κ:Nat->Value) (w:World) (b:Nat):Prop:=
 (e.F b\/e.OP b\/e.w0.heap.size<=b)/\b<w.heap.size/\∀ id,(B id).unfz->zbj (κ id)≠some b
def zdp (cx:Cx ty) (F:Nat->Prop) (w:World) (v:Value) (T:Nat) (l:List (ty T)):Prop:=
 ∃ xs,w.ownsRow 0 T (zt cx T) v l.length xs/\All2 (Rep cx F w) xs (zcP cx T l)
def zPn (cx:Cx ty) (V:Nat) (x:MapEntry) (p:Value×ty V):Prop:=x.key=p.1/\cx.enc V p.2=[.lit x.val]
def zvT (cx:Cx ty) (K:Nat):Value->Prop
 | .string _=>∃ s b z,cx.ti K=some ⟨.str,s,b,z⟩
 | .int k _=>∃ s b z,cx.ti K=some ⟨.int k,s,b,z⟩
 | .agg a=>cx.eqs K a.toList a.toList=some true
 | _=>False
def zPs (cx:Cx ty) (F:Nat->Prop) (w:World) (kd:Nat->Kind) (κ:Nat->Value) (v:Value):Blk ty->Prop
 | .none=>True
 | .dead=>True
 | .box cs _=>∃ b cur t,v=.pointer (some ⟨b,0,none⟩)/\w.heap[b]? =some (.cells cur t (0,0))/\All2 (RepA cx F w kd κ) cur.toList cs
 | .arr T l _=>zdp cx F w v T l
 | .mp K V l _=>∃ b es clock,v=.map (some b)/\w.heap[b]? =some (.map es clock)/\All2 (zPn cx V) es.toList l/\∀ p∈l,zvT cx K p.1
def Blk.live:Blk ty->Prop
 | .box _ _=>True
 | .arr _ _ _=>True
 | .mp _ _ _ _=>True
 | _=>False
theorem Blk.unfz.live {b:Blk ty} (h:b.unfz):b.live:=by cases b <;>simp_all [Blk.unfz,Blk.live]
theorem Blk.live_kind {cx:Cx ty} {b:Blk ty}:b.live↔b.kind cx≠.none/\b.kind cx≠.dead:=by cases b <;>simp [Blk.kind,Blk.live]
structure GOK (cx:Cx ty) (w:World) (OP:Nat->Prop):Prop where
 inv:cx.inv w
 big:∀ b,OP b->cx.ng<=b
 size:cx.ng<=w.heap.size
structure RB (cx:Cx ty) (e:Env) (B:Nat->Blk ty) (κ:Nat->Value) (w:World):Prop where
 os:w.os=e.w0.os
 tape:w.tape=e.w0.tape
 output:w.output=e.w0.output
 drawn:cx.dr=true->e.w0.drawn<=w.drawn
 size:e.w0.heap.size<=w.heap.size
 keep:∀ b,b<e.w0.heap.size->¬ e.OP b->w.heap[b]? =e.w0.heap[b]?
 blk:∀ id,zPs cx (Fz e B κ w) w (λi=>(B i).kind cx) κ (κ id) (B id)
 sep:∀ i j b,(B i).live->(B j).unfz->zbj (κ i)=some b->zbj (κ j)=some b->i=j
 mine:∀ i b,(B i).unfz->zbj (κ i)=some b->e.OP b\/e.w0.heap.size<=b
 old:∀ i b,(B i).live->zbj (κ i)=some b->(e.OP b\/e.w0.heap.size<=b)/\b<w.heap.size
 g:GOK cx e.w0 e.OP
theorem RB.fz {cx:Cx ty} {e:Env} {B:Nat->Blk ty} {κ:Nat->Value} {w:World} (h:RB cx e B κ w) {i b:Nat} (hl:(B i).live)
  (hb:zbj (κ i)=some b) (hn:¬ (B i).unfz):Fz e B κ w b:=
 ⟨.inr (h.old i b hl hb).1,(h.old i b hl hb).2,λj hj hbj=>hn ((h.sep i j b hl hj hb hbj) ▸ hj)⟩
structure Compat (cx:Cx ty) (e:Env) (B:Nat->Blk ty) (κ:Nat->Value) (w:World) (B':Nat->Blk ty) (κ':Nat->Value) (w':World):Prop where
 fz:∀ b,Fz e B κ w b->Fz e B' κ' w' b/\w'.heap[b]? =w.heap[b]?
 kd:∀ id,(B id).kind cx≠.none->((B' id).kind cx=(B id).kind cx/\κ' id=κ id)\/(B' id).kind cx=.dead
theorem Compat.rep {cx:Cx ty} {e:Env} {B B':Nat->Blk ty} {κ κ':Nat->Value} {w w':World} (h:Compat cx e B κ w B' κ' w') {v:Value} {a:AV ty}
  (hr:RepA cx (Fz e B κ w) w (λi=>(B i).kind cx) κ v a):RepA cx (Fz e B' κ' w') w' (λi=>(B' i).kind cx) κ' v a:=hr.mono h.fz h.kd
theorem Compat.rep' {cx:Cx ty} {e:Env} {B B':Nat->Blk ty} {κ κ':Nat->Value} {w w':World} (h:Compat cx e B κ w B' κ' w') {v:Value} {a:AV ty}
  (hr:Rep cx (Fz e B κ w) w v a):Rep cx (Fz e B' κ' w') w' v a:=hr.mono h.fz
theorem All2.imp {α β:Type} {R R':α->β->Prop} {us:List α} {cs:List β} (h:All2 R us cs) (hi:∀ u c,R u c->R' u c):All2 R' us cs:=
 ⟨h.len,λj u c hu hc=>hi u c (h.at_ j u c hu hc)⟩
theorem z3y {w w':World} {e size:Nat} {v:Value} {n:Nat} {xs:List Value} (h:w.ownsRow 0 e size v n xs) (hb:∀ b,zbj v=some b->w'.heap[b]? =w.heap[b]?):w'.ownsRow 0 e size v n xs:=by
 refine ⟨h.1, ?_⟩;rcases h.2 with hn | ⟨g,cap,cur,rfl,hbb,hg,rest⟩
 ·exact .inl hn
 ·exact .inr ⟨g,cap,cur,rfl,hbb,(hb g rfl).trans hg,rest⟩
theorem zLM {w:World} {e size:Nat} {v:Value} {n:Nat} {xs:List Value} (h:w.ownsRow 0 e size v n xs) {b:Nat} (hb:zbj v=some b):b<w.heap.size:=by
 rcases h.2 with ⟨rfl,_⟩ | ⟨g,cap,cur,rfl,_,hg,_⟩
 ·simp [zbj] at hb
 ·simp [zbj] at hb; subst hb; exact (q1r.1 hg).1
theorem zPs.keep {cx:Cx ty} {F F':Nat->Prop} {w w':World} {kd kd':Nat->Kind} {κ κ':Nat->Value} {v:Value} {b:Blk ty} (h:zPs cx F w kd κ v b)
  (hh:b.live->∀ g,zbj v=some g->w'.heap[g]? =w.heap[g]?) (hr:∀ v a,RepA cx F w kd κ v a->RepA cx F' w' kd' κ' v a) (hr':∀ v a,Rep cx F w v a->Rep cx F' w' v a):zPs cx F' w' kd' κ' v b:=by
 cases b with
 | none=>trivial
 | dead=>trivial
 | box cs fz=>
  obtain ⟨g,cur,t,rfl,hg,ha⟩:=h;exact ⟨g,cur,t,rfl,(hh trivial g rfl).trans hg,ha.imp hr⟩
 | arr T l fz=>
  obtain ⟨xs,ho,ha⟩:=h;exact ⟨xs,z3y ho (hh trivial),ha.imp hr'⟩
 | mp K V l fz=>
  obtain ⟨g,es,clock,rfl,hg,ha,hk⟩:=h;exact ⟨g,es,clock,rfl,(hh trivial g rfl).trans hg,ha,hk⟩
theorem RB.step {cx:Cx ty} {e:Env} {B B':Nat->Blk ty} {κ κ':Nat->Value} {w w':World} (h:RB cx e B κ w) (ti:Nat->Prop)
  (hos:w'.os=w.os) (htape:w'.tape=w.tape) (hout:w'.output=w.output) (hsize:w.heap.size<=w'.heap.size)
  (hheap:∀ b,b<w.heap.size->w'.heap[b]? =w.heap[b]? \/∃ id,ti id/\(B id).unfz/\zbj (κ id)=some b)
  (hsame:∀ id,¬ ti id->B' id=B id/\κ' id=κ id)
  (hkd:∀ id,ti id->(B id).kind cx≠.none->((B' id).kind cx=(B id).kind cx/\κ' id=κ id)\/(B' id).kind cx=.dead)
  (hnew:∀ id b,ti id->(B' id).live->zbj (κ' id)=some b->b<w'.heap.size/\((∃ id0,ti id0/\(B id0).unfz/\zbj (κ id0)=some b)\/w.heap.size<=b))
  (hsep:∀ i j b,ti i->ti j->(B' i).live->(B' j).unfz->zbj (κ' i)=some b->zbj (κ' j)=some b->i=j)
  (hblk:∀ id,ti id->Compat cx e B κ w B' κ' w'->zPs cx (Fz e B' κ' w') w' (λi=>(B' i).kind cx) κ' (κ' id) (B' id))
  (hdr:cx.dr=true->w.drawn<=w'.drawn:=by first | exact λ_=>qn _ | assumption | exact λ_=>by assumption):
  RB cx e B' κ' w'/\Compat cx e B κ w B' κ' w':=by
 have hfz:∀ b,Fz e B κ w b->Fz e B' κ' w' b/\w'.heap[b]? =w.heap[b]? :=by
  intro b ⟨h1,h2,h3⟩;refine ⟨⟨h1,by omega,λid hid hb=> ?_⟩, ?_⟩
  ·by_cases hti:ti id
   ·rcases (hnew id b hti hid.live hb).2 with ⟨id0,_,hu0,hb0⟩ | hge
    ·exact h3 id0 hu0 hb0
    ·omega
   ·obtain ⟨hB,hκ⟩:=hsame id hti;exact h3 id (hB ▸ hid) (hκ ▸ hb)
  ·rcases hheap b h2 with hh | ⟨id,_,hu,hb⟩
   ·exact hh
   ·exact absurd hb (h3 id hu)
 have hc:Compat cx e B κ w B' κ' w':=by
  refine ⟨hfz,λid hid=> ?_⟩
  by_cases hti:ti id
  ·exact hkd id hti hid
  ·obtain ⟨hB,hκ⟩:=hsame id hti;exact .inl ⟨by rw [hB],hκ⟩
 refine ⟨⟨hos.trans h.os,htape.trans h.tape,hout.trans h.output,λhd=>q18 (h.drawn hd) (hdr hd),q18 h.size hsize,λb hb hop=> ?_,λid=> ?_,λi j b hi hj hbi hbj=> ?_,λi b hi hb=> ?_,λi b hi hb=> ?_,h.g⟩,hc⟩
 ·rw [<- h.keep b hb hop];rcases hheap b (q2b hb h.size) with hh | ⟨id,_,hu,hbb⟩
  ·exact hh
  ·rcases h.mine id b hu hbb with h' | h'
   ·exact absurd h' hop
   ·omega
 ·by_cases hti:ti id
  ·exact hblk id hti hc
  ·obtain ⟨hB,hκ⟩:=hsame id hti;rw [hB,hκ];refine (h.blk id).keep (λhl g hg=> ?_) (λv a=>hc.rep) (λv a=>hc.rep')
   rcases hheap g (h.old id g hl hg).2 with hh | ⟨id0,ht0,hu0,hb0⟩
   ·exact hh
   ·exact absurd (h.sep id id0 g hl hu0 hg hb0) (λheq=>hti (heq ▸ ht0))
 ·by_cases hti:ti i <;>by_cases htj:ti j
  ·exact hsep i j b hti htj hi hj hbi hbj
  ·obtain ⟨hB,hκ⟩:=hsame j htj;rw [hB] at hj; rw [hκ] at hbj;rcases (hnew i b hti hi hbi).2 with ⟨id0,ht0,hu0,hb0⟩ | hge
   ·exact absurd (h.sep id0 j b hu0.live hj hb0 hbj) (λheq=>htj (heq ▸ ht0))
   ·have:=(h.old j b hj.live hbj).2; omega
  ·obtain ⟨hB,hκ⟩:=hsame i hti;rw [hB] at hi; rw [hκ] at hbi;rcases (hnew j b htj hj.live hbj).2 with ⟨id0,ht0,hu0,hb0⟩ | hge
   ·exact absurd (h.sep i id0 b hi hu0 hbi hb0) (λheq=>hti (heq ▸ ht0))
   ·have:=(h.old i b hi hbi).2; omega
  ·obtain ⟨hB,hκ⟩:=hsame i hti;obtain ⟨hB',hκ'⟩:=hsame j htj;exact h.sep i j b (hB ▸ hi) (hB' ▸ hj) (hκ ▸ hbi) (hκ' ▸ hbj)
 ·by_cases hti:ti i
  ·rcases (hnew i b hti hi.live hb).2 with ⟨id0,_,hu0,hb0⟩ | hge
   ·exact h.mine id0 b hu0 hb0
   ·exact .inr (q18 h.size hge)
  ·obtain ⟨hB,hκ⟩:=hsame i hti;exact h.mine i b (hB ▸ hi) (hκ ▸ hb)
 ·by_cases hti:ti i
  ·refine ⟨?_,(hnew i b hti hi hb).1⟩;rcases (hnew i b hti hi hb).2 with ⟨id0,_,hu0,hb0⟩ | hge
   ·exact h.mine id0 b hu0 hb0
   ·exact .inr (q18 h.size hge)
  ·obtain ⟨hB,hκ⟩:=hsame i hti;have:=h.old i b (hB ▸ hi) (hκ ▸ hb);exact ⟨this.1,by omega⟩
structure RF (cx:Cx ty) (e:Env) (st:St ty) (κ:Nat->Value) (a:Act) (w:World):Prop where
 rb:RB cx e st.blk κ w
 defers:a.defers=[]
 size:a.tmps.size=st.tmps.length
 tmps:∀ t,RepA cx (Fz e st.blk κ w) w (λi=>(st.blk i).kind cx) κ (a.tmps.getD t undef) (st.get t)
def R (cx:Cx ty) (e:Env) (st:St ty) (a:Act) (w:World):Prop:=∃ κ,RF cx e st κ a w
end
end Go.Ab
/- Values: what is made free of the call's own blocks, and the cells behind an address. -/
namespace Go.Ab
noncomputable section
variable {ty:Nat->Type}
theorem zTP {α β:Type} (f:α->List β) (k:Nat) (hk:∀ x,(f x).length=k):∀ (l:List α) (i j:Nat),j<k->(l.flatMap f)[i*k+j]? =(l[i]?).bind λx=>(f x)[j]?
 | [],i,j,_=>by simp
 | x::l,0,j,hj=>by
  simp only [q1f,Nat.zero_mul,q1s,q1x,q1g];rw [q2a (by rw [hk]; exact hj)]
 | x::l,i+1,j,hj=>by
  simp only [q1f,q2r];rw [q1u (by rw [hk]; have:=q2l i k; simp only [Nat.succ_eq_add_one] at this; omega),hk]
  rw [show (i+1)*k+j - k=i*k+j by have:=q2l i k; simp only [Nat.succ_eq_add_one] at this; omega]
  exact zTP f k hk l i j hj
theorem zT5 {α β:Type} (f:α->List β) (k:Nat) (hk:∀ x,(f x).length=k) (l:List α):(l.flatMap f).length=l.length*k:=by
 induction l with
 | nil=>simp
 | cons x l ih=>simp only [q1f,qf,hk,ih,qc,q2l]; omega
theorem zwA {α β:Type} (f:α->List β) (k:Nat) (hk:∀ x,(f x).length=k) (l:List α) (n:Nat):(l.drop n).flatMap f=(l.flatMap f).drop (n*k):=by
 induction n generalizing l with
 | zero=>simp
 | succ n ih=>
  cases l with
  | nil=>simp
  | cons x l=>
   simp only [List.drop_succ_cons,q1f,ih];have hm:(n+1)*k=n*k+k:=q2l n k;rw [List.drop_append,q2m (as:=f x) (by rw [hk]; omega),q10,hk,hm,Nat.add_sub_cancel]
theorem zDK {α β:Type} (f:α->List β) (k:Nat) (hk:∀ x,(f x).length=k) (l:List α) (n:Nat):(l.take n).flatMap f=(l.flatMap f).take (n*k):=by
 induction n generalizing l with
 | zero=>simp
 | succ n ih=>
  cases l with
  | nil=>simp
  | cons x l=>
   simp only [List.take_succ_cons,q1f,ih];have hm:(n+1)*k=n*k+k:=q2l n k;rw [q35,q24 (l:=f x) (by rw [hk]; omega),hk,hm,Nat.add_sub_cancel]
theorem All2.nil {α β:Type} {R:α->β->Prop}:All2 R [] []:=⟨rfl,λj u c h=>by simp at h⟩
theorem All2.cons {α β:Type} {R:α->β->Prop} {u:α} {c:β} {us:List α} {cs:List β} (h:R u c) (h':All2 R us cs):All2 R (u::us) (c::cs):=by
 refine ⟨by simp [h'.len],λj u' c' hu hc=> ?_⟩
 cases j with
 | zero=>simp at hu hc; subst hu; subst hc; exact h
 | succ j=>exact h'.at_ j u' c' (by simpa using hu) (by simpa using hc)
theorem All2.head {α β:Type} {R:α->β->Prop} {u:α} {c:β} {us:List α} {cs:List β} (h:All2 R (u::us) (c::cs)):R u c/\All2 R us cs:=
 ⟨h.at_ 0 u c rfl rfl,by have:=h.len; simpa using this,λj u' c' hu hc=>h.at_ (j+1) u' c' (by simpa using hu) (by simpa using hc)⟩
theorem All2.nil_left {α β:Type} {R:α->β->Prop} {us:List α} (h:All2 R us []):us=([]:List α)/\(True:Prop):=⟨q1a (by simpa using h.len),trivial⟩
theorem All2.inv {α β:Type} {R:α->β->Prop} {us:List α} {c:β} {cs:List β} (h:All2 R us (c::cs)):∃ u us',us=u::us'/\R u c/\All2 R us' cs:=by
 cases us with
 | nil=>have:=h.len; simp at this
 | cons u us'=>exact ⟨u,us',rfl,h.head⟩
theorem All2.append {α β:Type} {R:α->β->Prop} {us us':List α} {cs cs':List β} (h:All2 R us cs) (h':All2 R us' cs'):All2 R (us++us') (cs++cs'):=by
 refine ⟨by simp [h.len,h'.len],λj u c hu hc=> ?_⟩
 by_cases hj:j<us.length
 ·rw [q2a hj] at hu;rw [q2a (by rw [<- h.len]; exact hj)] at hc
  exact h.at_ j u c hu hc
 ·rw [q1u (by omega)] at hu
  rw [q1u (by rw [<- h.len]; omega), <- h.len] at hc
  exact h'.at_ _ u c hu hc
theorem All2.drop {α β:Type} {R:α->β->Prop} {us:List α} {cs:List β} (h:All2 R us cs) (n:Nat):All2 R (us.drop n) (cs.drop n):=
 ⟨by simp [h.len],λj u c hu hc=>h.at_ (n+j) u c (by simpa using hu) (by simpa using hc)⟩
theorem All2.take {α β:Type} {R:α->β->Prop} {us:List α} {cs:List β} (h:All2 R us cs) (n:Nat):All2 R (us.take n) (cs.take n):=by
 refine ⟨by simp [h.len],λj u c hu hc=> ?_⟩
 rw [q20] at hu hc;split at hu
 ·rename_i hj;rw [if_pos hj] at hc;exact h.at_ j u c hu hc
 ·cases hu
theorem All2.getR {α β:Type} {R:α->β->Prop} {us:List α} {cs:List β} (h:All2 R us cs) {j:Nat} {c:β} (hc:cs[j]? =some c):∃ u,us[j]? =some u/\R u c:=by
 have hj:j<us.length:=by rw [h.len]; exact (q1t.1 hc).1
 exact ⟨us[j],ql hj,h.at_ j _ c (ql hj) hc⟩
theorem All2.getL {α β:Type} {R:α->β->Prop} {us:List α} {cs:List β} (h:All2 R us cs) {j:Nat} {u:α} (hu:us[j]? =some u):∃ c,cs[j]? =some c/\R u c:=by
 have hj:j<cs.length:=by rw [<- h.len]; exact (q1t.1 hu).1
 exact ⟨cs[j],ql hj,h.at_ j u _ hu (ql hj)⟩
def zzJ (P:Program):TD->TypeDesc->Prop
 | .int k,d=>d=.int k
 | .bool,d=>d=.bool
 | .str,d=>d=.string
 | .slice e,d=>d=.slice e
 | .struct fs,d=>∃ fields:Array Field,d=.struct fields/\fields.toList.map (λf=>(f.offset,f.type))=fs/\∀ f∈fields.toList,(P.info? f.type).isSome=true
 | .iface,d=>∃ ms,d=.interface ms
 | .map k v,d=>d=.map k v
 | .other,d=>(match d with | .struct _ | .array _ _=>False | _=>True)
structure InfoOK (P:Program) (T:Nat) (i:TInfo):Prop where
 ok:∃ info d z,P.info? T=some info/\P.underlying T=some d/\info.size=i.size/\info.bytes=i.bytes/\info.zero=some z/\z.cells.toList=i.zero/\i.zero.length=i.size/\
  ((∀ v∈i.zero,zbJ v=true)/\(zwY i=false->zbJ z=true))/\zzJ P i.desc d
def zbgn (P:Program) (T:Nat) (us vs:List Value) (b:Bool) (w:World):Prop:=
 (binOp .eql T (.agg us.toArray) (.agg vs.toArray)).run P w=.ok (.bool b) w/\(binOp .neq T (.agg us.toArray) (.agg vs.toArray)).run P w=.ok (.bool (!b)) w/\
 (∀ op x y,(eqGuard op T x y (.agg us.toArray) (.agg vs.toArray)).run P w=.ok () w)/\(Op.equal T (.agg us.toArray) (.agg vs.toArray)).run P w=.ok b w/\
 (∀ e n,(Instr.checkKey e (n+2) T (.agg us.toArray)).run P w=.ok () w)/\∃ fs,P.underlying T=some (.struct fs)
structure CxOK (P:Program) (cx:Cx ty):Prop where
 ti:∀ T i,cx.ti T=some i->InfoOK P T i
 len:∀ T x,(cx.enc T x).length=zt cx T
 cell:∀ T x c,c∈cx.enc T x->(match c with | .lit v=>zbJ v=true | .agg _ | .tup _ | .dead=>False | _=>True)
 dec:∀ T cs x,cx.dec T cs=some x->∀ F w us,All2 (Rep cx F w) us cs->All2 (Rep cx F w) us (cx.enc T x)
 eqs:∀ T us vs b,cx.eqs T us vs=some b->∀ w,zbgn P T us vs b w
 eqk:∀ T us vs,cx.eqs T us us=some true->cx.eqs T vs vs=some true->cx.eqs T us vs=some (zxQ us vs)/\(zxQ us vs=true->us=vs)/\∀ u∈us,∀ n,Instr.sameBits n u u=true
 eqr:∀ T us b,cx.eqs T us us=some b->b=true
 stable:∀ w w':World,cx.inv w->(∀ b,b<cx.ng->w'.heap[b]? =w.heap[b]?)->cx.inv w'
theorem zdp.sl {P:Program} {cx:Cx ty} (_hcx:CxOK P cx) {F:Nat->Prop} {w:World} {v:Value} {T:Nat} {l:List (ty T)} (h:zdp cx F w v T l) (F':Nat->Prop) (hF:∀ b,F b->F' b)
  (hb:∀ b,zbj v=some b->F' b):Rep cx F' w v (.sl T l):=by
 obtain ⟨xs,ho,ha⟩:=h;rcases ho.2 with ⟨rfl,h0⟩ | ⟨g,cap,cur,rfl,_,hg,hnc,_,_,htake⟩
 ·have:l=[]:=q1a h0;subst this;exact .slE none 0 T (λ_=>rfl)
 ·refine .sl g 0 cap T l xs (hb g rfl) hnc ha.len (λj u hu=> ?_) (λj u c hu hc=>(ha.at_ j u c hu hc).mono λb hb=>⟨hF b hb,rfl⟩)
  have:=ho.cells (g:=g) rfl j u hu
  rwa [show (⟨g,0,none⟩:Addr).add j=⟨g,0+j,none⟩ by unfold Addr.add; split <;>simp_all] at this
theorem zf5 (g o j:Nat):(⟨g,o,none⟩:Addr).add j=⟨g,o+j,none⟩:=by unfold Addr.add; split <;>simp_all
theorem zUu {P:Program} {cx:Cx ty} (hcx:CxOK P cx) (T:Nat) (l:List (ty T)):(zcP cx T l).length=l.length*zt cx T:=zT5 _ _ (hcx.len T) l
theorem zdp.sub {P:Program} {cx:Cx ty} (hcx:CxOK P cx) {F:Nat->Prop} {w:World} {v u:Value} {T lo n:Nat} {l:List (ty T)} (h:zdp cx F w v T l) (F':Nat->Prop) (hF:∀ b,F b->F' b)
  (hb:∀ b,zbj v=some b->F' b) (hl:lo+n<=l.length) (hs:zow (zt cx T) lo n v u):Rep cx F' w u (.sl T ((l.drop lo).take n)):=by
 obtain ⟨xs,ho,ha⟩:=h;have hlen:((l.drop lo).take n).length=n:=by simp; omega
 have empty:∀ b c,n=0->(b=none->c=0)->Rep cx F' w (.slice b n c) (.sl T ((l.drop lo).take n)):=by
  intro b c hn hbc; subst hn; simpa using Rep.slE (cx:=cx) (F:=F') (w:=w) b c T hbc
 rcases ho.2 with ⟨rfl,h0⟩ | ⟨g,cap,cur,rfl,_,hg,hnc,_,_,htake⟩
 ·obtain ⟨b,c,rfl,hn,_,hbc⟩:=hs;exact empty b c hn hbc
 ·rcases hs with rfl | ⟨hn,_,b,c,rfl,hbc⟩
  ·rw [zf5]
   conv=>arg 4; rw [<- hlen]
   refine Rep.sl (cx:=cx) (F:=F') (w:=w) g (0+lo*zt cx T) (cap - lo) T ((l.drop lo).take n) ((xs.drop (lo*zt cx T)).take (n*zt cx T)) (hb g rfl) (by rw [hlen]; omega) ?_ (λj u hu=> ?_) (λj u c hu hc=> ?_)
   ·have e1:=zDK _ _ (hcx.len T) (l.drop lo) n;have e2:=zwA _ _ (hcx.len T) l lo;have:=((ha.drop (lo*zt cx T)).take (n*zt cx T)).len;unfold zcP at this ⊢;rw [e1,e2]; exact this
   ·rw [q20] at hu;split at hu
    ·rw [q2c] at hu;have:=ho.cells (g:=g) rfl _ u hu;rw [zf5] at this
     rwa [show 0+lo*zt cx T+j=0+(lo*zt cx T+j) by omega]
    ·cases hu
   ·have e1:=zDK _ _ (hcx.len T) (l.drop lo) n;have e2:=zwA _ _ (hcx.len T) l lo;unfold zcP at hc;rw [e1,e2] at hc;exact (((ha.drop (lo*zt cx T)).take (n*zt cx T)).at_ j u c hu hc).mono λb hb=>⟨hF b hb,rfl⟩
  ·exact hn ▸ (empty b c hn hbc)
theorem zdp.elem {P:Program} {cx:Cx ty} (hcx:CxOK P cx) {F:Nat->Prop} {w:World} {T ix g n cap:Nat} {l:List (ty T)} (h:zdp cx F w (.slice (some ⟨g,0,none⟩) n cap) T l) (hi:ix<l.length) (d:ty T):
  ∃ us,us.length=(cx.enc T (l.getD ix d)).length/\(∀ (j:Nat) u,us[j]? =some u->w.cell? ⟨g,ix*zt cx T+j,none⟩=some u)/\All2 (Rep cx F w) us (cx.enc T (l.getD ix d)):=by
 obtain ⟨xs,ho,ha⟩:=h;refine ⟨(xs.drop (ix*zt cx T)).take (zt cx T), ?_,λj u hu=> ?_, ?_⟩
 ·rw [hcx.len,q15,q2q,ho.1];have:(ix+1)*zt cx T<=l.length*zt cx T:=q1v _ hi;rw [q2l] at this;rcases ho.2 with ⟨hh,_⟩ | ⟨g',cap',cur,hh,_⟩
  ·simp at hh
  ·simp only [Value.slice.injEq] at hh;omega
 ·rw [q20] at hu;split at hu
  ·rw [q2c] at hu;have:=ho.cells (g:=g) rfl _ u hu
   rwa [zf5,q1s] at this
  ·cases hu
 ·have hx:=(ha.drop (ix*zt cx T)).take (zt cx T)
  have e:((zcP cx T l).drop (ix*zt cx T)).take (zt cx T)=cx.enc T (l.getD ix d):=by
   have e2:=zwA _ _ (hcx.len T) l ix;unfold zcP;rw [<- e2];have hd:l.drop ix=l[ix]::l.drop (ix+1):=q2x hi;rw [hd,q1f,q35,hcx.len,Nat.sub_self,List.take_zero,q1o,q24 (by rw [hcx.len]; exact qn _)]
   congr 1;simp [List.getD,hi]
  rwa [e] at hx
theorem Kind.ne {cx:Cx ty} {b:Blk ty} (h:b.live):b.kind cx≠.dead/\b.kind cx≠.none:=by cases b <;>simp_all [Blk.kind,Blk.live]
section
variable {P:Program} {cx:Cx ty} {e:Env} {st:St ty} {κ:Nat->Value} {w:World}
theorem RB.row (h:RB cx e st.blk κ w) {id T:Nat} {l:List (ty T)} {fz:Bool} (hb:st.blk id=.arr T l fz):zdp cx (Fz e st.blk κ w) w (κ id) T l:=by
 have:=h.blk id;rw [hb] at this;exact this
theorem RB.box (h:RB cx e st.blk κ w) {id:Nat} {cs:List (AV ty)} {fz:Bool} (hb:st.blk id=.box cs fz):
  ∃ b cur t,κ id=.pointer (some ⟨b,0,none⟩)/\w.heap[b]? =some (.cells cur t (0,0))/\All2 (RepA cx (Fz e st.blk κ w) w (λi=>(st.blk i).kind cx) κ) cur.toList cs:=by
 have:=h.blk id;rw [hb] at this;exact this
theorem zDz {F:Nat->Prop} {kd:Nat->Kind} {us:List Value} {cs:List (AV ty)} (hlen:us.length=cs.length) (h:∀ (j:Nat) u c,us[j]? =some u->cs[j]? =some c->Rep cx F w u c):
  All2 (RepA cx F w kd κ) us cs:=⟨hlen,λj u c hu hc=>.rep (h j u c hu hc)⟩
theorem zKn {f:AV ty->Option (AV ty×List Nat)} {F':Nat->Prop} {Q:Value->AV ty->Prop}
  (hf:∀ v av a' ids,Q v av->f av=some (a',ids)->(∀ id∈ids,∀ b,zbj (κ id)=some b->F' b)->Rep cx F' w v a'):
  ∀ (us:List Value) (cs cs':List (AV ty)) (ids:List Nat),All2 Q us cs->zf3 f cs=some (cs',ids)->(∀ id∈ids,∀ b,zbj (κ id)=some b->F' b)->All2 (Rep cx F' w) us cs'
 | us,[],cs',ids,h,hm,_=>by
  simp only [zf3,q0,qe] at hm;obtain ⟨rfl,_⟩:=hm;rw [h.nil_left.1];exact .nil
 | us,c::cs,cs',ids,h,hm,hi=>by
  obtain ⟨u,us',rfl,hu,h'⟩:=h.inv;simp only [zf3] at hm;split at hm
  ·cases hm
  ·rename_i c' i hc;split at hm
   ·cases hm
   ·rename_i cs'' is hcs;simp only [q0,qe] at hm;obtain ⟨rfl,rfl⟩:=hm;exact .cons (hf u c c' i hu hc λid hid=>hi id (by simp [hid])) (zKn hf us' cs cs'' is h' hcs λid hid=>hi id (by simp [hid]))
theorem zMF (hcx:CxOK P cx) (hrb:RB cx e st.blk κ w) (F':Nat->Prop) (hF:∀ b,Fz e st.blk κ w b->F' b):
  ∀ (n:Nat) (v:Value) (av a':AV ty) (ids:List Nat),RepA cx (Fz e st.blk κ w) w (λi=>(st.blk i).kind cx) κ v av->zbE cx st n av=some (a',ids)->
   (∀ id∈ids,∀ b,zbj (κ id)=some b->F' b)->Rep cx F' w v a'
 | 0,_,_,_,_,_,h,_=>by simp [zbE] at h
 | n+1,v,av,a',ids,hr,h,hi=>by
  have mono:∀ {v a},Rep cx (Fz e st.blk κ w) w v a->Rep cx F' w v a:=λh=>h.mono λb hb=>⟨hF b hb,rfl⟩
  have ih:=zMF hcx hrb F' hF n
  have lst:∀ us cs cs' ids,All2 (RepA cx (Fz e st.blk κ w) w (λi=>(st.blk i).kind cx) κ) us cs->zf3 (zbE cx st n) cs=some (cs',ids)->(∀ id∈ids,∀ b,zbj (κ id)=some b->F' b)->All2 (Rep cx F' w) us cs':=
   λus cs cs' ids=>zKn ih us cs cs' ids
  cases av with
  | lit x=>
   simp only [zbE,q0,qe] at h;obtain ⟨rfl,_⟩:=h;cases hr with | rep hr=>exact mono hr
  | mp id=>simp [zbE] at h
  | err x=>
   simp only [zbE,q0,qe] at h;obtain ⟨rfl,_⟩:=h;cases hr with | rep hr=>exact mono hr
  | sl T l=>
   simp only [zbE,q0,qe] at h;obtain ⟨rfl,_⟩:=h;cases hr with | rep hr=>exact mono hr
  | own id=>
   simp only [zbE] at h;split at h
   ·rename_i T l fz hb;simp only [q0,qe] at h;obtain ⟨rfl,rfl⟩:=h;cases hr with
    | rep hr=>cases hr
    | own id k m hk=>exact (hrb.row hb).sl hcx F' hF (hi id (by simp))
    | ownD _ _ hk=>simp [hb,Blk.kind] at hk
   ·cases h
  | sub id lo k=>
   simp only [zbE] at h;split at h
   ·rename_i T l fz hb;simp only [q0,qe] at h;obtain ⟨rfl,rfl⟩:=h;cases hr with
    | rep hr=>cases hr
    | sub _ _ _ _ k' m hk hl hv=>
     simp only [hb,Blk.kind,Kind.arr.injEq] at hk;obtain ⟨rfl,rfl⟩:=hk;exact (hrb.row hb).sub hcx F' hF (hi id (by simp)) hl hv
    | subD _ _ _ _ hk=>simp [hb,Blk.kind] at hk
   ·cases h
  | ptr id off=>
   simp only [zbE] at h;split at h
   ·rename_i cs fz hb;split at h
    ·rename_i cs' is hm;simp only [q0,qe] at h;obtain ⟨rfl,rfl⟩:=h;obtain ⟨b,cur,t,hκ,hg,ha⟩:=hrb.box hb;have hl:=lst _ _ _ _ ha hm (λid' hid=>hi id' (by simp [hid]))
     cases hr with
     | rep hr=>cases hr
     | ptr _ _ b' hk hb'=>
      rw [hκ] at hb';simp only [Value.pointer.injEq,q0,Addr.mk.injEq,and_true] at hb';subst hb';refine .bptr b off cs' cur.toList (hi id (by simp) b (by rw [hκ]; rfl)) hl.len (λj u hu=> ?_) hl.at_
      simp only [World.cell?,hg]
      simpa using hu
     | ptrD _ _ _ hk=>simp [hb,Blk.kind] at hk
    ·cases h
   ·cases h
  | eptr id ix off=>
   simp only [zbE] at h;split at h
   ·rename_i T l fz hb;simp only [q0,qe] at h;obtain ⟨rfl,rfl⟩:=h;cases hr with
    | rep hr=>cases hr
    | eptr _ _ _ b k m n' cap hk hix hκ=>
     simp only [hb,Blk.kind,Kind.arr.injEq] at hk;obtain ⟨rfl,rfl⟩:=hk;have hrow:=hrb.row hb;rw [hκ] at hrow;obtain ⟨us,h1,h2,h3⟩:=hrow.elem hcx hix (cx.dflt T);exact .fptr b (ix*zt cx T) off T _ us (hi id (by simp) b (by rw [hκ]; rfl)) h1 h2 (λj u c hu hc=>mono (h3.at_ j u c hu hc))
    | eptrD _ _ _ _ hk=>simp [hb,Blk.kind] at hk
   ·cases h
  | fptr T x off=>
   simp only [zbE,q0,qe] at h;obtain ⟨rfl,_⟩:=h;cases hr with | rep hr=>exact mono hr
  | bptr cs off=>
   simp only [zbE,q0,qe] at h;obtain ⟨rfl,_⟩:=h;cases hr with | rep hr=>exact mono hr
  | agg cs=>
   simp only [zbE] at h;split at h
   ·rename_i cs' is hm;simp only [q0,qe] at h;obtain ⟨rfl,rfl⟩:=h;cases hr with
    | rep hr=>cases hr with | agg vs _ hlen hr=>have hl:=lst vs cs cs' is (zDz hlen hr) hm hi; exact .agg vs cs' hl.len hl.at_
    | agg vs _ hlen hr=>have hl:=lst vs cs cs' is ⟨hlen,hr⟩ hm hi; exact .agg vs cs' hl.len hl.at_
   ·cases h
  | fn f cs=>
   simp only [zbE] at h;split at h
   ·rename_i cs' is hm;simp only [q0,qe] at h;obtain ⟨rfl,rfl⟩:=h;cases hr with
    | rep hr=>cases hr with | fn _ vs _ hlen hr=>have hl:=lst vs cs cs' is (zDz hlen hr) hm hi; exact .fn f vs cs' hl.len hl.at_
    | fn _ vs _ hlen hr=>have hl:=lst vs cs cs' is ⟨hlen,hr⟩ hm hi; exact .fn f vs cs' hl.len hl.at_
   ·cases h
  | tup cs=>simp [zbE] at h
  | dead=>simp [zbE] at h
theorem zCv (hcx:CxOK P cx) (hrb:RB cx e st.blk κ w) {v:Value} {av:AV ty} {cs:List (AV ty)} {off:Nat} {rd:List Nat}
  (hr:RepA cx (Fz e st.blk κ w) w (λi=>(st.blk i).kind cx) κ v av) (h:ze2 cx st av=some (cs,off,rd)):
  (∃ b o us,v=.pointer (some ⟨b,o+off,none⟩)/\(∀ (j:Nat) u,us[j]? =some u->w.cell? ⟨b,o+j,none⟩=some u)/\All2 (RepA cx (Fz e st.blk κ w) w (λi=>(st.blk i).kind cx) κ) us cs)\/cs.length<=off/\False:=by
 cases av with
 | ptr id off'=>
  simp only [ze2] at h;split at h
  ·rename_i cs' fz hb;simp only [q0,qe] at h;obtain ⟨rfl,rfl,rfl⟩:=h;obtain ⟨b,cur,t,hκ,hg,ha⟩:=hrb.box hb;cases hr with
   | rep hr=>cases hr
   | ptr _ _ b' hk hb'=>
    rw [hκ] at hb';simp only [Value.pointer.injEq,q0,Addr.mk.injEq,and_true] at hb';subst hb';refine .inl ⟨b,0,cur.toList,by simp,λj u hu=> ?_,ha⟩
    simp only [World.cell?,hg,q1s]
    simpa using hu
   | ptrD _ _ _ hk=>simp [hb,Blk.kind] at hk
  ·cases h
 | eptr id ix off'=>
  simp only [ze2] at h;split at h
  ·rename_i T l fz hb;simp only [q0,qe] at h;obtain ⟨rfl,rfl,rfl⟩:=h;cases hr with
   | rep hr=>cases hr
   | eptr _ _ _ b k m n' cap hk hix hκ=>
    simp only [hb,Blk.kind,Kind.arr.injEq] at hk;obtain ⟨rfl,rfl⟩:=hk;have hrow:=hrb.row hb;rw [hκ] at hrow;obtain ⟨us,h1,h2,h3⟩:=hrow.elem hcx hix (cx.dflt T);exact .inl ⟨b,ix*zt cx T,us,rfl,h2,h3.imp λ_ _ h=>.rep h⟩
   | eptrD _ _ _ _ hk=>simp [hb,Blk.kind] at hk
  ·cases h
 | fptr T x off'=>
  simp only [ze2,q0,qe] at h;obtain ⟨rfl,rfl,rfl⟩:=h;cases hr with
  | rep hr=>cases hr with | fptr b off0 _ _ _ us hF hlen hc hr=>exact .inl ⟨b,off0,us,rfl,hc,zDz hlen hr⟩
 | bptr cs' off'=>
  simp only [ze2,q0,qe] at h;obtain ⟨rfl,rfl,rfl⟩:=h;cases hr with
  | rep hr=>cases hr with | bptr b _ _ us hF hlen hc hr=>exact .inl ⟨b,0,us,by simp,(by simpa using hc),zDz hlen hr⟩
 | _=>simp [ze2] at h
end
end
end Go.Ab
/- The operations that yield a value and leave the blocks alone, against the machine's. -/
namespace Go.Ab
noncomputable section
variable {ty:Nat->Type}
def aop (cx:Cx ty) (o:Oper) (st:St ty):Option (Delta ty):=ze8 cx o st some
section
variable {P:Program} {cx:Cx ty} {e:Env} {st:St ty} {κ:Nat->Value} {a:Act} {w:World}
abbrev ziB (cx:Cx ty) (e:Env) (st:St ty) (κ:Nat->Value) (w:World):Value->AV ty->Prop:=RepA cx (Fz e st.blk κ w) w (λi=>(st.blk i).kind cx) κ
theorem zcq (h:RF cx e st κ a w) (x:Operand):ziB cx e st κ w (a.eval x) (st.ev x):=by
 cases x with
 | tmp t=>exact h.tmps t
 | const v=>
  simp only [Act.eval,St.ev];cases v with
  | agg cs=>
   have:(Value.agg cs)=.agg (cs.toList.toArray):=by simp
   rw [this];refine .rep (.agg _ _ (by simp) λj u c hu hc=> ?_)
   simp only [q14] at hc;rw [show (cs.toList.toArray).toList=cs.toList by simp] at hc
   rw [hu] at hc;simp at hc; subst hc; exact .lit u
  | func fn first caps=>
   cases fn with
   | func f=>
    simp only [AV.ofConst];split
    ·rename_i h1 h2;have e1:first=#[]:=by simpa using h1
     have e2:caps=#[]:=by simpa using h2
     subst e1; subst e2;exact .rep (.fn f [] [] rfl (λj u c hu=>by simp at hu))
    ·exact .rep (.lit _)
   | _=>exact .rep (.lit _)
  | _=>exact .rep (.lit _)
 | global g=>exact .dead _
 | func f=>exact .rep (.fn f [] [] rfl (λj u c hu=>by simp at hu))
theorem zbkU {tmps:List (AV ty)} {d t:Nat} {v:AV ty}:(gD .dead (tmps.set d v) t)=if d=t/\d<tmps.length then v else (gD .dead tmps t):=by
 simp only [zjB,qi,q32];by_cases h:d=t
 ·subst h;by_cases h':d<tmps.length <;>simp [h']
 ·simp [h]
theorem zbi1 {a:Act} {d t:Nat} {v:Value}:(a.put (some d) v).tmps.getD t undef=if d=t/\d<a.tmps.size then v else a.tmps.getD t undef:=by
 simp only [Act.put];rw [q1i,q1i,Array.getElem?_setIfInBounds];by_cases h:d=t
 ·subst h;by_cases h':d<a.tmps.size <;>simp [h']
 ·simp [h]
theorem RF.put {κ':Nat->Value} {w':World} {v:Value} {dst:Option Tmp} {d:Delta ty} (h:RF cx e st κ a w)
  (hb:RB cx e (st.app dst d).blk κ' w') (hc:Compat cx e st.blk κ w (st.app dst d).blk κ' w')
  (hv:dst.isSome=true->RepA cx (Fz e (st.app dst d).blk κ' w') w' (λi=>((st.app dst d).blk i).kind cx) κ' v d.val):RF cx e (st.app dst d) κ' (a.put dst v) w':=by
 cases dst with
 | none=>exact ⟨hb,h.defers,h.size,λt=>hc.rep (h.tmps t)⟩
 | some t0=>
  refine ⟨hb,h.defers,by simp [St.app,zEB,zRA,zIj,Act.put,h.size],λt=> ?_⟩
  rw [zbi1];have:(St.app st (some t0) d).get t=if t0=t/\t0<st.tmps.length then d.val else st.get t:=by simp only [St.get,St.app,zEB,zRA,zIj,zbkU]
  rw [this,h.size];split
  ·exact hv rfl
  ·exact hc.rep (h.tmps t)
theorem Compat.refl (h:RB cx e st.blk κ w):Compat cx e st.blk κ w st.blk κ w:=⟨λb hb=>⟨hb,rfl⟩,λid _=>.inl ⟨rfl,rfl⟩⟩
theorem RF.val (h:RF cx e st κ a w) {v:Value} {dst:Option Tmp} {av:AV ty} {rd:List Nat} (hv:ziB cx e st κ w v av):R cx e (st.app dst { val:=av,rd:=rd }) (a.put dst v) w:=by
 have hb:(st.app dst { val:=av,rd:=rd }).blk=st.blk:=rfl;exact ⟨κ,h.put (by rw [hb]; exact h.rb) (by rw [hb]; exact .refl h.rb) (by intro _; rw [hb]; exact hv)⟩
theorem zZ {o:Oper} {Q:Exit->Act->World->Prop} {next:Act->World->Prop} {v:Value} {w':World} (h:(execOp a.eval o).run P w=.ok (.value v) w') (hn:next (a.put o.dst v) w'):o.wp P a w next Q:=by
 unfold Oper.wp; rw [h]; exact hn
theorem zco {F:Nat->Prop} {kd:Nat->Kind} {v:Value} {x:Value} (h:RepA cx F w kd κ v (.lit x)):v=x:=by
 cases h with | rep h=>cases h; rfl
theorem zbjI {av:AV ty} {n:Int} (h:av.int64=some n):av=.lit (.int .i64 n):=by
 unfold AV.int64 at h;split at h
 ·simp only [q0] at h; subst h; rfl
 ·cases h
theorem zFJ {F:Nat->Prop} {kd:Nat->Kind} {v:Value} {av:AV ty} {n:Int} (h:RepA cx F w kd κ v av) (hi:av.int64=some n):v=.int .i64 n:=by
 rw [zbjI hi] at h; exact zco h
theorem zdJ {T:Nat} {d:TypeDesc} (h:P.underlying T=some d):(underlying T).run P w=.ok d w:=run_underlying h w
theorem zbcV {T:Nat} {i:TypeInfo} (h:P.info? T=some i):(typeInfo T).run P w=.ok i w:=by simp [typeInfo,h]
theorem zbdk {T:Nat} {i:TypeInfo} (h:P.info? T=some i):(sizeOf T).run P w=.ok i.size w:=by simp [sizeOf,zbcV h]
theorem zMk {T:Nat} {i:TypeInfo} {z:Value} (h:P.info? T=some i) (hz:i.zero=some z):(zeroValue T).run P w=.ok z w:=by simp [zeroValue,zbcV h,hz]
theorem zjE (hcx:CxOK P cx) {T e' s b:Nat} {z:List Value} (h:cx.ti T=some ⟨.slice e',s,b,z⟩):P.underlying T=some (.slice e'):=by
 obtain ⟨info,d,z,_,hu,_,_,_,_,_,_,hd⟩:=(hcx.ti T _ h).ok;simp only [zzJ] at hd; rw [hu,hd]
theorem zbhb (hcx:CxOK P cx) {T s b:Nat} {z:List Value} (h:cx.ti T=some ⟨.iface,s,b,z⟩):∃ ms,P.underlying T=some (.interface ms):=by
 obtain ⟨info,d,z,_,hu,_,_,_,_,_,_,hd⟩:=(hcx.ti T _ h).ok;simp only [zzJ] at hd; obtain ⟨ms,hd⟩:=hd; exact ⟨ms,by rw [hu,hd]⟩
theorem zRu (hcx:CxOK P cx) {T k v s b:Nat} {z:List Value} (h:cx.ti T=some ⟨.map k v,s,b,z⟩):P.underlying T=some (.map k v):=by
 obtain ⟨info,d,z,_,hu,_,_,_,_,_,_,hd⟩:=(hcx.ti T _ h).ok;simp only [zzJ] at hd; rw [hu,hd]
theorem zyi (hcx:CxOK P cx) {T s b:Nat} {z:List Value} (h:cx.ti T=some ⟨.str,s,b,z⟩):P.underlying T=some .string:=by
 obtain ⟨info,d,z,_,hu,_,_,_,_,_,_,hd⟩:=(hcx.ti T _ h).ok;simp only [zzJ] at hd; rw [hu,hd]
theorem zbiN (hcx:CxOK P cx) {T s b:Nat} {z:List Value} (h:cx.ti T=some ⟨.bool,s,b,z⟩):P.underlying T=some .bool:=by
 obtain ⟨info,d,z,_,hu,_,_,_,_,_,_,hd⟩:=(hcx.ti T _ h).ok;simp only [zzJ] at hd; rw [hu,hd]
theorem zEc (hcx:CxOK P cx) {T s b:Nat} {k:IntKind} {z:List Value} (h:cx.ti T=some ⟨.int k,s,b,z⟩):P.underlying T=some (.int k):=by
 obtain ⟨info,d,z,_,hu,_,_,_,_,_,_,hd⟩:=(hcx.ti T _ h).ok;simp only [zzJ] at hd; rw [hu,hd]
theorem z4M (hcx:CxOK P cx) {T s b:Nat} {fs:List (Nat×Nat)} {z:List Value} (h:cx.ti T=some ⟨.struct fs,s,b,z⟩):
  ∃ fields:Array Field,P.underlying T=some (.struct fields)/\fields.toList.map (λf=>(f.offset,f.type))=fs:=by
 obtain ⟨info,d,z,_,hu,_,_,_,_,_,_,fields,rfl,hf,_⟩:=(hcx.ti T _ h).ok;exact ⟨fields,hu,hf⟩
theorem zDh (hcx:CxOK P cx) {T:Nat} {i:TInfo} (h:cx.ti T=some i) (w:World):(sizeOf T).run P w=.ok i.size w:=by
 obtain ⟨info,d,z,hi,_,hs,_⟩:=(hcx.ti T _ h).ok;rw [zbdk hi,hs]
theorem z92 (hcx:CxOK P cx) {T:Nat} {i:TInfo} (h:cx.ti T=some i) (w:World):(isAgg T).run P w=.ok (zwY i) w:=by
 obtain ⟨info,d,z,hi,hu,_,_,_,_,_,_,hd⟩:=(hcx.ti T _ h).ok;obtain ⟨desc,s,b,zz⟩:=i;cases desc with
 | struct fs=>obtain ⟨fields,rfl,_⟩:=hd; simp [isAgg,zdJ hu,zwY]
 | iface=>obtain ⟨ms,rfl⟩:=hd; simp [isAgg,zdJ hu,zwY]
 | other=>
  simp only [zzJ] at hd;cases d <;>first | exact hd.elim | simp [isAgg,zdJ hu,zwY]
 | _=>simp only [zzJ] at hd; subst hd; simp [isAgg,zdJ hu,zwY]
variable {o:Oper} {d:Delta ty} {Q:Exit->Act->World->Prop}
theorem zbfO {x:Operand} (ho:o.op=.move x\/o.op=.assign x) (h:aop cx o st=some d) (hf:RF cx e st κ a w):o.wp P a w (λa' w'=>R cx e (st.app o.dst d) a' w') Q:=by
 have hd:d={ val:=st.ev x }:=by rcases ho with ho | ho <;>(unfold aop ze8 at h; simp only [ho,q0] at h; exact h.symm)
 subst hd;refine zZ (v:=a.eval x) (w':=w) ?_ (hf.val (zcq hf x));rcases ho with ho | ho <;>simp [execOp,ho]
theorem zbk5 {c x y:Operand} (ho:o.op=.pick c x y) (h:aop cx o st=some d) (hf:RF cx e st κ a w):o.wp P a w (λa' w'=>R cx e (st.app o.dst d) a' w') Q:=by
 unfold aop ze8 at h;simp only [ho] at h;split at h
 ·rename_i t ht;simp only [q0] at h; subst h;have hc:=zcq hf c;rw [ht] at hc;have hc:=zco hc;cases t with
  | true=>exact zZ (v:=a.eval x) (w':=w) (by simp [execOp,ho,hc,asBool]) (hf.val (zcq hf x))
  | false=>exact zZ (v:=a.eval y) (w':=w) (by simp [execOp,ho,hc,asBool]) (hf.val (zcq hf y))
 ·cases h
theorem zber {g:Nat} {first caps:Array Operand} (ho:o.op=.makeFunc (.func g) first caps) (h:aop cx o st=some d) (hf:RF cx e st κ a w):o.wp P a w (λa' w'=>R cx e (st.app o.dst d) a' w') Q:=by
 unfold aop ze8 at h;simp only [ho] at h;split at h
 ·rename_i hfirst;have hfirst:first=#[]:=by simpa using hfirst
  subst hfirst;simp only [q0] at h; subst h;refine zZ (v:=.func (.func g) #[] (caps.map a.eval)) (w':=w) (by simp [execOp,ho,Instr.makeFunc]) (hf.val ?_)
  have:caps.map a.eval=(caps.toList.map a.eval).toArray:=by apply Array.ext'; rw [q2t]
  rw [this];refine .fn g _ _ (by simp) λj u c hu hc=> ?_
  rw [q14] at hu hc;cases hx:caps.toList[j]? with
  | none=>rw [hx] at hu; cases hu
  | some x=>
   rw [hx] at hu hc;simp only [qz,q0] at hu hc;subst hu; subst hc;exact zcq hf x
 ·cases h
theorem zbgR {x:Operand} {i:Nat} (ho:o.op=.extract x i) (h:aop cx o st=some d) (hf:RF cx e st κ a w):o.wp P a w (λa' w'=>R cx e (st.app o.dst d) a' w') Q:=by
 unfold aop ze8 at h;simp only [ho] at h;split at h
 ·rename_i vs hx;split at h
  ·rename_i v hv;simp only [q0] at h; subst h;have hr:=zcq hf x;rw [hx] at hr;generalize hev:a.eval x=ve at hr;cases hr with
   | rep hr=>cases hr
   | tup us _ hlen hr=>
    have hj:i<us.length:=by rw [hlen]; exact (q1t.1 hv).1
    refine zZ (v:=us[i]) (w':=w) ?_ (hf.val (hr i _ v (ql hj) hv));simp [execOp,ho,hev,Instr.extract,hj]
  ·cases h
 ·cases h
theorem zben {x:Operand} (hcx:CxOK P cx) (ho:o.op=.nilCheck x) (h:aop cx o st=some d) (hf:RF cx e st κ a w):o.wp P a w (λa' w'=>R cx e (st.app o.dst d) a' w') Q:=by
 unfold aop ze8 at h;simp only [ho] at h;have hr:=zcq hf x;generalize hev:a.eval x=ve at hr;split at h
 ·rename_i f cs hx;simp only [q0] at h; subst h;rw [hx] at hr
  have:∃ vs,ve=.func (.func f) #[] vs:=by
   cases hr with
   | rep hr=>cases hr; exact ⟨_,rfl⟩
   | fn=>exact ⟨_,rfl⟩
  obtain ⟨vs,rfl⟩:=this;exact zZ (w':=w) (by simp [execOp,ho,hev]) (hf.val hr)
 ·split at h
  ·rename_i cs off rd hc;simp only [q0] at h; subst h;rcases zCv hcx hf.rb hr hc with ⟨b,o',us,rfl,_⟩ | ⟨_,hn⟩
   ·exact zZ (w':=w) (by simp [execOp,ho,hev]) (hf.val hr)
   ·exact hn.elim
  ·cases h
theorem z7O {α:Type} (us:List α) (d:α) (n off:Nat) (h:off+n<=us.length):(List.range n).map (λj=>us.getD (off+j) d)=(us.drop off).take n:=by
 apply q31;intro j;simp only [q14,q20,q2c];by_cases hj:j<n
 ·have:off+j<us.length:=by omega
  simp [hj,List.getElem?_range,List.getD,this]
 ·simp [hj]
theorem z2I (hcx:CxOK P cx) {T:Nat} {i:TInfo} (hi:cx.ti T=some i) {b o off:Nat} {us:List Value} (hc:∀ (j:Nat) u,us[j]? =some u->w.cell? ⟨b,o+j,none⟩=some u)
  {S:Value->AV ty->Prop} {cs:List (AV ty)} (ha:All2 S us cs) {v:AV ty} (hv:cut i cs off=some v)
  (hagg:∀ us' cs',All2 S us' cs'->S (.agg us'.toArray) (.agg cs')):∃ u,(loadVar T ⟨b,o+off,none⟩).run P w=.ok u w/\S u v:=by
 unfold cut at hv;have hg:=z92 hcx hi w;split at hv
 ·rename_i hst;split at hv
  ·rename_i hle;simp only [q0] at hv; subst hv;have hle:off+i.size<=us.length:=by rw [ha.len]; exact q2p hle
   refine ⟨.agg ((us.drop off).take i.size).toArray, ?_,hagg _ _ ((ha.drop off).take _)⟩
   have:=run_loadCells (P:=P) w ⟨b,o+off,none⟩ i.size (λj=>us.getD (off+j) undef) (λj hj=>by
    rw [zf5,q2e];exact hc _ _ (by simp [List.getD]; rw [ql (by omega)]; simp))
   rw [z7O us undef i.size off hle] at this;simp [loadVar,hg,hst,zDh hcx hi,this]
  ·cases hv
 ·rename_i hst;obtain ⟨u,hu,hr⟩:=ha.getR hv;refine ⟨u, ?_,hr⟩;simp [loadVar,hg,hst,hc off u hu]
theorem zTD {us:List Value} {cs:List (AV ty)} (h:All2 (ziB cx e st κ w) us cs):ziB cx e st κ w (.agg us.toArray) (.agg cs):=.agg us cs h.len h.at_
theorem zbk3 {T:Nat} {x:Operand} (hcx:CxOK P cx) (ho:o.op=.load T x) (h:aop cx o st=some d) (hf:RF cx e st κ a w):o.wp P a w (λa' w'=>R cx e (st.app o.dst d) a' w') Q:=by
 unfold aop ze8 at h;simp only [ho] at h;have hr:=zcq hf x;generalize hev:a.eval x=ve at hr;split at h
 ·rename_i i cs off rd hi hc;split at h
  ·rename_i v hv;simp only [q0] at h; subst h;rcases zCv hcx hf.rb hr hc with ⟨b,o',us,rfl,hcell,ha⟩ | ⟨_,hn⟩
   ·obtain ⟨u,hrun,hu⟩:=z2I hcx hi hcell ha hv (λ_ _=>zTD)
    exact zZ (v:=u) (w':=w) (by simp [execOp,ho,hev,Instr.loadAt,Instr.sureAddr,hrun]) (hf.val hu)
   ·exact hn.elim
  ·cases h
 ·cases h
theorem zbds {S:Nat} {x:Operand} {f:Nat} (hcx:CxOK P cx) (ho:o.op=.fieldAddr S x f) (h:aop cx o st=some d) (hf:RF cx e st κ a w):o.wp P a w (λa' w'=>R cx e (st.app o.dst d) a' w') Q:=by
 unfold aop ze8 at h;simp only [ho] at h;have hr:=zcq hf x;generalize hev:a.eval x=ve at hr;split at h
 ·rename_i fs s b z hS;obtain ⟨fields,hu,hfs⟩:=z4M hcx hS;split at h
  ·rename_i off T hfo;split at h
   ·rename_i i v cs o' rd hi hv hc;split at h
    ·rename_i hz;simp only [q0] at h; subst h;have hz:i.size≠0:=by intro h0; rw [h0] at hz; cases hz
     rw [<- hfs,q14] at hfo;cases hfi:fields[f]? with
     | none=>simp [hfi] at hfo
     | some fd=>
      simp only [q1n,hfi,qz,q0,qe] at hfo;obtain ⟨hoff,hty⟩:=hfo;rcases zCv hcx hf.rb hr hc with ⟨b',o'',us,rfl,hcell,ha⟩ | ⟨_,hn⟩
      ·have hsz:=zDh hcx hi w;rw [<- hty] at hsz;refine zZ (v:=.pointer (some ⟨b',o''+o'+fd.offset,none⟩)) (w':=w) ?_ (hf.val ?_)
       ·simp [execOp,ho,hev,Instr.fieldAt,zdJ hu,hfi,Instr.sureAddr,fieldPlace,hsz,hz,zf5]
       ·rw [hoff];generalize hev2:st.ev x=av at hr hv hc;cases av with
        | ptr id off'=>
         simp only [shift,q0] at hv; subst hv;generalize hpv:(Value.pointer (some ⟨b',o''+o',none⟩))=pv at hr;cases hr with
         | rep hr=>cases hr
         | ptr _ _ b2 hk hb2=>
          simp only [Value.pointer.injEq,q0,Addr.mk.injEq,and_true] at hpv;obtain ⟨rfl,rfl⟩:=hpv;exact .ptr id _ _ hk hb2
         | ptrD _ _ _ hk=>exact .ptrD _ _ _ hk
        | eptr id ix off'=>
         simp only [shift,q0] at hv; subst hv;generalize hpv:(Value.pointer (some ⟨b',o''+o',none⟩))=pv at hr;cases hr with
         | rep hr=>cases hr
         | eptr _ _ _ b2 k m n cap hk hix hb2=>
          simp only [Value.pointer.injEq,q0,Addr.mk.injEq,and_true] at hpv;obtain ⟨rfl,hpv⟩:=hpv;rw [hpv,q2e];exact .eptr id ix _ _ k m n cap hk hix hb2
         | eptrD _ _ _ _ hk=>exact .eptrD _ _ _ _ hk
        | fptr T' y off'=>
         simp only [shift,q0] at hv; subst hv;generalize hpv:(Value.pointer (some ⟨b',o''+o',none⟩))=pv at hr;cases hr with
         | rep hr=>
          cases hr with
          | fptr b2 off0 _ _ _ us' hF hlen hc' hr'=>
           simp only [Value.pointer.injEq,q0,Addr.mk.injEq,and_true] at hpv;obtain ⟨rfl,hpv⟩:=hpv;rw [hpv,q2e];exact .rep (.fptr _ off0 _ T' y us' hF hlen hc' hr')
        | bptr cs' off'=>
         simp only [shift,q0] at hv; subst hv;generalize hpv:(Value.pointer (some ⟨b',o''+o',none⟩))=pv at hr;cases hr with
         | rep hr=>
          cases hr with
          | bptr b2 _ _ us' hF hlen hc' hr'=>
           simp only [Value.pointer.injEq,q0,Addr.mk.injEq,and_true] at hpv;obtain ⟨rfl,hpv⟩:=hpv;rw [hpv];exact .rep (.bptr _ _ cs' us' hF hlen hc' hr')
        | _=>simp [shift] at hv
      ·exact hn.elim
    ·cases h
   ·cases h
  ·cases h
 ·cases h
end
end
end Go.Ab
/- The operations that yield a value and leave the blocks alone, against the machine's: the second part. -/
namespace Go.Ab
noncomputable section
variable {ty:Nat->Type}
section
variable {P:Program} {cx:Cx ty} {e:Env} {st:St ty} {κ:Nat->Value} {a:Act} {w:World} {o:Oper} {d:Delta ty} {Q:Exit->Act->World->Prop}
theorem zfD {α:Type} {b:Bool} {x:Option α} {y:α} (h:(bif b then x else none)=some y):b=true/\x=some y:=by
 cases b <;>simp_all
theorem zSc {us:Value} {cs:List (AV ty)} (h:ziB cx e st κ w us (.agg cs)):∃ vs:List Value,us=.agg vs.toArray/\All2 (ziB cx e st κ w) vs cs:=by
 cases h with
 | rep h=>cases h with | agg vs _ hlen hr=>exact ⟨vs,rfl,zDz hlen hr⟩
 | agg vs _ hlen hr=>exact ⟨vs,rfl,hlen,hr⟩
theorem zbi0 (hcx:CxOK P cx) {T:Nat} {i:TInfo} (hi:cx.ti T=some i) {us:List Value} {cs:List (AV ty)} (ha:All2 (ziB cx e st κ w) us cs) {off:Nat} {v:AV ty} (hv:cut i cs off=some v):
  ∃ u,(part T us.toArray off).run P w=.ok u w/\ziB cx e st κ w u v:=by
 unfold cut at hv;have hg:=z92 hcx hi w;split at hv
 ·rename_i hst;split at hv
  ·rename_i hle;simp only [q0] at hv; subst hv;have hle:off+i.size<=us.length:=by rw [ha.len]; exact q2p hle
   refine ⟨.agg ((us.drop off).take i.size).toArray, ?_,zTD ((ha.drop off).take _)⟩
   have:us.toArray.extract off (off+i.size)=((us.drop off).take i.size).toArray:=by
    apply Array.ext';rw [List.extract_toArray];simp [List.extract]
   simp [part,hg,hst,zDh hcx hi,this]
  ·cases hv
 ·rename_i hst;obtain ⟨u,hu,hr⟩:=ha.getR hv;refine ⟨u, ?_,hr⟩;simp [part,hg,hst,hu]
theorem zbiQ {S:Nat} {x:Operand} {f:Nat} (hcx:CxOK P cx) (ho:o.op=.field S x f) (h:aop cx o st=some d) (hf:RF cx e st κ a w):o.wp P a w (λa' w'=>R cx e (st.app o.dst d) a' w') Q:=by
 unfold aop ze8 at h;simp only [ho] at h;have hr:=zcq hf x;generalize hev:a.eval x=ve at hr;split at h
 ·rename_i fs s b z cs hS hx;rw [hx] at hr;obtain ⟨vs,rfl,ha⟩:=zSc hr;obtain ⟨fields,hu,hfs⟩:=z4M hcx hS;split at h
  ·rename_i off T hfo;split at h
   ·rename_i i hi;split at h
    ·rename_i v hv;simp only [q0] at h; subst h;rw [<- hfs,q14] at hfo;cases hfi:fields[f]? with
     | none=>simp [hfi] at hfo
     | some fd=>
      simp only [q1n,hfi,qz,q0,qe] at hfo;obtain ⟨rfl,rfl⟩:=hfo;obtain ⟨u,hrun,hu'⟩:=zbi0 hcx hi ha hv;exact zZ (v:=u) (w':=w) (by simp [execOp,ho,hev,Instr.field,zdJ hu,hfi,asAgg,hrun]) (hf.val hu')
    ·cases h
   ·cases h
  ·cases h
 ·cases h
theorem z9R {cur:List Value} {off:Nat}:∀ (new:List Value),off+new.length<=cur.length->
  ((new.toArray.zipIdx.foldl (λcs (c,j)=>cs.setIfInBounds (off+j) c) cur.toArray)).toList=cur.take off++new++cur.drop (off+new.length):=by
 intro new h
 have key:∀ (n:Nat) (new:List Value) (pre:List Value),new.length=n->pre.length=off+(0:Nat)\/True->∀ (i:Nat) (cur:List Value),off+i+new.length<=cur.length->
   (((new.zipIdx i).foldl (λcs (c,j)=>cs.setIfInBounds (off+j) c) cur.toArray)).toList=cur.take (off+i)++new++cur.drop (off+i+new.length):=by
  intro n;induction n with
  | zero=>
   intro new pre hn _ i cur _;have:new=[]:=q1a hn;subst this;simp
  | succ n ih=>
   intro new pre hn _ i cur hl;cases new with
   | nil=>simp at hn
   | cons x r=>
    simp only [List.zipIdx_cons,q11];have e1:cur.toArray.setIfInBounds (off+i) x=(cur.set (off+i) x).toArray:=by simp
    rw [e1,ih r pre (by simpa using hn) (.inr trivial) (i+1) (cur.set (off+i) x) (by simp at hl ⊢; omega)]
    have hlt:off+i<cur.length:=by simp at hl; omega
    apply q31;intro j;simp only [List.getElem?_append,qf,q15,List.length_set,qc,q20,q32,q2c];have m1:min (off+(i+1)) cur.length=off+i+1:=by omega
    have m2:min (off+i) cur.length=off+i:=by omega
    rw [m1,m2];by_cases h1:j<off+i
    ·have:j<off+i+1+r.length:=by omega
     have h3:¬ off+i=j:=by omega
     have h4:j<off+i+(r.length+1):=by omega
     have h5:j<off+(i+1):=by omega
     have h6:j<off+i+1:=by omega
     simp [h1,h3,h4,h5,h6,this]
    ·by_cases h2:j=off+i
     ·subst h2;have h4:off+i<off+i+(r.length+1):=by omega
      have h5:off+i<off+(i+1):=by omega
      simp [h4,h5,hlt];omega
     ·have h3:¬ j<off+i+1:=by omega
      have h7:j - (off+i)=(j - (off+i+1))+1:=by omega
      have h8:(j<off+i+1+r.length)↔(j<off+i+(r.length+1)):=by omega
      by_cases h9:j<off+i+1+r.length
      ·have h10:=h8.1 h9;simp [h1,h3,h9,h10,h7]
      ·have h10:¬ j<off+i+(r.length+1):=λhh=>h9 (h8.2 hh)
       have h11:¬ off+i=off+(i+1)+r.length+(j - (off+i+1+r.length)):=by omega
       simp [h1,h3,h9,h10,h11];congr 1;omega
 have:=key new.length new [] rfl (.inr trivial) 0 cur (by simpa using h)
 simp only [Nat.add_zero] at this;rw [<- this];have hz:new.toArray.zipIdx=new.zipIdx.toArray:=by simp
 rw [hz,List.foldl_toArray'];simp
theorem All2.splice {α β:Type} {R:α->β->Prop} {us new:List α} {cs cnew:List β} (h:All2 R us cs) (h':All2 R new cnew) (off:Nat):
  All2 R (us.take off++new++us.drop (off+new.length)) (cs.take off++cnew++cs.drop (off+cnew.length)):=by
 rw [<- h'.len];exact ((h.take off).append h').append (h.drop _)
theorem zRd {cs new cs':List (AV ty)} {off:Nat} (h:splice cs off new=some cs'):off+new.length<=cs.length/\cs'=cs.take off++new++cs.drop (off+new.length):=by
 unfold splice at h;split at h
 ·rename_i hle;simp only [q0] at h;exact ⟨q2p hle,h.symm⟩
 ·cases h
theorem live_kind {id:Nat} (h:ztO st id=true):(st.blk id).kind cx≠.dead:=by
 unfold ztO at h;split at h <;>simp_all [Blk.kind]
theorem zdp.slice {F:Nat->Prop} {v:Value} {T:Nat} {l:List (ty T)} (h:zdp cx F w v T l):∃ b n c,v=.slice b n c:=by
 obtain ⟨xs,ho,_⟩:=h;rcases ho.2 with ⟨rfl,_⟩ | ⟨g,cap,cur,rfl,_⟩
 ·exact ⟨_,_,_,rfl⟩
 ·exact ⟨_,_,_,rfl⟩
theorem zbc8 (hrb:RB cx e st.blk κ w) {v:Value} {av:AV ty} (hr:ziB cx e st κ w v av) (h:av.isCell st=true):zbJ v=true:=by
 cases hr with
 | rep hr=>
  cases hr with
  | lit x=>exact h
  | agg=>simp [AV.isCell] at h
  | _=>rfl
 | own id k n hk=>
  cases hb:st.blk id with
  | arr T l fz=>obtain ⟨b,n,c,hv⟩:=(hrb.row hb).slice; rw [hv]; rfl
  | _=>simp [hb,Blk.kind] at hk
 | ownD _ id hk=>exact absurd hk (live_kind h)
 | sub _ id lo n k m hk hl hv=>
  unfold zow at hv;split at hv
  ·rcases hv with rfl | ⟨_,_,b,c,rfl,_⟩ <;>rfl
  ·obtain ⟨b,c,rfl,_⟩:=hv; rfl
 | subD _ id _ _ hk=>exact absurd hk (live_kind h)
 | ptr=>rfl
 | ptrD _ id _ hk=>exact absurd hk (live_kind h)
 | eptr=>rfl
 | eptrD _ id _ _ hk=>exact absurd hk (live_kind h)
 | fn=>rfl
 | agg=>simp [AV.isCell] at h
 | tup=>simp [AV.isCell] at h
 | dead=>simp [AV.isCell] at h
 | mp=>simp [AV.isCell] at h
 | mpD=>simp [AV.isCell] at h
theorem zbaf {v:Value} (h:zbJ v=true):v.cells.toList=[v]:=by cases v <;>first | rfl | simp [zbJ] at h
theorem z5P (v:Value):zbJ v=v.oneCell':=by cases v <;>rfl
theorem zHZ (hrb:RB cx e st.blk κ w) {v:Value} {av:AV ty} {cs:List (AV ty)} (hr:ziB cx e st κ w v av) (h:av.cells st=some cs):
  All2 (ziB cx e st κ w) v.cells.toList cs/\∀ u∈v.cells.toList,zbJ u=true:=by
 unfold AV.cells at h;split at h
 ·rename_i cs';split at h
  ·rename_i hall;simp only [q0] at h; subst h;obtain ⟨vs,rfl,ha⟩:=zSc hr;refine ⟨by simpa [Value.cells] using ha,λu hu=> ?_⟩
   simp only [Value.cells] at hu;obtain ⟨j,hj⟩:=q2i hu;obtain ⟨c,hc,hr⟩:=ha.getL hj;exact zbc8 hrb hr ((q1d.1 hall) c (q1l hc))
  ·cases h
 ·split at h
  ·rename_i hc;simp only [q0] at h; subst h;have h1:=zbc8 hrb hr hc;rw [zbaf h1];exact ⟨.cons hr .nil,by simpa using h1⟩
  ·cases h
theorem zMu {F:Nat->Prop} (z:List Value):All2 (Rep cx F w) z (z.map .lit):=by
 refine ⟨by simp,λj u c hu hc=> ?_⟩
 rw [q14,hu] at hc;simp at hc; subst hc; exact .lit u
theorem z5g (hcx:CxOK P cx) (hrb:RB cx e st.blk κ w) {fs:List (Nat×Nat)} {places:Array (Nat×Nat)}
  (hp:∀ (i off T:Nat) (inf:TInfo),fs[i]? =some (off,T)->cx.ti T=some inf->places[i]? =some (off,inf.size)):
  ∀ (ps:List (Nat×AV ty)) (us:List (Nat×Value)) (cur:List Value) (cs cs':List (AV ty)),
   All2 (λ(u:Nat×Value) (p:Nat×AV ty)=>u.1=p.1/\ziB cx e st κ w u.2 p.2) us ps->All2 (ziB cx e st κ w) cur cs->zjI cx st fs cs ps=some cs'->
   ∃ cur',Instr.fill (places[·]?) cur.toArray us=some cur'/\All2 (ziB cx e st κ w) cur'.toList cs'
 | [],us,cur,cs,cs',hu,hc,h=>by
  rw [hu.nil_left.1];simp only [zjI,q0] at h; subst h;exact ⟨cur.toArray,rfl,by simpa using hc⟩
 | (i,v)::r,us,cur,cs,cs',hu,hc,h=>by
  obtain ⟨⟨i',u⟩,us',rfl,⟨hi,hr⟩,hu'⟩:=hu.inv;simp only at hi hr; subst hi;simp only [zjI] at h;split at h
  ·cases h
  ·rename_i off T hfo;split at h
   ·cases h
   ·rename_i inf hT;split at h
    ·cases h
    ·rename_i c hcl;split at h
     ·cases h
     ·rename_i hsz;split at h
      ·cases h
      ·rename_i cs1 hsp;obtain ⟨hle,rfl⟩:=zRd hsp;obtain ⟨ha,h1⟩:=zHZ hrb hr hcl
       have hsz:u.cells.size=inf.size:=by
        have:=ha.len;rw [q1h] at this;rw [this]; exact qx hsz
       have hlen:u.cells.toList.length=c.length:=ha.len;obtain ⟨cur',hfill,hres⟩:=z5g hcx hrb hp r us' (cur.take off++u.cells.toList++cur.drop (off+u.cells.toList.length)) _ cs' hu' (hc.splice ha off) h;refine ⟨cur', ?_,hres⟩
       have hoff:¬ (off+u.cells.size>cur.length):=by
        have:=hc.len;rw [<- q1h,hlen,this]; omega
       have hset:=z9R (cur:=cur) (off:=off) u.cells.toList (by rw [q1h]; omega)
       simp only [Array.toArray_toList] at hset;rw [<- hset] at hfill;simp only [Instr.fill,hp i' off T inf hfo hT,hsz]
       rw [show ((inf.size≠inf.size)||decide (off+inf.size>cur.toArray.size))=false by
        simp; rw [<- hsz]; omega]
       simpa using hfill
def zDu (P:Program) (T:Nat):Nat:=((P.info? T).map (·.size)).getD 0
theorem z5d {α:Type} (f:α->Nat) (g:α->Nat):∀ (l:List α),(∀ x∈l,(P.info? (g x)).isSome=true)->
  (l.mapM λx=>do pure (f x, <- sizeOf (g x)):Sem (List (Nat×Nat))).run P w=.ok (l.map λx=>(f x,zDu P (g x))) w
 | [],_=>by simp
 | x::l,h=>by
  obtain ⟨i,hi⟩:=qm.1 (h x (by simp))
  have ih:=z5d f g l λy hy=>h y (by simp [hy])
  have hx:(do pure (f x, <- sizeOf (g x)):Sem (Nat×Nat)).run P w=.ok (f x,zDu P (g x)) w:=by simp [zbdk hi,zDu,hi]
  rw [List.mapM_cons];rw [Sem.run_bind,hx,Result.andThen_ok,Sem.run_bind,ih];rfl
theorem zbjr {T:Nat} {parts:Array (Nat×Operand)} (hcx:CxOK P cx) (ho:o.op=.build T parts) (h:aop cx o st=some d) (hf:RF cx e st κ a w):o.wp P a w (λa' w'=>R cx e (st.app o.dst d) a' w') Q:=by
 unfold aop ze8 at h;simp only [ho] at h;split at h
 ·rename_i fs s b zz hT;obtain ⟨info,dd,z,hi,hu,hs,hb,hz,hzc,hzl,hz1,fields,rfl,hfs,hall⟩:=(hcx.ti T _ hT).ok;split at h
  ·rename_i cs hfill;simp only [q0] at h; subst h
   have hplaces:(fields.mapM λf=>do pure (f.offset, <- sizeOf f.type):Sem (Array (Nat×Nat))).run P w=.ok (fields.map λf=>(f.offset,zDu P f.type)) w:=by
    have:=z5d (P:=P) (w:=w) (λf:Field=>f.offset) (λf=>f.type) fields.toList hall
    rw [Array.mapM_eq_mapM_toList];simp only [Sem.run_map,this,Result.andThen_ok];congr 1;apply Array.ext';simp
   obtain ⟨cur',hfl,hres⟩:=z5g (κ:=κ) hcx hf.rb (fs:=fs) (places:=fields.map λf=>(f.offset,zDu P f.type)) (λi off T inf h1 h2=>by
     rw [<- hfs,q14] at h1;cases hfi:fields[i]? with
     | none=>simp [hfi] at h1
     | some fd=>
      simp only [q1n,hfi,qz,q0,qe] at h1;obtain ⟨rfl,rfl⟩:=h1;obtain ⟨info',_,_,hi',_,hs',_⟩:=(hcx.ti _ _ h2).ok;simp [hfi,zDu,hi',hs'])
    (parts.toList.map λ(i,x)=>(i,st.ev x)) (parts.toList.map λ(i,x)=>(i,a.eval x)) z.cells.toList (zz.map .lit) cs
    (⟨by simp,λj u c hu hc=>by
     rw [q14] at hu hc;cases hx:parts.toList[j]? with
     | none=>rw [hx] at hu; cases hu
     | some x=>
      rw [hx] at hu hc;simp only [qz,q0] at hu hc;subst hu; subst hc;exact ⟨rfl,zcq hf x.2⟩⟩)
    (by rw [hzc]; exact (zMu zz).imp λ_ _ h=>.rep h) hfill
   have heq:(Value.agg cur')=.agg cur'.toList.toArray:=by simp
   refine zZ (v:=.agg cur') (w':=w) ?_ (hf.val (by rw [heq]; exact zTD hres))
   have hparts:(parts.map λ(i,x)=>(i,a.eval x)).toList=parts.toList.map λ(i,x)=>(i,a.eval x):=by simp
   simp only [Array.toArray_toList] at hfl;simp only [execOp,ho,Instr.build,Sem.run_bind,zMk hi hz,Result.andThen_ok,zdJ hu,hplaces,hparts,hfl,Sem.run_pure]
  ·cases h
 ·cases h
theorem zyn (op:BinOp) (t:TypeId) (x y:Operand) {u v:Value} (h1:zbJ u=true) (hi:u≠.nilIface):(eqGuard op t x y u v).run P w=.ok () w:=by
 unfold eqGuard;cases op <;>simp <;>(cases u <;>simp_all [zbJ])
theorem zbih {op:BinOp} {k:IntKind} {x y:Int} {b:Bool} {v:AV ty} (h:zbf5 op k x y=some (b,v)) (hb:b=true) (T:Nat):
  ∃ u,(binOp op T (.int k x) (.int k y)).run P w=.ok u w/\v=.lit u:=by
 subst hb;unfold zbf5 at h;cases op
 case quo=>
  simp only [q0,qe,q17,q1c] at h;obtain ⟨hy,rfl⟩:=h;exact ⟨_,by simp [binOp,Op.intDiv,hy],rfl⟩
 case rem=>
  simp only [q0,qe,q17,q1c] at h;obtain ⟨hy,rfl⟩:=h;exact ⟨_,by simp [binOp,Op.intDiv,hy],rfl⟩
 case shr=>
  simp only [q0,qe,q17,q1c] at h;obtain ⟨hy,rfl⟩:=h;exact ⟨_,by simp [binOp,Op.shift,hy],rfl⟩
 all_goals first
  | (simp at h; done)
  | (simp only [q0,qe,true_and] at h
     subst h;exact ⟨_,by simp [binOp,Op.intArith,Op.intCmp],rfl⟩)
theorem zMm (n:Nat) {T:Nat} (hu:P.underlying T=some .bool) (x y:Bool):(Op.equalIn (n+1) T (.bool x) (.bool y)).run P w=.ok (x==y) w:=by
 simp [Op.equalIn,zdJ hu]
theorem zbbV {T:Nat} (hu:P.underlying T=some .bool) (x y:Bool):(binOp .eql T (.bool x) (.bool y)).run P w=.ok (.bool (x==y)) w:=by
 have:(Op.equal T (.bool x) (.bool y)).run P w=.ok (x==y) w:=zMm 9999 hu x y;simp only [binOp,Sem.run_bind,this,Result.andThen_ok,Sem.run_pure]
theorem zbbS {T:Nat} (hu:P.underlying T=some .bool) (x y:Bool):(binOp .neq T (.bool x) (.bool y)).run P w=.ok (.bool (!(x==y))) w:=by
 have:(Op.equal T (.bool x) (.bool y)).run P w=.ok (x==y) w:=zMm 9999 hu x y;simp only [binOp,Sem.run_bind,this,Result.andThen_ok,Sem.run_pure]
theorem z62 (m:Nat) {T el:Nat} (hu:P.underlying T=some (.slice el)) (ad:Option Addr) (n c:Nat):(Op.equalIn (m+1) T (.slice ad n c) (.slice none 0 0)).run P w=.ok ad.isNone w:=by
 cases ad <;>simp [Op.equalIn,zdJ hu]
theorem zUE {T el:Nat} (hu:P.underlying T=some (.slice el)) (ad:Option Addr) (n c:Nat):
  (binOp .eql T (.slice ad n c) (.slice none 0 0)).run P w=.ok (.bool ad.isNone) w/\(binOp .neq T (.slice ad n c) (.slice none 0 0)).run P w=.ok (.bool (!ad.isNone)) w:=by
 have:(Op.equal T (.slice ad n c) (.slice none 0 0)).run P w=.ok ad.isNone w:=z62 9999 hu ad n c;exact ⟨by simp only [binOp,Sem.run_bind,this,Result.andThen_ok,Sem.run_pure],by simp only [binOp,Sem.run_bind,this,Result.andThen_ok,Sem.run_pure]⟩
theorem z02 (m:Nat) {T:Nat} {ms} (hu:P.underlying T=some (.interface ms)) (v:Value) (b:Bool) (hv:(v=.nilIface/\b=false)\/(∃ t u,v=.iface t u/\b=true)):
  (Op.equalIn (m+1) T v .nilIface).run P w=.ok (!b) w:=by
 rcases hv with ⟨rfl,rfl⟩ | ⟨t,u,rfl,rfl⟩ <;>simp [Op.equalIn,zdJ hu]
theorem zbcr {T:Nat} {ms} (hu:P.underlying T=some (.interface ms)) (v:Value) (b:Bool) (hv:(v=.nilIface/\b=false)\/(∃ t u,v=.iface t u/\b=true)):
  (binOp .eql T v .nilIface).run P w=.ok (.bool (!b)) w/\(binOp .neq T v .nilIface).run P w=.ok (.bool b) w:=by
 have:(Op.equal T v .nilIface).run P w=.ok (!b) w:=z02 9999 hu v b hv;exact ⟨by simp only [binOp,Sem.run_bind,this,Result.andThen_ok,Sem.run_pure],by simp only [binOp,Sem.run_bind,this,Result.andThen_ok,Sem.run_pure,Bool.not_not]⟩
theorem z0U:∀ (us:List Value) (cs:List (AV ty)) (xs:List Value),All2 (ziB cx e st κ w) us cs->zIH cs=some xs->us=xs
 | us,[],xs,h,hl=>by
  simp only [zIH,q0] at hl; subst hl;exact h.nil_left.1
 | us,c::cs,xs,h,hl=>by
  obtain ⟨u,us',rfl,hu,h'⟩:=h.inv;cases c with
  | lit v=>
   simp only [zIH] at hl;split at hl
   ·rename_i vs hvs;simp only [q0] at hl; subst hl;rw [zco hu,z0U us' cs vs h' hvs]
   ·cases hl
  | _=>simp [zIH] at hl
theorem zbjm {op:BinOp} {T T':Nat} {x y:Operand} (hcx:CxOK P cx) (ho:o.op=.binOp op T x y T') (h:aop cx o st=some d) (hf:RF cx e st κ a w):o.wp P a w (λa' w'=>R cx e (st.app o.dst d) a' w') Q:=by
 unfold aop ze8 at h;simp only [ho] at h;have hx:=zcq hf x;have hy:=zcq hf y;split at h
 ·rename_i v herr;simp only [q0] at h; subst h;unfold zbj5 at herr;split at herr
  ·rename_i b hex;split at herr
   ·rename_i s b' z hT;obtain ⟨ms,hu⟩:=zbhb hcx hT;rw [hex] at hx
    have key:∀ r:Bool,((op=.eql/\r= !b)\/(op=.neq/\r=b))->(execOp a.eval o).run P w=.ok (.value (.bool r)) w:=by
     intro r hr
     have hval:(a.eval x=.nilIface/\b=false)\/(∃ t u,a.eval x=.iface t u/\b=true):=by
      generalize a.eval x=v at hx;cases hx with
      | rep hx=>cases hx with
       | errN=>exact .inl ⟨rfl,rfl⟩
       | errS t u=>exact .inr ⟨t,u,rfl,rfl⟩
     have hy':a.eval (.const .nilIface)=.nilIface:=rfl;have hk:=zbcr (w:=w) hu (a.eval x) b hval;rcases hr with ⟨rfl,rfl⟩ | ⟨rfl,rfl⟩
     ·rcases hval with ⟨e1,rfl⟩ | ⟨t,u,e1,rfl⟩
      ·rw [e1] at hk; simp only [execOp,ho,e1,hy',Sem.run_bind,eqGuard_nil_constR,Sem.run_pure,Result.andThen_ok,hk.1]
      ·rw [e1] at hk; simp only [execOp,ho,e1,hy',Sem.run_bind,eqGuard_at_iface,Sem.run_pure,Result.andThen_ok,hk.1]
     ·rcases hval with ⟨e1,rfl⟩ | ⟨t,u,e1,rfl⟩
      ·rw [e1] at hk; simp only [execOp,ho,e1,hy',Sem.run_bind,eqGuard_nil_constR,Sem.run_pure,Result.andThen_ok,hk.2]
      ·rw [e1] at hk; simp only [execOp,ho,e1,hy',Sem.run_bind,eqGuard_at_iface,Sem.run_pure,Result.andThen_ok,hk.2]
    split at herr
    ·simp only [q0] at herr; subst herr;exact zZ (v:=.bool (!b)) (w':=w) (key _ (.inl ⟨rfl,rfl⟩)) (hf.val (.rep (.lit _)))
    ·simp only [q0] at herr; subst herr;exact zZ (v:=.bool b) (w':=w) (key _ (.inr ⟨rfl,rfl⟩)) (hf.val (.rep (.lit _)))
    ·cases herr
   ·cases herr
  ·cases herr
 split at h
 ·rename_i b v hbin;obtain ⟨hb,h⟩:=zfD h;simp only [q0] at h; subst h;unfold zbj1 at hbin;split at hbin
  ·rename_i k m k' n hex hey;rw [hex] at hx; rw [hey] at hy;split at hbin
   ·rename_i hk; subst hk;obtain ⟨u,hrun,rfl⟩:=zbih (P:=P) (w:=w) hbin hb T;have e1:=zco hx;have e2:=zco hy;refine zZ (v:=u) (w':=w) ?_ (hf.val (.rep (.lit u)));simp [execOp,ho,e1,e2,zyn (P:=P) (w:=w) op T x y (u:=.int k m) (v:=.int k n) rfl (by simp),hrun]
   ·cases hbin
  ·rename_i m n hex hey;rw [hex] at hx; rw [hey] at hy;have e1:=zco hx;have e2:=zco hy;have hg:=zyn (P:=P) (w:=w) op T x y (u:=.string m) (v:=.string n) rfl (by simp)
   unfold zbj8 at hbin;cases op <;>simp only [q0,qe,reduceCtorEq] at hbin
   case add=>
    obtain ⟨h1,rfl⟩:=hbin;rw [hb,qb] at h1;refine zZ (v:=.string (m++n)) (w':=w) ?_ (hf.val (.rep (.lit _)));simp only [execOp,ho,e1,e2,Sem.run_bind,hg,Result.andThen_ok,binOp,Op.stringOp];rw [if_neg (by rw [show IntKind.i64.max=9223372036854775807 by decide]; omega)]
    rfl
   case eql=>
    obtain ⟨_,rfl⟩:=hbin;exact zZ (w':=w) (by simp only [execOp,ho,e1,e2,Sem.run_bind,hg,Result.andThen_ok,binOp,Op.stringOp,Sem.run_pure]) (hf.val (.rep (.lit _)))
   case neq=>
    obtain ⟨_,rfl⟩:=hbin;exact zZ (w':=w) (by simp only [execOp,ho,e1,e2,Sem.run_bind,hg,Result.andThen_ok,binOp,Op.stringOp,Sem.run_pure]) (hf.val (.rep (.lit _)))
   case lss=>
    obtain ⟨_,rfl⟩:=hbin;exact zZ (w':=w) (by simp only [execOp,ho,e1,e2,Sem.run_bind,hg,Result.andThen_ok,binOp,Op.stringOp,Sem.run_pure]) (hf.val (.rep (.lit _)))
  ·rename_i m n hex hey;rw [hex] at hx; rw [hey] at hy;have e1:=zco hx;have e2:=zco hy;have hg:=zyn (P:=P) (w:=w) op T x y (u:=.bool m) (v:=.bool n) rfl (by simp)
   split at hbin
   ·rename_i s b' z hT;have hu:=zbiN hcx hT;split at hbin
    ·simp only [q0,qe] at hbin;obtain ⟨_,rfl⟩:=hbin;exact zZ (v:=.bool (m==n)) (w':=w) (by simp only [execOp,ho,e1,e2,Sem.run_bind,hg,Result.andThen_ok,zbbV hu,Sem.run_pure]) (hf.val (.rep (.lit _)))
    ·simp only [q0,qe] at hbin;obtain ⟨_,rfl⟩:=hbin;exact zZ (v:=.bool (!(m==n))) (w':=w) (by simp only [execOp,ho,e1,e2,Sem.run_bind,hg,Result.andThen_ok,zbbS hu,Sem.run_pure]) (hf.val (.rep (.lit _)))
    ·cases hbin
   ·cases hbin
  ·rename_i cs cs' hex hey;rw [hex] at hx; rw [hey] at hy;obtain ⟨us,e1,ha⟩:=zSc hx;obtain ⟨vs,e2,hb'⟩:=zSc hy;split at hbin
   ·rename_i xs ys hxs hys;split at hbin
    ·rename_i r heq;rw [z0U _ _ _ ha hxs] at e1;rw [z0U _ _ _ hb' hys] at e2;obtain ⟨r1,r2,hg,_⟩:=hcx.eqs T xs ys r heq w;split at hbin
     ·simp only [q0,qe] at hbin;obtain ⟨_,rfl⟩:=hbin;exact zZ (v:=.bool r) (w':=w) (by simp only [execOp,ho,e1,e2,Sem.run_bind,hg,Result.andThen_ok,r1,Sem.run_pure]) (hf.val (.rep (.lit _)))
     ·simp only [q0,qe] at hbin;obtain ⟨_,rfl⟩:=hbin;exact zZ (v:=.bool (!r)) (w':=w) (by simp only [execOp,ho,e1,e2,Sem.run_bind,hg,Result.andThen_ok,r2,Sem.run_pure]) (hf.val (.rep (.lit _)))
     ·cases hbin
    ·cases hbin
   ·cases hbin
  ·rename_i ad n c hex hey;rw [hex] at hx; rw [hey] at hy;have e1:=zco hx;have e2:=zco hy;have hg:=zyn (P:=P) (w:=w) op T x y (u:=.slice ad n c) (v:=.slice none 0 0) rfl (by simp)
   split at hbin
   ·rename_i el s b' z hT;obtain ⟨he1,he2⟩:=zUE (w:=w) (zjE hcx hT) ad n c;split at hbin
    ·simp only [q0,qe] at hbin;obtain ⟨_,rfl⟩:=hbin;exact zZ (v:=.bool ad.isNone) (w':=w) (by simp only [execOp,ho,e1,e2,Sem.run_bind,hg,Result.andThen_ok,he1,Sem.run_pure]) (hf.val (.rep (.lit _)))
    ·simp only [q0,qe] at hbin;obtain ⟨_,rfl⟩:=hbin;exact zZ (v:=.bool (!ad.isNone)) (w':=w) (by simp only [execOp,ho,e1,e2,Sem.run_bind,hg,Result.andThen_ok,he2,Sem.run_pure]) (hf.val (.rep (.lit _)))
    ·cases hbin
   ·cases hbin
  ·rename_i el l hex hey;rw [hex] at hx; rw [hey] at hy;have e2:=zco hy;split at hbin
   ·rename_i el' s b' z hT
    have hnn:∀ q,some (!l.isEmpty,q)=some (b,v)->∃ ad n c,a.eval x=.slice (some ad) n c:=by
     intro q hq;simp only [q0,qe] at hq;have hne:l.isEmpty=false:=by have:=hq.1; rw [hb] at this; simpa using this
     revert hx;generalize a.eval x=u;intro hx;cases hx with
     | rep hr=>
      cases hr with
      | slE=>simp at hne
      | sl=>exact ⟨_,_,_,rfl⟩
    split at hbin
    ·obtain ⟨ad,n,c,e1⟩:=hnn _ hbin;obtain ⟨he1,he2⟩:=zUE (w:=w) (zjE hcx hT) (some ad) n c;have hg:=zyn (P:=P) (w:=w) .eql T x y (u:=.slice (some ad) n c) (v:=.slice none 0 0) rfl (by simp)
     simp only [q0,qe] at hbin;obtain ⟨_,rfl⟩:=hbin;exact zZ (v:=.bool false) (w':=w) (by simp only [execOp,ho,e1,e2,Sem.run_bind,hg,Result.andThen_ok,he1,Sem.run_pure]; rfl) (hf.val (.rep (.lit _)))
    ·obtain ⟨ad,n,c,e1⟩:=hnn _ hbin;obtain ⟨he1,he2⟩:=zUE (w:=w) (zjE hcx hT) (some ad) n c;have hg:=zyn (P:=P) (w:=w) .neq T x y (u:=.slice (some ad) n c) (v:=.slice none 0 0) rfl (by simp)
     simp only [q0,qe] at hbin;obtain ⟨_,rfl⟩:=hbin;exact zZ (v:=.bool true) (w':=w) (by simp only [execOp,ho,e1,e2,Sem.run_bind,hg,Result.andThen_ok,he2,Sem.run_pure]; rfl) (hf.val (.rep (.lit _)))
    ·cases hbin
   ·cases hbin
  ·cases hbin
 ·cases h
end
end
end Go.Ab
/- The operations that yield a value and leave the blocks alone, against the machine's: the third part: slices, indexes, lengths. -/
namespace Go.Ab
noncomputable section
variable {ty:Nat->Type}
section
variable {P:Program} {cx:Cx ty} {e:Env} {st:St ty} {κ:Nat->Value} {a:Act} {w:World} {o:Oper} {d:Delta ty} {Q:Exit->Act->World->Prop}
theorem zblh {u:UnOp} {T:Nat} {x:Operand} (ho:o.op=.unOp u T x) (h:aop cx o st=some d) (hf:RF cx e st κ a w):o.wp P a w (λa' w'=>R cx e (st.app o.dst d) a' w') Q:=by
 unfold aop ze8 at h;simp only [ho] at h;have hx:=zcq hf x;split at h
 ·rename_i b hex;rw [hex] at hx;simp only [q0] at h; subst h;exact zZ (v:=.bool (!b)) (w':=w) (by simp only [execOp,ho,zco hx,Op.unary,Sem.run_bind,Sem.run_pure,Result.andThen_ok]) (hf.val (.rep (.lit _)))
 ·rename_i k n hex;rw [hex] at hx;simp only [q0] at h; subst h;exact zZ (v:=.int k (k.wrap (0 - n))) (w':=w) (by simp only [execOp,ho,zco hx,Op.unary,Op.intArith,Sem.run_bind,Sem.run_pure,Result.andThen_ok]) (hf.val (.rep (.lit _)))
 ·cases h
theorem zY0 (hrb:RB cx e st.blk κ w) {v:Value} {av:AV ty} {x:(T:Nat)×List (ty T)} {rd:List Nat} (hr:ziB cx e st κ w v av) (h:zed st av=some (x,rd)):
  ∃ ad cap,v=.slice ad x.2.length cap/\(ad=none->x.2=[]/\cap=0):=by
 cases av with
 | sl T l=>
  simp only [zed,q0,qe] at h;obtain ⟨rfl,_⟩:=h;cases hr with
  | rep hr=>
   cases hr with
   | slE ad c T hn=>exact ⟨ad,c,rfl,λh=>⟨rfl,hn h⟩⟩
   | sl b off cap T l us=>exact ⟨_,cap,rfl,by simp⟩
 | own id=>
  simp only [zed] at h;split at h
  ·rename_i T l fz hb;simp only [q0,qe] at h;obtain ⟨rfl,_⟩:=h;cases hr with
   | rep hr=>cases hr
   | own _ k m hk=>
    obtain ⟨xs,ho,_⟩:=hrb.row hb;rcases ho.2 with ⟨hv,h0⟩ | ⟨g,cap,cur,hv,_⟩
    ·have:l=[]:=q1a h0;subst this;exact ⟨none,0,hv,λ_=>⟨rfl,rfl⟩⟩
    ·exact ⟨_,cap,hv,by simp⟩
   | ownD _ _ hk=>simp [hb,Blk.kind] at hk
  ·cases h
 | sub id lo n=>
  simp only [zed] at h;split at h
  ·rename_i T l fz hb;simp only [q0,qe] at h;obtain ⟨rfl,_⟩:=h;cases hr with
   | rep hr=>cases hr
   | sub _ _ _ _ k m hk hl hv=>
    simp only [hb,Blk.kind,Kind.arr.injEq] at hk;obtain ⟨rfl,rfl⟩:=hk;have hlen:((l.drop lo).take n).length=n:=by simp; omega
    obtain ⟨b,m',c',hκ⟩:=(hrb.row hb).slice;rw [hκ] at hv;unfold zow at hv;simp only at hlen ⊢;split at hv
    ·rcases hv with rfl | ⟨rfl,_,b,c,rfl,hbc⟩
     ·exact ⟨_,_,by rw [hlen],by simp⟩
     ·exact ⟨b,c,by rw [hlen],λh=>⟨q1a hlen,hbc h⟩⟩
    ·obtain ⟨b,c,rfl,rfl,_,hbc⟩:=hv;exact ⟨b,c,by rw [hlen],λh=>⟨q1a hlen,hbc h⟩⟩
   | subD _ _ _ _ hk=>simp [hb,Blk.kind] at hk
  ·cases h
 | _=>simp [zed] at h
theorem zYn (hf:RF cx e st κ a w) {x:Option Operand} {n:Option Int} (h:zzU st x=some n):x.map a.eval=n.map (Value.int .i64):=by
 cases x with
 | none=>simp only [zzU,q0] at h; subst h; rfl
 | some x=>
  simp only [zzU] at h;split at h
  ·rename_i m hm;simp only [q0] at h; subst h;simp only [qz];rw [zFJ (zcq hf x) hm]
  ·cases h
theorem z6a (isSlice:Bool) (len cap:Nat) (lo hi:Option Int) (hcap:len<=cap) (h1:0<=lo.getD 0) (h2:lo.getD 0<=hi.getD len) (h3:hi.getD len<=len):
  (Instr.sliceBounds isSlice len cap (lo.map (Value.int .i64)) (hi.map (Value.int .i64)) none).run P w=.ok ((lo.getD 0).toNat,(hi.getD len).toNat,cap) w:=by
 unfold Instr.sliceBounds;cases hi with
 | none=>
  cases lo with
  | none=>simp
  | some l=>
   simp only [q2j,Option.getD_none] at h1 h2 h3;simp [Instr.sliceBound,asIntOf,h1,h2]
 | some h=>
  simp only [q2j] at h2 h3;have hh:0<=h/\h<=(cap:Int):=by omega
  cases lo with
  | none=>simp [Instr.sliceBound,asIntOf,hh]
  | some l=>
   simp only [q2j] at h1 h2;have h4:(l<=(h.toNat:Int)):=by omega
   have e1:(Instr.sliceBound (.int .i64 h) cap (if isSlice then .sliceAcap else .sliceAlen)).run P w=.ok h.toNat w:=by simp [Instr.sliceBound,asIntOf,hh]
   have e2:(Instr.sliceBound (.int .i64 l) h.toNat .sliceB).run P w=.ok l.toNat w:=by
    simp only [Instr.sliceBound,asIntOf,Sem.run_bind,Sem.run_pure,Result.andThen_ok];rw [if_pos ⟨h1,h4⟩]; rfl
   simp only [qz,Sem.run_bind,Sem.run_pure,Result.andThen_ok,e1,Option.isSome_none,q1e,if_false,e2,q2j]
theorem zbm2 {a b c:Bool} (h:(a&&b&&c)=true):a=true/\b=true/\c=true:=by simpa [and_assoc] using h
def zCM (ad:Option Addr) (k l h cap:Nat):Value:=.slice (if cap=l then ad else ad.map (·.add (l*k))) (h - l) (cap - l)
theorem z2p (hcx:CxOK P cx) {T e':Nat} {i:TInfo} (hu:P.underlying T=some (.slice e')) (hi:cx.ti e'=some i) {ad:Option Addr} {len cap:Nat} {lo hi':Option Int} (hcap:len<=cap)
  (h1:0<=lo.getD 0) (h2:lo.getD 0<=hi'.getD len) (h3:hi'.getD len<=len):
  (Instr.sliceAt T (.slice ad len cap) (lo.map (Value.int .i64)) (hi'.map (Value.int .i64)) none).run P w=.ok (zCM ad i.size (lo.getD 0).toNat (hi'.getD len).toNat cap) w:=by
 simp only [Instr.sliceAt,Instr.slice,Sem.run_bind,zdJ hu,Result.andThen_ok,z6a true len cap lo hi' hcap h1 h2 h3,zDh hcx hi,Sem.run_pure,zCM]
theorem zbla {k l h n cap g:Nat} (hl:l<=h) (hh:h<=n) (hcap:n<=cap):zow k l (h - l) (.slice (some ⟨g,0,none⟩) n cap) (zCM (some ⟨g,0,none⟩) k l h cap):=by
 unfold zow zCM;by_cases hc:cap=l
 ·have:h - l=0:=by omega
  by_cases h0:l=0
  ·left; subst h0; simp [hc,zf5]
  ·right; exact ⟨this,by omega,some ⟨g,0,none⟩,cap - l,by rw [this,if_pos hc],by simp⟩
 ·left; rw [if_neg hc]; rfl
theorem zbkT {k l h n0 a0 cap n g:Nat} {v:Value} {c0:Nat} {ad:Option Addr} (hv:v=.slice ad n0 c0) (hs:zow k a0 n0 (.slice (some ⟨g,0,none⟩) n cap) v) (hl:l<=h) (hh:h<=n0) (hn:a0+n0<=n) (hcap:n<=cap):
  zow k (a0+l) (h - l) (.slice (some ⟨g,0,none⟩) n cap) (zCM ad k l h c0):=by
 unfold zow at hs ⊢;subst hv;rcases hs with he | ⟨h0,hpos,b,c,he,hbc⟩
 ·simp only [Value.slice.injEq,true_and] at he;obtain ⟨rfl,rfl⟩:=he;unfold zCM;by_cases hc:cap - a0=l
  ·have:h - l=0:=by omega
   by_cases h1:a0+l=0
   ·left
    have:a0=0:=by omega
    have:l=0:=by omega
    subst_vars
    simp [zf5]
   ·right; exact ⟨this,by omega,some ((⟨g,0,none⟩:Addr).add (a0*k)),cap - a0 - l,by rw [this,if_pos hc],by simp⟩
  ·left
   rw [if_neg hc];simp only [qz,zf5,q2s,q1s];congr 1;omega
 ·simp only [Value.slice.injEq] at he;obtain ⟨rfl,_,rfl⟩:=he
  right
  refine ⟨by omega,by omega,_,_,by unfold zCM; rw [show h - l=0 by omega],λhn=> ?_⟩
  have:ad=none:=by
   split at hn
   ·exact hn
   ·simpa using hn
  rw [hbc this]; omega
theorem zki {a b:Bool} (h:(a&&b)=true):a=true/\b=true:=by simpa using h
theorem zDR {F:Nat->Prop} {v:Value} {T:Nat} {l:List (ty T)} (h:zdp cx F w v T l):(v=.slice none 0 0/\l=[])\/∃ g cap,v=.slice (some ⟨g,0,none⟩) l.length cap/\l.length<=cap:=by
 obtain ⟨xs,ho,_⟩:=h;rcases ho.2 with ⟨hv,h0⟩ | ⟨g,cap,cur,hv,_,_,h1,_⟩
 ·exact .inl ⟨hv,q1a h0⟩
 ·exact .inr ⟨g,cap,hv,h1⟩
theorem zbfZ {F:Nat->Prop} (hcx:CxOK P cx) {T:Nat} {l:List (ty T)} {ad:Option Addr} {cap lo hi:Nat} {i:TInfo} (hi':cx.ti T=some i) (hr:Rep cx F w (.slice ad l.length cap) (.sl T l))
  (h1:lo<=hi) (h2:hi<=l.length):Rep cx F w (zCM ad i.size lo hi cap) (.sl T ((l.drop lo).take (hi - lo))):=by
 have hk:zt cx T=i.size:=by simp [zt,hi']
 have hlen:((l.drop lo).take (hi - lo)).length=hi - lo:=by simp; omega
 by_cases h0:hi - lo=0
 ·have hz:ad=none->cap=0:=by
   intro had;generalize hv:Value.slice ad l.length cap=v at hr;cases hr with
   | slE a' c T' hn=>simp only [Value.slice.injEq] at hv; obtain ⟨rfl,_,rfl⟩:=hv; exact hn had
   | sl=>simp only [Value.slice.injEq] at hv; rw [had] at hv; simp at hv
  unfold zCM;rw [h0]
  simpa using Rep.slE (cx:=cx) (F:=F) (w:=w) _ (cap - lo) T (λhn=>by
   have:ad=none:=by
    split at hn
    ·exact hn
    ·simpa using hn
   rw [hz this]; omega)
 ·generalize hv:Value.slice ad l.length cap=v at hr;generalize hl:(AV.sl T l:AV ty)=av at hr;cases hr with
  | sl b off cap' T' l' us hF hcap hlen' hc hr=>
   simp only [AV.sl.injEq] at hl;obtain ⟨rfl,hl⟩:=hl;have hl:=eq_of_heq hl;subst hl;simp only [Value.slice.injEq,true_and] at hv;obtain ⟨rfl,rfl⟩:=hv;unfold zCM;rw [if_neg (by omega)]
   simp only [qz,zf5]
   conv=>arg 4; rw [<- hlen]
   have e1:=zDK _ _ (hcx.len T) (l.drop lo) (hi - lo);have e2:=zwA _ _ (hcx.len T) l lo;have ha:All2 (Rep cx F w) us (zcP cx T l):=⟨hlen',hr⟩;have ha2:=(ha.drop (lo*zt cx T)).take ((hi - lo)*zt cx T);have ee:zcP cx T ((l.drop lo).take (hi - lo))=((zcP cx T l).drop (lo*zt cx T)).take ((hi - lo)*zt cx T):=by unfold zcP; rw [e1,e2]
   rw [<- hk];refine .sl b (off+lo*zt cx T) (cap - lo) T _ ((us.drop (lo*zt cx T)).take ((hi - lo)*zt cx T)) hF (by rw [hlen]; omega) (by rw [ee]; exact ha2.len) (λj u hu=> ?_) (λj u c hu hc'=> ?_)
   ·rw [q20] at hu;split at hu
    ·rw [q2c] at hu;have:=hc _ u hu
     rwa [q2e]
    ·cases hu
   ·rw [ee] at hc';exact ha2.at_ j u c hu hc'
  | slE ad' c T'=>
   simp only [AV.sl.injEq] at hl;obtain ⟨rfl,hl⟩:=hl;have hl:=eq_of_heq hl;subst hl;simp at h2;omega
  | _=>cases hl
theorem zbjM {T:Nat} {x:Operand} {lo hi:Option Operand} (hcx:CxOK P cx) (ho:o.op=.slice T x lo hi none) (h:aop cx o st=some d) (hf:RF cx e st κ a w):o.wp P a w (λa' w'=>R cx e (st.app o.dst d) a' w') Q:=by
 unfold aop ze8 at h;simp only [ho] at h;have hx:=zcq hf x;split at h
 ·rename_i l0 h0 hlo hhi;have elo:=zYn hf hlo;have ehi:=zYn hf hhi;generalize hev:a.eval x=ve at hx;unfold ztD at h;split at h
  ·-- a string
   rename_i s hex;rw [hex] at hx;have hve:=zco hx;split at h
   ·rename_i sz bz z hT;obtain ⟨hb,h⟩:=zfD h;obtain ⟨h1,h2,h3⟩:=zbm2 hb;simp only [qb] at h1 h2 h3;simp only [q0] at h; subst h;have hu:=zyi hcx hT;have hbr:=z6a (P:=P) (w:=w) false s.size s.size l0 h0 (qn _) h1 h2 h3;refine zZ (v:=.string (s.extract (l0.getD 0).toNat (h0.getD s.size).toNat)) (w':=w) ?_ (hf.val (.rep (.lit _)));simp only [execOp,ho,hev,hve,elo,ehi,Option.map_none,Instr.sliceAt,Instr.slice,Sem.run_bind,zdJ hu,Result.andThen_ok,Option.isSome_none,q1e,if_false,hbr,Sem.run_pure]
   ·cases h
  ·-- the nil slice
   rename_i hex;rw [hex] at hx;have hve:=zco hx;split at h
   ·rename_i e' s b z hT;have hu:=zjE hcx hT;split at h
    ·cases h
    ·rename_i hse;obtain ⟨i,hi'⟩:=qm.1 hse;obtain ⟨hb,h⟩:=zfD h;obtain ⟨h1,h2⟩:=zki hb;simp only [qb] at h1 h2;simp only [q0] at h; subst h;have:=z2p (w:=w) hcx hu hi' (ad:=none) (len:=0) (cap:=0) (lo:=l0) (hi':=h0) (qn _) (by omega) (by show _<=h0.getD 0; omega) (by show h0.getD 0<=0; omega)
     have hcut:zCM none i.size (l0.getD 0).toNat (h0.getD ((0:Nat):Int)).toNat 0=.slice none 0 0:=by
      have e1:(h0.getD ((0:Nat):Int))=0:=h2;rw [h1,e1]; simp [zCM]
     rw [hcut] at this;refine zZ (v:=.slice none 0 0) (w':=w) ?_ (hf.val (.rep (.lit _)));simp only [execOp,ho,hev,hve,elo,ehi,Option.map_none,Sem.run_bind,this,Result.andThen_ok,Sem.run_pure]
   ·cases h
  ·rename_i hns hns2;split at h
   ·rename_i e' s b z T' xs rd hT hl;have hu:=zjE hcx hT;split at h
    ·cases h
    ·rename_i heT;obtain ⟨heT,hse⟩:=zki heT;have heT:e'=T':=qx heT;subst heT;obtain ⟨i,hi'⟩:=qm.1 hse;have hk:zt cx e'=i.size:=by simp [zt,hi']
     obtain ⟨hb,h⟩:=zfD h;obtain ⟨h1,h2,h3⟩:=zbm2 hb;simp only [qb] at h1 h2 h3;have n1:(l0.getD 0).toNat<=(h0.getD xs.length).toNat:=by omega
     have n2:(h0.getD xs.length).toNat<=xs.length:=by omega
     have run:∀ ad cap,ve=.slice ad xs.length cap->xs.length<=cap->(execOp a.eval o).run P w=.ok (.value (zCM ad i.size (l0.getD 0).toNat (h0.getD xs.length).toNat cap)) w:=by
      intro ad cap hve hcap;have:=z2p (w:=w) hcx hu hi' (ad:=ad) hcap h1 h2 h3;simp only [execOp,ho,hev,hve,elo,ehi,Option.map_none,Sem.run_bind,this,Result.andThen_ok,Sem.run_pure]
     generalize hex:st.ev x=av at hx hl h;cases av with
     | sl T2 l2=>
      simp only [zed,q0,qe,Sigma.mk.injEq] at hl;obtain ⟨⟨rfl,hl⟩,_⟩:=hl;have hl:=eq_of_heq hl;subst hl;simp only [q0] at h; subst h;cases hx with
      | rep hx=>
       obtain ⟨ad,cap,hve,hcap⟩:∃ ad cap,ve=.slice ad l2.length cap/\l2.length<=cap:=by
        cases hx with
        | slE ad c=>exact ⟨ad,c,rfl,q19 _⟩
        | sl b off cap _ _ us hF hcap=>exact ⟨_,cap,rfl,hcap⟩
       subst hve;exact zZ (run ad cap rfl hcap) (hf.val (.rep (zbfZ hcx hi' hx n1 n2)))
     | own id=>
      simp only [zed] at hl;split at hl
      ·rename_i T2 l2 fz hbl;simp only [q0,qe,Sigma.mk.injEq] at hl;obtain ⟨⟨rfl,hl⟩,rfl⟩:=hl;have hl:=eq_of_heq hl;subst hl;simp only [q0] at h; subst h;cases hx with
       | rep hx=>cases hx
       | own _ k m hk'=>
        have hk2:=hk';simp only [hbl,Blk.kind,Kind.arr.injEq] at hk2;obtain ⟨rfl,rfl⟩:=hk2;rcases zDR (hf.rb.row hbl) with ⟨hv,rfl⟩ | ⟨g,cap,hv,hcap⟩
        ·refine zZ (run none 0 hv (q19 _)) (hf.val (.sub _ id _ _ _ _ hk' (by simp at n1 n2 ⊢; omega) ?_))
         rw [hv];have e1:(h0.getD (([]:List (ty T2)).length:Int)).toNat=0:=by simpa using n2
         have e2:(l0.getD 0).toNat=0:=by omega
         simp only [zCM,e1,e2,zow];exact ⟨none,0,by simp,by simp,by simp,by simp⟩
        ·refine zZ (run _ cap hv hcap) (hf.val (.sub _ id _ _ _ _ hk' (by omega) ?_))
         rw [hv,hk];exact zbla n1 n2 hcap
       | ownD _ _ hk'=>simp [hbl,Blk.kind] at hk'
      ·cases hl
     | sub id a0 n0=>
      simp only [zed] at hl;split at hl
      ·rename_i T2 l2 fz hbl;simp only [q0,qe,Sigma.mk.injEq] at hl;obtain ⟨⟨rfl,hl⟩,rfl⟩:=hl;have hl:=eq_of_heq hl;subst hl;simp only [q0] at h; subst h;cases hx with
       | rep hx=>cases hx
       | sub _ _ _ _ k m hk' hlm hv'=>
        have hk2:=hk';simp only [hbl,Blk.kind,Kind.arr.injEq] at hk2;obtain ⟨rfl,rfl⟩:=hk2;have hlen:((l2.drop a0).take n0).length=n0:=by simp; omega
        rw [hlen] at run n1 n2 ⊢;have hv2:=hv';rcases zDR (hf.rb.row hbl) with ⟨hv,rfl⟩ | ⟨g,cap,hv,hcap⟩
        ·rw [hv] at hv2;unfold zow at hv2;obtain ⟨b',c',rfl,rfl,hnil,hbc⟩:=hv2;refine zZ (run b' c' rfl (q19 _)) (hf.val (.sub _ id _ _ _ _ hk' (by omega) ?_))
         rw [hv];unfold zow;have e1:(h0.getD ((0:Nat):Int)).toNat=0:=by omega
         have e2:(l0.getD 0).toNat=0:=by omega
         simp only [zCM,e1,e2]
         exact ⟨_,_,rfl,by simp,λh=>by
          have:a0=0:=by omega
          have:=hnil this;simp only [Value.slice.injEq,true_and] at this;obtain ⟨rfl,rfl⟩:=this
          simp,λhn=>by
           have:b'=none:=by
            split at hn
            ·exact hn
            ·simpa using hn
           rw [hbc this]⟩
        ·rw [hv] at hv2
         obtain ⟨ad,c0,hve⟩:∃ ad c0,ve=.slice ad n0 c0:=by
          unfold zow at hv2;rcases hv2 with rfl | ⟨rfl,_,b',c',rfl,_⟩
          ·exact ⟨_,_,rfl⟩
          ·exact ⟨_,_,rfl⟩
         have hc0:n0<=c0:=by
          unfold zow at hv2;rcases hv2 with h' | ⟨rfl,_⟩
          ·rw [hve] at h'; simp only [Value.slice.injEq,true_and] at h'; omega
          ·exact q19 _
         refine zZ (run ad c0 hve hc0) (hf.val (.sub _ id _ _ _ _ hk' (by omega) ?_))
         rw [hv,hk];rw [hk] at hv2;exact zbkT hve hv2 n1 n2 hlm hcap
       | subD _ _ _ _ hk'=>simp [hbl,Blk.kind] at hk'
      ·cases hl
     | _=>simp [zed] at hl
   ·cases h
 ·cases h
end
end
end Go.Ab
/- The operations that yield a value and leave the blocks alone, against the machine's: the fourth part: indexes, lengths, min and max. -/
namespace Go.Ab
noncomputable section
variable {ty:Nat->Type}
section
variable {P:Program} {cx:Cx ty} {e:Env} {st:St ty} {κ:Nat->Value} {a:Act} {w:World} {o:Oper} {d:Delta ty} {Q:Exit->Act->World->Prop}
theorem zbex (hcx:CxOK P cx) {T e':Nat} {i:TInfo} (hu:P.underlying T=some (.slice e')) (hi:cx.ti e'=some i) {ad:Addr} {len cap:Nat} {n:Int} (h1:0<=n) (h2:n<len):
  (Instr.indexAt T (.slice (some ad) len cap) (.int .i64 n)).run P w=.ok (.pointer (some (ad.add (n.toNat *i.size)))) w:=by
 simp [Instr.indexAt,asIntOf,zdJ hu,h1,h2,zDh hcx hi]
theorem zbjv (hcx:CxOK P cx) {F:Nat->Prop} {T:Nat} {l:List (ty T)} {b off:Nat} {us:List Value} (hF:F b) (hlen:us.length=(zcP cx T l).length)
  (hc:∀ (j:Nat) u,us[j]? =some u->w.cell? ⟨b,off+j,none⟩=some u) (hr:All2 (Rep cx F w) us (zcP cx T l)) {n:Nat} (hn:n<l.length) (dd:ty T):
  Rep cx F w (.pointer (some ⟨b,off+n*zt cx T,none⟩)) (.fptr T (l.getD n dd) 0):=by
 have e2:=zwA _ _ (hcx.len T) l n;have hd:l.drop n=l[n]::l.drop (n+1):=q2x hn
 have e:((zcP cx T l).drop (n*zt cx T)).take (zt cx T)=cx.enc T (l.getD n dd):=by
  unfold zcP;rw [<- e2,hd,q1f,q35,hcx.len,Nat.sub_self,List.take_zero,q1o,q24 (by rw [hcx.len]; exact qn _)]
  congr 1;simp [List.getD,hn]
 have hx:=(hr.drop (n*zt cx T)).take (zt cx T);rw [e] at hx
 have:=Rep.fptr (cx:=cx) (F:=F) (w:=w) b (off+n*zt cx T) 0 T (l.getD n dd) ((us.drop (n*zt cx T)).take (zt cx T)) hF hx.len (λj u hu=>by
  rw [q20] at hu;split at hu
  ·rw [q2c] at hu;have:=hc _ u hu
   rwa [q2e]
  ·cases hu) hx.at_
 simpa using this
theorem zbd6 {T:Nat} {x ix:Operand} (hcx:CxOK P cx) (ho:o.op=.indexAddr T x ix) (h:aop cx o st=some d) (hf:RF cx e st κ a w):o.wp P a w (λa' w'=>R cx e (st.app o.dst d) a' w') Q:=by
 unfold aop ze8 at h;simp only [ho] at h;have hx:=zcq hf x;generalize hev:a.eval x=ve at hx;split at h
 ·rename_i e' s b z n hT hn;have hu:=zjE hcx hT;have hix:=zFJ (zcq hf ix) hn
  have run:∀ (i:TInfo) ad len cap,cx.ti e'=some i->ve=.slice (some ad) len cap->0<=n->n<(len:Int)->(execOp a.eval o).run P w=.ok (.value (.pointer (some (ad.add (n.toNat *i.size))))) w:=by
   intro i ad len cap hi hve h1 h2;have:=zbex (w:=w) hcx hu hi (ad:=ad) (cap:=cap) h1 h2;simp only [execOp,ho,hev,hve,hix,Sem.run_bind,this,Result.andThen_ok,Sem.run_pure]
  split at h
  ·rename_i T' l hex;rw [hex] at hx;split at h
   ·rename_i heT;obtain ⟨heT,hse⟩:=zki heT;have heT:e'=T':=qx heT;subst heT;obtain ⟨i,hi⟩:=qm.1 hse;have hk:zt cx e'=i.size:=by simp [zt,hi]
    obtain ⟨hb,h⟩:=zfD h;obtain ⟨h1,h2⟩:=zki hb;simp only [qb] at h1 h2;simp only [q0] at h; subst h;cases hx with
    | rep hx=>
     cases hx with
     | slE ad c=>simp at h2; omega
     | sl b off cap _ _ us hF hcap hlen hc hr=>
      refine zZ (run i _ _ _ hi rfl h1 h2) (hf.val (.rep ?_));rw [zf5, <- hk];exact zbjv hcx hF hlen hc ⟨hlen,hr⟩ (by omega) _
   ·cases h
  ·rename_i id hex;rw [hex] at hx;split at h
   ·rename_i T' l fz hbl;split at h
    ·rename_i heT;obtain ⟨heT,hse⟩:=zki heT;have heT:e'=T':=qx heT;subst heT;obtain ⟨i,hi⟩:=qm.1 hse;have hk:zt cx e'=i.size:=by simp [zt,hi]
     obtain ⟨hb,h⟩:=zfD h;obtain ⟨h1,h2⟩:=zki hb;simp only [qb] at h1 h2;simp only [q0] at h; subst h;cases hx with
     | rep hx=>cases hx
     | own _ k m hk'=>
      have hk2:=hk';simp only [hbl,Blk.kind,Kind.arr.injEq] at hk2;obtain ⟨rfl,rfl⟩:=hk2;rcases zDR (hf.rb.row hbl) with ⟨hv,rfl⟩ | ⟨g,cap,hv,hcap⟩
      ·simp at h2; omega
      ·refine zZ (run i _ _ _ hi hv h1 h2) (hf.val ?_);rw [zf5, <- hk,q1s];exact .eptr id n.toNat 0 g _ _ _ cap hk' (by omega) hv
     | ownD _ _ hk'=>simp [hbl,Blk.kind] at hk'
    ·cases h
   ·cases h
  ·rename_i id lo m' hex;rw [hex] at hx;split at h
   ·rename_i T' l fz hbl;split at h
    ·rename_i heT;obtain ⟨heT,hse⟩:=zki heT;have heT:e'=T':=qx heT;subst heT;obtain ⟨i,hi⟩:=qm.1 hse;have hk:zt cx e'=i.size:=by simp [zt,hi]
     obtain ⟨hb,h⟩:=zfD h;obtain ⟨h1,h2⟩:=zki hb;simp only [qb] at h1 h2;simp only [q0] at h; subst h;cases hx with
     | rep hx=>cases hx
     | sub _ _ _ _ k m hk' hlm hv'=>
      have hk2:=hk';simp only [hbl,Blk.kind,Kind.arr.injEq] at hk2;obtain ⟨rfl,rfl⟩:=hk2;rcases zDR (hf.rb.row hbl) with ⟨hv,rfl⟩ | ⟨g,cap,hv,hcap⟩
      ·simp at hlm; omega
      ·rw [hv] at hv';unfold zow at hv';rcases hv' with hve | ⟨h0,_⟩
       ·refine zZ (run i _ _ _ hi hve h1 h2) (hf.val ?_);rw [zf5,zf5, <- hk,q1s, <- q2s];exact .eptr id (lo+n.toNat) 0 g _ _ _ cap hk' (by omega) hv
       ·omega
     | subD _ _ _ _ hk'=>simp [hbl,Blk.kind] at hk'
    ·cases h
   ·cases h
  ·cases h
 ·cases h
theorem zbjg {T:Nat} {x ix:Operand} (hcx:CxOK P cx) (ho:o.op=.index T x ix) (h:aop cx o st=some d) (hf:RF cx e st κ a w):o.wp P a w (λa' w'=>R cx e (st.app o.dst d) a' w') Q:=by
 unfold aop ze8 at h;simp only [ho] at h;have hx:=zcq hf x;split at h
 ·rename_i s b z str n hT hex hn;have hu:=zyi hcx hT;have hix:=zFJ (zcq hf ix) hn;rw [hex] at hx;have hve:=zco hx;obtain ⟨hb,h⟩:=zfD h;obtain ⟨h1,h2⟩:=zki hb;simp only [qb] at h1 h2;simp only [q0] at h; subst h;have hlt:n.toNat<str.size:=by omega
  refine zZ (v:=.int .u8 (zbcx str n)) (w':=w) ?_ (hf.val (.rep (.lit _)))
  have hget:str[n.toNat]? =some (str[n.toNat]'hlt):=by
   exact getElem?_pos str n.toNat hlt
  simp only [execOp,ho,hve,hix,Instr.index,asIntOf,Sem.run_bind,Sem.run_pure,Result.andThen_ok,zdJ hu,h1,if_true,hget,zbcx,dif_pos hlt]
 ·cases h
theorem zKo {f:Int->Int->Int} {g:Value->Value->Sem Value} (hg:∀ k x y,(g (.int k x) (.int k y)).run P w=.ok (.int k (f x y)) w) (hg':∀ k k' x y,(g (.int k x) (.int k' y)).run P w=.ok (.int k (f x y)) w):
  ∀ (us:List Value) (cs:List (AV ty)) (k:IntKind) (x:Int) (v:AV ty),All2 (ziB cx e st κ w) us cs->zDt f k x cs=some v->
   ∃ u,(us.foldlM g (.int k x)).run P w=.ok u w/\v=.lit u
 | us,[],k,x,v,h,hv=>by
  rw [h.nil_left.1];simp only [zDt,q0] at hv; subst hv;exact ⟨_,rfl,rfl⟩
 | us,c::cs,k,x,v,h,hv=>by
  obtain ⟨u,us',rfl,hu,h'⟩:=h.inv;cases c with
  | lit y=>
   cases y with
   | int k' y=>
    simp only [zDt] at hv;obtain ⟨r,hr,rfl⟩:=zKo hg hg' us' cs k (f x y) v h' hv;refine ⟨r, ?_,rfl⟩;rw [zco hu,List.foldlM_cons,Sem.run_bind,hg',Result.andThen_ok,hr]
   | _=>simp [zDt] at hv
  | _=>simp [zDt] at hv
theorem zAN (hf:RF cx e st κ a w) (args:List Operand):All2 (ziB cx e st κ w) (args.map a.eval) (args.map st.ev):=by
 refine ⟨by simp,λj u c hu hc=> ?_⟩
 rw [q14] at hu hc;cases hx:args[j]? with
 | none=>rw [hx] at hu; cases hu
 | some x=>
  rw [hx] at hu hc;simp only [qz,q0] at hu hc;subst hu; subst hc;exact zcq hf x
theorem zvG {b:Builtin} {args:Array Operand} {ts:Array TypeId} (ho:o.op=.call { callee:=.builtin b,args:=args,argTypes:=ts }):
  execOp a.eval o=builtin b ts o.type (args.map λ| .const _=>true | _=>false) (args.map a.eval):=by
 simp only [execOp,ho,resolve,invoke]; rfl
theorem zbm7 {args:Array Operand} {ts:Array TypeId} (hcx:CxOK P cx) (ho:o.op=.call { callee:=.builtin .len,args:=args,argTypes:=ts }) (h:aop cx o st=some d) (hf:RF cx e st κ a w):o.wp P a w (λa' w'=>R cx e (st.app o.dst d) a' w') Q:=by
 unfold aop ze8 at h;simp only [ho] at h;have hall:=zAN hf args.toList;have hex:=zvG (a:=a) ho;unfold zim at h;generalize hts:ts.toList=tl at h;generalize hvs:args.toList.map st.ev=vl at h hall
 match tl,vl,h,hall with
 | T::tr,[v],h,hall=>
  obtain ⟨u,us',hus,hu,h'⟩:=hall.inv;have hus':us'=[]:=h'.nil_left.1;subst hus';have hT0:ts[0]? =some T:=by rw [<- q1n,hts]; rfl
  have hu0:(args.map a.eval)[0]? =some u:=by
   rw [<- q1n,q2t,hus]; rfl
  have run:∀ v':Value,(Builtin.len_ ts o.type (args.map a.eval)).run P w=.ok v' w->(execOp a.eval o).run P w=.ok (.value v') w:=by
   intro v' hv';rw [hex];simp only [builtin,Sem.run_bind,hv',Result.andThen_ok,Sem.run_pure]
  simp only at h;split at h
  ·rename_i s b z hT;split at h
   ·rename_i str;simp only [q0] at h; subst h;have hve:=zco hu;refine zZ (run _ ?_) (hf.val (.rep (.lit _)));simp only [Builtin.len_,hT0,hu0,hve,Sem.run_bind,zdJ (zyi hcx hT),Result.andThen_ok,goInt,Sem.run_pure]
   ·cases h
  rotate_left
  ·rename_i kt vt s b z hT;split at h
   ·rename_i id;split at h
    ·rename_i K V l fz hbl;simp only [q0] at h; subst h;have hbk:=hf.rb.blk id;rw [hbl] at hbk;obtain ⟨bl,es,clock,hκ,hg,hent,_⟩:=hbk
     have hve:u=.map (some bl):=by
      cases hu with
      | rep hr=>cases hr
      | mp _ h=>exact hκ
      | mpD _ _ h=>simp [hbl,Blk.kind] at h
     refine zZ (run _ ?_) (hf.val (.rep (.lit _)));have hlen:es.size=l.length:=by simpa using hent.len
     simp only [Builtin.len_,hT0,hu0,hve,Sem.run_bind,zdJ (zRu hcx hT),Result.andThen_ok,q2w hg,goInt,hlen,Sem.run_pure]
    ·cases h
   ·cases h
  ·cases h
  ·rename_i e' s b z hT;have hu':=zjE hcx hT
   have fin:∀ (ad:Option Addr) (n cap:Nat),u=.slice ad n cap->(Builtin.len_ ts o.type (args.map a.eval)).run P w=.ok (.int .i64 n) w:=by
    rintro ad n cap rfl
    simp only [Builtin.len_,hT0,hu0,Sem.run_bind,zdJ hu',Result.andThen_ok,goInt,Sem.run_pure]
   split at h
   ·simp only [q0] at h; subst h;have hve:=zco hu;exact zZ (run _ (fin _ 0 0 hve)) (hf.val (.rep (.lit _)))
   ·rename_i id lo n;split at h
    ·rename_i T' l fz hbl;simp only [q0] at h; subst h;have hl:zed st (.sub id lo n:AV ty)=some (⟨T',(l.drop lo).take n⟩,[id]):=by simp [zed,hbl]
     obtain ⟨ad,cap,hve,_⟩:=zY0 hf.rb hu hl;cases hu with
     | rep hu=>cases hu
     | sub _ _ _ _ k m hk' hlm hv'=>
      have hk2:=hk';simp only [hbl,Blk.kind,Kind.arr.injEq] at hk2;obtain ⟨rfl,rfl⟩:=hk2;have hlen:((l.drop lo).take n).length=n:=by simp; omega
      simp only [hlen] at hve;exact zZ (run _ (fin _ n _ hve)) (hf.val (.rep (.lit _)))
     | subD _ _ _ _ hk'=>simp [hbl,Blk.kind] at hk'
    ·cases h
   ·split at h
    ·rename_i T' l rd hl;simp only [q0] at h; subst h;obtain ⟨ad,cap,hve,_⟩:=zY0 hf.rb hu hl;exact zZ (run _ (fin _ _ _ hve)) (hf.val (.rep (.lit _)))
    ·cases h
theorem zbmZ {args:Array Operand} {ts:Array TypeId} (hcx:CxOK P cx) (ho:o.op=.call { callee:=.builtin .cap,args:=args,argTypes:=ts }) (h:aop cx o st=some d) (hf:RF cx e st κ a w):o.wp P a w (λa' w'=>R cx e (st.app o.dst d) a' w') Q:=by
 unfold aop ze8 at h;simp only [ho] at h;have hall:=zAN hf args.toList;have hex:=zvG (a:=a) ho;unfold zim at h;generalize hts:ts.toList=tl at h;generalize hvs:args.toList.map st.ev=vl at h hall
 match tl,vl,h,hall with
 | T::tr,[.lit (.slice none 0 0)],h,hall=>
  obtain ⟨u,us',hus,hu,h'⟩:=hall.inv;have hus':us'=[]:=h'.nil_left.1;subst hus';have hT0:ts[0]? =some T:=by rw [<- q1n,hts]; rfl
  have hu0:(args.map a.eval)[0]? =some u:=by
   rw [<- q1n,q2t,hus]; rfl
  simp only at h;split at h
  ·rename_i e' s b z hT;have hu':=zjE hcx hT;simp only [q0] at h; subst h;have hve:=zco hu;refine zZ (v:=.int .i64 0) (w':=w) ?_ (hf.val (.rep (.lit _)));rw [hex];simp only [builtin,Builtin.cap_,hT0,hu0,hve,Sem.run_bind,zdJ hu',Result.andThen_ok,goInt,Sem.run_pure];rfl
  ·cases h
theorem z94 {b:Builtin} {args:Array Operand} {ts:Array TypeId} (hb:b=.min\/b=.max) (ho:o.op=.call { callee:=.builtin b,args:=args,argTypes:=ts }) (h:aop cx o st=some d) (hf:RF cx e st κ a w):o.wp P a w (λa' w'=>R cx e (st.app o.dst d) a' w') Q:=by
 unfold aop ze8 at h;simp only [ho] at h;have hall:=zAN hf args.toList;have hex:=zvG (a:=a) ho;unfold zim at h;generalize hvs:args.toList.map st.ev=vl at h hall;rcases hb with rfl | rfl
 ·match vl,h,hall with
  | .lit (.int k x)::r,h,hall=>
   obtain ⟨u,us',hus,hu,h'⟩:=hall.inv;simp only at h;split at h
   ·rename_i v hv;simp only [q0] at h; subst h;obtain ⟨r',hr,rfl⟩:=zKo (P:=P) (g:=Builtin.min2) (λ_ _ _=>by simp [Builtin.min2]) (λ_ _ _ _=>by simp [Builtin.min2]) us' r k x v h' hv
    refine zZ (v:=r') (w':=w) ?_ (hf.val (.rep (.lit _)));have hl:(args.map a.eval).toList=.int k x::us':=by rw [q2t,hus,zco hu]
    rw [hex];simp only [builtin,Builtin.min_,hl,Sem.run_bind,hr,Result.andThen_ok,Sem.run_pure]
   ·cases h
 ·match vl,h,hall with
  | .lit (.int k x)::r,h,hall=>
   obtain ⟨u,us',hus,hu,h'⟩:=hall.inv;simp only at h;split at h
   ·rename_i v hv;simp only [q0] at h; subst h;obtain ⟨r',hr,rfl⟩:=zKo (P:=P) (g:=Builtin.max2) (λ_ _ _=>by simp [Builtin.max2]) (λ_ _ _ _=>by simp [Builtin.max2]) us' r k x v h' hv
    refine zZ (v:=r') (w':=w) ?_ (hf.val (.rep (.lit _)));have hl:(args.map a.eval).toList=.int k x::us':=by rw [q2t,hus,zco hu]
    rw [hex];simp only [builtin,Builtin.max_,hl,Sem.run_bind,hr,Result.andThen_ok,Sem.run_pure]
   ·cases h
end
end
end Go.Ab
/- The operations that make or write memory of the call's own, against the machine's. -/
namespace Go.Ab
noncomputable section
variable {ty:Nat->Type}
section
variable {P:Program} {cx:Cx ty} {e:Env} {st:St ty} {κ:Nat->Value} {a:Act} {w:World} {o:Oper} {d:Delta ty} {Q:Exit->Act->World->Prop}
theorem zbI (b:List (Blk ty)) (i j:Nat) (x:Blk ty):(gD .none (b.set i x) j)=if i=j/\i<b.length then x else (gD .none b j):=by
 simp only [zjB,qi,q32];by_cases h:i=j
 ·subst h;by_cases h':i<b.length <;>simp [h']
 ·simp [h]
theorem Blk.freeze_unfz {b:Blk ty}:¬ b.freeze.unfz:=by cases b <;>simp [Blk.freeze,Blk.unfz]
theorem Blk.freeze_id {b:Blk ty} (h:¬ b.unfz):b.freeze=b:=by cases b <;>simp_all [Blk.freeze,Blk.unfz]
theorem Blk.freeze_kind {b:Blk ty}:b.freeze.kind cx=b.kind cx:=by cases b <;>rfl
theorem Blk.freeze_freeze {b:Blk ty}:b.freeze.freeze=b.freeze:=by cases b <;>rfl
theorem zrw:∀ (ids:List Nat) (b:List (Blk ty)) (j:Nat),(gD .none (zbY b ids) j)=if j∈ids then ((gD .none b j)).freeze else (gD .none b j)
 | [],b,j=>by simp [zbY]
 | i::r,b,j=>by
  simp only [zbY,zrw r,zbI];by_cases h:i=j
  ·subst h;by_cases hl:i<b.length
   ·simp [hl,Blk.freeze_freeze]
   ·have:(gD .none b i)=.none:=by simp [zjB,qi,q25 (Nat.le_of_not_lt hl)]
    simp [hl,this,Blk.freeze]
  ·simp [h,Ne.symm h]
theorem zjA:∀ (ids:List Nat) (b:List (Blk ty)),(zbY b ids).length=b.length
 | [],b=>rfl
 | i::r,b=>by simp [zbY,zjA r]
theorem znv {i:Nat} (h:zfT st i=true):st.blk i=.none/\i<st.blks.length:=by
 rw [zLw] at h;split at h
 ·rename_i hb;exact ⟨by simp [St.blk,zjB,qi,hb],(q1t.1 hb).1⟩
 ·cases h
theorem zblC {i:Nat} (h:(st.blk i).kind cx≠.none):i<st.blks.length:=by
 rcases Nat.lt_or_ge i st.blks.length with h' | h'
 ·exact h'
 ·exact absurd (by simp [St.blk,zjB,qi,q25 h',Blk.kind]) h
theorem Compat.trans {B' B'':Nat->Blk ty} {κ' κ'':Nat->Value} {w' w'':World} {B0:Nat->Blk ty} (h:Compat cx e B0 κ w B' κ' w') (h':Compat cx e B' κ' w' B'' κ'' w''):Compat cx e B0 κ w B'' κ'' w'':=by
 refine ⟨λb hb=> ?_,λid hid=> ?_⟩
 ·obtain ⟨h1,h2⟩:=h.fz b hb;obtain ⟨h3,h4⟩:=h'.fz b h1;exact ⟨h3,h4.trans h2⟩
 ·rcases h.kd id hid with ⟨h1,h2⟩ | h1
  ·rcases h'.kd id (by rw [h1]; exact hid) with ⟨h3,h4⟩ | h3
   ·exact .inl ⟨h3.trans h1,h4.trans h2⟩
   ·exact .inr h3
  ·rcases h'.kd id (by rw [h1]; simp) with ⟨h3,_⟩ | h3
   ·exact .inr (h3.trans h1)
   ·exact .inr h3
theorem zyk (h:RB cx e st.blk κ w) (ids:List Nat):
  RB cx e (λj=>(gD .none (zbY st.blks ids) j)) κ w/\Compat cx e st.blk κ w (λj=>(gD .none (zbY st.blks ids) j)) κ w:=by
 refine h.step (λi=>i∈ids/\(st.blk i).unfz) rfl rfl rfl (qn _) (λb _=>.inl rfl) (λid hid=>⟨?_,rfl⟩) (λid hid _=>.inl ⟨?_,rfl⟩) (λid b hid hl hb=> ?_) (λi j b _ hj _ hu _ _=> ?_) (λid hid hc=> ?_)
 ·simp only [zrw];split
  ·rename_i hm;exact Blk.freeze_id λhu=>hid ⟨hm,hu⟩
  ·rfl
 ·simp only [zrw,if_pos hid.1]; exact Blk.freeze_kind
 ·exact ⟨(h.old id b hid.2.live hb).2,.inl ⟨id,hid,hid.2,hb⟩⟩
 ·simp only [zrw,if_pos hj.1] at hu; exact absurd hu Blk.freeze_unfz
 ·change zPs _ _ _ _ _ _ ((gD .none (zbY st.blks ids) id))
  have hk:=(h.blk id).keep (F':=Fz e (λj=>(gD .none (zbY st.blks ids) j)) κ w) (w':=w) (kd':=λi=>((gD .none (zbY st.blks ids) i)).kind cx) (κ':=κ) (λ_ _ _=>rfl) (λv a=>hc.rep) (λv a=>hc.rep')
  rw [show (gD .none (zbY st.blks ids) id)=(st.blk id).freeze by rw [zrw,if_pos hid.1]; rfl]
  cases hb:st.blk id with
  | box cs fz=>rw [hb] at hk; exact hk
  | arr T l fz=>rw [hb] at hk; exact hk
  | mp K V l fz=>rw [hb] at hk; exact hk
  | none=>trivial
  | dead=>trivial
theorem zwX {B:List (Blk ty)} {κ:Nat->Value} {w w':World} {n:Nat} {nb:Blk ty} {v:Value} (h:RB cx e (λj=>(gD .none B j)) κ w) (hn:(gD .none B n)=.none) (hlt:n<B.length)
  (hos:w'.os=w.os) (htape:w'.tape=w.tape) (hout:w'.output=w.output) (hsize:w.heap.size<=w'.heap.size) (hheap:∀ b,b<w.heap.size->w'.heap[b]? =w.heap[b]?)
  (hv:∀ b,zbj v=some b->w.heap.size<=b/\b<w'.heap.size)
  (hblk:Compat cx e (λj=>(gD .none B j)) κ w (λj=>(gD .none (B.set n nb) j)) (λi=>if i=n then v else κ i) w'->zPs cx (Fz e (λj=>(gD .none (B.set n nb) j)) (λi=>if i=n then v else κ i) w') w' (λi=>((gD .none (B.set n nb) i)).kind cx) (λi=>if i=n then v else κ i) v nb)
  (hdr:cx.dr=true->w.drawn<=w'.drawn:=by first | exact λ_=>qn _ | assumption | exact λ_=>by assumption):
  RB cx e (λj=>(gD .none (B.set n nb) j)) (λi=>if i=n then v else κ i) w'/\Compat cx e (λj=>(gD .none B j)) κ w (λj=>(gD .none (B.set n nb) j)) (λi=>if i=n then v else κ i) w':=by
 refine h.step (λi=>i=n) hos htape hout hsize (λb hb=>.inl (hheap b hb)) (λid hid=>⟨?_,by simp [hid]⟩) (λid hid hk=> ?_) (λid b hid hl hb=> ?_) (λi j b hi hj _ _ _ _=>hi.trans hj.symm) (λid hid hc=> ?_) hdr
 ·simp only [zbI]; rw [if_neg (λhh=>hid hh.1.symm)]
 ·subst hid; exact absurd (by simp only [hn,Blk.kind]) hk
 ·subst hid;simp only [if_true] at hb;exact ⟨(hv b hb).2,.inr (hv b hb).1⟩
 ·subst hid;simp only [if_true];have:=hblk hc;rw [zbI,if_pos ⟨rfl,hlt⟩];exact this
theorem zHc {B:List (Blk ty)} {κ:Nat->Value} {w w':World} {n:Nat} {nb:Blk ty} (h:RB cx e (λj=>(gD .none B j)) κ w) (hu:((gD .none B n)).unfz) (hk:nb.kind cx=((gD .none B n)).kind cx)
  (hos:w'.os=w.os) (htape:w'.tape=w.tape) (hout:w'.output=w.output) (hsize:w.heap.size=w'.heap.size) (hheap:∀ b,b<w.heap.size->w'.heap[b]? =w.heap[b]? \/zbj (κ n)=some b)
  (hblk:Compat cx e (λj=>(gD .none B j)) κ w (λj=>(gD .none (B.set n nb) j)) κ w'->zPs cx (Fz e (λj=>(gD .none (B.set n nb) j)) κ w') w' (λi=>((gD .none (B.set n nb) i)).kind cx) κ (κ n) nb)
  (hdr:cx.dr=true->w.drawn<=w'.drawn:=by first | exact λ_=>qn _ | assumption | exact λ_=>by assumption):
  RB cx e (λj=>(gD .none (B.set n nb) j)) κ w'/\Compat cx e (λj=>(gD .none B j)) κ w (λj=>(gD .none (B.set n nb) j)) κ w':=by
 have hlt:n<B.length:=by
  rcases Nat.lt_or_ge n B.length with h' | h'
  ·exact h'
  ·rw [show (gD .none B n)=.none by simp [zjB,qi,q25 h']] at hu
   exact hu.elim
 refine h.step (λi=>i=n) hos htape hout (by omega) (λb hb=> ?_) (λid hid=>⟨?_,rfl⟩) (λid hid _=>.inl ⟨?_,rfl⟩) (λid b hid hl hb=> ?_) (λi j b hi hj _ _ _ _=>hi.trans hj.symm) (λid hid hc=> ?_) hdr
 ·rcases hheap b hb with h' | h'
  ·exact .inl h'
  ·exact .inr ⟨n,rfl,hu,h'⟩
 ·simp only [zbI]; rw [if_neg (λhh=>hid hh.1.symm)]
 ·subst hid; rw [zbI,if_pos ⟨rfl,hlt⟩]; exact hk
 ·subst hid;exact ⟨by rw [<- hsize]; exact (h.old id b hu.live hb).2,.inl ⟨id,rfl,hu,hb⟩⟩
 ·subst hid;rw [zbI,if_pos ⟨rfl,hlt⟩];exact hblk hc
theorem zLW (dst:Option Tmp) (d:Delta ty):(st.app dst d).blk=λj=>(gD .none (zcr (zbY st.blks d.fz) d.wr) j):=by funext j; unfold St.blk; rw [St.app_blks]
theorem zdK {dst:Option Tmp} {v:AV ty} {n:Nat} {nb:Blk ty} {fz rd:List Nat}:(st.app dst { val:=v,wr:=[(n,nb)],fz:=fz,rd:=rd }).blk=λj=>(gD .none ((zbY st.blks fz).set n nb) j):=by funext j; unfold St.blk; rw [St.app_blks]; rfl
theorem wp_skip {Q:Exit->Act->World->Prop} {next:Act->World->Prop} {w':World} (h:(execOp a.eval o).run P w=.ok .skip w') (hn:next (a.put o.dst undef) w'):o.wp P a w next Q:=by
 unfold Oper.wp; rw [h]; exact hn
theorem zbjd {T:Nat} (hcx:CxOK P cx) (ho:o.op=.alloc T) (h:aop cx o st=some d) (hf:RF cx e st κ a w):o.wp P a w (λa' w'=>R cx e (st.app o.dst d) a' w') Q:=by
 unfold aop ze8 at h;simp only [ho] at h;split at h
 ·rename_i i dd hT hdst;obtain ⟨hfree,h⟩:=zfD h;simp only [q0] at h; subst h;obtain ⟨hn,hlt⟩:=znv hfree;obtain ⟨info,desc,z,hi,hu,hs,hb,hz,hzc,hzl,hz1,hd⟩:=(hcx.ti T _ hT).ok
  have hst:=zwX (w':=w.alloc (.cells z.cells T)) (nb:=.box (i.zero.map .lit) false) (v:=.pointer (some ⟨w.heap.size,0,none⟩)) hf.rb hn hlt rfl rfl rfl (by simp) (λb hb=>heap_alloc_old w _ b hb)
   (λb hb=>by simp [zbj] at hb; subst hb; simp)
   (λhc=>⟨w.heap.size,z.cells,T,rfl,heap_alloc_new w _,by rw [hzc]; exact (zMu i.zero).imp λ_ _ h=>.rep h⟩)
  refine zZ (v:=.pointer (some ⟨w.heap.size,0,none⟩)) (w':=w.alloc (.cells z.cells T)) ?_ ⟨_,hf.put (κ':=λi=>if i=zQ dd then .pointer (some ⟨w.heap.size,0,none⟩) else κ i) ?_ ?_ (λ_=> ?_)⟩
  ·simp [execOp,ho,Instr.alloc,zMk hi hz,newVar,newRow]
  ·rw [zdK]; exact hst.1
  ·rw [zdK]; exact hst.2
  ·rw [zdK];refine .ptr _ 0 w.heap.size ?_ (by simp)
   change Blk.kind cx ((gD .none (st.blks.set (zQ dd) _) (zQ dd)))=_
   rw [zbI,if_pos ⟨rfl,hlt⟩]; rfl
 ·cases h
theorem zbm0 {T:Nat} {x:Operand} (hcx:CxOK P cx) (ho:o.op=.box T x) (h:aop cx o st=some d) (hf:RF cx e st κ a w):o.wp P a w (λa' w'=>R cx e (st.app o.dst d) a' w') Q:=by
 unfold aop ze8 at h;simp only [ho] at h;split at h
 ·rename_i i dd cs hT hdst hcs;obtain ⟨hfree,h⟩:=zfD h;simp only [q0] at h; subst h;obtain ⟨hn,hlt⟩:=znv hfree;obtain ⟨ha,h1⟩:=zHZ hf.rb (zcq hf x) hcs
  have hst:=zwX (w':=w.alloc (.cells (a.eval x).cells T)) (nb:=.box cs false) (v:=.pointer (some ⟨w.heap.size,0,none⟩)) hf.rb hn hlt rfl rfl rfl (by simp) (λb hb=>heap_alloc_old w _ b hb)
   (λb hb=>by simp [zbj] at hb; subst hb; simp)
   (λhc=>⟨w.heap.size,_,T,rfl,heap_alloc_new w _,ha.imp λ_ _ h=>hc.rep h⟩)
  refine zZ (v:=.pointer (some ⟨w.heap.size,0,none⟩)) (w':=w.alloc (.cells (a.eval x).cells T)) ?_ ⟨_,hf.put (κ':=λi=>if i=zQ dd then .pointer (some ⟨w.heap.size,0,none⟩) else κ i) ?_ ?_ (λ_=> ?_)⟩
  ·simp [execOp,ho,Instr.box,newVar,newRow]
  ·rw [zdK]; exact hst.1
  ·rw [zdK]; exact hst.2
  ·rw [zdK];refine .ptr _ 0 w.heap.size ?_ (by simp)
   change Blk.kind cx ((gD .none (st.blks.set (zQ dd) _) (zQ dd)))=_
   rw [zbI,if_pos ⟨rfl,hlt⟩]; rfl
 ·cases h
theorem zEH {f:AV ty->Option (AV ty×List Nat)} (hf:∀ av a' ids,f av=some (a',ids)->∀ id∈ids,(st.blk id).live):∀ (cs cs':List (AV ty)) (ids:List Nat),zf3 f cs=some (cs',ids)->∀ id∈ids,(st.blk id).live
 | [],cs',ids,h=>by
  simp only [zf3,q0,qe] at h;obtain ⟨_,rfl⟩:=h;simp
 | c::cs,cs',ids,h=>by
  simp only [zf3] at h;split at h
  ·cases h
  ·rename_i c' i hc;split at h
   ·cases h
   ·rename_i cs'' is hcs;simp only [q0,qe] at h;obtain ⟨_,rfl⟩:=h;intro id hid;rcases q12.1 hid with h1 | h1
    ·exact hf _ _ _ hc id h1
    ·exact zEH hf cs cs'' is hcs id h1
theorem zYB:∀ (n:Nat) (av a':AV ty) (ids:List Nat),zbE cx st n av=some (a',ids)->∀ id∈ids,(st.blk id).live
 | 0,_,_,_,h=>by simp [zbE] at h
 | n+1,av,a',ids,h=>by
  have ih:=zYB n;cases av <;>simp only [zbE] at h
  case mp=>cases h
  case lit | sl | fptr | bptr | err=>simp only [q0,qe] at h; obtain ⟨_,rfl⟩:=h; simp
  case own | sub | eptr=>
   split at h
   ·rename_i hb;simp only [q0,qe] at h; obtain ⟨_,rfl⟩:=h;simp [hb,Blk.live]
   ·cases h
  case ptr=>
   split at h
   ·rename_i hb;split at h
    ·rename_i cs' is hm;simp only [q0,qe] at h; obtain ⟨_,rfl⟩:=h;intro id hid;rcases q8.1 hid with rfl | h1
     ·rw [hb]; trivial
     ·exact zEH ih _ _ _ hm id h1
    ·cases h
   ·cases h
  case agg | fn=>
   split at h
   ·rename_i cs' is hm;simp only [q0,qe] at h; obtain ⟨_,rfl⟩:=h;exact zEH ih _ _ _ hm
   ·cases h
  case tup | dead=>cases h
abbrev FzB (st:St ty) (fz:List Nat):Nat->Blk ty:=λj=>(gD .none (zbY st.blks fz) j)
theorem zbcI (h:RB cx e st.blk κ w) {fz:List Nat} {id b:Nat} (hid:id∈fz) (hl:(st.blk id).live) (hb:zbj (κ id)=some b):Fz e (FzB st fz) κ w b:=by
 refine ⟨.inr (h.old id b hl hb).1,(h.old id b hl hb).2,λj hj hbj=> ?_⟩
 have hjm:j∉fz:=λhm=>by
  simp only [FzB,zrw,if_pos hm] at hj;exact Blk.freeze_unfz hj
 simp only [FzB,zrw,if_neg hjm] at hj;exact hjm ((h.sep id j b hl hj hb hbj) ▸ hid)
theorem zSV (hcx:CxOK P cx) (h:RB cx e st.blk κ w) {fz:List Nat} {n:Nat} {v:Value} {av a':AV ty} {ids:List Nat} (hr:ziB cx e st κ w v av) (hp:zbE cx st n av=some (a',ids)) (hi:∀ id∈ids,id∈fz):
  Rep cx (Fz e (FzB st fz) κ w) w v a':=
 zMF hcx h _ (λb hb=>((zyk h fz).2.fz b hb).1) n v av a' ids hr hp λid hid b hb=>zbcI h (hi id hid) (zYB n av a' ids hp id hid) hb
theorem z4W (hcx:CxOK P cx) (h:RB cx e st.blk κ w) {fz:List Nat} {n:Nat} {us:List Value} {cs cs':List (AV ty)} {ids:List Nat} (hr:All2 (ziB cx e st κ w) us cs) (hp:zf3 (zbE cx st n) cs=some (cs',ids)) (hi:∀ id∈ids,id∈fz):
  All2 (Rep cx (Fz e (FzB st fz) κ w) w) us cs':=
 zKn (κ:=κ) (λv av a' ids hr hp hi=>zMF hcx h _ (λb hb=>((zyk h fz).2.fz b hb).1) n v av a' ids hr hp hi) us cs cs' ids hr hp λid hid b hb=>
  zbcI h (hi id hid) (zEH (λav a' ids=>zYB n av a' ids) cs cs' ids hp id hid) hb
theorem zbdO {α β:Type} (f:α->List β) (k:Nat) (hk:∀ x,(f x).length=k):∀ (l:List α) (i:Nat) (x:α),i<l.length->(l.set i x).flatMap f=(l.flatMap f).take (i*k)++f x++(l.flatMap f).drop ((i+1)*k)
 | [],i,x,h=>by simp at h
 | y::l,0,x,h=>by
  simp only [List.set_cons_zero,q1f,Nat.zero_mul,List.take_zero,q10,q1s,Nat.one_mul];rw [List.drop_append,q2m (as:=f y) (by rw [hk]; exact qn _),hk,Nat.sub_self,qq,q10]
 | y::l,i+1,x,h=>by
  have ih:=zbdO f k hk l i x (by simpa using h)
  have m1:(i+1)*k=i*k+k:=q2l i k;have m2:(i+1+1)*k=(i+1)*k+k:=q2l (i+1) k;simp only [List.set_cons_succ,q1f,ih];rw [q35,q24 (l:=f y) (by rw [hk]; omega),List.drop_append,q2m (as:=f y) (by rw [hk]; omega),hk,q10]
  rw [show (i+1)*k - k=i*k by omega,show (i+1+1)*k - k=(i+1)*k by omega]
  simp [qu]
theorem zbhT {α:Type} (xs new:List α) (p off k:Nat) (h1:off+new.length<=k) (h2:p+k<=xs.length):
  xs.take (p+off)++new++xs.drop (p+off+new.length)=xs.take p++(((xs.drop p).take k).take off++new++((xs.drop p).take k).drop (off+new.length))++xs.drop (p+k):=by
 have e1:xs.take (p+off)=xs.take p++((xs.drop p).take k).take off:=by
  rw [List.take_take,Nat.min_eq_left (by omega),List.take_add]
 have e2:xs.drop (p+off+new.length)=((xs.drop p).take k).drop (off+new.length)++xs.drop (p+k):=by
  rw [List.drop_take,List.drop_drop];have:xs.drop (p+k)=(xs.drop (p+(off+new.length))).drop (k - (off+new.length)):=by rw [List.drop_drop]; congr 1; omega
  rw [this,List.take_append_drop];congr 1; omega
 rw [e1,e2];simp only [qu]
theorem z2V {α:Type} (cur new:List α) (p n:Nat) (h:p+new.length<=n) (hn:n<=cur.length):(cur.take p++new++cur.drop (p+new.length)).take n=(cur.take n).take p++new++(cur.take n).drop (p+new.length):=by
 rw [q35,q35,q24 (l:=cur.take p) (by simp; omega),List.take_take,Nat.min_eq_left (by omega)]
 rw [q24 (l:=new) (by simp; omega)]
 congr 1;rw [List.drop_take];congr 1;simp; omega
theorem zYz (hcx:CxOK P cx) {T:Nat} {i:TInfo} (hT:cx.ti T=some i) {g off:Nat} {t:TypeId} {cur:Array Value} {u:Value} (hg:w.heap[g]? =some (.cells cur t (0,0))) (hsz:u.cells.toList.length=i.size)
  (hle:off+u.cells.toList.length<=cur.size) (h1:∀ v∈u.cells.toList,zbJ v=true):
  (storeVar T ⟨g,off,none⟩ u).run P w=.ok () (w.setRow g (cur.toList.take off++u.cells.toList++cur.toList.drop (off+u.cells.toList.length)).toArray):=by
 have hst:=run_storeCells_at P g off t u.cells.toList 0 cur w hg (by omega) (λv hv=>by rw [<- z5P]; exact h1 v hv)
 simp only [Nat.add_zero] at hst;simp only [storeVar,Sem.run_bind,zDh hcx hT,Result.andThen_ok,Sem.run_ite];rw [if_neg (by rw [<- q1h,hsz]; simp)]
 exact hst
theorem zBw (g b:Nat) (cs:Array Value):(w.setRow g cs).heap[b]? =w.heap[b]? \/b=g:=by
 by_cases h:b=g
 ·exact .inr h
 ·exact .inl (setRow_other w g b cs h)
theorem zbiU {T:Nat} {x y:Operand} (hcx:CxOK P cx) (ho:o.op=.store T x y) (h:aop cx o st=some d) (hf:RF cx e st κ a w):o.wp P a w (λa' w'=>R cx e (st.app o.dst d) a' w') Q:=by
 unfold aop ze8 at h;simp only [ho] at h;have hx:=zcq hf x;have hy:=zcq hf y;generalize hev:a.eval x=ve at hx;split at h
 ·rename_i i new hT hnew;obtain ⟨ha,h1⟩:=zHZ hf.rb hy hnew;split at h
  ·cases h
  ·rename_i hlen;have hlen:new.length=i.size:=qx hlen;have hsz:(a.eval y).cells.toList.length=i.size:=by rw [ha.len,hlen]
   split at h
   ·-- into a box
    rename_i id off hex;rw [hex] at hx;split at h
    ·rename_i cs hbl;split at h
     ·rename_i cs' hsp;simp only [q0] at h; subst h;obtain ⟨hle,rfl⟩:=zRd hsp;obtain ⟨b,cur,t,hκ,hg,hb⟩:=hf.rb.box hbl;have hbl':(gD .none st.blks id)=.box cs false:=hbl;cases hx with
      | rep hx=>cases hx
      | ptr _ _ b' hk hb'=>
       rw [hκ] at hb';simp only [Value.pointer.injEq,q0,Addr.mk.injEq,and_true] at hb';subst hb';have hcur:cur.size=cs.length:=by rw [<- hb.len,q1h]
       have hrun:=zYz hcx hT (u:=a.eval y) hg hsz (by rw [ha.len,hcur]; exact hle) h1
       have hst:=zHc (w':=w.setRow b (cur.toList.take off++(a.eval y).cells.toList++cur.toList.drop (off+(a.eval y).cells.toList.length)).toArray)
        (nb:=.box (cs.take off++new++cs.drop (off+new.length)) false) hf.rb (n:=id) (by rw [hbl']; rfl) (by rw [hbl']; rfl) rfl rfl rfl (by simp)
        (λb2 _=>by
         rcases zBw (w:=w) b b2 (cur.toList.take off++(a.eval y).cells.toList++cur.toList.drop (off+(a.eval y).cells.toList.length)).toArray with h' | h'
         ·exact .inl h'
         ·subst h'; exact .inr (by rw [hκ]; rfl))
        (λhc=>⟨b,_,t,hκ,setRow_heap w b cur _ t _ hg,((hb.imp λ_ _ h=>hc.rep h).splice (ha.imp λ_ _ h=>hc.rep h) off)⟩)
       refine wp_skip (w':=w.setRow b (cur.toList.take off++(a.eval y).cells.toList++cur.toList.drop (off+(a.eval y).cells.toList.length)).toArray) ?_ ⟨κ,hf.put ?_ ?_ (λ_=>.dead _)⟩
       ·simp only [execOp,ho,hev,Instr.storeAt,Instr.sureAddr,Sem.run_bind,Sem.run_pure,Result.andThen_ok,hrun]
       ·rw [zdK]; exact hst.1
       ·rw [zdK]; exact hst.2
      | ptrD _ _ _ hk=>simp [hbl,Blk.kind] at hk
     ·cases h
    ·cases h
   ·-- into an element of a row
    rename_i id ix off hex;rw [hex] at hx;split at h
    ·rename_i T' l new' fz hbl hpure;split at h
     ·rename_i cs' hsp hnc;split at h
      ·rename_i x' hdec;obtain ⟨hix,h⟩:=zfD h;simp only [qb] at hix;simp only [q0] at h; subst h;obtain ⟨hle,rfl⟩:=zRd hsp;have hbl0:(gD .none st.blks id)=.arr T' l false:=hbl;cases hx with
       | rep hx=>cases hx
       | eptr _ _ _ b k m n cap hk hi2 hκ=>
        simp only [hbl,Blk.kind,Kind.arr.injEq] at hk;obtain ⟨rfl,rfl⟩:=hk
        -- first the parts of the value are frozen
        obtain ⟨hrb1,hc1⟩:=zyk hf.rb fz;have hnotin:id∉fz:=by simpa using hnc
        have hbl1:(gD .none (zbY st.blks fz) id)=.arr T' l false:=by rw [zrw,if_neg hnotin]; exact hbl0
        have hnewrep:=z4W hcx hf.rb (fz:=fz) ha hpure (λ_ h=>h)
        have hrow:=hf.rb.row hbl;rw [hκ] at hrow;obtain ⟨xs,hown,hall⟩:=hrow;rcases hown.2 with ⟨hbad,_⟩ | ⟨g,cap',cur,hv,_,hg,hnc',hcm,hcs,htake⟩
        ·simp at hbad
        ·simp only [Value.slice.injEq,q0,Addr.mk.injEq,and_true] at hv;obtain ⟨rfl,rfl,rfl⟩:=hv;have hxl:xs.length=l.length*zt cx T':=hown.1;have hk1:(ix+1)*zt cx T'<=l.length*zt cx T':=q1v _ hix;have hk2:l.length*zt cx T'<=cap*zt cx T':=q1v _ hnc';have hk3:(ix+1)*zt cx T'=ix*zt cx T'+zt cx T':=q2l _ _;have hle':off+new'.length<=zt cx T':=by rw [<- hcx.len T' (l.getD ix (cx.dflt T'))]; exact hle
         have hnl:(a.eval y).cells.toList.length=new'.length:=hnewrep.len;have hnl2:(a.eval y).cells.size=new'.length:=by rw [<- q1h]; exact hnl
         have hrun:=zYz hcx hT (off:=ix*zt cx T'+off) (u:=a.eval y) hg hsz (by rw [hnl]; omega) h1
         have hst:=zHc (B:=zbY st.blks fz) (κ:=κ) (w:=w) (w':=w.setRow b (cur.toList.take (ix*zt cx T'+off)++(a.eval y).cells.toList++cur.toList.drop (ix*zt cx T'+off+(a.eval y).cells.toList.length)).toArray)
          (nb:=.arr T' (l.set ix x') false) hrb1 (n:=id) (by rw [hbl1]; rfl) (by rw [hbl1]; simp [Blk.kind]) rfl rfl rfl (by simp)
          (λb2 _=>by
           rcases zBw (w:=w) b b2 (cur.toList.take (ix*zt cx T'+off)++(a.eval y).cells.toList++cur.toList.drop (ix*zt cx T'+off+(a.eval y).cells.toList.length)).toArray with h' | h'
           ·exact .inl h'
           ·subst h'; exact .inr (by rw [hκ]; rfl))
          (λhc=>by
           rw [hκ];have hall1:All2 (Rep cx (Fz e (λj=>(gD .none ((zbY st.blks fz).set id (.arr T' (l.set ix x') false)) j)) κ (w.setRow b (cur.toList.take (ix*zt cx T'+off)++(a.eval y).cells.toList++cur.toList.drop (ix*zt cx T'+off+(a.eval y).cells.toList.length)).toArray)) _) xs (zcP cx T' l):=hall.imp λ_ _ h=>hc.rep' (hc1.rep' h)
           have hnew1:=hnewrep.imp λ_ _ h=>hc.rep' h
           have hel:((zcP cx T' l).drop (ix*zt cx T')).take (zt cx T')=cx.enc T' (l.getD ix (cx.dflt T')):=by
            have e2:=zwA _ _ (hcx.len T') l ix;have hd:l.drop ix=l[ix]::l.drop (ix+1):=q2x hix;unfold zcP;rw [<- e2,hd,q1f,q35,hcx.len,Nat.sub_self,List.take_zero,q1o,q24 (by rw [hcx.len]; exact qn _)]
            congr 1;simp [List.getD,hix]
           have hel1:=((hall1.drop (ix*zt cx T')).take (zt cx T'));rw [hel] at hel1;have hel2:=hcx.dec T' _ _ hdec _ _ _ (hel1.splice hnew1 off);refine ⟨xs.take (ix*zt cx T'+off)++(a.eval y).cells.toList++xs.drop (ix*zt cx T'+off+(a.eval y).cells.toList.length),⟨?_,.inr ⟨b,cap,_,by simp,q19 _,setRow_heap w b cur _ T' _ hg,by simpa using hnc',hcm, ?_, ?_⟩⟩, ?_⟩
           ·simp; omega
           ·simp; omega
           ·have hcl:cur.toList.length=cur.size:=rfl;have ht:=z2V cur.toList (a.eval y).cells.toList (ix*zt cx T'+off) (l.length*zt cx T') (by omega) (by omega)
            rw [htake] at ht
            simpa only [List.length_set,List.toList_toArray] using ht
           ·rw [zbhT xs (a.eval y).cells.toList (ix*zt cx T') off (zt cx T') (by rw [hnl]; exact hle') (by omega)]
            unfold zcP;rw [zbdO _ _ (hcx.len T') l ix x' hix];rw [show ix*zt cx T'+zt cx T'=(ix+1)*zt cx T' from hk3.symm]
            exact ((hall1.take _).append hel2).append (hall1.drop _))
         refine wp_skip (w':=w.setRow b (cur.toList.take (ix*zt cx T'+off)++(a.eval y).cells.toList++cur.toList.drop (ix*zt cx T'+off+(a.eval y).cells.toList.length)).toArray) ?_ ⟨κ,hf.put ?_ ?_ (λ_=>.dead _)⟩
         ·simp only [execOp,ho,hev,Instr.storeAt,Instr.sureAddr,Sem.run_bind,Sem.run_pure,Result.andThen_ok,hrun]
         ·rw [zdK]; exact hst.1
         ·rw [zdK]; exact hc1.trans hst.2
       | eptrD _ _ _ _ hk=>simp [hbl,Blk.kind] at hk
      ·cases h
     ·cases h
    ·cases h
   ·cases h
 ·cases h
end
end
end Go.Ab
/- The operations that make or write memory of the call's own, against the machine's: slice literals, make, append, clear. -/
namespace Go.Ab
noncomputable section
variable {ty:Nat->Type}
section
variable {P:Program} {cx:Cx ty} {e:Env} {st:St ty} {κ:Nat->Value} {a:Act} {w:World} {o:Oper} {d:Delta ty} {Q:Exit->Act->World->Prop}
theorem z3C (hcx:CxOK P cx) {F:Nat->Prop} {T:Nat} {l:List (ty T)} {us:List Value} (ha:All2 (Rep cx F w) us (zcP cx T l)):∀ u∈us,u.oneCell'=true:=by
 intro u hu;obtain ⟨j,hj⟩:=q2i hu;obtain ⟨c,hc,hr⟩:=ha.getL hj;have hm:c∈zcP cx T l:=q1l hc;obtain ⟨x,_,hx⟩:=List.mem_flatMap.1 hm;have:=hcx.cell T x c hx;rw [<- z5P];cases hr with
 | lit v=>exact this
 | agg=>exact this.elim
 | _=>rfl
theorem zM7 (hcx:CxOK P cx) (hrb:RB cx e st.blk κ w) {fz:List Nat} {el k:Nat} (hk:zt cx el=k):
  ∀ (ps:List (Nat×AV ty)) (us:List (Nat×Value)) (n:Nat) (l:List (ty el)) (ids:List Nat) (cur:List Value),
   All2 (λ(u:Nat×Value) (p:Nat×AV ty)=>u.1=p.1/\ziB cx e st κ w u.2 p.2) us ps->znw cx st el n ps=some (l,ids)->(∀ id∈ids,id∈fz)->(n+ps.length)*k<=cur.length->
   ∃ mid:List Value,Instr.fill (λi=>some (i*k,k)) cur.toArray us=some (cur.take (n*k)++mid++cur.drop ((n+ps.length)*k)).toArray/\mid.length=ps.length*k/\
    All2 (Rep cx (Fz e (FzB st fz) κ w) w) mid (zcP cx el l)/\l.length=ps.length
 | [],us,n,l,ids,cur,hu,h,_,_=>by
  rw [hu.nil_left.1];simp only [znw,q0,qe] at h;obtain ⟨rfl,rfl⟩:=h;exact ⟨[],by simp [Instr.fill],by simp,.nil,rfl⟩
 | (i,v)::r,us,n,l,ids,cur,hu,h,hi,hl=>by
  obtain ⟨⟨i',u⟩,us',rfl,⟨hii,hr⟩,hu'⟩:=hu.inv;simp only at hii hr; subst hii;simp only [znw] at h;split at h
  ·cases h
  ·rename_i hin;have hin:i'=n:=qx hin;subst hin;split at h
   ·cases h
   ·rename_i c hc;split at h
    ·cases h
    ·rename_i c' ids1 hp;split at h
     ·cases h
     ·rename_i x hdec;split at h
      ·cases h
      ·rename_i xs is hrest;simp only [q0,qe] at h;obtain ⟨rfl,rfl⟩:=h;obtain ⟨ha,h1⟩:=zHZ hrb hr hc;have hnew:=z4W hcx hrb (fz:=fz) ha hp (λid hid=>hi id (by simp [hid]))
       have hx:=hcx.dec el c' x hdec _ _ _ hnew;have hsz:u.cells.toList.length=k:=by rw [hx.len,hcx.len,hk]
       have hsz':u.cells.size=k:=by rw [<- q1h]; exact hsz
       have m1:(i'+1)*k=i'*k+k:=q2l _ _;have m2:(i'+(r.length+1))*k=(i'+1+r.length)*k:=by congr 1; omega
       have m3:(i'+1)*k<=(i'+1+r.length)*k:=q1v _ (by omega)
       simp only [qc] at hl
       obtain ⟨mid,hfill,hml,hmr,hll⟩:=zM7 hcx hrb hk r us' (i'+1) xs is (cur.take (i'*k)++u.cells.toList++cur.drop (i'*k+u.cells.toList.length)) hu' hrest (λid hid=>hi id (by simp [hid])) (by
        simp only [qf,q15,q2q,hsz];omega)
       refine ⟨u.cells.toList++mid, ?_,by simp only [qf,hsz,hml,qc,q2l]; omega, ?_,by simp [hll]⟩
       ·have hset:=z9R (cur:=cur) (off:=i'*k) u.cells.toList (by omega)
        simp only [Array.toArray_toList] at hset;rw [<- hset] at hfill;simp only [Instr.fill,hsz',List.size_toArray];rw [show ((k≠k)||decide (i'*k+k>cur.length))=false by simp; omega]
        simp only [q1e,if_false];simp only [Array.toArray_toList] at hfill;rw [hfill,hset];congr 2;simp only [qc];rw [m2];apply q31;intro j;simp only [List.getElem?_append,qf,q15,q20,q2c,q2q,hsz];have q1:min (i'*k) cur.length=i'*k:=by omega
        have q2:min ((i'+1)*k) (i'*k+k+(cur.length - (i'*k+k)))=(i'+1)*k:=by omega
        simp only [q1,q2];by_cases c1:j<i'*k
        ·have c2:j<(i'+1)*k:=by omega
         have c3:j<i'*k+k:=by omega
         have c4:j<(i'+1)*k+mid.length:=by omega
         have c5:j<i'*k+(k+mid.length):=by omega
         simp [c1,c2,c3,c4,c5]
        ·by_cases c2:j<(i'+1)*k
         ·have c3:j<i'*k+k:=by omega
          have c4:j<(i'+1)*k+mid.length:=by omega
          have c5:j<i'*k+(k+mid.length):=by omega
          have c6:j - i'*k<k:=by omega
          simp [c1,c2,c3,c4,c5,c6]
         ·by_cases c4:j<(i'+1)*k+mid.length
          ·have c5:j<i'*k+(k+mid.length):=by omega
           have c6:¬ (j - i'*k<k):=by omega
           have c7:j - (i'+1)*k=j - i'*k - k:=by omega
           simp [c1,c2,c4,c5,c6,c7]
          ·have c5:¬ j<i'*k+(k+mid.length):=by omega
           have c8:¬ ((i'+1+r.length)*k+(j - ((i'+1)*k+mid.length))<i'*k):=by omega
           have c9:¬ ((i'+1+r.length)*k+(j - ((i'+1)*k+mid.length))<i'*k+k):=by omega
           simp only [c4,c5,c8,c9,if_false];congr 1;omega
       ·unfold zcP;rw [q1f];exact hx.append hmr
theorem zbah {T n:Nat} {parts:Array (Nat×Operand)} (hcx:CxOK P cx) (ho:o.op=.buildSlice T n parts) (h:aop cx o st=some d) (hf:RF cx e st κ a w):o.wp P a w (λa' w'=>R cx e (st.app o.dst d) a' w') Q:=by
 unfold aop ze8 at h;simp only [ho] at h;split at h
 ·rename_i el s b zz dd hT hdst;have hu:=zjE hcx hT;split at h
  ·rename_i l fz inf hfe hn hinf;have hn:n=parts.size:=qx hn;split at h
   ·rename_i hle;obtain ⟨hle,hfree⟩:=zki hle;obtain ⟨hnle,hfree⟩:=zki hfree;have hnle:n<=16777216:=q2p hnle;simp only [q0] at h; subst h;obtain ⟨hnone,hlt⟩:=znv hfree;obtain ⟨info,desc,z,hi,hu2,hs,hb,hz,hzc,hzl,hz1,hd⟩:=(hcx.ti el _ hinf).ok;have hk:zt cx el=inf.size:=by simp [zt,hinf]
    have hle:n*inf.size<=16777216:=q2p hle
    obtain ⟨mid,hfill,hml,hmr,hll⟩:=zM7 (κ:=κ) (fz:=fz) hcx hf.rb hk (parts.toList.map λ(i,x)=>(i,st.ev x)) (parts.toList.map λ(i,x)=>(i,a.eval x)) 0 l fz
     ((madeCells (if n*inf.size=0 then #[] else z.cells) (n*inf.size)).toList)
     (⟨by simp,λj u c hu hc=>by
      rw [q14] at hu hc;cases hx:parts.toList[j]? with
      | none=>rw [hx] at hu; cases hu
      | some x=>
       rw [hx] at hu hc;simp only [qz,q0] at hu hc;subst hu; subst hc;exact ⟨rfl,zcq hf x.2⟩⟩) hfe (λ_ h=>h) (by
      have e1:=size_madeCells (if n*inf.size=0 then #[] else z.cells) (n*inf.size)
      rw [q1b,q1s]
      change parts.size*inf.size<=Array.size _
      rw [e1,hn]; exact qn _)
    simp only [q1b,q1h] at hfill hml hll;simp only [Nat.zero_mul,List.take_zero,q10,q1s,Array.toArray_toList] at hfill
    rw [q2m (by
     have e1:=size_madeCells (if n*inf.size=0 then #[] else z.cells) (n*inf.size)
     change Array.size _<=_
     rw [e1,hn]; exact qn _),q1o] at hfill
    obtain ⟨hrb1,hc1⟩:=zyk hf.rb fz
    have hnone1:(gD .none (zbY st.blks fz) (zQ dd))=.none:=by
     rw [zrw];have:(gD .none st.blks (zQ dd))=.none:=hnone;rw [this]; split <;>rfl
    have hst:=zwX (w':=w.alloc (.cells mid.toArray el)) (nb:=.arr el l false) (v:=.slice (some ⟨w.heap.size,0,none⟩) n n) hrb1 hnone1 (by rw [zjA]; exact hlt) rfl rfl rfl (by simp) (λb hb=>heap_alloc_old w _ b hb)
     (λb hb=>by simp [zbj] at hb; subst hb; simp)
     (λhc=>⟨mid,by
      have:=World.ownsRow_lit (base:=0) (e:=el) (size:=zt cx el) w mid.toArray n (q19 _) (by simp only [maxLen]; omega) (by simp [hml,hn,hk])
      rw [hll, <- hn]
      simpa using this,hmr.imp λ_ _ h=>hc.rep' h⟩)
    refine zZ (v:=.slice (some ⟨w.heap.size,0,none⟩) n n) (w':=w.alloc (.cells mid.toArray el)) ?_ ⟨_,hf.put (κ':=λi=>if i=zQ dd then .slice (some ⟨w.heap.size,0,none⟩) n n else κ i) ?_ ?_ (λ_=> ?_)⟩
    ·have hparts:(parts.map λ(i,x)=>(i,a.eval x)).toList=parts.toList.map λ(i,x)=>(i,a.eval x):=by simp
     have hrun:(Instr.buildSlice T n (parts.map λ(i,x)=>(i,a.eval x))).run P w=.ok (.slice (some ⟨w.heap.size,0,none⟩) n n) (w.alloc (.cells mid.toArray el)):=by
      simp only [Instr.buildSlice,Sem.run_bind,zdJ hu,Result.andThen_ok,zDh hcx hinf,Sem.run_ite];rw [if_neg (by omega)]
      by_cases h0:n*inf.size=0
      ·simp only [h0,if_true] at hfill;simp only [h0,if_true,Sem.run_pure,Result.andThen_ok,hparts];simp only [madeCells] at hfill;rw [hfill];simp [newRow]
      ·simp only [h0,if_false] at hfill;simp only [h0,if_false,Sem.run_pure,Sem.run_bind,zMk hi hz,Result.andThen_ok,hparts];simp only [madeCells] at hfill;rw [hfill];simp [newRow]
     simp only [execOp,ho,Sem.run_bind,hrun,Result.andThen_ok,Sem.run_pure]
    ·rw [zdK]; exact hst.1
    ·rw [zdK]; exact hc1.trans hst.2
    ·rw [zdK]
     have:=RepA.own (cx:=cx) (F:=Fz e (λj=>(gD .none ((zbY st.blks fz).set (zQ dd) (.arr el l false)) j)) (λi=>if i=zQ dd then .slice (some ⟨w.heap.size,0,none⟩) n n else κ i) (w.alloc (.cells mid.toArray el))) (w:=w.alloc (.cells mid.toArray el))
      (kd:=λi=>((gD .none ((zbY st.blks fz).set (zQ dd) (.arr el l false)) i)).kind cx) (κ:=λi=>if i=zQ dd then .slice (some ⟨w.heap.size,0,none⟩) n n else κ i) (zQ dd) (zt cx el) l.length (by
       rw [zbI,if_pos ⟨rfl,by rw [zjA]; exact hlt⟩]; rfl)
     simpa using this
   ·cases h
  ·cases h
 ·cases h
end
end
end Go.Ab
/- The operations that make or write memory of the call's own, against the machine's: make, append, clear. -/
namespace Go.Ab
noncomputable section
variable {ty:Nat->Type}
section
variable {P:Program} {cx:Cx ty} {e:Env} {st:St ty} {κ:Nat->Value} {a:Act} {w:World} {o:Oper} {d:Delta ty} {Q:Exit->Act->World->Prop}
theorem zbje (z:Array Value) (c k i j:Nat) (hz:z.size=k) (hi:i<c) (hj:j<k):(madeCells z (c*k)).toList[i*k+j]? =z.toList[j]? :=by
 have h1:i*k+j<c*k:=by
  have:(i+1)*k<=c*k:=q1v _ hi;rw [q2l] at this; omega
 have h2:(i*k+j) % z.size=j:=by rw [hz,Nat.mul_comm,Nat.mul_add_mod]; exact Nat.mod_eq_of_lt hj
 simp [madeCells,h1,h2,hz,hj];rw [Nat.mod_eq_of_lt hj];exact getElem!_pos z j (by omega)
theorem z28 {F:Nat->Prop} (hcx:CxOK P cx) {T k c n:Nat} {z:Array Value} {x:ty T} (hk:zt cx T=k) (hz:z.size=k) (hr:All2 (Rep cx F w) z.toList (cx.enc T x)) (hn:n<=c):
  All2 (Rep cx F w) ((madeCells z (c*k)).toList.take (n*k)) (zcP cx T (List.replicate n x)):=by
 have hlen:((madeCells z (c*k)).toList.take (n*k)).length=n*k:=by
  rw [q15];have e1:=size_madeCells z (c*k);have:n*k<=c*k:=q1v _ hn
  change min _ (Array.size _)=_
  rw [e1]; omega
 refine ⟨by rw [hlen,zUu hcx,q2n,hk],λj u v hu hv=> ?_⟩
 have hj:j<n*k:=by rw [<- hlen]; exact (q1t.1 hu).1
 have hk0:0<k:=by
  rcases Nat.eq_zero_or_pos k with h | h
  ·subst h; simp at hj
  ·exact h
 have hji:j=(j / k)*k+j % k:=by have:=Nat.div_add_mod j k; rw [Nat.mul_comm] at this; exact this.symm
 have hi:j / k<n:=by
  rw [Nat.div_lt_iff_lt_mul hk0]; exact hj
 have hm:j % k<k:=Nat.mod_lt _ hk0;rw [q20,if_pos hj] at hu;rw [hji,zbje z c k _ _ hz (by omega) hm] at hu
 unfold zcP at hv;rw [hji,zTP _ k (by rw [<- hk]; exact hcx.len T) _ _ _ hm] at hv
 simp only [List.getElem?_replicate,if_pos hi,q1g] at hv;exact hr.at_ _ u v hu hv
theorem z4w {F:Nat->Prop} (hcx:CxOK P cx) {T:Nat} {inf:TInfo} {z:Value} {x:ty T} (hzc:z.cells.toList=inf.zero) (hdec:cx.dec T (inf.zero.map .lit)=some x):All2 (Rep cx F w) z.cells.toList (cx.enc T x):=by
 rw [hzc];exact hcx.dec T _ x hdec F w _ (zMu inf.zero)
theorem zbdW {T:Nat} {x y:Operand} (hcx:CxOK P cx) (ho:o.op=.makeSlice T x y) (h:aop cx o st=some d) (hf:RF cx e st κ a w):o.wp P a w (λa' w'=>R cx e (st.app o.dst d) a' w') Q:=by
 unfold aop ze8 at h;simp only [ho] at h;split at h
 ·rename_i el s b zz dd n c hT hdst hn hc;have hu:=zjE hcx hT;have en:=zFJ (zcq hf x) hn;have ec:=zFJ (zcq hf y) hc;split at h
  ·rename_i inf hinf;split at h
   ·rename_i z hdec;obtain ⟨hb,h⟩:=zfD h;simp only [q0] at h; subst h;simp only [qa,qb] at hb;obtain ⟨⟨⟨⟨hfree,h0⟩,hnc⟩,hby⟩,hcr⟩:=hb;obtain ⟨hnone,hlt⟩:=znv hfree;obtain ⟨info,desc,zv,hi,hu2,hs,hbb,hz,hzc,hzl,hz1,hd⟩:=(hcx.ti el _ hinf).ok;have hk:zt cx el=inf.size:=by simp [zt,hinf]
    have hzs:zv.cells.size=inf.size:=by rw [<- q1h,hzc,hzl]
    unfold zD at hby hcr;have hrun:=run_make (P:=P) w T el info zv hu hi hz .i64 .i64 n c h0 hnc (by rw [hbb,Int.mul_comm]; omega) (by omega)
    rw [hs] at hrun
    have hst:=zwX (w':=w.alloc (.cells (madeCells zv.cells (c.toNat *inf.size)) el)) (nb:=.arr el (List.replicate n.toNat z) false) (v:=.slice (some ⟨w.heap.size,0,none⟩) n.toNat c.toNat) hf.rb hnone hlt rfl rfl rfl (by simp) (λb hb=>heap_alloc_old w _ b hb)
     (λb hb=>by simp [zbj] at hb; subst hb; simp)
     (λhcc=>⟨(madeCells zv.cells (c.toNat *inf.size)).toList.take (n.toNat *inf.size),by
      refine ⟨?_,.inr ⟨w.heap.size,c.toNat,_,by simp,q19 _,heap_alloc_new w _,by simp; omega,by simp only [maxLen]; omega, ?_, ?_⟩⟩
      ·rw [q15];have e1:=size_madeCells zv.cells (c.toNat *inf.size);have:n.toNat *inf.size<=c.toNat *inf.size:=q1v _ (by omega)
       change min _ (Array.size _)=_
       rw [e1,hk,q2n]; omega
      ·rw [size_madeCells,hk]
      ·rw [hk,q2n],z28 hcx hk hzs (z4w hcx hzc hdec) (by omega)⟩)
    refine zZ (v:=.slice (some ⟨w.heap.size,0,none⟩) n.toNat c.toNat) (w':=w.alloc (.cells (madeCells zv.cells (c.toNat *inf.size)) el)) ?_ ⟨_,hf.put (κ':=λi=>if i=zQ dd then .slice (some ⟨w.heap.size,0,none⟩) n.toNat c.toNat else κ i) ?_ ?_ (λ_=> ?_)⟩
    ·simp only [execOp,ho,en,ec,Sem.run_bind,hrun,Result.andThen_ok,Sem.run_pure]
    ·rw [zdK]; exact hst.1
    ·rw [zdK]; exact hst.2
    ·rw [zdK]
     have:=RepA.own (cx:=cx) (F:=Fz e (λj=>(gD .none ((zbY st.blks []).set (zQ dd) (.arr el (List.replicate n.toNat z) false)) j)) (λi=>if i=zQ dd then .slice (some ⟨w.heap.size,0,none⟩) n.toNat c.toNat else κ i) (w.alloc (.cells (madeCells zv.cells (c.toNat *inf.size)) el))) (w:=w.alloc (.cells (madeCells zv.cells (c.toNat *inf.size)) el))
      (kd:=λi=>((gD .none ((zbY st.blks []).set (zQ dd) (.arr el (List.replicate n.toNat z) false)) i)).kind cx) (κ:=λi=>if i=zQ dd then .slice (some ⟨w.heap.size,0,none⟩) n.toNat c.toNat else κ i) (zQ dd) (zt cx el) (List.replicate n.toNat z).length (by
       rw [zbI,if_pos ⟨rfl,by rw [zjA]; exact hlt⟩]; rfl)
     simpa using this
   ·cases h
  ·cases h
 ·cases h
theorem z4J {T T' el:Nat} {tyr:TypeId} {info:TypeInfo} {zv:Value} {k':IntKind} (hu:P.underlying T=some (.slice el)) (hu':P.underlying T'=some (.int k')) (hi:P.info? el=some info) (hz:info.zero=some zv) (hzs:zv.cells.size=info.size) (hs0:info.size≠0)
  (n:Nat) (h0:0<n) (hby:n*info.bytes<=70368744177664) (hn:n<=70368744177664):
  (Builtin.append_ #[T,T'] tyr #[.slice none 0 0,.int .i64 n]).run P w=.ok (.slice (some ⟨w.heap.size,0,none⟩) n (grownCap w n 0 el)) (w.drew.alloc (.cells (Builtin.zeroCells zv.cells n++Builtin.zeroCells zv.cells (grownCap w n 0 el - n)) el)):=by
 have hw:IntKind.i64.wrap (n:Int)=n:=by simp [IntKind.wrap,IntKind.bits,IntKind.signed]; omega
 have h1:¬ ((n:Int)<0):=by omega
 have h2:¬ (281474976710656<(n:Int)*(info.bytes:Int)):=by
  have:((n*info.bytes:Nat):Int)<=70368744177664:=by omega
  rw [Int.natCast_mul] at this; omega
 have h3:Builtin.nextslicecap n 0=n:=by unfold Builtin.nextslicecap; rw [if_pos (by omega)]
 have h4:¬ (281474976710656<n*info.bytes):=by omega
 have h5:¬ (n=0):=by omega
 have h6:¬ (9223372036854775807<(n:Int)):=by omega
 have hf:=run_firstCells_none (P:=P) w.drew info.size 0 0 0;simp [Builtin.append_,run_underlying hu,run_underlying hu',sizeOf,typeInfo,zeroValue,hi,hz,asInt,asIntOf,hw,h1,h2,h3,h4,h5,h6,hs0,Question.forced,hf,newRow,grownCap];intro h7;rcases Nat.mul_eq_zero.1 h7 with h | h
 ·exact absurd h h5
 ·exact absurd h hs0
theorem zbgI {args:Array Operand} {ts:Array TypeId} {T T2:Nat} {sv xv:AV ty} {u u2:Value} (hcx:CxOK P cx) (hts':ts=#[T,T2]) (hargs:args.map a.eval=#[u,u2]) (hu:ziB cx e st κ w u sv) (hu2:ziB cx e st κ w u2 xv)
  (hex:execOp a.eval o=builtin .append ts o.type (args.map λ| .const _=>true | _=>false) (args.map a.eval)) (h:zvu cx st o.dst T T2 sv xv some=some d) (hf:RF cx e st κ a w):o.wp P a w (λa' w'=>R cx e (st.app o.dst d) a' w') Q:=by
 unfold zvu at h;split at h
 ·rename_i el s b zz s2 b2 zz2 dd hT hT2 hdst;have hund:=zjE hcx hT;have hund2:P.underlying T2=some (.int .i64):=zEc hcx hT2;split at h
  ·rename_i n;split at h
   ·rename_i inf hinf;split at h
    ·rename_i z hdec;obtain ⟨hb,h⟩:=zfD h;simp only [q0] at h; subst h;simp only [qa,qb,q17] at hb;obtain ⟨hfree,h0,hby,hn,hs0⟩:=hb;obtain ⟨m,rfl⟩:=Int.eq_ofNat_of_zero_le (Int.le_of_lt h0);obtain ⟨hnone,hlt⟩:=znv hfree;obtain ⟨info,desc,zv,hi,hu3,hs,hbb,hz,hzc,hzl,hz1,hd⟩:=(hcx.ti el _ hinf).ok;have hk:zt cx el=inf.size:=by simp [zt,hinf]
     have hzs:zv.cells.size=inf.size:=by rw [<- q1h,hzc,hzl]
     have hs0:inf.size≠0:=by intro h0; rw [h0] at hs0; cases hs0
     unfold zD at hby hn;have e1:=zco hu;have e2:=zco hu2
     have hby':m*info.bytes<=70368744177664:=by
      rw [hbb];have:((m*inf.bytes:Nat):Int)<=70368744177664:=by rw [Int.natCast_mul]; omega
      omega
     have hrun:=z4J (P:=P) (w:=w) (tyr:=o.type) hund hund2 hi hz (by rw [hzs,hs]) (by rw [hs]; exact hs0) m (by omega) hby' (by omega)
     generalize hc:grownCap w m 0 el=c at hrun;have hmc:m<=c:=hc ▸ grownCap_ge w m 0 el;have hcm:c<=maxLen:=hc ▸ grownCap_le_maxLen w m 0 el (by simp only [maxLen]; omega)
     generalize hX:Builtin.zeroCells zv.cells m++Builtin.zeroCells zv.cells (c - m)=X at hrun;have hzc1:Builtin.zeroCells zv.cells m=madeCells zv.cells (m*inf.size):=by unfold Builtin.zeroCells madeCells; rw [hzs]
     have hX1:X.size=c*inf.size:=by
      rw [<- hX,Array.size_append,size_zeroCells,size_zeroCells,hzs, <- q2s]; congr 1; omega
     have hX2:X.toList.take (m*inf.size)=(madeCells zv.cells (m*inf.size)).toList.take (m*inf.size):=by
      rw [<- hX,hzc1,Array.toList_append,List.take_append_of_le_length (by rw [q1h,size_madeCells]; exact qn _)]
     have hst:=zwX (w':=w.drew.alloc (.cells X el)) (nb:=.arr el (List.replicate m z) false) (v:=.slice (some ⟨w.heap.size,0,none⟩) m c) hf.rb hnone hlt rfl rfl rfl (by simp) (λb hb=>heap_alloc_old w.drew _ b hb)
      (λb hb=>by simp [zbj] at hb; subst hb; simp)
      (λhcc=>⟨X.toList.take (m*inf.size),by
       refine ⟨?_,.inr ⟨w.heap.size,c,_,by simp,q19 _,heap_alloc_new w.drew _,by simpa using hmc,hcm, ?_, ?_⟩⟩
       ·rw [hX2,q15,q1h,size_madeCells,hk,q2n]; omega
       ·rw [hX1,hk]
       ·rw [hk,q2n],by rw [hX2]; exact z28 hcx hk hzs (z4w hcx hzc hdec) (qn _)⟩)
      (λ_=>Nat.le_succ _)
     refine zZ (v:=.slice (some ⟨w.heap.size,0,none⟩) m c) (w':=w.drew.alloc (.cells X el)) ?_ ⟨_,hf.put (κ':=λi=>if i=zQ dd then .slice (some ⟨w.heap.size,0,none⟩) m c else κ i) ?_ ?_ (λ_=> ?_)⟩
     ·rw [hex,hts',hargs,e1,e2];simp only [builtin,Sem.run_bind,hrun,Result.andThen_ok,Sem.run_pure]
     ·rw [zdK]; exact hst.1
     ·rw [zdK]; exact hst.2
     ·rw [zdK]
      have:=RepA.own (cx:=cx) (F:=Fz e (λj=>(gD .none ((zbY st.blks []).set (zQ dd) (.arr el (List.replicate m z) false)) j)) (λi=>if i=zQ dd then .slice (some ⟨w.heap.size,0,none⟩) m c else κ i) (w.drew.alloc (.cells X el))) (w:=w.drew.alloc (.cells X el))
       (kd:=λi=>((gD .none ((zbY st.blks []).set (zQ dd) (.arr el (List.replicate m z) false)) i)).kind cx) (κ:=λi=>if i=zQ dd then .slice (some ⟨w.heap.size,0,none⟩) m c else κ i) (zQ dd) (zt cx el) (List.replicate m z).length (by
        rw [zbI,if_pos ⟨rfl,by rw [zjA]; exact hlt⟩]; rfl)
      simpa using this
    ·cases h
   ·cases h
  ·cases h
 ·cases h
theorem zYg (hcx:CxOK P cx) (hrb:RB cx e st.blk κ w) {v:Value} {av:AV ty} {T:Nat} {l:List (ty T)} {rd:List Nat} (hr:ziB cx e st κ w v av) (h:zed st av=some (⟨T,l⟩,rd)):
  ∃ ad cap us,v=.slice ad l.length cap/\(ad=none->l=[]/\cap=0)/\All2 (Rep cx (Fz e st.blk κ w) w) us (zcP cx T l)/\∀ ad',ad=some ad'->∀ (j:Nat) u,us[j]? =some u->w.cell? (ad'.add j)=some u:=by
 cases av with
 | sl T' l'=>
  simp only [zed,q0,qe,Sigma.mk.injEq] at h;obtain ⟨⟨rfl,h⟩,_⟩:=h;have h:=eq_of_heq h; subst h;cases hr with
  | rep hr=>
   cases hr with
   | slE ad c T hn=>exact ⟨ad,c,[],rfl,λh=>⟨rfl,hn h⟩,.nil,λ_ _ j u hu=>by simp at hu⟩
   | sl b off cap _ _ us hF hcap hlen hc hr=>exact ⟨_,cap,us,rfl,by simp,⟨hlen,hr⟩,λad' had j u hu=>by
     simp only [q0] at had; subst had;rw [zf5]; exact hc j u hu⟩
 | own id=>
  simp only [zed] at h;split at h
  ·rename_i T' l' fz hb;simp only [q0,qe,Sigma.mk.injEq] at h;obtain ⟨⟨rfl,h⟩,_⟩:=h;have h:=eq_of_heq h; subst h;cases hr with
   | rep hr=>cases hr
   | own _ k m hk=>
    obtain ⟨xs,ho,ha⟩:=hrb.row hb;rcases ho.2 with ⟨hv,h0⟩ | ⟨g,cap,cur,hv,_,hg,hnc,_,_,htake⟩
    ·have hl:l'=[]:=q1a h0;subst hl;exact ⟨none,0,[],hv,λ_=>⟨rfl,rfl⟩,.nil,λ_ _ j u hu=>by simp at hu⟩
    ·exact ⟨_,cap,xs,hv,by simp,ha,λad' had j u hu=>by
      simp only [q0] at had; subst had;exact ho.cells (g:=g) (by rw [hv]; rfl) j u hu⟩
   | ownD _ _ hk=>simp [hb,Blk.kind] at hk
  ·cases h
 | sub id lo n=>
  simp only [zed] at h;split at h
  ·rename_i T' l' fz hb;simp only [q0,qe,Sigma.mk.injEq] at h;obtain ⟨⟨rfl,h⟩,_⟩:=h;have h:=eq_of_heq h; subst h;cases hr with
   | rep hr=>cases hr
   | sub _ _ _ _ k m hk hl hv=>
    simp only [hb,Blk.kind,Kind.arr.injEq] at hk;obtain ⟨rfl,rfl⟩:=hk;have hlen:((l'.drop lo).take n).length=n:=by simp; omega
    obtain ⟨xs,ho,ha⟩:=hrb.row hb;have e1:=zDK _ _ (hcx.len T') (l'.drop lo) n;have e2:=zwA _ _ (hcx.len T') l' lo
    have hus:All2 (Rep cx (Fz e st.blk κ w) w) ((xs.drop (lo*zt cx T')).take (n*zt cx T')) (zcP cx T' ((l'.drop lo).take n)):=by
     unfold zcP; rw [e1,e2]; exact (ha.drop _).take _
    rcases ho.2 with ⟨hκ,h0⟩ | ⟨g,cap,cur,hκ,_,hg,hnc,_,_,htake⟩
    ·rw [hκ] at hv;unfold zow at hv;obtain ⟨b,c,rfl,rfl,_,hbc⟩:=hv;exact ⟨b,c,_,by rw [hlen],λh=>⟨by simp,hbc h⟩,hus,λ_ _ j u hu=>by simp at hu⟩
    ·rw [hκ] at hv;unfold zow at hv;rcases hv with rfl | ⟨rfl,_,b,c,rfl,hbc⟩
     ·refine ⟨_,_,_,by rw [hlen],by simp,hus,λad' had j u hu=> ?_⟩
      simp only [q0] at had; subst had;rw [q20] at hu;split at hu
      ·rw [q2c] at hu;have:=ho.cells (g:=g) (by rw [hκ]; rfl) _ u hu
       rw [zf5] at this
       rwa [zf5,zf5,q2e]
      ·cases hu
     ·exact ⟨b,c,_,by rw [hlen],λh=>⟨by simp,hbc h⟩,hus,λ_ _ j u hu=>by simp at hu⟩
   | subD _ _ _ _ hk=>simp [hb,Blk.kind] at hk
  ·cases h
 | _=>simp [zed] at h
theorem zAP {T T':Nat} {l:List (ty T)} {l':List (ty T')} (h:zCD T T' l=some l'):∃ he:T=T',l'=he ▸ l:=by
 unfold zCD at h;split at h
 ·rename_i he;simp only [q0] at h;exact ⟨he,h.symm⟩
 ·cases h
theorem z6o (hcx:CxOK P cx) {T el:Nat} {inf:TInfo} {tyr:TypeId} (hu:P.underlying T=some (.slice el)) (hinf:cx.ti el=some inf) (hz0:inf.size≠0) {F:Nat->Prop} {v x:Value} {l ys:List (ty el)}
  (hrow:zdp cx F w v el l) {ad:Option Addr} {cap:Nat} {us:List Value} (hx:x=.slice ad ys.length cap) (hnil:ad=none->ys=[]/\cap=0) (hus:All2 (Rep cx F w) us (zcP cx el ys))
  (hcell:∀ ad',ad=some ad'->∀ (j:Nat) u,us[j]? =some u->w.cell? (ad'.add j)=some u) (hreach:(l.length+ys.length)*inf.bytes<=zD) (hsmall:l.length+ys.length<=maxLen):
  ∃ v' w' xs,(Builtin.append_ #[T,T] tyr #[v,x]).run P w=.ok v' w'/\w.ownsRow 0 el (zt cx el) v l.length xs/\All2 (Rep cx F w) xs (zcP cx el l)/\w'.ownsRow 0 el (zt cx el) v' (l++ys).length (xs++us)/\w.grownBy w' (zbj v)/\
   ∀ b,zbj v'=some b->zbj v=some b\/w.heap.size<=b:=by
 obtain ⟨info,desc,zv,hi,hu2,hs,hbb,hz,hzc,hzl,hz1,hd⟩:=(hcx.ti el _ hinf).ok;have hk:zt cx el=inf.size:=by simp [zt,hinf]
 have hzs:zv.cells.size=inf.size:=by rw [<- q1h,hzc,hzl]
 obtain ⟨xs,ho,ha⟩:=hrow
 have hbo:v.ownBlock=zbj v:=by
  rcases ho.2 with ⟨rfl,_⟩ | ⟨g,cap',cur,rfl,_⟩ <;>rfl
 subst hx;cases ad with
 | none=>
  obtain ⟨rfl,rfl⟩:=hnil rfl;have hus0:us=[]:=hus.nil_left.1;subst hus0;have:=run_append_owned_none (P:=P) (w:=w) 0 T tyr el info (zt cx el) hu hi v l.length xs ho;exact ⟨v,w,xs,this,ho,ha,by simpa using ho,⟨rfl,rfl,rfl,qn _,λ_ _ _=>rfl⟩,λb hb=>.inl hb⟩
 | some ad'=>
  obtain ⟨v',w',hrun,hown,hg,_,hat⟩:=run_append_own_at (P:=P) w 0 T tyr el info zv (zt cx el) inf.bytes hu hi hz (by rw [hs,hk]) hbb (by rw [hzs,hk]) (by rw [hk]; omega) v l.length xs ho ad' ys.length cap us
   (by rw [hus.len,zUu hcx]) (hcell ad' rfl) (z3C hcx hus) hsmall (by unfold zD at hreach; omega) (q19 _)
  rw [hbo] at hg;refine ⟨v',w',xs,hrun,ho,ha,by rw [qf]; exact hown,hg,λb hb=> ?_⟩
  have hb':v'.ownBlock=some b:=by
   rcases hown.2 with ⟨rfl,_⟩ | ⟨g,cap',cur,rfl,_⟩
   ·simp [zbj] at hb
   ·exact hb
  rcases hat with h | h
  ·left; rw [<- hbo, <- h]; exact hb'
  ·right; rw [h] at hb'; simp at hb'; omega
theorem z7r {dst:Option Tmp} {v:AV ty} {n m:Nat} {nb mb:Blk ty} {fz rd:List Nat}:(st.app dst { val:=v,wr:=[(n,nb),(m,mb)],fz:=fz,rd:=rd }).blk=λj=>(gD .none (((zbY st.blks fz).set n nb).set m mb) j):=by funext j; unfold St.blk; rw [St.app_blks]; rfl
theorem zbin {args:Array Operand} {ts:Array TypeId} (hcx:CxOK P cx) (ho:o.op=.call { callee:=.builtin .append,args:=args,argTypes:=ts }) (h:aop cx o st=some d) (hf:RF cx e st κ a w):o.wp P a w (λa' w'=>R cx e (st.app o.dst d) a' w') Q:=by
 unfold aop ze8 at h;simp only [ho] at h;have hall:=zAN hf args.toList;have hex:=zvG (a:=a) ho;unfold zim at h;generalize hts:ts.toList=tl at h;generalize hvs:args.toList.map st.ev=vl at h hall
 match tl,vl,h,hall with
 | [T,T2],[sv,xv],h,hall=>
  obtain ⟨u,us',hus,hu,h'⟩:=hall.inv;obtain ⟨u2,us2,hus2,hu2,h2⟩:=h'.inv;have h20:us2=[]:=h2.nil_left.1;subst h20; subst hus2;simp only at h;split at h
  ·rename_i hTT;have hTT:T=T2:=qx hTT;subst hTT;have hts':ts=#[T,T]:=by apply Array.ext'; exact hts
   have hargs:args.map a.eval=#[u,u2]:=by apply Array.ext'; rw [q2t]; exact hus
   have run:∀ v' w',(Builtin.append_ #[T,T] o.type #[u,u2]).run P w=.ok v' w'->(execOp a.eval o).run P w=.ok (.value v') w':=by
    intro v' w' hv';rw [hex,hts',hargs];simp only [builtin,Sem.run_bind,hv',Result.andThen_ok,Sem.run_pure]
   unfold zs8 at h;split at h
   ·rename_i el sz bz zz dd hT hdst;have hund:=zjE hcx hT;split at h
    ·cases h
    ·rename_i inf hinf;split at h
     ·cases h
     ·rename_i hz0;rw [Bool.or_eq_false_iff] at hz0;obtain ⟨hz0,hb0⟩:=hz0;have hz0:inf.size≠0:=by intro h0; rw [h0] at hz0; cases hz0
      have hb0:1<=inf.bytes:=by
       rcases Nat.eq_zero_or_pos inf.bytes with h | h
       ·rw [h] at hb0; cases hb0
       ·exact h
      split at h
      ·cases h
      ·rename_i ys rd hsrc
       -- the source
       obtain ⟨ad,cap,us,hx,hnil,hur,hcell⟩:∃ ad cap us,u2=.slice ad ys.length cap/\(ad=none->ys=[]/\cap=0)/\All2 (Rep cx (Fz e st.blk κ w) w) us (zcP cx el ys)/\
         ∀ ad',ad=some ad'->∀ (j:Nat) u,us[j]? =some u->w.cell? (ad'.add j)=some u:=by
        split at hsrc
        ·simp only [q0,qe] at hsrc;obtain ⟨rfl,_⟩:=hsrc;exact ⟨none,0,[],zco hu2,λ_=>⟨rfl,rfl⟩,.nil,λ_ _ j u hu=>by simp at hu⟩
        ·simp only [q0,qe] at hsrc;obtain ⟨rfl,_⟩:=hsrc;exact ⟨_,_,[],zco hu2,by simp,.nil,λ_ _ j u hu=>by simp at hu⟩
        ·split at hsrc
         ·rename_i T3 ys3 rd3 hl;cases hcst:zCD T3 el ys3 with
          | none=>rw [hcst] at hsrc; cases hsrc
          | some ys4=>
           rw [hcst] at hsrc;simp only [qz,q0,qe] at hsrc;obtain ⟨rfl,_⟩:=hsrc;obtain ⟨rfl,rfl⟩:=zAP hcst;exact zYg hcx hf.rb hu2 hl
         ·cases hsrc
       split at h
       ·-- onto nil
        obtain ⟨hb,h⟩:=zfD h;obtain ⟨hfree,hreach⟩:=zki hb;simp only [qb] at hreach;simp only [q0] at h; subst h;obtain ⟨hnone,hlt⟩:=znv hfree;have hv:=zco hu;have hrow:zdp cx (Fz e st.blk κ w) w (.slice none 0 0) el ([]:List (ty el)):=⟨[],⟨by simp,.inl ⟨rfl,rfl⟩⟩,.nil⟩
        obtain ⟨v',w',xs,hrun,ho',ha,hown,hg,hblk⟩:=z6o (tyr:=o.type) hcx hund hinf hz0 hrow hx hnil hur hcell (by simpa using hreach) (by
         have:ys.length*1<=ys.length*inf.bytes:=Nat.mul_le_mul_left _ hb0;unfold zD at hreach;simp only [maxLen,qv];omega)
        have hxs:xs=[]:=by
         have:=ho'.1; simp at this; exact this
        subst hxs;simp only [q10] at hown;have hdr:w.drawn<=w'.drawn:=z9Z _ _ _ _ hrun
        have hst:=zwX (w':=w') (nb:=.arr el ys false) (v:=v') hf.rb hnone hlt hg.os hg.tape hg.output hg.size (λb hb=>hg.block b hb (by simp [zbj]))
         (λb hb=>⟨(hblk b hb).resolve_left (by simp [zbj]),zLM hown hb⟩)
         (λhc=>⟨us,hown,hur.imp λ_ _ h=>hc.rep' h⟩)
        refine zZ (v:=v') (w':=w') (run v' w' (by rw [hv]; exact hrun)) ⟨_,hf.put (κ':=λi=>if i=zQ dd then v' else κ i) ?_ ?_ (λ_=> ?_)⟩
        ·rw [zdK]; exact hst.1
        ·rw [zdK]; exact hst.2
        ·rw [zdK]
         have:=RepA.own (cx:=cx) (F:=Fz e (λj=>(gD .none ((zbY st.blks []).set (zQ dd) (.arr el ys false)) j)) (λi=>if i=zQ dd then v' else κ i) w') (w:=w')
          (kd:=λi=>((gD .none ((zbY st.blks []).set (zQ dd) (.arr el ys false)) i)).kind cx) (κ:=λi=>if i=zQ dd then v' else κ i) (zQ dd) (zt cx el) ys.length (by
           rw [zbI,if_pos ⟨rfl,by rw [zjA]; exact hlt⟩]; rfl)
         simpa using this
       ·-- onto a row
        rename_i id;split at h
        ·rename_i T4 l4 hbl hrdf;obtain ⟨hrdc,hfree⟩:=zki hrdf;split at h
         ·cases h
         ·rename_i l hcst;obtain ⟨hb,h⟩:=zfD h;simp only [qb] at hb;simp only [q0] at h; subst h;obtain ⟨rfl,rfl⟩:=zAP hcst;obtain ⟨hnone,hlt⟩:=znv hfree;have hbl0:(gD .none st.blks id)=.arr T4 l false:=hbl;have hidlt:id<st.blks.length:=zblC (cx:=cx) (by rw [hbl]; simp [Blk.kind])
          have hne:id≠zQ dd:=by
           intro he; rw [he] at hbl; rw [hnone] at hbl; cases hbl
          cases hu with
          | rep hu=>cases hu
          | own _ k m hk=>
           obtain ⟨v',w',xs,hrun,ho',ha,hown,hg,hblk⟩:=z6o (tyr:=o.type) hcx hund hinf hz0 (hf.rb.row hbl) hx hnil hur hcell hb (by
            have:(l.length+ys.length)*1<=(l.length+ys.length)*inf.bytes:=Nat.mul_le_mul_left _ hb0;unfold zD at hb;simp only [maxLen];omega)
           have huf:(st.blk id).unfz:=by rw [hbl]; rfl
           have hdr:w.drawn<=w'.drawn:=z9Z _ _ _ _ hrun
           have hst:=hf.rb.step (B':=λj=>(gD .none (((zbY st.blks []).set id .dead).set (zQ dd) (.arr T4 (l++ys) false)) j)) (κ':=λi=>if i=zQ dd then v' else κ i) (w':=w') (λi=>i=id\/i=zQ dd)
            hg.os hg.tape hg.output hg.size (λb hb2=>by
             by_cases hbb:zbj (κ id)=some b
             ·exact .inr ⟨id,.inl rfl,huf,hbb⟩
             ·exact .inl (hg.block b hb2 (λhh=>hbb hh.symm)))
            (λi hi=>by
             have h1:¬ i=id:=λhh=>hi (.inl hh)
             have h2:¬ i=zQ dd:=λhh=>hi (.inr hh)
             refine ⟨?_,by simp [h2]⟩
             change (gD .none (((zbY st.blks []).set id .dead).set (zQ dd) (.arr T4 (l++ys) false)) i)=st.blk i
             rw [zbI,if_neg (λhh=>h2 hh.1.symm),zbI,if_neg (λhh=>h1 hh.1.symm)]
             rfl)
            (λi hi hk2=>by
             rcases hi with rfl | rfl
             ·right
              change Blk.kind cx ((gD .none (((zbY st.blks []).set i .dead).set (zQ dd) (.arr T4 (l++ys) false)) i))=_
              rw [zbI,if_neg (λhh=>hne hh.1.symm),zbI,if_pos ⟨rfl,by rw [zjA]; exact hidlt⟩]
              rfl
             ·exact absurd (by rw [hnone]; rfl) hk2)
            (λi b hi hl hb2=>by
             rcases hi with rfl | rfl
             ·exfalso
              have:(gD .none (((zbY st.blks []).set i .dead).set (zQ dd) (.arr T4 (l++ys) false)) i)=.dead:=by
               rw [zbI,if_neg (λhh=>hne hh.1.symm),zbI,if_pos ⟨rfl,by rw [zjA]; exact hidlt⟩]
              rw [this] at hl;exact hl
             ·simp only [if_true] at hb2;refine ⟨zLM hown hb2, ?_⟩;rcases hblk b hb2 with h3 | h3
              ·exact .inl ⟨id,.inl rfl,huf,h3⟩
              ·exact .inr h3)
            (λi j b hi hj hl hu2 _ _=>by
             have dead:¬ ((gD .none (((zbY st.blks []).set id .dead).set (zQ dd) (.arr T4 (l++ys) false)) id)).live:=by
              rw [zbI,if_neg (λhh=>hne hh.1.symm),zbI,if_pos ⟨rfl,by rw [zjA]; exact hidlt⟩]
              exact λhh=>hh
             rcases hi with rfl | rfl
             ·exact absurd hl dead
             ·rcases hj with rfl | rfl
              ·exact absurd hu2.live dead
              ·rfl)
            (λi hi hc=>by
             rcases hi with rfl | rfl
             ·have:(gD .none (((zbY st.blks []).set i .dead).set (zQ dd) (.arr T4 (l++ys) false)) i)=.dead:=by
               rw [zbI,if_neg (λhh=>hne hh.1.symm),zbI,if_pos ⟨rfl,by rw [zjA]; exact hidlt⟩]
              rw [this]; trivial
             ·have:(gD .none (((zbY st.blks []).set id .dead).set (zQ dd) (.arr T4 (l++ys) false)) (zQ dd))=.arr T4 (l++ys) false:=by
               rw [zbI,if_pos ⟨rfl,by rw [List.length_set,zjA]; exact hlt⟩]
              rw [this];simp only [if_true];refine ⟨xs++us,hown, ?_⟩;unfold zcP;rw [List.flatMap_append];exact (ha.imp λ_ _ h=>hc.rep' h).append (hur.imp λ_ _ h=>hc.rep' h))
           refine zZ (v:=v') (w':=w') (run v' w' hrun) ⟨_,hf.put (κ':=λi=>if i=zQ dd then v' else κ i) ?_ ?_ (λ_=> ?_)⟩
           ·rw [z7r]; exact hst.1
           ·rw [z7r]; exact hst.2
           ·rw [z7r]
            have:=RepA.own (cx:=cx) (F:=Fz e (λj=>(gD .none (((zbY st.blks []).set id .dead).set (zQ dd) (.arr T4 (l++ys) false)) j)) (λi=>if i=zQ dd then v' else κ i) w') (w:=w')
             (kd:=λi=>((gD .none (((zbY st.blks []).set id .dead).set (zQ dd) (.arr T4 (l++ys) false)) i)).kind cx) (κ:=λi=>if i=zQ dd then v' else κ i) (zQ dd) (zt cx T4) (l++ys).length (by
              rw [zbI,if_pos ⟨rfl,by rw [List.length_set,zjA]; exact hlt⟩]; rfl)
            simpa using this
          | ownD _ _ hk=>simp [hbl,Blk.kind] at hk
        ·cases h
       ·cases h
   ·cases h
  ·have hargs2:args.map a.eval=#[u,u2]:=by apply Array.ext'; rw [q2t]; exact hus
   exact zbgI hcx (by apply Array.ext'; exact hts) hargs2 hu hu2 hex h hf
theorem zbcc:∀ (cs:List (AV ty)) (us:List Value) (ns:List Int),All2 (Rep cx (Fz e st.blk κ w) w) us cs->bytesOf cs=some ns->us=ns.map (Value.int .u8)
 | [],us,ns,h,hb=>by
  simp only [bytesOf,q0] at hb; subst hb;exact h.nil_left.1
 | c::cs,us,ns,h,hb=>by
  obtain ⟨u,us',rfl,hu,h'⟩:=h.inv;unfold bytesOf at hb;split at hb
  ·rename_i e; cases e
  ·rename_i n r e;simp only [qp] at e;obtain ⟨rfl,rfl⟩:=e;split at hb
   ·rename_i ns' hns;simp only [q0] at hb; subst hb;cases hu;rw [zbcc cs us' ns' h' hns]; rfl
   ·cases hb
  ·cases hb
theorem zbg4 {S D:Nat} {x:Operand} (hcx:CxOK P cx) (ho:o.op=.convert S D x) (h:aop cx o st=some d) (hf:RF cx e st κ a w):o.wp P a w (λa' w'=>R cx e (st.app o.dst d) a' w') Q:=by
 unfold aop ze8 at h;simp only [ho] at h;have hx:=zcq hf x;split at h
 ·rename_i k1 s1 b1 z1 k2 s2 b2 z2 k n hS hD hex;rw [hex] at hx;simp only [q0] at h; subst h;exact zZ (v:=.int k2 (k2.wrap n)) (w':=w) (by simp only [execOp,ho,zco hx,convert,zdJ (zEc hcx hS),zdJ (zEc hcx hD),Conv.intToInt,Sem.run_bind,Sem.run_pure,Result.andThen_ok]) (hf.val (.rep (.lit _)))
 ·rename_i s1 b1 z1 s2 b2 z2 s hS hD hex;rw [hex] at hx;simp only [q0] at h; subst h;exact zZ (v:=.string s) (w':=w) (by simp only [execOp,ho,zco hx,convert,zdJ (zyi hcx hS),zdJ (zyi hcx hD),Sem.run_bind,Sem.run_pure,Result.andThen_ok]) (hf.val (.rep (.lit _)))
 ·rename_i e1 s1 b1 z1 s2 b2 z2 hS hD;split at h
  ·rename_i s3 b3 z3 T' l rd he hl;split at h
   ·rename_i ns hk hns;simp only [q0] at h; subst h;simp only [qa] at hk;have hk1:=qx hk.1;have hk2:=qx hk.2;subst hk1 hk2;obtain ⟨ad,cap,us,hv,hnil,hrep,hcells⟩:=zYg hcx hf.rb hx hl;have hus:=zbcc _ us ns hrep hns;refine zZ (v:=.string (ns.foldl (λr n=>r.push (UInt8.ofNat n.toNat)) ByteArray.empty)) (w':=w) ?_ (hf.val (.rep (.lit _)))
    simp only [execOp,ho,hv,run_convert_bytes_string w S D e1 ad _ cap (zjE hcx hS) (zEc hcx he) (zyi hcx hD),Sem.run_bind];cases ad with
    | none=>
     obtain ⟨rfl,rfl⟩:=hnil rfl;simp only [List.flatMap_nil,bytesOf,q0] at hns;subst hns;simp [Conv.bytesToString,Sem.run_pure]
    | some ad=>
     have hlen:(loadCells ad l.length).run P w=.ok (ns.map (Value.int .u8)).toArray w:=by
      have h1:=run_loadCells_list (P:=P) w ad (ns.map (Value.int .u8)) (λj u hj=>hcells ad rfl j u (by rw [hus]; exact hj))
      have h2:(ns.map (Value.int .u8)).length=l.length:=by
       rw [<- hus,hrep.len,zUu hcx,show zt cx e1=1 by unfold zt; rw [he]]; omega
      rwa [h2] at h1
     rw [run_bytesToString w ad _ cap ns hlen]; rfl
   ·cases h
  ·cases h
 ·cases h
end
end
end Go.Ab
