/- Texts of this claim, joined (an interpreter of the code over typed data, and its soundness). -/
import Derived.Calls
import Derived.LoopN
import Derived.Orders
import Derived.Maps.AppendAt
import Derived.Below
import Derived.Laws.Entries
import Derived.Tactics
import Derived.MapKept
import Derived.Laws.OwnMore
import Derived.Laws.MakeOwn
import Derived.Laws.BytesString
set_option autoImplicit false
set_option linter.unusedVariables false
set_option linter.unusedSectionVars false
set_option linter.unusedSimpArgs false
/- A run of the machine's own steps never takes a draw back. -/
namespace Go.Ab
theorem qa {α:Type _} {a b:α}:(some a=some b)=(a=b):=Option.some.injEq a b
theorem qb {α:Type _} {β:Type _} {a c:α} {b d:β}:((a,b)=(c,d))=(a=c/\b=d):=Prod.mk.injEq a b c d
theorem qc {a b:Bool}:((a&&b)=true)=(a=true/\b=true):=Bool.and_eq_true a b
theorem qd {α:Type _} {b:α} {l:List α} {a:α}:a∈b::l↔a=b\/a∈l:=_root_.List.mem_cons
theorem qe {p:Prop} [Decidable p]:(decide p=true)=p:=_root_.decide_eq_true_eq
theorem qf {α:Type _} {a:α} {l:List α}:(a::l).length=l.length+1:=rfl
theorem qg {α:Type _} {a b:List α}:(a++b).length=a.length+b.length:=_root_.List.length_append
theorem qh {α:Type _} {a b:α}:a∈[b]↔a=b:=_root_.List.mem_singleton
theorem qi {α:Type _} {R:α->α->Prop} {a:α} {l:List α}:(a::l).Pairwise R↔(∀ b∈l,R a b)/\l.Pairwise R:=_root_.List.pairwise_cons
theorem qj {α:Type _} {a b:α} {l m:List α}:(a::l=b::m)=(a=b/\l=m):=List.cons.injEq a l b m
noncomputable section
theorem z3m (w:World) (a:Addr) (v:Value):(w.setCell a v).drawn=w.drawn:=by unfold World.setCell; rfl
theorem z4z (w:World) (a:Addr) (n:Nat):(w.freeze a n).drawn=w.drawn:=by
 unfold World.freeze; first | rfl | (split <;>rfl)
theorem zTD {α:Type}:∀ (x:Ask α) (w:World),w.drawn<=(w.ask x).2.drawn
 | .done a,w=>Nat.le_refl _
 | .ask what range k,w=>by
  unfold World.ask
  dsimp only
  split
  ·exact zTD (k 0) w
  ·exact Nat.le_trans (Nat.le_succ _) (zTD (k _) { w with drawn:=w.drawn+1 })
theorem z84 (w:World) (c:Sys):w.drawn<=(w.sys c).2.drawn:=by
 unfold World.sys;have h:=zTD (Kernel.perform c w.os) w;split
 ·exact Nat.le_refl _
 ·rename_i r os w' hq;rw [hq] at h;exact h
theorem z1r {P:Program} {w w':World} {a:Addr} {v:Value} {b:Bool} {l:List Addr} (h:w.farStore P a v b=.ok (w',l)):w.drawn<=w'.drawn:=by
 unfold World.farStore at h;split at h
 ·split at h
  ·rename_i r hr;simp only [Except.ok.injEq] at h;subst h;unfold World.viewStore at hr;simp only [bind,Except.bind,pure,Except.pure] at hr
   repeat' (split at hr)
   all_goals first
    | (cases hr; done)
    | (simp only [Except.ok.injEq,qb] at hr; obtain ⟨rfl,_⟩:=hr; exact Nat.le_refl _)
  ·cases h
 ·cases h
theorem z2h {P:Program} {α:Type}:∀ (m:Sem α) (w w':World) (v:α),m.run P w=.ok v w'->w.drawn<=w'.drawn:=by
 intro m;induction m with
 | pure a=>intro w w' v h; simp only [Sem.run,Result.ok.injEq] at h; rw [h.2]; exact Nat.le_refl _
 | load m a k ih=>
  intro w w' v h;simp only [Sem.run] at h;split at h
  ·exact ih _ w w' v h
  ·split at h
   ·exact ih _ w w' v h
   ·cases h
 | store m a u k ih=>
  intro w w' v h;cases u <;>simp only [Sem.run] at h <;>try (cases h; done)
  all_goals
   split at h
   ·split at h
    ·cases h
    ·have:=ih _ w' v h
     rwa [z3m] at this
   ·split at h
    ·rename_i w2 l hfs;exact Nat.le_trans (z1r hfs) (ih _ w' v h)
    ·cases h
 | new o k ih=>
  intro w w' v h;simp only [Sem.run] at h;exact ih _ { w with heap:=w.heap.push o } w' v h
 | shape r k ih=>
  intro w w' v h;simp only [Sem.run] at h;exact ih _ _ w' v h
 | freeze a n k ih=>
  intro w w' v h;simp only [Sem.run] at h;have:=ih _ w' v h
  rwa [z4z] at this
 | frozen a k ih=>
  intro w w' v h;simp only [Sem.run] at h;exact ih _ _ w' v h
 | getObj r k ih=>
  intro w w' v h;simp only [Sem.run] at h;split at h
  ·cases h
  ·exact ih _ _ w' v h
  ·cases h
 | setObj r o k ih=>
  intro w w' v h;simp only [Sem.run] at h;split at h
  ·cases h
  ·exact ih { w with heap:=w.heap.setIfInBounds r o } w' v h
  ·cases h
 | choose q k ih=>
  intro w w' v h;simp only [Sem.run] at h;split at h
  ·exact ih _ _ w' v h
  ·exact Nat.le_trans (Nat.le_succ _) (ih _ { w with drawn:=w.drawn+1 } w' v h)
 | sys c k ih=>
  intro w w' v h;simp only [Sem.run] at h;exact Nat.le_trans (z84 w c) (ih _ _ w' v h)
 | program k ih=>
  intro w w' v h;simp only [Sem.run] at h;exact ih _ _ w' v h
 | mark m k ih=>
  intro w w' v h;simp only [Sem.run] at h;exact ih _ w' v h
 | halt x=>intro w w' v h; simp only [Sem.run] at h; cases h
end
end Go.Ab
/- The abstract interpreter: values without addresses, blocks of the call's own, and the evaluation of the model's code over them in continuation form. Definitions alone. -/
namespace Go.Ab
noncomputable section
inductive AV (ty:Nat->Type):Type where
 | lit (v:Value)
 | sl (T:Nat) (l:List (ty T))
 | own (id:Nat)
 | sub (id lo n:Nat)
 | ptr (id off:Nat)
 | eptr (id ix off:Nat)
 | fptr (T:Nat) (x:ty T) (off:Nat)
 | bptr (cs:List (AV ty)) (off:Nat)
 | agg (cs:List (AV ty))
 | tup (vs:List (AV ty))
 | fn (f:Nat) (caps:List (AV ty))
 /-- A value of an interface type: is it there? -/
 | err (there:Bool)
 /-- A map of the call's own. -/
 | mp (id:Nat)
 | dead
inductive Blk (ty:Nat->Type):Type where
 | none
 | dead
 | box (cs:List (AV ty)) (fz:Bool)
 | arr (T:Nat) (l:List (ty T)) (fz:Bool)
 | mp (K V:Nat) (l:List (Value×ty V)) (fz:Bool)
structure St (ty:Nat->Type) where
 tmps:List (AV ty)
 blks:List (Blk ty)
inductive TD where
 | int (k:IntKind) | bool | str | slice (e:Nat) | struct (fs:List (Nat×Nat)) | iface | map (k v:Nat) | other
structure TInfo where
 desc:TD
 size:Nat
 bytes:Nat
 zero:List Value
inductive Arg (ty:Nat->Type):Type where
 | pure (a:AV ty)
 | own (T:Nat) (l:List (ty T))
inductive RV (ty:Nat->Type):Type where
 | pure (a:AV ty)
 | own (T:Nat) (l:List (ty T))
structure ARes (ty:Nat->Type) where
 vals:List (RV ty)
 upd:List (Option ((T:Nat)×List (ty T))):=[]
abbrev Spec (ty:Nat->Type):=List (Arg ty)->Option (Bool×ARes ty)
inductive LMode where
 | keep
 | pure
 | sl (e:Nat)
 | own (T:Nat)
 /-- a pointer to a box: these of its cells (offset, type of the elements) are lists of their own -/
 | boxOwn (l:List (Nat×Nat))
inductive Ex where
 | normal
 | exit (id:Nat)
 | ret
inductive LTree (ty:Nat->Type):Type where
 | done (ex:Ex) (vals:List (AV ty)) (bs:List (Blk ty))
 | ite (b:Bool) (t e:LTree ty)
abbrev zw8 (ty:Nat->Type):=List (AV ty)->List (Blk ty)->Option (Bool×LTree ty)
structure Cx (ty:Nat->Type) where
 ti:Nat->Option TInfo
 dflt:(T:Nat)->ty T
 enc:(T:Nat)->ty T->List (AV ty)
 dec:(T:Nat)->List (AV ty)->Option (ty T)
 spec:Nat->Option (Spec ty)
 io:Nat->List Bool
 eqs:Nat->List Value->List Value->Option Bool
 nt:Nat
 head:Nat->List (Nat×LMode)
 out:Nat->Ex->List (Nat×LMode)
 loops:Nat->Option (zw8 ty)
 /-- What holds of the package's variables, which lie in the first 'ng' blocks. -/
 ng:Nat:=0
 inv:World->Prop:=λ_=>True
 /-- Are the zyG followed? -/
 dr:Bool:=true
 /-- Callees whose arguments stand as they are (a nil slice stays one). -/
 raw:Nat->Bool:=λ_=>false
 /-- Pieces of code that several ways lead to, by their first region. -/
 joins:Nat->Option (zw8 ty):=λ_=>none
section
variable {ty:Nat->Type}
def AV.ofConst:Value->AV ty
 | .agg cs=>.agg (cs.toList.map .lit)
 | .func (.func f) first caps=>match first.toList,caps.toList with
  | [],[]=>.fn f []
  | _,_=>.lit (.func (.func f) first caps)
 | v=>.lit v
noncomputable def gO {α:Type _} (l:List α):Nat->Option α:=List.rec (motive:=λ_=>Nat->Option α) (λ_=>none) (λa _ ih n=>Nat.rec (motive:=λ_=>Option α) (some a) (λm _=>ih m) n) l
noncomputable def gD {α:Type _} (d:α) (l:List α):Nat->α:=List.rec (motive:=λ_=>Nat->α) (λ_=>d) (λa _ ih n=>Nat.rec (motive:=λ_=>α) a (λm _=>ih m) n) l
noncomputable def sT {α:Type _} (v:α) (l:List α):Nat->List α:=List.rec (motive:=λ_=>Nat->List α) (λ_=>[]) (λa r ih n=>Nat.rec (motive:=λ_=>List α) (v::r) (λm _=>a::ih m) n) l
theorem z7x {α:Type _}:∀ (l:List α) (n:Nat),gO l n=l[n]?
 | [],n=>rfl
 | a::r,0=>rfl
 | a::r,n+1=>by rw [List.getElem?_cons_succ, <- z7x r n]; rfl
theorem zie {α:Type _} (d:α):∀ (l:List α) (n:Nat),gD d l n=l.getD n d
 | [],n=>rfl
 | a::r,0=>rfl
 | a::r,n+1=>by rw [List.getD_cons_succ, <- zie d r n]; rfl
theorem zA5 {α:Type _} (v:α):∀ (l:List α) (n:Nat),sT v l n=l.set n v
 | [],n=>rfl
 | a::r,0=>rfl
 | a::r,n+1=>by rw [List.set_cons_succ, <- zA5 v r n]; rfl
@[simp] theorem zbea {α : Type _} (d a : α) (l : List α) (n : Nat) : gD d (a :: l) (n + 1) = gD d l n := rfl
@[simp] theorem zbeb {α : Type _} (d a : α) (l : List α) : gD d (a :: l) 0 = a := rfl
@[simp] theorem zbec {α : Type _} (d : α) (n : Nat) : gD d [] n = d := rfl
noncomputable def St.get (s:St ty) (t:Nat):AV ty:=gD .dead s.tmps t
theorem St.get_def (s:St ty) (t:Nat):s.get t=s.tmps.getD t .dead:=zie ..
noncomputable def St.setT (s:St ty) (t:Nat) (v:AV ty):St ty:={ s with tmps:=sT v s.tmps t }
theorem St.setT_def (s:St ty) (t:Nat) (v:AV ty):s.setT t v={ s with tmps:=s.tmps.set t v }:=by unfold St.setT; rw [zA5]
noncomputable def St.blk (s:St ty) (i:Nat):Blk ty:=gD .none s.blks i
theorem St.blk_def (s:St ty) (i:Nat):s.blk i=s.blks.getD i .none:=zie ..
def St.ev (s:St ty):Operand->AV ty
 | .tmp t=>s.get t
 | .const v=>.ofConst v
 | .func f=>.fn f []
 | .global _=>.dead
def zbA:Value->Bool
 | .agg _ | .tuple _=>false
 | _=>true
def zqQ (st:St ty) (id:Nat):Bool:=match st.blk id with | .box _ _=>true | .arr _ _ _=>true | _=>false
def AV.isCell (st:St ty):AV ty->Bool
 | .lit v=>zbA v
 | .own id | .sub id _ _ | .ptr id _ | .eptr id _ _=>zqQ st id
 | .agg _ | .tup _ | .dead | .mp _=>false
 | _=>true
def AV.cells (st:St ty) (v:AV ty):Option (List (AV ty)):=
 match v with
 | .agg cs=>match cs.all (AV.isCell st) with
  | true=>some cs
  | false=>none
 | v=>match v.isCell st with
  | true=>some [v]
  | false=>none
def AV.cellId:AV ty->List Nat
 | .own id | .sub id _ _ | .ptr id _ | .eptr id _ _=>[id]
 | _=>[]
def AV.ids1:AV ty->List Nat
 | .agg cs=>cs.flatMap AV.cellId
 | v=>v.cellId
def zUA (cs:List (AV ty)):List Nat:=cs.flatMap AV.cellId
def AV.int64:AV ty->Option Int
 | .lit (.int .i64 n)=>some n
 | _=>none
def Blk.freeze:Blk ty->Blk ty
 | .box cs _=>.box cs true
 | .arr T l _=>.arr T l true
 | .mp K V l _=>.mp K V l true
 | b=>b
structure Delta (ty:Nat->Type) where
 val:AV ty
 wr:List (Nat×Blk ty):=[]
 fz:List Nat:=[]
 rd:List Nat:=[]
def zcc (b:List (Blk ty)):List (Nat×Blk ty)->List (Blk ty)
 | []=>b
 | (i,x)::r=>zcc (b.set i x) r
def zbO (b:List (Blk ty)):List Nat->List (Blk ty)
 | []=>b
 | i::r=>zbO (b.set i (gD .none b i).freeze) r
def z7s (b:List (Blk ty)):List (Nat×Blk ty)->List (Blk ty)
 | []=>b
 | (i,x)::r=>z7s (sT x b i) r
def fzF (b:List (Blk ty)):List Nat->List (Blk ty)
 | []=>b
 | i::r=>fzF (sT (gD .none b i).freeze b i) r
theorem zMz:∀ (l:List (Nat×Blk ty)) (b:List (Blk ty)),z7s b l=zcc b l
 | [],b=>rfl
 | (i,x)::r,b=>by rw [z7s,zcc,zA5,zMz r]
theorem zDR:∀ (l:List Nat) (b:List (Blk ty)),fzF b l=zbO b l
 | [],b=>rfl
 | i::r,b=>by rw [fzF,zbO,zA5,zDR r]
def St.app (st:St ty) (dst:Option Tmp) (d:Delta ty):St ty:=
 { tmps:=(match dst with | some t=>sT d.val st.tmps t | none=>st.tmps),
   blks:=z7s (fzF st.blks d.fz) d.wr }
theorem St.app_blks (st:St ty) (dst:Option Tmp) (d:Delta ty):(st.app dst d).blks=zcc (zbO st.blks d.fz) d.wr:=by unfold St.app; rw [zMz,zDR]
theorem St.app_def (st:St ty) (dst:Option Tmp) (d:Delta ty):st.app dst d={ tmps:=(match dst with | some t=>st.tmps.set t d.val | none=>st.tmps),blks:=zcc (zbO st.blks d.fz) d.wr }:=by
 unfold St.app; rw [zMz,zDR]; cases dst <;>simp [zA5]
def ze7 (f:AV ty->Option (AV ty×List Nat)):List (AV ty)->Option (List (AV ty)×List Nat)
 | []=>some ([],[])
 | c::cs=>match f c with
  | none=>none
  | some (c',i)=>match ze7 f cs with
   | none=>none
   | some (cs',is)=>some (c'::cs',i++is)
def zbt (cx:Cx ty) (st:St ty):Nat->AV ty->Option (AV ty×List Nat)
 | 0,_=>none
 | n+1,v=>match v with
  | .lit v=>some (.lit v,[])
  | .err b=>some (.err b,[])
  | .sl T l=>some (.sl T l,[])
  | .own id=>match st.blk id with
   | .arr T l _=>some (.sl T l,[id])
   | _=>none
  | .sub id lo k=>match st.blk id with
   | .arr T l _=>some (.sl T ((l.drop lo).take k),[id])
   | _=>none
  | .ptr id off=>match st.blk id with
   | .box cs _=>match ze7 (zbt cx st n) cs with
    | some (cs',is)=>some (.bptr cs' off,id::is)
    | none=>none
   | _=>none
  | .eptr id ix off=>match st.blk id with
   | .arr T l _=>some (.fptr T (l.getD ix (cx.dflt T)) off,[id])
   | _=>none
  | .fptr T x off=>some (.fptr T x off,[])
  | .bptr cs off=>some (.bptr cs off,[])
  | .agg cs=>match ze7 (zbt cx st n) cs with
   | some (cs',is)=>some (.agg cs',is)
   | none=>none
  | .fn f cs=>match ze7 (zbt cx st n) cs with
   | some (cs',is)=>some (.fn f cs',is)
   | none=>none
  | .tup _=>none
  | .mp _=>none
  | .dead=>none
def zcP:Nat:=6
def size (cx:Cx ty) (T:Nat):Option Nat:=(cx.ti T).map (·.size)
def ztT (i:TInfo):Bool:=match i.desc with | .struct _=>true | _=>false
def cut (i:TInfo) (cs:List (AV ty)) (off:Nat):Option (AV ty):=
 match ztT i with
 | true=>match Nat.ble (off+i.size) cs.length with
  | true=>some (.agg ((cs.drop off).take i.size))
  | false=>none
 | false=>cs[off]?
def splice (cs:List (AV ty)) (off:Nat) (new:List (AV ty)):Option (List (AV ty)):=
 match Nat.ble (off+new.length) cs.length with
 | true=>some (cs.take off++new++cs.drop (off+new.length))
 | false=>none
def zd6 (cx:Cx ty) (st:St ty):AV ty->Option (List (AV ty)×Nat×List Nat)
 | .ptr id off=>match st.blk id with
  | .box cs _=>some (cs,off,[id])
  | _=>none
 | .eptr id ix off=>match st.blk id with
  | .arr T l _=>some (cx.enc T (l.getD ix (cx.dflt T)),off,[id])
  | _=>none
 | .fptr T x off=>some (cx.enc T x,off,[])
 | .bptr cs off=>some (cs,off,[])
 | _=>none
def shift (o:Nat):AV ty->Option (AV ty)
 | .ptr id off=>some (.ptr id (off+o))
 | .eptr id ix off=>some (.eptr id ix (off+o))
 | .fptr T x off=>some (.fptr T x (off+o))
 | .bptr cs off=>some (.bptr cs (off+o))
 | _=>none
def zdm (st:St ty):AV ty->Option (((T:Nat)×List (ty T))×List Nat)
 | .sl T l=>some (⟨T,l⟩,[])
 | .own id=>match st.blk id with
  | .arr T l _=>some (⟨T,l⟩,[id])
  | _=>none
 | .sub id lo n=>match st.blk id with
  | .arr T l _=>some (⟨T,(l.drop lo).take n⟩,[id])
  | _=>none
 | _=>none
def zyL (T T':Nat) (l:List (ty T)):Option (List (ty T')):=if h:T=T' then some (h ▸ l) else none
def z7O (op:BinOp) (k:IntKind) (x y:Int):Option (Bool×AV ty):=
 match op with
 | .add=>some (true,.lit (.int k (k.wrap (x+y))))
 | .sub=>some (true,.lit (.int k (k.wrap (x - y))))
 | .mul=>some (true,.lit (.int k (k.wrap (x*y))))
 | .quo=>some (!decide (y=0),.lit (.int k (k.wrap (x.tdiv y))))
 | .rem=>some (!decide (y=0),.lit (.int k (x.tmod y)))
 | .eql=>some (true,.lit (.bool (x==y)))
 | .neq=>some (true,.lit (.bool (x != y)))
 | .lss=>some (true,.lit (.bool (decide (x<y))))
 | .leq=>some (true,.lit (.bool (decide (x<=y))))
 | .gtr=>some (true,.lit (.bool (decide (x>y))))
 | .geq=>some (true,.lit (.bool (decide (x≥y))))
 | .shr=>some (!decide (y<0),.lit (.int k (x.fdiv (2 ^ (min y.toNat k.bits)))))
 | _=>none
def zbaB (op:BinOp) (x y:ByteArray):Option (Bool×AV ty):=
 match op with
 | .add=>some (decide (x.size+y.size<=9223372036854775807),.lit (.string (x++y)))
 | .eql=>some (true,.lit (.bool (x.toList==y.toList)))
 | .neq=>some (true,.lit (.bool (!(x.toList==y.toList))))
 | .lss=>some (true,.lit (.bool (Op.bytesLess x.toList y.toList)))
 | _=>none
def zEk:List (AV ty)->Option (List Value)
 | []=>some []
 | .lit v::r=>match zEk r with
  | some vs=>some (v::vs)
  | none=>none
 | _=>none
def zbau (cx:Cx ty) (op:BinOp) (T:Nat) (x y:AV ty):Option (Bool×AV ty):=
 match x,y with
 | .lit (.int k a),.lit (.int k' b)=>if k=k' then z7O op k a b else none
 | .lit (.string a),.lit (.string b)=>zbaB op a b
 | .lit (.bool a),.lit (.bool b)=>match cx.ti T with
  | some ⟨.bool,_,_,_⟩=>match op with
   | .eql=>some (true,.lit (.bool (a==b)))
   | .neq=>some (true,.lit (.bool (!(a==b))))
   | _=>none
  | _=>none
 | .agg a,.agg b=>match zEk a,zEk b with
  | some us,some vs=>match cx.eqs T us vs with
   | some r=>match op with
    | .eql=>some (true,.lit (.bool r))
    | .neq=>some (true,.lit (.bool (!r)))
    | _=>none
   | none=>none
  | _,_=>none
 | .lit (.slice a _ _),.lit (.slice none 0 0)=>match cx.ti T with
  | some ⟨.slice _,_,_,_⟩=>match op with
   | .eql=>some (true,.lit (.bool a.isNone))
   | .neq=>some (true,.lit (.bool (!a.isNone)))
   | _=>none
  | _=>none
 | .sl _ l,.lit (.slice none 0 0)=>match cx.ti T with
  | some ⟨.slice _,_,_,_⟩=>match op with
   | .eql=>some (!l.isEmpty,.lit (.bool false))
   | .neq=>some (!l.isEmpty,.lit (.bool true))
   | _=>none
  | _=>none
 | _,_=>none
def bytesOf:List (AV ty)->Option (List Int)
 | []=>some []
 | .lit (.int .u8 n)::r=>match bytesOf r with
  | some ns=>some (n::ns)
  | none=>none
 | _=>none
def zbaJ (cx:Cx ty) (op:BinOp) (T:Nat) (x:AV ty) (y:Operand):Option (AV ty):=
 match x,y with
 | .err b,.const .nilIface=>match cx.ti T with
  | some ⟨.iface,_,_,_⟩=>match op with
   | .eql=>some (.lit (.bool (!b)))
   | .neq=>some (.lit (.bool b))
   | _=>none
  | _=>none
 | _,_=>none
def zih (cx:Cx ty) (st:St ty) (fs:List (Nat×Nat)):List (AV ty)->List (Nat×AV ty)->Option (List (AV ty))
 | cs,[]=>some cs
 | cs,(i,v)::r=>match fs[i]? with
  | none=>none
  | some (off,T)=>match cx.ti T with
   | none=>none
   | some inf=>match v.cells st with
    | none=>none
    | some c=>match Nat.beq c.length inf.size with
     | false=>none
     | true=>match splice cs off c with
      | none=>none
      | some cs'=>zih cx st fs cs' r
def zlD (cx:Cx ty) (st:St ty) (e:Nat):Nat->List (Nat×AV ty)->Option (List (ty e)×List Nat)
 | _,[]=>some ([],[])
 | n,(i,v)::r=>match Nat.beq i n with
  | false=>none
  | true=>match v.cells st with
   | none=>none
   | some c=>match ze7 (zbt cx st zcP) c with
    | none=>none
    | some (c',ids)=>match cx.dec e c' with
     | none=>none
     | some x=>match zlD cx st e (n+1) r with
      | none=>none
      | some (xs,is)=>some (x::xs,ids++is)
def z0K (T:Nat):AV ty->Option (List (ty T))
 | .sl T' l=>zyL T' T l
 | .lit (.slice none 0 0)=>some []
 | _=>none
def z4a (cx:Cx ty) (T:Nat) (v:AV ty):Option (AV ty):=
 match cx.ti T with
 | some ⟨.slice e,_,_,_⟩=>match z0K e v with
  | some l=>some (.sl e l)
  | none=>none
 | some ⟨.struct _,_,_,_⟩=>match v with
  | .agg cs=>match cx.dec T cs with
   | some x=>some (.agg (cx.enc T x))
   | none=>none
  | _=>none
 | _=>some v
def zZP (cx:Cx ty):Option Nat->AV ty->Option (AV ty)
 | none,v=>some v
 | some T,v=>z4a cx T v
def zkZ (cx:Cx ty) (st:St ty):List Bool->List Nat->List (AV ty)->Option (List (Arg ty)×List Nat×List Nat)
 | _,_,[]=>some ([],[],[])
 | io,ts,v::vs=>match zkZ cx st io.tail ts.tail vs with
  | none=>none
  | some (as,fz,mv)=>match io.head? with
   | some true=>match v with
    | .own id=>match st.blk id with
     | .arr T l false=>some (.own T l::as,fz,id::mv)
     | _=>none
    | _=>none
   | _=>match zbt cx st zcP v with
    | none=>none
    | some (a,ids)=>match zZP cx ts.head? a with
     | none=>none
     | some a=>some (.pure a::as,ids++fz,mv)
def AV.flat:AV ty->Bool
 | .lit _=>true
 | .err _=>true
 | .agg cs=>cs.all λ| .lit _=>true | _=>false
 | _=>false
def RV.flat:RV ty->Bool
 | .pure a=>a.flat
 | _=>false
def ARes.flat (r:ARes ty):Bool:=r.vals.all RV.flat&&r.upd.all (·.isNone)
def zZ (id:Nat):List (RV ty)->List (AV ty)×List (Nat×Blk ty)
 | []=>([],[])
 | .pure a::r=>let (vs,ws):=zZ (id+1) r; (a::vs,ws)
 | .own T l::r=>let (vs,ws):=zZ (id+1) r; (.own id::vs,(id,.arr T l false)::ws)
def zwd:Option ((T:Nat)×List (ty T))->Blk ty
 | some ⟨T,l⟩=>.arr T l false
 | none=>.dead
def zfq (st:St ty):List Nat->List (Option ((T:Nat)×List (ty T)))->Option (List (Nat×Blk ty))
 | [],[]=>some []
 | id::ids,u::us=>match zfq st ids us with
  | none=>none
  | some r=>match u with
   | none=>some ((id,.dead)::r)
   | some ⟨T,l⟩=>match st.blk id with
    | .arr T' _ _=>match Nat.beq T T' with
     | true=>some ((id,.arr T l false)::r)
     | false=>none
    | _=>none
 | _,_=>none
def zMs (s:ByteArray) (i:Int):Int:=if h:i.toNat<s.size then ((s[i.toNat]'h).toNat:Int) else 0
def zbh:Nat:=70368744177664
section
variable {R:Type}
def zK (dst:Tmp):Nat:=4*dst
def zeY (st:St ty) (id:Nat):Bool:=match gO st.blks id with | some .none=>true | _=>false
theorem zGQ (st:St ty) (id:Nat):zeY st id=match st.blks[id]? with | some .none=>true | _=>false:=by unfold zeY; rw [z7x]
def zj3 (st:St ty):List (Nat×Blk ty)->Bool
 | []=>true
 | (i,_)::r=>zeY st i&&zj3 st r
def zfA:List Nat->Bool
 | []=>true
 | i::r=> !r.contains i&&zfA r
def zT1 (a b:List Nat):Bool:=a.all λi=> !b.contains i
def zbce:List (AV ty)->AV ty
 | [v]=>v
 | vs=>.tup vs
def zvR (cx:Cx ty) (st:St ty) (dst:Option Tmp) (f:Nat) (ts:List Nat) (vs:List (AV ty)) (K:Delta ty->Option R):Option R:=
 match cx.spec f with
 | none=>none
 | some s=>match zkZ cx st (cx.io f) (bif cx.raw f then [] else ts) vs with
  | none=>none
  | some (as,fz,mv)=>match zfA mv&&zT1 fz mv with
   | false=>none
   | true=>match s as with
    | none=>none
    | some (pre,res)=>
     bif pre then
      match zfq st mv res.upd with
      | none=>none
      | some us=>match dst with
       | some d=>match zj3 st (zZ (zK d) res.vals).2&&Nat.ble res.vals.length 3 with
        | true=>K { val:=zbce (zZ (zK d) res.vals).1
                    wr:=us++(zZ (zK d) res.vals).2
                    fz:=bif res.flat then [] else fz
                    rd:=fz }
        | false=>none
       | none=>match (zZ 0 res.vals).2 with
        | []=>K { val:=.dead,wr:=us,fz:=bif res.flat then [] else fz,rd:=fz }
        | _=>none
     else none
def zwC (st:St ty):Option Operand->Option (Option Int)
 | none=>some none
 | some x=>match (st.ev x).int64 with
  | some n=>some (some n)
  | none=>none
def zq1 (cx:Cx ty) (T:Nat) (st:St ty) (x:AV ty) (lo hi:Option Int) (K:Delta ty->Option R):Option R:=
 match x with
 | .lit (.string s)=>match cx.ti T with
  | some ⟨.str,_,_,_⟩=>
   bif decide (0<=lo.getD 0)&&decide (lo.getD 0<=hi.getD s.size)&&decide (hi.getD s.size<=s.size) then K { val:=.lit (.string (s.extract (lo.getD 0).toNat (hi.getD s.size).toNat)) } else none
  | _=>none
 | .lit (.slice none 0 0)=>match cx.ti T with
  | some ⟨.slice e,_,_,_⟩=>match (cx.ti e).isSome with
   | false=>none
   | true=>bif decide (lo.getD 0=0)&&decide (hi.getD 0=0) then K { val:=.lit (.slice none 0 0) } else none
  | _=>none
 | x=>match cx.ti T,zdm st x with
  | some ⟨.slice e,_,_,_⟩,some (⟨T',xs⟩,rd)=>
   match Nat.beq e T'&&(cx.ti e).isSome with
   | false=>none
   | true=>
    bif decide (0<=lo.getD 0)&&decide (lo.getD 0<=hi.getD xs.length)&&decide (hi.getD xs.length<=xs.length) then
     match x with
     | .sl _ _=>K { val:=.sl T' ((xs.drop (lo.getD 0).toNat).take ((hi.getD xs.length).toNat - (lo.getD 0).toNat)) }
     | .own id=>K { val:=.sub id (lo.getD 0).toNat ((hi.getD xs.length).toNat - (lo.getD 0).toNat),rd:=rd }
     | .sub id a _=>K { val:=.sub id (a+(lo.getD 0).toNat) ((hi.getD xs.length).toNat - (lo.getD 0).toNat),rd:=rd }
     | _=>none
    else none
  | _,_=>none
def zqj (cx:Cx ty) (st:St ty) (dst:Option Tmp) (T:Nat) (s x:AV ty) (K:Delta ty->Option R):Option R:=
 match cx.ti T,dst with
 | some ⟨.slice e,_,_,_⟩,some d=>match cx.ti e with
  | none=>none
  | some inf=>match Nat.beq inf.size 0||Nat.beq inf.bytes 0 with
   | true=>none
   | false=>
       match (match x with | .lit (.slice none 0 0)=>some ([],[]) | .lit (.slice (some _) 0 _)=>some ([],[]) | x=>match zdm st x with | some (⟨T',ys⟩,rd)=>(zyL T' e ys).map (·,rd) | none=>none:Option (List (ty e)×List Nat)) with
    | none=>none
    | some (ys,rd)=>
     match s with
     | .lit (.slice none 0 0)=>
      bif zeY st (zK d)&&decide (ys.length*inf.bytes<=zbh) then K { val:=.own (zK d),wr:=[(zK d,.arr e ys false)],rd:=rd } else none
     | .own id=>match st.blk id, !rd.contains id&&zeY st (zK d) with
      | .arr T' l false,true=>match zyL T' e l with
       | none=>none
       | some l=>bif decide ((l.length+ys.length)*inf.bytes<=zbh) then K { val:=.own (zK d),wr:=[(id,.dead),(zK d,.arr e (l++ys) false)],rd:=rd } else none
      | _,_=>none
     | _=>none
 | _,_=>none
def zst (cx:Cx ty) (st:St ty) (dst:Option Tmp) (T T':Nat) (s x:AV ty) (K:Delta ty->Option R):Option R:=
 match cx.ti T,cx.ti T',dst with
 | some ⟨.slice e,_,_,_⟩,some ⟨.int .i64,_,_,_⟩,some d=>match s,x with
  | .lit (.slice none 0 0),.lit (.int .i64 n)=>match cx.ti e with
   | some inf=>match cx.dec e (inf.zero.map .lit) with
    | some z=>bif zeY st (zK d)&&(decide (0<n)&&(decide (n*inf.bytes<=zbh)&&(decide (n<=zbh)&&(!Nat.beq inf.size 0)))) then K { val:=.own (zK d),wr:=[(zK d,.arr e (List.replicate n.toNat z) false)] } else none
    | none=>none
   | none=>none
  | _,_=>none
 | _,_,_=>none
def zzU (f:Int->Int->Int):IntKind->Int->List (AV ty)->Option (AV ty)
 | k,x,[]=>some (.lit (.int k x))
 | k,x,.lit (.int _ y)::r=>zzU f k (f x y) r
 | _,_,_=>none
def zgX (cx:Cx ty) (st:St ty) (dst:Option Tmp) (b:Builtin) (ts:List Nat) (vs:List (AV ty)) (K:Delta ty->Option R):Option R:=
 match b,ts,vs with
 | .len,T::_,[v]=>match cx.ti T with
  | some ⟨.str,_,_,_⟩=>match v with
   | .lit (.string s)=>K { val:=.lit (.int .i64 s.size) }
   | _=>none
  | some ⟨.slice _,_,_,_⟩=>match v with
   | .lit (.slice none 0 0)=>K { val:=.lit (.int .i64 0) }
   | .sub id _ n=>match st.blk id with
    | .arr _ _ _=>K { val:=.lit (.int .i64 n),rd:=[id] }
    | _=>none
   | v=>match zdm st v with
    | some (⟨_,l⟩,rd)=>K { val:=.lit (.int .i64 l.length),rd:=rd }
    | none=>none
  | some ⟨.map _ _,_,_,_⟩=>match v with
   | .mp id=>match st.blk id with
    | .mp _ _ l _=>K { val:=.lit (.int .i64 l.length),rd:=[id] }
    | _=>none
   | _=>none
  | _=>none
 | .append,[T,T'],[s,x]=>match Nat.beq T T' with
  | true=>zqj cx st dst T s x K
  | false=>zst cx st dst T T' s x K
 | .cap,T::_,[.lit (.slice none 0 0)]=>match cx.ti T with
  | some ⟨.slice _,_,_,_⟩=>K { val:=.lit (.int .i64 0) }
  | _=>none
 | .min,_,.lit (.int k x)::r=>match zzU (λx y=>if y<x then y else x) k x r with
  | some v=>K { val:=v }
  | none=>none
 | .max,_,.lit (.int k x)::r=>match zzU (λx y=>if y>x then y else x) k x r with
  | some v=>K { val:=v }
  | none=>none
 | .clear,[T],[.sub id lo n]=>match cx.ti T,st.blk id with
  | some ⟨.slice e,_,_,_⟩,.arr T' l false=>match Nat.beq e T',cx.ti e with
   | true,some inf=>match cx.dec T' (inf.zero.map .lit) with
    | none=>none
    | some z=>bif decide (lo+n<=l.length) then K { val:=.dead,wr:=[(id,.arr T' (l.take lo++List.replicate n z++l.drop (lo+n)) false)] } else none
   | _,_=>none
  | _,_=>none
 | _,_,_=>none
def z3P (cx:Cx ty) (K:Nat):AV ty->Option Value
 | .lit (.string s)=>match cx.ti K with
  | some ⟨.str,_,_,_⟩=>some (.string s)
  | _=>none
 | .lit (.int k n)=>match cx.ti K with
  | some ⟨.int k',_,_,_⟩=>if k=k' then some (.int k n) else none
  | _=>none
 | .agg cs=>match zEk cs with
  | some us=>match cx.eqs K us us with
   | some _=>some (.agg us.toArray)
   | none=>none
  | none=>none
 | _=>none
def zKK:Value->Value->Bool
 | .string a,.string b=>a.toList==b.toList
 | .int _ a,.int _ b=>a==b
 | .bool a,.bool b=>a==b
 | _,_=>false
def zt8:List Value->List Value->Bool
 | [],[]=>true
 | x::xs,y::ys=>zKK x y&&zt8 xs ys
 | _,_=>false
def zpr:Value->Value->Bool
 | .string a,.string b=>a==b
 | .int _ a,.int _ b=>a==b
 | .agg a,.agg b=>zt8 a.toList b.toList
 | _,_=>false
def zPp {V:Nat} (k:Value):List (Value×ty V)->Option (ty V)
 | []=>none
 | p::r=>bif zpr k p.1 then some p.2 else zPp k r
def zFQ {V:Nat} (k:Value):List (Value×ty V)->Bool
 | []=>false
 | p::r=>bif zpr k p.1 then true else zFQ k r
def zDb {V:Nat} (k:Value) (x:ty V):List (Value×ty V)->List (Value×ty V)
 | []=>[(k,x)]
 | p::r=>bif zpr k p.1 then (k,x)::r else p::zDb k x r
def zC9 (cx:Cx ty) (st:St ty) (T:Nat) (m k:AV ty) (ok:Bool) (K:Delta ty->Option R):Option R:=
 match cx.ti T,m with
 | some ⟨.map kt vt,_,_,_⟩,.mp id=>match st.blk id,cx.ti vt with
  | .mp kt' vt' l _,some inf=>match Nat.beq kt kt'&&Nat.beq vt vt'&& !ztT inf,z3P cx kt k,cx.dec vt' (inf.zero.map .lit) with
   | true,some key,some z=>match cx.enc vt' ((zPp key l).getD z) with
    | [c]=>match ok with
     | true=>K { val:=.tup [c,.lit (.bool (zFQ key l))],rd:=[id] }
     | false=>K { val:=c,rd:=[id] }
    | _=>none
   | _,_,_=>none
  | _,_=>none
 | _,_=>none
def zr6 (cx:Cx ty) (st:St ty) (T:Nat) (m k v:AV ty) (K:Delta ty->Option R):Option R:=
 match cx.ti T,m with
 | some ⟨.map kt vt,_,_,_⟩,.mp id=>match st.blk id with
  | .mp kt' vt' l false=>match Nat.beq kt kt'&&Nat.beq vt vt',z3P cx kt k,v with
   | true,some key,.lit u=>match cx.dec vt' [.lit u] with
    | some x=>match cx.enc vt' x with
     | [.lit _]=>K { val:=.dead,wr:=[(id,.mp kt' vt' (zDb key x l) false)] }
     | _=>none
    | none=>none
   | _,_,_=>none
  | _=>none
 | _,_=>none
def zed (cx:Cx ty) (o:Oper) (st:St ty) (K:Delta ty->Option R):Option R:=
 match o.op with
 | .move x | .assign x=>K { val:=st.ev x }
 | .pick c a b=>match st.ev c with
  | .lit (.bool t)=>K { val:=match t with | true=>st.ev a | false=>st.ev b }
  | _=>none
 | .alloc T=>match cx.ti T,o.dst with
  | some i,some d=>bif zeY st (zK d) then K { val:=.ptr (zK d) 0,wr:=[(zK d,.box (i.zero.map .lit) false)] } else none
  | _,_=>none
 | .box T x=>match cx.ti T,o.dst,(st.ev x).cells st with
  | some _,some d,some cs=>bif zeY st (zK d) then K { val:=.ptr (zK d) 0,wr:=[(zK d,.box cs false)],rd:=zUA cs } else none
  | _,_,_=>none
 | .build T parts=>match cx.ti T with
  | some ⟨.struct fs,_,_,z⟩=>match zih cx st fs (z.map .lit) (parts.toList.map λ(i,x)=>(i,st.ev x)) with
   | some cs=>K { val:=.agg cs,rd:=parts.toList.flatMap λp=>(st.ev p.2).ids1 }
   | none=>none
  | _=>none
 | .buildSlice T n parts=>match cx.ti T,o.dst with
  | some ⟨.slice e,_,_,_⟩,some d=>match zlD cx st e 0 (parts.toList.map λ(i,x)=>(i,st.ev x)),Nat.beq n parts.size,cx.ti e with
   | some (l,fz),true,some inf=>match Nat.ble (n*inf.size) 16777216&&(Nat.ble n 16777216&&zeY st (zK d)) with
    | true=>K { val:=.own (zK d),wr:=[(zK d,.arr e l false)],fz:=fz,rd:=fz }
    | false=>none
   | _,_,_=>none
  | _,_=>none
 | .load T x=>match cx.ti T,zd6 cx st (st.ev x) with
  | some i,some (cs,off,rd)=>match cut i cs off with
   | some v=>K { val:=v,rd:=rd }
   | none=>none
  | _,_=>none
 | .store T x y=>match cx.ti T,(st.ev y).cells st with
  | some i,some new=>match Nat.beq new.length i.size with
   | false=>none
   | true=>match st.ev x with
    | .ptr id off=>match st.blk id with
     | .box cs false=>match splice cs off new with
      | some cs'=>K { val:=.dead,wr:=[(id,.box cs' false)],rd:=zUA new }
      | none=>none
     | _=>none
    | .eptr id ix off=>match st.blk id,ze7 (zbt cx st zcP) new with
     | .arr T' l false,some (new',fz)=>match splice (cx.enc T' (l.getD ix (cx.dflt T'))) off new',fz.contains id with
      | some cs',false=>match cx.dec T' cs' with
       | some x'=>bif decide (ix<l.length) then K { val:=.dead,wr:=[(id,.arr T' (l.set ix x') false)],fz:=fz,rd:=fz } else none
       | none=>none
      | _,_=>none
     | _,_=>none
    | _=>none
  | _,_=>none
 | .nilCheck x=>match st.ev x with
  | .fn f cs=>K { val:=.fn f cs }
  | v=>match zd6 cx st v with
   | some (_,_,rd)=>K { val:=v,rd:=rd }
   | none=>none
 | .binOp op T x y _=>match zbaJ cx op T (st.ev x) y with
  | some v=>K { val:=v }
  | none=>match zbau cx op T (st.ev x) (st.ev y) with
  | some (b,v)=>bif b then K { val:=v } else none
  | none=>none
 | .unOp op _ x=>match op,st.ev x with
  | .not,.lit (.bool b)=>K { val:=.lit (.bool (!b)) }
  | .neg,.lit (.int k n)=>K { val:=.lit (.int k (k.wrap (0 - n))) }
  | _,_=>none
 | .convert S D x=>match cx.ti S,cx.ti D,st.ev x with
  | some ⟨.int _,_,_,_⟩,some ⟨.int k,_,_,_⟩,.lit (.int _ n)=>K { val:=.lit (.int k (k.wrap n)) }
  | some ⟨.str,_,_,_⟩,some ⟨.str,_,_,_⟩,.lit (.string s)=>K { val:=.lit (.string s) }
  | some ⟨.slice e,_,_,_⟩,some ⟨.str,_,_,_⟩,v=>match cx.ti e,zdm st v with
   | some ⟨.int .u8,sz,_,_⟩,some (⟨T',l⟩,rd)=>match Nat.beq sz 1&&Nat.beq e T',bytesOf (l.flatMap (cx.enc T')) with
    | true,some ns=>K { val:=.lit (.string (ns.foldl (λr n=>r.push (UInt8.ofNat n.toNat)) ByteArray.empty)),rd:=rd }
    | _,_=>none
   | _,_=>none
  | _,_,_=>none
 | .makeFunc (.func g) first caps=>match first.toList with
  | []=>K { val:=.fn g (caps.toList.map st.ev) }
  | _=>none
 | .makeSlice T n c=>match cx.ti T,o.dst,(st.ev n).int64,(st.ev c).int64 with
  | some ⟨.slice e,_,_,_⟩,some d,some n,some c=>match cx.ti e with
   | some inf=>match cx.dec e (inf.zero.map .lit) with
    | some z=>bif zeY st (zK d)&&decide (0<=n)&&decide (n<=c)&&decide (c*inf.bytes<=zbh)&&decide (c<=zbh) then K { val:=.own (zK d),wr:=[(zK d,.arr e (List.replicate n.toNat z) false)] } else none
    | none=>none
   | none=>none
  | _,_,_,_=>none
 | .slice T x lo hi none=>match zwC st lo,zwC st hi with
  | some lo,some hi=>zq1 cx T st (st.ev x) lo hi K
  | _,_=>none
 | .fieldAddr S x f=>match cx.ti S with
  | some ⟨.struct fs,_,_,_⟩=>match fs[f]? with
   | some (o,T)=>match cx.ti T,shift o (st.ev x),zd6 cx st (st.ev x) with
    | some i,some v,some (_,_,rd)=>match Nat.beq i.size 0 with
     | false=>K { val:=v,rd:=rd }
     | true=>none
    | _,_,_=>none
   | none=>none
  | _=>none
 | .field S x f=>match cx.ti S,st.ev x with
  | some ⟨.struct fs,_,_,_⟩,.agg cs=>match fs[f]? with
   | some (o,T)=>match cx.ti T with
    | some i=>match cut i cs o with
     | some v=>K { val:=v }
     | none=>none
    | none=>none
   | none=>none
  | _,_=>none
 | .indexAddr T x i=>match cx.ti T,(st.ev i).int64 with
  | some ⟨.slice e,_,_,_⟩,some i=>match st.ev x with
   | .sl T' l=>match Nat.beq e T'&&(cx.ti e).isSome with
    | true=>bif decide (0<=i)&&decide (i<l.length) then K { val:=.fptr T' (l.getD i.toNat (cx.dflt T')) 0 } else none
    | false=>none
   | .own id=>match st.blk id with
    | .arr T' l _=>match Nat.beq e T'&&(cx.ti e).isSome with
     | true=>bif decide (0<=i)&&decide (i<l.length) then K { val:=.eptr id i.toNat 0,rd:=[id] } else none
     | false=>none
    | _=>none
   | .sub id lo n=>match st.blk id with
    | .arr T' _ _=>match Nat.beq e T'&&(cx.ti e).isSome with
     | true=>bif decide (0<=i)&&decide (i<n) then K { val:=.eptr id (lo+i.toNat) 0,rd:=[id] } else none
     | false=>none
    | _=>none
   | _=>none
  | _,_=>none
 | .index T x i=>match cx.ti T,st.ev x,(st.ev i).int64 with
  | some ⟨.str,_,_,_⟩,.lit (.string s),some i=>bif decide (0<=i)&&decide (i<s.size) then K { val:=.lit (.int .u8 (zMs s i)) } else none
  | _,_,_=>none
 | .extract x i=>match st.ev x with
  | .tup vs=>match vs[i]? with
   | some v=>K { val:=v }
   | none=>none
  | _=>none
 | .makeMap T none=>match cx.ti T,o.dst with
  | some ⟨.map kt vt,_,_,_⟩,some d=>bif zeY st (zK d) then K { val:=.mp (zK d),wr:=[(zK d,.mp kt vt [] false)] } else none
  | _,_=>none
 | .lookup T m k ok=>zC9 cx st T (st.ev m) (st.ev k) ok K
 | .mapUpdate T m k v=>zr6 cx st T (st.ev m) (st.ev k) (st.ev v) K
 | .insert T m k v=>zr6 cx st T (st.ev m) (st.ev k) (st.ev v) K
 | .call c=>match c.callee with
  | .value f=>match st.ev f with
   | .fn g caps=>zvR cx st o.dst g c.argTypes.toList (c.args.toList.map st.ev++caps) K
   | _=>none
  | .builtin b=>zgX cx st o.dst b c.argTypes.toList (c.args.toList.map st.ev) K
  | _=>none
 | _=>none
def zZH (st:St ty) (t:Tmp) (K:St ty->Option R):Option R:=
 match st.get t with
 | .lit (.bool b)=>bif b then K (st.setT t (.lit (.bool true))) else K (st.setT t (.lit (.bool false)))
 | _=>K st
def zNJ:Delta ty:={ val:=.lit undef }
def z3I (cx:Cx ty) (o:Oper) (st:St ty) (K:Delta ty->St ty->Option R):Option R:=
 match o.op with
 | .pick (.tmp t) _ _=>zZH st t λst=>zed cx o st λd=>K d st
 | _=>zed cx o st λd=>K d st
def zYC (cx:Cx ty) (ops:Array Oper) (o:Oper) (st:St ty) (K:Delta ty->St ty->Option R):Option R:=
 match o.guard with
 | none=>z3I cx o st K
 | some (g,want)=>match (gO ops.toList g).bind (·.dst) with
  | none=>none
  | some t=>zZH st t λst=>match st.get t with
   | .lit (.bool b)=>bif (b==want) then z3I cx o st K else K zNJ st
   | .lit (.tuple _)=>K zNJ st
   | _=>none
def zzH (ps:List (List Nat)) (o:Oper):List Nat:=
 o.after.toList.flatMap λe=>bif Region.binds .any e then e.on::ps.getD e.on [] else []
def zw2:List (List Nat)->List Oper->List (List Nat)
 | ps,[]=>ps
 | ps,o::r=>zw2 (ps++[(zzH ps o).eraseDups]) r
def z3K (ops:List Oper):List (List Nat):=zw2 [] ops
def zHw:Nat->List Oper->Bool
 | _,[]=>true
 | i,o::r=>(o.after.all λe=> !Region.binds .any e||Nat.blt e.on i)&&zHw (i+1) r
structure Foot where
 wr:List Nat
 fz:List Nat
 rd:List Nat
 /-- It makes new blocks alone. -/
 nw:Bool:=false
def Delta.foot (d:Delta ty):Foot:=⟨d.wr.map (·.1),d.fz,d.rd,false⟩
def Delta.footN (d:Delta ty) (st:St ty):Foot:=⟨d.wr.map (·.1),d.fz,d.rd,zj3 st d.wr&&d.fz.isEmpty⟩
def zOZ (o:Oper):Bool:=match o.op with | .load _ _=>true | .fieldAddr _ _ _=>true | _=>false
def zy4 (o:Oper):Bool:=match o.op with
 | .load _ _=>true
 | .alloc _=>true
 | .box _ _=>true
 | .store _ _ _=>true
 | .fieldAddr _ _ _=>true
 | .indexAddr _ _ _=>true
 | .build _ _=>true
 | .buildSlice _ _ _=>true
 | .slice _ _ _ _ none=>true
 | .call c=>match c.callee with
  | .value _=>true
  | .builtin .append=>true
  | .builtin .len=>true
  | _=>false
 | _=>false
def Foot.sep (a b:Foot):Bool:=zT1 (a.wr++a.fz) (b.wr++(b.fz++b.rd))&&zT1 (b.wr++b.fz) (a.wr++(a.fz++a.rd))
def Foot.eff (a:Foot):Bool:= !(a.wr.isEmpty&&a.fz.isEmpty)
def Foot.empty (a:Foot):Bool:=a.wr.isEmpty&&a.fz.isEmpty&&a.rd.isEmpty
def Foot.free (a b:Foot):Bool:=(!a.eff&& !b.eff)||a.empty||b.empty
def zNC (ops:Array Oper) (o:Oper) (pre:List Nat) (f:Foot):List (Nat×Oper×Foot)->Bool
 | []=>true
 | (j,oj,fj)::r=>(pre.contains j||(oj.apart ops o&&(fj.free f||((zOZ oj&&(!fj.eff&&f.nw))||(zy4 oj&&(zy4 o&&fj.sep f))))))&&zNC ops o pre f r
def zUE (cx:Cx ty) (ops:Array Oper):List Oper->St ty->(St ty->Option R)->Option R
 | [],st,K=>K st
 | o::r,st,K=>zYC cx ops o st λd st=>zUE cx ops r (st.app o.dst d) K
def zC5 (cx:Cx ty) (ops:Array Oper) (ps:List (List Nat)):Nat->List Oper->List (Nat×Oper×Foot)->St ty->(St ty->Option R)->Option R
 | _,[],_,st,K=>K st
 | i,o::r,tr,st,K=>zYC cx ops o st λd st=>
  match zNC ops o (ps.getD i []) (d.footN st) tr with
  | true=>zC5 cx ops ps (i+1) r ((i,o,d.footN st)::tr) (st.app o.dst d) K
  | false=>none
def z3M (ops:Array Oper) (o:Oper) (pre:List Nat):List (Nat×Oper)->Bool
 | []=>true
 | (j,oj)::r=>(pre.contains j||oj.apart ops o)&&z3M ops o pre r
def zUI (ops:Array Oper) (ps:List (List Nat)):Nat->List Oper->List (Nat×Oper)->Bool
 | _,[],_=>true
 | i,o::r,tr=>z3M ops o (gD [] ps i) tr&&zUI ops ps (i+1) r ((i,o)::tr)
def z5a (o:Oper) (pre:List Nat) (f:Foot):List (Nat×Oper×Foot)->Bool
 | []=>true
 | (j,oj,fj)::r=>((fj.free f||((zOZ oj&&(!fj.eff&&f.nw))||(zy4 oj&&(zy4 o&&fj.sep f))))||pre.contains j)&&z5a o pre f r
def zEI (cx:Cx ty) (ops:Array Oper) (ps:List (List Nat)):Nat->List Oper->List (Nat×Oper×Foot)->St ty->(St ty->Option R)->Option R
 | _,[],_,st,K=>K st
 | i,o::r,tr,st,K=>zYC cx ops o st λd st=>
  match (d.footN st).empty with
  | true=>zEI cx ops ps (i+1) r tr (st.app o.dst d) K
  | false=>match z5a o (gD [] ps i) (d.footN st) tr with
   | true=>zEI cx ops ps (i+1) r ((i,o,d.footN st)::tr) (st.app o.dst d) K
   | false=>none
def zbdE (o:Oper):Bool:=match o.op with | .select ..=>false | _=>true
def z7J:Nat->AV ty->List Nat
 | 0,_=>[]
 | n+1,v=>match v with
  | .own id | .sub id _ _ | .ptr id _ | .eptr id _ _ | .mp id=>[id]
  | .agg cs | .fn _ cs | .tup cs=>cs.flatMap (z7J n)
  | _=>[]
def z9F:Blk ty->List Nat
 | .box cs _=>cs.flatMap (z7J zcP)
 | _=>[]
def z4S (st:St ty):Nat->List Nat->List Nat
 | 0,l=>l.eraseDups
 | n+1,l=>z4S st n (l++l.flatMap λi=>z9F (st.blk i)).eraseDups
def zOV (ren:List (Nat×Nat)) (i:Nat) (K:Nat->AV ty):AV ty:=
 match ren.lookup i with
 | some j=>K j
 | none=>.dead
def zDu (ren:List (Nat×Nat)):Nat->AV ty->AV ty
 | 0,_=>.dead
 | n+1,v=>match v with
  | .own id=>zOV ren id .own
  | .sub id lo k=>zOV ren id (.sub · lo k)
  | .ptr id off=>zOV ren id (.ptr · off)
  | .eptr id ix off=>zOV ren id (.eptr · ix off)
  | .mp id=>zOV ren id .mp
  | .agg cs=>.agg (cs.map (zDu ren n))
  | .tup cs=>.tup (cs.map (zDu ren n))
  | .fn f cs=>.fn f (cs.map (zDu ren n))
  | v=>v
def zIb (ren:List (Nat×Nat)):Blk ty->Blk ty
 | .box cs fz=>.box (cs.map (zDu ren zcP)) fz
 | b=>b
def zMY (t id:Nat):Nat->List (Nat×Nat)->St ty->Option (St ty)
 | _,[],st=>some st
 | k,(off,T)::r,st=>match st.blk id with
  | .box cs false=>match gD .dead cs off with
   | .lit (.slice none 0 0)=>match zeY st (zK t+k) with
    | true=>zMY t id (k+1) r { st with blks:=sT (.box (sT (.own (zK t+k)) cs off) false) (sT (.arr T [] false) st.blks (zK t+k)) id }
    | false=>none
   | .own j=>match st.blk j with
    | .arr T' _ false=>match Nat.beq T T' with
     | true=>zMY t id (k+1) r st
     | false=>none
    | _=>none
   | _=>none
  | _=>none
def zHE (cx:Cx ty) (st:St ty) (t:Nat):LMode->Option (St ty)
 | .keep=>some st
 | .pure=>match zbt cx st zcP (st.get t) with
  | some (v,ids)=>some { tmps:=sT v st.tmps t,blks:=fzF st.blks ids }
  | none=>none
 | .sl e=>match zbt cx st zcP (st.get t) with
  | some (v,ids)=>match z0K e v with
   | some l=>some { tmps:=sT (.sl e l) st.tmps t,blks:=fzF st.blks ids }
   | none=>none
  | none=>none
 | .own T=>match st.get t with
  | .lit (.slice none 0 0)=>match zeY st (zK t+3) with
   | true=>some { tmps:=sT (.own (zK t+3)) st.tmps t,blks:=sT (.arr T [] false) st.blks (zK t+3) }
   | false=>none
  | .own id=>match st.blk id with
   | .arr T' _ false=>match Nat.beq T T' with
    | true=>some st
    | false=>none
   | _=>none
  | _=>none
 | .boxOwn l=>match st.get t with
  | .ptr id _=>zMY t id 1 l st
  | _=>none
def zID (cx:Cx ty):List (Nat×LMode)->St ty->Option (St ty)
 | [],st=>some st
 | (t,m)::r,st=>match zHE cx st t m with
  | some st=>zID cx r st
  | none=>none
def zr2:Nat->Nat->List (Nat×AV ty)->List (AV ty)
 | _,0,_=>[]
 | t,n+1,[]=>.dead::zr2 (t+1) n []
 | t,n+1,(t',v)::r=>match Nat.beq t t' with
  | true=>v::zr2 (t+1) n r
  | false=>.dead::zr2 (t+1) n ((t',v)::r)
def zUT (nt:Nat) (live:List (Nat×LMode)) (vals:List (AV ty)) (bs:List (Blk ty)):St ty:=
 { tmps:=zr2 0 nt ((live.map (·.1)).zip vals),blks:=List.replicate (4*nt) .none++bs }
def zDI:List Nat->Bool
 | i::j::r=>Nat.blt i j&&zDI (j::r)
 | _=>true
def z3H (nt:Nat) (ids:List Nat):List (Nat×Nat):=ids.zip (List.range' (4*nt) ids.length)
def zr3 (st:St ty) (live:List (Nat×LMode)):List Nat:=z4S st 2 (live.flatMap λt=>z7J zcP (st.get t.1))
def canon (cx:Cx ty) (live:List (Nat×LMode)) (st:St ty):Option (List (AV ty)×List (Blk ty)):=
 match zID cx live st with
 | none=>none
 | some st=>
  match zfA (zr3 st live)&&zDI (live.map (·.1))&&Nat.beq st.tmps.length cx.nt with
  | true=>some (live.map λt=>zDu (z3H cx.nt (zr3 st live)) zcP (st.get t.1),(zr3 st live).map λi=>zIb (z3H cx.nt (zr3 st live)) (st.blk i))
  | false=>none
def zb4:Code->Nat
 | .region id _ _=>id
 | .seq a _=>zb4 a
 | .cond _ a _=>zb4 a
 | .block _ c=>zb4 c
 | .loop c=>zb4 c
 | .scope c=>zb4 c
 | _=>0
def zvM (K:Ex->List (AV ty)->List (Blk ty)->Option R):LTree ty->Option R
 | .done ex vals bs=>K ex vals bs
 | .ite b t e=>bif b then zvM K t else zvM K e
def zZK (cx:Cx ty) (id:Nat) (K:Ex->St ty->Option R) (ex:Ex) (vals:List (AV ty)) (bs:List (Blk ty)):Option R:=
 K ex (zUT cx.nt (cx.out id ex) vals bs)
def ztW (cx:Cx ty):Code->St ty->(Ex->St ty->Option R)->Option R
 | .skip,st,K=>K .normal st
 | .label _,st,K=>K .normal st
 | .region _ ops draw,st,K=>match draw with
  | false=>zUE cx ops ops.toList st (K .normal)
  | true=>match zHw 0 ops.toList&&(ops.toList.all zbdE&&zUI ops (z3K ops.toList) 0 ops.toList []) with
   | true=>zEI cx ops (z3K ops.toList) 0 ops.toList [] st (K .normal)
   | false=>none
 | .seq a b,st,K=>ztW cx a st λex st=>match ex with
  | .normal=>match cx.joins (zb4 b) with
   | none=>ztW cx b st K
   | some sp=>match canon cx (cx.head (zb4 b)) st with
    | some (vals,bs)=>match sp vals bs with
     | some (pre,t)=>bif pre then zvM (zZK cx (zb4 b) K) t else none
     | none=>none
    | none=>none
  | ex=>K ex st
 | .cond c a b,st,K=>match c with
  | .tmp t=>match st.get t with
   | .lit (.bool v)=>bif v then ztW cx a (st.setT t (.lit (.bool true))) K else ztW cx b (st.setT t (.lit (.bool false))) K
   | _=>none
  | _=>none
 | .block id c,st,K=>ztW cx c st λex st=>match ex with
  | .exit j=>match Nat.beq j id with
   | true=>K .normal st
   | false=>K (.exit j) st
  | ex=>K ex st
 | .loop c,st,K=>match cx.loops (zb4 c),canon cx (cx.head (zb4 c)) st with
  | some sp,some (vals,bs)=>match sp vals bs with
   | some (pre,t)=>bif pre then zvM (zZK cx (zb4 c) K) t else none
   | none=>none
  | _,_=>none
 | .exit id,st,K=>K (.exit id) st
 | .ret,st,K=>K .ret st
 | .scope c,st,K=>ztW cx c st K
 | _,_,_=>none
def zP5 (cx:Cx ty) (id:Nat) (H:List (AV ty)->List (Blk ty)->Option R) (K:Ex->List (AV ty)->List (Blk ty)->Option R) (ex:Ex) (st:St ty):Option R:=
 match ex with
 | .normal=>match canon cx (cx.head id) st with
  | some (vals,bs)=>H vals bs
  | none=>none
 | ex=>match canon cx (cx.out id ex) st with
  | some (vals,bs)=>K ex vals bs
  | none=>none
def zAR (cx:Cx ty) (c:Code) (H:List (AV ty)->List (Blk ty)->Option R) (K:Ex->List (AV ty)->List (Blk ty)->Option R) (vals:List (AV ty)) (bs:List (Blk ty)):Option R:=
 ztW cx c (zUT cx.nt (cx.head (zb4 c)) vals bs) (zP5 cx (zb4 c) H K)
def zPf (cx:Cx ty) (c:Code) (K:Ex->List (AV ty)->List (Blk ty)->Option R):Nat->List (AV ty)->List (Blk ty)->Option R
 | 0,_,_=>none
 | n+1,vals,bs=>zAR cx c (zPf cx c K n) K vals bs
end
def zAN (cx:Cx ty) (c:Code) (vals:List (AV ty)) (bs:List (Blk ty)) (t:LTree ty):Prop:=
 ∃ n,∀ (R:Type) (K:Ex->List (AV ty)->List (Blk ty)->Option R),zPf cx c K n vals bs=zvM K t
theorem zAN.next {cx:Cx ty} {c:Code} {vals vals':List (AV ty)} {bs bs':List (Blk ty)} {t:LTree ty}
  (h:∀ (R:Type) (H:List (AV ty)->List (Blk ty)->Option R) K,zAR cx c H K vals bs=H vals' bs') (h':zAN cx c vals' bs' t):zAN cx c vals bs t:=by
 obtain ⟨n,hn⟩:=h';exact ⟨n+1,λR K=>(h R _ K).trans (hn R K)⟩
theorem zAN.out {cx:Cx ty} {c:Code} {vals:List (AV ty)} {bs:List (Blk ty)} {t:LTree ty}
  (h:∀ (R:Type) (H:List (AV ty)->List (Blk ty)->Option R) K,zAR cx c H K vals bs=zvM K t):zAN cx c vals bs t:=
 ⟨1,λR K=>h R _ K⟩
def z8q (cx:Cx ty) (c:Code) (vals:List (AV ty)) (bs:List (Blk ty)) (t:LTree ty):Prop:=
 ∀ (R:Type) (K:Ex->List (AV ty)->List (Blk ty)->Option R),zAR cx c (λ_ _=>none) K vals bs=zvM K t
inductive RMode where
 | pure
 | own (T:Nat)
 /-- as it stands (a nil slice stays one) -/
 | raw
structure Sig where
 res:List RMode
 upd:List Bool:=[]
def Arg.av (top:Nat):List (Arg ty)->List (AV ty)×List (Blk ty)
 | []=>([],[])
 | .pure a::r=>let (vs,bs):=Arg.av top r; (a::vs,bs)
 | .own T l::r=>let (vs,bs):=Arg.av (top+1) r; (.own top::vs,.arr T l false::bs)
def start (nt:Nat) (args:List (Arg ty)):St ty:=
 let (vs,bs):=Arg.av (4*nt) args
 { tmps:=vs++List.replicate (nt - vs.length) (.lit undef),blks:=List.replicate (4*nt) .none++bs }
def zPb (cx:Cx ty) (st:St ty):List RMode->List Nat->List (AV ty)->Option (List (RV ty)×List Nat×List Nat)
 | [],_,[]=>some ([],[],[])
 | m::ms,ts,v::vs=>match zPb cx st ms ts.tail vs with
  | none=>none
  | some (rs,fz,mv)=>match m with
   | .pure=>match zbt cx st zcP v with
    | some (a,ids)=>match zZP cx ts.head? a with
     | some a=>some (.pure a::rs,ids++fz,mv)
     | none=>none
    | none=>none
   | .raw=>match zbt cx st zcP v with
    | some (a,ids)=>some (.pure a::rs,ids++fz,mv)
    | none=>none
   | .own T=>match v with
    | .lit (.slice none 0 0)=>some (.own T []::rs,fz,mv)
    | .own id=>match st.blk id with
     | .arr T' l false=>match Nat.beq T T' with
      | true=>some (.own T' l::rs,fz,id::mv)
      | false=>none
     | _=>none
    | .sub id 0 n=>match st.blk id with
     | .arr T' l false=>match Nat.beq T T' with
      | true=>some (.own T' (l.take n)::rs,fz,id::mv)
      | false=>none
     | _=>none
    | _=>none
 | _,_,_=>none
def zZr (st:St ty):List Nat->List Bool->Option (List (Option ((T:Nat)×List (ty T)))×List Nat)
 | _,[]=>some ([],[])
 | ts,u::us=>match zZr st ts.tail us with
  | none=>none
  | some (r,mv)=>match u with
   | false=>some (none::r,mv)
   | true=>match ts with
    | []=>none
    | t::_=>match st.get t with
     | .own id=>match st.blk id with
      | .arr T l false=>some (some ⟨T,l⟩::r,id::mv)
      | _=>none
     | _=>none
def zw6:Nat->List (Arg ty)->List Nat
 | _,[]=>[]
 | t,.own _ _::r=>t::zw6 (t+1) r
 | t,.pure _::r=>zw6 (t+1) r
def z0b (cx:Cx ty) (st:St ty):ResultVar->Option (AV ty)
 | .tmp t=>some (st.get t)
 | .cell a T=>match cx.ti T,zd6 cx st (st.get a) with
  | some i,some (cs,off,_)=>cut i cs off
  | _,_=>none
def zEB (cx:Cx ty) (st:St ty):List ResultVar->Option (List (AV ty))
 | []=>some []
 | r::rs=>match z0b cx st r,zEB cx st rs with
  | some v,some vs=>some (v::vs)
  | _,_=>none
def zSU (cx:Cx ty) (sg:Sig) (ots:List Nat) (ts:List Nat) (rs:List ResultVar) (st:St ty):Option (ARes ty):=
 match zEB cx st rs with
 | none=>none
 | some avs=>match zPb cx st sg.res ts avs,zZr st ots sg.upd with
 | some (vs,fz,mv),some (us,mu)=>match zfA (mv++mu)&&zT1 fz (mv++mu) with
  | true=>some ⟨vs,us⟩
  | false=>none
 | _,_=>none
def zdT (cx:Cx ty) (fn:Func) (c:Code) (sg:Sig) (args:List (Arg ty)):Option (ARes ty):=
 ztW cx c (start fn.ntmps args) λex st=>match ex with
  | .exit _=>none
  | _=>zSU cx sg (zw6 0 args) fn.resultTypes.toList fn.results.toList st
end
end
end Go.Ab
/- What abstract values mean in a world: the relation between a state of the abstract interpreter and a frame and a world of the machine, and the laws by which it is kept. -/
namespace Go.Ab
noncomputable section
variable {ty:Nat->Type}
structure All2 {α β:Type} (R:α->β->Prop) (us:List α) (cs:List β):Prop where
 len:us.length=cs.length
 at_:∀ (j:Nat) u c,us[j]? =some u->cs[j]? =some c->R u c
def zct (cx:Cx ty) (T:Nat) (l:List (ty T)):List (AV ty):=l.flatMap (cx.enc T)
inductive Rep (cx:Cx ty) (F:Nat->Prop) (w:World):Value->AV ty->Prop where
 | lit (v:Value):Rep cx F w v (.lit v)
 | slE (a:Option Addr) (c T:Nat) (hn:a=none->c=0):Rep cx F w (.slice a 0 c) (.sl T [])
 | errN:Rep cx F w .nilIface (.err false)
 | errS (t:TypeId) (u:Value):Rep cx F w (.iface t u) (.err true)
 | sl (b off cap T:Nat) (l:List (ty T)) (us:List Value) (hF:F b) (hcap:l.length<=cap) (hlen:us.length=(zct cx T l).length)
   (hc:∀ (j:Nat) u,us[j]? =some u->w.cell? ⟨b,off+j,none⟩=some u) (hr:∀ (j:Nat) u c,us[j]? =some u->(zct cx T l)[j]? =some c->Rep cx F w u c):
   Rep cx F w (.slice (some ⟨b,off,none⟩) l.length cap) (.sl T l)
 | fptr (b off0 off T:Nat) (x:ty T) (us:List Value) (hF:F b) (hlen:us.length=(cx.enc T x).length)
   (hc:∀ (j:Nat) u,us[j]? =some u->w.cell? ⟨b,off0+j,none⟩=some u) (hr:∀ (j:Nat) u c,us[j]? =some u->(cx.enc T x)[j]? =some c->Rep cx F w u c):
   Rep cx F w (.pointer (some ⟨b,off0+off,none⟩)) (.fptr T x off)
 | bptr (b off:Nat) (cs:List (AV ty)) (us:List Value) (hF:F b) (hlen:us.length=cs.length)
   (hc:∀ (j:Nat) u,us[j]? =some u->w.cell? ⟨b,j,none⟩=some u) (hr:∀ (j:Nat) u c,us[j]? =some u->cs[j]? =some c->Rep cx F w u c):
   Rep cx F w (.pointer (some ⟨b,off,none⟩)) (.bptr cs off)
 | agg (vs:List Value) (cs:List (AV ty)) (hlen:vs.length=cs.length) (hr:∀ (j:Nat) u c,vs[j]? =some u->cs[j]? =some c->Rep cx F w u c):Rep cx F w (.agg vs.toArray) (.agg cs)
 | fn (f:Nat) (vs:List Value) (cs:List (AV ty)) (hlen:vs.length=cs.length) (hr:∀ (j:Nat) u c,vs[j]? =some u->cs[j]? =some c->Rep cx F w u c):Rep cx F w (.func (.func f) #[] vs.toArray) (.fn f cs)
theorem Rep.mono {cx:Cx ty} {F F':Nat->Prop} {w w':World} (h:∀ b,F b->F' b/\w'.heap[b]? =w.heap[b]?) {v:Value} {a:AV ty} (hr:Rep cx F w v a):Rep cx F' w' v a:=by
 induction hr with
 | lit v=>exact .lit v
 | slE a c T hn=>exact .slE a c T hn
 | errN=>exact .errN
 | errS t u=>exact .errS t u
 | sl b off cap T l us hF hcap hlen hc hr ih=>
  exact .sl b off cap T l us (h b hF).1 hcap hlen (λj u hu=>(World.cell?_of_block (a:=⟨b,off+j,none⟩) (h b hF).2).trans (hc j u hu)) ih
 | fptr b off0 off T x us hF hlen hc hr ih=>
  exact .fptr b off0 off T x us (h b hF).1 hlen (λj u hu=>(World.cell?_of_block (a:=⟨b,off0+j,none⟩) (h b hF).2).trans (hc j u hu)) ih
 | bptr b off cs us hF hlen hc hr ih=>
  exact .bptr b off cs us (h b hF).1 hlen (λj u hu=>(World.cell?_of_block (a:=⟨b,j,none⟩) (h b hF).2).trans (hc j u hu)) ih
 | agg vs cs hlen hr ih=>exact .agg vs cs hlen ih
 | fn f vs cs hlen hr ih=>exact .fn f vs cs hlen ih
inductive Kind where
 | none
 | dead
 | box
 | arr (k n:Nat)
 | mp
def zp (cx:Cx ty) (T:Nat):Nat:=match cx.ti T with | some i=>i.size | none=>0
def Blk.kind (cx:Cx ty):Blk ty->Kind
 | .none=>.none
 | .dead=>.dead
 | .box _ _=>.box
 | .arr T l _=>.arr (zp cx T) l.length
 | .mp _ _ _ _=>.mp
def zmp (k lo n:Nat) (row v:Value):Prop:=
 match row with
 | .slice (some a) _ cap=>v=.slice (some (a.add (lo*k))) n (cap - lo)\/(n=0/\0<lo/\∃ b c,v=.slice b 0 c/\(b=none->c=0))
 | _=>∃ b c,v=.slice b n c/\n=0/\(lo=0->v=row)/\(b=none->c=0)
inductive RepA (cx:Cx ty) (F:Nat->Prop) (w:World) (kd:Nat->Kind) (κ:Nat->Value):Value->AV ty->Prop where
 | rep {v:Value} {a:AV ty} (h:Rep cx F w v a):RepA cx F w kd κ v a
 | own (id k n:Nat) (h:kd id=.arr k n):RepA cx F w kd κ (κ id) (.own id)
 | ownD (v:Value) (id:Nat) (h:kd id=.dead):RepA cx F w kd κ v (.own id)
 | sub (v:Value) (id lo n k m:Nat) (h:kd id=.arr k m) (hl:lo+n<=m) (hv:zmp k lo n (κ id) v):RepA cx F w kd κ v (.sub id lo n)
 | subD (v:Value) (id lo n:Nat) (h:kd id=.dead):RepA cx F w kd κ v (.sub id lo n)
 | ptr (id off b:Nat) (h:kd id=.box) (hb:κ id=.pointer (some ⟨b,0,none⟩)):RepA cx F w kd κ (.pointer (some ⟨b,off,none⟩)) (.ptr id off)
 | ptrD (v:Value) (id off:Nat) (h:kd id=.dead):RepA cx F w kd κ v (.ptr id off)
 | eptr (id ix off b k m n cap:Nat) (h:kd id=.arr k m) (hi:ix<m) (hb:κ id=.slice (some ⟨b,0,none⟩) n cap):RepA cx F w kd κ (.pointer (some ⟨b,ix*k+off,none⟩)) (.eptr id ix off)
 | eptrD (v:Value) (id ix off:Nat) (h:kd id=.dead):RepA cx F w kd κ v (.eptr id ix off)
 | agg (vs:List Value) (cs:List (AV ty)) (hlen:vs.length=cs.length) (hr:∀ (j:Nat) u c,vs[j]? =some u->cs[j]? =some c->RepA cx F w kd κ u c):RepA cx F w kd κ (.agg vs.toArray) (.agg cs)
 | tup (vs:List Value) (cs:List (AV ty)) (hlen:vs.length=cs.length) (hr:∀ (j:Nat) u c,vs[j]? =some u->cs[j]? =some c->RepA cx F w kd κ u c):RepA cx F w kd κ (.tuple vs.toArray) (.tup cs)
 | fn (f:Nat) (vs:List Value) (cs:List (AV ty)) (hlen:vs.length=cs.length) (hr:∀ (j:Nat) u c,vs[j]? =some u->cs[j]? =some c->RepA cx F w kd κ u c):RepA cx F w kd κ (.func (.func f) #[] vs.toArray) (.fn f cs)
 | mp (id:Nat) (h:kd id=.mp):RepA cx F w kd κ (κ id) (.mp id)
 | mpD (v:Value) (id:Nat) (h:kd id=.dead):RepA cx F w kd κ v (.mp id)
 | dead (v:Value):RepA cx F w kd κ v .dead
theorem RepA.mono {cx:Cx ty} {F F':Nat->Prop} {w w':World} {kd kd':Nat->Kind} {κ κ':Nat->Value} (h:∀ b,F b->F' b/\w'.heap[b]? =w.heap[b]?)
  (hk:∀ id,kd id≠.none->(kd' id=kd id/\κ' id=κ id)\/kd' id=.dead) {v:Value} {a:AV ty} (hr:RepA cx F w kd κ v a):RepA cx F' w' kd' κ' v a:=by
 induction hr with
 | rep hr=>exact .rep (hr.mono h)
 | own id k n hid=>
  rcases hk id (by rw [hid]; simp) with ⟨h1,h2⟩ | h1
  ·rw [<- h2]; exact .own id k n (h1.trans hid)
  ·exact .ownD _ id h1
 | ownD v id hid=>
  rcases hk id (by rw [hid]; simp) with ⟨h1,h2⟩ | h1
  ·exact .ownD _ id (h1.trans hid)
  ·exact .ownD _ id h1
 | sub v id lo n k m hid hl hv=>
  rcases hk id (by rw [hid]; simp) with ⟨h1,h2⟩ | h1
  ·exact .sub v id lo n k m (h1.trans hid) hl (h2 ▸ hv)
  ·exact .subD _ id lo n h1
 | subD v id lo n hid=>
  rcases hk id (by rw [hid]; simp) with ⟨h1,h2⟩ | h1
  ·exact .subD _ id lo n (h1.trans hid)
  ·exact .subD _ id lo n h1
 | ptr id off b hid hb=>
  rcases hk id (by rw [hid]; simp) with ⟨h1,h2⟩ | h1
  ·exact .ptr id off b (h1.trans hid) (h2.trans hb)
  ·exact .ptrD _ id off h1
 | ptrD v id off hid=>
  rcases hk id (by rw [hid]; simp) with ⟨h1,h2⟩ | h1
  ·exact .ptrD _ id off (h1.trans hid)
  ·exact .ptrD _ id off h1
 | eptr id ix off b k m n cap hid hi hb=>
  rcases hk id (by rw [hid]; simp) with ⟨h1,h2⟩ | h1
  ·exact .eptr id ix off b k m n cap (h1.trans hid) hi (h2.trans hb)
  ·exact .eptrD _ id ix off h1
 | eptrD v id ix off hid=>
  rcases hk id (by rw [hid]; simp) with ⟨h1,h2⟩ | h1
  ·exact .eptrD _ id ix off (h1.trans hid)
  ·exact .eptrD _ id ix off h1
 | agg vs cs hlen hr ih=>exact .agg vs cs hlen ih
 | tup vs cs hlen hr ih=>exact .tup vs cs hlen ih
 | fn f vs cs hlen hr ih=>exact .fn f vs cs hlen ih
 | mp id hid=>
  rcases hk id (by rw [hid]; simp) with ⟨h1,h2⟩ | h1
  ·rw [<- h2]; exact .mp id (h1.trans hid)
  ·exact .mpD _ id h1
 | mpD v id hid=>
  rcases hk id (by rw [hid]; simp) with ⟨h1,h2⟩ | h1
  ·exact .mpD _ id (h1.trans hid)
  ·exact .mpD _ id h1
 | dead v=>exact .dead v
structure Env where
 w0:World
 F:Nat->Prop
 OP:Nat->Prop
structure Env.OK (e:Env):Prop where
 F:∀ b,e.F b->b<e.w0.heap.size/\¬ e.OP b
 OP:∀ b,e.OP b->b<e.w0.heap.size
def zba:Value->Option Nat
 | .slice (some a) _ _=>some a.block
 | .pointer (some a)=>some a.block
 | .map (some r)=>some r
 | _=>none
def Blk.unfz:Blk ty->Prop
 | .box _ fz=>fz=false
 | .arr _ _ fz=>fz=false
 | .mp _ _ _ fz=>fz=false
 | _=>False
def Fz (e:Env) (B:Nat->Blk ty) (κ:Nat->Value) (w:World) (b:Nat):Prop:=
 (e.F b\/e.OP b\/e.w0.heap.size<=b)/\b<w.heap.size/\∀ id,(B id).unfz->zba (κ id)≠some b
def zcW (cx:Cx ty) (F:Nat->Prop) (w:World) (v:Value) (T:Nat) (l:List (ty T)):Prop:=
 ∃ xs,w.ownsRow 0 T (zp cx T) v l.length xs/\All2 (Rep cx F w) xs (zct cx T l)
def zKb (cx:Cx ty) (V:Nat) (x:MapEntry) (p:Value×ty V):Prop:=x.key=p.1/\cx.enc V p.2=[.lit x.val]
def zsI (cx:Cx ty) (K:Nat):Value->Prop
 | .string _=>∃ s b z,cx.ti K=some ⟨.str,s,b,z⟩
 | .int k _=>∃ s b z,cx.ti K=some ⟨.int k,s,b,z⟩
 | .agg a=>cx.eqs K a.toList a.toList=some true
 | _=>False
def zKF (cx:Cx ty) (F:Nat->Prop) (w:World) (kd:Nat->Kind) (κ:Nat->Value) (v:Value):Blk ty->Prop
 | .none=>True
 | .dead=>True
 | .box cs _=>∃ b cur t,v=.pointer (some ⟨b,0,none⟩)/\w.heap[b]? =some (.cells cur t (0,0))/\All2 (RepA cx F w kd κ) cur.toList cs
 | .arr T l _=>zcW cx F w v T l
 | .mp K V l _=>∃ b es clock,v=.map (some b)/\w.heap[b]? =some (.map es clock)/\All2 (zKb cx V) es.toList l/\∀ p∈l,zsI cx K p.1
def Blk.live:Blk ty->Prop
 | .box _ _=>True
 | .arr _ _ _=>True
 | .mp _ _ _ _=>True
 | _=>False
theorem Blk.unfz.live {b:Blk ty} (h:b.unfz):b.live:=by cases b <;>simp_all [Blk.unfz,Blk.live]
theorem Blk.live_kind {cx:Cx ty} {b:Blk ty}:b.live↔b.kind cx≠.none/\b.kind cx≠.dead:=by cases b <;>simp [Blk.kind,Blk.live]
structure GOK (cx:Cx ty) (w:World) (OP:Nat->Prop):Prop where
 inv:cx.inv w
 big:∀ b,OP b->cx.ng<=b
 size:cx.ng<=w.heap.size
structure RB (cx:Cx ty) (e:Env) (B:Nat->Blk ty) (κ:Nat->Value) (w:World):Prop where
 os:w.os=e.w0.os
 tape:w.tape=e.w0.tape
 output:w.output=e.w0.output
 drawn:cx.dr=true->e.w0.drawn<=w.drawn
 size:e.w0.heap.size<=w.heap.size
 keep:∀ b,b<e.w0.heap.size->¬ e.OP b->w.heap[b]? =e.w0.heap[b]?
 blk:∀ id,zKF cx (Fz e B κ w) w (λi=>(B i).kind cx) κ (κ id) (B id)
 sep:∀ i j b,(B i).live->(B j).unfz->zba (κ i)=some b->zba (κ j)=some b->i=j
 mine:∀ i b,(B i).unfz->zba (κ i)=some b->e.OP b\/e.w0.heap.size<=b
 old:∀ i b,(B i).live->zba (κ i)=some b->(e.OP b\/e.w0.heap.size<=b)/\b<w.heap.size
 g:GOK cx e.w0 e.OP
theorem RB.fz {cx:Cx ty} {e:Env} {B:Nat->Blk ty} {κ:Nat->Value} {w:World} (h:RB cx e B κ w) {i b:Nat} (hl:(B i).live)
  (hb:zba (κ i)=some b) (hn:¬ (B i).unfz):Fz e B κ w b:=
 ⟨.inr (h.old i b hl hb).1,(h.old i b hl hb).2,λj hj hbj=>hn ((h.sep i j b hl hj hb hbj) ▸ hj)⟩
structure Compat (cx:Cx ty) (e:Env) (B:Nat->Blk ty) (κ:Nat->Value) (w:World) (B':Nat->Blk ty) (κ':Nat->Value) (w':World):Prop where
 fz:∀ b,Fz e B κ w b->Fz e B' κ' w' b/\w'.heap[b]? =w.heap[b]?
 kd:∀ id,(B id).kind cx≠.none->((B' id).kind cx=(B id).kind cx/\κ' id=κ id)\/(B' id).kind cx=.dead
theorem Compat.rep {cx:Cx ty} {e:Env} {B B':Nat->Blk ty} {κ κ':Nat->Value} {w w':World} (h:Compat cx e B κ w B' κ' w') {v:Value} {a:AV ty}
  (hr:RepA cx (Fz e B κ w) w (λi=>(B i).kind cx) κ v a):RepA cx (Fz e B' κ' w') w' (λi=>(B' i).kind cx) κ' v a:=hr.mono h.fz h.kd
theorem Compat.rep' {cx:Cx ty} {e:Env} {B B':Nat->Blk ty} {κ κ':Nat->Value} {w w':World} (h:Compat cx e B κ w B' κ' w') {v:Value} {a:AV ty}
  (hr:Rep cx (Fz e B κ w) w v a):Rep cx (Fz e B' κ' w') w' v a:=hr.mono h.fz
theorem All2.imp {α β:Type} {R R':α->β->Prop} {us:List α} {cs:List β} (h:All2 R us cs) (hi:∀ u c,R u c->R' u c):All2 R' us cs:=
 ⟨h.len,λj u c hu hc=>hi u c (h.at_ j u c hu hc)⟩
theorem zXG {w w':World} {e size:Nat} {v:Value} {n:Nat} {xs:List Value} (h:w.ownsRow 0 e size v n xs) (hb:∀ b,zba v=some b->w'.heap[b]? =w.heap[b]?):w'.ownsRow 0 e size v n xs:=by
 refine ⟨h.1, ?_⟩;rcases h.2 with hn | ⟨g,cap,cur,rfl,hbb,hg,rest⟩
 ·exact .inl hn
 ·exact .inr ⟨g,cap,cur,rfl,hbb,(hb g rfl).trans hg,rest⟩
theorem zHb {w:World} {e size:Nat} {v:Value} {n:Nat} {xs:List Value} (h:w.ownsRow 0 e size v n xs) {b:Nat} (hb:zba v=some b):b<w.heap.size:=by
 rcases h.2 with ⟨rfl,_⟩ | ⟨g,cap,cur,rfl,_,hg,_⟩
 ·simp [zba] at hb
 ·simp [zba] at hb; subst hb; exact (Array.getElem?_eq_some_iff.1 hg).1
theorem zKF.keep {cx:Cx ty} {F F':Nat->Prop} {w w':World} {kd kd':Nat->Kind} {κ κ':Nat->Value} {v:Value} {b:Blk ty} (h:zKF cx F w kd κ v b)
  (hh:b.live->∀ g,zba v=some g->w'.heap[g]? =w.heap[g]?) (hr:∀ v a,RepA cx F w kd κ v a->RepA cx F' w' kd' κ' v a) (hr':∀ v a,Rep cx F w v a->Rep cx F' w' v a):zKF cx F' w' kd' κ' v b:=by
 cases b with
 | none=>trivial
 | dead=>trivial
 | box cs fz=>
  obtain ⟨g,cur,t,rfl,hg,ha⟩:=h;exact ⟨g,cur,t,rfl,(hh trivial g rfl).trans hg,ha.imp hr⟩
 | arr T l fz=>
  obtain ⟨xs,ho,ha⟩:=h;exact ⟨xs,zXG ho (hh trivial),ha.imp hr'⟩
 | mp K V l fz=>
  obtain ⟨g,es,clock,rfl,hg,ha,hk⟩:=h;exact ⟨g,es,clock,rfl,(hh trivial g rfl).trans hg,ha,hk⟩
theorem RB.step {cx:Cx ty} {e:Env} {B B':Nat->Blk ty} {κ κ':Nat->Value} {w w':World} (h:RB cx e B κ w) (ti:Nat->Prop)
  (hos:w'.os=w.os) (htape:w'.tape=w.tape) (hout:w'.output=w.output) (hsize:w.heap.size<=w'.heap.size)
  (hheap:∀ b,b<w.heap.size->w'.heap[b]? =w.heap[b]? \/∃ id,ti id/\(B id).unfz/\zba (κ id)=some b)
  (hsame:∀ id,¬ ti id->B' id=B id/\κ' id=κ id)
  (hkd:∀ id,ti id->(B id).kind cx≠.none->((B' id).kind cx=(B id).kind cx/\κ' id=κ id)\/(B' id).kind cx=.dead)
  (hnew:∀ id b,ti id->(B' id).live->zba (κ' id)=some b->b<w'.heap.size/\((∃ id0,ti id0/\(B id0).unfz/\zba (κ id0)=some b)\/w.heap.size<=b))
  (hsep:∀ i j b,ti i->ti j->(B' i).live->(B' j).unfz->zba (κ' i)=some b->zba (κ' j)=some b->i=j)
  (hblk:∀ id,ti id->Compat cx e B κ w B' κ' w'->zKF cx (Fz e B' κ' w') w' (λi=>(B' i).kind cx) κ' (κ' id) (B' id))
  (hdr:cx.dr=true->w.drawn<=w'.drawn:=by first | exact λ_=>Nat.le_refl _ | assumption | exact λ_=>by assumption):
  RB cx e B' κ' w'/\Compat cx e B κ w B' κ' w':=by
 have hfz:∀ b,Fz e B κ w b->Fz e B' κ' w' b/\w'.heap[b]? =w.heap[b]? :=by
  intro b ⟨h1,h2,h3⟩;refine ⟨⟨h1,by omega,λid hid hb=> ?_⟩, ?_⟩
  ·by_cases hti:ti id
   ·rcases (hnew id b hti hid.live hb).2 with ⟨id0,_,hu0,hb0⟩ | hge
    ·exact h3 id0 hu0 hb0
    ·omega
   ·obtain ⟨hB,hκ⟩:=hsame id hti;exact h3 id (hB ▸ hid) (hκ ▸ hb)
  ·rcases hheap b h2 with hh | ⟨id,_,hu,hb⟩
   ·exact hh
   ·exact absurd hb (h3 id hu)
 have hc:Compat cx e B κ w B' κ' w':=by
  refine ⟨hfz,λid hid=> ?_⟩
  by_cases hti:ti id
  ·exact hkd id hti hid
  ·obtain ⟨hB,hκ⟩:=hsame id hti;exact .inl ⟨by rw [hB],hκ⟩
 refine ⟨⟨hos.trans h.os,htape.trans h.tape,hout.trans h.output,λhd=>Nat.le_trans (h.drawn hd) (hdr hd),Nat.le_trans h.size hsize,λb hb hop=> ?_,λid=> ?_,λi j b hi hj hbi hbj=> ?_,λi b hi hb=> ?_,λi b hi hb=> ?_,h.g⟩,hc⟩
 ·rw [<- h.keep b hb hop];rcases hheap b (Nat.lt_of_lt_of_le hb h.size) with hh | ⟨id,_,hu,hbb⟩
  ·exact hh
  ·rcases h.mine id b hu hbb with h' | h'
   ·exact absurd h' hop
   ·omega
 ·by_cases hti:ti id
  ·exact hblk id hti hc
  ·obtain ⟨hB,hκ⟩:=hsame id hti;rw [hB,hκ];refine (h.blk id).keep (λhl g hg=> ?_) (λv a=>hc.rep) (λv a=>hc.rep')
   rcases hheap g (h.old id g hl hg).2 with hh | ⟨id0,ht0,hu0,hb0⟩
   ·exact hh
   ·exact absurd (h.sep id id0 g hl hu0 hg hb0) (λheq=>hti (heq ▸ ht0))
 ·by_cases hti:ti i <;>by_cases htj:ti j
  ·exact hsep i j b hti htj hi hj hbi hbj
  ·obtain ⟨hB,hκ⟩:=hsame j htj;rw [hB] at hj; rw [hκ] at hbj;rcases (hnew i b hti hi hbi).2 with ⟨id0,ht0,hu0,hb0⟩ | hge
   ·exact absurd (h.sep id0 j b hu0.live hj hb0 hbj) (λheq=>htj (heq ▸ ht0))
   ·have:=(h.old j b hj.live hbj).2; omega
  ·obtain ⟨hB,hκ⟩:=hsame i hti;rw [hB] at hi; rw [hκ] at hbi;rcases (hnew j b htj hj.live hbj).2 with ⟨id0,ht0,hu0,hb0⟩ | hge
   ·exact absurd (h.sep i id0 b hi hu0 hbi hb0) (λheq=>hti (heq ▸ ht0))
   ·have:=(h.old i b hi hbi).2; omega
  ·obtain ⟨hB,hκ⟩:=hsame i hti;obtain ⟨hB',hκ'⟩:=hsame j htj;exact h.sep i j b (hB ▸ hi) (hB' ▸ hj) (hκ ▸ hbi) (hκ' ▸ hbj)
 ·by_cases hti:ti i
  ·rcases (hnew i b hti hi.live hb).2 with ⟨id0,_,hu0,hb0⟩ | hge
   ·exact h.mine id0 b hu0 hb0
   ·exact .inr (Nat.le_trans h.size hge)
  ·obtain ⟨hB,hκ⟩:=hsame i hti;exact h.mine i b (hB ▸ hi) (hκ ▸ hb)
 ·by_cases hti:ti i
  ·refine ⟨?_,(hnew i b hti hi hb).1⟩;rcases (hnew i b hti hi hb).2 with ⟨id0,_,hu0,hb0⟩ | hge
   ·exact h.mine id0 b hu0 hb0
   ·exact .inr (Nat.le_trans h.size hge)
  ·obtain ⟨hB,hκ⟩:=hsame i hti;have:=h.old i b (hB ▸ hi) (hκ ▸ hb);exact ⟨this.1,by omega⟩
structure RF (cx:Cx ty) (e:Env) (st:St ty) (κ:Nat->Value) (a:Act) (w:World):Prop where
 rb:RB cx e st.blk κ w
 defers:a.defers=[]
 size:a.tmps.size=st.tmps.length
 tmps:∀ t,RepA cx (Fz e st.blk κ w) w (λi=>(st.blk i).kind cx) κ (a.tmps.getD t undef) (st.get t)
def R (cx:Cx ty) (e:Env) (st:St ty) (a:Act) (w:World):Prop:=∃ κ,RF cx e st κ a w
end
end Go.Ab
/- Values: what is made free of the call's own blocks, and the cells behind an address. -/
namespace Go.Ab
noncomputable section
variable {ty:Nat->Type}
theorem zN9 {α β:Type} (f:α->List β) (k:Nat) (hk:∀ x,(f x).length=k):∀ (l:List α) (i j:Nat),j<k->(l.flatMap f)[i*k+j]? =(l[i]?).bind λx=>(f x)[j]?
 | [],i,j,_=>by simp
 | x::l,0,j,hj=>by
  simp only [List.flatMap_cons,Nat.zero_mul,Nat.zero_add,List.getElem?_cons_zero,Option.bind_some];rw [List.getElem?_append_left (by rw [hk]; exact hj)]
 | x::l,i+1,j,hj=>by
  simp only [List.flatMap_cons,List.getElem?_cons_succ];rw [List.getElem?_append_right (by rw [hk]; have:=Nat.succ_mul i k; simp only [Nat.succ_eq_add_one] at this; omega),hk]
  rw [show (i+1)*k+j - k=i*k+j by have:=Nat.succ_mul i k; simp only [Nat.succ_eq_add_one] at this; omega]
  exact zN9 f k hk l i j hj
theorem zPG {α β:Type} (f:α->List β) (k:Nat) (hk:∀ x,(f x).length=k) (l:List α):(l.flatMap f).length=l.length*k:=by
 induction l with
 | nil=>simp
 | cons x l ih=>simp only [List.flatMap_cons,qg,hk,ih,qf,Nat.succ_mul]; omega
theorem zs7 {α β:Type} (f:α->List β) (k:Nat) (hk:∀ x,(f x).length=k) (l:List α) (n:Nat):(l.drop n).flatMap f=(l.flatMap f).drop (n*k):=by
 induction n generalizing l with
 | zero=>simp
 | succ n ih=>
  cases l with
  | nil=>simp
  | cons x l=>
   simp only [List.drop_succ_cons,List.flatMap_cons,ih];have hm:(n+1)*k=n*k+k:=Nat.succ_mul n k;rw [List.drop_append,List.drop_eq_nil_of_le (as:=f x) (by rw [hk]; omega),List.nil_append,hk,hm,Nat.add_sub_cancel]
theorem zzw {α β:Type} (f:α->List β) (k:Nat) (hk:∀ x,(f x).length=k) (l:List α) (n:Nat):(l.take n).flatMap f=(l.flatMap f).take (n*k):=by
 induction n generalizing l with
 | zero=>simp
 | succ n ih=>
  cases l with
  | nil=>simp
  | cons x l=>
   simp only [List.take_succ_cons,List.flatMap_cons,ih];have hm:(n+1)*k=n*k+k:=Nat.succ_mul n k;rw [List.take_append,List.take_of_length_le (l:=f x) (by rw [hk]; omega),hk,hm,Nat.add_sub_cancel]
theorem All2.nil {α β:Type} {R:α->β->Prop}:All2 R [] []:=⟨rfl,λj u c h=>by simp at h⟩
theorem All2.cons {α β:Type} {R:α->β->Prop} {u:α} {c:β} {us:List α} {cs:List β} (h:R u c) (h':All2 R us cs):All2 R (u::us) (c::cs):=by
 refine ⟨by simp [h'.len],λj u' c' hu hc=> ?_⟩
 cases j with
 | zero=>simp at hu hc; subst hu; subst hc; exact h
 | succ j=>exact h'.at_ j u' c' (by simpa using hu) (by simpa using hc)
theorem All2.head {α β:Type} {R:α->β->Prop} {u:α} {c:β} {us:List α} {cs:List β} (h:All2 R (u::us) (c::cs)):R u c/\All2 R us cs:=
 ⟨h.at_ 0 u c rfl rfl,by have:=h.len; simpa using this,λj u' c' hu hc=>h.at_ (j+1) u' c' (by simpa using hu) (by simpa using hc)⟩
theorem All2.nil_left {α β:Type} {R:α->β->Prop} {us:List α} (h:All2 R us []):us=([]:List α)/\(True:Prop):=⟨List.eq_nil_of_length_eq_zero (by simpa using h.len),trivial⟩
theorem All2.inv {α β:Type} {R:α->β->Prop} {us:List α} {c:β} {cs:List β} (h:All2 R us (c::cs)):∃ u us',us=u::us'/\R u c/\All2 R us' cs:=by
 cases us with
 | nil=>have:=h.len; simp at this
 | cons u us'=>exact ⟨u,us',rfl,h.head⟩
theorem All2.append {α β:Type} {R:α->β->Prop} {us us':List α} {cs cs':List β} (h:All2 R us cs) (h':All2 R us' cs'):All2 R (us++us') (cs++cs'):=by
 refine ⟨by simp [h.len,h'.len],λj u c hu hc=> ?_⟩
 by_cases hj:j<us.length
 ·rw [List.getElem?_append_left hj] at hu;rw [List.getElem?_append_left (by rw [<- h.len]; exact hj)] at hc
  exact h.at_ j u c hu hc
 ·rw [List.getElem?_append_right (by omega)] at hu
  rw [List.getElem?_append_right (by rw [<- h.len]; omega), <- h.len] at hc
  exact h'.at_ _ u c hu hc
theorem All2.drop {α β:Type} {R:α->β->Prop} {us:List α} {cs:List β} (h:All2 R us cs) (n:Nat):All2 R (us.drop n) (cs.drop n):=
 ⟨by simp [h.len],λj u c hu hc=>h.at_ (n+j) u c (by simpa using hu) (by simpa using hc)⟩
theorem All2.take {α β:Type} {R:α->β->Prop} {us:List α} {cs:List β} (h:All2 R us cs) (n:Nat):All2 R (us.take n) (cs.take n):=by
 refine ⟨by simp [h.len],λj u c hu hc=> ?_⟩
 rw [List.getElem?_take] at hu hc;split at hu
 ·rename_i hj;rw [if_pos hj] at hc;exact h.at_ j u c hu hc
 ·cases hu
theorem All2.getR {α β:Type} {R:α->β->Prop} {us:List α} {cs:List β} (h:All2 R us cs) {j:Nat} {c:β} (hc:cs[j]? =some c):∃ u,us[j]? =some u/\R u c:=by
 have hj:j<us.length:=by rw [h.len]; exact (List.getElem?_eq_some_iff.1 hc).1
 exact ⟨us[j],List.getElem?_eq_getElem hj,h.at_ j _ c (List.getElem?_eq_getElem hj) hc⟩
theorem All2.getL {α β:Type} {R:α->β->Prop} {us:List α} {cs:List β} (h:All2 R us cs) {j:Nat} {u:α} (hu:us[j]? =some u):∃ c,cs[j]? =some c/\R u c:=by
 have hj:j<cs.length:=by rw [<- h.len]; exact (List.getElem?_eq_some_iff.1 hu).1
 exact ⟨cs[j],List.getElem?_eq_getElem hj,h.at_ j u _ hu (List.getElem?_eq_getElem hj)⟩
def zwm (P:Program):TD->TypeDesc->Prop
 | .int k,d=>d=.int k
 | .bool,d=>d=.bool
 | .str,d=>d=.string
 | .slice e,d=>d=.slice e
 | .struct fs,d=>∃ fields:Array Field,d=.struct fields/\fields.toList.map (λf=>(f.offset,f.type))=fs/\∀ f∈fields.toList,(P.info? f.type).isSome=true
 | .iface,d=>∃ ms,d=.interface ms
 | .map k v,d=>d=.map k v
 | .other,d=>(match d with | .struct _ | .array _ _=>False | _=>True)
structure InfoOK (P:Program) (T:Nat) (i:TInfo):Prop where
 ok:∃ info d z,P.info? T=some info/\P.underlying T=some d/\info.size=i.size/\info.bytes=i.bytes/\info.zero=some z/\z.cells.toList=i.zero/\i.zero.length=i.size/\
  ((∀ v∈i.zero,zbA v=true)/\(ztT i=false->zbA z=true))/\zwm P i.desc d
def z7g (P:Program) (T:Nat) (us vs:List Value) (b:Bool) (w:World):Prop:=
 (binOp .eql T (.agg us.toArray) (.agg vs.toArray)).run P w=.ok (.bool b) w/\(binOp .neq T (.agg us.toArray) (.agg vs.toArray)).run P w=.ok (.bool (!b)) w/\
 (∀ op x y,(eqGuard op T x y (.agg us.toArray) (.agg vs.toArray)).run P w=.ok () w)/\(Op.equal T (.agg us.toArray) (.agg vs.toArray)).run P w=.ok b w/\
 (∀ e n,(Instr.checkKey e (n+2) T (.agg us.toArray)).run P w=.ok () w)/\∃ fs,P.underlying T=some (.struct fs)
structure CxOK (P:Program) (cx:Cx ty):Prop where
 ti:∀ T i,cx.ti T=some i->InfoOK P T i
 len:∀ T x,(cx.enc T x).length=zp cx T
 cell:∀ T x c,c∈cx.enc T x->(match c with | .lit v=>zbA v=true | .agg _ | .tup _ | .dead=>False | _=>True)
 dec:∀ T cs x,cx.dec T cs=some x->∀ F w us,All2 (Rep cx F w) us cs->All2 (Rep cx F w) us (cx.enc T x)
 eqs:∀ T us vs b,cx.eqs T us vs=some b->∀ w,z7g P T us vs b w
 eqk:∀ T us vs,cx.eqs T us us=some true->cx.eqs T vs vs=some true->cx.eqs T us vs=some (zt8 us vs)/\(zt8 us vs=true->us=vs)/\∀ u∈us,∀ n,Instr.sameBits n u u=true
 eqr:∀ T us b,cx.eqs T us us=some b->b=true
 stable:∀ w w':World,cx.inv w->(∀ b,b<cx.ng->w'.heap[b]? =w.heap[b]?)->cx.inv w'
theorem zcW.sl {P:Program} {cx:Cx ty} (_hcx:CxOK P cx) {F:Nat->Prop} {w:World} {v:Value} {T:Nat} {l:List (ty T)} (h:zcW cx F w v T l) (F':Nat->Prop) (hF:∀ b,F b->F' b)
  (hb:∀ b,zba v=some b->F' b):Rep cx F' w v (.sl T l):=by
 obtain ⟨xs,ho,ha⟩:=h;rcases ho.2 with ⟨rfl,h0⟩ | ⟨g,cap,cur,rfl,_,hg,hnc,_,_,htake⟩
 ·have:l=[]:=List.eq_nil_of_length_eq_zero h0;subst this;exact .slE none 0 T (λ_=>rfl)
 ·refine .sl g 0 cap T l xs (hb g rfl) hnc ha.len (λj u hu=> ?_) (λj u c hu hc=>(ha.at_ j u c hu hc).mono λb hb=>⟨hF b hb,rfl⟩)
  have:=ho.cells (g:=g) rfl j u hu
  rwa [show (⟨g,0,none⟩:Addr).add j=⟨g,0+j,none⟩ by unfold Addr.add; split <;>simp_all] at this
theorem ze3 (g o j:Nat):(⟨g,o,none⟩:Addr).add j=⟨g,o+j,none⟩:=by unfold Addr.add; split <;>simp_all
theorem zOj {P:Program} {cx:Cx ty} (hcx:CxOK P cx) (T:Nat) (l:List (ty T)):(zct cx T l).length=l.length*zp cx T:=zPG _ _ (hcx.len T) l
theorem zcW.sub {P:Program} {cx:Cx ty} (hcx:CxOK P cx) {F:Nat->Prop} {w:World} {v u:Value} {T lo n:Nat} {l:List (ty T)} (h:zcW cx F w v T l) (F':Nat->Prop) (hF:∀ b,F b->F' b)
  (hb:∀ b,zba v=some b->F' b) (hl:lo+n<=l.length) (hs:zmp (zp cx T) lo n v u):Rep cx F' w u (.sl T ((l.drop lo).take n)):=by
 obtain ⟨xs,ho,ha⟩:=h;have hlen:((l.drop lo).take n).length=n:=by simp; omega
 have empty:∀ b c,n=0->(b=none->c=0)->Rep cx F' w (.slice b n c) (.sl T ((l.drop lo).take n)):=by
  intro b c hn hbc; subst hn; simpa using Rep.slE (cx:=cx) (F:=F') (w:=w) b c T hbc
 rcases ho.2 with ⟨rfl,h0⟩ | ⟨g,cap,cur,rfl,_,hg,hnc,_,_,htake⟩
 ·obtain ⟨b,c,rfl,hn,_,hbc⟩:=hs;exact empty b c hn hbc
 ·rcases hs with rfl | ⟨hn,_,b,c,rfl,hbc⟩
  ·rw [ze3]
   conv=>arg 4; rw [<- hlen]
   refine Rep.sl (cx:=cx) (F:=F') (w:=w) g (0+lo*zp cx T) (cap - lo) T ((l.drop lo).take n) ((xs.drop (lo*zp cx T)).take (n*zp cx T)) (hb g rfl) (by rw [hlen]; omega) ?_ (λj u hu=> ?_) (λj u c hu hc=> ?_)
   ·have e1:=zzw _ _ (hcx.len T) (l.drop lo) n;have e2:=zs7 _ _ (hcx.len T) l lo;have:=((ha.drop (lo*zp cx T)).take (n*zp cx T)).len;unfold zct at this ⊢;rw [e1,e2]; exact this
   ·rw [List.getElem?_take] at hu;split at hu
    ·rw [List.getElem?_drop] at hu;have:=ho.cells (g:=g) rfl _ u hu;rw [ze3] at this
     rwa [show 0+lo*zp cx T+j=0+(lo*zp cx T+j) by omega]
    ·cases hu
   ·have e1:=zzw _ _ (hcx.len T) (l.drop lo) n;have e2:=zs7 _ _ (hcx.len T) l lo;unfold zct at hc;rw [e1,e2] at hc;exact (((ha.drop (lo*zp cx T)).take (n*zp cx T)).at_ j u c hu hc).mono λb hb=>⟨hF b hb,rfl⟩
  ·exact hn ▸ (empty b c hn hbc)
theorem zcW.elem {P:Program} {cx:Cx ty} (hcx:CxOK P cx) {F:Nat->Prop} {w:World} {T ix g n cap:Nat} {l:List (ty T)} (h:zcW cx F w (.slice (some ⟨g,0,none⟩) n cap) T l) (hi:ix<l.length) (d:ty T):
  ∃ us,us.length=(cx.enc T (l.getD ix d)).length/\(∀ (j:Nat) u,us[j]? =some u->w.cell? ⟨g,ix*zp cx T+j,none⟩=some u)/\All2 (Rep cx F w) us (cx.enc T (l.getD ix d)):=by
 obtain ⟨xs,ho,ha⟩:=h;refine ⟨(xs.drop (ix*zp cx T)).take (zp cx T), ?_,λj u hu=> ?_, ?_⟩
 ·rw [hcx.len,List.length_take,List.length_drop,ho.1];have:(ix+1)*zp cx T<=l.length*zp cx T:=Nat.mul_le_mul_right _ hi;rw [Nat.succ_mul] at this;rcases ho.2 with ⟨hh,_⟩ | ⟨g',cap',cur,hh,_⟩
  ·simp at hh
  ·simp only [Value.slice.injEq] at hh;omega
 ·rw [List.getElem?_take] at hu;split at hu
  ·rw [List.getElem?_drop] at hu;have:=ho.cells (g:=g) rfl _ u hu
   rwa [ze3,Nat.zero_add] at this
  ·cases hu
 ·have hx:=(ha.drop (ix*zp cx T)).take (zp cx T)
  have e:((zct cx T l).drop (ix*zp cx T)).take (zp cx T)=cx.enc T (l.getD ix d):=by
   have e2:=zs7 _ _ (hcx.len T) l ix;unfold zct;rw [<- e2];have hd:l.drop ix=l[ix]::l.drop (ix+1):=List.drop_eq_getElem_cons hi;rw [hd,List.flatMap_cons,List.take_append,hcx.len,Nat.sub_self,List.take_zero,List.append_nil,List.take_of_length_le (by rw [hcx.len]; exact Nat.le_refl _)]
   congr 1;simp [List.getD,hi]
  rwa [e] at hx
theorem Kind.ne {cx:Cx ty} {b:Blk ty} (h:b.live):b.kind cx≠.dead/\b.kind cx≠.none:=by cases b <;>simp_all [Blk.kind,Blk.live]
section
variable {P:Program} {cx:Cx ty} {e:Env} {st:St ty} {κ:Nat->Value} {w:World}
theorem RB.row (h:RB cx e st.blk κ w) {id T:Nat} {l:List (ty T)} {fz:Bool} (hb:st.blk id=.arr T l fz):zcW cx (Fz e st.blk κ w) w (κ id) T l:=by
 have:=h.blk id;rw [hb] at this;exact this
theorem RB.box (h:RB cx e st.blk κ w) {id:Nat} {cs:List (AV ty)} {fz:Bool} (hb:st.blk id=.box cs fz):
  ∃ b cur t,κ id=.pointer (some ⟨b,0,none⟩)/\w.heap[b]? =some (.cells cur t (0,0))/\All2 (RepA cx (Fz e st.blk κ w) w (λi=>(st.blk i).kind cx) κ) cur.toList cs:=by
 have:=h.blk id;rw [hb] at this;exact this
theorem zz8 {F:Nat->Prop} {kd:Nat->Kind} {us:List Value} {cs:List (AV ty)} (hlen:us.length=cs.length) (h:∀ (j:Nat) u c,us[j]? =some u->cs[j]? =some c->Rep cx F w u c):
  All2 (RepA cx F w kd κ) us cs:=⟨hlen,λj u c hu hc=>.rep (h j u c hu hc)⟩
theorem zE1 {f:AV ty->Option (AV ty×List Nat)} {F':Nat->Prop} {Q:Value->AV ty->Prop}
  (hf:∀ v av a' ids,Q v av->f av=some (a',ids)->(∀ id∈ids,∀ b,zba (κ id)=some b->F' b)->Rep cx F' w v a'):
  ∀ (us:List Value) (cs cs':List (AV ty)) (ids:List Nat),All2 Q us cs->ze7 f cs=some (cs',ids)->(∀ id∈ids,∀ b,zba (κ id)=some b->F' b)->All2 (Rep cx F' w) us cs'
 | us,[],cs',ids,h,hm,_=>by
  simp only [ze7,qa,qb] at hm;obtain ⟨rfl,_⟩:=hm;rw [h.nil_left.1];exact .nil
 | us,c::cs,cs',ids,h,hm,hi=>by
  obtain ⟨u,us',rfl,hu,h'⟩:=h.inv;simp only [ze7] at hm;split at hm
  ·cases hm
  ·rename_i c' i hc;split at hm
   ·cases hm
   ·rename_i cs'' is hcs;simp only [qa,qb] at hm;obtain ⟨rfl,rfl⟩:=hm;exact .cons (hf u c c' i hu hc λid hid=>hi id (by simp [hid])) (zE1 hf us' cs cs'' is h' hcs λid hid=>hi id (by simp [hid]))
theorem zIO (hcx:CxOK P cx) (hrb:RB cx e st.blk κ w) (F':Nat->Prop) (hF:∀ b,Fz e st.blk κ w b->F' b):
  ∀ (n:Nat) (v:Value) (av a':AV ty) (ids:List Nat),RepA cx (Fz e st.blk κ w) w (λi=>(st.blk i).kind cx) κ v av->zbt cx st n av=some (a',ids)->
   (∀ id∈ids,∀ b,zba (κ id)=some b->F' b)->Rep cx F' w v a'
 | 0,_,_,_,_,_,h,_=>by simp [zbt] at h
 | n+1,v,av,a',ids,hr,h,hi=>by
  have mono:∀ {v a},Rep cx (Fz e st.blk κ w) w v a->Rep cx F' w v a:=λh=>h.mono λb hb=>⟨hF b hb,rfl⟩
  have ih:=zIO hcx hrb F' hF n
  have lst:∀ us cs cs' ids,All2 (RepA cx (Fz e st.blk κ w) w (λi=>(st.blk i).kind cx) κ) us cs->ze7 (zbt cx st n) cs=some (cs',ids)->(∀ id∈ids,∀ b,zba (κ id)=some b->F' b)->All2 (Rep cx F' w) us cs':=
   λus cs cs' ids=>zE1 ih us cs cs' ids
  cases av with
  | lit x=>
   simp only [zbt,qa,qb] at h;obtain ⟨rfl,_⟩:=h;cases hr with | rep hr=>exact mono hr
  | mp id=>simp [zbt] at h
  | err x=>
   simp only [zbt,qa,qb] at h;obtain ⟨rfl,_⟩:=h;cases hr with | rep hr=>exact mono hr
  | sl T l=>
   simp only [zbt,qa,qb] at h;obtain ⟨rfl,_⟩:=h;cases hr with | rep hr=>exact mono hr
  | own id=>
   simp only [zbt] at h;split at h
   ·rename_i T l fz hb;simp only [qa,qb] at h;obtain ⟨rfl,rfl⟩:=h;cases hr with
    | rep hr=>cases hr
    | own id k m hk=>exact (hrb.row hb).sl hcx F' hF (hi id (by simp))
    | ownD _ _ hk=>simp [hb,Blk.kind] at hk
   ·cases h
  | sub id lo k=>
   simp only [zbt] at h;split at h
   ·rename_i T l fz hb;simp only [qa,qb] at h;obtain ⟨rfl,rfl⟩:=h;cases hr with
    | rep hr=>cases hr
    | sub _ _ _ _ k' m hk hl hv=>
     simp only [hb,Blk.kind,Kind.arr.injEq] at hk;obtain ⟨rfl,rfl⟩:=hk;exact (hrb.row hb).sub hcx F' hF (hi id (by simp)) hl hv
    | subD _ _ _ _ hk=>simp [hb,Blk.kind] at hk
   ·cases h
  | ptr id off=>
   simp only [zbt] at h;split at h
   ·rename_i cs fz hb;split at h
    ·rename_i cs' is hm;simp only [qa,qb] at h;obtain ⟨rfl,rfl⟩:=h;obtain ⟨b,cur,t,hκ,hg,ha⟩:=hrb.box hb;have hl:=lst _ _ _ _ ha hm (λid' hid=>hi id' (by simp [hid]))
     cases hr with
     | rep hr=>cases hr
     | ptr _ _ b' hk hb'=>
      rw [hκ] at hb';simp only [Value.pointer.injEq,qa,Addr.mk.injEq,and_true] at hb';subst hb';refine .bptr b off cs' cur.toList (hi id (by simp) b (by rw [hκ]; rfl)) hl.len (λj u hu=> ?_) hl.at_
      simp only [World.cell?,hg]
      simpa using hu
     | ptrD _ _ _ hk=>simp [hb,Blk.kind] at hk
    ·cases h
   ·cases h
  | eptr id ix off=>
   simp only [zbt] at h;split at h
   ·rename_i T l fz hb;simp only [qa,qb] at h;obtain ⟨rfl,rfl⟩:=h;cases hr with
    | rep hr=>cases hr
    | eptr _ _ _ b k m n' cap hk hix hκ=>
     simp only [hb,Blk.kind,Kind.arr.injEq] at hk;obtain ⟨rfl,rfl⟩:=hk;have hrow:=hrb.row hb;rw [hκ] at hrow;obtain ⟨us,h1,h2,h3⟩:=hrow.elem hcx hix (cx.dflt T);exact .fptr b (ix*zp cx T) off T _ us (hi id (by simp) b (by rw [hκ]; rfl)) h1 h2 (λj u c hu hc=>mono (h3.at_ j u c hu hc))
    | eptrD _ _ _ _ hk=>simp [hb,Blk.kind] at hk
   ·cases h
  | fptr T x off=>
   simp only [zbt,qa,qb] at h;obtain ⟨rfl,_⟩:=h;cases hr with | rep hr=>exact mono hr
  | bptr cs off=>
   simp only [zbt,qa,qb] at h;obtain ⟨rfl,_⟩:=h;cases hr with | rep hr=>exact mono hr
  | agg cs=>
   simp only [zbt] at h;split at h
   ·rename_i cs' is hm;simp only [qa,qb] at h;obtain ⟨rfl,rfl⟩:=h;cases hr with
    | rep hr=>cases hr with | agg vs _ hlen hr=>have hl:=lst vs cs cs' is (zz8 hlen hr) hm hi; exact .agg vs cs' hl.len hl.at_
    | agg vs _ hlen hr=>have hl:=lst vs cs cs' is ⟨hlen,hr⟩ hm hi; exact .agg vs cs' hl.len hl.at_
   ·cases h
  | fn f cs=>
   simp only [zbt] at h;split at h
   ·rename_i cs' is hm;simp only [qa,qb] at h;obtain ⟨rfl,rfl⟩:=h;cases hr with
    | rep hr=>cases hr with | fn _ vs _ hlen hr=>have hl:=lst vs cs cs' is (zz8 hlen hr) hm hi; exact .fn f vs cs' hl.len hl.at_
    | fn _ vs _ hlen hr=>have hl:=lst vs cs cs' is ⟨hlen,hr⟩ hm hi; exact .fn f vs cs' hl.len hl.at_
   ·cases h
  | tup cs=>simp [zbt] at h
  | dead=>simp [zbt] at h
theorem zyK (hcx:CxOK P cx) (hrb:RB cx e st.blk κ w) {v:Value} {av:AV ty} {cs:List (AV ty)} {off:Nat} {rd:List Nat}
  (hr:RepA cx (Fz e st.blk κ w) w (λi=>(st.blk i).kind cx) κ v av) (h:zd6 cx st av=some (cs,off,rd)):
  (∃ b o us,v=.pointer (some ⟨b,o+off,none⟩)/\(∀ (j:Nat) u,us[j]? =some u->w.cell? ⟨b,o+j,none⟩=some u)/\All2 (RepA cx (Fz e st.blk κ w) w (λi=>(st.blk i).kind cx) κ) us cs)\/cs.length<=off/\False:=by
 cases av with
 | ptr id off'=>
  simp only [zd6] at h;split at h
  ·rename_i cs' fz hb;simp only [qa,qb] at h;obtain ⟨rfl,rfl,rfl⟩:=h;obtain ⟨b,cur,t,hκ,hg,ha⟩:=hrb.box hb;cases hr with
   | rep hr=>cases hr
   | ptr _ _ b' hk hb'=>
    rw [hκ] at hb';simp only [Value.pointer.injEq,qa,Addr.mk.injEq,and_true] at hb';subst hb';refine .inl ⟨b,0,cur.toList,by simp,λj u hu=> ?_,ha⟩
    simp only [World.cell?,hg,Nat.zero_add]
    simpa using hu
   | ptrD _ _ _ hk=>simp [hb,Blk.kind] at hk
  ·cases h
 | eptr id ix off'=>
  simp only [zd6] at h;split at h
  ·rename_i T l fz hb;simp only [qa,qb] at h;obtain ⟨rfl,rfl,rfl⟩:=h;cases hr with
   | rep hr=>cases hr
   | eptr _ _ _ b k m n' cap hk hix hκ=>
    simp only [hb,Blk.kind,Kind.arr.injEq] at hk;obtain ⟨rfl,rfl⟩:=hk;have hrow:=hrb.row hb;rw [hκ] at hrow;obtain ⟨us,h1,h2,h3⟩:=hrow.elem hcx hix (cx.dflt T);exact .inl ⟨b,ix*zp cx T,us,rfl,h2,h3.imp λ_ _ h=>.rep h⟩
   | eptrD _ _ _ _ hk=>simp [hb,Blk.kind] at hk
  ·cases h
 | fptr T x off'=>
  simp only [zd6,qa,qb] at h;obtain ⟨rfl,rfl,rfl⟩:=h;cases hr with
  | rep hr=>cases hr with | fptr b off0 _ _ _ us hF hlen hc hr=>exact .inl ⟨b,off0,us,rfl,hc,zz8 hlen hr⟩
 | bptr cs' off'=>
  simp only [zd6,qa,qb] at h;obtain ⟨rfl,rfl,rfl⟩:=h;cases hr with
  | rep hr=>cases hr with | bptr b _ _ us hF hlen hc hr=>exact .inl ⟨b,0,us,by simp,(by simpa using hc),zz8 hlen hr⟩
 | _=>simp [zd6] at h
end
end
end Go.Ab
/- The operations that yield a value and leave the blocks alone, against the machine's. -/
namespace Go.Ab
noncomputable section
variable {ty:Nat->Type}
def aop (cx:Cx ty) (o:Oper) (st:St ty):Option (Delta ty):=zed cx o st some
section
variable {P:Program} {cx:Cx ty} {e:Env} {st:St ty} {κ:Nat->Value} {a:Act} {w:World}
abbrev zg9 (cx:Cx ty) (e:Env) (st:St ty) (κ:Nat->Value) (w:World):Value->AV ty->Prop:=RepA cx (Fz e st.blk κ w) w (λi=>(st.blk i).kind cx) κ
theorem zca (h:RF cx e st κ a w) (x:Operand):zg9 cx e st κ w (a.eval x) (st.ev x):=by
 cases x with
 | tmp t=>exact h.tmps t
 | const v=>
  simp only [Act.eval,St.ev];cases v with
  | agg cs=>
   have:(Value.agg cs)=.agg (cs.toList.toArray):=by simp
   rw [this];refine .rep (.agg _ _ (by simp) λj u c hu hc=> ?_)
   simp only [List.getElem?_map] at hc;rw [show (cs.toList.toArray).toList=cs.toList by simp] at hc
   rw [hu] at hc;simp at hc; subst hc; exact .lit u
  | func fn first caps=>
   cases fn with
   | func f=>
    simp only [AV.ofConst];split
    ·rename_i h1 h2;have e1:first=#[]:=by simpa using h1
     have e2:caps=#[]:=by simpa using h2
     subst e1; subst e2;exact .rep (.fn f [] [] rfl (λj u c hu=>by simp at hu))
    ·exact .rep (.lit _)
   | _=>exact .rep (.lit _)
  | _=>exact .rep (.lit _)
 | global g=>exact .dead _
 | func f=>exact .rep (.fn f [] [] rfl (λj u c hu=>by simp at hu))
theorem zbaQ {tmps:List (AV ty)} {d t:Nat} {v:AV ty}:(gD .dead (tmps.set d v) t)=if d=t/\d<tmps.length then v else (gD .dead tmps t):=by
 simp only [zie,List.getD_eq_getElem?_getD,List.getElem?_set];by_cases h:d=t
 ·subst h;by_cases h':d<tmps.length <;>simp [h']
 ·simp [h]
theorem z97 {a:Act} {d t:Nat} {v:Value}:(a.put (some d) v).tmps.getD t undef=if d=t/\d<a.tmps.size then v else a.tmps.getD t undef:=by
 simp only [Act.put];rw [Array.getD_eq_getD_getElem?,Array.getD_eq_getD_getElem?,Array.getElem?_setIfInBounds];by_cases h:d=t
 ·subst h;by_cases h':d<a.tmps.size <;>simp [h']
 ·simp [h]
theorem RF.put {κ':Nat->Value} {w':World} {v:Value} {dst:Option Tmp} {d:Delta ty} (h:RF cx e st κ a w)
  (hb:RB cx e (st.app dst d).blk κ' w') (hc:Compat cx e st.blk κ w (st.app dst d).blk κ' w')
  (hv:dst.isSome=true->RepA cx (Fz e (st.app dst d).blk κ' w') w' (λi=>((st.app dst d).blk i).kind cx) κ' v d.val):RF cx e (st.app dst d) κ' (a.put dst v) w':=by
 cases dst with
 | none=>exact ⟨hb,h.defers,h.size,λt=>hc.rep (h.tmps t)⟩
 | some t0=>
  refine ⟨hb,h.defers,by simp [St.app,zA5,zMz,zDR,Act.put,h.size],λt=> ?_⟩
  rw [z97];have:(St.app st (some t0) d).get t=if t0=t/\t0<st.tmps.length then d.val else st.get t:=by simp only [St.get,St.app,zA5,zMz,zDR,zbaQ]
  rw [this,h.size];split
  ·exact hv rfl
  ·exact hc.rep (h.tmps t)
theorem Compat.refl (h:RB cx e st.blk κ w):Compat cx e st.blk κ w st.blk κ w:=⟨λb hb=>⟨hb,rfl⟩,λid _=>.inl ⟨rfl,rfl⟩⟩
theorem RF.val (h:RF cx e st κ a w) {v:Value} {dst:Option Tmp} {av:AV ty} {rd:List Nat} (hv:zg9 cx e st κ w v av):R cx e (st.app dst { val:=av,rd:=rd }) (a.put dst v) w:=by
 have hb:(st.app dst { val:=av,rd:=rd }).blk=st.blk:=rfl;exact ⟨κ,h.put (by rw [hb]; exact h.rb) (by rw [hb]; exact .refl h.rb) (by intro _; rw [hb]; exact hv)⟩
theorem zW {o:Oper} {Q:Exit->Act->World->Prop} {next:Act->World->Prop} {v:Value} {w':World} (h:(execOp a.eval o).run P w=.ok (.value v) w') (hn:next (a.put o.dst v) w'):o.wp P a w next Q:=by
 unfold Oper.wp; rw [h]; exact hn
theorem zcd {F:Nat->Prop} {kd:Nat->Kind} {v:Value} {x:Value} (h:RepA cx F w kd κ v (.lit x)):v=x:=by
 cases h with | rep h=>cases h; rfl
theorem z9p {av:AV ty} {n:Int} (h:av.int64=some n):av=.lit (.int .i64 n):=by
 unfold AV.int64 at h;split at h
 ·simp only [qa] at h; subst h; rfl
 ·cases h
theorem zBK {F:Nat->Prop} {kd:Nat->Kind} {v:Value} {av:AV ty} {n:Int} (h:RepA cx F w kd κ v av) (hi:av.int64=some n):v=.int .i64 n:=by
 rw [z9p hi] at h; exact zcd h
theorem zc8 {T:Nat} {d:TypeDesc} (h:P.underlying T=some d):(underlying T).run P w=.ok d w:=run_underlying h w
theorem z3S {T:Nat} {i:TypeInfo} (h:P.info? T=some i):(typeInfo T).run P w=.ok i w:=by simp [typeInfo,h]
theorem z5i {T:Nat} {i:TypeInfo} (h:P.info? T=some i):(sizeOf T).run P w=.ok i.size w:=by simp [sizeOf,z3S h]
theorem zIZ {T:Nat} {i:TypeInfo} {z:Value} (h:P.info? T=some i) (hz:i.zero=some z):(zeroValue T).run P w=.ok z w:=by simp [zeroValue,z3S h,hz]
theorem zic (hcx:CxOK P cx) {T e' s b:Nat} {z:List Value} (h:cx.ti T=some ⟨.slice e',s,b,z⟩):P.underlying T=some (.slice e'):=by
 obtain ⟨info,d,z,_,hu,_,_,_,_,_,_,hd⟩:=(hcx.ti T _ h).ok;simp only [zwm] at hd; rw [hu,hd]
theorem z8b (hcx:CxOK P cx) {T s b:Nat} {z:List Value} (h:cx.ti T=some ⟨.iface,s,b,z⟩):∃ ms,P.underlying T=some (.interface ms):=by
 obtain ⟨info,d,z,_,hu,_,_,_,_,_,_,hd⟩:=(hcx.ti T _ h).ok;simp only [zwm] at hd; obtain ⟨ms,hd⟩:=hd; exact ⟨ms,by rw [hu,hd]⟩
theorem zNq (hcx:CxOK P cx) {T k v s b:Nat} {z:List Value} (h:cx.ti T=some ⟨.map k v,s,b,z⟩):P.underlying T=some (.map k v):=by
 obtain ⟨info,d,z,_,hu,_,_,_,_,_,_,hd⟩:=(hcx.ti T _ h).ok;simp only [zwm] at hd; rw [hu,hd]
theorem zuU (hcx:CxOK P cx) {T s b:Nat} {z:List Value} (h:cx.ti T=some ⟨.str,s,b,z⟩):P.underlying T=some .string:=by
 obtain ⟨info,d,z,_,hu,_,_,_,_,_,_,hd⟩:=(hcx.ti T _ h).ok;simp only [zwm] at hd; rw [hu,hd]
theorem zbai (hcx:CxOK P cx) {T s b:Nat} {z:List Value} (h:cx.ti T=some ⟨.bool,s,b,z⟩):P.underlying T=some .bool:=by
 obtain ⟨info,d,z,_,hu,_,_,_,_,_,_,hd⟩:=(hcx.ti T _ h).ok;simp only [zwm] at hd; rw [hu,hd]
theorem zzG (hcx:CxOK P cx) {T s b:Nat} {k:IntKind} {z:List Value} (h:cx.ti T=some ⟨.int k,s,b,z⟩):P.underlying T=some (.int k):=by
 obtain ⟨info,d,z,_,hu,_,_,_,_,_,_,hd⟩:=(hcx.ti T _ h).ok;simp only [zwm] at hd; rw [hu,hd]
theorem z0c (hcx:CxOK P cx) {T s b:Nat} {fs:List (Nat×Nat)} {z:List Value} (h:cx.ti T=some ⟨.struct fs,s,b,z⟩):
  ∃ fields:Array Field,P.underlying T=some (.struct fields)/\fields.toList.map (λf=>(f.offset,f.type))=fs:=by
 obtain ⟨info,d,z,_,hu,_,_,_,_,_,_,fields,rfl,hf,_⟩:=(hcx.ti T _ h).ok;exact ⟨fields,hu,hf⟩
theorem zyX (hcx:CxOK P cx) {T:Nat} {i:TInfo} (h:cx.ti T=some i) (w:World):(sizeOf T).run P w=.ok i.size w:=by
 obtain ⟨info,d,z,hi,_,hs,_⟩:=(hcx.ti T _ h).ok;rw [z5i hi,hs]
theorem z2i (hcx:CxOK P cx) {T:Nat} {i:TInfo} (h:cx.ti T=some i) (w:World):(isAgg T).run P w=.ok (ztT i) w:=by
 obtain ⟨info,d,z,hi,hu,_,_,_,_,_,_,hd⟩:=(hcx.ti T _ h).ok;obtain ⟨desc,s,b,zz⟩:=i;cases desc with
 | struct fs=>obtain ⟨fields,rfl,_⟩:=hd; simp [isAgg,zc8 hu,ztT]
 | iface=>obtain ⟨ms,rfl⟩:=hd; simp [isAgg,zc8 hu,ztT]
 | other=>
  simp only [zwm] at hd;cases d <;>first | exact hd.elim | simp [isAgg,zc8 hu,ztT]
 | _=>simp only [zwm] at hd; subst hd; simp [isAgg,zc8 hu,ztT]
variable {o:Oper} {d:Delta ty} {Q:Exit->Act->World->Prop}
theorem z6j {x:Operand} (ho:o.op=.move x\/o.op=.assign x) (h:aop cx o st=some d) (hf:RF cx e st κ a w):o.wp P a w (λa' w'=>R cx e (st.app o.dst d) a' w') Q:=by
 have hd:d={ val:=st.ev x }:=by rcases ho with ho | ho <;>(unfold aop zed at h; simp only [ho,qa] at h; exact h.symm)
 subst hd;refine zW (v:=a.eval x) (w':=w) ?_ (hf.val (zca hf x));rcases ho with ho | ho <;>simp [execOp,ho]
theorem zbbZ {c x y:Operand} (ho:o.op=.pick c x y) (h:aop cx o st=some d) (hf:RF cx e st κ a w):o.wp P a w (λa' w'=>R cx e (st.app o.dst d) a' w') Q:=by
 unfold aop zed at h;simp only [ho] at h;split at h
 ·rename_i t ht;simp only [qa] at h; subst h;have hc:=zca hf c;rw [ht] at hc;have hc:=zcd hc;cases t with
  | true=>exact zW (v:=a.eval x) (w':=w) (by simp [execOp,ho,hc,asBool]) (hf.val (zca hf x))
  | false=>exact zW (v:=a.eval y) (w':=w) (by simp [execOp,ho,hc,asBool]) (hf.val (zca hf y))
 ·cases h
theorem z5N {g:Nat} {first caps:Array Operand} (ho:o.op=.makeFunc (.func g) first caps) (h:aop cx o st=some d) (hf:RF cx e st κ a w):o.wp P a w (λa' w'=>R cx e (st.app o.dst d) a' w') Q:=by
 unfold aop zed at h;simp only [ho] at h;split at h
 ·rename_i hfirst;have hfirst:first=#[]:=by simpa using hfirst
  subst hfirst;simp only [qa] at h; subst h;refine zW (v:=.func (.func g) #[] (caps.map a.eval)) (w':=w) (by simp [execOp,ho,Instr.makeFunc]) (hf.val ?_)
  have:caps.map a.eval=(caps.toList.map a.eval).toArray:=by apply Array.ext'; rw [Array.toList_map]
  rw [this];refine .fn g _ _ (by simp) λj u c hu hc=> ?_
  rw [List.getElem?_map] at hu hc;cases hx:caps.toList[j]? with
  | none=>rw [hx] at hu; cases hu
  | some x=>
   rw [hx] at hu hc;simp only [Option.map_some,qa] at hu hc;subst hu; subst hc;exact zca hf x
 ·cases h
theorem z7v {x:Operand} {i:Nat} (ho:o.op=.extract x i) (h:aop cx o st=some d) (hf:RF cx e st κ a w):o.wp P a w (λa' w'=>R cx e (st.app o.dst d) a' w') Q:=by
 unfold aop zed at h;simp only [ho] at h;split at h
 ·rename_i vs hx;split at h
  ·rename_i v hv;simp only [qa] at h; subst h;have hr:=zca hf x;rw [hx] at hr;generalize hev:a.eval x=ve at hr;cases hr with
   | rep hr=>cases hr
   | tup us _ hlen hr=>
    have hj:i<us.length:=by rw [hlen]; exact (List.getElem?_eq_some_iff.1 hv).1
    refine zW (v:=us[i]) (w':=w) ?_ (hf.val (hr i _ v (List.getElem?_eq_getElem hj) hv));simp [execOp,ho,hev,Instr.extract,hj]
  ·cases h
 ·cases h
theorem z52 {x:Operand} (hcx:CxOK P cx) (ho:o.op=.nilCheck x) (h:aop cx o st=some d) (hf:RF cx e st κ a w):o.wp P a w (λa' w'=>R cx e (st.app o.dst d) a' w') Q:=by
 unfold aop zed at h;simp only [ho] at h;have hr:=zca hf x;generalize hev:a.eval x=ve at hr;split at h
 ·rename_i f cs hx;simp only [qa] at h; subst h;rw [hx] at hr
  have:∃ vs,ve=.func (.func f) #[] vs:=by
   cases hr with
   | rep hr=>cases hr; exact ⟨_,rfl⟩
   | fn=>exact ⟨_,rfl⟩
  obtain ⟨vs,rfl⟩:=this;exact zW (w':=w) (by simp [execOp,ho,hev]) (hf.val hr)
 ·split at h
  ·rename_i cs off rd hc;simp only [qa] at h; subst h;rcases zyK hcx hf.rb hr hc with ⟨b,o',us,rfl,_⟩ | ⟨_,hn⟩
   ·exact zW (w':=w) (by simp [execOp,ho,hev]) (hf.val hr)
   ·exact hn.elim
  ·cases h
theorem z1q {α:Type} (us:List α) (d:α) (n off:Nat) (h:off+n<=us.length):(List.range n).map (λj=>us.getD (off+j) d)=(us.drop off).take n:=by
 apply List.ext_getElem?;intro j;simp only [List.getElem?_map,List.getElem?_take,List.getElem?_drop];by_cases hj:j<n
 ·have:off+j<us.length:=by omega
  simp [hj,List.getElem?_range,List.getD,this]
 ·simp [hj]
theorem zWq (hcx:CxOK P cx) {T:Nat} {i:TInfo} (hi:cx.ti T=some i) {b o off:Nat} {us:List Value} (hc:∀ (j:Nat) u,us[j]? =some u->w.cell? ⟨b,o+j,none⟩=some u)
  {S:Value->AV ty->Prop} {cs:List (AV ty)} (ha:All2 S us cs) {v:AV ty} (hv:cut i cs off=some v)
  (hagg:∀ us' cs',All2 S us' cs'->S (.agg us'.toArray) (.agg cs')):∃ u,(loadVar T ⟨b,o+off,none⟩).run P w=.ok u w/\S u v:=by
 unfold cut at hv;have hg:=z2i hcx hi w;split at hv
 ·rename_i hst;split at hv
  ·rename_i hle;simp only [qa] at hv; subst hv;have hle:off+i.size<=us.length:=by rw [ha.len]; exact Nat.le_of_ble_eq_true hle
   refine ⟨.agg ((us.drop off).take i.size).toArray, ?_,hagg _ _ ((ha.drop off).take _)⟩
   have:=run_loadCells (P:=P) w ⟨b,o+off,none⟩ i.size (λj=>us.getD (off+j) undef) (λj hj=>by
    rw [ze3,Nat.add_assoc];exact hc _ _ (by simp [List.getD]; rw [List.getElem?_eq_getElem (by omega)]; simp))
   rw [z1q us undef i.size off hle] at this;simp [loadVar,hg,hst,zyX hcx hi,this]
  ·cases hv
 ·rename_i hst;obtain ⟨u,hu,hr⟩:=ha.getR hv;refine ⟨u, ?_,hr⟩;simp [loadVar,hg,hst,hc off u hu]
theorem zOb {us:List Value} {cs:List (AV ty)} (h:All2 (zg9 cx e st κ w) us cs):zg9 cx e st κ w (.agg us.toArray) (.agg cs):=.agg us cs h.len h.at_
theorem zbbr {T:Nat} {x:Operand} (hcx:CxOK P cx) (ho:o.op=.load T x) (h:aop cx o st=some d) (hf:RF cx e st κ a w):o.wp P a w (λa' w'=>R cx e (st.app o.dst d) a' w') Q:=by
 unfold aop zed at h;simp only [ho] at h;have hr:=zca hf x;generalize hev:a.eval x=ve at hr;split at h
 ·rename_i i cs off rd hi hc;split at h
  ·rename_i v hv;simp only [qa] at h; subst h;rcases zyK hcx hf.rb hr hc with ⟨b,o',us,rfl,hcell,ha⟩ | ⟨_,hn⟩
   ·obtain ⟨u,hrun,hu⟩:=zWq hcx hi hcell ha hv (λ_ _=>zOb)
    exact zW (v:=u) (w':=w) (by simp [execOp,ho,hev,Instr.loadAt,Instr.sureAddr,hrun]) (hf.val hu)
   ·exact hn.elim
  ·cases h
 ·cases h
theorem z4k {S:Nat} {x:Operand} {f:Nat} (hcx:CxOK P cx) (ho:o.op=.fieldAddr S x f) (h:aop cx o st=some d) (hf:RF cx e st κ a w):o.wp P a w (λa' w'=>R cx e (st.app o.dst d) a' w') Q:=by
 unfold aop zed at h;simp only [ho] at h;have hr:=zca hf x;generalize hev:a.eval x=ve at hr;split at h
 ·rename_i fs s b z hS;obtain ⟨fields,hu,hfs⟩:=z0c hcx hS;split at h
  ·rename_i off T hfo;split at h
   ·rename_i i v cs o' rd hi hv hc;split at h
    ·rename_i hz;simp only [qa] at h; subst h;have hz:i.size≠0:=by intro h0; rw [h0] at hz; cases hz
     rw [<- hfs,List.getElem?_map] at hfo;cases hfi:fields[f]? with
     | none=>simp [hfi] at hfo
     | some fd=>
      simp only [Array.getElem?_toList,hfi,Option.map_some,qa,qb] at hfo;obtain ⟨hoff,hty⟩:=hfo;rcases zyK hcx hf.rb hr hc with ⟨b',o'',us,rfl,hcell,ha⟩ | ⟨_,hn⟩
      ·have hsz:=zyX hcx hi w;rw [<- hty] at hsz;refine zW (v:=.pointer (some ⟨b',o''+o'+fd.offset,none⟩)) (w':=w) ?_ (hf.val ?_)
       ·simp [execOp,ho,hev,Instr.fieldAt,zc8 hu,hfi,Instr.sureAddr,fieldPlace,hsz,hz,ze3]
       ·rw [hoff];generalize hev2:st.ev x=av at hr hv hc;cases av with
        | ptr id off'=>
         simp only [shift,qa] at hv; subst hv;generalize hpv:(Value.pointer (some ⟨b',o''+o',none⟩))=pv at hr;cases hr with
         | rep hr=>cases hr
         | ptr _ _ b2 hk hb2=>
          simp only [Value.pointer.injEq,qa,Addr.mk.injEq,and_true] at hpv;obtain ⟨rfl,rfl⟩:=hpv;exact .ptr id _ _ hk hb2
         | ptrD _ _ _ hk=>exact .ptrD _ _ _ hk
        | eptr id ix off'=>
         simp only [shift,qa] at hv; subst hv;generalize hpv:(Value.pointer (some ⟨b',o''+o',none⟩))=pv at hr;cases hr with
         | rep hr=>cases hr
         | eptr _ _ _ b2 k m n cap hk hix hb2=>
          simp only [Value.pointer.injEq,qa,Addr.mk.injEq,and_true] at hpv;obtain ⟨rfl,hpv⟩:=hpv;rw [hpv,Nat.add_assoc];exact .eptr id ix _ _ k m n cap hk hix hb2
         | eptrD _ _ _ _ hk=>exact .eptrD _ _ _ _ hk
        | fptr T' y off'=>
         simp only [shift,qa] at hv; subst hv;generalize hpv:(Value.pointer (some ⟨b',o''+o',none⟩))=pv at hr;cases hr with
         | rep hr=>
          cases hr with
          | fptr b2 off0 _ _ _ us' hF hlen hc' hr'=>
           simp only [Value.pointer.injEq,qa,Addr.mk.injEq,and_true] at hpv;obtain ⟨rfl,hpv⟩:=hpv;rw [hpv,Nat.add_assoc];exact .rep (.fptr _ off0 _ T' y us' hF hlen hc' hr')
        | bptr cs' off'=>
         simp only [shift,qa] at hv; subst hv;generalize hpv:(Value.pointer (some ⟨b',o''+o',none⟩))=pv at hr;cases hr with
         | rep hr=>
          cases hr with
          | bptr b2 _ _ us' hF hlen hc' hr'=>
           simp only [Value.pointer.injEq,qa,Addr.mk.injEq,and_true] at hpv;obtain ⟨rfl,hpv⟩:=hpv;rw [hpv];exact .rep (.bptr _ _ cs' us' hF hlen hc' hr')
        | _=>simp [shift] at hv
      ·exact hn.elim
    ·cases h
   ·cases h
  ·cases h
 ·cases h
end
end
end Go.Ab
/- The operations that yield a value and leave the blocks alone, against the machine's: the second part. -/
namespace Go.Ab
noncomputable section
variable {ty:Nat->Type}
section
variable {P:Program} {cx:Cx ty} {e:Env} {st:St ty} {κ:Nat->Value} {a:Act} {w:World} {o:Oper} {d:Delta ty} {Q:Exit->Act->World->Prop}
theorem zeL {α:Type} {b:Bool} {x:Option α} {y:α} (h:(bif b then x else none)=some y):b=true/\x=some y:=by
 cases b <;>simp_all
theorem zM2 {us:Value} {cs:List (AV ty)} (h:zg9 cx e st κ w us (.agg cs)):∃ vs:List Value,us=.agg vs.toArray/\All2 (zg9 cx e st κ w) vs cs:=by
 cases h with
 | rep h=>cases h with | agg vs _ hlen hr=>exact ⟨vs,rfl,zz8 hlen hr⟩
 | agg vs _ hlen hr=>exact ⟨vs,rfl,hlen,hr⟩
theorem zbab (hcx:CxOK P cx) {T:Nat} {i:TInfo} (hi:cx.ti T=some i) {us:List Value} {cs:List (AV ty)} (ha:All2 (zg9 cx e st κ w) us cs) {off:Nat} {v:AV ty} (hv:cut i cs off=some v):
  ∃ u,(part T us.toArray off).run P w=.ok u w/\zg9 cx e st κ w u v:=by
 unfold cut at hv;have hg:=z2i hcx hi w;split at hv
 ·rename_i hst;split at hv
  ·rename_i hle;simp only [qa] at hv; subst hv;have hle:off+i.size<=us.length:=by rw [ha.len]; exact Nat.le_of_ble_eq_true hle
   refine ⟨.agg ((us.drop off).take i.size).toArray, ?_,zOb ((ha.drop off).take _)⟩
   have:us.toArray.extract off (off+i.size)=((us.drop off).take i.size).toArray:=by
    apply Array.ext';rw [List.extract_toArray];simp [List.extract]
   simp [part,hg,hst,zyX hcx hi,this]
  ·cases hv
 ·rename_i hst;obtain ⟨u,hu,hr⟩:=ha.getR hv;refine ⟨u, ?_,hr⟩;simp [part,hg,hst,hu]
theorem zbak {S:Nat} {x:Operand} {f:Nat} (hcx:CxOK P cx) (ho:o.op=.field S x f) (h:aop cx o st=some d) (hf:RF cx e st κ a w):o.wp P a w (λa' w'=>R cx e (st.app o.dst d) a' w') Q:=by
 unfold aop zed at h;simp only [ho] at h;have hr:=zca hf x;generalize hev:a.eval x=ve at hr;split at h
 ·rename_i fs s b z cs hS hx;rw [hx] at hr;obtain ⟨vs,rfl,ha⟩:=zM2 hr;obtain ⟨fields,hu,hfs⟩:=z0c hcx hS;split at h
  ·rename_i off T hfo;split at h
   ·rename_i i hi;split at h
    ·rename_i v hv;simp only [qa] at h; subst h;rw [<- hfs,List.getElem?_map] at hfo;cases hfi:fields[f]? with
     | none=>simp [hfi] at hfo
     | some fd=>
      simp only [Array.getElem?_toList,hfi,Option.map_some,qa,qb] at hfo;obtain ⟨rfl,rfl⟩:=hfo;obtain ⟨u,hrun,hu'⟩:=zbab hcx hi ha hv;exact zW (v:=u) (w':=w) (by simp [execOp,ho,hev,Instr.field,zc8 hu,hfi,asAgg,hrun]) (hf.val hu')
    ·cases h
   ·cases h
  ·cases h
 ·cases h
theorem z2F {cur:List Value} {off:Nat}:∀ (new:List Value),off+new.length<=cur.length->
  ((new.toArray.zipIdx.foldl (λcs (c,j)=>cs.setIfInBounds (off+j) c) cur.toArray)).toList=cur.take off++new++cur.drop (off+new.length):=by
 intro new h
 have key:∀ (n:Nat) (new:List Value) (pre:List Value),new.length=n->pre.length=off+(0:Nat)\/True->∀ (i:Nat) (cur:List Value),off+i+new.length<=cur.length->
   (((new.zipIdx i).foldl (λcs (c,j)=>cs.setIfInBounds (off+j) c) cur.toArray)).toList=cur.take (off+i)++new++cur.drop (off+i+new.length):=by
  intro n;induction n with
  | zero=>
   intro new pre hn _ i cur _;have:new=[]:=List.eq_nil_of_length_eq_zero hn;subst this;simp
  | succ n ih=>
   intro new pre hn _ i cur hl;cases new with
   | nil=>simp at hn
   | cons x r=>
    simp only [List.zipIdx_cons,List.foldl_cons];have e1:cur.toArray.setIfInBounds (off+i) x=(cur.set (off+i) x).toArray:=by simp
    rw [e1,ih r pre (by simpa using hn) (.inr trivial) (i+1) (cur.set (off+i) x) (by simp at hl ⊢; omega)]
    have hlt:off+i<cur.length:=by simp at hl; omega
    apply List.ext_getElem?;intro j;simp only [List.getElem?_append,qg,List.length_take,List.length_set,qf,List.getElem?_take,List.getElem?_set,List.getElem?_drop];have m1:min (off+(i+1)) cur.length=off+i+1:=by omega
    have m2:min (off+i) cur.length=off+i:=by omega
    rw [m1,m2];by_cases h1:j<off+i
    ·have:j<off+i+1+r.length:=by omega
     have h3:¬ off+i=j:=by omega
     have h4:j<off+i+(r.length+1):=by omega
     have h5:j<off+(i+1):=by omega
     have h6:j<off+i+1:=by omega
     simp [h1,h3,h4,h5,h6,this]
    ·by_cases h2:j=off+i
     ·subst h2;have h4:off+i<off+i+(r.length+1):=by omega
      have h5:off+i<off+(i+1):=by omega
      simp [h4,h5,hlt];omega
     ·have h3:¬ j<off+i+1:=by omega
      have h7:j - (off+i)=(j - (off+i+1))+1:=by omega
      have h8:(j<off+i+1+r.length)↔(j<off+i+(r.length+1)):=by omega
      by_cases h9:j<off+i+1+r.length
      ·have h10:=h8.1 h9;simp [h1,h3,h9,h10,h7]
      ·have h10:¬ j<off+i+(r.length+1):=λhh=>h9 (h8.2 hh)
       have h11:¬ off+i=off+(i+1)+r.length+(j - (off+i+1+r.length)):=by omega
       simp [h1,h3,h9,h10,h11];congr 1;omega
 have:=key new.length new [] rfl (.inr trivial) 0 cur (by simpa using h)
 simp only [Nat.add_zero] at this;rw [<- this];have hz:new.toArray.zipIdx=new.zipIdx.toArray:=by simp
 rw [hz,List.foldl_toArray'];simp
theorem All2.splice {α β:Type} {R:α->β->Prop} {us new:List α} {cs cnew:List β} (h:All2 R us cs) (h':All2 R new cnew) (off:Nat):
  All2 R (us.take off++new++us.drop (off+new.length)) (cs.take off++cnew++cs.drop (off+cnew.length)):=by
 rw [<- h'.len];exact ((h.take off).append h').append (h.drop _)
theorem zKZ {cs new cs':List (AV ty)} {off:Nat} (h:splice cs off new=some cs'):off+new.length<=cs.length/\cs'=cs.take off++new++cs.drop (off+new.length):=by
 unfold splice at h;split at h
 ·rename_i hle;simp only [qa] at h;exact ⟨Nat.le_of_ble_eq_true hle,h.symm⟩
 ·cases h
theorem live_kind {id:Nat} (h:zqQ st id=true):(st.blk id).kind cx≠.dead:=by
 unfold zqQ at h;split at h <;>simp_all [Blk.kind]
theorem zcW.slice {F:Nat->Prop} {v:Value} {T:Nat} {l:List (ty T)} (h:zcW cx F w v T l):∃ b n c,v=.slice b n c:=by
 obtain ⟨xs,ho,_⟩:=h;rcases ho.2 with ⟨rfl,_⟩ | ⟨g,cap,cur,rfl,_⟩
 ·exact ⟨_,_,_,rfl⟩
 ·exact ⟨_,_,_,rfl⟩
theorem z35 (hrb:RB cx e st.blk κ w) {v:Value} {av:AV ty} (hr:zg9 cx e st κ w v av) (h:av.isCell st=true):zbA v=true:=by
 cases hr with
 | rep hr=>
  cases hr with
  | lit x=>exact h
  | agg=>simp [AV.isCell] at h
  | _=>rfl
 | own id k n hk=>
  cases hb:st.blk id with
  | arr T l fz=>obtain ⟨b,n,c,hv⟩:=(hrb.row hb).slice; rw [hv]; rfl
  | _=>simp [hb,Blk.kind] at hk
 | ownD _ id hk=>exact absurd hk (live_kind h)
 | sub _ id lo n k m hk hl hv=>
  unfold zmp at hv;split at hv
  ·rcases hv with rfl | ⟨_,_,b,c,rfl,_⟩ <;>rfl
  ·obtain ⟨b,c,rfl,_⟩:=hv; rfl
 | subD _ id _ _ hk=>exact absurd hk (live_kind h)
 | ptr=>rfl
 | ptrD _ id _ hk=>exact absurd hk (live_kind h)
 | eptr=>rfl
 | eptrD _ id _ _ hk=>exact absurd hk (live_kind h)
 | fn=>rfl
 | agg=>simp [AV.isCell] at h
 | tup=>simp [AV.isCell] at h
 | dead=>simp [AV.isCell] at h
 | mp=>simp [AV.isCell] at h
 | mpD=>simp [AV.isCell] at h
theorem z2d {v:Value} (h:zbA v=true):v.cells.toList=[v]:=by cases v <;>first | rfl | simp [zbA] at h
theorem zYK (v:Value):zbA v=v.oneCell':=by cases v <;>rfl
theorem zDv (hrb:RB cx e st.blk κ w) {v:Value} {av:AV ty} {cs:List (AV ty)} (hr:zg9 cx e st κ w v av) (h:av.cells st=some cs):
  All2 (zg9 cx e st κ w) v.cells.toList cs/\∀ u∈v.cells.toList,zbA u=true:=by
 unfold AV.cells at h;split at h
 ·rename_i cs';split at h
  ·rename_i hall;simp only [qa] at h; subst h;obtain ⟨vs,rfl,ha⟩:=zM2 hr;refine ⟨by simpa [Value.cells] using ha,λu hu=> ?_⟩
   simp only [Value.cells] at hu;obtain ⟨j,hj⟩:=List.getElem?_of_mem hu;obtain ⟨c,hc,hr⟩:=ha.getL hj;exact z35 hrb hr ((List.all_eq_true.1 hall) c (List.mem_of_getElem? hc))
  ·cases h
 ·split at h
  ·rename_i hc;simp only [qa] at h; subst h;have h1:=z35 hrb hr hc;rw [z2d h1];exact ⟨.cons hr .nil,by simpa using h1⟩
  ·cases h
theorem zIX {F:Nat->Prop} (z:List Value):All2 (Rep cx F w) z (z.map .lit):=by
 refine ⟨by simp,λj u c hu hc=> ?_⟩
 rw [List.getElem?_map,hu] at hc;simp at hc; subst hc; exact .lit u
theorem zZk (hcx:CxOK P cx) (hrb:RB cx e st.blk κ w) {fs:List (Nat×Nat)} {places:Array (Nat×Nat)}
  (hp:∀ (i off T:Nat) (inf:TInfo),fs[i]? =some (off,T)->cx.ti T=some inf->places[i]? =some (off,inf.size)):
  ∀ (ps:List (Nat×AV ty)) (us:List (Nat×Value)) (cur:List Value) (cs cs':List (AV ty)),
   All2 (λ(u:Nat×Value) (p:Nat×AV ty)=>u.1=p.1/\zg9 cx e st κ w u.2 p.2) us ps->All2 (zg9 cx e st κ w) cur cs->zih cx st fs cs ps=some cs'->
   ∃ cur',Instr.fill (places[·]?) cur.toArray us=some cur'/\All2 (zg9 cx e st κ w) cur'.toList cs'
 | [],us,cur,cs,cs',hu,hc,h=>by
  rw [hu.nil_left.1];simp only [zih,qa] at h; subst h;exact ⟨cur.toArray,rfl,by simpa using hc⟩
 | (i,v)::r,us,cur,cs,cs',hu,hc,h=>by
  obtain ⟨⟨i',u⟩,us',rfl,⟨hi,hr⟩,hu'⟩:=hu.inv;simp only at hi hr; subst hi;simp only [zih] at h;split at h
  ·cases h
  ·rename_i off T hfo;split at h
   ·cases h
   ·rename_i inf hT;split at h
    ·cases h
    ·rename_i c hcl;split at h
     ·cases h
     ·rename_i hsz;split at h
      ·cases h
      ·rename_i cs1 hsp;obtain ⟨hle,rfl⟩:=zKZ hsp;obtain ⟨ha,h1⟩:=zDv hrb hr hcl
       have hsz:u.cells.size=inf.size:=by
        have:=ha.len;rw [Array.length_toList] at this;rw [this]; exact Nat.eq_of_beq_eq_true hsz
       have hlen:u.cells.toList.length=c.length:=ha.len;obtain ⟨cur',hfill,hres⟩:=zZk hcx hrb hp r us' (cur.take off++u.cells.toList++cur.drop (off+u.cells.toList.length)) _ cs' hu' (hc.splice ha off) h;refine ⟨cur', ?_,hres⟩
       have hoff:¬ (off+u.cells.size>cur.length):=by
        have:=hc.len;rw [<- Array.length_toList,hlen,this]; omega
       have hset:=z2F (cur:=cur) (off:=off) u.cells.toList (by rw [Array.length_toList]; omega)
       simp only [Array.toArray_toList] at hset;rw [<- hset] at hfill;simp only [Instr.fill,hp i' off T inf hfo hT,hsz]
       rw [show ((inf.size≠inf.size)||decide (off+inf.size>cur.toArray.size))=false by
        simp; rw [<- hsz]; omega]
       simpa using hfill
def zz4 (P:Program) (T:Nat):Nat:=((P.info? T).map (·.size)).getD 0
theorem z0o {α:Type} (f:α->Nat) (g:α->Nat):∀ (l:List α),(∀ x∈l,(P.info? (g x)).isSome=true)->
  (l.mapM λx=>do pure (f x, <- sizeOf (g x)):Sem (List (Nat×Nat))).run P w=.ok (l.map λx=>(f x,zz4 P (g x))) w
 | [],_=>by simp
 | x::l,h=>by
  obtain ⟨i,hi⟩:=Option.isSome_iff_exists.1 (h x (by simp))
  have ih:=z0o f g l λy hy=>h y (by simp [hy])
  have hx:(do pure (f x, <- sizeOf (g x)):Sem (Nat×Nat)).run P w=.ok (f x,zz4 P (g x)) w:=by simp [z5i hi,zz4,hi]
  rw [List.mapM_cons];rw [Sem.run_bind,hx,Result.andThen_ok,Sem.run_bind,ih];rfl
theorem zbaf {T:Nat} {parts:Array (Nat×Operand)} (hcx:CxOK P cx) (ho:o.op=.build T parts) (h:aop cx o st=some d) (hf:RF cx e st κ a w):o.wp P a w (λa' w'=>R cx e (st.app o.dst d) a' w') Q:=by
 unfold aop zed at h;simp only [ho] at h;split at h
 ·rename_i fs s b zz hT;obtain ⟨info,dd,z,hi,hu,hs,hb,hz,hzc,hzl,hz1,fields,rfl,hfs,hall⟩:=(hcx.ti T _ hT).ok;split at h
  ·rename_i cs hfill;simp only [qa] at h; subst h
   have hplaces:(fields.mapM λf=>do pure (f.offset, <- sizeOf f.type):Sem (Array (Nat×Nat))).run P w=.ok (fields.map λf=>(f.offset,zz4 P f.type)) w:=by
    have:=z0o (P:=P) (w:=w) (λf:Field=>f.offset) (λf=>f.type) fields.toList hall
    rw [Array.mapM_eq_mapM_toList];simp only [Sem.run_map,this,Result.andThen_ok];congr 1;apply Array.ext';simp
   obtain ⟨cur',hfl,hres⟩:=zZk (κ:=κ) hcx hf.rb (fs:=fs) (places:=fields.map λf=>(f.offset,zz4 P f.type)) (λi off T inf h1 h2=>by
     rw [<- hfs,List.getElem?_map] at h1;cases hfi:fields[i]? with
     | none=>simp [hfi] at h1
     | some fd=>
      simp only [Array.getElem?_toList,hfi,Option.map_some,qa,qb] at h1;obtain ⟨rfl,rfl⟩:=h1;obtain ⟨info',_,_,hi',_,hs',_⟩:=(hcx.ti _ _ h2).ok;simp [hfi,zz4,hi',hs'])
    (parts.toList.map λ(i,x)=>(i,st.ev x)) (parts.toList.map λ(i,x)=>(i,a.eval x)) z.cells.toList (zz.map .lit) cs
    (⟨by simp,λj u c hu hc=>by
     rw [List.getElem?_map] at hu hc;cases hx:parts.toList[j]? with
     | none=>rw [hx] at hu; cases hu
     | some x=>
      rw [hx] at hu hc;simp only [Option.map_some,qa] at hu hc;subst hu; subst hc;exact ⟨rfl,zca hf x.2⟩⟩)
    (by rw [hzc]; exact (zIX zz).imp λ_ _ h=>.rep h) hfill
   have heq:(Value.agg cur')=.agg cur'.toList.toArray:=by simp
   refine zW (v:=.agg cur') (w':=w) ?_ (hf.val (by rw [heq]; exact zOb hres))
   have hparts:(parts.map λ(i,x)=>(i,a.eval x)).toList=parts.toList.map λ(i,x)=>(i,a.eval x):=by simp
   simp only [Array.toArray_toList] at hfl;simp only [execOp,ho,Instr.build,Sem.run_bind,zIZ hi hz,Result.andThen_ok,zc8 hu,hplaces,hparts,hfl,Sem.run_pure]
  ·cases h
 ·cases h
theorem zuX (op:BinOp) (t:TypeId) (x y:Operand) {u v:Value} (h1:zbA u=true) (hi:u≠.nilIface):(eqGuard op t x y u v).run P w=.ok () w:=by
 unfold eqGuard;cases op <;>simp <;>(cases u <;>simp_all [zbA])
theorem z8I {op:BinOp} {k:IntKind} {x y:Int} {b:Bool} {v:AV ty} (h:z7O op k x y=some (b,v)) (hb:b=true) (T:Nat):
  ∃ u,(binOp op T (.int k x) (.int k y)).run P w=.ok u w/\v=.lit u:=by
 subst hb;unfold z7O at h;cases op
 case quo=>
  simp only [qa,qb,Bool.not_eq_true',decide_eq_false_iff_not] at h;obtain ⟨hy,rfl⟩:=h;exact ⟨_,by simp [binOp,Op.intDiv,hy],rfl⟩
 case rem=>
  simp only [qa,qb,Bool.not_eq_true',decide_eq_false_iff_not] at h;obtain ⟨hy,rfl⟩:=h;exact ⟨_,by simp [binOp,Op.intDiv,hy],rfl⟩
 case shr=>
  simp only [qa,qb,Bool.not_eq_true',decide_eq_false_iff_not] at h;obtain ⟨hy,rfl⟩:=h;exact ⟨_,by simp [binOp,Op.shift,hy],rfl⟩
 all_goals first
  | (simp at h; done)
  | (simp only [qa,qb,true_and] at h
     subst h;exact ⟨_,by simp [binOp,Op.intArith,Op.intCmp],rfl⟩)
theorem zIB (n:Nat) {T:Nat} (hu:P.underlying T=some .bool) (x y:Bool):(Op.equalIn (n+1) T (.bool x) (.bool y)).run P w=.ok (x==y) w:=by
 simp [Op.equalIn,zc8 hu]
theorem z4H {T:Nat} (hu:P.underlying T=some .bool) (x y:Bool):(binOp .eql T (.bool x) (.bool y)).run P w=.ok (.bool (x==y)) w:=by
 have:(Op.equal T (.bool x) (.bool y)).run P w=.ok (x==y) w:=zIB 9999 hu x y;simp only [binOp,Sem.run_bind,this,Result.andThen_ok,Sem.run_pure]
theorem z3Q {T:Nat} (hu:P.underlying T=some .bool) (x y:Bool):(binOp .neq T (.bool x) (.bool y)).run P w=.ok (.bool (!(x==y))) w:=by
 have:(Op.equal T (.bool x) (.bool y)).run P w=.ok (x==y) w:=zIB 9999 hu x y;simp only [binOp,Sem.run_bind,this,Result.andThen_ok,Sem.run_pure]
theorem zZX (m:Nat) {T el:Nat} (hu:P.underlying T=some (.slice el)) (ad:Option Addr) (n c:Nat):(Op.equalIn (m+1) T (.slice ad n c) (.slice none 0 0)).run P w=.ok ad.isNone w:=by
 cases ad <;>simp [Op.equalIn,zc8 hu]
theorem zOH {T el:Nat} (hu:P.underlying T=some (.slice el)) (ad:Option Addr) (n c:Nat):
  (binOp .eql T (.slice ad n c) (.slice none 0 0)).run P w=.ok (.bool ad.isNone) w/\(binOp .neq T (.slice ad n c) (.slice none 0 0)).run P w=.ok (.bool (!ad.isNone)) w:=by
 have:(Op.equal T (.slice ad n c) (.slice none 0 0)).run P w=.ok ad.isNone w:=zZX 9999 hu ad n c;exact ⟨by simp only [binOp,Sem.run_bind,this,Result.andThen_ok,Sem.run_pure],by simp only [binOp,Sem.run_bind,this,Result.andThen_ok,Sem.run_pure]⟩
theorem zVU (m:Nat) {T:Nat} {ms} (hu:P.underlying T=some (.interface ms)) (v:Value) (b:Bool) (hv:(v=.nilIface/\b=false)\/(∃ t u,v=.iface t u/\b=true)):
  (Op.equalIn (m+1) T v .nilIface).run P w=.ok (!b) w:=by
 rcases hv with ⟨rfl,rfl⟩ | ⟨t,u,rfl,rfl⟩ <;>simp [Op.equalIn,zc8 hu]
theorem z44 {T:Nat} {ms} (hu:P.underlying T=some (.interface ms)) (v:Value) (b:Bool) (hv:(v=.nilIface/\b=false)\/(∃ t u,v=.iface t u/\b=true)):
  (binOp .eql T v .nilIface).run P w=.ok (.bool (!b)) w/\(binOp .neq T v .nilIface).run P w=.ok (.bool b) w:=by
 have:(Op.equal T v .nilIface).run P w=.ok (!b) w:=zVU 9999 hu v b hv;exact ⟨by simp only [binOp,Sem.run_bind,this,Result.andThen_ok,Sem.run_pure],by simp only [binOp,Sem.run_bind,this,Result.andThen_ok,Sem.run_pure,Bool.not_not]⟩
theorem zUF:∀ (us:List Value) (cs:List (AV ty)) (xs:List Value),All2 (zg9 cx e st κ w) us cs->zEk cs=some xs->us=xs
 | us,[],xs,h,hl=>by
  simp only [zEk,qa] at hl; subst hl;exact h.nil_left.1
 | us,c::cs,xs,h,hl=>by
  obtain ⟨u,us',rfl,hu,h'⟩:=h.inv;cases c with
  | lit v=>
   simp only [zEk] at hl;split at hl
   ·rename_i vs hvs;simp only [qa] at hl; subst hl;rw [zcd hu,zUF us' cs vs h' hvs]
   ·cases hl
  | _=>simp [zEk] at hl
theorem z93 {op:BinOp} {T T':Nat} {x y:Operand} (hcx:CxOK P cx) (ho:o.op=.binOp op T x y T') (h:aop cx o st=some d) (hf:RF cx e st κ a w):o.wp P a w (λa' w'=>R cx e (st.app o.dst d) a' w') Q:=by
 unfold aop zed at h;simp only [ho] at h;have hx:=zca hf x;have hy:=zca hf y;split at h
 ·rename_i v herr;simp only [qa] at h; subst h;unfold zbaJ at herr;split at herr
  ·rename_i b hex;split at herr
   ·rename_i s b' z hT;obtain ⟨ms,hu⟩:=z8b hcx hT;rw [hex] at hx
    have key:∀ r:Bool,((op=.eql/\r= !b)\/(op=.neq/\r=b))->(execOp a.eval o).run P w=.ok (.value (.bool r)) w:=by
     intro r hr
     have hval:(a.eval x=.nilIface/\b=false)\/(∃ t u,a.eval x=.iface t u/\b=true):=by
      generalize a.eval x=v at hx;cases hx with
      | rep hx=>cases hx with
       | errN=>exact .inl ⟨rfl,rfl⟩
       | errS t u=>exact .inr ⟨t,u,rfl,rfl⟩
     have hy':a.eval (.const .nilIface)=.nilIface:=rfl;have hk:=z44 (w:=w) hu (a.eval x) b hval;rcases hr with ⟨rfl,rfl⟩ | ⟨rfl,rfl⟩
     ·rcases hval with ⟨e1,rfl⟩ | ⟨t,u,e1,rfl⟩
      ·rw [e1] at hk; simp only [execOp,ho,e1,hy',Sem.run_bind,eqGuard_nil_constR,Sem.run_pure,Result.andThen_ok,hk.1]
      ·rw [e1] at hk; simp only [execOp,ho,e1,hy',Sem.run_bind,eqGuard_at_iface,Sem.run_pure,Result.andThen_ok,hk.1]
     ·rcases hval with ⟨e1,rfl⟩ | ⟨t,u,e1,rfl⟩
      ·rw [e1] at hk; simp only [execOp,ho,e1,hy',Sem.run_bind,eqGuard_nil_constR,Sem.run_pure,Result.andThen_ok,hk.2]
      ·rw [e1] at hk; simp only [execOp,ho,e1,hy',Sem.run_bind,eqGuard_at_iface,Sem.run_pure,Result.andThen_ok,hk.2]
    split at herr
    ·simp only [qa] at herr; subst herr;exact zW (v:=.bool (!b)) (w':=w) (key _ (.inl ⟨rfl,rfl⟩)) (hf.val (.rep (.lit _)))
    ·simp only [qa] at herr; subst herr;exact zW (v:=.bool b) (w':=w) (key _ (.inr ⟨rfl,rfl⟩)) (hf.val (.rep (.lit _)))
    ·cases herr
   ·cases herr
  ·cases herr
 split at h
 ·rename_i b v hbin;obtain ⟨hb,h⟩:=zeL h;simp only [qa] at h; subst h;unfold zbau at hbin;split at hbin
  ·rename_i k m k' n hex hey;rw [hex] at hx; rw [hey] at hy;split at hbin
   ·rename_i hk; subst hk;obtain ⟨u,hrun,rfl⟩:=z8I (P:=P) (w:=w) hbin hb T;have e1:=zcd hx;have e2:=zcd hy;refine zW (v:=u) (w':=w) ?_ (hf.val (.rep (.lit u)));simp [execOp,ho,e1,e2,zuX (P:=P) (w:=w) op T x y (u:=.int k m) (v:=.int k n) rfl (by simp),hrun]
   ·cases hbin
  ·rename_i m n hex hey;rw [hex] at hx; rw [hey] at hy;have e1:=zcd hx;have e2:=zcd hy;have hg:=zuX (P:=P) (w:=w) op T x y (u:=.string m) (v:=.string n) rfl (by simp)
   unfold zbaB at hbin;cases op <;>simp only [qa,qb,reduceCtorEq] at hbin
   case add=>
    obtain ⟨h1,rfl⟩:=hbin;rw [hb,qe] at h1;refine zW (v:=.string (m++n)) (w':=w) ?_ (hf.val (.rep (.lit _)));simp only [execOp,ho,e1,e2,Sem.run_bind,hg,Result.andThen_ok,binOp,Op.stringOp];rw [if_neg (by rw [show IntKind.i64.max=9223372036854775807 by decide]; omega)]
    rfl
   case eql=>
    obtain ⟨_,rfl⟩:=hbin;exact zW (w':=w) (by simp only [execOp,ho,e1,e2,Sem.run_bind,hg,Result.andThen_ok,binOp,Op.stringOp,Sem.run_pure]) (hf.val (.rep (.lit _)))
   case neq=>
    obtain ⟨_,rfl⟩:=hbin;exact zW (w':=w) (by simp only [execOp,ho,e1,e2,Sem.run_bind,hg,Result.andThen_ok,binOp,Op.stringOp,Sem.run_pure]) (hf.val (.rep (.lit _)))
   case lss=>
    obtain ⟨_,rfl⟩:=hbin;exact zW (w':=w) (by simp only [execOp,ho,e1,e2,Sem.run_bind,hg,Result.andThen_ok,binOp,Op.stringOp,Sem.run_pure]) (hf.val (.rep (.lit _)))
  ·rename_i m n hex hey;rw [hex] at hx; rw [hey] at hy;have e1:=zcd hx;have e2:=zcd hy;have hg:=zuX (P:=P) (w:=w) op T x y (u:=.bool m) (v:=.bool n) rfl (by simp)
   split at hbin
   ·rename_i s b' z hT;have hu:=zbai hcx hT;split at hbin
    ·simp only [qa,qb] at hbin;obtain ⟨_,rfl⟩:=hbin;exact zW (v:=.bool (m==n)) (w':=w) (by simp only [execOp,ho,e1,e2,Sem.run_bind,hg,Result.andThen_ok,z4H hu,Sem.run_pure]) (hf.val (.rep (.lit _)))
    ·simp only [qa,qb] at hbin;obtain ⟨_,rfl⟩:=hbin;exact zW (v:=.bool (!(m==n))) (w':=w) (by simp only [execOp,ho,e1,e2,Sem.run_bind,hg,Result.andThen_ok,z3Q hu,Sem.run_pure]) (hf.val (.rep (.lit _)))
    ·cases hbin
   ·cases hbin
  ·rename_i cs cs' hex hey;rw [hex] at hx; rw [hey] at hy;obtain ⟨us,e1,ha⟩:=zM2 hx;obtain ⟨vs,e2,hb'⟩:=zM2 hy;split at hbin
   ·rename_i xs ys hxs hys;split at hbin
    ·rename_i r heq;rw [zUF _ _ _ ha hxs] at e1;rw [zUF _ _ _ hb' hys] at e2;obtain ⟨r1,r2,hg,_⟩:=hcx.eqs T xs ys r heq w;split at hbin
     ·simp only [qa,qb] at hbin;obtain ⟨_,rfl⟩:=hbin;exact zW (v:=.bool r) (w':=w) (by simp only [execOp,ho,e1,e2,Sem.run_bind,hg,Result.andThen_ok,r1,Sem.run_pure]) (hf.val (.rep (.lit _)))
     ·simp only [qa,qb] at hbin;obtain ⟨_,rfl⟩:=hbin;exact zW (v:=.bool (!r)) (w':=w) (by simp only [execOp,ho,e1,e2,Sem.run_bind,hg,Result.andThen_ok,r2,Sem.run_pure]) (hf.val (.rep (.lit _)))
     ·cases hbin
    ·cases hbin
   ·cases hbin
  ·rename_i ad n c hex hey;rw [hex] at hx; rw [hey] at hy;have e1:=zcd hx;have e2:=zcd hy;have hg:=zuX (P:=P) (w:=w) op T x y (u:=.slice ad n c) (v:=.slice none 0 0) rfl (by simp)
   split at hbin
   ·rename_i el s b' z hT;obtain ⟨he1,he2⟩:=zOH (w:=w) (zic hcx hT) ad n c;split at hbin
    ·simp only [qa,qb] at hbin;obtain ⟨_,rfl⟩:=hbin;exact zW (v:=.bool ad.isNone) (w':=w) (by simp only [execOp,ho,e1,e2,Sem.run_bind,hg,Result.andThen_ok,he1,Sem.run_pure]) (hf.val (.rep (.lit _)))
    ·simp only [qa,qb] at hbin;obtain ⟨_,rfl⟩:=hbin;exact zW (v:=.bool (!ad.isNone)) (w':=w) (by simp only [execOp,ho,e1,e2,Sem.run_bind,hg,Result.andThen_ok,he2,Sem.run_pure]) (hf.val (.rep (.lit _)))
    ·cases hbin
   ·cases hbin
  ·rename_i el l hex hey;rw [hex] at hx; rw [hey] at hy;have e2:=zcd hy;split at hbin
   ·rename_i el' s b' z hT
    have hnn:∀ q,some (!l.isEmpty,q)=some (b,v)->∃ ad n c,a.eval x=.slice (some ad) n c:=by
     intro q hq;simp only [qa,qb] at hq;have hne:l.isEmpty=false:=by have:=hq.1; rw [hb] at this; simpa using this
     revert hx;generalize a.eval x=u;intro hx;cases hx with
     | rep hr=>
      cases hr with
      | slE=>simp at hne
      | sl=>exact ⟨_,_,_,rfl⟩
    split at hbin
    ·obtain ⟨ad,n,c,e1⟩:=hnn _ hbin;obtain ⟨he1,he2⟩:=zOH (w:=w) (zic hcx hT) (some ad) n c;have hg:=zuX (P:=P) (w:=w) .eql T x y (u:=.slice (some ad) n c) (v:=.slice none 0 0) rfl (by simp)
     simp only [qa,qb] at hbin;obtain ⟨_,rfl⟩:=hbin;exact zW (v:=.bool false) (w':=w) (by simp only [execOp,ho,e1,e2,Sem.run_bind,hg,Result.andThen_ok,he1,Sem.run_pure]; rfl) (hf.val (.rep (.lit _)))
    ·obtain ⟨ad,n,c,e1⟩:=hnn _ hbin;obtain ⟨he1,he2⟩:=zOH (w:=w) (zic hcx hT) (some ad) n c;have hg:=zuX (P:=P) (w:=w) .neq T x y (u:=.slice (some ad) n c) (v:=.slice none 0 0) rfl (by simp)
     simp only [qa,qb] at hbin;obtain ⟨_,rfl⟩:=hbin;exact zW (v:=.bool true) (w':=w) (by simp only [execOp,ho,e1,e2,Sem.run_bind,hg,Result.andThen_ok,he2,Sem.run_pure]; rfl) (hf.val (.rep (.lit _)))
    ·cases hbin
   ·cases hbin
  ·cases hbin
 ·cases h
end
end
end Go.Ab
/- The operations that yield a value and leave the blocks alone, against the machine's: the third part: slices, indexes, lengths. -/
namespace Go.Ab
noncomputable section
variable {ty:Nat->Type}
section
variable {P:Program} {cx:Cx ty} {e:Env} {st:St ty} {κ:Nat->Value} {a:Act} {w:World} {o:Oper} {d:Delta ty} {Q:Exit->Act->World->Prop}
theorem zbbd {u:UnOp} {T:Nat} {x:Operand} (ho:o.op=.unOp u T x) (h:aop cx o st=some d) (hf:RF cx e st κ a w):o.wp P a w (λa' w'=>R cx e (st.app o.dst d) a' w') Q:=by
 unfold aop zed at h;simp only [ho] at h;have hx:=zca hf x;split at h
 ·rename_i b hex;rw [hex] at hx;simp only [qa] at h; subst h;exact zW (v:=.bool (!b)) (w':=w) (by simp only [execOp,ho,zcd hx,Op.unary,Sem.run_bind,Sem.run_pure,Result.andThen_ok]) (hf.val (.rep (.lit _)))
 ·rename_i k n hex;rw [hex] at hx;simp only [qa] at h; subst h;exact zW (v:=.int k (k.wrap (0 - n))) (w':=w) (by simp only [execOp,ho,zcd hx,Op.unary,Op.intArith,Sem.run_bind,Sem.run_pure,Result.andThen_ok]) (hf.val (.rep (.lit _)))
 ·cases h
theorem zTl (hrb:RB cx e st.blk κ w) {v:Value} {av:AV ty} {x:(T:Nat)×List (ty T)} {rd:List Nat} (hr:zg9 cx e st κ w v av) (h:zdm st av=some (x,rd)):
  ∃ ad cap,v=.slice ad x.2.length cap/\(ad=none->x.2=[]/\cap=0):=by
 cases av with
 | sl T l=>
  simp only [zdm,qa,qb] at h;obtain ⟨rfl,_⟩:=h;cases hr with
  | rep hr=>
   cases hr with
   | slE ad c T hn=>exact ⟨ad,c,rfl,λh=>⟨rfl,hn h⟩⟩
   | sl b off cap T l us=>exact ⟨_,cap,rfl,by simp⟩
 | own id=>
  simp only [zdm] at h;split at h
  ·rename_i T l fz hb;simp only [qa,qb] at h;obtain ⟨rfl,_⟩:=h;cases hr with
   | rep hr=>cases hr
   | own _ k m hk=>
    obtain ⟨xs,ho,_⟩:=hrb.row hb;rcases ho.2 with ⟨hv,h0⟩ | ⟨g,cap,cur,hv,_⟩
    ·have:l=[]:=List.eq_nil_of_length_eq_zero h0;subst this;exact ⟨none,0,hv,λ_=>⟨rfl,rfl⟩⟩
    ·exact ⟨_,cap,hv,by simp⟩
   | ownD _ _ hk=>simp [hb,Blk.kind] at hk
  ·cases h
 | sub id lo n=>
  simp only [zdm] at h;split at h
  ·rename_i T l fz hb;simp only [qa,qb] at h;obtain ⟨rfl,_⟩:=h;cases hr with
   | rep hr=>cases hr
   | sub _ _ _ _ k m hk hl hv=>
    simp only [hb,Blk.kind,Kind.arr.injEq] at hk;obtain ⟨rfl,rfl⟩:=hk;have hlen:((l.drop lo).take n).length=n:=by simp; omega
    obtain ⟨b,m',c',hκ⟩:=(hrb.row hb).slice;rw [hκ] at hv;unfold zmp at hv;simp only at hlen ⊢;split at hv
    ·rcases hv with rfl | ⟨rfl,_,b,c,rfl,hbc⟩
     ·exact ⟨_,_,by rw [hlen],by simp⟩
     ·exact ⟨b,c,by rw [hlen],λh=>⟨List.eq_nil_of_length_eq_zero hlen,hbc h⟩⟩
    ·obtain ⟨b,c,rfl,rfl,_,hbc⟩:=hv;exact ⟨b,c,by rw [hlen],λh=>⟨List.eq_nil_of_length_eq_zero hlen,hbc h⟩⟩
   | subD _ _ _ _ hk=>simp [hb,Blk.kind] at hk
  ·cases h
 | _=>simp [zdm] at h
theorem zUn (hf:RF cx e st κ a w) {x:Option Operand} {n:Option Int} (h:zwC st x=some n):x.map a.eval=n.map (Value.int .i64):=by
 cases x with
 | none=>simp only [zwC,qa] at h; subst h; rfl
 | some x=>
  simp only [zwC] at h;split at h
  ·rename_i m hm;simp only [qa] at h; subst h;simp only [Option.map_some];rw [zBK (zca hf x) hm]
  ·cases h
theorem z0t (isSlice:Bool) (len cap:Nat) (lo hi:Option Int) (hcap:len<=cap) (h1:0<=lo.getD 0) (h2:lo.getD 0<=hi.getD len) (h3:hi.getD len<=len):
  (Instr.sliceBounds isSlice len cap (lo.map (Value.int .i64)) (hi.map (Value.int .i64)) none).run P w=.ok ((lo.getD 0).toNat,(hi.getD len).toNat,cap) w:=by
 unfold Instr.sliceBounds;cases hi with
 | none=>
  cases lo with
  | none=>simp
  | some l=>
   simp only [Option.getD_some,Option.getD_none] at h1 h2 h3;simp [Instr.sliceBound,asIntOf,h1,h2]
 | some h=>
  simp only [Option.getD_some] at h2 h3;have hh:0<=h/\h<=(cap:Int):=by omega
  cases lo with
  | none=>simp [Instr.sliceBound,asIntOf,hh]
  | some l=>
   simp only [Option.getD_some] at h1 h2;have h4:(l<=(h.toNat:Int)):=by omega
   have e1:(Instr.sliceBound (.int .i64 h) cap (if isSlice then .sliceAcap else .sliceAlen)).run P w=.ok h.toNat w:=by simp [Instr.sliceBound,asIntOf,hh]
   have e2:(Instr.sliceBound (.int .i64 l) h.toNat .sliceB).run P w=.ok l.toNat w:=by
    simp only [Instr.sliceBound,asIntOf,Sem.run_bind,Sem.run_pure,Result.andThen_ok];rw [if_pos ⟨h1,h4⟩]; rfl
   simp only [Option.map_some,Sem.run_bind,Sem.run_pure,Result.andThen_ok,e1,Option.isSome_none,Bool.false_eq_true,if_false,e2,Option.getD_some]
theorem zbco {a b c:Bool} (h:(a&&b&&c)=true):a=true/\b=true/\c=true:=by simpa [and_assoc] using h
def zzu (ad:Option Addr) (k l h cap:Nat):Value:=.slice (if cap=l then ad else ad.map (·.add (l*k))) (h - l) (cap - l)
theorem zWp (hcx:CxOK P cx) {T e':Nat} {i:TInfo} (hu:P.underlying T=some (.slice e')) (hi:cx.ti e'=some i) {ad:Option Addr} {len cap:Nat} {lo hi':Option Int} (hcap:len<=cap)
  (h1:0<=lo.getD 0) (h2:lo.getD 0<=hi'.getD len) (h3:hi'.getD len<=len):
  (Instr.sliceAt T (.slice ad len cap) (lo.map (Value.int .i64)) (hi'.map (Value.int .i64)) none).run P w=.ok (zzu ad i.size (lo.getD 0).toNat (hi'.getD len).toNat cap) w:=by
 simp only [Instr.sliceAt,Instr.slice,Sem.run_bind,zc8 hu,Result.andThen_ok,z0t true len cap lo hi' hcap h1 h2 h3,zyX hcx hi,Sem.run_pure,zzu]
theorem zbbY {k l h n cap g:Nat} (hl:l<=h) (hh:h<=n) (hcap:n<=cap):zmp k l (h - l) (.slice (some ⟨g,0,none⟩) n cap) (zzu (some ⟨g,0,none⟩) k l h cap):=by
 unfold zmp zzu;by_cases hc:cap=l
 ·have:h - l=0:=by omega
  by_cases h0:l=0
  ·left; subst h0; simp [hc,ze3]
  ·right; exact ⟨this,by omega,some ⟨g,0,none⟩,cap - l,by rw [this,if_pos hc],by simp⟩
 ·left; rw [if_neg hc]; rfl
theorem zbbq {k l h n0 a0 cap n g:Nat} {v:Value} {c0:Nat} {ad:Option Addr} (hv:v=.slice ad n0 c0) (hs:zmp k a0 n0 (.slice (some ⟨g,0,none⟩) n cap) v) (hl:l<=h) (hh:h<=n0) (hn:a0+n0<=n) (hcap:n<=cap):
  zmp k (a0+l) (h - l) (.slice (some ⟨g,0,none⟩) n cap) (zzu ad k l h c0):=by
 unfold zmp at hs ⊢;subst hv;rcases hs with he | ⟨h0,hpos,b,c,he,hbc⟩
 ·simp only [Value.slice.injEq,true_and] at he;obtain ⟨rfl,rfl⟩:=he;unfold zzu;by_cases hc:cap - a0=l
  ·have:h - l=0:=by omega
   by_cases h1:a0+l=0
   ·left
    have:a0=0:=by omega
    have:l=0:=by omega
    subst_vars
    simp [ze3]
   ·right; exact ⟨this,by omega,some ((⟨g,0,none⟩:Addr).add (a0*k)),cap - a0 - l,by rw [this,if_pos hc],by simp⟩
  ·left
   rw [if_neg hc];simp only [Option.map_some,ze3,Nat.add_mul,Nat.zero_add];congr 1;omega
 ·simp only [Value.slice.injEq] at he;obtain ⟨rfl,_,rfl⟩:=he
  right
  refine ⟨by omega,by omega,_,_,by unfold zzu; rw [show h - l=0 by omega],λhn=> ?_⟩
  have:ad=none:=by
   split at hn
   ·exact hn
   ·simpa using hn
  rw [hbc this]; omega
theorem ziO {a b:Bool} (h:(a&&b)=true):a=true/\b=true:=by simpa using h
theorem zzO {F:Nat->Prop} {v:Value} {T:Nat} {l:List (ty T)} (h:zcW cx F w v T l):(v=.slice none 0 0/\l=[])\/∃ g cap,v=.slice (some ⟨g,0,none⟩) l.length cap/\l.length<=cap:=by
 obtain ⟨xs,ho,_⟩:=h;rcases ho.2 with ⟨hv,h0⟩ | ⟨g,cap,cur,hv,_,_,h1,_⟩
 ·exact .inl ⟨hv,List.eq_nil_of_length_eq_zero h0⟩
 ·exact .inr ⟨g,cap,hv,h1⟩
theorem z7h {F:Nat->Prop} (hcx:CxOK P cx) {T:Nat} {l:List (ty T)} {ad:Option Addr} {cap lo hi:Nat} {i:TInfo} (hi':cx.ti T=some i) (hr:Rep cx F w (.slice ad l.length cap) (.sl T l))
  (h1:lo<=hi) (h2:hi<=l.length):Rep cx F w (zzu ad i.size lo hi cap) (.sl T ((l.drop lo).take (hi - lo))):=by
 have hk:zp cx T=i.size:=by simp [zp,hi']
 have hlen:((l.drop lo).take (hi - lo)).length=hi - lo:=by simp; omega
 by_cases h0:hi - lo=0
 ·have hz:ad=none->cap=0:=by
   intro had;generalize hv:Value.slice ad l.length cap=v at hr;cases hr with
   | slE a' c T' hn=>simp only [Value.slice.injEq] at hv; obtain ⟨rfl,_,rfl⟩:=hv; exact hn had
   | sl=>simp only [Value.slice.injEq] at hv; rw [had] at hv; simp at hv
  unfold zzu;rw [h0]
  simpa using Rep.slE (cx:=cx) (F:=F) (w:=w) _ (cap - lo) T (λhn=>by
   have:ad=none:=by
    split at hn
    ·exact hn
    ·simpa using hn
   rw [hz this]; omega)
 ·generalize hv:Value.slice ad l.length cap=v at hr;generalize hl:(AV.sl T l:AV ty)=av at hr;cases hr with
  | sl b off cap' T' l' us hF hcap hlen' hc hr=>
   simp only [AV.sl.injEq] at hl;obtain ⟨rfl,hl⟩:=hl;have hl:=eq_of_heq hl;subst hl;simp only [Value.slice.injEq,true_and] at hv;obtain ⟨rfl,rfl⟩:=hv;unfold zzu;rw [if_neg (by omega)]
   simp only [Option.map_some,ze3]
   conv=>arg 4; rw [<- hlen]
   have e1:=zzw _ _ (hcx.len T) (l.drop lo) (hi - lo);have e2:=zs7 _ _ (hcx.len T) l lo;have ha:All2 (Rep cx F w) us (zct cx T l):=⟨hlen',hr⟩;have ha2:=(ha.drop (lo*zp cx T)).take ((hi - lo)*zp cx T);have ee:zct cx T ((l.drop lo).take (hi - lo))=((zct cx T l).drop (lo*zp cx T)).take ((hi - lo)*zp cx T):=by unfold zct; rw [e1,e2]
   rw [<- hk];refine .sl b (off+lo*zp cx T) (cap - lo) T _ ((us.drop (lo*zp cx T)).take ((hi - lo)*zp cx T)) hF (by rw [hlen]; omega) (by rw [ee]; exact ha2.len) (λj u hu=> ?_) (λj u c hu hc'=> ?_)
   ·rw [List.getElem?_take] at hu;split at hu
    ·rw [List.getElem?_drop] at hu;have:=hc _ u hu
     rwa [Nat.add_assoc]
    ·cases hu
   ·rw [ee] at hc';exact ha2.at_ j u c hu hc'
  | slE ad' c T'=>
   simp only [AV.sl.injEq] at hl;obtain ⟨rfl,hl⟩:=hl;have hl:=eq_of_heq hl;subst hl;simp at h2;omega
  | _=>cases hl
theorem zbag {T:Nat} {x:Operand} {lo hi:Option Operand} (hcx:CxOK P cx) (ho:o.op=.slice T x lo hi none) (h:aop cx o st=some d) (hf:RF cx e st κ a w):o.wp P a w (λa' w'=>R cx e (st.app o.dst d) a' w') Q:=by
 unfold aop zed at h;simp only [ho] at h;have hx:=zca hf x;split at h
 ·rename_i l0 h0 hlo hhi;have elo:=zUn hf hlo;have ehi:=zUn hf hhi;generalize hev:a.eval x=ve at hx;unfold zq1 at h;split at h
  ·-- a string
   rename_i s hex;rw [hex] at hx;have hve:=zcd hx;split at h
   ·rename_i sz bz z hT;obtain ⟨hb,h⟩:=zeL h;obtain ⟨h1,h2,h3⟩:=zbco hb;simp only [qe] at h1 h2 h3;simp only [qa] at h; subst h;have hu:=zuU hcx hT;have hbr:=z0t (P:=P) (w:=w) false s.size s.size l0 h0 (Nat.le_refl _) h1 h2 h3;refine zW (v:=.string (s.extract (l0.getD 0).toNat (h0.getD s.size).toNat)) (w':=w) ?_ (hf.val (.rep (.lit _)));simp only [execOp,ho,hev,hve,elo,ehi,Option.map_none,Instr.sliceAt,Instr.slice,Sem.run_bind,zc8 hu,Result.andThen_ok,Option.isSome_none,Bool.false_eq_true,if_false,hbr,Sem.run_pure]
   ·cases h
  ·-- the nil slice
   rename_i hex;rw [hex] at hx;have hve:=zcd hx;split at h
   ·rename_i e' s b z hT;have hu:=zic hcx hT;split at h
    ·cases h
    ·rename_i hse;obtain ⟨i,hi'⟩:=Option.isSome_iff_exists.1 hse;obtain ⟨hb,h⟩:=zeL h;obtain ⟨h1,h2⟩:=ziO hb;simp only [qe] at h1 h2;simp only [qa] at h; subst h;have:=zWp (w:=w) hcx hu hi' (ad:=none) (len:=0) (cap:=0) (lo:=l0) (hi':=h0) (Nat.le_refl _) (by omega) (by show _<=h0.getD 0; omega) (by show h0.getD 0<=0; omega)
     have hcut:zzu none i.size (l0.getD 0).toNat (h0.getD ((0:Nat):Int)).toNat 0=.slice none 0 0:=by
      have e1:(h0.getD ((0:Nat):Int))=0:=h2;rw [h1,e1]; simp [zzu]
     rw [hcut] at this;refine zW (v:=.slice none 0 0) (w':=w) ?_ (hf.val (.rep (.lit _)));simp only [execOp,ho,hev,hve,elo,ehi,Option.map_none,Sem.run_bind,this,Result.andThen_ok,Sem.run_pure]
   ·cases h
  ·rename_i hns hns2;split at h
   ·rename_i e' s b z T' xs rd hT hl;have hu:=zic hcx hT;split at h
    ·cases h
    ·rename_i heT;obtain ⟨heT,hse⟩:=ziO heT;have heT:e'=T':=Nat.eq_of_beq_eq_true heT;subst heT;obtain ⟨i,hi'⟩:=Option.isSome_iff_exists.1 hse;have hk:zp cx e'=i.size:=by simp [zp,hi']
     obtain ⟨hb,h⟩:=zeL h;obtain ⟨h1,h2,h3⟩:=zbco hb;simp only [qe] at h1 h2 h3;have n1:(l0.getD 0).toNat<=(h0.getD xs.length).toNat:=by omega
     have n2:(h0.getD xs.length).toNat<=xs.length:=by omega
     have run:∀ ad cap,ve=.slice ad xs.length cap->xs.length<=cap->(execOp a.eval o).run P w=.ok (.value (zzu ad i.size (l0.getD 0).toNat (h0.getD xs.length).toNat cap)) w:=by
      intro ad cap hve hcap;have:=zWp (w:=w) hcx hu hi' (ad:=ad) hcap h1 h2 h3;simp only [execOp,ho,hev,hve,elo,ehi,Option.map_none,Sem.run_bind,this,Result.andThen_ok,Sem.run_pure]
     generalize hex:st.ev x=av at hx hl h;cases av with
     | sl T2 l2=>
      simp only [zdm,qa,qb,Sigma.mk.injEq] at hl;obtain ⟨⟨rfl,hl⟩,_⟩:=hl;have hl:=eq_of_heq hl;subst hl;simp only [qa] at h; subst h;cases hx with
      | rep hx=>
       obtain ⟨ad,cap,hve,hcap⟩:∃ ad cap,ve=.slice ad l2.length cap/\l2.length<=cap:=by
        cases hx with
        | slE ad c=>exact ⟨ad,c,rfl,Nat.zero_le _⟩
        | sl b off cap _ _ us hF hcap=>exact ⟨_,cap,rfl,hcap⟩
       subst hve;exact zW (run ad cap rfl hcap) (hf.val (.rep (z7h hcx hi' hx n1 n2)))
     | own id=>
      simp only [zdm] at hl;split at hl
      ·rename_i T2 l2 fz hbl;simp only [qa,qb,Sigma.mk.injEq] at hl;obtain ⟨⟨rfl,hl⟩,rfl⟩:=hl;have hl:=eq_of_heq hl;subst hl;simp only [qa] at h; subst h;cases hx with
       | rep hx=>cases hx
       | own _ k m hk'=>
        have hk2:=hk';simp only [hbl,Blk.kind,Kind.arr.injEq] at hk2;obtain ⟨rfl,rfl⟩:=hk2;rcases zzO (hf.rb.row hbl) with ⟨hv,rfl⟩ | ⟨g,cap,hv,hcap⟩
        ·refine zW (run none 0 hv (Nat.zero_le _)) (hf.val (.sub _ id _ _ _ _ hk' (by simp at n1 n2 ⊢; omega) ?_))
         rw [hv];have e1:(h0.getD (([]:List (ty T2)).length:Int)).toNat=0:=by simpa using n2
         have e2:(l0.getD 0).toNat=0:=by omega
         simp only [zzu,e1,e2,zmp];exact ⟨none,0,by simp,by simp,by simp,by simp⟩
        ·refine zW (run _ cap hv hcap) (hf.val (.sub _ id _ _ _ _ hk' (by omega) ?_))
         rw [hv,hk];exact zbbY n1 n2 hcap
       | ownD _ _ hk'=>simp [hbl,Blk.kind] at hk'
      ·cases hl
     | sub id a0 n0=>
      simp only [zdm] at hl;split at hl
      ·rename_i T2 l2 fz hbl;simp only [qa,qb,Sigma.mk.injEq] at hl;obtain ⟨⟨rfl,hl⟩,rfl⟩:=hl;have hl:=eq_of_heq hl;subst hl;simp only [qa] at h; subst h;cases hx with
       | rep hx=>cases hx
       | sub _ _ _ _ k m hk' hlm hv'=>
        have hk2:=hk';simp only [hbl,Blk.kind,Kind.arr.injEq] at hk2;obtain ⟨rfl,rfl⟩:=hk2;have hlen:((l2.drop a0).take n0).length=n0:=by simp; omega
        rw [hlen] at run n1 n2 ⊢;have hv2:=hv';rcases zzO (hf.rb.row hbl) with ⟨hv,rfl⟩ | ⟨g,cap,hv,hcap⟩
        ·rw [hv] at hv2;unfold zmp at hv2;obtain ⟨b',c',rfl,rfl,hnil,hbc⟩:=hv2;refine zW (run b' c' rfl (Nat.zero_le _)) (hf.val (.sub _ id _ _ _ _ hk' (by omega) ?_))
         rw [hv];unfold zmp;have e1:(h0.getD ((0:Nat):Int)).toNat=0:=by omega
         have e2:(l0.getD 0).toNat=0:=by omega
         simp only [zzu,e1,e2]
         exact ⟨_,_,rfl,by simp,λh=>by
          have:a0=0:=by omega
          have:=hnil this;simp only [Value.slice.injEq,true_and] at this;obtain ⟨rfl,rfl⟩:=this
          simp,λhn=>by
           have:b'=none:=by
            split at hn
            ·exact hn
            ·simpa using hn
           rw [hbc this]⟩
        ·rw [hv] at hv2
         obtain ⟨ad,c0,hve⟩:∃ ad c0,ve=.slice ad n0 c0:=by
          unfold zmp at hv2;rcases hv2 with rfl | ⟨rfl,_,b',c',rfl,_⟩
          ·exact ⟨_,_,rfl⟩
          ·exact ⟨_,_,rfl⟩
         have hc0:n0<=c0:=by
          unfold zmp at hv2;rcases hv2 with h' | ⟨rfl,_⟩
          ·rw [hve] at h'; simp only [Value.slice.injEq,true_and] at h'; omega
          ·exact Nat.zero_le _
         refine zW (run ad c0 hve hc0) (hf.val (.sub _ id _ _ _ _ hk' (by omega) ?_))
         rw [hv,hk];rw [hk] at hv2;exact zbbq hve hv2 n1 n2 hlm hcap
       | subD _ _ _ _ hk'=>simp [hbl,Blk.kind] at hk'
      ·cases hl
     | _=>simp [zdm] at hl
   ·cases h
 ·cases h
end
end
end Go.Ab
/- The operations that yield a value and leave the blocks alone, against the machine's: the fourth part: indexes, lengths, min and max. -/
namespace Go.Ab
noncomputable section
variable {ty:Nat->Type}
section
variable {P:Program} {cx:Cx ty} {e:Env} {st:St ty} {κ:Nat->Value} {a:Act} {w:World} {o:Oper} {d:Delta ty} {Q:Exit->Act->World->Prop}
theorem z58 (hcx:CxOK P cx) {T e':Nat} {i:TInfo} (hu:P.underlying T=some (.slice e')) (hi:cx.ti e'=some i) {ad:Addr} {len cap:Nat} {n:Int} (h1:0<=n) (h2:n<len):
  (Instr.indexAt T (.slice (some ad) len cap) (.int .i64 n)).run P w=.ok (.pointer (some (ad.add (n.toNat *i.size)))) w:=by
 simp [Instr.indexAt,asIntOf,zc8 hu,h1,h2,zyX hcx hi]
theorem z9l (hcx:CxOK P cx) {F:Nat->Prop} {T:Nat} {l:List (ty T)} {b off:Nat} {us:List Value} (hF:F b) (hlen:us.length=(zct cx T l).length)
  (hc:∀ (j:Nat) u,us[j]? =some u->w.cell? ⟨b,off+j,none⟩=some u) (hr:All2 (Rep cx F w) us (zct cx T l)) {n:Nat} (hn:n<l.length) (dd:ty T):
  Rep cx F w (.pointer (some ⟨b,off+n*zp cx T,none⟩)) (.fptr T (l.getD n dd) 0):=by
 have e2:=zs7 _ _ (hcx.len T) l n;have hd:l.drop n=l[n]::l.drop (n+1):=List.drop_eq_getElem_cons hn
 have e:((zct cx T l).drop (n*zp cx T)).take (zp cx T)=cx.enc T (l.getD n dd):=by
  unfold zct;rw [<- e2,hd,List.flatMap_cons,List.take_append,hcx.len,Nat.sub_self,List.take_zero,List.append_nil,List.take_of_length_le (by rw [hcx.len]; exact Nat.le_refl _)]
  congr 1;simp [List.getD,hn]
 have hx:=(hr.drop (n*zp cx T)).take (zp cx T);rw [e] at hx
 have:=Rep.fptr (cx:=cx) (F:=F) (w:=w) b (off+n*zp cx T) 0 T (l.getD n dd) ((us.drop (n*zp cx T)).take (zp cx T)) hF hx.len (λj u hu=>by
  rw [List.getElem?_take] at hu;split at hu
  ·rw [List.getElem?_drop] at hu;have:=hc _ u hu
   rwa [Nat.add_assoc]
  ·cases hu) hx.at_
 simpa using this
theorem z3Y {T:Nat} {x ix:Operand} (hcx:CxOK P cx) (ho:o.op=.indexAddr T x ix) (h:aop cx o st=some d) (hf:RF cx e st κ a w):o.wp P a w (λa' w'=>R cx e (st.app o.dst d) a' w') Q:=by
 unfold aop zed at h;simp only [ho] at h;have hx:=zca hf x;generalize hev:a.eval x=ve at hx;split at h
 ·rename_i e' s b z n hT hn;have hu:=zic hcx hT;have hix:=zBK (zca hf ix) hn
  have run:∀ (i:TInfo) ad len cap,cx.ti e'=some i->ve=.slice (some ad) len cap->0<=n->n<(len:Int)->(execOp a.eval o).run P w=.ok (.value (.pointer (some (ad.add (n.toNat *i.size))))) w:=by
   intro i ad len cap hi hve h1 h2;have:=z58 (w:=w) hcx hu hi (ad:=ad) (cap:=cap) h1 h2;simp only [execOp,ho,hev,hve,hix,Sem.run_bind,this,Result.andThen_ok,Sem.run_pure]
  split at h
  ·rename_i T' l hex;rw [hex] at hx;split at h
   ·rename_i heT;obtain ⟨heT,hse⟩:=ziO heT;have heT:e'=T':=Nat.eq_of_beq_eq_true heT;subst heT;obtain ⟨i,hi⟩:=Option.isSome_iff_exists.1 hse;have hk:zp cx e'=i.size:=by simp [zp,hi]
    obtain ⟨hb,h⟩:=zeL h;obtain ⟨h1,h2⟩:=ziO hb;simp only [qe] at h1 h2;simp only [qa] at h; subst h;cases hx with
    | rep hx=>
     cases hx with
     | slE ad c=>simp at h2; omega
     | sl b off cap _ _ us hF hcap hlen hc hr=>
      refine zW (run i _ _ _ hi rfl h1 h2) (hf.val (.rep ?_));rw [ze3, <- hk];exact z9l hcx hF hlen hc ⟨hlen,hr⟩ (by omega) _
   ·cases h
  ·rename_i id hex;rw [hex] at hx;split at h
   ·rename_i T' l fz hbl;split at h
    ·rename_i heT;obtain ⟨heT,hse⟩:=ziO heT;have heT:e'=T':=Nat.eq_of_beq_eq_true heT;subst heT;obtain ⟨i,hi⟩:=Option.isSome_iff_exists.1 hse;have hk:zp cx e'=i.size:=by simp [zp,hi]
     obtain ⟨hb,h⟩:=zeL h;obtain ⟨h1,h2⟩:=ziO hb;simp only [qe] at h1 h2;simp only [qa] at h; subst h;cases hx with
     | rep hx=>cases hx
     | own _ k m hk'=>
      have hk2:=hk';simp only [hbl,Blk.kind,Kind.arr.injEq] at hk2;obtain ⟨rfl,rfl⟩:=hk2;rcases zzO (hf.rb.row hbl) with ⟨hv,rfl⟩ | ⟨g,cap,hv,hcap⟩
      ·simp at h2; omega
      ·refine zW (run i _ _ _ hi hv h1 h2) (hf.val ?_);rw [ze3, <- hk,Nat.zero_add];exact .eptr id n.toNat 0 g _ _ _ cap hk' (by omega) hv
     | ownD _ _ hk'=>simp [hbl,Blk.kind] at hk'
    ·cases h
   ·cases h
  ·rename_i id lo m' hex;rw [hex] at hx;split at h
   ·rename_i T' l fz hbl;split at h
    ·rename_i heT;obtain ⟨heT,hse⟩:=ziO heT;have heT:e'=T':=Nat.eq_of_beq_eq_true heT;subst heT;obtain ⟨i,hi⟩:=Option.isSome_iff_exists.1 hse;have hk:zp cx e'=i.size:=by simp [zp,hi]
     obtain ⟨hb,h⟩:=zeL h;obtain ⟨h1,h2⟩:=ziO hb;simp only [qe] at h1 h2;simp only [qa] at h; subst h;cases hx with
     | rep hx=>cases hx
     | sub _ _ _ _ k m hk' hlm hv'=>
      have hk2:=hk';simp only [hbl,Blk.kind,Kind.arr.injEq] at hk2;obtain ⟨rfl,rfl⟩:=hk2;rcases zzO (hf.rb.row hbl) with ⟨hv,rfl⟩ | ⟨g,cap,hv,hcap⟩
      ·simp at hlm; omega
      ·rw [hv] at hv';unfold zmp at hv';rcases hv' with hve | ⟨h0,_⟩
       ·refine zW (run i _ _ _ hi hve h1 h2) (hf.val ?_);rw [ze3,ze3, <- hk,Nat.zero_add, <- Nat.add_mul];exact .eptr id (lo+n.toNat) 0 g _ _ _ cap hk' (by omega) hv
       ·omega
     | subD _ _ _ _ hk'=>simp [hbl,Blk.kind] at hk'
    ·cases h
   ·cases h
  ·cases h
 ·cases h
theorem z9J {T:Nat} {x ix:Operand} (hcx:CxOK P cx) (ho:o.op=.index T x ix) (h:aop cx o st=some d) (hf:RF cx e st κ a w):o.wp P a w (λa' w'=>R cx e (st.app o.dst d) a' w') Q:=by
 unfold aop zed at h;simp only [ho] at h;have hx:=zca hf x;split at h
 ·rename_i s b z str n hT hex hn;have hu:=zuU hcx hT;have hix:=zBK (zca hf ix) hn;rw [hex] at hx;have hve:=zcd hx;obtain ⟨hb,h⟩:=zeL h;obtain ⟨h1,h2⟩:=ziO hb;simp only [qe] at h1 h2;simp only [qa] at h; subst h;have hlt:n.toNat<str.size:=by omega
  refine zW (v:=.int .u8 (zMs str n)) (w':=w) ?_ (hf.val (.rep (.lit _)))
  have hget:str[n.toNat]? =some (str[n.toNat]'hlt):=by
   exact getElem?_pos str n.toNat hlt
  simp only [execOp,ho,hve,hix,Instr.index,asIntOf,Sem.run_bind,Sem.run_pure,Result.andThen_ok,zc8 hu,h1,if_true,hget,zMs,dif_pos hlt]
 ·cases h
theorem zEX {f:Int->Int->Int} {g:Value->Value->Sem Value} (hg:∀ k x y,(g (.int k x) (.int k y)).run P w=.ok (.int k (f x y)) w) (hg':∀ k k' x y,(g (.int k x) (.int k' y)).run P w=.ok (.int k (f x y)) w):
  ∀ (us:List Value) (cs:List (AV ty)) (k:IntKind) (x:Int) (v:AV ty),All2 (zg9 cx e st κ w) us cs->zzU f k x cs=some v->
   ∃ u,(us.foldlM g (.int k x)).run P w=.ok u w/\v=.lit u
 | us,[],k,x,v,h,hv=>by
  rw [h.nil_left.1];simp only [zzU,qa] at hv; subst hv;exact ⟨_,rfl,rfl⟩
 | us,c::cs,k,x,v,h,hv=>by
  obtain ⟨u,us',rfl,hu,h'⟩:=h.inv;cases c with
  | lit y=>
   cases y with
   | int k' y=>
    simp only [zzU] at hv;obtain ⟨r,hr,rfl⟩:=zEX hg hg' us' cs k (f x y) v h' hv;refine ⟨r, ?_,rfl⟩;rw [zcd hu,List.foldlM_cons,Sem.run_bind,hg',Result.andThen_ok,hr]
   | _=>simp [zzU] at hv
  | _=>simp [zzU] at hv
theorem zw7 (hf:RF cx e st κ a w) (args:List Operand):All2 (zg9 cx e st κ w) (args.map a.eval) (args.map st.ev):=by
 refine ⟨by simp,λj u c hu hc=> ?_⟩
 rw [List.getElem?_map] at hu hc;cases hx:args[j]? with
 | none=>rw [hx] at hu; cases hu
 | some x=>
  rw [hx] at hu hc;simp only [Option.map_some,qa] at hu hc;subst hu; subst hc;exact zca hf x
theorem zr9 {b:Builtin} {args:Array Operand} {ts:Array TypeId} (ho:o.op=.call { callee:=.builtin b,args:=args,argTypes:=ts }):
  execOp a.eval o=builtin b ts o.type (args.map λ| .const _=>true | _=>false) (args.map a.eval):=by
 simp only [execOp,ho,resolve,invoke]; rfl
theorem zbcG {args:Array Operand} {ts:Array TypeId} (hcx:CxOK P cx) (ho:o.op=.call { callee:=.builtin .len,args:=args,argTypes:=ts }) (h:aop cx o st=some d) (hf:RF cx e st κ a w):o.wp P a w (λa' w'=>R cx e (st.app o.dst d) a' w') Q:=by
 unfold aop zed at h;simp only [ho] at h;have hall:=zw7 hf args.toList;have hex:=zr9 (a:=a) ho;unfold zgX at h;generalize hts:ts.toList=tl at h;generalize hvs:args.toList.map st.ev=vl at h hall
 match tl,vl,h,hall with
 | T::tr,[v],h,hall=>
  obtain ⟨u,us',hus,hu,h'⟩:=hall.inv;have hus':us'=[]:=h'.nil_left.1;subst hus';have hT0:ts[0]? =some T:=by rw [<- Array.getElem?_toList,hts]; rfl
  have hu0:(args.map a.eval)[0]? =some u:=by
   rw [<- Array.getElem?_toList,Array.toList_map,hus]; rfl
  have run:∀ v':Value,(Builtin.len_ ts o.type (args.map a.eval)).run P w=.ok v' w->(execOp a.eval o).run P w=.ok (.value v') w:=by
   intro v' hv';rw [hex];simp only [builtin,Sem.run_bind,hv',Result.andThen_ok,Sem.run_pure]
  simp only at h;split at h
  ·rename_i s b z hT;split at h
   ·rename_i str;simp only [qa] at h; subst h;have hve:=zcd hu;refine zW (run _ ?_) (hf.val (.rep (.lit _)));simp only [Builtin.len_,hT0,hu0,hve,Sem.run_bind,zc8 (zuU hcx hT),Result.andThen_ok,goInt,Sem.run_pure]
   ·cases h
  rotate_left
  ·rename_i kt vt s b z hT;split at h
   ·rename_i id;split at h
    ·rename_i K V l fz hbl;simp only [qa] at h; subst h;have hbk:=hf.rb.blk id;rw [hbl] at hbk;obtain ⟨bl,es,clock,hκ,hg,hent,_⟩:=hbk
     have hve:u=.map (some bl):=by
      cases hu with
      | rep hr=>cases hr
      | mp _ h=>exact hκ
      | mpD _ _ h=>simp [hbl,Blk.kind] at h
     refine zW (run _ ?_) (hf.val (.rep (.lit _)));have hlen:es.size=l.length:=by simpa using hent.len
     simp only [Builtin.len_,hT0,hu0,hve,Sem.run_bind,zc8 (zNq hcx hT),Result.andThen_ok,Go.MapKept.run_getObj_map hg,goInt,hlen,Sem.run_pure]
    ·cases h
   ·cases h
  ·cases h
  ·rename_i e' s b z hT;have hu':=zic hcx hT
   have fin:∀ (ad:Option Addr) (n cap:Nat),u=.slice ad n cap->(Builtin.len_ ts o.type (args.map a.eval)).run P w=.ok (.int .i64 n) w:=by
    rintro ad n cap rfl
    simp only [Builtin.len_,hT0,hu0,Sem.run_bind,zc8 hu',Result.andThen_ok,goInt,Sem.run_pure]
   split at h
   ·simp only [qa] at h; subst h;have hve:=zcd hu;exact zW (run _ (fin _ 0 0 hve)) (hf.val (.rep (.lit _)))
   ·rename_i id lo n;split at h
    ·rename_i T' l fz hbl;simp only [qa] at h; subst h;have hl:zdm st (.sub id lo n:AV ty)=some (⟨T',(l.drop lo).take n⟩,[id]):=by simp [zdm,hbl]
     obtain ⟨ad,cap,hve,_⟩:=zTl hf.rb hu hl;cases hu with
     | rep hu=>cases hu
     | sub _ _ _ _ k m hk' hlm hv'=>
      have hk2:=hk';simp only [hbl,Blk.kind,Kind.arr.injEq] at hk2;obtain ⟨rfl,rfl⟩:=hk2;have hlen:((l.drop lo).take n).length=n:=by simp; omega
      simp only [hlen] at hve;exact zW (run _ (fin _ n _ hve)) (hf.val (.rep (.lit _)))
     | subD _ _ _ _ hk'=>simp [hbl,Blk.kind] at hk'
    ·cases h
   ·split at h
    ·rename_i T' l rd hl;simp only [qa] at h; subst h;obtain ⟨ad,cap,hve,_⟩:=zTl hf.rb hu hl;exact zW (run _ (fin _ _ _ hve)) (hf.val (.rep (.lit _)))
    ·cases h
theorem zbcp {args:Array Operand} {ts:Array TypeId} (hcx:CxOK P cx) (ho:o.op=.call { callee:=.builtin .cap,args:=args,argTypes:=ts }) (h:aop cx o st=some d) (hf:RF cx e st κ a w):o.wp P a w (λa' w'=>R cx e (st.app o.dst d) a' w') Q:=by
 unfold aop zed at h;simp only [ho] at h;have hall:=zw7 hf args.toList;have hex:=zr9 (a:=a) ho;unfold zgX at h;generalize hts:ts.toList=tl at h;generalize hvs:args.toList.map st.ev=vl at h hall
 match tl,vl,h,hall with
 | T::tr,[.lit (.slice none 0 0)],h,hall=>
  obtain ⟨u,us',hus,hu,h'⟩:=hall.inv;have hus':us'=[]:=h'.nil_left.1;subst hus';have hT0:ts[0]? =some T:=by rw [<- Array.getElem?_toList,hts]; rfl
  have hu0:(args.map a.eval)[0]? =some u:=by
   rw [<- Array.getElem?_toList,Array.toList_map,hus]; rfl
  simp only at h;split at h
  ·rename_i e' s b z hT;have hu':=zic hcx hT;simp only [qa] at h; subst h;have hve:=zcd hu;refine zW (v:=.int .i64 0) (w':=w) ?_ (hf.val (.rep (.lit _)));rw [hex];simp only [builtin,Builtin.cap_,hT0,hu0,hve,Sem.run_bind,zc8 hu',Result.andThen_ok,goInt,Sem.run_pure];rfl
  ·cases h
theorem z2q {b:Builtin} {args:Array Operand} {ts:Array TypeId} (hb:b=.min\/b=.max) (ho:o.op=.call { callee:=.builtin b,args:=args,argTypes:=ts }) (h:aop cx o st=some d) (hf:RF cx e st κ a w):o.wp P a w (λa' w'=>R cx e (st.app o.dst d) a' w') Q:=by
 unfold aop zed at h;simp only [ho] at h;have hall:=zw7 hf args.toList;have hex:=zr9 (a:=a) ho;unfold zgX at h;generalize hvs:args.toList.map st.ev=vl at h hall;rcases hb with rfl | rfl
 ·match vl,h,hall with
  | .lit (.int k x)::r,h,hall=>
   obtain ⟨u,us',hus,hu,h'⟩:=hall.inv;simp only at h;split at h
   ·rename_i v hv;simp only [qa] at h; subst h;obtain ⟨r',hr,rfl⟩:=zEX (P:=P) (g:=Builtin.min2) (λ_ _ _=>by simp [Builtin.min2]) (λ_ _ _ _=>by simp [Builtin.min2]) us' r k x v h' hv
    refine zW (v:=r') (w':=w) ?_ (hf.val (.rep (.lit _)));have hl:(args.map a.eval).toList=.int k x::us':=by rw [Array.toList_map,hus,zcd hu]
    rw [hex];simp only [builtin,Builtin.min_,hl,Sem.run_bind,hr,Result.andThen_ok,Sem.run_pure]
   ·cases h
 ·match vl,h,hall with
  | .lit (.int k x)::r,h,hall=>
   obtain ⟨u,us',hus,hu,h'⟩:=hall.inv;simp only at h;split at h
   ·rename_i v hv;simp only [qa] at h; subst h;obtain ⟨r',hr,rfl⟩:=zEX (P:=P) (g:=Builtin.max2) (λ_ _ _=>by simp [Builtin.max2]) (λ_ _ _ _=>by simp [Builtin.max2]) us' r k x v h' hv
    refine zW (v:=r') (w':=w) ?_ (hf.val (.rep (.lit _)));have hl:(args.map a.eval).toList=.int k x::us':=by rw [Array.toList_map,hus,zcd hu]
    rw [hex];simp only [builtin,Builtin.max_,hl,Sem.run_bind,hr,Result.andThen_ok,Sem.run_pure]
   ·cases h
end
end
end Go.Ab
/- The operations that make or write memory of the call's own, against the machine's. -/
namespace Go.Ab
noncomputable section
variable {ty:Nat->Type}
section
variable {P:Program} {cx:Cx ty} {e:Env} {st:St ty} {κ:Nat->Value} {a:Act} {w:World} {o:Oper} {d:Delta ty} {Q:Exit->Act->World->Prop}
theorem zbz (b:List (Blk ty)) (i j:Nat) (x:Blk ty):(gD .none (b.set i x) j)=if i=j/\i<b.length then x else (gD .none b j):=by
 simp only [zie,List.getD_eq_getElem?_getD,List.getElem?_set];by_cases h:i=j
 ·subst h;by_cases h':i<b.length <;>simp [h']
 ·simp [h]
theorem Blk.freeze_unfz {b:Blk ty}:¬ b.freeze.unfz:=by cases b <;>simp [Blk.freeze,Blk.unfz]
theorem Blk.freeze_id {b:Blk ty} (h:¬ b.unfz):b.freeze=b:=by cases b <;>simp_all [Blk.freeze,Blk.unfz]
theorem Blk.freeze_kind {b:Blk ty}:b.freeze.kind cx=b.kind cx:=by cases b <;>rfl
theorem Blk.freeze_freeze {b:Blk ty}:b.freeze.freeze=b.freeze:=by cases b <;>rfl
theorem zoU:∀ (ids:List Nat) (b:List (Blk ty)) (j:Nat),(gD .none (zbO b ids) j)=if j∈ids then ((gD .none b j)).freeze else (gD .none b j)
 | [],b,j=>by simp [zbO]
 | i::r,b,j=>by
  simp only [zbO,zoU r,zbz];by_cases h:i=j
  ·subst h;by_cases hl:i<b.length
   ·simp [hl,Blk.freeze_freeze]
   ·have:(gD .none b i)=.none:=by simp [zie,List.getD_eq_getElem?_getD,List.getElem?_eq_none (Nat.le_of_not_lt hl)]
    simp [hl,this,Blk.freeze]
  ·simp [h,Ne.symm h]
theorem zij:∀ (ids:List Nat) (b:List (Blk ty)),(zbO b ids).length=b.length
 | [],b=>rfl
 | i::r,b=>by simp [zbO,zij r]
theorem zlQ {i:Nat} (h:zeY st i=true):st.blk i=.none/\i<st.blks.length:=by
 rw [zGQ] at h;split at h
 ·rename_i hb;exact ⟨by simp [St.blk,zie,List.getD_eq_getElem?_getD,hb],(List.getElem?_eq_some_iff.1 hb).1⟩
 ·cases h
theorem zbbR {i:Nat} (h:(st.blk i).kind cx≠.none):i<st.blks.length:=by
 rcases Nat.lt_or_ge i st.blks.length with h' | h'
 ·exact h'
 ·exact absurd (by simp [St.blk,zie,List.getD_eq_getElem?_getD,List.getElem?_eq_none h',Blk.kind]) h
theorem Compat.trans {B' B'':Nat->Blk ty} {κ' κ'':Nat->Value} {w' w'':World} {B0:Nat->Blk ty} (h:Compat cx e B0 κ w B' κ' w') (h':Compat cx e B' κ' w' B'' κ'' w''):Compat cx e B0 κ w B'' κ'' w'':=by
 refine ⟨λb hb=> ?_,λid hid=> ?_⟩
 ·obtain ⟨h1,h2⟩:=h.fz b hb;obtain ⟨h3,h4⟩:=h'.fz b h1;exact ⟨h3,h4.trans h2⟩
 ·rcases h.kd id hid with ⟨h1,h2⟩ | h1
  ·rcases h'.kd id (by rw [h1]; exact hid) with ⟨h3,h4⟩ | h3
   ·exact .inl ⟨h3.trans h1,h4.trans h2⟩
   ·exact .inr h3
  ·rcases h'.kd id (by rw [h1]; simp) with ⟨h3,_⟩ | h3
   ·exact .inr (h3.trans h1)
   ·exact .inr h3
theorem zuY (h:RB cx e st.blk κ w) (ids:List Nat):
  RB cx e (λj=>(gD .none (zbO st.blks ids) j)) κ w/\Compat cx e st.blk κ w (λj=>(gD .none (zbO st.blks ids) j)) κ w:=by
 refine h.step (λi=>i∈ids/\(st.blk i).unfz) rfl rfl rfl (Nat.le_refl _) (λb _=>.inl rfl) (λid hid=>⟨?_,rfl⟩) (λid hid _=>.inl ⟨?_,rfl⟩) (λid b hid hl hb=> ?_) (λi j b _ hj _ hu _ _=> ?_) (λid hid hc=> ?_)
 ·simp only [zoU];split
  ·rename_i hm;exact Blk.freeze_id λhu=>hid ⟨hm,hu⟩
  ·rfl
 ·simp only [zoU,if_pos hid.1]; exact Blk.freeze_kind
 ·exact ⟨(h.old id b hid.2.live hb).2,.inl ⟨id,hid,hid.2,hb⟩⟩
 ·simp only [zoU,if_pos hj.1] at hu; exact absurd hu Blk.freeze_unfz
 ·change zKF _ _ _ _ _ _ ((gD .none (zbO st.blks ids) id))
  have hk:=(h.blk id).keep (F':=Fz e (λj=>(gD .none (zbO st.blks ids) j)) κ w) (w':=w) (kd':=λi=>((gD .none (zbO st.blks ids) i)).kind cx) (κ':=κ) (λ_ _ _=>rfl) (λv a=>hc.rep) (λv a=>hc.rep')
  rw [show (gD .none (zbO st.blks ids) id)=(st.blk id).freeze by rw [zoU,if_pos hid.1]; rfl]
  cases hb:st.blk id with
  | box cs fz=>rw [hb] at hk; exact hk
  | arr T l fz=>rw [hb] at hk; exact hk
  | mp K V l fz=>rw [hb] at hk; exact hk
  | none=>trivial
  | dead=>trivial
theorem ztj {B:List (Blk ty)} {κ:Nat->Value} {w w':World} {n:Nat} {nb:Blk ty} {v:Value} (h:RB cx e (λj=>(gD .none B j)) κ w) (hn:(gD .none B n)=.none) (hlt:n<B.length)
  (hos:w'.os=w.os) (htape:w'.tape=w.tape) (hout:w'.output=w.output) (hsize:w.heap.size<=w'.heap.size) (hheap:∀ b,b<w.heap.size->w'.heap[b]? =w.heap[b]?)
  (hv:∀ b,zba v=some b->w.heap.size<=b/\b<w'.heap.size)
  (hblk:Compat cx e (λj=>(gD .none B j)) κ w (λj=>(gD .none (B.set n nb) j)) (λi=>if i=n then v else κ i) w'->zKF cx (Fz e (λj=>(gD .none (B.set n nb) j)) (λi=>if i=n then v else κ i) w') w' (λi=>((gD .none (B.set n nb) i)).kind cx) (λi=>if i=n then v else κ i) v nb)
  (hdr:cx.dr=true->w.drawn<=w'.drawn:=by first | exact λ_=>Nat.le_refl _ | assumption | exact λ_=>by assumption):
  RB cx e (λj=>(gD .none (B.set n nb) j)) (λi=>if i=n then v else κ i) w'/\Compat cx e (λj=>(gD .none B j)) κ w (λj=>(gD .none (B.set n nb) j)) (λi=>if i=n then v else κ i) w':=by
 refine h.step (λi=>i=n) hos htape hout hsize (λb hb=>.inl (hheap b hb)) (λid hid=>⟨?_,by simp [hid]⟩) (λid hid hk=> ?_) (λid b hid hl hb=> ?_) (λi j b hi hj _ _ _ _=>hi.trans hj.symm) (λid hid hc=> ?_) hdr
 ·simp only [zbz]; rw [if_neg (λhh=>hid hh.1.symm)]
 ·subst hid; exact absurd (by simp only [hn,Blk.kind]) hk
 ·subst hid;simp only [if_true] at hb;exact ⟨(hv b hb).2,.inr (hv b hb).1⟩
 ·subst hid;simp only [if_true];have:=hblk hc;rw [zbz,if_pos ⟨rfl,hlt⟩];exact this
theorem zCC {B:List (Blk ty)} {κ:Nat->Value} {w w':World} {n:Nat} {nb:Blk ty} (h:RB cx e (λj=>(gD .none B j)) κ w) (hu:((gD .none B n)).unfz) (hk:nb.kind cx=((gD .none B n)).kind cx)
  (hos:w'.os=w.os) (htape:w'.tape=w.tape) (hout:w'.output=w.output) (hsize:w.heap.size=w'.heap.size) (hheap:∀ b,b<w.heap.size->w'.heap[b]? =w.heap[b]? \/zba (κ n)=some b)
  (hblk:Compat cx e (λj=>(gD .none B j)) κ w (λj=>(gD .none (B.set n nb) j)) κ w'->zKF cx (Fz e (λj=>(gD .none (B.set n nb) j)) κ w') w' (λi=>((gD .none (B.set n nb) i)).kind cx) κ (κ n) nb)
  (hdr:cx.dr=true->w.drawn<=w'.drawn:=by first | exact λ_=>Nat.le_refl _ | assumption | exact λ_=>by assumption):
  RB cx e (λj=>(gD .none (B.set n nb) j)) κ w'/\Compat cx e (λj=>(gD .none B j)) κ w (λj=>(gD .none (B.set n nb) j)) κ w':=by
 have hlt:n<B.length:=by
  rcases Nat.lt_or_ge n B.length with h' | h'
  ·exact h'
  ·rw [show (gD .none B n)=.none by simp [zie,List.getD_eq_getElem?_getD,List.getElem?_eq_none h']] at hu
   exact hu.elim
 refine h.step (λi=>i=n) hos htape hout (by omega) (λb hb=> ?_) (λid hid=>⟨?_,rfl⟩) (λid hid _=>.inl ⟨?_,rfl⟩) (λid b hid hl hb=> ?_) (λi j b hi hj _ _ _ _=>hi.trans hj.symm) (λid hid hc=> ?_) hdr
 ·rcases hheap b hb with h' | h'
  ·exact .inl h'
  ·exact .inr ⟨n,rfl,hu,h'⟩
 ·simp only [zbz]; rw [if_neg (λhh=>hid hh.1.symm)]
 ·subst hid; rw [zbz,if_pos ⟨rfl,hlt⟩]; exact hk
 ·subst hid;exact ⟨by rw [<- hsize]; exact (h.old id b hu.live hb).2,.inl ⟨id,rfl,hu,hb⟩⟩
 ·subst hid;rw [zbz,if_pos ⟨rfl,hlt⟩];exact hblk hc
theorem zHq (dst:Option Tmp) (d:Delta ty):(st.app dst d).blk=λj=>(gD .none (zcc (zbO st.blks d.fz) d.wr) j):=by funext j; unfold St.blk; rw [St.app_blks]
theorem zc7 {dst:Option Tmp} {v:AV ty} {n:Nat} {nb:Blk ty} {fz rd:List Nat}:(st.app dst { val:=v,wr:=[(n,nb)],fz:=fz,rd:=rd }).blk=λj=>(gD .none ((zbO st.blks fz).set n nb) j):=by funext j; unfold St.blk; rw [St.app_blks]; rfl
theorem wp_skip {Q:Exit->Act->World->Prop} {next:Act->World->Prop} {w':World} (h:(execOp a.eval o).run P w=.ok .skip w') (hn:next (a.put o.dst undef) w'):o.wp P a w next Q:=by
 unfold Oper.wp; rw [h]; exact hn
theorem z98 {T:Nat} (hcx:CxOK P cx) (ho:o.op=.alloc T) (h:aop cx o st=some d) (hf:RF cx e st κ a w):o.wp P a w (λa' w'=>R cx e (st.app o.dst d) a' w') Q:=by
 unfold aop zed at h;simp only [ho] at h;split at h
 ·rename_i i dd hT hdst;obtain ⟨hfree,h⟩:=zeL h;simp only [qa] at h; subst h;obtain ⟨hn,hlt⟩:=zlQ hfree;obtain ⟨info,desc,z,hi,hu,hs,hb,hz,hzc,hzl,hz1,hd⟩:=(hcx.ti T _ hT).ok
  have hst:=ztj (w':=w.alloc (.cells z.cells T)) (nb:=.box (i.zero.map .lit) false) (v:=.pointer (some ⟨w.heap.size,0,none⟩)) hf.rb hn hlt rfl rfl rfl (by simp) (λb hb=>heap_alloc_old w _ b hb)
   (λb hb=>by simp [zba] at hb; subst hb; simp)
   (λhc=>⟨w.heap.size,z.cells,T,rfl,heap_alloc_new w _,by rw [hzc]; exact (zIX i.zero).imp λ_ _ h=>.rep h⟩)
  refine zW (v:=.pointer (some ⟨w.heap.size,0,none⟩)) (w':=w.alloc (.cells z.cells T)) ?_ ⟨_,hf.put (κ':=λi=>if i=zK dd then .pointer (some ⟨w.heap.size,0,none⟩) else κ i) ?_ ?_ (λ_=> ?_)⟩
  ·simp [execOp,ho,Instr.alloc,zIZ hi hz,newVar,newRow]
  ·rw [zc7]; exact hst.1
  ·rw [zc7]; exact hst.2
  ·rw [zc7];refine .ptr _ 0 w.heap.size ?_ (by simp)
   change Blk.kind cx ((gD .none (st.blks.set (zK dd) _) (zK dd)))=_
   rw [zbz,if_pos ⟨rfl,hlt⟩]; rfl
 ·cases h
theorem zbca {T:Nat} {x:Operand} (hcx:CxOK P cx) (ho:o.op=.box T x) (h:aop cx o st=some d) (hf:RF cx e st κ a w):o.wp P a w (λa' w'=>R cx e (st.app o.dst d) a' w') Q:=by
 unfold aop zed at h;simp only [ho] at h;split at h
 ·rename_i i dd cs hT hdst hcs;obtain ⟨hfree,h⟩:=zeL h;simp only [qa] at h; subst h;obtain ⟨hn,hlt⟩:=zlQ hfree;obtain ⟨ha,h1⟩:=zDv hf.rb (zca hf x) hcs
  have hst:=ztj (w':=w.alloc (.cells (a.eval x).cells T)) (nb:=.box cs false) (v:=.pointer (some ⟨w.heap.size,0,none⟩)) hf.rb hn hlt rfl rfl rfl (by simp) (λb hb=>heap_alloc_old w _ b hb)
   (λb hb=>by simp [zba] at hb; subst hb; simp)
   (λhc=>⟨w.heap.size,_,T,rfl,heap_alloc_new w _,ha.imp λ_ _ h=>hc.rep h⟩)
  refine zW (v:=.pointer (some ⟨w.heap.size,0,none⟩)) (w':=w.alloc (.cells (a.eval x).cells T)) ?_ ⟨_,hf.put (κ':=λi=>if i=zK dd then .pointer (some ⟨w.heap.size,0,none⟩) else κ i) ?_ ?_ (λ_=> ?_)⟩
  ·simp [execOp,ho,Instr.box,newVar,newRow]
  ·rw [zc7]; exact hst.1
  ·rw [zc7]; exact hst.2
  ·rw [zc7];refine .ptr _ 0 w.heap.size ?_ (by simp)
   change Blk.kind cx ((gD .none (st.blks.set (zK dd) _) (zK dd)))=_
   rw [zbz,if_pos ⟨rfl,hlt⟩]; rfl
 ·cases h
theorem zBo {f:AV ty->Option (AV ty×List Nat)} (hf:∀ av a' ids,f av=some (a',ids)->∀ id∈ids,(st.blk id).live):∀ (cs cs':List (AV ty)) (ids:List Nat),ze7 f cs=some (cs',ids)->∀ id∈ids,(st.blk id).live
 | [],cs',ids,h=>by
  simp only [ze7,qa,qb] at h;obtain ⟨_,rfl⟩:=h;simp
 | c::cs,cs',ids,h=>by
  simp only [ze7] at h;split at h
  ·cases h
  ·rename_i c' i hc;split at h
   ·cases h
   ·rename_i cs'' is hcs;simp only [qa,qb] at h;obtain ⟨_,rfl⟩:=h;intro id hid;rcases List.mem_append.1 hid with h1 | h1
    ·exact hf _ _ _ hc id h1
    ·exact zBo hf cs cs'' is hcs id h1
theorem zT3:∀ (n:Nat) (av a':AV ty) (ids:List Nat),zbt cx st n av=some (a',ids)->∀ id∈ids,(st.blk id).live
 | 0,_,_,_,h=>by simp [zbt] at h
 | n+1,av,a',ids,h=>by
  have ih:=zT3 n;cases av <;>simp only [zbt] at h
  case mp=>cases h
  case lit | sl | fptr | bptr | err=>simp only [qa,qb] at h; obtain ⟨_,rfl⟩:=h; simp
  case own | sub | eptr=>
   split at h
   ·rename_i hb;simp only [qa,qb] at h; obtain ⟨_,rfl⟩:=h;simp [hb,Blk.live]
   ·cases h
  case ptr=>
   split at h
   ·rename_i hb;split at h
    ·rename_i cs' is hm;simp only [qa,qb] at h; obtain ⟨_,rfl⟩:=h;intro id hid;rcases qd.1 hid with rfl | h1
     ·rw [hb]; trivial
     ·exact zBo ih _ _ _ hm id h1
    ·cases h
   ·cases h
  case agg | fn=>
   split at h
   ·rename_i cs' is hm;simp only [qa,qb] at h; obtain ⟨_,rfl⟩:=h;exact zBo ih _ _ _ hm
   ·cases h
  case tup | dead=>cases h
abbrev FzB (st:St ty) (fz:List Nat):Nat->Blk ty:=λj=>(gD .none (zbO st.blks fz) j)
theorem z5g (h:RB cx e st.blk κ w) {fz:List Nat} {id b:Nat} (hid:id∈fz) (hl:(st.blk id).live) (hb:zba (κ id)=some b):Fz e (FzB st fz) κ w b:=by
 refine ⟨.inr (h.old id b hl hb).1,(h.old id b hl hb).2,λj hj hbj=> ?_⟩
 have hjm:j∉fz:=λhm=>by
  simp only [FzB,zoU,if_pos hm] at hj;exact Blk.freeze_unfz hj
 simp only [FzB,zoU,if_neg hjm] at hj;exact hjm ((h.sep id j b hl hj hb hbj) ▸ hid)
theorem zMQ (hcx:CxOK P cx) (h:RB cx e st.blk κ w) {fz:List Nat} {n:Nat} {v:Value} {av a':AV ty} {ids:List Nat} (hr:zg9 cx e st κ w v av) (hp:zbt cx st n av=some (a',ids)) (hi:∀ id∈ids,id∈fz):
  Rep cx (Fz e (FzB st fz) κ w) w v a':=
 zIO hcx h _ (λb hb=>((zuY h fz).2.fz b hb).1) n v av a' ids hr hp λid hid b hb=>z5g h (hi id hid) (zT3 n av a' ids hp id hid) hb
theorem zY7 (hcx:CxOK P cx) (h:RB cx e st.blk κ w) {fz:List Nat} {n:Nat} {us:List Value} {cs cs':List (AV ty)} {ids:List Nat} (hr:All2 (zg9 cx e st κ w) us cs) (hp:ze7 (zbt cx st n) cs=some (cs',ids)) (hi:∀ id∈ids,id∈fz):
  All2 (Rep cx (Fz e (FzB st fz) κ w) w) us cs':=
 zE1 (κ:=κ) (λv av a' ids hr hp hi=>zIO hcx h _ (λb hb=>((zuY h fz).2.fz b hb).1) n v av a' ids hr hp hi) us cs cs' ids hr hp λid hid b hb=>
  z5g h (hi id hid) (zBo (λav a' ids=>zT3 n av a' ids) cs cs' ids hp id hid) hb
theorem z5q {α β:Type} (f:α->List β) (k:Nat) (hk:∀ x,(f x).length=k):∀ (l:List α) (i:Nat) (x:α),i<l.length->(l.set i x).flatMap f=(l.flatMap f).take (i*k)++f x++(l.flatMap f).drop ((i+1)*k)
 | [],i,x,h=>by simp at h
 | y::l,0,x,h=>by
  simp only [List.set_cons_zero,List.flatMap_cons,Nat.zero_mul,List.take_zero,List.nil_append,Nat.zero_add,Nat.one_mul];rw [List.drop_append,List.drop_eq_nil_of_le (as:=f y) (by rw [hk]; exact Nat.le_refl _),hk,Nat.sub_self,List.drop_zero,List.nil_append]
 | y::l,i+1,x,h=>by
  have ih:=z5q f k hk l i x (by simpa using h)
  have m1:(i+1)*k=i*k+k:=Nat.succ_mul i k;have m2:(i+1+1)*k=(i+1)*k+k:=Nat.succ_mul (i+1) k;simp only [List.set_cons_succ,List.flatMap_cons,ih];rw [List.take_append,List.take_of_length_le (l:=f y) (by rw [hk]; omega),List.drop_append,List.drop_eq_nil_of_le (as:=f y) (by rw [hk]; omega),hk,List.nil_append]
  rw [show (i+1)*k - k=i*k by omega,show (i+1+1)*k - k=(i+1)*k by omega]
  simp [List.append_assoc]
theorem z81 {α:Type} (xs new:List α) (p off k:Nat) (h1:off+new.length<=k) (h2:p+k<=xs.length):
  xs.take (p+off)++new++xs.drop (p+off+new.length)=xs.take p++(((xs.drop p).take k).take off++new++((xs.drop p).take k).drop (off+new.length))++xs.drop (p+k):=by
 have e1:xs.take (p+off)=xs.take p++((xs.drop p).take k).take off:=by
  rw [List.take_take,Nat.min_eq_left (by omega),List.take_add]
 have e2:xs.drop (p+off+new.length)=((xs.drop p).take k).drop (off+new.length)++xs.drop (p+k):=by
  rw [List.drop_take,List.drop_drop];have:xs.drop (p+k)=(xs.drop (p+(off+new.length))).drop (k - (off+new.length)):=by rw [List.drop_drop]; congr 1; omega
  rw [this,List.take_append_drop];congr 1; omega
 rw [e1,e2];simp only [List.append_assoc]
theorem zWn {α:Type} (cur new:List α) (p n:Nat) (h:p+new.length<=n) (hn:n<=cur.length):(cur.take p++new++cur.drop (p+new.length)).take n=(cur.take n).take p++new++(cur.take n).drop (p+new.length):=by
 rw [List.take_append,List.take_append,List.take_of_length_le (l:=cur.take p) (by simp; omega),List.take_take,Nat.min_eq_left (by omega)]
 rw [List.take_of_length_le (l:=new) (by simp; omega)]
 congr 1;rw [List.drop_take];congr 1;simp; omega
theorem zS2 (hcx:CxOK P cx) {T:Nat} {i:TInfo} (hT:cx.ti T=some i) {g off:Nat} {t:TypeId} {cur:Array Value} {u:Value} (hg:w.heap[g]? =some (.cells cur t (0,0))) (hsz:u.cells.toList.length=i.size)
  (hle:off+u.cells.toList.length<=cur.size) (h1:∀ v∈u.cells.toList,zbA v=true):
  (storeVar T ⟨g,off,none⟩ u).run P w=.ok () (w.setRow g (cur.toList.take off++u.cells.toList++cur.toList.drop (off+u.cells.toList.length)).toArray):=by
 have hst:=run_storeCells_at P g off t u.cells.toList 0 cur w hg (by omega) (λv hv=>by rw [<- zYK]; exact h1 v hv)
 simp only [Nat.add_zero] at hst;simp only [storeVar,Sem.run_bind,zyX hcx hT,Result.andThen_ok,Sem.run_ite];rw [if_neg (by rw [<- Array.length_toList,hsz]; simp)]
 exact hst
theorem zxL (g b:Nat) (cs:Array Value):(w.setRow g cs).heap[b]? =w.heap[b]? \/b=g:=by
 by_cases h:b=g
 ·exact .inr h
 ·exact .inl (setRow_other w g b cs h)
theorem z9V {T:Nat} {x y:Operand} (hcx:CxOK P cx) (ho:o.op=.store T x y) (h:aop cx o st=some d) (hf:RF cx e st κ a w):o.wp P a w (λa' w'=>R cx e (st.app o.dst d) a' w') Q:=by
 unfold aop zed at h;simp only [ho] at h;have hx:=zca hf x;have hy:=zca hf y;generalize hev:a.eval x=ve at hx;split at h
 ·rename_i i new hT hnew;obtain ⟨ha,h1⟩:=zDv hf.rb hy hnew;split at h
  ·cases h
  ·rename_i hlen;have hlen:new.length=i.size:=Nat.eq_of_beq_eq_true hlen;have hsz:(a.eval y).cells.toList.length=i.size:=by rw [ha.len,hlen]
   split at h
   ·-- into a box
    rename_i id off hex;rw [hex] at hx;split at h
    ·rename_i cs hbl;split at h
     ·rename_i cs' hsp;simp only [qa] at h; subst h;obtain ⟨hle,rfl⟩:=zKZ hsp;obtain ⟨b,cur,t,hκ,hg,hb⟩:=hf.rb.box hbl;have hbl':(gD .none st.blks id)=.box cs false:=hbl;cases hx with
      | rep hx=>cases hx
      | ptr _ _ b' hk hb'=>
       rw [hκ] at hb';simp only [Value.pointer.injEq,qa,Addr.mk.injEq,and_true] at hb';subst hb';have hcur:cur.size=cs.length:=by rw [<- hb.len,Array.length_toList]
       have hrun:=zS2 hcx hT (u:=a.eval y) hg hsz (by rw [ha.len,hcur]; exact hle) h1
       have hst:=zCC (w':=w.setRow b (cur.toList.take off++(a.eval y).cells.toList++cur.toList.drop (off+(a.eval y).cells.toList.length)).toArray)
        (nb:=.box (cs.take off++new++cs.drop (off+new.length)) false) hf.rb (n:=id) (by rw [hbl']; rfl) (by rw [hbl']; rfl) rfl rfl rfl (by simp)
        (λb2 _=>by
         rcases zxL (w:=w) b b2 (cur.toList.take off++(a.eval y).cells.toList++cur.toList.drop (off+(a.eval y).cells.toList.length)).toArray with h' | h'
         ·exact .inl h'
         ·subst h'; exact .inr (by rw [hκ]; rfl))
        (λhc=>⟨b,_,t,hκ,setRow_heap w b cur _ t _ hg,((hb.imp λ_ _ h=>hc.rep h).splice (ha.imp λ_ _ h=>hc.rep h) off)⟩)
       refine wp_skip (w':=w.setRow b (cur.toList.take off++(a.eval y).cells.toList++cur.toList.drop (off+(a.eval y).cells.toList.length)).toArray) ?_ ⟨κ,hf.put ?_ ?_ (λ_=>.dead _)⟩
       ·simp only [execOp,ho,hev,Instr.storeAt,Instr.sureAddr,Sem.run_bind,Sem.run_pure,Result.andThen_ok,hrun]
       ·rw [zc7]; exact hst.1
       ·rw [zc7]; exact hst.2
      | ptrD _ _ _ hk=>simp [hbl,Blk.kind] at hk
     ·cases h
    ·cases h
   ·-- into an element of a row
    rename_i id ix off hex;rw [hex] at hx;split at h
    ·rename_i T' l new' fz hbl hpure;split at h
     ·rename_i cs' hsp hnc;split at h
      ·rename_i x' hdec;obtain ⟨hix,h⟩:=zeL h;simp only [qe] at hix;simp only [qa] at h; subst h;obtain ⟨hle,rfl⟩:=zKZ hsp;have hbl0:(gD .none st.blks id)=.arr T' l false:=hbl;cases hx with
       | rep hx=>cases hx
       | eptr _ _ _ b k m n cap hk hi2 hκ=>
        simp only [hbl,Blk.kind,Kind.arr.injEq] at hk;obtain ⟨rfl,rfl⟩:=hk
        -- first the parts of the value are frozen
        obtain ⟨hrb1,hc1⟩:=zuY hf.rb fz;have hnotin:id∉fz:=by simpa using hnc
        have hbl1:(gD .none (zbO st.blks fz) id)=.arr T' l false:=by rw [zoU,if_neg hnotin]; exact hbl0
        have hnewrep:=zY7 hcx hf.rb (fz:=fz) ha hpure (λ_ h=>h)
        have hrow:=hf.rb.row hbl;rw [hκ] at hrow;obtain ⟨xs,hown,hall⟩:=hrow;rcases hown.2 with ⟨hbad,_⟩ | ⟨g,cap',cur,hv,_,hg,hnc',hcm,hcs,htake⟩
        ·simp at hbad
        ·simp only [Value.slice.injEq,qa,Addr.mk.injEq,and_true] at hv;obtain ⟨rfl,rfl,rfl⟩:=hv;have hxl:xs.length=l.length*zp cx T':=hown.1;have hk1:(ix+1)*zp cx T'<=l.length*zp cx T':=Nat.mul_le_mul_right _ hix;have hk2:l.length*zp cx T'<=cap*zp cx T':=Nat.mul_le_mul_right _ hnc';have hk3:(ix+1)*zp cx T'=ix*zp cx T'+zp cx T':=Nat.succ_mul _ _;have hle':off+new'.length<=zp cx T':=by rw [<- hcx.len T' (l.getD ix (cx.dflt T'))]; exact hle
         have hnl:(a.eval y).cells.toList.length=new'.length:=hnewrep.len;have hnl2:(a.eval y).cells.size=new'.length:=by rw [<- Array.length_toList]; exact hnl
         have hrun:=zS2 hcx hT (off:=ix*zp cx T'+off) (u:=a.eval y) hg hsz (by rw [hnl]; omega) h1
         have hst:=zCC (B:=zbO st.blks fz) (κ:=κ) (w:=w) (w':=w.setRow b (cur.toList.take (ix*zp cx T'+off)++(a.eval y).cells.toList++cur.toList.drop (ix*zp cx T'+off+(a.eval y).cells.toList.length)).toArray)
          (nb:=.arr T' (l.set ix x') false) hrb1 (n:=id) (by rw [hbl1]; rfl) (by rw [hbl1]; simp [Blk.kind]) rfl rfl rfl (by simp)
          (λb2 _=>by
           rcases zxL (w:=w) b b2 (cur.toList.take (ix*zp cx T'+off)++(a.eval y).cells.toList++cur.toList.drop (ix*zp cx T'+off+(a.eval y).cells.toList.length)).toArray with h' | h'
           ·exact .inl h'
           ·subst h'; exact .inr (by rw [hκ]; rfl))
          (λhc=>by
           rw [hκ];have hall1:All2 (Rep cx (Fz e (λj=>(gD .none ((zbO st.blks fz).set id (.arr T' (l.set ix x') false)) j)) κ (w.setRow b (cur.toList.take (ix*zp cx T'+off)++(a.eval y).cells.toList++cur.toList.drop (ix*zp cx T'+off+(a.eval y).cells.toList.length)).toArray)) _) xs (zct cx T' l):=hall.imp λ_ _ h=>hc.rep' (hc1.rep' h)
           have hnew1:=hnewrep.imp λ_ _ h=>hc.rep' h
           have hel:((zct cx T' l).drop (ix*zp cx T')).take (zp cx T')=cx.enc T' (l.getD ix (cx.dflt T')):=by
            have e2:=zs7 _ _ (hcx.len T') l ix;have hd:l.drop ix=l[ix]::l.drop (ix+1):=List.drop_eq_getElem_cons hix;unfold zct;rw [<- e2,hd,List.flatMap_cons,List.take_append,hcx.len,Nat.sub_self,List.take_zero,List.append_nil,List.take_of_length_le (by rw [hcx.len]; exact Nat.le_refl _)]
            congr 1;simp [List.getD,hix]
           have hel1:=((hall1.drop (ix*zp cx T')).take (zp cx T'));rw [hel] at hel1;have hel2:=hcx.dec T' _ _ hdec _ _ _ (hel1.splice hnew1 off);refine ⟨xs.take (ix*zp cx T'+off)++(a.eval y).cells.toList++xs.drop (ix*zp cx T'+off+(a.eval y).cells.toList.length),⟨?_,.inr ⟨b,cap,_,by simp,Nat.zero_le _,setRow_heap w b cur _ T' _ hg,by simpa using hnc',hcm, ?_, ?_⟩⟩, ?_⟩
           ·simp; omega
           ·simp; omega
           ·have hcl:cur.toList.length=cur.size:=rfl;have ht:=zWn cur.toList (a.eval y).cells.toList (ix*zp cx T'+off) (l.length*zp cx T') (by omega) (by omega)
            rw [htake] at ht
            simpa only [List.length_set,List.toList_toArray] using ht
           ·rw [z81 xs (a.eval y).cells.toList (ix*zp cx T') off (zp cx T') (by rw [hnl]; exact hle') (by omega)]
            unfold zct;rw [z5q _ _ (hcx.len T') l ix x' hix];rw [show ix*zp cx T'+zp cx T'=(ix+1)*zp cx T' from hk3.symm]
            exact ((hall1.take _).append hel2).append (hall1.drop _))
         refine wp_skip (w':=w.setRow b (cur.toList.take (ix*zp cx T'+off)++(a.eval y).cells.toList++cur.toList.drop (ix*zp cx T'+off+(a.eval y).cells.toList.length)).toArray) ?_ ⟨κ,hf.put ?_ ?_ (λ_=>.dead _)⟩
         ·simp only [execOp,ho,hev,Instr.storeAt,Instr.sureAddr,Sem.run_bind,Sem.run_pure,Result.andThen_ok,hrun]
         ·rw [zc7]; exact hst.1
         ·rw [zc7]; exact hc1.trans hst.2
       | eptrD _ _ _ _ hk=>simp [hbl,Blk.kind] at hk
      ·cases h
     ·cases h
    ·cases h
   ·cases h
 ·cases h
end
end
end Go.Ab
/- The operations that make or write memory of the call's own, against the machine's: slice literals, make, append, clear. -/
namespace Go.Ab
noncomputable section
variable {ty:Nat->Type}
section
variable {P:Program} {cx:Cx ty} {e:Env} {st:St ty} {κ:Nat->Value} {a:Act} {w:World} {o:Oper} {d:Delta ty} {Q:Exit->Act->World->Prop}
theorem zXb (hcx:CxOK P cx) {F:Nat->Prop} {T:Nat} {l:List (ty T)} {us:List Value} (ha:All2 (Rep cx F w) us (zct cx T l)):∀ u∈us,u.oneCell'=true:=by
 intro u hu;obtain ⟨j,hj⟩:=List.getElem?_of_mem hu;obtain ⟨c,hc,hr⟩:=ha.getL hj;have hm:c∈zct cx T l:=List.mem_of_getElem? hc;obtain ⟨x,_,hx⟩:=List.mem_flatMap.1 hm;have:=hcx.cell T x c hx;rw [<- zYK];cases hr with
 | lit v=>exact this
 | agg=>exact this.elim
 | _=>rfl
theorem zH1 (hcx:CxOK P cx) (hrb:RB cx e st.blk κ w) {fz:List Nat} {el k:Nat} (hk:zp cx el=k):
  ∀ (ps:List (Nat×AV ty)) (us:List (Nat×Value)) (n:Nat) (l:List (ty el)) (ids:List Nat) (cur:List Value),
   All2 (λ(u:Nat×Value) (p:Nat×AV ty)=>u.1=p.1/\zg9 cx e st κ w u.2 p.2) us ps->zlD cx st el n ps=some (l,ids)->(∀ id∈ids,id∈fz)->(n+ps.length)*k<=cur.length->
   ∃ mid:List Value,Instr.fill (λi=>some (i*k,k)) cur.toArray us=some (cur.take (n*k)++mid++cur.drop ((n+ps.length)*k)).toArray/\mid.length=ps.length*k/\
    All2 (Rep cx (Fz e (FzB st fz) κ w) w) mid (zct cx el l)/\l.length=ps.length
 | [],us,n,l,ids,cur,hu,h,_,_=>by
  rw [hu.nil_left.1];simp only [zlD,qa,qb] at h;obtain ⟨rfl,rfl⟩:=h;exact ⟨[],by simp [Instr.fill],by simp,.nil,rfl⟩
 | (i,v)::r,us,n,l,ids,cur,hu,h,hi,hl=>by
  obtain ⟨⟨i',u⟩,us',rfl,⟨hii,hr⟩,hu'⟩:=hu.inv;simp only at hii hr; subst hii;simp only [zlD] at h;split at h
  ·cases h
  ·rename_i hin;have hin:i'=n:=Nat.eq_of_beq_eq_true hin;subst hin;split at h
   ·cases h
   ·rename_i c hc;split at h
    ·cases h
    ·rename_i c' ids1 hp;split at h
     ·cases h
     ·rename_i x hdec;split at h
      ·cases h
      ·rename_i xs is hrest;simp only [qa,qb] at h;obtain ⟨rfl,rfl⟩:=h;obtain ⟨ha,h1⟩:=zDv hrb hr hc;have hnew:=zY7 hcx hrb (fz:=fz) ha hp (λid hid=>hi id (by simp [hid]))
       have hx:=hcx.dec el c' x hdec _ _ _ hnew;have hsz:u.cells.toList.length=k:=by rw [hx.len,hcx.len,hk]
       have hsz':u.cells.size=k:=by rw [<- Array.length_toList]; exact hsz
       have m1:(i'+1)*k=i'*k+k:=Nat.succ_mul _ _;have m2:(i'+(r.length+1))*k=(i'+1+r.length)*k:=by congr 1; omega
       have m3:(i'+1)*k<=(i'+1+r.length)*k:=Nat.mul_le_mul_right _ (by omega)
       simp only [qf] at hl
       obtain ⟨mid,hfill,hml,hmr,hll⟩:=zH1 hcx hrb hk r us' (i'+1) xs is (cur.take (i'*k)++u.cells.toList++cur.drop (i'*k+u.cells.toList.length)) hu' hrest (λid hid=>hi id (by simp [hid])) (by
        simp only [qg,List.length_take,List.length_drop,hsz];omega)
       refine ⟨u.cells.toList++mid, ?_,by simp only [qg,hsz,hml,qf,Nat.succ_mul]; omega, ?_,by simp [hll]⟩
       ·have hset:=z2F (cur:=cur) (off:=i'*k) u.cells.toList (by omega)
        simp only [Array.toArray_toList] at hset;rw [<- hset] at hfill;simp only [Instr.fill,hsz',List.size_toArray];rw [show ((k≠k)||decide (i'*k+k>cur.length))=false by simp; omega]
        simp only [Bool.false_eq_true,if_false];simp only [Array.toArray_toList] at hfill;rw [hfill,hset];congr 2;simp only [qf];rw [m2];apply List.ext_getElem?;intro j;simp only [List.getElem?_append,qg,List.length_take,List.getElem?_take,List.getElem?_drop,List.length_drop,hsz];have q1:min (i'*k) cur.length=i'*k:=by omega
        have q2:min ((i'+1)*k) (i'*k+k+(cur.length - (i'*k+k)))=(i'+1)*k:=by omega
        simp only [q1,q2];by_cases c1:j<i'*k
        ·have c2:j<(i'+1)*k:=by omega
         have c3:j<i'*k+k:=by omega
         have c4:j<(i'+1)*k+mid.length:=by omega
         have c5:j<i'*k+(k+mid.length):=by omega
         simp [c1,c2,c3,c4,c5]
        ·by_cases c2:j<(i'+1)*k
         ·have c3:j<i'*k+k:=by omega
          have c4:j<(i'+1)*k+mid.length:=by omega
          have c5:j<i'*k+(k+mid.length):=by omega
          have c6:j - i'*k<k:=by omega
          simp [c1,c2,c3,c4,c5,c6]
         ·by_cases c4:j<(i'+1)*k+mid.length
          ·have c5:j<i'*k+(k+mid.length):=by omega
           have c6:¬ (j - i'*k<k):=by omega
           have c7:j - (i'+1)*k=j - i'*k - k:=by omega
           simp [c1,c2,c4,c5,c6,c7]
          ·have c5:¬ j<i'*k+(k+mid.length):=by omega
           have c8:¬ ((i'+1+r.length)*k+(j - ((i'+1)*k+mid.length))<i'*k):=by omega
           have c9:¬ ((i'+1+r.length)*k+(j - ((i'+1)*k+mid.length))<i'*k+k):=by omega
           simp only [c4,c5,c8,c9,if_false];congr 1;omega
       ·unfold zct;rw [List.flatMap_cons];exact hx.append hmr
theorem z2T {T n:Nat} {parts:Array (Nat×Operand)} (hcx:CxOK P cx) (ho:o.op=.buildSlice T n parts) (h:aop cx o st=some d) (hf:RF cx e st κ a w):o.wp P a w (λa' w'=>R cx e (st.app o.dst d) a' w') Q:=by
 unfold aop zed at h;simp only [ho] at h;split at h
 ·rename_i el s b zz dd hT hdst;have hu:=zic hcx hT;split at h
  ·rename_i l fz inf hfe hn hinf;have hn:n=parts.size:=Nat.eq_of_beq_eq_true hn;split at h
   ·rename_i hle;obtain ⟨hle,hfree⟩:=ziO hle;obtain ⟨hnle,hfree⟩:=ziO hfree;have hnle:n<=16777216:=Nat.le_of_ble_eq_true hnle;simp only [qa] at h; subst h;obtain ⟨hnone,hlt⟩:=zlQ hfree;obtain ⟨info,desc,z,hi,hu2,hs,hb,hz,hzc,hzl,hz1,hd⟩:=(hcx.ti el _ hinf).ok;have hk:zp cx el=inf.size:=by simp [zp,hinf]
    have hle:n*inf.size<=16777216:=Nat.le_of_ble_eq_true hle
    obtain ⟨mid,hfill,hml,hmr,hll⟩:=zH1 (κ:=κ) (fz:=fz) hcx hf.rb hk (parts.toList.map λ(i,x)=>(i,st.ev x)) (parts.toList.map λ(i,x)=>(i,a.eval x)) 0 l fz
     ((madeCells (if n*inf.size=0 then #[] else z.cells) (n*inf.size)).toList)
     (⟨by simp,λj u c hu hc=>by
      rw [List.getElem?_map] at hu hc;cases hx:parts.toList[j]? with
      | none=>rw [hx] at hu; cases hu
      | some x=>
       rw [hx] at hu hc;simp only [Option.map_some,qa] at hu hc;subst hu; subst hc;exact ⟨rfl,zca hf x.2⟩⟩) hfe (λ_ h=>h) (by
      have e1:=size_madeCells (if n*inf.size=0 then #[] else z.cells) (n*inf.size)
      rw [List.length_map,Nat.zero_add]
      change parts.size*inf.size<=Array.size _
      rw [e1,hn]; exact Nat.le_refl _)
    simp only [List.length_map,Array.length_toList] at hfill hml hll;simp only [Nat.zero_mul,List.take_zero,List.nil_append,Nat.zero_add,Array.toArray_toList] at hfill
    rw [List.drop_eq_nil_of_le (by
     have e1:=size_madeCells (if n*inf.size=0 then #[] else z.cells) (n*inf.size)
     change Array.size _<=_
     rw [e1,hn]; exact Nat.le_refl _),List.append_nil] at hfill
    obtain ⟨hrb1,hc1⟩:=zuY hf.rb fz
    have hnone1:(gD .none (zbO st.blks fz) (zK dd))=.none:=by
     rw [zoU];have:(gD .none st.blks (zK dd))=.none:=hnone;rw [this]; split <;>rfl
    have hst:=ztj (w':=w.alloc (.cells mid.toArray el)) (nb:=.arr el l false) (v:=.slice (some ⟨w.heap.size,0,none⟩) n n) hrb1 hnone1 (by rw [zij]; exact hlt) rfl rfl rfl (by simp) (λb hb=>heap_alloc_old w _ b hb)
     (λb hb=>by simp [zba] at hb; subst hb; simp)
     (λhc=>⟨mid,by
      have:=World.ownsRow_lit (base:=0) (e:=el) (size:=zp cx el) w mid.toArray n (Nat.zero_le _) (by simp only [maxLen]; omega) (by simp [hml,hn,hk])
      rw [hll, <- hn]
      simpa using this,hmr.imp λ_ _ h=>hc.rep' h⟩)
    refine zW (v:=.slice (some ⟨w.heap.size,0,none⟩) n n) (w':=w.alloc (.cells mid.toArray el)) ?_ ⟨_,hf.put (κ':=λi=>if i=zK dd then .slice (some ⟨w.heap.size,0,none⟩) n n else κ i) ?_ ?_ (λ_=> ?_)⟩
    ·have hparts:(parts.map λ(i,x)=>(i,a.eval x)).toList=parts.toList.map λ(i,x)=>(i,a.eval x):=by simp
     have hrun:(Instr.buildSlice T n (parts.map λ(i,x)=>(i,a.eval x))).run P w=.ok (.slice (some ⟨w.heap.size,0,none⟩) n n) (w.alloc (.cells mid.toArray el)):=by
      simp only [Instr.buildSlice,Sem.run_bind,zc8 hu,Result.andThen_ok,zyX hcx hinf,Sem.run_ite];rw [if_neg (by omega)]
      by_cases h0:n*inf.size=0
      ·simp only [h0,if_true] at hfill;simp only [h0,if_true,Sem.run_pure,Result.andThen_ok,hparts];simp only [madeCells] at hfill;rw [hfill];simp [newRow]
      ·simp only [h0,if_false] at hfill;simp only [h0,if_false,Sem.run_pure,Sem.run_bind,zIZ hi hz,Result.andThen_ok,hparts];simp only [madeCells] at hfill;rw [hfill];simp [newRow]
     simp only [execOp,ho,Sem.run_bind,hrun,Result.andThen_ok,Sem.run_pure]
    ·rw [zc7]; exact hst.1
    ·rw [zc7]; exact hc1.trans hst.2
    ·rw [zc7]
     have:=RepA.own (cx:=cx) (F:=Fz e (λj=>(gD .none ((zbO st.blks fz).set (zK dd) (.arr el l false)) j)) (λi=>if i=zK dd then .slice (some ⟨w.heap.size,0,none⟩) n n else κ i) (w.alloc (.cells mid.toArray el))) (w:=w.alloc (.cells mid.toArray el))
      (kd:=λi=>((gD .none ((zbO st.blks fz).set (zK dd) (.arr el l false)) i)).kind cx) (κ:=λi=>if i=zK dd then .slice (some ⟨w.heap.size,0,none⟩) n n else κ i) (zK dd) (zp cx el) l.length (by
       rw [zbz,if_pos ⟨rfl,by rw [zij]; exact hlt⟩]; rfl)
     simpa using this
   ·cases h
  ·cases h
 ·cases h
end
end
end Go.Ab
/- The operations that make or write memory of the call's own, against the machine's: make, append, clear. -/
namespace Go.Ab
noncomputable section
variable {ty:Nat->Type}
section
variable {P:Program} {cx:Cx ty} {e:Env} {st:St ty} {κ:Nat->Value} {a:Act} {w:World} {o:Oper} {d:Delta ty} {Q:Exit->Act->World->Prop}
theorem z9N (z:Array Value) (c k i j:Nat) (hz:z.size=k) (hi:i<c) (hj:j<k):(madeCells z (c*k)).toList[i*k+j]? =z.toList[j]? :=by
 have h1:i*k+j<c*k:=by
  have:(i+1)*k<=c*k:=Nat.mul_le_mul_right _ hi;rw [Nat.succ_mul] at this; omega
 have h2:(i*k+j) % z.size=j:=by rw [hz,Nat.mul_comm,Nat.mul_add_mod]; exact Nat.mod_eq_of_lt hj
 simp [madeCells,h1,h2,hz,hj];rw [Nat.mod_eq_of_lt hj];exact getElem!_pos z j (by omega)
theorem zX8 {F:Nat->Prop} (hcx:CxOK P cx) {T k c n:Nat} {z:Array Value} {x:ty T} (hk:zp cx T=k) (hz:z.size=k) (hr:All2 (Rep cx F w) z.toList (cx.enc T x)) (hn:n<=c):
  All2 (Rep cx F w) ((madeCells z (c*k)).toList.take (n*k)) (zct cx T (List.replicate n x)):=by
 have hlen:((madeCells z (c*k)).toList.take (n*k)).length=n*k:=by
  rw [List.length_take];have e1:=size_madeCells z (c*k);have:n*k<=c*k:=Nat.mul_le_mul_right _ hn
  change min _ (Array.size _)=_
  rw [e1]; omega
 refine ⟨by rw [hlen,zOj hcx,List.length_replicate,hk],λj u v hu hv=> ?_⟩
 have hj:j<n*k:=by rw [<- hlen]; exact (List.getElem?_eq_some_iff.1 hu).1
 have hk0:0<k:=by
  rcases Nat.eq_zero_or_pos k with h | h
  ·subst h; simp at hj
  ·exact h
 have hji:j=(j / k)*k+j % k:=by have:=Nat.div_add_mod j k; rw [Nat.mul_comm] at this; exact this.symm
 have hi:j / k<n:=by
  rw [Nat.div_lt_iff_lt_mul hk0]; exact hj
 have hm:j % k<k:=Nat.mod_lt _ hk0;rw [List.getElem?_take,if_pos hj] at hu;rw [hji,z9N z c k _ _ hz (by omega) hm] at hu
 unfold zct at hv;rw [hji,zN9 _ k (by rw [<- hk]; exact hcx.len T) _ _ _ hm] at hv
 simp only [List.getElem?_replicate,if_pos hi,Option.bind_some] at hv;exact hr.at_ _ u v hu hv
theorem zYk {F:Nat->Prop} (hcx:CxOK P cx) {T:Nat} {inf:TInfo} {z:Value} {x:ty T} (hzc:z.cells.toList=inf.zero) (hdec:cx.dec T (inf.zero.map .lit)=some x):All2 (Rep cx F w) z.cells.toList (cx.enc T x):=by
 rw [hzc];exact hcx.dec T _ x hdec F w _ (zIX inf.zero)
theorem z5p {T:Nat} {x y:Operand} (hcx:CxOK P cx) (ho:o.op=.makeSlice T x y) (h:aop cx o st=some d) (hf:RF cx e st κ a w):o.wp P a w (λa' w'=>R cx e (st.app o.dst d) a' w') Q:=by
 unfold aop zed at h;simp only [ho] at h;split at h
 ·rename_i el s b zz dd n c hT hdst hn hc;have hu:=zic hcx hT;have en:=zBK (zca hf x) hn;have ec:=zBK (zca hf y) hc;split at h
  ·rename_i inf hinf;split at h
   ·rename_i z hdec;obtain ⟨hb,h⟩:=zeL h;simp only [qa] at h; subst h;simp only [qc,qe] at hb;obtain ⟨⟨⟨⟨hfree,h0⟩,hnc⟩,hby⟩,hcr⟩:=hb;obtain ⟨hnone,hlt⟩:=zlQ hfree;obtain ⟨info,desc,zv,hi,hu2,hs,hbb,hz,hzc,hzl,hz1,hd⟩:=(hcx.ti el _ hinf).ok;have hk:zp cx el=inf.size:=by simp [zp,hinf]
    have hzs:zv.cells.size=inf.size:=by rw [<- Array.length_toList,hzc,hzl]
    unfold zbh at hby hcr;have hrun:=run_make (P:=P) w T el info zv hu hi hz .i64 .i64 n c h0 hnc (by rw [hbb,Int.mul_comm]; omega) (by omega)
    rw [hs] at hrun
    have hst:=ztj (w':=w.alloc (.cells (madeCells zv.cells (c.toNat *inf.size)) el)) (nb:=.arr el (List.replicate n.toNat z) false) (v:=.slice (some ⟨w.heap.size,0,none⟩) n.toNat c.toNat) hf.rb hnone hlt rfl rfl rfl (by simp) (λb hb=>heap_alloc_old w _ b hb)
     (λb hb=>by simp [zba] at hb; subst hb; simp)
     (λhcc=>⟨(madeCells zv.cells (c.toNat *inf.size)).toList.take (n.toNat *inf.size),by
      refine ⟨?_,.inr ⟨w.heap.size,c.toNat,_,by simp,Nat.zero_le _,heap_alloc_new w _,by simp; omega,by simp only [maxLen]; omega, ?_, ?_⟩⟩
      ·rw [List.length_take];have e1:=size_madeCells zv.cells (c.toNat *inf.size);have:n.toNat *inf.size<=c.toNat *inf.size:=Nat.mul_le_mul_right _ (by omega)
       change min _ (Array.size _)=_
       rw [e1,hk,List.length_replicate]; omega
      ·rw [size_madeCells,hk]
      ·rw [hk,List.length_replicate],zX8 hcx hk hzs (zYk hcx hzc hdec) (by omega)⟩)
    refine zW (v:=.slice (some ⟨w.heap.size,0,none⟩) n.toNat c.toNat) (w':=w.alloc (.cells (madeCells zv.cells (c.toNat *inf.size)) el)) ?_ ⟨_,hf.put (κ':=λi=>if i=zK dd then .slice (some ⟨w.heap.size,0,none⟩) n.toNat c.toNat else κ i) ?_ ?_ (λ_=> ?_)⟩
    ·simp only [execOp,ho,en,ec,Sem.run_bind,hrun,Result.andThen_ok,Sem.run_pure]
    ·rw [zc7]; exact hst.1
    ·rw [zc7]; exact hst.2
    ·rw [zc7]
     have:=RepA.own (cx:=cx) (F:=Fz e (λj=>(gD .none ((zbO st.blks []).set (zK dd) (.arr el (List.replicate n.toNat z) false)) j)) (λi=>if i=zK dd then .slice (some ⟨w.heap.size,0,none⟩) n.toNat c.toNat else κ i) (w.alloc (.cells (madeCells zv.cells (c.toNat *inf.size)) el))) (w:=w.alloc (.cells (madeCells zv.cells (c.toNat *inf.size)) el))
      (kd:=λi=>((gD .none ((zbO st.blks []).set (zK dd) (.arr el (List.replicate n.toNat z) false)) i)).kind cx) (κ:=λi=>if i=zK dd then .slice (some ⟨w.heap.size,0,none⟩) n.toNat c.toNat else κ i) (zK dd) (zp cx el) (List.replicate n.toNat z).length (by
       rw [zbz,if_pos ⟨rfl,by rw [zij]; exact hlt⟩]; rfl)
     simpa using this
   ·cases h
  ·cases h
 ·cases h
theorem zW2 {T T' el:Nat} {tyr:TypeId} {info:TypeInfo} {zv:Value} {k':IntKind} (hu:P.underlying T=some (.slice el)) (hu':P.underlying T'=some (.int k')) (hi:P.info? el=some info) (hz:info.zero=some zv) (hzs:zv.cells.size=info.size) (hs0:info.size≠0)
  (n:Nat) (h0:0<n) (hby:n*info.bytes<=70368744177664) (hn:n<=70368744177664):
  (Builtin.append_ #[T,T'] tyr #[.slice none 0 0,.int .i64 n]).run P w=.ok (.slice (some ⟨w.heap.size,0,none⟩) n (grownCap w n 0 el)) (w.drew.alloc (.cells (Builtin.zeroCells zv.cells n++Builtin.zeroCells zv.cells (grownCap w n 0 el - n)) el)):=by
 have hw:IntKind.i64.wrap (n:Int)=n:=by simp [IntKind.wrap,IntKind.bits,IntKind.signed]; omega
 have h1:¬ ((n:Int)<0):=by omega
 have h2:¬ (281474976710656<(n:Int)*(info.bytes:Int)):=by
  have:((n*info.bytes:Nat):Int)<=70368744177664:=by omega
  rw [Int.natCast_mul] at this; omega
 have h3:Builtin.nextslicecap n 0=n:=by unfold Builtin.nextslicecap; rw [if_pos (by omega)]
 have h4:¬ (281474976710656<n*info.bytes):=by omega
 have h5:¬ (n=0):=by omega
 have h6:¬ (9223372036854775807<(n:Int)):=by omega
 have hf:=run_firstCells_none (P:=P) w.drew info.size 0 0 0;simp [Builtin.append_,run_underlying hu,run_underlying hu',sizeOf,typeInfo,zeroValue,hi,hz,asInt,asIntOf,hw,h1,h2,h3,h4,h5,h6,hs0,Question.forced,hf,newRow,grownCap];intro h7;rcases Nat.mul_eq_zero.1 h7 with h | h
 ·exact absurd h h5
 ·exact absurd h hs0
theorem z7k {args:Array Operand} {ts:Array TypeId} {T T2:Nat} {sv xv:AV ty} {u u2:Value} (hcx:CxOK P cx) (hts':ts=#[T,T2]) (hargs:args.map a.eval=#[u,u2]) (hu:zg9 cx e st κ w u sv) (hu2:zg9 cx e st κ w u2 xv)
  (hex:execOp a.eval o=builtin .append ts o.type (args.map λ| .const _=>true | _=>false) (args.map a.eval)) (h:zst cx st o.dst T T2 sv xv some=some d) (hf:RF cx e st κ a w):o.wp P a w (λa' w'=>R cx e (st.app o.dst d) a' w') Q:=by
 unfold zst at h;split at h
 ·rename_i el s b zz s2 b2 zz2 dd hT hT2 hdst;have hund:=zic hcx hT;have hund2:P.underlying T2=some (.int .i64):=zzG hcx hT2;split at h
  ·rename_i n;split at h
   ·rename_i inf hinf;split at h
    ·rename_i z hdec;obtain ⟨hb,h⟩:=zeL h;simp only [qa] at h; subst h;simp only [qc,qe,Bool.not_eq_true'] at hb;obtain ⟨hfree,h0,hby,hn,hs0⟩:=hb;obtain ⟨m,rfl⟩:=Int.eq_ofNat_of_zero_le (Int.le_of_lt h0);obtain ⟨hnone,hlt⟩:=zlQ hfree;obtain ⟨info,desc,zv,hi,hu3,hs,hbb,hz,hzc,hzl,hz1,hd⟩:=(hcx.ti el _ hinf).ok;have hk:zp cx el=inf.size:=by simp [zp,hinf]
     have hzs:zv.cells.size=inf.size:=by rw [<- Array.length_toList,hzc,hzl]
     have hs0:inf.size≠0:=by intro h0; rw [h0] at hs0; cases hs0
     unfold zbh at hby hn;have e1:=zcd hu;have e2:=zcd hu2
     have hby':m*info.bytes<=70368744177664:=by
      rw [hbb];have:((m*inf.bytes:Nat):Int)<=70368744177664:=by rw [Int.natCast_mul]; omega
      omega
     have hrun:=zW2 (P:=P) (w:=w) (tyr:=o.type) hund hund2 hi hz (by rw [hzs,hs]) (by rw [hs]; exact hs0) m (by omega) hby' (by omega)
     generalize hc:grownCap w m 0 el=c at hrun;have hmc:m<=c:=hc ▸ grownCap_ge w m 0 el;have hcm:c<=maxLen:=hc ▸ grownCap_le_maxLen w m 0 el (by simp only [maxLen]; omega)
     generalize hX:Builtin.zeroCells zv.cells m++Builtin.zeroCells zv.cells (c - m)=X at hrun;have hzc1:Builtin.zeroCells zv.cells m=madeCells zv.cells (m*inf.size):=by unfold Builtin.zeroCells madeCells; rw [hzs]
     have hX1:X.size=c*inf.size:=by
      rw [<- hX,Array.size_append,size_zeroCells,size_zeroCells,hzs, <- Nat.add_mul]; congr 1; omega
     have hX2:X.toList.take (m*inf.size)=(madeCells zv.cells (m*inf.size)).toList.take (m*inf.size):=by
      rw [<- hX,hzc1,Array.toList_append,List.take_append_of_le_length (by rw [Array.length_toList,size_madeCells]; exact Nat.le_refl _)]
     have hst:=ztj (w':=w.drew.alloc (.cells X el)) (nb:=.arr el (List.replicate m z) false) (v:=.slice (some ⟨w.heap.size,0,none⟩) m c) hf.rb hnone hlt rfl rfl rfl (by simp) (λb hb=>heap_alloc_old w.drew _ b hb)
      (λb hb=>by simp [zba] at hb; subst hb; simp)
      (λhcc=>⟨X.toList.take (m*inf.size),by
       refine ⟨?_,.inr ⟨w.heap.size,c,_,by simp,Nat.zero_le _,heap_alloc_new w.drew _,by simpa using hmc,hcm, ?_, ?_⟩⟩
       ·rw [hX2,List.length_take,Array.length_toList,size_madeCells,hk,List.length_replicate]; omega
       ·rw [hX1,hk]
       ·rw [hk,List.length_replicate],by rw [hX2]; exact zX8 hcx hk hzs (zYk hcx hzc hdec) (Nat.le_refl _)⟩)
      (λ_=>Nat.le_succ _)
     refine zW (v:=.slice (some ⟨w.heap.size,0,none⟩) m c) (w':=w.drew.alloc (.cells X el)) ?_ ⟨_,hf.put (κ':=λi=>if i=zK dd then .slice (some ⟨w.heap.size,0,none⟩) m c else κ i) ?_ ?_ (λ_=> ?_)⟩
     ·rw [hex,hts',hargs,e1,e2];simp only [builtin,Sem.run_bind,hrun,Result.andThen_ok,Sem.run_pure]
     ·rw [zc7]; exact hst.1
     ·rw [zc7]; exact hst.2
     ·rw [zc7]
      have:=RepA.own (cx:=cx) (F:=Fz e (λj=>(gD .none ((zbO st.blks []).set (zK dd) (.arr el (List.replicate m z) false)) j)) (λi=>if i=zK dd then .slice (some ⟨w.heap.size,0,none⟩) m c else κ i) (w.drew.alloc (.cells X el))) (w:=w.drew.alloc (.cells X el))
       (kd:=λi=>((gD .none ((zbO st.blks []).set (zK dd) (.arr el (List.replicate m z) false)) i)).kind cx) (κ:=λi=>if i=zK dd then .slice (some ⟨w.heap.size,0,none⟩) m c else κ i) (zK dd) (zp cx el) (List.replicate m z).length (by
        rw [zbz,if_pos ⟨rfl,by rw [zij]; exact hlt⟩]; rfl)
      simpa using this
    ·cases h
   ·cases h
  ·cases h
 ·cases h
theorem zSY (hcx:CxOK P cx) (hrb:RB cx e st.blk κ w) {v:Value} {av:AV ty} {T:Nat} {l:List (ty T)} {rd:List Nat} (hr:zg9 cx e st κ w v av) (h:zdm st av=some (⟨T,l⟩,rd)):
  ∃ ad cap us,v=.slice ad l.length cap/\(ad=none->l=[]/\cap=0)/\All2 (Rep cx (Fz e st.blk κ w) w) us (zct cx T l)/\∀ ad',ad=some ad'->∀ (j:Nat) u,us[j]? =some u->w.cell? (ad'.add j)=some u:=by
 cases av with
 | sl T' l'=>
  simp only [zdm,qa,qb,Sigma.mk.injEq] at h;obtain ⟨⟨rfl,h⟩,_⟩:=h;have h:=eq_of_heq h; subst h;cases hr with
  | rep hr=>
   cases hr with
   | slE ad c T hn=>exact ⟨ad,c,[],rfl,λh=>⟨rfl,hn h⟩,.nil,λ_ _ j u hu=>by simp at hu⟩
   | sl b off cap _ _ us hF hcap hlen hc hr=>exact ⟨_,cap,us,rfl,by simp,⟨hlen,hr⟩,λad' had j u hu=>by
     simp only [qa] at had; subst had;rw [ze3]; exact hc j u hu⟩
 | own id=>
  simp only [zdm] at h;split at h
  ·rename_i T' l' fz hb;simp only [qa,qb,Sigma.mk.injEq] at h;obtain ⟨⟨rfl,h⟩,_⟩:=h;have h:=eq_of_heq h; subst h;cases hr with
   | rep hr=>cases hr
   | own _ k m hk=>
    obtain ⟨xs,ho,ha⟩:=hrb.row hb;rcases ho.2 with ⟨hv,h0⟩ | ⟨g,cap,cur,hv,_,hg,hnc,_,_,htake⟩
    ·have hl:l'=[]:=List.eq_nil_of_length_eq_zero h0;subst hl;exact ⟨none,0,[],hv,λ_=>⟨rfl,rfl⟩,.nil,λ_ _ j u hu=>by simp at hu⟩
    ·exact ⟨_,cap,xs,hv,by simp,ha,λad' had j u hu=>by
      simp only [qa] at had; subst had;exact ho.cells (g:=g) (by rw [hv]; rfl) j u hu⟩
   | ownD _ _ hk=>simp [hb,Blk.kind] at hk
  ·cases h
 | sub id lo n=>
  simp only [zdm] at h;split at h
  ·rename_i T' l' fz hb;simp only [qa,qb,Sigma.mk.injEq] at h;obtain ⟨⟨rfl,h⟩,_⟩:=h;have h:=eq_of_heq h; subst h;cases hr with
   | rep hr=>cases hr
   | sub _ _ _ _ k m hk hl hv=>
    simp only [hb,Blk.kind,Kind.arr.injEq] at hk;obtain ⟨rfl,rfl⟩:=hk;have hlen:((l'.drop lo).take n).length=n:=by simp; omega
    obtain ⟨xs,ho,ha⟩:=hrb.row hb;have e1:=zzw _ _ (hcx.len T') (l'.drop lo) n;have e2:=zs7 _ _ (hcx.len T') l' lo
    have hus:All2 (Rep cx (Fz e st.blk κ w) w) ((xs.drop (lo*zp cx T')).take (n*zp cx T')) (zct cx T' ((l'.drop lo).take n)):=by
     unfold zct; rw [e1,e2]; exact (ha.drop _).take _
    rcases ho.2 with ⟨hκ,h0⟩ | ⟨g,cap,cur,hκ,_,hg,hnc,_,_,htake⟩
    ·rw [hκ] at hv;unfold zmp at hv;obtain ⟨b,c,rfl,rfl,_,hbc⟩:=hv;exact ⟨b,c,_,by rw [hlen],λh=>⟨by simp,hbc h⟩,hus,λ_ _ j u hu=>by simp at hu⟩
    ·rw [hκ] at hv;unfold zmp at hv;rcases hv with rfl | ⟨rfl,_,b,c,rfl,hbc⟩
     ·refine ⟨_,_,_,by rw [hlen],by simp,hus,λad' had j u hu=> ?_⟩
      simp only [qa] at had; subst had;rw [List.getElem?_take] at hu;split at hu
      ·rw [List.getElem?_drop] at hu;have:=ho.cells (g:=g) (by rw [hκ]; rfl) _ u hu
       rw [ze3] at this
       rwa [ze3,ze3,Nat.add_assoc]
      ·cases hu
     ·exact ⟨b,c,_,by rw [hlen],λh=>⟨by simp,hbc h⟩,hus,λ_ _ j u hu=>by simp at hu⟩
   | subD _ _ _ _ hk=>simp [hb,Blk.kind] at hk
  ·cases h
 | _=>simp [zdm] at h
theorem zxk {T T':Nat} {l:List (ty T)} {l':List (ty T')} (h:zyL T T' l=some l'):∃ he:T=T',l'=he ▸ l:=by
 unfold zyL at h;split at h
 ·rename_i he;simp only [qa] at h;exact ⟨he,h.symm⟩
 ·cases h
theorem z0s (hcx:CxOK P cx) {T el:Nat} {inf:TInfo} {tyr:TypeId} (hu:P.underlying T=some (.slice el)) (hinf:cx.ti el=some inf) (hz0:inf.size≠0) {F:Nat->Prop} {v x:Value} {l ys:List (ty el)}
  (hrow:zcW cx F w v el l) {ad:Option Addr} {cap:Nat} {us:List Value} (hx:x=.slice ad ys.length cap) (hnil:ad=none->ys=[]/\cap=0) (hus:All2 (Rep cx F w) us (zct cx el ys))
  (hcell:∀ ad',ad=some ad'->∀ (j:Nat) u,us[j]? =some u->w.cell? (ad'.add j)=some u) (hreach:(l.length+ys.length)*inf.bytes<=zbh) (hsmall:l.length+ys.length<=maxLen):
  ∃ v' w' xs,(Builtin.append_ #[T,T] tyr #[v,x]).run P w=.ok v' w'/\w.ownsRow 0 el (zp cx el) v l.length xs/\All2 (Rep cx F w) xs (zct cx el l)/\w'.ownsRow 0 el (zp cx el) v' (l++ys).length (xs++us)/\w.grownBy w' (zba v)/\
   ∀ b,zba v'=some b->zba v=some b\/w.heap.size<=b:=by
 obtain ⟨info,desc,zv,hi,hu2,hs,hbb,hz,hzc,hzl,hz1,hd⟩:=(hcx.ti el _ hinf).ok;have hk:zp cx el=inf.size:=by simp [zp,hinf]
 have hzs:zv.cells.size=inf.size:=by rw [<- Array.length_toList,hzc,hzl]
 obtain ⟨xs,ho,ha⟩:=hrow
 have hbo:v.ownBlock=zba v:=by
  rcases ho.2 with ⟨rfl,_⟩ | ⟨g,cap',cur,rfl,_⟩ <;>rfl
 subst hx;cases ad with
 | none=>
  obtain ⟨rfl,rfl⟩:=hnil rfl;have hus0:us=[]:=hus.nil_left.1;subst hus0;have:=run_append_owned_none (P:=P) (w:=w) 0 T tyr el info (zp cx el) hu hi v l.length xs ho;exact ⟨v,w,xs,this,ho,ha,by simpa using ho,⟨rfl,rfl,rfl,Nat.le_refl _,λ_ _ _=>rfl⟩,λb hb=>.inl hb⟩
 | some ad'=>
  obtain ⟨v',w',hrun,hown,hg,_,hat⟩:=run_append_own_at (P:=P) w 0 T tyr el info zv (zp cx el) inf.bytes hu hi hz (by rw [hs,hk]) hbb (by rw [hzs,hk]) (by rw [hk]; omega) v l.length xs ho ad' ys.length cap us
   (by rw [hus.len,zOj hcx]) (hcell ad' rfl) (zXb hcx hus) hsmall (by unfold zbh at hreach; omega) (Nat.zero_le _)
  rw [hbo] at hg;refine ⟨v',w',xs,hrun,ho,ha,by rw [qg]; exact hown,hg,λb hb=> ?_⟩
  have hb':v'.ownBlock=some b:=by
   rcases hown.2 with ⟨rfl,_⟩ | ⟨g,cap',cur,rfl,_⟩
   ·simp [zba] at hb
   ·exact hb
  rcases hat with h | h
  ·left; rw [<- hbo, <- h]; exact hb'
  ·right; rw [h] at hb'; simp at hb'; omega
theorem z1k {dst:Option Tmp} {v:AV ty} {n m:Nat} {nb mb:Blk ty} {fz rd:List Nat}:(st.app dst { val:=v,wr:=[(n,nb),(m,mb)],fz:=fz,rd:=rd }).blk=λj=>(gD .none (((zbO st.blks fz).set n nb).set m mb) j):=by funext j; unfold St.blk; rw [St.app_blks]; rfl
theorem z78 {args:Array Operand} {ts:Array TypeId} (hcx:CxOK P cx) (ho:o.op=.call { callee:=.builtin .append,args:=args,argTypes:=ts }) (h:aop cx o st=some d) (hf:RF cx e st κ a w):o.wp P a w (λa' w'=>R cx e (st.app o.dst d) a' w') Q:=by
 unfold aop zed at h;simp only [ho] at h;have hall:=zw7 hf args.toList;have hex:=zr9 (a:=a) ho;unfold zgX at h;generalize hts:ts.toList=tl at h;generalize hvs:args.toList.map st.ev=vl at h hall
 match tl,vl,h,hall with
 | [T,T2],[sv,xv],h,hall=>
  obtain ⟨u,us',hus,hu,h'⟩:=hall.inv;obtain ⟨u2,us2,hus2,hu2,h2⟩:=h'.inv;have h20:us2=[]:=h2.nil_left.1;subst h20; subst hus2;simp only at h;split at h
  ·rename_i hTT;have hTT:T=T2:=Nat.eq_of_beq_eq_true hTT;subst hTT;have hts':ts=#[T,T]:=by apply Array.ext'; exact hts
   have hargs:args.map a.eval=#[u,u2]:=by apply Array.ext'; rw [Array.toList_map]; exact hus
   have run:∀ v' w',(Builtin.append_ #[T,T] o.type #[u,u2]).run P w=.ok v' w'->(execOp a.eval o).run P w=.ok (.value v') w':=by
    intro v' w' hv';rw [hex,hts',hargs];simp only [builtin,Sem.run_bind,hv',Result.andThen_ok,Sem.run_pure]
   unfold zqj at h;split at h
   ·rename_i el sz bz zz dd hT hdst;have hund:=zic hcx hT;split at h
    ·cases h
    ·rename_i inf hinf;split at h
     ·cases h
     ·rename_i hz0;rw [Bool.or_eq_false_iff] at hz0;obtain ⟨hz0,hb0⟩:=hz0;have hz0:inf.size≠0:=by intro h0; rw [h0] at hz0; cases hz0
      have hb0:1<=inf.bytes:=by
       rcases Nat.eq_zero_or_pos inf.bytes with h | h
       ·rw [h] at hb0; cases hb0
       ·exact h
      split at h
      ·cases h
      ·rename_i ys rd hsrc
       -- the source
       obtain ⟨ad,cap,us,hx,hnil,hur,hcell⟩:∃ ad cap us,u2=.slice ad ys.length cap/\(ad=none->ys=[]/\cap=0)/\All2 (Rep cx (Fz e st.blk κ w) w) us (zct cx el ys)/\
         ∀ ad',ad=some ad'->∀ (j:Nat) u,us[j]? =some u->w.cell? (ad'.add j)=some u:=by
        split at hsrc
        ·simp only [qa,qb] at hsrc;obtain ⟨rfl,_⟩:=hsrc;exact ⟨none,0,[],zcd hu2,λ_=>⟨rfl,rfl⟩,.nil,λ_ _ j u hu=>by simp at hu⟩
        ·simp only [qa,qb] at hsrc;obtain ⟨rfl,_⟩:=hsrc;exact ⟨_,_,[],zcd hu2,by simp,.nil,λ_ _ j u hu=>by simp at hu⟩
        ·split at hsrc
         ·rename_i T3 ys3 rd3 hl;cases hcst:zyL T3 el ys3 with
          | none=>rw [hcst] at hsrc; cases hsrc
          | some ys4=>
           rw [hcst] at hsrc;simp only [Option.map_some,qa,qb] at hsrc;obtain ⟨rfl,_⟩:=hsrc;obtain ⟨rfl,rfl⟩:=zxk hcst;exact zSY hcx hf.rb hu2 hl
         ·cases hsrc
       split at h
       ·-- onto nil
        obtain ⟨hb,h⟩:=zeL h;obtain ⟨hfree,hreach⟩:=ziO hb;simp only [qe] at hreach;simp only [qa] at h; subst h;obtain ⟨hnone,hlt⟩:=zlQ hfree;have hv:=zcd hu;have hrow:zcW cx (Fz e st.blk κ w) w (.slice none 0 0) el ([]:List (ty el)):=⟨[],⟨by simp,.inl ⟨rfl,rfl⟩⟩,.nil⟩
        obtain ⟨v',w',xs,hrun,ho',ha,hown,hg,hblk⟩:=z0s (tyr:=o.type) hcx hund hinf hz0 hrow hx hnil hur hcell (by simpa using hreach) (by
         have:ys.length*1<=ys.length*inf.bytes:=Nat.mul_le_mul_left _ hb0;unfold zbh at hreach;simp only [maxLen,List.length_nil];omega)
        have hxs:xs=[]:=by
         have:=ho'.1; simp at this; exact this
        subst hxs;simp only [List.nil_append] at hown;have hdr:w.drawn<=w'.drawn:=z2h _ _ _ _ hrun
        have hst:=ztj (w':=w') (nb:=.arr el ys false) (v:=v') hf.rb hnone hlt hg.os hg.tape hg.output hg.size (λb hb=>hg.block b hb (by simp [zba]))
         (λb hb=>⟨(hblk b hb).resolve_left (by simp [zba]),zHb hown hb⟩)
         (λhc=>⟨us,hown,hur.imp λ_ _ h=>hc.rep' h⟩)
        refine zW (v:=v') (w':=w') (run v' w' (by rw [hv]; exact hrun)) ⟨_,hf.put (κ':=λi=>if i=zK dd then v' else κ i) ?_ ?_ (λ_=> ?_)⟩
        ·rw [zc7]; exact hst.1
        ·rw [zc7]; exact hst.2
        ·rw [zc7]
         have:=RepA.own (cx:=cx) (F:=Fz e (λj=>(gD .none ((zbO st.blks []).set (zK dd) (.arr el ys false)) j)) (λi=>if i=zK dd then v' else κ i) w') (w:=w')
          (kd:=λi=>((gD .none ((zbO st.blks []).set (zK dd) (.arr el ys false)) i)).kind cx) (κ:=λi=>if i=zK dd then v' else κ i) (zK dd) (zp cx el) ys.length (by
           rw [zbz,if_pos ⟨rfl,by rw [zij]; exact hlt⟩]; rfl)
         simpa using this
       ·-- onto a row
        rename_i id;split at h
        ·rename_i T4 l4 hbl hrdf;obtain ⟨hrdc,hfree⟩:=ziO hrdf;split at h
         ·cases h
         ·rename_i l hcst;obtain ⟨hb,h⟩:=zeL h;simp only [qe] at hb;simp only [qa] at h; subst h;obtain ⟨rfl,rfl⟩:=zxk hcst;obtain ⟨hnone,hlt⟩:=zlQ hfree;have hbl0:(gD .none st.blks id)=.arr T4 l false:=hbl;have hidlt:id<st.blks.length:=zbbR (cx:=cx) (by rw [hbl]; simp [Blk.kind])
          have hne:id≠zK dd:=by
           intro he; rw [he] at hbl; rw [hnone] at hbl; cases hbl
          cases hu with
          | rep hu=>cases hu
          | own _ k m hk=>
           obtain ⟨v',w',xs,hrun,ho',ha,hown,hg,hblk⟩:=z0s (tyr:=o.type) hcx hund hinf hz0 (hf.rb.row hbl) hx hnil hur hcell hb (by
            have:(l.length+ys.length)*1<=(l.length+ys.length)*inf.bytes:=Nat.mul_le_mul_left _ hb0;unfold zbh at hb;simp only [maxLen];omega)
           have huf:(st.blk id).unfz:=by rw [hbl]; rfl
           have hdr:w.drawn<=w'.drawn:=z2h _ _ _ _ hrun
           have hst:=hf.rb.step (B':=λj=>(gD .none (((zbO st.blks []).set id .dead).set (zK dd) (.arr T4 (l++ys) false)) j)) (κ':=λi=>if i=zK dd then v' else κ i) (w':=w') (λi=>i=id\/i=zK dd)
            hg.os hg.tape hg.output hg.size (λb hb2=>by
             by_cases hbb:zba (κ id)=some b
             ·exact .inr ⟨id,.inl rfl,huf,hbb⟩
             ·exact .inl (hg.block b hb2 (λhh=>hbb hh.symm)))
            (λi hi=>by
             have h1:¬ i=id:=λhh=>hi (.inl hh)
             have h2:¬ i=zK dd:=λhh=>hi (.inr hh)
             refine ⟨?_,by simp [h2]⟩
             change (gD .none (((zbO st.blks []).set id .dead).set (zK dd) (.arr T4 (l++ys) false)) i)=st.blk i
             rw [zbz,if_neg (λhh=>h2 hh.1.symm),zbz,if_neg (λhh=>h1 hh.1.symm)]
             rfl)
            (λi hi hk2=>by
             rcases hi with rfl | rfl
             ·right
              change Blk.kind cx ((gD .none (((zbO st.blks []).set i .dead).set (zK dd) (.arr T4 (l++ys) false)) i))=_
              rw [zbz,if_neg (λhh=>hne hh.1.symm),zbz,if_pos ⟨rfl,by rw [zij]; exact hidlt⟩]
              rfl
             ·exact absurd (by rw [hnone]; rfl) hk2)
            (λi b hi hl hb2=>by
             rcases hi with rfl | rfl
             ·exfalso
              have:(gD .none (((zbO st.blks []).set i .dead).set (zK dd) (.arr T4 (l++ys) false)) i)=.dead:=by
               rw [zbz,if_neg (λhh=>hne hh.1.symm),zbz,if_pos ⟨rfl,by rw [zij]; exact hidlt⟩]
              rw [this] at hl;exact hl
             ·simp only [if_true] at hb2;refine ⟨zHb hown hb2, ?_⟩;rcases hblk b hb2 with h3 | h3
              ·exact .inl ⟨id,.inl rfl,huf,h3⟩
              ·exact .inr h3)
            (λi j b hi hj hl hu2 _ _=>by
             have dead:¬ ((gD .none (((zbO st.blks []).set id .dead).set (zK dd) (.arr T4 (l++ys) false)) id)).live:=by
              rw [zbz,if_neg (λhh=>hne hh.1.symm),zbz,if_pos ⟨rfl,by rw [zij]; exact hidlt⟩]
              exact λhh=>hh
             rcases hi with rfl | rfl
             ·exact absurd hl dead
             ·rcases hj with rfl | rfl
              ·exact absurd hu2.live dead
              ·rfl)
            (λi hi hc=>by
             rcases hi with rfl | rfl
             ·have:(gD .none (((zbO st.blks []).set i .dead).set (zK dd) (.arr T4 (l++ys) false)) i)=.dead:=by
               rw [zbz,if_neg (λhh=>hne hh.1.symm),zbz,if_pos ⟨rfl,by rw [zij]; exact hidlt⟩]
              rw [this]; trivial
             ·have:(gD .none (((zbO st.blks []).set id .dead).set (zK dd) (.arr T4 (l++ys) false)) (zK dd))=.arr T4 (l++ys) false:=by
               rw [zbz,if_pos ⟨rfl,by rw [List.length_set,zij]; exact hlt⟩]
              rw [this];simp only [if_true];refine ⟨xs++us,hown, ?_⟩;unfold zct;rw [List.flatMap_append];exact (ha.imp λ_ _ h=>hc.rep' h).append (hur.imp λ_ _ h=>hc.rep' h))
           refine zW (v:=v') (w':=w') (run v' w' hrun) ⟨_,hf.put (κ':=λi=>if i=zK dd then v' else κ i) ?_ ?_ (λ_=> ?_)⟩
           ·rw [z1k]; exact hst.1
           ·rw [z1k]; exact hst.2
           ·rw [z1k]
            have:=RepA.own (cx:=cx) (F:=Fz e (λj=>(gD .none (((zbO st.blks []).set id .dead).set (zK dd) (.arr T4 (l++ys) false)) j)) (λi=>if i=zK dd then v' else κ i) w') (w:=w')
             (kd:=λi=>((gD .none (((zbO st.blks []).set id .dead).set (zK dd) (.arr T4 (l++ys) false)) i)).kind cx) (κ:=λi=>if i=zK dd then v' else κ i) (zK dd) (zp cx T4) (l++ys).length (by
              rw [zbz,if_pos ⟨rfl,by rw [List.length_set,zij]; exact hlt⟩]; rfl)
            simpa using this
          | ownD _ _ hk=>simp [hbl,Blk.kind] at hk
        ·cases h
       ·cases h
   ·cases h
  ·have hargs2:args.map a.eval=#[u,u2]:=by apply Array.ext'; rw [Array.toList_map]; exact hus
   exact z7k hcx (by apply Array.ext'; exact hts) hargs2 hu hu2 hex h hf
theorem z5k:∀ (cs:List (AV ty)) (us:List Value) (ns:List Int),All2 (Rep cx (Fz e st.blk κ w) w) us cs->bytesOf cs=some ns->us=ns.map (Value.int .u8)
 | [],us,ns,h,hb=>by
  simp only [bytesOf,qa] at hb; subst hb;exact h.nil_left.1
 | c::cs,us,ns,h,hb=>by
  obtain ⟨u,us',rfl,hu,h'⟩:=h.inv;unfold bytesOf at hb;split at hb
  ·rename_i e; cases e
  ·rename_i n r e;simp only [qj] at e;obtain ⟨rfl,rfl⟩:=e;split at hb
   ·rename_i ns' hns;simp only [qa] at hb; subst hb;cases hu;rw [z5k cs us' ns' h' hns]; rfl
   ·cases hb
  ·cases hb
theorem z7F {S D:Nat} {x:Operand} (hcx:CxOK P cx) (ho:o.op=.convert S D x) (h:aop cx o st=some d) (hf:RF cx e st κ a w):o.wp P a w (λa' w'=>R cx e (st.app o.dst d) a' w') Q:=by
 unfold aop zed at h;simp only [ho] at h;have hx:=zca hf x;split at h
 ·rename_i k1 s1 b1 z1 k2 s2 b2 z2 k n hS hD hex;rw [hex] at hx;simp only [qa] at h; subst h;exact zW (v:=.int k2 (k2.wrap n)) (w':=w) (by simp only [execOp,ho,zcd hx,convert,zc8 (zzG hcx hS),zc8 (zzG hcx hD),Conv.intToInt,Sem.run_bind,Sem.run_pure,Result.andThen_ok]) (hf.val (.rep (.lit _)))
 ·rename_i s1 b1 z1 s2 b2 z2 s hS hD hex;rw [hex] at hx;simp only [qa] at h; subst h;exact zW (v:=.string s) (w':=w) (by simp only [execOp,ho,zcd hx,convert,zc8 (zuU hcx hS),zc8 (zuU hcx hD),Sem.run_bind,Sem.run_pure,Result.andThen_ok]) (hf.val (.rep (.lit _)))
 ·rename_i e1 s1 b1 z1 s2 b2 z2 hS hD;split at h
  ·rename_i s3 b3 z3 T' l rd he hl;split at h
   ·rename_i ns hk hns;simp only [qa] at h; subst h;simp only [qc] at hk;have hk1:=Nat.eq_of_beq_eq_true hk.1;have hk2:=Nat.eq_of_beq_eq_true hk.2;subst hk1 hk2;obtain ⟨ad,cap,us,hv,hnil,hrep,hcells⟩:=zSY hcx hf.rb hx hl;have hus:=z5k _ us ns hrep hns;refine zW (v:=.string (ns.foldl (λr n=>r.push (UInt8.ofNat n.toNat)) ByteArray.empty)) (w':=w) ?_ (hf.val (.rep (.lit _)))
    simp only [execOp,ho,hv,run_convert_bytes_string w S D e1 ad _ cap (zic hcx hS) (zzG hcx he) (zuU hcx hD),Sem.run_bind];cases ad with
    | none=>
     obtain ⟨rfl,rfl⟩:=hnil rfl;simp only [List.flatMap_nil,bytesOf,qa] at hns;subst hns;simp [Conv.bytesToString,Sem.run_pure]
    | some ad=>
     have hlen:(loadCells ad l.length).run P w=.ok (ns.map (Value.int .u8)).toArray w:=by
      have h1:=run_loadCells_list (P:=P) w ad (ns.map (Value.int .u8)) (λj u hj=>hcells ad rfl j u (by rw [hus]; exact hj))
      have h2:(ns.map (Value.int .u8)).length=l.length:=by
       rw [<- hus,hrep.len,zOj hcx,show zp cx e1=1 by unfold zp; rw [he]]; omega
      rwa [h2] at h1
     rw [run_bytesToString w ad _ cap ns hlen]; rfl
   ·cases h
  ·cases h
 ·cases h
end
end
end Go.Ab
