/- Texts of this claim, joined (an interpreter of the code over typed data, and its soundness). -/
import Derived.Calls
import Derived.LoopN
import Derived.Orders
import Derived.Maps.AppendAt
import Derived.Below
import Derived.Laws.Entries
import Derived.Tactics
import Derived.MapKept
import Derived.Laws.OwnMore
import Derived.Laws.MakeOwn
import Derived.Laws.BytesString
set_option autoImplicit false
set_option linter.unusedVariables false
set_option linter.unusedSectionVars false
set_option linter.unusedSimpArgs false
/- A run of the machine's own steps never takes a draw back. -/
namespace Go.Ab
theorem qa {α:Type _} {a b:α}:(some a=some b)=(a=b):=Option.some.injEq a b
theorem qb {α:Type _} {β:Type _} {a c:α} {b d:β}:((a,b)=(c,d))=(a=c/\b=d):=Prod.mk.injEq a b c d
theorem qc {a b:Bool}:((a&&b)=true)=(a=true/\b=true):=Bool.and_eq_true a b
theorem qd {α:Type _} {b:α} {l:List α} {a:α}:a∈b::l↔a=b\/a∈l:=_root_.List.mem_cons
theorem qe {p:Prop} [Decidable p]:(decide p=true)=p:=_root_.decide_eq_true_eq
theorem qf {α:Type _} {a:α} {l:List α}:(a::l).length=l.length+1:=rfl
theorem qg {α:Type _} {a b:List α}:(a++b).length=a.length+b.length:=_root_.List.length_append
theorem qh {α:Type _} {a b:α}:a∈[b]↔a=b:=_root_.List.mem_singleton
theorem qi {α:Type _} {R:α->α->Prop} {a:α} {l:List α}:(a::l).Pairwise R↔(∀ b∈l,R a b)/\l.Pairwise R:=_root_.List.pairwise_cons
theorem qj {α:Type _} {a b:α} {l m:List α}:(a::l=b::m)=(a=b/\l=m):=List.cons.injEq a l b m
noncomputable section
theorem zTt (w:World) (a:Addr) (v:Value):(w.setCell a v).drawn=w.drawn:=by unfold World.setCell; rfl
theorem zVg (w:World) (a:Addr) (n:Nat):(w.freeze a n).drawn=w.drawn:=by
 unfold World.freeze; first | rfl | (split <;>rfl)
theorem zMh {α:Type}:∀ (x:Ask α) (w:World),w.drawn<=(w.ask x).2.drawn
 | .done a,w=>Nat.le_refl _
 | .ask what range k,w=>by
  unfold World.ask
  dsimp only
  split
  ·exact zMh (k 0) w
  ·exact Nat.le_trans (Nat.le_succ _) (zMh (k _) { w with drawn:=w.drawn+1 })
theorem zXF (w:World) (c:Sys):w.drawn<=(w.sys c).2.drawn:=by
 unfold World.sys;have h:=zMh (Kernel.perform c w.os) w;split
 ·exact Nat.le_refl _
 ·rename_i r os w' hq;rw [hq] at h;exact h
theorem zSq {P:Program} {w w':World} {a:Addr} {v:Value} {b:Bool} {l:List Addr} (h:w.farStore P a v b=.ok (w',l)):w.drawn<=w'.drawn:=by
 unfold World.farStore at h;split at h
 ·split at h
  ·rename_i r hr;simp only [Except.ok.injEq] at h;subst h;unfold World.viewStore at hr;simp only [bind,Except.bind,pure,Except.pure] at hr
   repeat' (split at hr)
   all_goals first
    | (cases hr; done)
    | (simp only [Except.ok.injEq,qb] at hr; obtain ⟨rfl,_⟩:=hr; exact Nat.le_refl _)
  ·cases h
 ·cases h
theorem zSK {P:Program} {α:Type}:∀ (m:Sem α) (w w':World) (v:α),m.run P w=.ok v w'->w.drawn<=w'.drawn:=by
 intro m;induction m with
 | pure a=>intro w w' v h; simp only [Sem.run,Result.ok.injEq] at h; rw [h.2]; exact Nat.le_refl _
 | load m a k ih=>
  intro w w' v h;simp only [Sem.run] at h;split at h
  ·exact ih _ w w' v h
  ·split at h
   ·exact ih _ w w' v h
   ·cases h
 | store m a u k ih=>
  intro w w' v h;cases u <;>simp only [Sem.run] at h <;>try (cases h; done)
  all_goals
   split at h
   ·split at h
    ·cases h
    ·have:=ih _ w' v h
     rwa [zTt] at this
   ·split at h
    ·rename_i w2 l hfs;exact Nat.le_trans (zSq hfs) (ih _ w' v h)
    ·cases h
 | new o k ih=>
  intro w w' v h;simp only [Sem.run] at h;exact ih _ { w with heap:=w.heap.push o } w' v h
 | shape r k ih=>
  intro w w' v h;simp only [Sem.run] at h;exact ih _ _ w' v h
 | freeze a n k ih=>
  intro w w' v h;simp only [Sem.run] at h;have:=ih _ w' v h
  rwa [zVg] at this
 | frozen a k ih=>
  intro w w' v h;simp only [Sem.run] at h;exact ih _ _ w' v h
 | getObj r k ih=>
  intro w w' v h;simp only [Sem.run] at h;split at h
  ·cases h
  ·exact ih _ _ w' v h
  ·cases h
 | setObj r o k ih=>
  intro w w' v h;simp only [Sem.run] at h;split at h
  ·cases h
  ·exact ih { w with heap:=w.heap.setIfInBounds r o } w' v h
  ·cases h
 | choose q k ih=>
  intro w w' v h;simp only [Sem.run] at h;split at h
  ·exact ih _ _ w' v h
  ·exact Nat.le_trans (Nat.le_succ _) (ih _ { w with drawn:=w.drawn+1 } w' v h)
 | sys c k ih=>
  intro w w' v h;simp only [Sem.run] at h;exact Nat.le_trans (zXF w c) (ih _ _ w' v h)
 | program k ih=>
  intro w w' v h;simp only [Sem.run] at h;exact ih _ _ w' v h
 | mark m k ih=>
  intro w w' v h;simp only [Sem.run] at h;exact ih _ w' v h
 | halt x=>intro w w' v h; simp only [Sem.run] at h; cases h
end
end Go.Ab
/- The abstract interpreter: values without addresses, blocks of the call's own, and the evaluation of the model's code over them in continuation form. Definitions alone. -/
namespace Go.Ab
noncomputable section
inductive AV (ty:Nat->Type):Type where
 | lit (v:Value)
 | sl (T:Nat) (l:List (ty T))
 | own (id:Nat)
 | sub (id lo n:Nat)
 | ptr (id off:Nat)
 | eptr (id ix off:Nat)
 | fptr (T:Nat) (x:ty T) (off:Nat)
 | bptr (cs:List (AV ty)) (off:Nat)
 | agg (cs:List (AV ty))
 | tup (vs:List (AV ty))
 | fn (f:Nat) (caps:List (AV ty))
 /-- A value of an interface type: is it there? -/
 | err (there:Bool)
 /-- A map of the call's own. -/
 | mp (id:Nat)
 | dead
inductive Blk (ty:Nat->Type):Type where
 | none
 | dead
 | box (cs:List (AV ty)) (fz:Bool)
 | arr (T:Nat) (l:List (ty T)) (fz:Bool)
 | mp (K V:Nat) (l:List (Value×ty V)) (fz:Bool)
structure St (ty:Nat->Type) where
 tmps:List (AV ty)
 blks:List (Blk ty)
inductive TD where
 | int (k:IntKind) | bool | str | slice (e:Nat) | struct (fs:List (Nat×Nat)) | iface | map (k v:Nat) | other
structure TInfo where
 desc:TD
 size:Nat
 bytes:Nat
 zero:List Value
inductive Arg (ty:Nat->Type):Type where
 | pure (a:AV ty)
 | own (T:Nat) (l:List (ty T))
inductive RV (ty:Nat->Type):Type where
 | pure (a:AV ty)
 | own (T:Nat) (l:List (ty T))
structure ARes (ty:Nat->Type) where
 vals:List (RV ty)
 upd:List (Option ((T:Nat)×List (ty T))):=[]
abbrev Spec (ty:Nat->Type):=List (Arg ty)->Option (Bool×ARes ty)
inductive LMode where
 | keep
 | pure
 | sl (e:Nat)
 | own (T:Nat)
 /-- a pointer to a box: these of its cells (offset, type of the elements) are lists of their own -/
 | boxOwn (l:List (Nat×Nat))
inductive Ex where
 | normal
 | exit (id:Nat)
 | ret
inductive LTree (ty:Nat->Type):Type where
 | done (ex:Ex) (vals:List (AV ty)) (bs:List (Blk ty))
 | ite (b:Bool) (t e:LTree ty)
abbrev ztQ (ty:Nat->Type):=List (AV ty)->List (Blk ty)->Option (Bool×LTree ty)
structure CSpec (ty:Nat->Type) where
 T:Nat
 run:Option Nat->List (AV ty)->List (ty T)->Option (Bool×List (ty T))
structure Cx (ty:Nat->Type) where
 ti:Nat->Option TInfo
 dflt:(T:Nat)->ty T
 enc:(T:Nat)->ty T->List (AV ty)
 dec:(T:Nat)->List (AV ty)->Option (ty T)
 spec:Nat->Option (Spec ty)
 io:Nat->List Bool
 eqs:Nat->List Value->List Value->Option Bool
 nt:Nat
 head:Nat->List (Nat×LMode)
 out:Nat->Ex->List (Nat×LMode)
 loops:Nat->Option (ztQ ty)
 /-- What holds of the package's variables, which lie in the first 'ng' blocks. -/
 ng:Nat:=0
 inv:World->Prop:=λ_=>True
 /-- Are the ztY followed? -/
 dr:Bool:=true
 /-- Callees whose arguments stand as they are (a nil slice stays one). -/
 raw:Nat->Bool:=λ_=>false
 /-- Pieces of code that several ways lead to, by their first region. -/
 joins:Nat->Option (ztQ ty):=λ_=>none
 /-- Callees that are handed a box. -/
 cells:Nat->Option (CSpec ty):=λ_=>none
section
variable {ty:Nat->Type}
def AV.ofConst:Value->AV ty
 | .agg cs=>.agg (cs.toList.map .lit)
 | .func (.func f) first caps=>match first.toList,caps.toList with
  | [],[]=>.fn f []
  | _,_=>.lit (.func (.func f) first caps)
 | v=>.lit v
noncomputable def gO {α:Type _} (l:List α):Nat->Option α:=List.rec (motive:=λ_=>Nat->Option α) (λ_=>none) (λa _ ih n=>Nat.rec (motive:=λ_=>Option α) (some a) (λm _=>ih m) n) l
noncomputable def gD {α:Type _} (d:α) (l:List α):Nat->α:=List.rec (motive:=λ_=>Nat->α) (λ_=>d) (λa _ ih n=>Nat.rec (motive:=λ_=>α) a (λm _=>ih m) n) l
noncomputable def sT {α:Type _} (v:α) (l:List α):Nat->List α:=List.rec (motive:=λ_=>Nat->List α) (λ_=>[]) (λa r ih n=>Nat.rec (motive:=λ_=>List α) (v::r) (λm _=>a::ih m) n) l
theorem zW0 {α:Type _}:∀ (l:List α) (n:Nat),gO l n=l[n]?
 | [],n=>rfl
 | a::r,0=>rfl
 | a::r,n+1=>by rw [List.getElem?_cons_succ, <- zW0 r n]; rfl
theorem zfF {α:Type _} (d:α):∀ (l:List α) (n:Nat),gD d l n=l.getD n d
 | [],n=>rfl
 | a::r,0=>rfl
 | a::r,n+1=>by rw [List.getD_cons_succ, <- zfF d r n]; rfl
theorem zwv {α:Type _} (v:α):∀ (l:List α) (n:Nat),sT v l n=l.set n v
 | [],n=>rfl
 | a::r,0=>rfl
 | a::r,n+1=>by rw [List.set_cons_succ, <- zwv v r n]; rfl
@[simp] theorem z1H {α : Type _} (d a : α) (l : List α) (n : Nat) : gD d (a :: l) (n + 1) = gD d l n := rfl
@[simp] theorem z1I {α : Type _} (d a : α) (l : List α) : gD d (a :: l) 0 = a := rfl
@[simp] theorem z1J {α : Type _} (d : α) (n : Nat) : gD d [] n = d := rfl
noncomputable def St.get (s:St ty) (t:Nat):AV ty:=gD .dead s.tmps t
theorem St.get_def (s:St ty) (t:Nat):s.get t=s.tmps.getD t .dead:=zfF ..
noncomputable def St.setT (s:St ty) (t:Nat) (v:AV ty):St ty:={ s with tmps:=sT v s.tmps t }
theorem St.setT_def (s:St ty) (t:Nat) (v:AV ty):s.setT t v={ s with tmps:=s.tmps.set t v }:=by unfold St.setT; rw [zwv]
noncomputable def St.blk (s:St ty) (i:Nat):Blk ty:=gD .none s.blks i
theorem St.blk_def (s:St ty) (i:Nat):s.blk i=s.blks.getD i .none:=zfF ..
def St.ev (s:St ty):Operand->AV ty
 | .tmp t=>s.get t
 | .const v=>.ofConst v
 | .func f=>.fn f []
 | .global _=>.dead
def zb7:Value->Bool
 | .agg _ | .tuple _=>false
 | _=>true
def zo3 (st:St ty) (id:Nat):Bool:=match st.blk id with | .box _ _=>true | .arr _ _ _=>true | _=>false
def AV.isCell (st:St ty):AV ty->Bool
 | .lit v=>zb7 v
 | .own id | .sub id _ _ | .ptr id _ | .eptr id _ _=>zo3 st id
 | .agg _ | .tup _ | .dead | .mp _=>false
 | _=>true
def AV.cells (st:St ty) (v:AV ty):Option (List (AV ty)):=
 match v with
 | .agg cs=>match cs.all (AV.isCell st) with
  | true=>some cs
  | false=>none
 | v=>match v.isCell st with
  | true=>some [v]
  | false=>none
def AV.cellId:AV ty->List Nat
 | .own id | .sub id _ _ | .ptr id _ | .eptr id _ _=>[id]
 | _=>[]
def AV.ids1:AV ty->List Nat
 | .agg cs=>cs.flatMap AV.cellId
 | v=>v.cellId
def zNF (cs:List (AV ty)):List Nat:=cs.flatMap AV.cellId
def AV.int64:AV ty->Option Int
 | .lit (.int .i64 n)=>some n
 | _=>none
def Blk.freeze:Blk ty->Blk ty
 | .box cs _=>.box cs true
 | .arr T l _=>.arr T l true
 | .mp K V l _=>.mp K V l true
 | b=>b
structure Delta (ty:Nat->Type) where
 val:AV ty
 wr:List (Nat×Blk ty):=[]
 fz:List Nat:=[]
 rd:List Nat:=[]
def zbE (b:List (Blk ty)):List (Nat×Blk ty)->List (Blk ty)
 | []=>b
 | (i,x)::r=>zbE (b.set i x) r
def zbA (b:List (Blk ty)):List Nat->List (Blk ty)
 | []=>b
 | i::r=>zbA (b.set i (gD .none b i).freeze) r
def zW5 (b:List (Blk ty)):List (Nat×Blk ty)->List (Blk ty)
 | []=>b
 | (i,x)::r=>zW5 (sT x b i) r
def fzF (b:List (Blk ty)):List Nat->List (Blk ty)
 | []=>b
 | i::r=>fzF (sT (gD .none b i).freeze b i) r
theorem zHR:∀ (l:List (Nat×Blk ty)) (b:List (Blk ty)),zW5 b l=zbE b l
 | [],b=>rfl
 | (i,x)::r,b=>by rw [zW5,zbE,zwv,zHR r]
theorem zAa:∀ (l:List Nat) (b:List (Blk ty)),fzF b l=zbA b l
 | [],b=>rfl
 | i::r,b=>by rw [fzF,zbA,zwv,zAa r]
def St.app (st:St ty) (dst:Option Tmp) (d:Delta ty):St ty:=
 { tmps:=(match dst with | some t=>sT d.val st.tmps t | none=>st.tmps),
   blks:=zW5 (fzF st.blks d.fz) d.wr }
theorem St.app_blks (st:St ty) (dst:Option Tmp) (d:Delta ty):(st.app dst d).blks=zbE (zbA st.blks d.fz) d.wr:=by unfold St.app; rw [zHR,zAa]
theorem St.app_def (st:St ty) (dst:Option Tmp) (d:Delta ty):st.app dst d={ tmps:=(match dst with | some t=>st.tmps.set t d.val | none=>st.tmps),blks:=zbE (zbA st.blks d.fz) d.wr }:=by
 unfold St.app; rw [zHR,zAa]; cases dst <;>simp [zwv]
def zes (f:AV ty->Option (AV ty×List Nat)):List (AV ty)->Option (List (AV ty)×List Nat)
 | []=>some ([],[])
 | c::cs=>match f c with
  | none=>none
  | some (c',i)=>match zes f cs with
   | none=>none
   | some (cs',is)=>some (c'::cs',i++is)
def zbn (cx:Cx ty) (st:St ty):Nat->AV ty->Option (AV ty×List Nat)
 | 0,_=>none
 | n+1,v=>match v with
  | .lit v=>some (.lit v,[])
  | .err b=>some (.err b,[])
  | .sl T l=>some (.sl T l,[])
  | .own id=>match st.blk id with
   | .arr T l _=>some (.sl T l,[id])
   | _=>none
  | .sub id lo k=>match st.blk id with
   | .arr T l _=>some (.sl T ((l.drop lo).take k),[id])
   | _=>none
  | .ptr id off=>match st.blk id with
   | .box cs _=>match zes (zbn cx st n) cs with
    | some (cs',is)=>some (.bptr cs' off,id::is)
    | none=>none
   | _=>none
  | .eptr id ix off=>match st.blk id with
   | .arr T l _=>some (.fptr T (l.getD ix (cx.dflt T)) off,[id])
   | _=>none
  | .fptr T x off=>some (.fptr T x off,[])
  | .bptr cs off=>some (.bptr cs off,[])
  | .agg cs=>match zes (zbn cx st n) cs with
   | some (cs',is)=>some (.agg cs',is)
   | none=>none
  | .fn f cs=>match zes (zbn cx st n) cs with
   | some (cs',is)=>some (.fn f cs',is)
   | none=>none
  | .tup _=>none
  | .mp _=>none
  | .dead=>none
def zcD:Nat:=6
def size (cx:Cx ty) (T:Nat):Option Nat:=(cx.ti T).map (·.size)
def zrj (i:TInfo):Bool:=match i.desc with | .struct _=>true | _=>false
def cut (i:TInfo) (cs:List (AV ty)) (off:Nat):Option (AV ty):=
 match zrj i with
 | true=>match Nat.ble (off+i.size) cs.length with
  | true=>some (.agg ((cs.drop off).take i.size))
  | false=>none
 | false=>cs[off]?
def splice (cs:List (AV ty)) (off:Nat) (new:List (AV ty)):Option (List (AV ty)):=
 match Nat.ble (off+new.length) cs.length with
 | true=>some (cs.take off++new++cs.drop (off+new.length))
 | false=>none
def zdN (cx:Cx ty) (st:St ty):AV ty->Option (List (AV ty)×Nat×List Nat)
 | .ptr id off=>match st.blk id with
  | .box cs _=>some (cs,off,[id])
  | _=>none
 | .eptr id ix off=>match st.blk id with
  | .arr T l _=>some (cx.enc T (l.getD ix (cx.dflt T)),off,[id])
  | _=>none
 | .fptr T x off=>some (cx.enc T x,off,[])
 | .bptr cs off=>some (cs,off,[])
 | _=>none
def shift (o:Nat):AV ty->Option (AV ty)
 | .ptr id off=>some (.ptr id (off+o))
 | .eptr id ix off=>some (.eptr id ix (off+o))
 | .fptr T x off=>some (.fptr T x (off+o))
 | .bptr cs off=>some (.bptr cs (off+o))
 | _=>none
def zc9 (st:St ty):AV ty->Option (((T:Nat)×List (ty T))×List Nat)
 | .sl T l=>some (⟨T,l⟩,[])
 | .own id=>match st.blk id with
  | .arr T l _=>some (⟨T,l⟩,[id])
  | _=>none
 | .sub id lo n=>match st.blk id with
  | .arr T l _=>some (⟨T,(l.drop lo).take n⟩,[id])
  | _=>none
 | _=>none
def ztZ (T T':Nat) (l:List (ty T)):Option (List (ty T')):=if h:T=T' then some (h ▸ l) else none
def zWT (op:BinOp) (k:IntKind) (x y:Int):Option (Bool×AV ty):=
 match op with
 | .add=>some (true,.lit (.int k (k.wrap (x+y))))
 | .sub=>some (true,.lit (.int k (k.wrap (x - y))))
 | .mul=>some (true,.lit (.int k (k.wrap (x*y))))
 | .quo=>some (!decide (y=0),.lit (.int k (k.wrap (x.tdiv y))))
 | .rem=>some (!decide (y=0),.lit (.int k (x.tmod y)))
 | .eql=>some (true,.lit (.bool (x==y)))
 | .neq=>some (true,.lit (.bool (x != y)))
 | .lss=>some (true,.lit (.bool (decide (x<y))))
 | .leq=>some (true,.lit (.bool (decide (x<=y))))
 | .gtr=>some (true,.lit (.bool (decide (x>y))))
 | .geq=>some (true,.lit (.bool (decide (x≥y))))
 | .shr=>some (!decide (y<0),.lit (.int k (x.fdiv (2 ^ (min y.toNat k.bits)))))
 | _=>none
def zZf (op:BinOp) (x y:ByteArray):Option (Bool×AV ty):=
 match op with
 | .add=>some (decide (x.size+y.size<=9223372036854775807),.lit (.string (x++y)))
 | .eql=>some (true,.lit (.bool (x.toList==y.toList)))
 | .neq=>some (true,.lit (.bool (!(x.toList==y.toList))))
 | .lss=>some (true,.lit (.bool (Op.bytesLess x.toList y.toList)))
 | _=>none
def zzX:List (AV ty)->Option (List Value)
 | []=>some []
 | .lit v::r=>match zzX r with
  | some vs=>some (v::vs)
  | none=>none
 | _=>none
def zZi (cx:Cx ty) (op:BinOp) (T:Nat) (x y:AV ty):Option (Bool×AV ty):=
 match x,y with
 | .lit (.int k a),.lit (.int k' b)=>if k=k' then zWT op k a b else none
 | .lit (.string a),.lit (.string b)=>zZf op a b
 | .lit (.bool a),.lit (.bool b)=>match cx.ti T with
  | some ⟨.bool,_,_,_⟩=>match op with
   | .eql=>some (true,.lit (.bool (a==b)))
   | .neq=>some (true,.lit (.bool (!(a==b))))
   | _=>none
  | _=>none
 | .agg a,.agg b=>match zzX a,zzX b with
  | some us,some vs=>match cx.eqs T us vs with
   | some r=>match op with
    | .eql=>some (true,.lit (.bool r))
    | .neq=>some (true,.lit (.bool (!r)))
    | _=>none
   | none=>none
  | _,_=>none
 | .lit (.slice a _ _),.lit (.slice none 0 0)=>match cx.ti T with
  | some ⟨.slice _,_,_,_⟩=>match op with
   | .eql=>some (true,.lit (.bool a.isNone))
   | .neq=>some (true,.lit (.bool (!a.isNone)))
   | _=>none
  | _=>none
 | .sl _ l,.lit (.slice none 0 0)=>match cx.ti T with
  | some ⟨.slice _,_,_,_⟩=>match op with
   | .eql=>some (!l.isEmpty,.lit (.bool false))
   | .neq=>some (!l.isEmpty,.lit (.bool true))
   | _=>none
  | _=>none
 | _,_=>none
def bytesOf:List (AV ty)->Option (List Int)
 | []=>some []
 | .lit (.int .u8 n)::r=>match bytesOf r with
  | some ns=>some (n::ns)
  | none=>none
 | _=>none
def zZg (cx:Cx ty) (op:BinOp) (T:Nat) (x:AV ty) (y:Operand):Option (AV ty):=
 match x,y with
 | .err b,.const .nilIface=>match cx.ti T with
  | some ⟨.iface,_,_,_⟩=>match op with
   | .eql=>some (.lit (.bool (!b)))
   | .neq=>some (.lit (.bool b))
   | _=>none
  | _=>none
 | _,_=>none
def zhy (cx:Cx ty) (st:St ty) (fs:List (Nat×Nat)):List (AV ty)->List (Nat×AV ty)->Option (List (AV ty))
 | cs,[]=>some cs
 | cs,(i,v)::r=>match fs[i]? with
  | none=>none
  | some (off,T)=>match cx.ti T with
   | none=>none
   | some inf=>match v.cells st with
    | none=>none
    | some c=>match Nat.beq c.length inf.size with
     | false=>none
     | true=>match splice cs off c with
      | none=>none
      | some cs'=>zhy cx st fs cs' r
def zkc (cx:Cx ty) (st:St ty) (e:Nat):Nat->List (Nat×AV ty)->Option (List (ty e)×List Nat)
 | _,[]=>some ([],[])
 | n,(i,v)::r=>match Nat.beq i n with
  | false=>none
  | true=>match v.cells st with
   | none=>none
   | some c=>match zes (zbn cx st zcD) c with
    | none=>none
    | some (c',ids)=>match cx.dec e c' with
     | none=>none
     | some x=>match zkc cx st e (n+1) r with
      | none=>none
      | some (xs,is)=>some (x::xs,ids++is)
def zSi (T:Nat):AV ty->Option (List (ty T))
 | .sl T' l=>ztZ T' T l
 | .lit (.slice none 0 0)=>some []
 | _=>none
def zUs (cx:Cx ty) (T:Nat) (v:AV ty):Option (AV ty):=
 match cx.ti T with
 | some ⟨.slice e,_,_,_⟩=>match zSi e v with
  | some l=>some (.sl e l)
  | none=>none
 | some ⟨.struct _,_,_,_⟩=>match v with
  | .agg cs=>match cx.dec T cs with
   | some x=>some (.agg (cx.enc T x))
   | none=>none
  | _=>none
 | _=>some v
def zQN (cx:Cx ty):Option Nat->AV ty->Option (AV ty)
 | none,v=>some v
 | some T,v=>zUs cx T v
def zgM (cx:Cx ty) (st:St ty):List Bool->List Nat->List (AV ty)->Option (List (Arg ty)×List Nat×List Nat)
 | _,_,[]=>some ([],[],[])
 | io,ts,v::vs=>match zgM cx st io.tail ts.tail vs with
  | none=>none
  | some (as,fz,mv)=>match io.head? with
   | some true=>match v with
    | .own id=>match st.blk id with
     | .arr T l false=>some (.own T l::as,fz,id::mv)
     | _=>none
    | _=>none
   | _=>match zbn cx st zcD v with
    | none=>none
    | some (a,ids)=>match zQN cx ts.head? a with
     | none=>none
     | some a=>some (.pure a::as,ids++fz,mv)
def AV.flat:AV ty->Bool
 | .lit _=>true
 | .err _=>true
 | .agg cs=>cs.all λ| .lit _=>true | _=>false
 | _=>false
def RV.flat:RV ty->Bool
 | .pure a=>a.flat
 | _=>false
def ARes.flat (r:ARes ty):Bool:=r.vals.all RV.flat&&r.upd.all (·.isNone)
def z6 (id:Nat):List (RV ty)->List (AV ty)×List (Nat×Blk ty)
 | []=>([],[])
 | .pure a::r=>let (vs,ws):=z6 (id+1) r; (a::vs,ws)
 | .own T l::r=>let (vs,ws):=z6 (id+1) r; (.own id::vs,(id,.arr T l false)::ws)
def ztp:Option ((T:Nat)×List (ty T))->Blk ty
 | some ⟨T,l⟩=>.arr T l false
 | none=>.dead
def zeV (st:St ty):List Nat->List (Option ((T:Nat)×List (ty T)))->Option (List (Nat×Blk ty))
 | [],[]=>some []
 | id::ids,u::us=>match zeV st ids us with
  | none=>none
  | some r=>match u with
   | none=>some ((id,.dead)::r)
   | some ⟨T,l⟩=>match st.blk id with
    | .arr T' _ _=>match Nat.beq T T' with
     | true=>some ((id,.arr T l false)::r)
     | false=>none
    | _=>none
 | _,_=>none
def zTW (s:ByteArray) (i:Int):Int:=if h:i.toNat<s.size then ((s[i.toNat]'h).toNat:Int) else 0
def zbO:Nat:=70368744177664
section
variable {R:Type}
def zK (dst:Tmp):Nat:=4*dst
def zdG (st:St ty) (id:Nat):Bool:=match gO st.blks id with | some .none=>true | _=>false
theorem zBW (st:St ty) (id:Nat):zdG st id=match st.blks[id]? with | some .none=>true | _=>false:=by unfold zdG; rw [zW0]
def zi9 (st:St ty):List (Nat×Blk ty)->Bool
 | []=>true
 | (i,_)::r=>zdG st i&&zi9 st r
def zdH:List Nat->Bool
 | []=>true
 | i::r=> !r.contains i&&zdH r
def zIN (a b:List Nat):Bool:=a.all λi=> !b.contains i
def z0d:List (AV ty)->AV ty
 | [v]=>v
 | vs=>.tup vs
def zsV (cx:Cx ty) (st:St ty) (dst:Option Tmp) (f:Nat) (ts:List Nat) (vs:List (AV ty)) (K:Delta ty->Option R):Option R:=
 match cx.spec f with
 | none=>none
 | some s=>match zgM cx st (cx.io f) (bif cx.raw f then [] else ts) vs with
  | none=>none
  | some (as,fz,mv)=>match zdH mv&&zIN fz mv with
   | false=>none
   | true=>match s as with
    | none=>none
    | some (pre,res)=>
     bif pre then
      match zeV st mv res.upd with
      | none=>none
      | some us=>match dst with
       | some d=>match zi9 st (z6 (zK d) res.vals).2&&Nat.ble res.vals.length 3 with
        | true=>K { val:=z0d (z6 (zK d) res.vals).1
                    wr:=us++(z6 (zK d) res.vals).2
                    fz:=bif res.flat then [] else fz
                    rd:=fz }
        | false=>none
       | none=>match (z6 0 res.vals).2 with
        | []=>K { val:=.dead,wr:=us,fz:=bif res.flat then [] else fz,rd:=fz }
        | _=>none
     else none
def ztk {α:Type _}:List α->Option (List α×α)
 | []=>none
 | a::r=>match r with
  | []=>some ([],a)
  | _=>match ztk r with
   | some (l,x)=>some (a::l,x)
   | none=>none
def zNz:AV ty->Option (Option Nat×Nat)
 | .ptr id 0=>some (none,id)
 | .fn g [.ptr id 0]=>some (some g,id)
 | _=>none
def zot (st:St ty) (T id:Nat):Option (List Nat×List (ty T)):=
 match st.blk id with
 | .box [.lit (.slice none 0 0)] false=>some ([],[])
 | .box [.own k] false=>match st.blk k with
  | .arr T' l false=>match ztZ T' T l with
   | some l=>some ([k],l)
   | none=>none
  | _=>none
 | _=>none
def zH0:List (Arg ty)->Option (List (AV ty))
 | []=>some []
 | .pure a::r=>match zH0 r with
  | some l=>some (a::l)
  | none=>none
 | .own _ _::_=>none
def zjC (ks:List Nat) (id T:Nat) (l:List (ty T)):List (Nat×Blk ty):=ks.map (λk=>(k,.dead))++[(id,.box [.own 0] false),(0,.arr T l false)]
def zsL (cx:Cx ty) (st:St ty) (s:CSpec ty) (ts:List Nat) (vs:List (AV ty)) (K:Delta ty->Option R):Option R:=
 match ztk vs with
 | none=>none
 | some (as,c)=>match zNz c with
  | none=>none
  | some (g,id)=>match zot st s.T id with
   | none=>none
   | some (ks,l)=>match zgM cx st [] ts as with
    | none=>none
    | some (as,fz,_)=>match zH0 as with
     | none=>none
     | some as=>match zIN fz (id::ks)&&zdG st 0 with
      | false=>none
      | true=>match s.run g as l with
       | none=>none
       | some (pre,l')=>bif pre then K { val:=.dead,wr:=zjC ks id s.T l',fz:=fz,rd:=fz } else none
def ztF (st:St ty):Option Operand->Option (Option Int)
 | none=>some none
 | some x=>match (st.ev x).int64 with
  | some n=>some (some n)
  | none=>none
def zoz (cx:Cx ty) (T:Nat) (st:St ty) (x:AV ty) (lo hi:Option Int) (K:Delta ty->Option R):Option R:=
 match x with
 | .lit (.string s)=>match cx.ti T with
  | some ⟨.str,_,_,_⟩=>
   bif decide (0<=lo.getD 0)&&decide (lo.getD 0<=hi.getD s.size)&&decide (hi.getD s.size<=s.size) then K { val:=.lit (.string (s.extract (lo.getD 0).toNat (hi.getD s.size).toNat)) } else none
  | _=>none
 | .lit (.slice none 0 0)=>match cx.ti T with
  | some ⟨.slice e,_,_,_⟩=>match (cx.ti e).isSome with
   | false=>none
   | true=>bif decide (lo.getD 0=0)&&decide (hi.getD 0=0) then K { val:=.lit (.slice none 0 0) } else none
  | _=>none
 | x=>match cx.ti T,zc9 st x with
  | some ⟨.slice e,_,_,_⟩,some (⟨T',xs⟩,rd)=>
   match Nat.beq e T'&&(cx.ti e).isSome with
   | false=>none
   | true=>
    bif decide (0<=lo.getD 0)&&decide (lo.getD 0<=hi.getD xs.length)&&decide (hi.getD xs.length<=xs.length) then
     match x with
     | .sl _ _=>K { val:=.sl T' ((xs.drop (lo.getD 0).toNat).take ((hi.getD xs.length).toNat - (lo.getD 0).toNat)) }
     | .own id=>K { val:=.sub id (lo.getD 0).toNat ((hi.getD xs.length).toNat - (lo.getD 0).toNat),rd:=rd }
     | .sub id a _=>K { val:=.sub id (a+(lo.getD 0).toNat) ((hi.getD xs.length).toNat - (lo.getD 0).toNat),rd:=rd }
     | _=>none
    else none
  | _,_=>none
def zon (cx:Cx ty) (st:St ty) (dst:Option Tmp) (T:Nat) (s x:AV ty) (K:Delta ty->Option R):Option R:=
 match cx.ti T,dst with
 | some ⟨.slice e,_,_,_⟩,some d=>match cx.ti e with
  | none=>none
  | some inf=>match Nat.beq inf.size 0||Nat.beq inf.bytes 0 with
   | true=>none
   | false=>
       match (match x with | .lit (.slice none 0 0)=>some ([],[]) | .lit (.slice (some _) 0 _)=>some ([],[]) | x=>match zc9 st x with | some (⟨T',ys⟩,rd)=>(ztZ T' e ys).map (·,rd) | none=>none:Option (List (ty e)×List Nat)) with
    | none=>none
    | some (ys,rd)=>
     match s with
     | .lit (.slice none 0 0)=>
      bif zdG st (zK d)&&decide (ys.length*inf.bytes<=zbO) then K { val:=.own (zK d),wr:=[(zK d,.arr e ys false)],rd:=rd } else none
     | .own id=>match st.blk id, !rd.contains id&&zdG st (zK d) with
      | .arr T' l false,true=>match ztZ T' e l with
       | none=>none
       | some l=>bif decide ((l.length+ys.length)*inf.bytes<=zbO) then K { val:=.own (zK d),wr:=[(id,.dead),(zK d,.arr e (l++ys) false)],rd:=rd } else none
      | _,_=>none
     | _=>none
 | _,_=>none
def zp7 (cx:Cx ty) (st:St ty) (dst:Option Tmp) (T T':Nat) (s x:AV ty) (K:Delta ty->Option R):Option R:=
 match cx.ti T,cx.ti T',dst with
 | some ⟨.slice e,_,_,_⟩,some ⟨.int .i64,_,_,_⟩,some d=>match s,x with
  | .lit (.slice none 0 0),.lit (.int .i64 n)=>match cx.ti e with
   | some inf=>match cx.dec e (inf.zero.map .lit) with
    | some z=>bif zdG st (zK d)&&(decide (0<n)&&(decide (n*inf.bytes<=zbO)&&(decide (n<=zbO)&&(!Nat.beq inf.size 0)))) then K { val:=.own (zK d),wr:=[(zK d,.arr e (List.replicate n.toNat z) false)] } else none
    | none=>none
   | none=>none
  | _,_=>none
 | _,_,_=>none
def zvA (f:Int->Int->Int):IntKind->Int->List (AV ty)->Option (AV ty)
 | k,x,[]=>some (.lit (.int k x))
 | k,x,.lit (.int _ y)::r=>zvA f k (f x y) r
 | _,_,_=>none
def zgj (cx:Cx ty) (st:St ty) (dst:Option Tmp) (b:Builtin) (ts:List Nat) (vs:List (AV ty)) (K:Delta ty->Option R):Option R:=
 match b,ts,vs with
 | .len,T::_,[v]=>match cx.ti T with
  | some ⟨.str,_,_,_⟩=>match v with
   | .lit (.string s)=>K { val:=.lit (.int .i64 s.size) }
   | _=>none
  | some ⟨.slice _,_,_,_⟩=>match v with
   | .lit (.slice none 0 0)=>K { val:=.lit (.int .i64 0) }
   | .sub id _ n=>match st.blk id with
    | .arr _ _ _=>K { val:=.lit (.int .i64 n),rd:=[id] }
    | _=>none
   | v=>match zc9 st v with
    | some (⟨_,l⟩,rd)=>K { val:=.lit (.int .i64 l.length),rd:=rd }
    | none=>none
  | some ⟨.map _ _,_,_,_⟩=>match v with
   | .mp id=>match st.blk id with
    | .mp _ _ l _=>K { val:=.lit (.int .i64 l.length),rd:=[id] }
    | _=>none
   | _=>none
  | _=>none
 | .append,[T,T'],[s,x]=>match Nat.beq T T' with
  | true=>zon cx st dst T s x K
  | false=>zp7 cx st dst T T' s x K
 | .cap,T::_,[.lit (.slice none 0 0)]=>match cx.ti T with
  | some ⟨.slice _,_,_,_⟩=>K { val:=.lit (.int .i64 0) }
  | _=>none
 | .min,_,.lit (.int k x)::r=>match zvA (λx y=>if y<x then y else x) k x r with
  | some v=>K { val:=v }
  | none=>none
 | .max,_,.lit (.int k x)::r=>match zvA (λx y=>if y>x then y else x) k x r with
  | some v=>K { val:=v }
  | none=>none
 | .clear,[T],[.sub id lo n]=>match cx.ti T,st.blk id with
  | some ⟨.slice e,_,_,_⟩,.arr T' l false=>match Nat.beq e T',cx.ti e with
   | true,some inf=>match cx.dec T' (inf.zero.map .lit) with
    | none=>none
    | some z=>bif decide (lo+n<=l.length) then K { val:=.dead,wr:=[(id,.arr T' (l.take lo++List.replicate n z++l.drop (lo+n)) false)] } else none
   | _,_=>none
  | _,_=>none
 | _,_,_=>none
def zTI (cx:Cx ty) (K:Nat):AV ty->Option Value
 | .lit (.string s)=>match cx.ti K with
  | some ⟨.str,_,_,_⟩=>some (.string s)
  | _=>none
 | .lit (.int k n)=>match cx.ti K with
  | some ⟨.int k',_,_,_⟩=>if k=k' then some (.int k n) else none
  | _=>none
 | .agg cs=>match zzX cs with
  | some us=>match cx.eqs K us us with
   | some _=>some (.agg us.toArray)
   | none=>none
  | none=>none
 | _=>none
def zET:Value->Value->Bool
 | .string a,.string b=>a.toList==b.toList
 | .int _ a,.int _ b=>a==b
 | .bool a,.bool b=>a==b
 | _,_=>false
def zrT:List Value->List Value->Bool
 | [],[]=>true
 | x::xs,y::ys=>zET x y&&zrT xs ys
 | _,_=>false
def znn:Value->Value->Bool
 | .string a,.string b=>a==b
 | .int _ a,.int _ b=>a==b
 | .agg a,.agg b=>zrT a.toList b.toList
 | _,_=>false
def zJy {V:Nat} (k:Value):List (Value×ty V)->Option (ty V)
 | []=>none
 | p::r=>bif znn k p.1 then some p.2 else zJy k r
def zBc {V:Nat} (k:Value):List (Value×ty V)->Bool
 | []=>false
 | p::r=>bif znn k p.1 then true else zBc k r
def zyf {V:Nat} (k:Value) (x:ty V):List (Value×ty V)->List (Value×ty V)
 | []=>[(k,x)]
 | p::r=>bif znn k p.1 then (k,x)::r else p::zyf k x r
def zye (cx:Cx ty) (st:St ty) (T:Nat) (m k:AV ty) (ok:Bool) (K:Delta ty->Option R):Option R:=
 match cx.ti T,m with
 | some ⟨.map kt vt,_,_,_⟩,.mp id=>match st.blk id,cx.ti vt with
  | .mp kt' vt' l _,some inf=>match Nat.beq kt kt'&&Nat.beq vt vt'&& !zrj inf,zTI cx kt k,cx.dec vt' (inf.zero.map .lit) with
   | true,some key,some z=>match cx.enc vt' ((zJy key l).getD z) with
    | [c]=>match ok with
     | true=>K { val:=.tup [c,.lit (.bool (zBc key l))],rd:=[id] }
     | false=>K { val:=c,rd:=[id] }
    | _=>none
   | _,_,_=>none
  | _,_=>none
 | _,_=>none
def zp1 (cx:Cx ty) (st:St ty) (T:Nat) (m k v:AV ty) (K:Delta ty->Option R):Option R:=
 match cx.ti T,m with
 | some ⟨.map kt vt,_,_,_⟩,.mp id=>match st.blk id with
  | .mp kt' vt' l false=>match Nat.beq kt kt'&&Nat.beq vt vt',zTI cx kt k,v with
   | true,some key,.lit u=>match cx.dec vt' [.lit u] with
    | some x=>match cx.enc vt' x with
     | [.lit _]=>K { val:=.dead,wr:=[(id,.mp kt' vt' (zyf key x l) false)] }
     | _=>none
    | none=>none
   | _,_,_=>none
  | _=>none
 | _,_=>none
def zdW (cx:Cx ty) (o:Oper) (st:St ty) (K:Delta ty->Option R):Option R:=
 match o.op with
 | .move x | .assign x=>K { val:=st.ev x }
 | .pick c a b=>match st.ev c with
  | .lit (.bool t)=>K { val:=match t with | true=>st.ev a | false=>st.ev b }
  | _=>none
 | .alloc T=>match cx.ti T,o.dst with
  | some i,some d=>bif zdG st (zK d) then K { val:=.ptr (zK d) 0,wr:=[(zK d,.box (i.zero.map .lit) false)] } else none
  | _,_=>none
 | .box T x=>match cx.ti T,o.dst,(st.ev x).cells st with
  | some _,some d,some cs=>bif zdG st (zK d) then K { val:=.ptr (zK d) 0,wr:=[(zK d,.box cs false)],rd:=zNF cs } else none
  | _,_,_=>none
 | .build T parts=>match cx.ti T with
  | some ⟨.struct fs,_,_,z⟩=>match zhy cx st fs (z.map .lit) (parts.toList.map λ(i,x)=>(i,st.ev x)) with
   | some cs=>K { val:=.agg cs,rd:=parts.toList.flatMap λp=>(st.ev p.2).ids1 }
   | none=>none
  | _=>none
 | .buildSlice T n parts=>match cx.ti T,o.dst with
  | some ⟨.slice e,_,_,_⟩,some d=>match zkc cx st e 0 (parts.toList.map λ(i,x)=>(i,st.ev x)),Nat.beq n parts.size,cx.ti e with
   | some (l,fz),true,some inf=>match Nat.ble (n*inf.size) 16777216&&(Nat.ble n 16777216&&zdG st (zK d)) with
    | true=>K { val:=.own (zK d),wr:=[(zK d,.arr e l false)],fz:=fz,rd:=fz }
    | false=>none
   | _,_,_=>none
  | _,_=>none
 | .load T x=>match cx.ti T,zdN cx st (st.ev x) with
  | some i,some (cs,off,rd)=>match cut i cs off with
   | some v=>K { val:=v,rd:=rd }
   | none=>none
  | _,_=>none
 | .store T x y=>match cx.ti T,(st.ev y).cells st with
  | some i,some new=>match Nat.beq new.length i.size with
   | false=>none
   | true=>match st.ev x with
    | .ptr id off=>match st.blk id with
     | .box cs false=>match splice cs off new with
      | some cs'=>K { val:=.dead,wr:=[(id,.box cs' false)],rd:=zNF new }
      | none=>none
     | _=>none
    | .eptr id ix off=>match st.blk id,zes (zbn cx st zcD) new with
     | .arr T' l false,some (new',fz)=>match splice (cx.enc T' (l.getD ix (cx.dflt T'))) off new',fz.contains id with
      | some cs',false=>match cx.dec T' cs' with
       | some x'=>bif decide (ix<l.length) then K { val:=.dead,wr:=[(id,.arr T' (l.set ix x') false)],fz:=fz,rd:=fz } else none
       | none=>none
      | _,_=>none
     | _,_=>none
    | _=>none
  | _,_=>none
 | .nilCheck x=>match st.ev x with
  | .fn f cs=>K { val:=.fn f cs }
  | v=>match zdN cx st v with
   | some (_,_,rd)=>K { val:=v,rd:=rd }
   | none=>none
 | .binOp op T x y _=>match zZg cx op T (st.ev x) y with
  | some v=>K { val:=v }
  | none=>match zZi cx op T (st.ev x) (st.ev y) with
  | some (b,v)=>bif b then K { val:=v } else none
  | none=>none
 | .unOp op _ x=>match op,st.ev x with
  | .not,.lit (.bool b)=>K { val:=.lit (.bool (!b)) }
  | .neg,.lit (.int k n)=>K { val:=.lit (.int k (k.wrap (0 - n))) }
  | _,_=>none
 | .convert S D x=>match cx.ti S,cx.ti D,st.ev x with
  | some ⟨.int _,_,_,_⟩,some ⟨.int k,_,_,_⟩,.lit (.int _ n)=>K { val:=.lit (.int k (k.wrap n)) }
  | some ⟨.str,_,_,_⟩,some ⟨.str,_,_,_⟩,.lit (.string s)=>K { val:=.lit (.string s) }
  | some ⟨.slice e,_,_,_⟩,some ⟨.str,_,_,_⟩,v=>match cx.ti e,zc9 st v with
   | some ⟨.int .u8,sz,_,_⟩,some (⟨T',l⟩,rd)=>match Nat.beq sz 1&&Nat.beq e T',bytesOf (l.flatMap (cx.enc T')) with
    | true,some ns=>K { val:=.lit (.string (ns.foldl (λr n=>r.push (UInt8.ofNat n.toNat)) ByteArray.empty)),rd:=rd }
    | _,_=>none
   | _,_=>none
  | _,_,_=>none
 | .makeFunc (.func g) first caps=>match first.toList with
  | []=>K { val:=.fn g (caps.toList.map st.ev) }
  | _=>none
 | .makeSlice T n c=>match cx.ti T,o.dst,(st.ev n).int64,(st.ev c).int64 with
  | some ⟨.slice e,_,_,_⟩,some d,some n,some c=>match cx.ti e with
   | some inf=>match cx.dec e (inf.zero.map .lit) with
    | some z=>bif zdG st (zK d)&&decide (0<=n)&&decide (n<=c)&&decide (c*inf.bytes<=zbO)&&decide (c<=zbO) then K { val:=.own (zK d),wr:=[(zK d,.arr e (List.replicate n.toNat z) false)] } else none
    | none=>none
   | none=>none
  | _,_,_,_=>none
 | .slice T x lo hi none=>match ztF st lo,ztF st hi with
  | some lo,some hi=>zoz cx T st (st.ev x) lo hi K
  | _,_=>none
 | .fieldAddr S x f=>match cx.ti S with
  | some ⟨.struct fs,_,_,_⟩=>match fs[f]? with
   | some (o,T)=>match cx.ti T,shift o (st.ev x),zdN cx st (st.ev x) with
    | some i,some v,some (_,_,rd)=>match Nat.beq i.size 0 with
     | false=>K { val:=v,rd:=rd }
     | true=>none
    | _,_,_=>none
   | none=>none
  | _=>none
 | .field S x f=>match cx.ti S,st.ev x with
  | some ⟨.struct fs,_,_,_⟩,.agg cs=>match fs[f]? with
   | some (o,T)=>match cx.ti T with
    | some i=>match cut i cs o with
     | some v=>K { val:=v }
     | none=>none
    | none=>none
   | none=>none
  | _,_=>none
 | .indexAddr T x i=>match cx.ti T,(st.ev i).int64 with
  | some ⟨.slice e,_,_,_⟩,some i=>match st.ev x with
   | .sl T' l=>match Nat.beq e T'&&(cx.ti e).isSome with
    | true=>bif decide (0<=i)&&decide (i<l.length) then K { val:=.fptr T' (l.getD i.toNat (cx.dflt T')) 0 } else none
    | false=>none
   | .own id=>match st.blk id with
    | .arr T' l _=>match Nat.beq e T'&&(cx.ti e).isSome with
     | true=>bif decide (0<=i)&&decide (i<l.length) then K { val:=.eptr id i.toNat 0,rd:=[id] } else none
     | false=>none
    | _=>none
   | .sub id lo n=>match st.blk id with
    | .arr T' _ _=>match Nat.beq e T'&&(cx.ti e).isSome with
     | true=>bif decide (0<=i)&&decide (i<n) then K { val:=.eptr id (lo+i.toNat) 0,rd:=[id] } else none
     | false=>none
    | _=>none
   | _=>none
  | _,_=>none
 | .index T x i=>match cx.ti T,st.ev x,(st.ev i).int64 with
  | some ⟨.str,_,_,_⟩,.lit (.string s),some i=>bif decide (0<=i)&&decide (i<s.size) then K { val:=.lit (.int .u8 (zTW s i)) } else none
  | _,_,_=>none
 | .extract x i=>match st.ev x with
  | .tup vs=>match vs[i]? with
   | some v=>K { val:=v }
   | none=>none
  | _=>none
 | .makeMap T none=>match cx.ti T,o.dst with
  | some ⟨.map kt vt,_,_,_⟩,some d=>bif zdG st (zK d) then K { val:=.mp (zK d),wr:=[(zK d,.mp kt vt [] false)] } else none
  | _,_=>none
 | .lookup T m k ok=>zye cx st T (st.ev m) (st.ev k) ok K
 | .mapUpdate T m k v=>zp1 cx st T (st.ev m) (st.ev k) (st.ev v) K
 | .insert T m k v=>zp1 cx st T (st.ev m) (st.ev k) (st.ev v) K
 | .call c=>match c.callee with
  | .value f=>match st.ev f with
   | .fn g caps=>match cx.cells g with
    | none=>zsV cx st o.dst g c.argTypes.toList (c.args.toList.map st.ev++caps) K
    | some s=>zsL cx st s c.argTypes.toList (c.args.toList.map st.ev++caps) K
   | _=>none
  | .builtin b=>zgj cx st o.dst b c.argTypes.toList (c.args.toList.map st.ev) K
  | _=>none
 | _=>none
def zRD (st:St ty) (t:Tmp) (K:St ty->Option R):Option R:=
 match st.get t with
 | .lit (.bool b)=>bif b then K (st.setT t (.lit (.bool true))) else K (st.setT t (.lit (.bool false)))
 | _=>K st
def zH8:Delta ty:={ val:=.lit undef }
def zTJ (cx:Cx ty) (o:Oper) (st:St ty) (K:Delta ty->St ty->Option R):Option R:=
 match o.op with
 | .pick (.tmp t) _ _=>zRD st t λst=>zdW cx o st λd=>K d st
 | _=>zdW cx o st λd=>K d st
def zQz (cx:Cx ty) (ops:Array Oper) (o:Oper) (st:St ty) (K:Delta ty->St ty->Option R):Option R:=
 match o.guard with
 | none=>zTJ cx o st K
 | some (g,want)=>match (gO ops.toList g).bind (·.dst) with
  | none=>none
  | some t=>zRD st t λst=>match st.get t with
   | .lit (.bool b)=>bif (b==want) then zTJ cx o st K else K zH8 st
   | .lit (.tuple _)=>K zH8 st
   | _=>none
def zvS (ps:List (List Nat)) (o:Oper):List Nat:=
 o.after.toList.flatMap λe=>bif Region.binds .any e then e.on::ps.getD e.on [] else []
def ztb:List (List Nat)->List Oper->List (List Nat)
 | ps,[]=>ps
 | ps,o::r=>ztb (ps++[(zvS ps o).eraseDups]) r
def zTO (ops:List Oper):List (List Nat):=ztb [] ops
def zCs:Nat->List Oper->Bool
 | _,[]=>true
 | i,o::r=>(o.after.all λe=> !Region.binds .any e||Nat.blt e.on i)&&zCs (i+1) r
structure Foot where
 wr:List Nat
 fz:List Nat
 rd:List Nat
 /-- It makes new blocks alone. -/
 nw:Bool:=false
def Delta.foot (d:Delta ty):Foot:=⟨d.wr.map (·.1),d.fz,d.rd,false⟩
def Delta.footN (d:Delta ty) (st:St ty):Foot:=⟨d.wr.map (·.1),d.fz,d.rd,zi9 st d.wr&&d.fz.isEmpty⟩
def zJF (o:Oper):Bool:=match o.op with | .load _ _=>true | .fieldAddr _ _ _=>true | _=>false
def zvn (o:Oper):Bool:=match o.op with
 | .load _ _=>true
 | .alloc _=>true
 | .box _ _=>true
 | .store _ _ _=>true
 | .fieldAddr _ _ _=>true
 | .indexAddr _ _ _=>true
 | .build _ _=>true
 | .buildSlice _ _ _=>true
 | .slice _ _ _ _ none=>true
 | .call c=>match c.callee with
  | .value _=>true
  | .builtin .append=>true
  | .builtin .len=>true
  | _=>false
 | _=>false
def Foot.sep (a b:Foot):Bool:=zIN (a.wr++a.fz) (b.wr++(b.fz++b.rd))&&zIN (b.wr++b.fz) (a.wr++(a.fz++a.rd))
def Foot.eff (a:Foot):Bool:= !(a.wr.isEmpty&&a.fz.isEmpty)
def Foot.empty (a:Foot):Bool:=a.wr.isEmpty&&a.fz.isEmpty&&a.rd.isEmpty
def Foot.free (a b:Foot):Bool:=(!a.eff&& !b.eff)||a.empty||b.empty
def zG7 (ops:Array Oper) (o:Oper) (pre:List Nat) (f:Foot):List (Nat×Oper×Foot)->Bool
 | []=>true
 | (j,oj,fj)::r=>(pre.contains j||(oj.apart ops o&&(fj.free f||((zJF oj&&(!fj.eff&&f.nw))||(zvn oj&&(zvn o&&fj.sep f))))))&&zG7 ops o pre f r
def zNI (cx:Cx ty) (ops:Array Oper):List Oper->St ty->(St ty->Option R)->Option R
 | [],st,K=>K st
 | o::r,st,K=>zQz cx ops o st λd st=>zNI cx ops r (st.app o.dst d) K
def zyF (cx:Cx ty) (ops:Array Oper) (ps:List (List Nat)):Nat->List Oper->List (Nat×Oper×Foot)->St ty->(St ty->Option R)->Option R
 | _,[],_,st,K=>K st
 | i,o::r,tr,st,K=>zQz cx ops o st λd st=>
  match zG7 ops o (ps.getD i []) (d.footN st) tr with
  | true=>zyF cx ops ps (i+1) r ((i,o,d.footN st)::tr) (st.app o.dst d) K
  | false=>none
def zTS (ops:Array Oper) (o:Oper) (pre:List Nat):List (Nat×Oper)->Bool
 | []=>true
 | (j,oj)::r=>(pre.contains j||oj.apart ops o)&&zTS ops o pre r
def zNA (ops:Array Oper) (ps:List (List Nat)):Nat->List Oper->List (Nat×Oper)->Bool
 | _,[],_=>true
 | i,o::r,tr=>zTS ops o (gD [] ps i) tr&&zNA ops ps (i+1) r ((i,o)::tr)
def zUx (o:Oper) (pre:List Nat) (f:Foot):List (Nat×Oper×Foot)->Bool
 | []=>true
 | (j,oj,fj)::r=>((fj.free f||((zJF oj&&(!fj.eff&&f.nw))||(zvn oj&&(zvn o&&fj.sep f))))||pre.contains j)&&zUx o pre f r
def zzZ (cx:Cx ty) (ops:Array Oper) (ps:List (List Nat)):Nat->List Oper->List (Nat×Oper×Foot)->St ty->(St ty->Option R)->Option R
 | _,[],_,st,K=>K st
 | i,o::r,tr,st,K=>zQz cx ops o st λd st=>
  match (d.footN st).empty with
  | true=>zzZ cx ops ps (i+1) r tr (st.app o.dst d) K
  | false=>match zUx o (gD [] ps i) (d.footN st) tr with
   | true=>zzZ cx ops ps (i+1) r ((i,o,d.footN st)::tr) (st.app o.dst d) K
   | false=>none
def z04 (o:Oper):Bool:=match o.op with | .select ..=>false | _=>true
def zXg:Nat->AV ty->List Nat
 | 0,_=>[]
 | n+1,v=>match v with
  | .own id | .sub id _ _ | .ptr id _ | .eptr id _ _ | .mp id=>[id]
  | .agg cs | .fn _ cs | .tup cs=>cs.flatMap (zXg n)
  | _=>[]
def zY1:Blk ty->List Nat
 | .box cs _=>cs.flatMap (zXg zcD)
 | _=>[]
def zUv (st:St ty):Nat->List Nat->List Nat
 | 0,l=>l.eraseDups
 | n+1,l=>zUv st n (l++l.flatMap λi=>zY1 (st.blk i)).eraseDups
def zJU (ren:List (Nat×Nat)) (i:Nat) (K:Nat->AV ty):AV ty:=
 match ren.lookup i with
 | some j=>K j
 | none=>.dead
def zyV (ren:List (Nat×Nat)):Nat->AV ty->AV ty
 | 0,_=>.dead
 | n+1,v=>match v with
  | .own id=>zJU ren id .own
  | .sub id lo k=>zJU ren id (.sub · lo k)
  | .ptr id off=>zJU ren id (.ptr · off)
  | .eptr id ix off=>zJU ren id (.eptr · ix off)
  | .mp id=>zJU ren id .mp
  | .agg cs=>.agg (cs.map (zyV ren n))
  | .tup cs=>.tup (cs.map (zyV ren n))
  | .fn f cs=>.fn f (cs.map (zyV ren n))
  | v=>v
def zC3 (ren:List (Nat×Nat)):Blk ty->Blk ty
 | .box cs fz=>.box (cs.map (zyV ren zcD)) fz
 | b=>b
def zG8 (t id:Nat):Nat->List (Nat×Nat)->St ty->Option (St ty)
 | _,[],st=>some st
 | k,(off,T)::r,st=>match st.blk id with
  | .box cs false=>match gD .dead cs off with
   | .lit (.slice none 0 0)=>match zdG st (zK t+k) with
    | true=>zG8 t id (k+1) r { st with blks:=sT (.box (sT (.own (zK t+k)) cs off) false) (sT (.arr T [] false) st.blks (zK t+k)) id }
    | false=>none
   | .own j=>match st.blk j with
    | .arr T' _ false=>match Nat.beq T T' with
     | true=>zG8 t id (k+1) r st
     | false=>none
    | _=>none
   | _=>none
  | _=>none
def zC8 (cx:Cx ty) (st:St ty) (t:Nat):LMode->Option (St ty)
 | .keep=>some st
 | .pure=>match zbn cx st zcD (st.get t) with
  | some (v,ids)=>some { tmps:=sT v st.tmps t,blks:=fzF st.blks ids }
  | none=>none
 | .sl e=>match zbn cx st zcD (st.get t) with
  | some (v,ids)=>match zSi e v with
   | some l=>some { tmps:=sT (.sl e l) st.tmps t,blks:=fzF st.blks ids }
   | none=>none
  | none=>none
 | .own T=>match st.get t with
  | .lit (.slice none 0 0)=>match zdG st (zK t+3) with
   | true=>some { tmps:=sT (.own (zK t+3)) st.tmps t,blks:=sT (.arr T [] false) st.blks (zK t+3) }
   | false=>none
  | .own id=>match st.blk id with
   | .arr T' _ false=>match Nat.beq T T' with
    | true=>some st
    | false=>none
   | _=>none
  | _=>none
 | .boxOwn l=>match st.get t with
  | .ptr id _=>zG8 t id 1 l st
  | _=>none
def zDd (cx:Cx ty):List (Nat×LMode)->St ty->Option (St ty)
 | [],st=>some st
 | (t,m)::r,st=>match zC8 cx st t m with
  | some st=>zDd cx r st
  | none=>none
def zp5:Nat->Nat->List (Nat×AV ty)->List (AV ty)
 | _,0,_=>[]
 | t,n+1,[]=>.dead::zp5 (t+1) n []
 | t,n+1,(t',v)::r=>match Nat.beq t t' with
  | true=>v::zp5 (t+1) n r
  | false=>.dead::zp5 (t+1) n ((t',v)::r)
def zNL (nt:Nat) (live:List (Nat×LMode)) (vals:List (AV ty)) (bs:List (Blk ty)):St ty:=
 { tmps:=zp5 0 nt ((live.map (·.1)).zip vals),blks:=List.replicate (4*nt) .none++bs }
def zHL:List Nat->Bool
 | i::j::r=>Nat.blt i j&&zHL (j::r)
 | _=>true
def zTR (nt:Nat) (ids:List Nat):List (Nat×Nat):=ids.zip (List.range' (4*nt) ids.length)
def zqd (st:St ty) (live:List (Nat×LMode)):List Nat:=zUv st 2 (live.flatMap λt=>zXg zcD (st.get t.1))
def zNM (cx:Cx ty) (live:List (Nat×LMode)) (st:St ty):Option (List (AV ty)×List (Blk ty)):=
 match zDd cx live st with
 | none=>none
 | some st=>
  match zdH (zqd st live)&&zHL (live.map (·.1))&&Nat.beq st.tmps.length cx.nt with
  | true=>some (live.map λt=>zyV (zTR cx.nt (zqd st live)) zcD (st.get t.1),(zqd st live).map λi=>zC3 (zTR cx.nt (zqd st live)) (st.blk i))
  | false=>none
def zbT:Code->Nat
 | .region id _ _=>id
 | .seq a _=>zbT a
 | .cond _ a _=>zbT a
 | .block _ c=>zbT c
 | .loop c=>zbT c
 | .scope c=>zbT c
 | _=>0
def zsN (K:Ex->List (AV ty)->List (Blk ty)->Option R):LTree ty->Option R
 | .done ex vals bs=>K ex vals bs
 | .ite b t e=>bif b then zsN K t else zsN K e
def zRw (cx:Cx ty) (id:Nat) (K:Ex->St ty->Option R) (ex:Ex) (vals:List (AV ty)) (bs:List (Blk ty)):Option R:=
 K ex (zNL cx.nt (cx.out id ex) vals bs)
def zpQ (cx:Cx ty):Code->St ty->(Ex->St ty->Option R)->Option R
 | .skip,st,K=>K .normal st
 | .label _,st,K=>K .normal st
 | .region _ ops draw,st,K=>match draw with
  | false=>zNI cx ops ops.toList st (K .normal)
  | true=>match zCs 0 ops.toList&&(ops.toList.all z04&&zNA ops (zTO ops.toList) 0 ops.toList []) with
   | true=>zzZ cx ops (zTO ops.toList) 0 ops.toList [] st (K .normal)
   | false=>none
 | .seq a b,st,K=>zpQ cx a st λex st=>match ex with
  | .normal=>match cx.joins (zbT b) with
   | none=>zpQ cx b st K
   | some sp=>match zNM cx (cx.head (zbT b)) st with
    | some (vals,bs)=>match sp vals bs with
     | some (pre,t)=>bif pre then zsN (zRw cx (zbT b) K) t else none
     | none=>none
    | none=>none
  | ex=>K ex st
 | .cond c a b,st,K=>match c with
  | .tmp t=>match st.get t with
   | .lit (.bool v)=>bif v then zpQ cx a (st.setT t (.lit (.bool true))) K else zpQ cx b (st.setT t (.lit (.bool false))) K
   | _=>none
  | _=>none
 | .block id c,st,K=>zpQ cx c st λex st=>match ex with
  | .exit j=>match Nat.beq j id with
   | true=>K .normal st
   | false=>K (.exit j) st
  | ex=>K ex st
 | .loop c,st,K=>match cx.loops (zbT c),zNM cx (cx.head (zbT c)) st with
  | some sp,some (vals,bs)=>match sp vals bs with
   | some (pre,t)=>bif pre then zsN (zRw cx (zbT c) K) t else none
   | none=>none
  | _,_=>none
 | .exit id,st,K=>K (.exit id) st
 | .ret,st,K=>K .ret st
 | .scope c,st,K=>zpQ cx c st K
 | _,_,_=>none
def zIU (cx:Cx ty) (id:Nat) (H:List (AV ty)->List (Blk ty)->Option R) (K:Ex->List (AV ty)->List (Blk ty)->Option R) (ex:Ex) (st:St ty):Option R:=
 match ex with
 | .normal=>match zNM cx (cx.head id) st with
  | some (vals,bs)=>H vals bs
  | none=>none
 | ex=>match zNM cx (cx.out id ex) st with
  | some (vals,bs)=>K ex vals bs
  | none=>none
def zxa (cx:Cx ty) (c:Code) (H:List (AV ty)->List (Blk ty)->Option R) (K:Ex->List (AV ty)->List (Blk ty)->Option R) (vals:List (AV ty)) (bs:List (Blk ty)):Option R:=
 zpQ cx c (zNL cx.nt (cx.head (zbT c)) vals bs) (zIU cx (zbT c) H K)
def zIx (cx:Cx ty) (c:Code) (K:Ex->List (AV ty)->List (Blk ty)->Option R):Nat->List (AV ty)->List (Blk ty)->Option R
 | 0,_,_=>none
 | n+1,vals,bs=>zxa cx c (zIx cx c K n) K vals bs
end
def zwz (cx:Cx ty) (c:Code) (vals:List (AV ty)) (bs:List (Blk ty)) (t:LTree ty):Prop:=
 ∃ n,∀ (R:Type) (K:Ex->List (AV ty)->List (Blk ty)->Option R),zIx cx c K n vals bs=zsN K t
theorem zwz.next {cx:Cx ty} {c:Code} {vals vals':List (AV ty)} {bs bs':List (Blk ty)} {t:LTree ty}
  (h:∀ (R:Type) (H:List (AV ty)->List (Blk ty)->Option R) K,zxa cx c H K vals bs=H vals' bs') (h':zwz cx c vals' bs' t):zwz cx c vals bs t:=by
 obtain ⟨n,hn⟩:=h';exact ⟨n+1,λR K=>(h R _ K).trans (hn R K)⟩
theorem zwz.out {cx:Cx ty} {c:Code} {vals:List (AV ty)} {bs:List (Blk ty)} {t:LTree ty}
  (h:∀ (R:Type) (H:List (AV ty)->List (Blk ty)->Option R) K,zxa cx c H K vals bs=zsN K t):zwz cx c vals bs t:=
 ⟨1,λR K=>h R _ K⟩
def zXV (cx:Cx ty) (c:Code) (vals:List (AV ty)) (bs:List (Blk ty)) (t:LTree ty):Prop:=
 ∀ (R:Type) (K:Ex->List (AV ty)->List (Blk ty)->Option R),zxa cx c (λ_ _=>none) K vals bs=zsN K t
inductive RMode where
 | pure
 | own (T:Nat)
 /-- as it stands (a nil slice stays one) -/
 | raw
structure Sig where
 res:List RMode
 upd:List Bool:=[]
def Arg.av (top:Nat):List (Arg ty)->List (AV ty)×List (Blk ty)
 | []=>([],[])
 | .pure a::r=>let (vs,bs):=Arg.av top r; (a::vs,bs)
 | .own T l::r=>let (vs,bs):=Arg.av (top+1) r; (.own top::vs,.arr T l false::bs)
def start (nt:Nat) (args:List (Arg ty)):St ty:=
 let (vs,bs):=Arg.av (4*nt) args
 { tmps:=vs++List.replicate (nt - vs.length) (.lit undef),blks:=List.replicate (4*nt) .none++bs }
def zJv (cx:Cx ty) (st:St ty):List RMode->List Nat->List (AV ty)->Option (List (RV ty)×List Nat×List Nat)
 | [],_,[]=>some ([],[],[])
 | m::ms,ts,v::vs=>match zJv cx st ms ts.tail vs with
  | none=>none
  | some (rs,fz,mv)=>match m with
   | .pure=>match zbn cx st zcD v with
    | some (a,ids)=>match zQN cx ts.head? a with
     | some a=>some (.pure a::rs,ids++fz,mv)
     | none=>none
    | none=>none
   | .raw=>match zbn cx st zcD v with
    | some (a,ids)=>some (.pure a::rs,ids++fz,mv)
    | none=>none
   | .own T=>match v with
    | .lit (.slice none 0 0)=>some (.own T []::rs,fz,mv)
    | .own id=>match st.blk id with
     | .arr T' l false=>match Nat.beq T T' with
      | true=>some (.own T' l::rs,fz,id::mv)
      | false=>none
     | _=>none
    | .sub id 0 n=>match st.blk id with
     | .arr T' l false=>match Nat.beq T T' with
      | true=>some (.own T' (l.take n)::rs,fz,id::mv)
      | false=>none
     | _=>none
    | _=>none
 | _,_,_=>none
def zRk (st:St ty):List Nat->List Bool->Option (List (Option ((T:Nat)×List (ty T)))×List Nat)
 | _,[]=>some ([],[])
 | ts,u::us=>match zRk st ts.tail us with
  | none=>none
  | some (r,mv)=>match u with
   | false=>some (none::r,mv)
   | true=>match ts with
    | []=>none
    | t::_=>match st.get t with
     | .own id=>match st.blk id with
      | .arr T l false=>some (some ⟨T,l⟩::r,id::mv)
      | _=>none
     | _=>none
def ztO:Nat->List (Arg ty)->List Nat
 | _,[]=>[]
 | t,.own _ _::r=>t::ztO (t+1) r
 | t,.pure _::r=>ztO (t+1) r
def zQ2 (cx:Cx ty) (st:St ty):ResultVar->Option (AV ty)
 | .tmp t=>some (st.get t)
 | .cell a T=>match cx.ti T,zdN cx st (st.get a) with
  | some i,some (cs,off,_)=>cut i cs off
  | _,_=>none
def zz7 (cx:Cx ty) (st:St ty):List ResultVar->Option (List (AV ty))
 | []=>some []
 | r::rs=>match zQ2 cx st r,zz7 cx st rs with
  | some v,some vs=>some (v::vs)
  | _,_=>none
def zLY (cx:Cx ty) (sg:Sig) (ots:List Nat) (ts:List Nat) (rs:List ResultVar) (st:St ty):Option (ARes ty):=
 match zz7 cx st rs with
 | none=>none
 | some avs=>match zJv cx st sg.res ts avs,zRk st ots sg.upd with
 | some (vs,fz,mv),some (us,mu)=>match zdH (mv++mu)&&zIN fz (mv++mu) with
  | true=>some ⟨vs,us⟩
  | false=>none
 | _,_=>none
def ze0 (cx:Cx ty) (fn:Func) (c:Code) (sg:Sig) (args:List (Arg ty)):Option (ARes ty):=
 zpQ cx c (start fn.ntmps args) λex st=>match ex with
  | .exit _=>none
  | _=>zLY cx sg (ztO 0 args) fn.resultTypes.toList fn.results.toList st
end
end
end Go.Ab
/- What abstract values mean in a world: the relation between a state of the abstract interpreter and a frame and a world of the machine, and the laws by which it is kept. -/
namespace Go.Ab
noncomputable section
variable {ty:Nat->Type}
structure All2 {α β:Type} (R:α->β->Prop) (us:List α) (cs:List β):Prop where
 len:us.length=cs.length
 at_:∀ (j:Nat) u c,us[j]? =some u->cs[j]? =some c->R u c
def zcc (cx:Cx ty) (T:Nat) (l:List (ty T)):List (AV ty):=l.flatMap (cx.enc T)
inductive Rep (cx:Cx ty) (F:Nat->Prop) (w:World):Value->AV ty->Prop where
 | lit (v:Value):Rep cx F w v (.lit v)
 | slE (a:Option Addr) (c T:Nat) (hn:a=none->c=0):Rep cx F w (.slice a 0 c) (.sl T [])
 | errN:Rep cx F w .nilIface (.err false)
 | errS (t:TypeId) (u:Value):Rep cx F w (.iface t u) (.err true)
 | sl (b off cap T:Nat) (l:List (ty T)) (us:List Value) (hF:F b) (hcap:l.length<=cap) (hlen:us.length=(zcc cx T l).length)
   (hc:∀ (j:Nat) u,us[j]? =some u->w.cell? ⟨b,off+j,none⟩=some u) (hr:∀ (j:Nat) u c,us[j]? =some u->(zcc cx T l)[j]? =some c->Rep cx F w u c):
   Rep cx F w (.slice (some ⟨b,off,none⟩) l.length cap) (.sl T l)
 | fptr (b off0 off T:Nat) (x:ty T) (us:List Value) (hF:F b) (hlen:us.length=(cx.enc T x).length)
   (hc:∀ (j:Nat) u,us[j]? =some u->w.cell? ⟨b,off0+j,none⟩=some u) (hr:∀ (j:Nat) u c,us[j]? =some u->(cx.enc T x)[j]? =some c->Rep cx F w u c):
   Rep cx F w (.pointer (some ⟨b,off0+off,none⟩)) (.fptr T x off)
 | bptr (b off:Nat) (cs:List (AV ty)) (us:List Value) (hF:F b) (hlen:us.length=cs.length)
   (hc:∀ (j:Nat) u,us[j]? =some u->w.cell? ⟨b,j,none⟩=some u) (hr:∀ (j:Nat) u c,us[j]? =some u->cs[j]? =some c->Rep cx F w u c):
   Rep cx F w (.pointer (some ⟨b,off,none⟩)) (.bptr cs off)
 | agg (vs:List Value) (cs:List (AV ty)) (hlen:vs.length=cs.length) (hr:∀ (j:Nat) u c,vs[j]? =some u->cs[j]? =some c->Rep cx F w u c):Rep cx F w (.agg vs.toArray) (.agg cs)
 | fn (f:Nat) (vs:List Value) (cs:List (AV ty)) (hlen:vs.length=cs.length) (hr:∀ (j:Nat) u c,vs[j]? =some u->cs[j]? =some c->Rep cx F w u c):Rep cx F w (.func (.func f) #[] vs.toArray) (.fn f cs)
theorem Rep.mono {cx:Cx ty} {F F':Nat->Prop} {w w':World} (h:∀ b,F b->F' b/\w'.heap[b]? =w.heap[b]?) {v:Value} {a:AV ty} (hr:Rep cx F w v a):Rep cx F' w' v a:=by
 induction hr with
 | lit v=>exact .lit v
 | slE a c T hn=>exact .slE a c T hn
 | errN=>exact .errN
 | errS t u=>exact .errS t u
 | sl b off cap T l us hF hcap hlen hc hr ih=>
  exact .sl b off cap T l us (h b hF).1 hcap hlen (λj u hu=>(World.cell?_of_block (a:=⟨b,off+j,none⟩) (h b hF).2).trans (hc j u hu)) ih
 | fptr b off0 off T x us hF hlen hc hr ih=>
  exact .fptr b off0 off T x us (h b hF).1 hlen (λj u hu=>(World.cell?_of_block (a:=⟨b,off0+j,none⟩) (h b hF).2).trans (hc j u hu)) ih
 | bptr b off cs us hF hlen hc hr ih=>
  exact .bptr b off cs us (h b hF).1 hlen (λj u hu=>(World.cell?_of_block (a:=⟨b,j,none⟩) (h b hF).2).trans (hc j u hu)) ih
 | agg vs cs hlen hr ih=>exact .agg vs cs hlen ih
 | fn f vs cs hlen hr ih=>exact .fn f vs cs hlen ih
inductive Kind where
 | none
 | dead
 | box
 | arr (k n:Nat)
 | mp
def zl (cx:Cx ty) (T:Nat):Nat:=match cx.ti T with | some i=>i.size | none=>0
def Blk.kind (cx:Cx ty):Blk ty->Kind
 | .none=>.none
 | .dead=>.dead
 | .box _ _=>.box
 | .arr T l _=>.arr (zl cx T) l.length
 | .mp _ _ _ _=>.mp
def zk1 (k lo n:Nat) (row v:Value):Prop:=
 match row with
 | .slice (some a) _ cap=>v=.slice (some (a.add (lo*k))) n (cap - lo)\/(n=0/\0<lo/\∃ b c,v=.slice b 0 c/\(b=none->c=0))
 | _=>∃ b c,v=.slice b n c/\n=0/\(lo=0->v=row)/\(b=none->c=0)
inductive RepA (cx:Cx ty) (F:Nat->Prop) (w:World) (kd:Nat->Kind) (κ:Nat->Value):Value->AV ty->Prop where
 | rep {v:Value} {a:AV ty} (h:Rep cx F w v a):RepA cx F w kd κ v a
 | own (id k n:Nat) (h:kd id=.arr k n):RepA cx F w kd κ (κ id) (.own id)
 | ownD (v:Value) (id:Nat) (h:kd id=.dead):RepA cx F w kd κ v (.own id)
 | sub (v:Value) (id lo n k m:Nat) (h:kd id=.arr k m) (hl:lo+n<=m) (hv:zk1 k lo n (κ id) v):RepA cx F w kd κ v (.sub id lo n)
 | subD (v:Value) (id lo n:Nat) (h:kd id=.dead):RepA cx F w kd κ v (.sub id lo n)
 | ptr (id off b:Nat) (h:kd id=.box) (hb:κ id=.pointer (some ⟨b,0,none⟩)):RepA cx F w kd κ (.pointer (some ⟨b,off,none⟩)) (.ptr id off)
 | ptrD (v:Value) (id off:Nat) (h:kd id=.dead):RepA cx F w kd κ v (.ptr id off)
 | eptr (id ix off b k m n cap:Nat) (h:kd id=.arr k m) (hi:ix<m) (hb:κ id=.slice (some ⟨b,0,none⟩) n cap):RepA cx F w kd κ (.pointer (some ⟨b,ix*k+off,none⟩)) (.eptr id ix off)
 | eptrD (v:Value) (id ix off:Nat) (h:kd id=.dead):RepA cx F w kd κ v (.eptr id ix off)
 | agg (vs:List Value) (cs:List (AV ty)) (hlen:vs.length=cs.length) (hr:∀ (j:Nat) u c,vs[j]? =some u->cs[j]? =some c->RepA cx F w kd κ u c):RepA cx F w kd κ (.agg vs.toArray) (.agg cs)
 | tup (vs:List Value) (cs:List (AV ty)) (hlen:vs.length=cs.length) (hr:∀ (j:Nat) u c,vs[j]? =some u->cs[j]? =some c->RepA cx F w kd κ u c):RepA cx F w kd κ (.tuple vs.toArray) (.tup cs)
 | fn (f:Nat) (vs:List Value) (cs:List (AV ty)) (hlen:vs.length=cs.length) (hr:∀ (j:Nat) u c,vs[j]? =some u->cs[j]? =some c->RepA cx F w kd κ u c):RepA cx F w kd κ (.func (.func f) #[] vs.toArray) (.fn f cs)
 | mp (id:Nat) (h:kd id=.mp):RepA cx F w kd κ (κ id) (.mp id)
 | mpD (v:Value) (id:Nat) (h:kd id=.dead):RepA cx F w kd κ v (.mp id)
 | dead (v:Value):RepA cx F w kd κ v .dead
theorem RepA.mono {cx:Cx ty} {F F':Nat->Prop} {w w':World} {kd kd':Nat->Kind} {κ κ':Nat->Value} (h:∀ b,F b->F' b/\w'.heap[b]? =w.heap[b]?)
  (hk:∀ id,kd id≠.none->(kd' id=kd id/\κ' id=κ id)\/kd' id=.dead) {v:Value} {a:AV ty} (hr:RepA cx F w kd κ v a):RepA cx F' w' kd' κ' v a:=by
 induction hr with
 | rep hr=>exact .rep (hr.mono h)
 | own id k n hid=>
  rcases hk id (by rw [hid]; simp) with ⟨h1,h2⟩ | h1
  ·rw [<- h2]; exact .own id k n (h1.trans hid)
  ·exact .ownD _ id h1
 | ownD v id hid=>
  rcases hk id (by rw [hid]; simp) with ⟨h1,h2⟩ | h1
  ·exact .ownD _ id (h1.trans hid)
  ·exact .ownD _ id h1
 | sub v id lo n k m hid hl hv=>
  rcases hk id (by rw [hid]; simp) with ⟨h1,h2⟩ | h1
  ·exact .sub v id lo n k m (h1.trans hid) hl (h2 ▸ hv)
  ·exact .subD _ id lo n h1
 | subD v id lo n hid=>
  rcases hk id (by rw [hid]; simp) with ⟨h1,h2⟩ | h1
  ·exact .subD _ id lo n (h1.trans hid)
  ·exact .subD _ id lo n h1
 | ptr id off b hid hb=>
  rcases hk id (by rw [hid]; simp) with ⟨h1,h2⟩ | h1
  ·exact .ptr id off b (h1.trans hid) (h2.trans hb)
  ·exact .ptrD _ id off h1
 | ptrD v id off hid=>
  rcases hk id (by rw [hid]; simp) with ⟨h1,h2⟩ | h1
  ·exact .ptrD _ id off (h1.trans hid)
  ·exact .ptrD _ id off h1
 | eptr id ix off b k m n cap hid hi hb=>
  rcases hk id (by rw [hid]; simp) with ⟨h1,h2⟩ | h1
  ·exact .eptr id ix off b k m n cap (h1.trans hid) hi (h2.trans hb)
  ·exact .eptrD _ id ix off h1
 | eptrD v id ix off hid=>
  rcases hk id (by rw [hid]; simp) with ⟨h1,h2⟩ | h1
  ·exact .eptrD _ id ix off (h1.trans hid)
  ·exact .eptrD _ id ix off h1
 | agg vs cs hlen hr ih=>exact .agg vs cs hlen ih
 | tup vs cs hlen hr ih=>exact .tup vs cs hlen ih
 | fn f vs cs hlen hr ih=>exact .fn f vs cs hlen ih
 | mp id hid=>
  rcases hk id (by rw [hid]; simp) with ⟨h1,h2⟩ | h1
  ·rw [<- h2]; exact .mp id (h1.trans hid)
  ·exact .mpD _ id h1
 | mpD v id hid=>
  rcases hk id (by rw [hid]; simp) with ⟨h1,h2⟩ | h1
  ·exact .mpD _ id (h1.trans hid)
  ·exact .mpD _ id h1
 | dead v=>exact .dead v
structure Env where
 w0:World
 F:Nat->Prop
 OP:Nat->Prop
structure Env.OK (e:Env):Prop where
 F:∀ b,e.F b->b<e.w0.heap.size/\¬ e.OP b
 OP:∀ b,e.OP b->b<e.w0.heap.size
def zS:Value->Option Nat
 | .slice (some a) _ _=>some a.block
 | .pointer (some a)=>some a.block
 | .map (some r)=>some r
 | _=>none
def Blk.unfz:Blk ty->Prop
 | .box _ fz=>fz=false
 | .arr _ _ fz=>fz=false
 | .mp _ _ _ fz=>fz=false
 | _=>False
def Fz (e:Env) (B:Nat->Blk ty) (κ:Nat->Value) (w:World) (b:Nat):Prop:=
 (e.F b\/e.OP b\/e.w0.heap.size<=b)/\b<w.heap.size/\∀ id,(B id).unfz->zS (κ id)≠some b
def zcn (cx:Cx ty) (F:Nat->Prop) (w:World) (v:Value) (T:Nat) (l:List (ty T)):Prop:=
 ∃ xs,w.ownsRow 0 T (zl cx T) v l.length xs/\All2 (Rep cx F w) xs (zcc cx T l)
def zE5 (cx:Cx ty) (V:Nat) (x:MapEntry) (p:Value×ty V):Prop:=x.key=p.1/\cx.enc V p.2=[.lit x.val]
def zpR (cx:Cx ty) (K:Nat):Value->Prop
 | .string _=>∃ s b z,cx.ti K=some ⟨.str,s,b,z⟩
 | .int k _=>∃ s b z,cx.ti K=some ⟨.int k,s,b,z⟩
 | .agg a=>cx.eqs K a.toList a.toList=some true
 | _=>False
def zFe (cx:Cx ty) (F:Nat->Prop) (w:World) (kd:Nat->Kind) (κ:Nat->Value) (v:Value):Blk ty->Prop
 | .none=>True
 | .dead=>True
 | .box cs _=>∃ b cur t,v=.pointer (some ⟨b,0,none⟩)/\w.heap[b]? =some (.cells cur t (0,0))/\All2 (RepA cx F w kd κ) cur.toList cs
 | .arr T l _=>zcn cx F w v T l
 | .mp K V l _=>∃ b es clock,v=.map (some b)/\w.heap[b]? =some (.map es clock)/\All2 (zE5 cx V) es.toList l/\∀ p∈l,zpR cx K p.1
def Blk.live:Blk ty->Prop
 | .box _ _=>True
 | .arr _ _ _=>True
 | .mp _ _ _ _=>True
 | _=>False
theorem Blk.unfz.live {b:Blk ty} (h:b.unfz):b.live:=by cases b <;>simp_all [Blk.unfz,Blk.live]
theorem Blk.live_kind {cx:Cx ty} {b:Blk ty}:b.live↔b.kind cx≠.none/\b.kind cx≠.dead:=by cases b <;>simp [Blk.kind,Blk.live]
structure GOK (cx:Cx ty) (w:World) (OP:Nat->Prop):Prop where
 inv:cx.inv w
 big:∀ b,OP b->cx.ng<=b
 size:cx.ng<=w.heap.size
structure RB (cx:Cx ty) (e:Env) (B:Nat->Blk ty) (κ:Nat->Value) (w:World):Prop where
 os:w.os=e.w0.os
 tape:w.tape=e.w0.tape
 output:w.output=e.w0.output
 drawn:cx.dr=true->e.w0.drawn<=w.drawn
 size:e.w0.heap.size<=w.heap.size
 keep:∀ b,b<e.w0.heap.size->¬ e.OP b->w.heap[b]? =e.w0.heap[b]?
 blk:∀ id,zFe cx (Fz e B κ w) w (λi=>(B i).kind cx) κ (κ id) (B id)
 sep:∀ i j b,(B i).live->(B j).unfz->zS (κ i)=some b->zS (κ j)=some b->i=j
 mine:∀ i b,(B i).unfz->zS (κ i)=some b->e.OP b\/e.w0.heap.size<=b
 old:∀ i b,(B i).live->zS (κ i)=some b->(e.OP b\/e.w0.heap.size<=b)/\b<w.heap.size
 g:GOK cx e.w0 e.OP
theorem RB.fz {cx:Cx ty} {e:Env} {B:Nat->Blk ty} {κ:Nat->Value} {w:World} (h:RB cx e B κ w) {i b:Nat} (hl:(B i).live)
  (hb:zS (κ i)=some b) (hn:¬ (B i).unfz):Fz e B κ w b:=
 ⟨.inr (h.old i b hl hb).1,(h.old i b hl hb).2,λj hj hbj=>hn ((h.sep i j b hl hj hb hbj) ▸ hj)⟩
structure Compat (cx:Cx ty) (e:Env) (B:Nat->Blk ty) (κ:Nat->Value) (w:World) (B':Nat->Blk ty) (κ':Nat->Value) (w':World):Prop where
 fz:∀ b,Fz e B κ w b->Fz e B' κ' w' b/\w'.heap[b]? =w.heap[b]?
 kd:∀ id,(B id).kind cx≠.none->((B' id).kind cx=(B id).kind cx/\κ' id=κ id)\/(B' id).kind cx=.dead
theorem Compat.rep {cx:Cx ty} {e:Env} {B B':Nat->Blk ty} {κ κ':Nat->Value} {w w':World} (h:Compat cx e B κ w B' κ' w') {v:Value} {a:AV ty}
  (hr:RepA cx (Fz e B κ w) w (λi=>(B i).kind cx) κ v a):RepA cx (Fz e B' κ' w') w' (λi=>(B' i).kind cx) κ' v a:=hr.mono h.fz h.kd
theorem Compat.rep' {cx:Cx ty} {e:Env} {B B':Nat->Blk ty} {κ κ':Nat->Value} {w w':World} (h:Compat cx e B κ w B' κ' w') {v:Value} {a:AV ty}
  (hr:Rep cx (Fz e B κ w) w v a):Rep cx (Fz e B' κ' w') w' v a:=hr.mono h.fz
theorem All2.imp {α β:Type} {R R':α->β->Prop} {us:List α} {cs:List β} (h:All2 R us cs) (hi:∀ u c,R u c->R' u c):All2 R' us cs:=
 ⟨h.len,λj u c hu hc=>hi u c (h.at_ j u c hu hc)⟩
theorem zPP {w w':World} {e size:Nat} {v:Value} {n:Nat} {xs:List Value} (h:w.ownsRow 0 e size v n xs) (hb:∀ b,zS v=some b->w'.heap[b]? =w.heap[b]?):w'.ownsRow 0 e size v n xs:=by
 refine ⟨h.1, ?_⟩;rcases h.2 with hn | ⟨g,cap,cur,rfl,hbb,hg,rest⟩
 ·exact .inl hn
 ·exact .inr ⟨g,cap,cur,rfl,hbb,(hb g rfl).trans hg,rest⟩
theorem ztR {w:World} {e size:Nat} {v:Value} {n:Nat} {xs:List Value} (h:w.ownsRow 0 e size v n xs) {b:Nat} (hb:zS v=some b):b<w.heap.size:=by
 rcases h.2 with ⟨rfl,_⟩ | ⟨g,cap,cur,rfl,_,hg,_⟩
 ·simp [zS] at hb
 ·simp [zS] at hb; subst hb; exact (Array.getElem?_eq_some_iff.1 hg).1
theorem zFe.keep {cx:Cx ty} {F F':Nat->Prop} {w w':World} {kd kd':Nat->Kind} {κ κ':Nat->Value} {v:Value} {b:Blk ty} (h:zFe cx F w kd κ v b)
  (hh:b.live->∀ g,zS v=some g->w'.heap[g]? =w.heap[g]?) (hr:∀ v a,RepA cx F w kd κ v a->RepA cx F' w' kd' κ' v a) (hr':∀ v a,Rep cx F w v a->Rep cx F' w' v a):zFe cx F' w' kd' κ' v b:=by
 cases b with
 | none=>trivial
 | dead=>trivial
 | box cs fz=>
  obtain ⟨g,cur,t,rfl,hg,ha⟩:=h;exact ⟨g,cur,t,rfl,(hh trivial g rfl).trans hg,ha.imp hr⟩
 | arr T l fz=>
  obtain ⟨xs,ho,ha⟩:=h;exact ⟨xs,zPP ho (hh trivial),ha.imp hr'⟩
 | mp K V l fz=>
  obtain ⟨g,es,clock,rfl,hg,ha,hk⟩:=h;exact ⟨g,es,clock,rfl,(hh trivial g rfl).trans hg,ha,hk⟩
theorem RB.step {cx:Cx ty} {e:Env} {B B':Nat->Blk ty} {κ κ':Nat->Value} {w w':World} (h:RB cx e B κ w) (ti:Nat->Prop)
  (hos:w'.os=w.os) (htape:w'.tape=w.tape) (hout:w'.output=w.output) (hsize:w.heap.size<=w'.heap.size)
  (hheap:∀ b,b<w.heap.size->w'.heap[b]? =w.heap[b]? \/∃ id,ti id/\(B id).unfz/\zS (κ id)=some b)
  (hsame:∀ id,¬ ti id->B' id=B id/\κ' id=κ id)
  (hkd:∀ id,ti id->(B id).kind cx≠.none->((B' id).kind cx=(B id).kind cx/\κ' id=κ id)\/(B' id).kind cx=.dead)
  (hnew:∀ id b,ti id->(B' id).live->zS (κ' id)=some b->b<w'.heap.size/\((∃ id0,ti id0/\(B id0).unfz/\zS (κ id0)=some b)\/w.heap.size<=b))
  (hsep:∀ i j b,ti i->ti j->(B' i).live->(B' j).unfz->zS (κ' i)=some b->zS (κ' j)=some b->i=j)
  (hblk:∀ id,ti id->Compat cx e B κ w B' κ' w'->zFe cx (Fz e B' κ' w') w' (λi=>(B' i).kind cx) κ' (κ' id) (B' id))
  (hdr:cx.dr=true->w.drawn<=w'.drawn:=by first | exact λ_=>Nat.le_refl _ | assumption | exact λ_=>by assumption):
  RB cx e B' κ' w'/\Compat cx e B κ w B' κ' w':=by
 have hfz:∀ b,Fz e B κ w b->Fz e B' κ' w' b/\w'.heap[b]? =w.heap[b]? :=by
  intro b ⟨h1,h2,h3⟩;refine ⟨⟨h1,by omega,λid hid hb=> ?_⟩, ?_⟩
  ·by_cases hti:ti id
   ·rcases (hnew id b hti hid.live hb).2 with ⟨id0,_,hu0,hb0⟩ | hge
    ·exact h3 id0 hu0 hb0
    ·omega
   ·obtain ⟨hB,hκ⟩:=hsame id hti;exact h3 id (hB ▸ hid) (hκ ▸ hb)
  ·rcases hheap b h2 with hh | ⟨id,_,hu,hb⟩
   ·exact hh
   ·exact absurd hb (h3 id hu)
 have hc:Compat cx e B κ w B' κ' w':=by
  refine ⟨hfz,λid hid=> ?_⟩
  by_cases hti:ti id
  ·exact hkd id hti hid
  ·obtain ⟨hB,hκ⟩:=hsame id hti;exact .inl ⟨by rw [hB],hκ⟩
 refine ⟨⟨hos.trans h.os,htape.trans h.tape,hout.trans h.output,λhd=>Nat.le_trans (h.drawn hd) (hdr hd),Nat.le_trans h.size hsize,λb hb hop=> ?_,λid=> ?_,λi j b hi hj hbi hbj=> ?_,λi b hi hb=> ?_,λi b hi hb=> ?_,h.g⟩,hc⟩
 ·rw [<- h.keep b hb hop];rcases hheap b (Nat.lt_of_lt_of_le hb h.size) with hh | ⟨id,_,hu,hbb⟩
  ·exact hh
  ·rcases h.mine id b hu hbb with h' | h'
   ·exact absurd h' hop
   ·omega
 ·by_cases hti:ti id
  ·exact hblk id hti hc
  ·obtain ⟨hB,hκ⟩:=hsame id hti;rw [hB,hκ];refine (h.blk id).keep (λhl g hg=> ?_) (λv a=>hc.rep) (λv a=>hc.rep')
   rcases hheap g (h.old id g hl hg).2 with hh | ⟨id0,ht0,hu0,hb0⟩
   ·exact hh
   ·exact absurd (h.sep id id0 g hl hu0 hg hb0) (λheq=>hti (heq ▸ ht0))
 ·by_cases hti:ti i <;>by_cases htj:ti j
  ·exact hsep i j b hti htj hi hj hbi hbj
  ·obtain ⟨hB,hκ⟩:=hsame j htj;rw [hB] at hj; rw [hκ] at hbj;rcases (hnew i b hti hi hbi).2 with ⟨id0,ht0,hu0,hb0⟩ | hge
   ·exact absurd (h.sep id0 j b hu0.live hj hb0 hbj) (λheq=>htj (heq ▸ ht0))
   ·have:=(h.old j b hj.live hbj).2; omega
  ·obtain ⟨hB,hκ⟩:=hsame i hti;rw [hB] at hi; rw [hκ] at hbi;rcases (hnew j b htj hj.live hbj).2 with ⟨id0,ht0,hu0,hb0⟩ | hge
   ·exact absurd (h.sep i id0 b hi hu0 hbi hb0) (λheq=>hti (heq ▸ ht0))
   ·have:=(h.old i b hi hbi).2; omega
  ·obtain ⟨hB,hκ⟩:=hsame i hti;obtain ⟨hB',hκ'⟩:=hsame j htj;exact h.sep i j b (hB ▸ hi) (hB' ▸ hj) (hκ ▸ hbi) (hκ' ▸ hbj)
 ·by_cases hti:ti i
  ·rcases (hnew i b hti hi.live hb).2 with ⟨id0,_,hu0,hb0⟩ | hge
   ·exact h.mine id0 b hu0 hb0
   ·exact .inr (Nat.le_trans h.size hge)
  ·obtain ⟨hB,hκ⟩:=hsame i hti;exact h.mine i b (hB ▸ hi) (hκ ▸ hb)
 ·by_cases hti:ti i
  ·refine ⟨?_,(hnew i b hti hi hb).1⟩;rcases (hnew i b hti hi hb).2 with ⟨id0,_,hu0,hb0⟩ | hge
   ·exact h.mine id0 b hu0 hb0
   ·exact .inr (Nat.le_trans h.size hge)
  ·obtain ⟨hB,hκ⟩:=hsame i hti;have:=h.old i b (hB ▸ hi) (hκ ▸ hb);exact ⟨this.1,by omega⟩
structure RF (cx:Cx ty) (e:Env) (st:St ty) (κ:Nat->Value) (a:Act) (w:World):Prop where
 rb:RB cx e st.blk κ w
 defers:a.defers=[]
 size:a.tmps.size=st.tmps.length
 tmps:∀ t,RepA cx (Fz e st.blk κ w) w (λi=>(st.blk i).kind cx) κ (a.tmps.getD t undef) (st.get t)
def R (cx:Cx ty) (e:Env) (st:St ty) (a:Act) (w:World):Prop:=∃ κ,RF cx e st κ a w
end
end Go.Ab
/- Values: what is made free of the call's own blocks, and the cells behind an address. -/
namespace Go.Ab
noncomputable section
variable {ty:Nat->Type}
theorem zJO {α β:Type} (f:α->List β) (k:Nat) (hk:∀ x,(f x).length=k):∀ (l:List α) (i j:Nat),j<k->(l.flatMap f)[i*k+j]? =(l[i]?).bind λx=>(f x)[j]?
 | [],i,j,_=>by simp
 | x::l,0,j,hj=>by
  simp only [List.flatMap_cons,Nat.zero_mul,Nat.zero_add,List.getElem?_cons_zero,Option.bind_some];rw [List.getElem?_append_left (by rw [hk]; exact hj)]
 | x::l,i+1,j,hj=>by
  simp only [List.flatMap_cons,List.getElem?_cons_succ];rw [List.getElem?_append_right (by rw [hk]; have:=Nat.succ_mul i k; simp only [Nat.succ_eq_add_one] at this; omega),hk]
  rw [show (i+1)*k+j - k=i*k+j by have:=Nat.succ_mul i k; simp only [Nat.succ_eq_add_one] at this; omega]
  exact zJO f k hk l i j hj
theorem zDM {α β:Type} (f:α->List β) (k:Nat) (hk:∀ x,(f x).length=k) (l:List α):(l.flatMap f).length=l.length*k:=by
 induction l with
 | nil=>simp
 | cons x l ih=>simp only [List.flatMap_cons,qg,hk,ih,qf,Nat.succ_mul]; omega
theorem zqU {α β:Type} (f:α->List β) (k:Nat) (hk:∀ x,(f x).length=k) (l:List α) (n:Nat):(l.drop n).flatMap f=(l.flatMap f).drop (n*k):=by
 induction n generalizing l with
 | zero=>simp
 | succ n ih=>
  cases l with
  | nil=>simp
  | cons x l=>
   simp only [List.drop_succ_cons,List.flatMap_cons,ih];have hm:(n+1)*k=n*k+k:=Nat.succ_mul n k;rw [List.drop_append,List.drop_eq_nil_of_le (as:=f x) (by rw [hk]; omega),List.nil_append,hk,hm,Nat.add_sub_cancel]
theorem zvF {α β:Type} (f:α->List β) (k:Nat) (hk:∀ x,(f x).length=k) (l:List α) (n:Nat):(l.take n).flatMap f=(l.flatMap f).take (n*k):=by
 induction n generalizing l with
 | zero=>simp
 | succ n ih=>
  cases l with
  | nil=>simp
  | cons x l=>
   simp only [List.take_succ_cons,List.flatMap_cons,ih];have hm:(n+1)*k=n*k+k:=Nat.succ_mul n k;rw [List.take_append,List.take_of_length_le (l:=f x) (by rw [hk]; omega),hk,hm,Nat.add_sub_cancel]
theorem All2.nil {α β:Type} {R:α->β->Prop}:All2 R [] []:=⟨rfl,λj u c h=>by simp at h⟩
theorem All2.cons {α β:Type} {R:α->β->Prop} {u:α} {c:β} {us:List α} {cs:List β} (h:R u c) (h':All2 R us cs):All2 R (u::us) (c::cs):=by
 refine ⟨by simp [h'.len],λj u' c' hu hc=> ?_⟩
 cases j with
 | zero=>simp at hu hc; subst hu; subst hc; exact h
 | succ j=>exact h'.at_ j u' c' (by simpa using hu) (by simpa using hc)
theorem All2.head {α β:Type} {R:α->β->Prop} {u:α} {c:β} {us:List α} {cs:List β} (h:All2 R (u::us) (c::cs)):R u c/\All2 R us cs:=
 ⟨h.at_ 0 u c rfl rfl,by have:=h.len; simpa using this,λj u' c' hu hc=>h.at_ (j+1) u' c' (by simpa using hu) (by simpa using hc)⟩
theorem All2.nil_left {α β:Type} {R:α->β->Prop} {us:List α} (h:All2 R us []):us=([]:List α)/\(True:Prop):=⟨List.eq_nil_of_length_eq_zero (by simpa using h.len),trivial⟩
theorem All2.inv {α β:Type} {R:α->β->Prop} {us:List α} {c:β} {cs:List β} (h:All2 R us (c::cs)):∃ u us',us=u::us'/\R u c/\All2 R us' cs:=by
 cases us with
 | nil=>have:=h.len; simp at this
 | cons u us'=>exact ⟨u,us',rfl,h.head⟩
theorem All2.append {α β:Type} {R:α->β->Prop} {us us':List α} {cs cs':List β} (h:All2 R us cs) (h':All2 R us' cs'):All2 R (us++us') (cs++cs'):=by
 refine ⟨by simp [h.len,h'.len],λj u c hu hc=> ?_⟩
 by_cases hj:j<us.length
 ·rw [List.getElem?_append_left hj] at hu;rw [List.getElem?_append_left (by rw [<- h.len]; exact hj)] at hc
  exact h.at_ j u c hu hc
 ·rw [List.getElem?_append_right (by omega)] at hu
  rw [List.getElem?_append_right (by rw [<- h.len]; omega), <- h.len] at hc
  exact h'.at_ _ u c hu hc
theorem All2.drop {α β:Type} {R:α->β->Prop} {us:List α} {cs:List β} (h:All2 R us cs) (n:Nat):All2 R (us.drop n) (cs.drop n):=
 ⟨by simp [h.len],λj u c hu hc=>h.at_ (n+j) u c (by simpa using hu) (by simpa using hc)⟩
theorem All2.take {α β:Type} {R:α->β->Prop} {us:List α} {cs:List β} (h:All2 R us cs) (n:Nat):All2 R (us.take n) (cs.take n):=by
 refine ⟨by simp [h.len],λj u c hu hc=> ?_⟩
 rw [List.getElem?_take] at hu hc;split at hu
 ·rename_i hj;rw [if_pos hj] at hc;exact h.at_ j u c hu hc
 ·cases hu
theorem All2.getR {α β:Type} {R:α->β->Prop} {us:List α} {cs:List β} (h:All2 R us cs) {j:Nat} {c:β} (hc:cs[j]? =some c):∃ u,us[j]? =some u/\R u c:=by
 have hj:j<us.length:=by rw [h.len]; exact (List.getElem?_eq_some_iff.1 hc).1
 exact ⟨us[j],List.getElem?_eq_getElem hj,h.at_ j _ c (List.getElem?_eq_getElem hj) hc⟩
theorem All2.getL {α β:Type} {R:α->β->Prop} {us:List α} {cs:List β} (h:All2 R us cs) {j:Nat} {u:α} (hu:us[j]? =some u):∃ c,cs[j]? =some c/\R u c:=by
 have hj:j<cs.length:=by rw [<- h.len]; exact (List.getElem?_eq_some_iff.1 hu).1
 exact ⟨cs[j],List.getElem?_eq_getElem hj,h.at_ j u _ hu (List.getElem?_eq_getElem hj)⟩
def zs5 (P:Program):TD->TypeDesc->Prop
 | .int k,d=>d=.int k
 | .bool,d=>d=.bool
 | .str,d=>d=.string
 | .slice e,d=>d=.slice e
 | .struct fs,d=>∃ fields:Array Field,d=.struct fields/\fields.toList.map (λf=>(f.offset,f.type))=fs/\∀ f∈fields.toList,(P.info? f.type).isSome=true
 | .iface,d=>∃ ms,d=.interface ms
 | .map k v,d=>d=.map k v
 | .other,d=>(match d with | .struct _ | .array _ _=>False | _=>True)
structure InfoOK (P:Program) (T:Nat) (i:TInfo):Prop where
 ok:∃ info d z,P.info? T=some info/\P.underlying T=some d/\info.size=i.size/\info.bytes=i.bytes/\info.zero=some z/\z.cells.toList=i.zero/\i.zero.length=i.size/\
  ((∀ v∈i.zero,zb7 v=true)/\(zrj i=false->zb7 z=true))/\zs5 P i.desc d
def zWo (P:Program) (T:Nat) (us vs:List Value) (b:Bool) (w:World):Prop:=
 (binOp .eql T (.agg us.toArray) (.agg vs.toArray)).run P w=.ok (.bool b) w/\(binOp .neq T (.agg us.toArray) (.agg vs.toArray)).run P w=.ok (.bool (!b)) w/\
 (∀ op x y,(eqGuard op T x y (.agg us.toArray) (.agg vs.toArray)).run P w=.ok () w)/\(Op.equal T (.agg us.toArray) (.agg vs.toArray)).run P w=.ok b w/\
 (∀ e n,(Instr.checkKey e (n+2) T (.agg us.toArray)).run P w=.ok () w)/\∃ fs,P.underlying T=some (.struct fs)
structure Kept (dr:Bool) (OP:Nat->Prop) (w w':World):Prop where
 os:w'.os=w.os
 tape:w'.tape=w.tape
 output:w'.output=w.output
 drawn:dr=true->w.drawn<=w'.drawn
 size:w.heap.size<=w'.heap.size
 keep:∀ b,b<w.heap.size->¬ OP b->w'.heap[b]? =w.heap[b]?
def zfT (g:Option Nat) (b:Nat):Value:=match g with
 | none=>.pointer (some ⟨b,0,none⟩)
 | some g=>.func (.func g) #[] #[.pointer (some ⟨b,0,none⟩)]
def OPc (b:Nat) (u:Value) (c:Nat):Prop:=c=b\/zS u=some c
structure CellOK (cx:Cx ty) (F:Nat->Prop) (w:World) (T:Nat) (l:List (ty T)) (b:Nat) (u:Value):Prop where
 at_:∃ t,w.heap[b]? =some (.cells #[u] t (0,0))
 row:zcn cx F w u T l
 out:∀ c,OPc b u c->¬ F c
 ne:zS u≠some b
structure SoundC (P:Program) (cx:Cx ty) (f:Nat) (s:CSpec ty):Prop where
 enters:∀ args w,(callFunc f args).run P w=.ok (.enter f args) w
 calls:∀ g as l l',s.run g as l=some (true,l')->∀ (w:World) (F:Nat->Prop) (vs:List Value) (b:Nat) (u:Value),(∀ c,F c->c<w.heap.size)->All2 (Rep cx F w) vs as->CellOK cx F w s.T l b u->GOK cx w (OPc b u)->
  Calls P f (vs++[zfT g b]).toArray w λe w'=>∃ v,e=.returned v/\∃ (F':Nat->Prop) (u':Value),Kept cx.dr (OPc b u) w w'/\(∀ c,F c->F' c)/\(∀ c,F' c->c<w'.heap.size/\(F c\/OPc b u c\/w.heap.size<=c))/\
   CellOK cx F' w' s.T l' b u'/\∀ c,zS u'=some c->OPc b u c\/w.heap.size<=c
structure CxOK (P:Program) (cx:Cx ty):Prop where
 ti:∀ T i,cx.ti T=some i->InfoOK P T i
 len:∀ T x,(cx.enc T x).length=zl cx T
 cell:∀ T x c,c∈cx.enc T x->(match c with | .lit v=>zb7 v=true | .agg _ | .tup _ | .dead=>False | _=>True)
 dec:∀ T cs x,cx.dec T cs=some x->∀ F w us,All2 (Rep cx F w) us cs->All2 (Rep cx F w) us (cx.enc T x)
 eqs:∀ T us vs b,cx.eqs T us vs=some b->∀ w,zWo P T us vs b w
 eqk:∀ T us vs,cx.eqs T us us=some true->cx.eqs T vs vs=some true->cx.eqs T us vs=some (zrT us vs)/\(zrT us vs=true->us=vs)/\∀ u∈us,∀ n,Instr.sameBits n u u=true
 eqr:∀ T us b,cx.eqs T us us=some b->b=true
 stable:∀ w w':World,cx.inv w->(∀ b,b<cx.ng->w'.heap[b]? =w.heap[b]?)->cx.inv w'
 cells:∀ f s,cx.cells f=some s->SoundC P cx f s:=by intro _ _ h; cases h
theorem zcn.sl {P:Program} {cx:Cx ty} (_hcx:CxOK P cx) {F:Nat->Prop} {w:World} {v:Value} {T:Nat} {l:List (ty T)} (h:zcn cx F w v T l) (F':Nat->Prop) (hF:∀ b,F b->F' b)
  (hb:∀ b,zS v=some b->F' b):Rep cx F' w v (.sl T l):=by
 obtain ⟨xs,ho,ha⟩:=h;rcases ho.2 with ⟨rfl,h0⟩ | ⟨g,cap,cur,rfl,_,hg,hnc,_,_,htake⟩
 ·have:l=[]:=List.eq_nil_of_length_eq_zero h0;subst this;exact .slE none 0 T (λ_=>rfl)
 ·refine .sl g 0 cap T l xs (hb g rfl) hnc ha.len (λj u hu=> ?_) (λj u c hu hc=>(ha.at_ j u c hu hc).mono λb hb=>⟨hF b hb,rfl⟩)
  have:=ho.cells (g:=g) rfl j u hu
  rwa [show (⟨g,0,none⟩:Addr).add j=⟨g,0+j,none⟩ by unfold Addr.add; split <;>simp_all] at this
theorem zer (g o j:Nat):(⟨g,o,none⟩:Addr).add j=⟨g,o+j,none⟩:=by unfold Addr.add; split <;>simp_all
theorem zJx {P:Program} {cx:Cx ty} (hcx:CxOK P cx) (T:Nat) (l:List (ty T)):(zcc cx T l).length=l.length*zl cx T:=zDM _ _ (hcx.len T) l
theorem zcn.sub {P:Program} {cx:Cx ty} (hcx:CxOK P cx) {F:Nat->Prop} {w:World} {v u:Value} {T lo n:Nat} {l:List (ty T)} (h:zcn cx F w v T l) (F':Nat->Prop) (hF:∀ b,F b->F' b)
  (hb:∀ b,zS v=some b->F' b) (hl:lo+n<=l.length) (hs:zk1 (zl cx T) lo n v u):Rep cx F' w u (.sl T ((l.drop lo).take n)):=by
 obtain ⟨xs,ho,ha⟩:=h;have hlen:((l.drop lo).take n).length=n:=by simp; omega
 have empty:∀ b c,n=0->(b=none->c=0)->Rep cx F' w (.slice b n c) (.sl T ((l.drop lo).take n)):=by
  intro b c hn hbc; subst hn; simpa using Rep.slE (cx:=cx) (F:=F') (w:=w) b c T hbc
 rcases ho.2 with ⟨rfl,h0⟩ | ⟨g,cap,cur,rfl,_,hg,hnc,_,_,htake⟩
 ·obtain ⟨b,c,rfl,hn,_,hbc⟩:=hs;exact empty b c hn hbc
 ·rcases hs with rfl | ⟨hn,_,b,c,rfl,hbc⟩
  ·rw [zer]
   conv=>arg 4; rw [<- hlen]
   refine Rep.sl (cx:=cx) (F:=F') (w:=w) g (0+lo*zl cx T) (cap - lo) T ((l.drop lo).take n) ((xs.drop (lo*zl cx T)).take (n*zl cx T)) (hb g rfl) (by rw [hlen]; omega) ?_ (λj u hu=> ?_) (λj u c hu hc=> ?_)
   ·have e1:=zvF _ _ (hcx.len T) (l.drop lo) n;have e2:=zqU _ _ (hcx.len T) l lo;have:=((ha.drop (lo*zl cx T)).take (n*zl cx T)).len;unfold zcc at this ⊢;rw [e1,e2]; exact this
   ·rw [List.getElem?_take] at hu;split at hu
    ·rw [List.getElem?_drop] at hu;have:=ho.cells (g:=g) rfl _ u hu;rw [zer] at this
     rwa [show 0+lo*zl cx T+j=0+(lo*zl cx T+j) by omega]
    ·cases hu
   ·have e1:=zvF _ _ (hcx.len T) (l.drop lo) n;have e2:=zqU _ _ (hcx.len T) l lo;unfold zcc at hc;rw [e1,e2] at hc;exact (((ha.drop (lo*zl cx T)).take (n*zl cx T)).at_ j u c hu hc).mono λb hb=>⟨hF b hb,rfl⟩
  ·exact hn ▸ (empty b c hn hbc)
theorem zcn.elem {P:Program} {cx:Cx ty} (hcx:CxOK P cx) {F:Nat->Prop} {w:World} {T ix g n cap:Nat} {l:List (ty T)} (h:zcn cx F w (.slice (some ⟨g,0,none⟩) n cap) T l) (hi:ix<l.length) (d:ty T):
  ∃ us,us.length=(cx.enc T (l.getD ix d)).length/\(∀ (j:Nat) u,us[j]? =some u->w.cell? ⟨g,ix*zl cx T+j,none⟩=some u)/\All2 (Rep cx F w) us (cx.enc T (l.getD ix d)):=by
 obtain ⟨xs,ho,ha⟩:=h;refine ⟨(xs.drop (ix*zl cx T)).take (zl cx T), ?_,λj u hu=> ?_, ?_⟩
 ·rw [hcx.len,List.length_take,List.length_drop,ho.1];have:(ix+1)*zl cx T<=l.length*zl cx T:=Nat.mul_le_mul_right _ hi;rw [Nat.succ_mul] at this;rcases ho.2 with ⟨hh,_⟩ | ⟨g',cap',cur,hh,_⟩
  ·simp at hh
  ·simp only [Value.slice.injEq] at hh;omega
 ·rw [List.getElem?_take] at hu;split at hu
  ·rw [List.getElem?_drop] at hu;have:=ho.cells (g:=g) rfl _ u hu
   rwa [zer,Nat.zero_add] at this
  ·cases hu
 ·have hx:=(ha.drop (ix*zl cx T)).take (zl cx T)
  have e:((zcc cx T l).drop (ix*zl cx T)).take (zl cx T)=cx.enc T (l.getD ix d):=by
   have e2:=zqU _ _ (hcx.len T) l ix;unfold zcc;rw [<- e2];have hd:l.drop ix=l[ix]::l.drop (ix+1):=List.drop_eq_getElem_cons hi;rw [hd,List.flatMap_cons,List.take_append,hcx.len,Nat.sub_self,List.take_zero,List.append_nil,List.take_of_length_le (by rw [hcx.len]; exact Nat.le_refl _)]
   congr 1;simp [List.getD,hi]
  rwa [e] at hx
theorem Kind.ne {cx:Cx ty} {b:Blk ty} (h:b.live):b.kind cx≠.dead/\b.kind cx≠.none:=by cases b <;>simp_all [Blk.kind,Blk.live]
section
variable {P:Program} {cx:Cx ty} {e:Env} {st:St ty} {κ:Nat->Value} {w:World}
theorem RB.row (h:RB cx e st.blk κ w) {id T:Nat} {l:List (ty T)} {fz:Bool} (hb:st.blk id=.arr T l fz):zcn cx (Fz e st.blk κ w) w (κ id) T l:=by
 have:=h.blk id;rw [hb] at this;exact this
theorem RB.box (h:RB cx e st.blk κ w) {id:Nat} {cs:List (AV ty)} {fz:Bool} (hb:st.blk id=.box cs fz):
  ∃ b cur t,κ id=.pointer (some ⟨b,0,none⟩)/\w.heap[b]? =some (.cells cur t (0,0))/\All2 (RepA cx (Fz e st.blk κ w) w (λi=>(st.blk i).kind cx) κ) cur.toList cs:=by
 have:=h.blk id;rw [hb] at this;exact this
theorem zs6 {F:Nat->Prop} {kd:Nat->Kind} {us:List Value} {cs:List (AV ty)} (hlen:us.length=cs.length) (h:∀ (j:Nat) u c,us[j]? =some u->cs[j]? =some c->Rep cx F w u c):
  All2 (RepA cx F w kd κ) us cs:=⟨hlen,λj u c hu hc=>.rep (h j u c hu hc)⟩
theorem zA4 {f:AV ty->Option (AV ty×List Nat)} {F':Nat->Prop} {Q:Value->AV ty->Prop}
  (hf:∀ v av a' ids,Q v av->f av=some (a',ids)->(∀ id∈ids,∀ b,zS (κ id)=some b->F' b)->Rep cx F' w v a'):
  ∀ (us:List Value) (cs cs':List (AV ty)) (ids:List Nat),All2 Q us cs->zes f cs=some (cs',ids)->(∀ id∈ids,∀ b,zS (κ id)=some b->F' b)->All2 (Rep cx F' w) us cs'
 | us,[],cs',ids,h,hm,_=>by
  simp only [zes,qa,qb] at hm;obtain ⟨rfl,_⟩:=hm;rw [h.nil_left.1];exact .nil
 | us,c::cs,cs',ids,h,hm,hi=>by
  obtain ⟨u,us',rfl,hu,h'⟩:=h.inv;simp only [zes] at hm;split at hm
  ·cases hm
  ·rename_i c' i hc;split at hm
   ·cases hm
   ·rename_i cs'' is hcs;simp only [qa,qb] at hm;obtain ⟨rfl,rfl⟩:=hm;exact .cons (hf u c c' i hu hc λid hid=>hi id (by simp [hid])) (zA4 hf us' cs cs'' is h' hcs λid hid=>hi id (by simp [hid]))
theorem zCE (hcx:CxOK P cx) (hrb:RB cx e st.blk κ w) (F':Nat->Prop) (hF:∀ b,Fz e st.blk κ w b->F' b):
  ∀ (n:Nat) (v:Value) (av a':AV ty) (ids:List Nat),RepA cx (Fz e st.blk κ w) w (λi=>(st.blk i).kind cx) κ v av->zbn cx st n av=some (a',ids)->
   (∀ id∈ids,∀ b,zS (κ id)=some b->F' b)->Rep cx F' w v a'
 | 0,_,_,_,_,_,h,_=>by simp [zbn] at h
 | n+1,v,av,a',ids,hr,h,hi=>by
  have mono:∀ {v a},Rep cx (Fz e st.blk κ w) w v a->Rep cx F' w v a:=λh=>h.mono λb hb=>⟨hF b hb,rfl⟩
  have ih:=zCE hcx hrb F' hF n
  have lst:∀ us cs cs' ids,All2 (RepA cx (Fz e st.blk κ w) w (λi=>(st.blk i).kind cx) κ) us cs->zes (zbn cx st n) cs=some (cs',ids)->(∀ id∈ids,∀ b,zS (κ id)=some b->F' b)->All2 (Rep cx F' w) us cs':=
   λus cs cs' ids=>zA4 ih us cs cs' ids
  cases av with
  | lit x=>
   simp only [zbn,qa,qb] at h;obtain ⟨rfl,_⟩:=h;cases hr with | rep hr=>exact mono hr
  | mp id=>simp [zbn] at h
  | err x=>
   simp only [zbn,qa,qb] at h;obtain ⟨rfl,_⟩:=h;cases hr with | rep hr=>exact mono hr
  | sl T l=>
   simp only [zbn,qa,qb] at h;obtain ⟨rfl,_⟩:=h;cases hr with | rep hr=>exact mono hr
  | own id=>
   simp only [zbn] at h;split at h
   ·rename_i T l fz hb;simp only [qa,qb] at h;obtain ⟨rfl,rfl⟩:=h;cases hr with
    | rep hr=>cases hr
    | own id k m hk=>exact (hrb.row hb).sl hcx F' hF (hi id (by simp))
    | ownD _ _ hk=>simp [hb,Blk.kind] at hk
   ·cases h
  | sub id lo k=>
   simp only [zbn] at h;split at h
   ·rename_i T l fz hb;simp only [qa,qb] at h;obtain ⟨rfl,rfl⟩:=h;cases hr with
    | rep hr=>cases hr
    | sub _ _ _ _ k' m hk hl hv=>
     simp only [hb,Blk.kind,Kind.arr.injEq] at hk;obtain ⟨rfl,rfl⟩:=hk;exact (hrb.row hb).sub hcx F' hF (hi id (by simp)) hl hv
    | subD _ _ _ _ hk=>simp [hb,Blk.kind] at hk
   ·cases h
  | ptr id off=>
   simp only [zbn] at h;split at h
   ·rename_i cs fz hb;split at h
    ·rename_i cs' is hm;simp only [qa,qb] at h;obtain ⟨rfl,rfl⟩:=h;obtain ⟨b,cur,t,hκ,hg,ha⟩:=hrb.box hb;have hl:=lst _ _ _ _ ha hm (λid' hid=>hi id' (by simp [hid]))
     cases hr with
     | rep hr=>cases hr
     | ptr _ _ b' hk hb'=>
      rw [hκ] at hb';simp only [Value.pointer.injEq,qa,Addr.mk.injEq,and_true] at hb';subst hb';refine .bptr b off cs' cur.toList (hi id (by simp) b (by rw [hκ]; rfl)) hl.len (λj u hu=> ?_) hl.at_
      simp only [World.cell?,hg]
      simpa using hu
     | ptrD _ _ _ hk=>simp [hb,Blk.kind] at hk
    ·cases h
   ·cases h
  | eptr id ix off=>
   simp only [zbn] at h;split at h
   ·rename_i T l fz hb;simp only [qa,qb] at h;obtain ⟨rfl,rfl⟩:=h;cases hr with
    | rep hr=>cases hr
    | eptr _ _ _ b k m n' cap hk hix hκ=>
     simp only [hb,Blk.kind,Kind.arr.injEq] at hk;obtain ⟨rfl,rfl⟩:=hk;have hrow:=hrb.row hb;rw [hκ] at hrow;obtain ⟨us,h1,h2,h3⟩:=hrow.elem hcx hix (cx.dflt T);exact .fptr b (ix*zl cx T) off T _ us (hi id (by simp) b (by rw [hκ]; rfl)) h1 h2 (λj u c hu hc=>mono (h3.at_ j u c hu hc))
    | eptrD _ _ _ _ hk=>simp [hb,Blk.kind] at hk
   ·cases h
  | fptr T x off=>
   simp only [zbn,qa,qb] at h;obtain ⟨rfl,_⟩:=h;cases hr with | rep hr=>exact mono hr
  | bptr cs off=>
   simp only [zbn,qa,qb] at h;obtain ⟨rfl,_⟩:=h;cases hr with | rep hr=>exact mono hr
  | agg cs=>
   simp only [zbn] at h;split at h
   ·rename_i cs' is hm;simp only [qa,qb] at h;obtain ⟨rfl,rfl⟩:=h;cases hr with
    | rep hr=>cases hr with | agg vs _ hlen hr=>have hl:=lst vs cs cs' is (zs6 hlen hr) hm hi; exact .agg vs cs' hl.len hl.at_
    | agg vs _ hlen hr=>have hl:=lst vs cs cs' is ⟨hlen,hr⟩ hm hi; exact .agg vs cs' hl.len hl.at_
   ·cases h
  | fn f cs=>
   simp only [zbn] at h;split at h
   ·rename_i cs' is hm;simp only [qa,qb] at h;obtain ⟨rfl,rfl⟩:=h;cases hr with
    | rep hr=>cases hr with | fn _ vs _ hlen hr=>have hl:=lst vs cs cs' is (zs6 hlen hr) hm hi; exact .fn f vs cs' hl.len hl.at_
    | fn _ vs _ hlen hr=>have hl:=lst vs cs cs' is ⟨hlen,hr⟩ hm hi; exact .fn f vs cs' hl.len hl.at_
   ·cases h
  | tup cs=>simp [zbn] at h
  | dead=>simp [zbn] at h
theorem zvc (hcx:CxOK P cx) (hrb:RB cx e st.blk κ w) {v:Value} {av:AV ty} {cs:List (AV ty)} {off:Nat} {rd:List Nat}
  (hr:RepA cx (Fz e st.blk κ w) w (λi=>(st.blk i).kind cx) κ v av) (h:zdN cx st av=some (cs,off,rd)):
  (∃ b o us,v=.pointer (some ⟨b,o+off,none⟩)/\(∀ (j:Nat) u,us[j]? =some u->w.cell? ⟨b,o+j,none⟩=some u)/\All2 (RepA cx (Fz e st.blk κ w) w (λi=>(st.blk i).kind cx) κ) us cs)\/cs.length<=off/\False:=by
 cases av with
 | ptr id off'=>
  simp only [zdN] at h;split at h
  ·rename_i cs' fz hb;simp only [qa,qb] at h;obtain ⟨rfl,rfl,rfl⟩:=h;obtain ⟨b,cur,t,hκ,hg,ha⟩:=hrb.box hb;cases hr with
   | rep hr=>cases hr
   | ptr _ _ b' hk hb'=>
    rw [hκ] at hb';simp only [Value.pointer.injEq,qa,Addr.mk.injEq,and_true] at hb';subst hb';refine .inl ⟨b,0,cur.toList,by simp,λj u hu=> ?_,ha⟩
    simp only [World.cell?,hg,Nat.zero_add]
    simpa using hu
   | ptrD _ _ _ hk=>simp [hb,Blk.kind] at hk
  ·cases h
 | eptr id ix off'=>
  simp only [zdN] at h;split at h
  ·rename_i T l fz hb;simp only [qa,qb] at h;obtain ⟨rfl,rfl,rfl⟩:=h;cases hr with
   | rep hr=>cases hr
   | eptr _ _ _ b k m n' cap hk hix hκ=>
    simp only [hb,Blk.kind,Kind.arr.injEq] at hk;obtain ⟨rfl,rfl⟩:=hk;have hrow:=hrb.row hb;rw [hκ] at hrow;obtain ⟨us,h1,h2,h3⟩:=hrow.elem hcx hix (cx.dflt T);exact .inl ⟨b,ix*zl cx T,us,rfl,h2,h3.imp λ_ _ h=>.rep h⟩
   | eptrD _ _ _ _ hk=>simp [hb,Blk.kind] at hk
  ·cases h
 | fptr T x off'=>
  simp only [zdN,qa,qb] at h;obtain ⟨rfl,rfl,rfl⟩:=h;cases hr with
  | rep hr=>cases hr with | fptr b off0 _ _ _ us hF hlen hc hr=>exact .inl ⟨b,off0,us,rfl,hc,zs6 hlen hr⟩
 | bptr cs' off'=>
  simp only [zdN,qa,qb] at h;obtain ⟨rfl,rfl,rfl⟩:=h;cases hr with
  | rep hr=>cases hr with | bptr b _ _ us hF hlen hc hr=>exact .inl ⟨b,0,us,by simp,(by simpa using hc),zs6 hlen hr⟩
 | _=>simp [zdN] at h
end
end
end Go.Ab
/- The operations that yield a value and leave the blocks alone, against the machine's. -/
namespace Go.Ab
noncomputable section
variable {ty:Nat->Type}
def aop (cx:Cx ty) (o:Oper) (st:St ty):Option (Delta ty):=zdW cx o st some
section
variable {P:Program} {cx:Cx ty} {e:Env} {st:St ty} {κ:Nat->Value} {a:Act} {w:World}
abbrev zeE (cx:Cx ty) (e:Env) (st:St ty) (κ:Nat->Value) (w:World):Value->AV ty->Prop:=RepA cx (Fz e st.blk κ w) w (λi=>(st.blk i).kind cx) κ
theorem zbY (h:RF cx e st κ a w) (x:Operand):zeE cx e st κ w (a.eval x) (st.ev x):=by
 cases x with
 | tmp t=>exact h.tmps t
 | const v=>
  simp only [Act.eval,St.ev];cases v with
  | agg cs=>
   have:(Value.agg cs)=.agg (cs.toList.toArray):=by simp
   rw [this];refine .rep (.agg _ _ (by simp) λj u c hu hc=> ?_)
   simp only [List.getElem?_map] at hc;rw [show (cs.toList.toArray).toList=cs.toList by simp] at hc
   rw [hu] at hc;simp at hc; subst hc; exact .lit u
  | func fn first caps=>
   cases fn with
   | func f=>
    simp only [AV.ofConst];split
    ·rename_i h1 h2;have e1:first=#[]:=by simpa using h1
     have e2:caps=#[]:=by simpa using h2
     subst e1; subst e2;exact .rep (.fn f [] [] rfl (λj u c hu=>by simp at hu))
    ·exact .rep (.lit _)
   | _=>exact .rep (.lit _)
  | _=>exact .rep (.lit _)
 | global g=>exact .dead _
 | func f=>exact .rep (.fn f [] [] rfl (λj u c hu=>by simp at hu))
theorem zZL {tmps:List (AV ty)} {d t:Nat} {v:AV ty}:(gD .dead (tmps.set d v) t)=if d=t/\d<tmps.length then v else (gD .dead tmps t):=by
 simp only [zfF,List.getD_eq_getElem?_getD,List.getElem?_set];by_cases h:d=t
 ·subst h;by_cases h':d<tmps.length <;>simp [h']
 ·simp [h]
theorem zYP {a:Act} {d t:Nat} {v:Value}:(a.put (some d) v).tmps.getD t undef=if d=t/\d<a.tmps.size then v else a.tmps.getD t undef:=by
 simp only [Act.put];rw [Array.getD_eq_getD_getElem?,Array.getD_eq_getD_getElem?,Array.getElem?_setIfInBounds];by_cases h:d=t
 ·subst h;by_cases h':d<a.tmps.size <;>simp [h']
 ·simp [h]
theorem RF.put {κ':Nat->Value} {w':World} {v:Value} {dst:Option Tmp} {d:Delta ty} (h:RF cx e st κ a w)
  (hb:RB cx e (st.app dst d).blk κ' w') (hc:Compat cx e st.blk κ w (st.app dst d).blk κ' w')
  (hv:dst.isSome=true->RepA cx (Fz e (st.app dst d).blk κ' w') w' (λi=>((st.app dst d).blk i).kind cx) κ' v d.val):RF cx e (st.app dst d) κ' (a.put dst v) w':=by
 cases dst with
 | none=>exact ⟨hb,h.defers,h.size,λt=>hc.rep (h.tmps t)⟩
 | some t0=>
  refine ⟨hb,h.defers,by simp [St.app,zwv,zHR,zAa,Act.put,h.size],λt=> ?_⟩
  rw [zYP];have:(St.app st (some t0) d).get t=if t0=t/\t0<st.tmps.length then d.val else st.get t:=by simp only [St.get,St.app,zwv,zHR,zAa,zZL]
  rw [this,h.size];split
  ·exact hv rfl
  ·exact hc.rep (h.tmps t)
theorem Compat.refl (h:RB cx e st.blk κ w):Compat cx e st.blk κ w st.blk κ w:=⟨λb hb=>⟨hb,rfl⟩,λid _=>.inl ⟨rfl,rfl⟩⟩
theorem RF.val (h:RF cx e st κ a w) {v:Value} {dst:Option Tmp} {av:AV ty} {rd:List Nat} (hv:zeE cx e st κ w v av):R cx e (st.app dst { val:=av,rd:=rd }) (a.put dst v) w:=by
 have hb:(st.app dst { val:=av,rd:=rd }).blk=st.blk:=rfl;exact ⟨κ,h.put (by rw [hb]; exact h.rb) (by rw [hb]; exact .refl h.rb) (by intro _; rw [hb]; exact hv)⟩
theorem zW {o:Oper} {Q:Exit->Act->World->Prop} {next:Act->World->Prop} {v:Value} {w':World} (h:(execOp a.eval o).run P w=.ok (.value v) w') (hn:next (a.put o.dst v) w'):o.wp P a w next Q:=by
 unfold Oper.wp; rw [h]; exact hn
theorem zbW {F:Nat->Prop} {kd:Nat->Kind} {v:Value} {x:Value} (h:RepA cx F w kd κ v (.lit x)):v=x:=by
 cases h with | rep h=>cases h; rfl
theorem zZa {av:AV ty} {n:Int} (h:av.int64=some n):av=.lit (.int .i64 n):=by
 unfold AV.int64 at h;split at h
 ·simp only [qa] at h; subst h; rfl
 ·cases h
theorem zwY {F:Nat->Prop} {kd:Nat->Kind} {v:Value} {av:AV ty} {n:Int} (h:RepA cx F w kd κ v av) (hi:av.int64=some n):v=.int .i64 n:=by
 rw [zZa hi] at h; exact zbW h
theorem zcR {T:Nat} {d:TypeDesc} (h:P.underlying T=some d):(underlying T).run P w=.ok d w:=run_underlying h w
theorem zVi {T:Nat} {i:TypeInfo} (h:P.info? T=some i):(typeInfo T).run P w=.ok i w:=by simp [typeInfo,h]
theorem zUD {T:Nat} {i:TypeInfo} (h:P.info? T=some i):(sizeOf T).run P w=.ok i.size w:=by simp [sizeOf,zVi h]
theorem zDB {T:Nat} {i:TypeInfo} {z:Value} (h:P.info? T=some i) (hz:i.zero=some z):(zeroValue T).run P w=.ok z w:=by simp [zeroValue,zVi h,hz]
theorem zhn (hcx:CxOK P cx) {T e' s b:Nat} {z:List Value} (h:cx.ti T=some ⟨.slice e',s,b,z⟩):P.underlying T=some (.slice e'):=by
 obtain ⟨info,d,z,_,hu,_,_,_,_,_,_,hd⟩:=(hcx.ti T _ h).ok;simp only [zs5] at hd; rw [hu,hd]
theorem zXv (hcx:CxOK P cx) {T s b:Nat} {z:List Value} (h:cx.ti T=some ⟨.iface,s,b,z⟩):∃ ms,P.underlying T=some (.interface ms):=by
 obtain ⟨info,d,z,_,hu,_,_,_,_,_,_,hd⟩:=(hcx.ti T _ h).ok;simp only [zs5] at hd; obtain ⟨ms,hd⟩:=hd; exact ⟨ms,by rw [hu,hd]⟩
theorem zHM (hcx:CxOK P cx) {T k v s b:Nat} {z:List Value} (h:cx.ti T=some ⟨.map k v,s,b,z⟩):P.underlying T=some (.map k v):=by
 obtain ⟨info,d,z,_,hu,_,_,_,_,_,_,hd⟩:=(hcx.ti T _ h).ok;simp only [zs5] at hd; rw [hu,hd]
theorem zsf (hcx:CxOK P cx) {T s b:Nat} {z:List Value} (h:cx.ti T=some ⟨.str,s,b,z⟩):P.underlying T=some .string:=by
 obtain ⟨info,d,z,_,hu,_,_,_,_,_,_,hd⟩:=(hcx.ti T _ h).ok;simp only [zs5] at hd; rw [hu,hd]
theorem zYS (hcx:CxOK P cx) {T s b:Nat} {z:List Value} (h:cx.ti T=some ⟨.bool,s,b,z⟩):P.underlying T=some .bool:=by
 obtain ⟨info,d,z,_,hu,_,_,_,_,_,_,hd⟩:=(hcx.ti T _ h).ok;simp only [zs5] at hd; rw [hu,hd]
theorem zvL (hcx:CxOK P cx) {T s b:Nat} {k:IntKind} {z:List Value} (h:cx.ti T=some ⟨.int k,s,b,z⟩):P.underlying T=some (.int k):=by
 obtain ⟨info,d,z,_,hu,_,_,_,_,_,_,hd⟩:=(hcx.ti T _ h).ok;simp only [zs5] at hd; rw [hu,hd]
theorem zRe (hcx:CxOK P cx) {T s b:Nat} {fs:List (Nat×Nat)} {z:List Value} (h:cx.ti T=some ⟨.struct fs,s,b,z⟩):
  ∃ fields:Array Field,P.underlying T=some (.struct fields)/\fields.toList.map (λf=>(f.offset,f.type))=fs:=by
 obtain ⟨info,d,z,_,hu,_,_,_,_,_,_,fields,rfl,hf,_⟩:=(hcx.ti T _ h).ok;exact ⟨fields,hu,hf⟩
theorem zvh (hcx:CxOK P cx) {T:Nat} {i:TInfo} (h:cx.ti T=some i) (w:World):(sizeOf T).run P w=.ok i.size w:=by
 obtain ⟨info,d,z,hi,_,hs,_⟩:=(hcx.ti T _ h).ok;rw [zUD hi,hs]
theorem zS3 (hcx:CxOK P cx) {T:Nat} {i:TInfo} (h:cx.ti T=some i) (w:World):(isAgg T).run P w=.ok (zrj i) w:=by
 obtain ⟨info,d,z,hi,hu,_,_,_,_,_,_,hd⟩:=(hcx.ti T _ h).ok;obtain ⟨desc,s,b,zz⟩:=i;cases desc with
 | struct fs=>obtain ⟨fields,rfl,_⟩:=hd; simp [isAgg,zcR hu,zrj]
 | iface=>obtain ⟨ms,rfl⟩:=hd; simp [isAgg,zcR hu,zrj]
 | other=>
  simp only [zs5] at hd;cases d <;>first | exact hd.elim | simp [isAgg,zcR hu,zrj]
 | _=>simp only [zs5] at hd; subst hd; simp [isAgg,zcR hu,zrj]
variable {o:Oper} {d:Delta ty} {Q:Exit->Act->World->Prop}
theorem zV2 {x:Operand} (ho:o.op=.move x\/o.op=.assign x) (h:aop cx o st=some d) (hf:RF cx e st κ a w):o.wp P a w (λa' w'=>R cx e (st.app o.dst d) a' w') Q:=by
 have hd:d={ val:=st.ev x }:=by rcases ho with ho | ho <;>(unfold aop zdW at h; simp only [ho,qa] at h; exact h.symm)
 subst hd;refine zW (v:=a.eval x) (w':=w) ?_ (hf.val (zbY hf x));rcases ho with ho | ho <;>simp [execOp,ho]
theorem zZQ {c x y:Operand} (ho:o.op=.pick c x y) (h:aop cx o st=some d) (hf:RF cx e st κ a w):o.wp P a w (λa' w'=>R cx e (st.app o.dst d) a' w') Q:=by
 unfold aop zdW at h;simp only [ho] at h;split at h
 ·rename_i t ht;simp only [qa] at h; subst h;have hc:=zbY hf c;rw [ht] at hc;have hc:=zbW hc;cases t with
  | true=>exact zW (v:=a.eval x) (w':=w) (by simp [execOp,ho,hc,asBool]) (hf.val (zbY hf x))
  | false=>exact zW (v:=a.eval y) (w':=w) (by simp [execOp,ho,hc,asBool]) (hf.val (zbY hf y))
 ·cases h
theorem zVx {g:Nat} {first caps:Array Operand} (ho:o.op=.makeFunc (.func g) first caps) (h:aop cx o st=some d) (hf:RF cx e st κ a w):o.wp P a w (λa' w'=>R cx e (st.app o.dst d) a' w') Q:=by
 unfold aop zdW at h;simp only [ho] at h;split at h
 ·rename_i hfirst;have hfirst:first=#[]:=by simpa using hfirst
  subst hfirst;simp only [qa] at h; subst h;refine zW (v:=.func (.func g) #[] (caps.map a.eval)) (w':=w) (by simp [execOp,ho,Instr.makeFunc]) (hf.val ?_)
  have:caps.map a.eval=(caps.toList.map a.eval).toArray:=by apply Array.ext'; rw [Array.toList_map]
  rw [this];refine .fn g _ _ (by simp) λj u c hu hc=> ?_
  rw [List.getElem?_map] at hu hc;cases hx:caps.toList[j]? with
  | none=>rw [hx] at hu; cases hu
  | some x=>
   rw [hx] at hu hc;simp only [Option.map_some,qa] at hu hc;subst hu; subst hc;exact zbY hf x
 ·cases h
theorem zWP {x:Operand} {i:Nat} (ho:o.op=.extract x i) (h:aop cx o st=some d) (hf:RF cx e st κ a w):o.wp P a w (λa' w'=>R cx e (st.app o.dst d) a' w') Q:=by
 unfold aop zdW at h;simp only [ho] at h;split at h
 ·rename_i vs hx;split at h
  ·rename_i v hv;simp only [qa] at h; subst h;have hr:=zbY hf x;rw [hx] at hr;generalize hev:a.eval x=ve at hr;cases hr with
   | rep hr=>cases hr
   | tup us _ hlen hr=>
    have hj:i<us.length:=by rw [hlen]; exact (List.getElem?_eq_some_iff.1 hv).1
    refine zW (v:=us[i]) (w':=w) ?_ (hf.val (hr i _ v (List.getElem?_eq_getElem hj) hv));simp [execOp,ho,hev,Instr.extract,hj]
  ·cases h
 ·cases h
theorem zVI {x:Operand} (hcx:CxOK P cx) (ho:o.op=.nilCheck x) (h:aop cx o st=some d) (hf:RF cx e st κ a w):o.wp P a w (λa' w'=>R cx e (st.app o.dst d) a' w') Q:=by
 unfold aop zdW at h;simp only [ho] at h;have hr:=zbY hf x;generalize hev:a.eval x=ve at hr;split at h
 ·rename_i f cs hx;simp only [qa] at h; subst h;rw [hx] at hr
  have:∃ vs,ve=.func (.func f) #[] vs:=by
   cases hr with
   | rep hr=>cases hr; exact ⟨_,rfl⟩
   | fn=>exact ⟨_,rfl⟩
  obtain ⟨vs,rfl⟩:=this;exact zW (w':=w) (by simp [execOp,ho,hev]) (hf.val hr)
 ·split at h
  ·rename_i cs off rd hc;simp only [qa] at h; subst h;rcases zvc hcx hf.rb hr hc with ⟨b,o',us,rfl,_⟩ | ⟨_,hn⟩
   ·exact zW (w':=w) (by simp [execOp,ho,hev]) (hf.val hr)
   ·exact hn.elim
  ·cases h
theorem zSC {α:Type} (us:List α) (d:α) (n off:Nat) (h:off+n<=us.length):(List.range n).map (λj=>us.getD (off+j) d)=(us.drop off).take n:=by
 apply List.ext_getElem?;intro j;simp only [List.getElem?_map,List.getElem?_take,List.getElem?_drop];by_cases hj:j<n
 ·have:off+j<us.length:=by omega
  simp [hj,List.getElem?_range,List.getD,this]
 ·simp [hj]
theorem zPe (hcx:CxOK P cx) {T:Nat} {i:TInfo} (hi:cx.ti T=some i) {b o off:Nat} {us:List Value} (hc:∀ (j:Nat) u,us[j]? =some u->w.cell? ⟨b,o+j,none⟩=some u)
  {S:Value->AV ty->Prop} {cs:List (AV ty)} (ha:All2 S us cs) {v:AV ty} (hv:cut i cs off=some v)
  (hagg:∀ us' cs',All2 S us' cs'->S (.agg us'.toArray) (.agg cs')):∃ u,(loadVar T ⟨b,o+off,none⟩).run P w=.ok u w/\S u v:=by
 unfold cut at hv;have hg:=zS3 hcx hi w;split at hv
 ·rename_i hst;split at hv
  ·rename_i hle;simp only [qa] at hv; subst hv;have hle:off+i.size<=us.length:=by rw [ha.len]; exact Nat.le_of_ble_eq_true hle
   refine ⟨.agg ((us.drop off).take i.size).toArray, ?_,hagg _ _ ((ha.drop off).take _)⟩
   have:=run_loadCells (P:=P) w ⟨b,o+off,none⟩ i.size (λj=>us.getD (off+j) undef) (λj hj=>by
    rw [zer,Nat.add_assoc];exact hc _ _ (by simp [List.getD]; rw [List.getElem?_eq_getElem (by omega)]; simp))
   rw [zSC us undef i.size off hle] at this;simp [loadVar,hg,hst,zvh hcx hi,this]
  ·cases hv
 ·rename_i hst;obtain ⟨u,hu,hr⟩:=ha.getR hv;refine ⟨u, ?_,hr⟩;simp [loadVar,hg,hst,hc off u hu]
theorem zIu {us:List Value} {cs:List (AV ty)} (h:All2 (zeE cx e st κ w) us cs):zeE cx e st κ w (.agg us.toArray) (.agg cs):=.agg us cs h.len h.at_
theorem zZ0 {T:Nat} {x:Operand} (hcx:CxOK P cx) (ho:o.op=.load T x) (h:aop cx o st=some d) (hf:RF cx e st κ a w):o.wp P a w (λa' w'=>R cx e (st.app o.dst d) a' w') Q:=by
 unfold aop zdW at h;simp only [ho] at h;have hr:=zbY hf x;generalize hev:a.eval x=ve at hr;split at h
 ·rename_i i cs off rd hi hc;split at h
  ·rename_i v hv;simp only [qa] at h; subst h;rcases zvc hcx hf.rb hr hc with ⟨b,o',us,rfl,hcell,ha⟩ | ⟨_,hn⟩
   ·obtain ⟨u,hrun,hu⟩:=zPe hcx hi hcell ha hv (λ_ _=>zIu)
    exact zW (v:=u) (w':=w) (by simp [execOp,ho,hev,Instr.loadAt,Instr.sureAddr,hrun]) (hf.val hu)
   ·exact hn.elim
  ·cases h
 ·cases h
theorem zVb {S:Nat} {x:Operand} {f:Nat} (hcx:CxOK P cx) (ho:o.op=.fieldAddr S x f) (h:aop cx o st=some d) (hf:RF cx e st κ a w):o.wp P a w (λa' w'=>R cx e (st.app o.dst d) a' w') Q:=by
 unfold aop zdW at h;simp only [ho] at h;have hr:=zbY hf x;generalize hev:a.eval x=ve at hr;split at h
 ·rename_i fs s b z hS;obtain ⟨fields,hu,hfs⟩:=zRe hcx hS;split at h
  ·rename_i off T hfo;split at h
   ·rename_i i v cs o' rd hi hv hc;split at h
    ·rename_i hz;simp only [qa] at h; subst h;have hz:i.size≠0:=by intro h0; rw [h0] at hz; cases hz
     rw [<- hfs,List.getElem?_map] at hfo;cases hfi:fields[f]? with
     | none=>simp [hfi] at hfo
     | some fd=>
      simp only [Array.getElem?_toList,hfi,Option.map_some,qa,qb] at hfo;obtain ⟨hoff,hty⟩:=hfo;rcases zvc hcx hf.rb hr hc with ⟨b',o'',us,rfl,hcell,ha⟩ | ⟨_,hn⟩
      ·have hsz:=zvh hcx hi w;rw [<- hty] at hsz;refine zW (v:=.pointer (some ⟨b',o''+o'+fd.offset,none⟩)) (w':=w) ?_ (hf.val ?_)
       ·simp [execOp,ho,hev,Instr.fieldAt,zcR hu,hfi,Instr.sureAddr,fieldPlace,hsz,hz,zer]
       ·rw [hoff];generalize hev2:st.ev x=av at hr hv hc;cases av with
        | ptr id off'=>
         simp only [shift,qa] at hv; subst hv;generalize hpv:(Value.pointer (some ⟨b',o''+o',none⟩))=pv at hr;cases hr with
         | rep hr=>cases hr
         | ptr _ _ b2 hk hb2=>
          simp only [Value.pointer.injEq,qa,Addr.mk.injEq,and_true] at hpv;obtain ⟨rfl,rfl⟩:=hpv;exact .ptr id _ _ hk hb2
         | ptrD _ _ _ hk=>exact .ptrD _ _ _ hk
        | eptr id ix off'=>
         simp only [shift,qa] at hv; subst hv;generalize hpv:(Value.pointer (some ⟨b',o''+o',none⟩))=pv at hr;cases hr with
         | rep hr=>cases hr
         | eptr _ _ _ b2 k m n cap hk hix hb2=>
          simp only [Value.pointer.injEq,qa,Addr.mk.injEq,and_true] at hpv;obtain ⟨rfl,hpv⟩:=hpv;rw [hpv,Nat.add_assoc];exact .eptr id ix _ _ k m n cap hk hix hb2
         | eptrD _ _ _ _ hk=>exact .eptrD _ _ _ _ hk
        | fptr T' y off'=>
         simp only [shift,qa] at hv; subst hv;generalize hpv:(Value.pointer (some ⟨b',o''+o',none⟩))=pv at hr;cases hr with
         | rep hr=>
          cases hr with
          | fptr b2 off0 _ _ _ us' hF hlen hc' hr'=>
           simp only [Value.pointer.injEq,qa,Addr.mk.injEq,and_true] at hpv;obtain ⟨rfl,hpv⟩:=hpv;rw [hpv,Nat.add_assoc];exact .rep (.fptr _ off0 _ T' y us' hF hlen hc' hr')
        | bptr cs' off'=>
         simp only [shift,qa] at hv; subst hv;generalize hpv:(Value.pointer (some ⟨b',o''+o',none⟩))=pv at hr;cases hr with
         | rep hr=>
          cases hr with
          | bptr b2 _ _ us' hF hlen hc' hr'=>
           simp only [Value.pointer.injEq,qa,Addr.mk.injEq,and_true] at hpv;obtain ⟨rfl,hpv⟩:=hpv;rw [hpv];exact .rep (.bptr _ _ cs' us' hF hlen hc' hr')
        | _=>simp [shift] at hv
      ·exact hn.elim
    ·cases h
   ·cases h
  ·cases h
 ·cases h
end
end
end Go.Ab
/- The operations that yield a value and leave the blocks alone, against the machine's: the second part. -/
namespace Go.Ab
noncomputable section
variable {ty:Nat->Type}
section
variable {P:Program} {cx:Cx ty} {e:Env} {st:St ty} {κ:Nat->Value} {a:Act} {w:World} {o:Oper} {d:Delta ty} {Q:Exit->Act->World->Prop}
theorem zdR {α:Type} {b:Bool} {x:Option α} {y:α} (h:(bif b then x else none)=some y):b=true/\x=some y:=by
 cases b <;>simp_all
theorem zGI {us:Value} {cs:List (AV ty)} (h:zeE cx e st κ w us (.agg cs)):∃ vs:List Value,us=.agg vs.toArray/\All2 (zeE cx e st κ w) vs cs:=by
 cases h with
 | rep h=>cases h with | agg vs _ hlen hr=>exact ⟨vs,rfl,zs6 hlen hr⟩
 | agg vs _ hlen hr=>exact ⟨vs,rfl,hlen,hr⟩
theorem zY6 (hcx:CxOK P cx) {T:Nat} {i:TInfo} (hi:cx.ti T=some i) {us:List Value} {cs:List (AV ty)} (ha:All2 (zeE cx e st κ w) us cs) {off:Nat} {v:AV ty} (hv:cut i cs off=some v):
  ∃ u,(part T us.toArray off).run P w=.ok u w/\zeE cx e st κ w u v:=by
 unfold cut at hv;have hg:=zS3 hcx hi w;split at hv
 ·rename_i hst;split at hv
  ·rename_i hle;simp only [qa] at hv; subst hv;have hle:off+i.size<=us.length:=by rw [ha.len]; exact Nat.le_of_ble_eq_true hle
   refine ⟨.agg ((us.drop off).take i.size).toArray, ?_,zIu ((ha.drop off).take _)⟩
   have:us.toArray.extract off (off+i.size)=((us.drop off).take i.size).toArray:=by
    apply Array.ext';rw [List.extract_toArray];simp [List.extract]
   simp [part,hg,hst,zvh hcx hi,this]
  ·cases hv
 ·rename_i hst;obtain ⟨u,hu,hr⟩:=ha.getR hv;refine ⟨u, ?_,hr⟩;simp [part,hg,hst,hu]
theorem zY5 {S:Nat} {x:Operand} {f:Nat} (hcx:CxOK P cx) (ho:o.op=.field S x f) (h:aop cx o st=some d) (hf:RF cx e st κ a w):o.wp P a w (λa' w'=>R cx e (st.app o.dst d) a' w') Q:=by
 unfold aop zdW at h;simp only [ho] at h;have hr:=zbY hf x;generalize hev:a.eval x=ve at hr;split at h
 ·rename_i fs s b z cs hS hx;rw [hx] at hr;obtain ⟨vs,rfl,ha⟩:=zGI hr;obtain ⟨fields,hu,hfs⟩:=zRe hcx hS;split at h
  ·rename_i off T hfo;split at h
   ·rename_i i hi;split at h
    ·rename_i v hv;simp only [qa] at h; subst h;rw [<- hfs,List.getElem?_map] at hfo;cases hfi:fields[f]? with
     | none=>simp [hfi] at hfo
     | some fd=>
      simp only [Array.getElem?_toList,hfi,Option.map_some,qa,qb] at hfo;obtain ⟨rfl,rfl⟩:=hfo;obtain ⟨u,hrun,hu'⟩:=zY6 hcx hi ha hv;exact zW (v:=u) (w':=w) (by simp [execOp,ho,hev,Instr.field,zcR hu,hfi,asAgg,hrun]) (hf.val hu')
    ·cases h
   ·cases h
  ·cases h
 ·cases h
theorem zSZ {cur:List Value} {off:Nat}:∀ (new:List Value),off+new.length<=cur.length->
  ((new.toArray.zipIdx.foldl (λcs (c,j)=>cs.setIfInBounds (off+j) c) cur.toArray)).toList=cur.take off++new++cur.drop (off+new.length):=by
 intro new h
 have key:∀ (n:Nat) (new:List Value) (pre:List Value),new.length=n->pre.length=off+(0:Nat)\/True->∀ (i:Nat) (cur:List Value),off+i+new.length<=cur.length->
   (((new.zipIdx i).foldl (λcs (c,j)=>cs.setIfInBounds (off+j) c) cur.toArray)).toList=cur.take (off+i)++new++cur.drop (off+i+new.length):=by
  intro n;induction n with
  | zero=>
   intro new pre hn _ i cur _;have:new=[]:=List.eq_nil_of_length_eq_zero hn;subst this;simp
  | succ n ih=>
   intro new pre hn _ i cur hl;cases new with
   | nil=>simp at hn
   | cons x r=>
    simp only [List.zipIdx_cons,List.foldl_cons];have e1:cur.toArray.setIfInBounds (off+i) x=(cur.set (off+i) x).toArray:=by simp
    rw [e1,ih r pre (by simpa using hn) (.inr trivial) (i+1) (cur.set (off+i) x) (by simp at hl ⊢; omega)]
    have hlt:off+i<cur.length:=by simp at hl; omega
    apply List.ext_getElem?;intro j;simp only [List.getElem?_append,qg,List.length_take,List.length_set,qf,List.getElem?_take,List.getElem?_set,List.getElem?_drop];have m1:min (off+(i+1)) cur.length=off+i+1:=by omega
    have m2:min (off+i) cur.length=off+i:=by omega
    rw [m1,m2];by_cases h1:j<off+i
    ·have:j<off+i+1+r.length:=by omega
     have h3:¬ off+i=j:=by omega
     have h4:j<off+i+(r.length+1):=by omega
     have h5:j<off+(i+1):=by omega
     have h6:j<off+i+1:=by omega
     simp [h1,h3,h4,h5,h6,this]
    ·by_cases h2:j=off+i
     ·subst h2;have h4:off+i<off+i+(r.length+1):=by omega
      have h5:off+i<off+(i+1):=by omega
      simp [h4,h5,hlt];omega
     ·have h3:¬ j<off+i+1:=by omega
      have h7:j - (off+i)=(j - (off+i+1))+1:=by omega
      have h8:(j<off+i+1+r.length)↔(j<off+i+(r.length+1)):=by omega
      by_cases h9:j<off+i+1+r.length
      ·have h10:=h8.1 h9;simp [h1,h3,h9,h10,h7]
      ·have h10:¬ j<off+i+(r.length+1):=λhh=>h9 (h8.2 hh)
       have h11:¬ off+i=off+(i+1)+r.length+(j - (off+i+1+r.length)):=by omega
       simp [h1,h3,h9,h10,h11];congr 1;omega
 have:=key new.length new [] rfl (.inr trivial) 0 cur (by simpa using h)
 simp only [Nat.add_zero] at this;rw [<- this];have hz:new.toArray.zipIdx=new.zipIdx.toArray:=by simp
 rw [hz,List.foldl_toArray'];simp
theorem All2.splice {α β:Type} {R:α->β->Prop} {us new:List α} {cs cnew:List β} (h:All2 R us cs) (h':All2 R new cnew) (off:Nat):
  All2 R (us.take off++new++us.drop (off+new.length)) (cs.take off++cnew++cs.drop (off+cnew.length)):=by
 rw [<- h'.len];exact ((h.take off).append h').append (h.drop _)
theorem zGe {cs new cs':List (AV ty)} {off:Nat} (h:splice cs off new=some cs'):off+new.length<=cs.length/\cs'=cs.take off++new++cs.drop (off+new.length):=by
 unfold splice at h;split at h
 ·rename_i hle;simp only [qa] at h;exact ⟨Nat.le_of_ble_eq_true hle,h.symm⟩
 ·cases h
theorem live_kind {id:Nat} (h:zo3 st id=true):(st.blk id).kind cx≠.dead:=by
 unfold zo3 at h;split at h <;>simp_all [Blk.kind]
theorem zcn.slice {F:Nat->Prop} {v:Value} {T:Nat} {l:List (ty T)} (h:zcn cx F w v T l):∃ b n c,v=.slice b n c:=by
 obtain ⟨xs,ho,_⟩:=h;rcases ho.2 with ⟨rfl,_⟩ | ⟨g,cap,cur,rfl,_⟩
 ·exact ⟨_,_,_,rfl⟩
 ·exact ⟨_,_,_,rfl⟩
theorem zVj (hrb:RB cx e st.blk κ w) {v:Value} {av:AV ty} (hr:zeE cx e st κ w v av) (h:av.isCell st=true):zb7 v=true:=by
 cases hr with
 | rep hr=>
  cases hr with
  | lit x=>exact h
  | agg=>simp [AV.isCell] at h
  | _=>rfl
 | own id k n hk=>
  cases hb:st.blk id with
  | arr T l fz=>obtain ⟨b,n,c,hv⟩:=(hrb.row hb).slice; rw [hv]; rfl
  | _=>simp [hb,Blk.kind] at hk
 | ownD _ id hk=>exact absurd hk (live_kind h)
 | sub _ id lo n k m hk hl hv=>
  unfold zk1 at hv;split at hv
  ·rcases hv with rfl | ⟨_,_,b,c,rfl,_⟩ <;>rfl
  ·obtain ⟨b,c,rfl,_⟩:=hv; rfl
 | subD _ id _ _ hk=>exact absurd hk (live_kind h)
 | ptr=>rfl
 | ptrD _ id _ hk=>exact absurd hk (live_kind h)
 | eptr=>rfl
 | eptrD _ id _ _ hk=>exact absurd hk (live_kind h)
 | fn=>rfl
 | agg=>simp [AV.isCell] at h
 | tup=>simp [AV.isCell] at h
 | dead=>simp [AV.isCell] at h
 | mp=>simp [AV.isCell] at h
 | mpD=>simp [AV.isCell] at h
theorem zSQ {v:Value} (h:zb7 v=true):v.cells.toList=[v]:=by cases v <;>first | rfl | simp [zb7] at h
theorem zQi (v:Value):zb7 v=v.oneCell':=by cases v <;>rfl
theorem zyZ (hrb:RB cx e st.blk κ w) {v:Value} {av:AV ty} {cs:List (AV ty)} (hr:zeE cx e st κ w v av) (h:av.cells st=some cs):
  All2 (zeE cx e st κ w) v.cells.toList cs/\∀ u∈v.cells.toList,zb7 u=true:=by
 unfold AV.cells at h;split at h
 ·rename_i cs';split at h
  ·rename_i hall;simp only [qa] at h; subst h;obtain ⟨vs,rfl,ha⟩:=zGI hr;refine ⟨by simpa [Value.cells] using ha,λu hu=> ?_⟩
   simp only [Value.cells] at hu;obtain ⟨j,hj⟩:=List.getElem?_of_mem hu;obtain ⟨c,hc,hr⟩:=ha.getL hj;exact zVj hrb hr ((List.all_eq_true.1 hall) c (List.mem_of_getElem? hc))
  ·cases h
 ·split at h
  ·rename_i hc;simp only [qa] at h; subst h;have h1:=zVj hrb hr hc;rw [zSQ h1];exact ⟨.cons hr .nil,by simpa using h1⟩
  ·cases h
theorem zDk {F:Nat->Prop} (z:List Value):All2 (Rep cx F w) z (z.map .lit):=by
 refine ⟨by simp,λj u c hu hc=> ?_⟩
 rw [List.getElem?_map,hu] at hc;simp at hc; subst hc; exact .lit u
theorem zQ8 (hcx:CxOK P cx) (hrb:RB cx e st.blk κ w) {fs:List (Nat×Nat)} {places:Array (Nat×Nat)}
  (hp:∀ (i off T:Nat) (inf:TInfo),fs[i]? =some (off,T)->cx.ti T=some inf->places[i]? =some (off,inf.size)):
  ∀ (ps:List (Nat×AV ty)) (us:List (Nat×Value)) (cur:List Value) (cs cs':List (AV ty)),
   All2 (λ(u:Nat×Value) (p:Nat×AV ty)=>u.1=p.1/\zeE cx e st κ w u.2 p.2) us ps->All2 (zeE cx e st κ w) cur cs->zhy cx st fs cs ps=some cs'->
   ∃ cur',Instr.fill (places[·]?) cur.toArray us=some cur'/\All2 (zeE cx e st κ w) cur'.toList cs'
 | [],us,cur,cs,cs',hu,hc,h=>by
  rw [hu.nil_left.1];simp only [zhy,qa] at h; subst h;exact ⟨cur.toArray,rfl,by simpa using hc⟩
 | (i,v)::r,us,cur,cs,cs',hu,hc,h=>by
  obtain ⟨⟨i',u⟩,us',rfl,⟨hi,hr⟩,hu'⟩:=hu.inv;simp only at hi hr; subst hi;simp only [zhy] at h;split at h
  ·cases h
  ·rename_i off T hfo;split at h
   ·cases h
   ·rename_i inf hT;split at h
    ·cases h
    ·rename_i c hcl;split at h
     ·cases h
     ·rename_i hsz;split at h
      ·cases h
      ·rename_i cs1 hsp;obtain ⟨hle,rfl⟩:=zGe hsp;obtain ⟨ha,h1⟩:=zyZ hrb hr hcl
       have hsz:u.cells.size=inf.size:=by
        have:=ha.len;rw [Array.length_toList] at this;rw [this]; exact Nat.eq_of_beq_eq_true hsz
       have hlen:u.cells.toList.length=c.length:=ha.len;obtain ⟨cur',hfill,hres⟩:=zQ8 hcx hrb hp r us' (cur.take off++u.cells.toList++cur.drop (off+u.cells.toList.length)) _ cs' hu' (hc.splice ha off) h;refine ⟨cur', ?_,hres⟩
       have hoff:¬ (off+u.cells.size>cur.length):=by
        have:=hc.len;rw [<- Array.length_toList,hlen,this]; omega
       have hset:=zSZ (cur:=cur) (off:=off) u.cells.toList (by rw [Array.length_toList]; omega)
       simp only [Array.toArray_toList] at hset;rw [<- hset] at hfill;simp only [Instr.fill,hp i' off T inf hfo hT,hsz]
       rw [show ((inf.size≠inf.size)||decide (off+inf.size>cur.toArray.size))=false by
        simp; rw [<- hsz]; omega]
       simpa using hfill
def zvY (P:Program) (T:Nat):Nat:=((P.info? T).map (·.size)).getD 0
theorem zQS {α:Type} (f:α->Nat) (g:α->Nat):∀ (l:List α),(∀ x∈l,(P.info? (g x)).isSome=true)->
  (l.mapM λx=>do pure (f x, <- sizeOf (g x)):Sem (List (Nat×Nat))).run P w=.ok (l.map λx=>(f x,zvY P (g x))) w
 | [],_=>by simp
 | x::l,h=>by
  obtain ⟨i,hi⟩:=Option.isSome_iff_exists.1 (h x (by simp))
  have ih:=zQS f g l λy hy=>h y (by simp [hy])
  have hx:(do pure (f x, <- sizeOf (g x)):Sem (Nat×Nat)).run P w=.ok (f x,zvY P (g x)) w:=by simp [zUD hi,zvY,hi]
  rw [List.mapM_cons];rw [Sem.run_bind,hx,Result.andThen_ok,Sem.run_bind,ih];rfl
theorem zYw {T:Nat} {parts:Array (Nat×Operand)} (hcx:CxOK P cx) (ho:o.op=.build T parts) (h:aop cx o st=some d) (hf:RF cx e st κ a w):o.wp P a w (λa' w'=>R cx e (st.app o.dst d) a' w') Q:=by
 unfold aop zdW at h;simp only [ho] at h;split at h
 ·rename_i fs s b zz hT;obtain ⟨info,dd,z,hi,hu,hs,hb,hz,hzc,hzl,hz1,fields,rfl,hfs,hall⟩:=(hcx.ti T _ hT).ok;split at h
  ·rename_i cs hfill;simp only [qa] at h; subst h
   have hplaces:(fields.mapM λf=>do pure (f.offset, <- sizeOf f.type):Sem (Array (Nat×Nat))).run P w=.ok (fields.map λf=>(f.offset,zvY P f.type)) w:=by
    have:=zQS (P:=P) (w:=w) (λf:Field=>f.offset) (λf=>f.type) fields.toList hall
    rw [Array.mapM_eq_mapM_toList];simp only [Sem.run_map,this,Result.andThen_ok];congr 1;apply Array.ext';simp
   obtain ⟨cur',hfl,hres⟩:=zQ8 (κ:=κ) hcx hf.rb (fs:=fs) (places:=fields.map λf=>(f.offset,zvY P f.type)) (λi off T inf h1 h2=>by
     rw [<- hfs,List.getElem?_map] at h1;cases hfi:fields[i]? with
     | none=>simp [hfi] at h1
     | some fd=>
      simp only [Array.getElem?_toList,hfi,Option.map_some,qa,qb] at h1;obtain ⟨rfl,rfl⟩:=h1;obtain ⟨info',_,_,hi',_,hs',_⟩:=(hcx.ti _ _ h2).ok;simp [hfi,zvY,hi',hs'])
    (parts.toList.map λ(i,x)=>(i,st.ev x)) (parts.toList.map λ(i,x)=>(i,a.eval x)) z.cells.toList (zz.map .lit) cs
    (⟨by simp,λj u c hu hc=>by
     rw [List.getElem?_map] at hu hc;cases hx:parts.toList[j]? with
     | none=>rw [hx] at hu; cases hu
     | some x=>
      rw [hx] at hu hc;simp only [Option.map_some,qa] at hu hc;subst hu; subst hc;exact ⟨rfl,zbY hf x.2⟩⟩)
    (by rw [hzc]; exact (zDk zz).imp λ_ _ h=>.rep h) hfill
   have heq:(Value.agg cur')=.agg cur'.toList.toArray:=by simp
   refine zW (v:=.agg cur') (w':=w) ?_ (hf.val (by rw [heq]; exact zIu hres))
   have hparts:(parts.map λ(i,x)=>(i,a.eval x)).toList=parts.toList.map λ(i,x)=>(i,a.eval x):=by simp
   simp only [Array.toArray_toList] at hfl;simp only [execOp,ho,Instr.build,Sem.run_bind,zDB hi hz,Result.andThen_ok,zcR hu,hplaces,hparts,hfl,Sem.run_pure]
  ·cases h
 ·cases h
theorem zsh (op:BinOp) (t:TypeId) (x y:Operand) {u v:Value} (h1:zb7 u=true) (hi:u≠.nilIface):(eqGuard op t x y u v).run P w=.ok () w:=by
 unfold eqGuard;cases op <;>simp <;>(cases u <;>simp_all [zb7])
theorem zXN {op:BinOp} {k:IntKind} {x y:Int} {b:Bool} {v:AV ty} (h:zWT op k x y=some (b,v)) (hb:b=true) (T:Nat):
  ∃ u,(binOp op T (.int k x) (.int k y)).run P w=.ok u w/\v=.lit u:=by
 subst hb;unfold zWT at h;cases op
 case quo=>
  simp only [qa,qb,Bool.not_eq_true',decide_eq_false_iff_not] at h;obtain ⟨hy,rfl⟩:=h;exact ⟨_,by simp [binOp,Op.intDiv,hy],rfl⟩
 case rem=>
  simp only [qa,qb,Bool.not_eq_true',decide_eq_false_iff_not] at h;obtain ⟨hy,rfl⟩:=h;exact ⟨_,by simp [binOp,Op.intDiv,hy],rfl⟩
 case shr=>
  simp only [qa,qb,Bool.not_eq_true',decide_eq_false_iff_not] at h;obtain ⟨hy,rfl⟩:=h;exact ⟨_,by simp [binOp,Op.shift,hy],rfl⟩
 all_goals first
  | (simp at h; done)
  | (simp only [qa,qb,true_and] at h
     subst h;exact ⟨_,by simp [binOp,Op.intArith,Op.intCmp],rfl⟩)
theorem zCH (n:Nat) {T:Nat} (hu:P.underlying T=some .bool) (x y:Bool):(Op.equalIn (n+1) T (.bool x) (.bool y)).run P w=.ok (x==y) w:=by
 simp [Op.equalIn,zcR hu]
theorem zTZ {T:Nat} (hu:P.underlying T=some .bool) (x y:Bool):(binOp .eql T (.bool x) (.bool y)).run P w=.ok (.bool (x==y)) w:=by
 have:(Op.equal T (.bool x) (.bool y)).run P w=.ok (x==y) w:=zCH 9999 hu x y;simp only [binOp,Sem.run_bind,this,Result.andThen_ok,Sem.run_pure]
theorem zU5 {T:Nat} (hu:P.underlying T=some .bool) (x y:Bool):(binOp .neq T (.bool x) (.bool y)).run P w=.ok (.bool (!(x==y))) w:=by
 have:(Op.equal T (.bool x) (.bool y)).run P w=.ok (x==y) w:=zCH 9999 hu x y;simp only [binOp,Sem.run_bind,this,Result.andThen_ok,Sem.run_pure]
theorem zQ3 (m:Nat) {T el:Nat} (hu:P.underlying T=some (.slice el)) (ad:Option Addr) (n c:Nat):(Op.equalIn (m+1) T (.slice ad n c) (.slice none 0 0)).run P w=.ok ad.isNone w:=by
 cases ad <;>simp [Op.equalIn,zcR hu]
theorem zJl {T el:Nat} (hu:P.underlying T=some (.slice el)) (ad:Option Addr) (n c:Nat):
  (binOp .eql T (.slice ad n c) (.slice none 0 0)).run P w=.ok (.bool ad.isNone) w/\(binOp .neq T (.slice ad n c) (.slice none 0 0)).run P w=.ok (.bool (!ad.isNone)) w:=by
 have:(Op.equal T (.slice ad n c) (.slice none 0 0)).run P w=.ok ad.isNone w:=zQ3 9999 hu ad n c;exact ⟨by simp only [binOp,Sem.run_bind,this,Result.andThen_ok,Sem.run_pure],by simp only [binOp,Sem.run_bind,this,Result.andThen_ok,Sem.run_pure]⟩
theorem zOr (m:Nat) {T:Nat} {ms} (hu:P.underlying T=some (.interface ms)) (v:Value) (b:Bool) (hv:(v=.nilIface/\b=false)\/(∃ t u,v=.iface t u/\b=true)):
  (Op.equalIn (m+1) T v .nilIface).run P w=.ok (!b) w:=by
 rcases hv with ⟨rfl,rfl⟩ | ⟨t,u,rfl,rfl⟩ <;>simp [Op.equalIn,zcR hu]
theorem zUi {T:Nat} {ms} (hu:P.underlying T=some (.interface ms)) (v:Value) (b:Bool) (hv:(v=.nilIface/\b=false)\/(∃ t u,v=.iface t u/\b=true)):
  (binOp .eql T v .nilIface).run P w=.ok (.bool (!b)) w/\(binOp .neq T v .nilIface).run P w=.ok (.bool b) w:=by
 have:(Op.equal T v .nilIface).run P w=.ok (!b) w:=zOr 9999 hu v b hv;exact ⟨by simp only [binOp,Sem.run_bind,this,Result.andThen_ok,Sem.run_pure],by simp only [binOp,Sem.run_bind,this,Result.andThen_ok,Sem.run_pure,Bool.not_not]⟩
theorem zNx:∀ (us:List Value) (cs:List (AV ty)) (xs:List Value),All2 (zeE cx e st κ w) us cs->zzX cs=some xs->us=xs
 | us,[],xs,h,hl=>by
  simp only [zzX,qa] at hl; subst hl;exact h.nil_left.1
 | us,c::cs,xs,h,hl=>by
  obtain ⟨u,us',rfl,hu,h'⟩:=h.inv;cases c with
  | lit v=>
   simp only [zzX] at hl;split at hl
   ·rename_i vs hvs;simp only [qa] at hl; subst hl;rw [zbW hu,zNx us' cs vs h' hvs]
   ·cases hl
  | _=>simp [zzX] at hl
theorem zYR {op:BinOp} {T T':Nat} {x y:Operand} (hcx:CxOK P cx) (ho:o.op=.binOp op T x y T') (h:aop cx o st=some d) (hf:RF cx e st κ a w):o.wp P a w (λa' w'=>R cx e (st.app o.dst d) a' w') Q:=by
 unfold aop zdW at h;simp only [ho] at h;have hx:=zbY hf x;have hy:=zbY hf y;split at h
 ·rename_i v herr;simp only [qa] at h; subst h;unfold zZg at herr;split at herr
  ·rename_i b hex;split at herr
   ·rename_i s b' z hT;obtain ⟨ms,hu⟩:=zXv hcx hT;rw [hex] at hx
    have key:∀ r:Bool,((op=.eql/\r= !b)\/(op=.neq/\r=b))->(execOp a.eval o).run P w=.ok (.value (.bool r)) w:=by
     intro r hr
     have hval:(a.eval x=.nilIface/\b=false)\/(∃ t u,a.eval x=.iface t u/\b=true):=by
      generalize a.eval x=v at hx;cases hx with
      | rep hx=>cases hx with
       | errN=>exact .inl ⟨rfl,rfl⟩
       | errS t u=>exact .inr ⟨t,u,rfl,rfl⟩
     have hy':a.eval (.const .nilIface)=.nilIface:=rfl;have hk:=zUi (w:=w) hu (a.eval x) b hval;rcases hr with ⟨rfl,rfl⟩ | ⟨rfl,rfl⟩
     ·rcases hval with ⟨e1,rfl⟩ | ⟨t,u,e1,rfl⟩
      ·rw [e1] at hk; simp only [execOp,ho,e1,hy',Sem.run_bind,eqGuard_nil_constR,Sem.run_pure,Result.andThen_ok,hk.1]
      ·rw [e1] at hk; simp only [execOp,ho,e1,hy',Sem.run_bind,eqGuard_at_iface,Sem.run_pure,Result.andThen_ok,hk.1]
     ·rcases hval with ⟨e1,rfl⟩ | ⟨t,u,e1,rfl⟩
      ·rw [e1] at hk; simp only [execOp,ho,e1,hy',Sem.run_bind,eqGuard_nil_constR,Sem.run_pure,Result.andThen_ok,hk.2]
      ·rw [e1] at hk; simp only [execOp,ho,e1,hy',Sem.run_bind,eqGuard_at_iface,Sem.run_pure,Result.andThen_ok,hk.2]
    split at herr
    ·simp only [qa] at herr; subst herr;exact zW (v:=.bool (!b)) (w':=w) (key _ (.inl ⟨rfl,rfl⟩)) (hf.val (.rep (.lit _)))
    ·simp only [qa] at herr; subst herr;exact zW (v:=.bool b) (w':=w) (key _ (.inr ⟨rfl,rfl⟩)) (hf.val (.rep (.lit _)))
    ·cases herr
   ·cases herr
  ·cases herr
 split at h
 ·rename_i b v hbin;obtain ⟨hb,h⟩:=zdR h;simp only [qa] at h; subst h;unfold zZi at hbin;split at hbin
  ·rename_i k m k' n hex hey;rw [hex] at hx; rw [hey] at hy;split at hbin
   ·rename_i hk; subst hk;obtain ⟨u,hrun,rfl⟩:=zXN (P:=P) (w:=w) hbin hb T;have e1:=zbW hx;have e2:=zbW hy;refine zW (v:=u) (w':=w) ?_ (hf.val (.rep (.lit u)));simp [execOp,ho,e1,e2,zsh (P:=P) (w:=w) op T x y (u:=.int k m) (v:=.int k n) rfl (by simp),hrun]
   ·cases hbin
  ·rename_i m n hex hey;rw [hex] at hx; rw [hey] at hy;have e1:=zbW hx;have e2:=zbW hy;have hg:=zsh (P:=P) (w:=w) op T x y (u:=.string m) (v:=.string n) rfl (by simp)
   unfold zZf at hbin;cases op <;>simp only [qa,qb,reduceCtorEq] at hbin
   case add=>
    obtain ⟨h1,rfl⟩:=hbin;rw [hb,qe] at h1;refine zW (v:=.string (m++n)) (w':=w) ?_ (hf.val (.rep (.lit _)));simp only [execOp,ho,e1,e2,Sem.run_bind,hg,Result.andThen_ok,binOp,Op.stringOp];rw [if_neg (by rw [show IntKind.i64.max=9223372036854775807 by decide]; omega)]
    rfl
   case eql=>
    obtain ⟨_,rfl⟩:=hbin;exact zW (w':=w) (by simp only [execOp,ho,e1,e2,Sem.run_bind,hg,Result.andThen_ok,binOp,Op.stringOp,Sem.run_pure]) (hf.val (.rep (.lit _)))
   case neq=>
    obtain ⟨_,rfl⟩:=hbin;exact zW (w':=w) (by simp only [execOp,ho,e1,e2,Sem.run_bind,hg,Result.andThen_ok,binOp,Op.stringOp,Sem.run_pure]) (hf.val (.rep (.lit _)))
   case lss=>
    obtain ⟨_,rfl⟩:=hbin;exact zW (w':=w) (by simp only [execOp,ho,e1,e2,Sem.run_bind,hg,Result.andThen_ok,binOp,Op.stringOp,Sem.run_pure]) (hf.val (.rep (.lit _)))
  ·rename_i m n hex hey;rw [hex] at hx; rw [hey] at hy;have e1:=zbW hx;have e2:=zbW hy;have hg:=zsh (P:=P) (w:=w) op T x y (u:=.bool m) (v:=.bool n) rfl (by simp)
   split at hbin
   ·rename_i s b' z hT;have hu:=zYS hcx hT;split at hbin
    ·simp only [qa,qb] at hbin;obtain ⟨_,rfl⟩:=hbin;exact zW (v:=.bool (m==n)) (w':=w) (by simp only [execOp,ho,e1,e2,Sem.run_bind,hg,Result.andThen_ok,zTZ hu,Sem.run_pure]) (hf.val (.rep (.lit _)))
    ·simp only [qa,qb] at hbin;obtain ⟨_,rfl⟩:=hbin;exact zW (v:=.bool (!(m==n))) (w':=w) (by simp only [execOp,ho,e1,e2,Sem.run_bind,hg,Result.andThen_ok,zU5 hu,Sem.run_pure]) (hf.val (.rep (.lit _)))
    ·cases hbin
   ·cases hbin
  ·rename_i cs cs' hex hey;rw [hex] at hx; rw [hey] at hy;obtain ⟨us,e1,ha⟩:=zGI hx;obtain ⟨vs,e2,hb'⟩:=zGI hy;split at hbin
   ·rename_i xs ys hxs hys;split at hbin
    ·rename_i r heq;rw [zNx _ _ _ ha hxs] at e1;rw [zNx _ _ _ hb' hys] at e2;obtain ⟨r1,r2,hg,_⟩:=hcx.eqs T xs ys r heq w;split at hbin
     ·simp only [qa,qb] at hbin;obtain ⟨_,rfl⟩:=hbin;exact zW (v:=.bool r) (w':=w) (by simp only [execOp,ho,e1,e2,Sem.run_bind,hg,Result.andThen_ok,r1,Sem.run_pure]) (hf.val (.rep (.lit _)))
     ·simp only [qa,qb] at hbin;obtain ⟨_,rfl⟩:=hbin;exact zW (v:=.bool (!r)) (w':=w) (by simp only [execOp,ho,e1,e2,Sem.run_bind,hg,Result.andThen_ok,r2,Sem.run_pure]) (hf.val (.rep (.lit _)))
     ·cases hbin
    ·cases hbin
   ·cases hbin
  ·rename_i ad n c hex hey;rw [hex] at hx; rw [hey] at hy;have e1:=zbW hx;have e2:=zbW hy;have hg:=zsh (P:=P) (w:=w) op T x y (u:=.slice ad n c) (v:=.slice none 0 0) rfl (by simp)
   split at hbin
   ·rename_i el s b' z hT;obtain ⟨he1,he2⟩:=zJl (w:=w) (zhn hcx hT) ad n c;split at hbin
    ·simp only [qa,qb] at hbin;obtain ⟨_,rfl⟩:=hbin;exact zW (v:=.bool ad.isNone) (w':=w) (by simp only [execOp,ho,e1,e2,Sem.run_bind,hg,Result.andThen_ok,he1,Sem.run_pure]) (hf.val (.rep (.lit _)))
    ·simp only [qa,qb] at hbin;obtain ⟨_,rfl⟩:=hbin;exact zW (v:=.bool (!ad.isNone)) (w':=w) (by simp only [execOp,ho,e1,e2,Sem.run_bind,hg,Result.andThen_ok,he2,Sem.run_pure]) (hf.val (.rep (.lit _)))
    ·cases hbin
   ·cases hbin
  ·rename_i el l hex hey;rw [hex] at hx; rw [hey] at hy;have e2:=zbW hy;split at hbin
   ·rename_i el' s b' z hT
    have hnn:∀ q,some (!l.isEmpty,q)=some (b,v)->∃ ad n c,a.eval x=.slice (some ad) n c:=by
     intro q hq;simp only [qa,qb] at hq;have hne:l.isEmpty=false:=by have:=hq.1; rw [hb] at this; simpa using this
     revert hx;generalize a.eval x=u;intro hx;cases hx with
     | rep hr=>
      cases hr with
      | slE=>simp at hne
      | sl=>exact ⟨_,_,_,rfl⟩
    split at hbin
    ·obtain ⟨ad,n,c,e1⟩:=hnn _ hbin;obtain ⟨he1,he2⟩:=zJl (w:=w) (zhn hcx hT) (some ad) n c;have hg:=zsh (P:=P) (w:=w) .eql T x y (u:=.slice (some ad) n c) (v:=.slice none 0 0) rfl (by simp)
     simp only [qa,qb] at hbin;obtain ⟨_,rfl⟩:=hbin;exact zW (v:=.bool false) (w':=w) (by simp only [execOp,ho,e1,e2,Sem.run_bind,hg,Result.andThen_ok,he1,Sem.run_pure]; rfl) (hf.val (.rep (.lit _)))
    ·obtain ⟨ad,n,c,e1⟩:=hnn _ hbin;obtain ⟨he1,he2⟩:=zJl (w:=w) (zhn hcx hT) (some ad) n c;have hg:=zsh (P:=P) (w:=w) .neq T x y (u:=.slice (some ad) n c) (v:=.slice none 0 0) rfl (by simp)
     simp only [qa,qb] at hbin;obtain ⟨_,rfl⟩:=hbin;exact zW (v:=.bool true) (w':=w) (by simp only [execOp,ho,e1,e2,Sem.run_bind,hg,Result.andThen_ok,he2,Sem.run_pure]; rfl) (hf.val (.rep (.lit _)))
    ·cases hbin
   ·cases hbin
  ·cases hbin
 ·cases h
end
end
end Go.Ab
/- The operations that yield a value and leave the blocks alone, against the machine's: the third part: slices, indexes, lengths. -/
namespace Go.Ab
noncomputable section
variable {ty:Nat->Type}
section
variable {P:Program} {cx:Cx ty} {e:Env} {st:St ty} {κ:Nat->Value} {a:Act} {w:World} {o:Oper} {d:Delta ty} {Q:Exit->Act->World->Prop}
theorem zZr {u:UnOp} {T:Nat} {x:Operand} (ho:o.op=.unOp u T x) (h:aop cx o st=some d) (hf:RF cx e st κ a w):o.wp P a w (λa' w'=>R cx e (st.app o.dst d) a' w') Q:=by
 unfold aop zdW at h;simp only [ho] at h;have hx:=zbY hf x;split at h
 ·rename_i b hex;rw [hex] at hx;simp only [qa] at h; subst h;exact zW (v:=.bool (!b)) (w':=w) (by simp only [execOp,ho,zbW hx,Op.unary,Sem.run_bind,Sem.run_pure,Result.andThen_ok]) (hf.val (.rep (.lit _)))
 ·rename_i k n hex;rw [hex] at hx;simp only [qa] at h; subst h;exact zW (v:=.int k (k.wrap (0 - n))) (w':=w) (by simp only [execOp,ho,zbW hx,Op.unary,Op.intArith,Sem.run_bind,Sem.run_pure,Result.andThen_ok]) (hf.val (.rep (.lit _)))
 ·cases h
theorem zLG (hrb:RB cx e st.blk κ w) {v:Value} {av:AV ty} {x:(T:Nat)×List (ty T)} {rd:List Nat} (hr:zeE cx e st κ w v av) (h:zc9 st av=some (x,rd)):
  ∃ ad cap,v=.slice ad x.2.length cap/\(ad=none->x.2=[]/\cap=0):=by
 cases av with
 | sl T l=>
  simp only [zc9,qa,qb] at h;obtain ⟨rfl,_⟩:=h;cases hr with
  | rep hr=>
   cases hr with
   | slE ad c T hn=>exact ⟨ad,c,rfl,λh=>⟨rfl,hn h⟩⟩
   | sl b off cap T l us=>exact ⟨_,cap,rfl,by simp⟩
 | own id=>
  simp only [zc9] at h;split at h
  ·rename_i T l fz hb;simp only [qa,qb] at h;obtain ⟨rfl,_⟩:=h;cases hr with
   | rep hr=>cases hr
   | own _ k m hk=>
    obtain ⟨xs,ho,_⟩:=hrb.row hb;rcases ho.2 with ⟨hv,h0⟩ | ⟨g,cap,cur,hv,_⟩
    ·have:l=[]:=List.eq_nil_of_length_eq_zero h0;subst this;exact ⟨none,0,hv,λ_=>⟨rfl,rfl⟩⟩
    ·exact ⟨_,cap,hv,by simp⟩
   | ownD _ _ hk=>simp [hb,Blk.kind] at hk
  ·cases h
 | sub id lo n=>
  simp only [zc9] at h;split at h
  ·rename_i T l fz hb;simp only [qa,qb] at h;obtain ⟨rfl,_⟩:=h;cases hr with
   | rep hr=>cases hr
   | sub _ _ _ _ k m hk hl hv=>
    simp only [hb,Blk.kind,Kind.arr.injEq] at hk;obtain ⟨rfl,rfl⟩:=hk;have hlen:((l.drop lo).take n).length=n:=by simp; omega
    obtain ⟨b,m',c',hκ⟩:=(hrb.row hb).slice;rw [hκ] at hv;unfold zk1 at hv;simp only at hlen ⊢;split at hv
    ·rcases hv with rfl | ⟨rfl,_,b,c,rfl,hbc⟩
     ·exact ⟨_,_,by rw [hlen],by simp⟩
     ·exact ⟨b,c,by rw [hlen],λh=>⟨List.eq_nil_of_length_eq_zero hlen,hbc h⟩⟩
    ·obtain ⟨b,c,rfl,rfl,_,hbc⟩:=hv;exact ⟨b,c,by rw [hlen],λh=>⟨List.eq_nil_of_length_eq_zero hlen,hbc h⟩⟩
   | subD _ _ _ _ hk=>simp [hb,Blk.kind] at hk
  ·cases h
 | _=>simp [zc9] at h
theorem zNa (hf:RF cx e st κ a w) {x:Option Operand} {n:Option Int} (h:ztF st x=some n):x.map a.eval=n.map (Value.int .i64):=by
 cases x with
 | none=>simp only [ztF,qa] at h; subst h; rfl
 | some x=>
  simp only [ztF] at h;split at h
  ·rename_i m hm;simp only [qa] at h; subst h;simp only [Option.map_some];rw [zwY (zbY hf x) hm]
  ·cases h
theorem zQ7 (isSlice:Bool) (len cap:Nat) (lo hi:Option Int) (hcap:len<=cap) (h1:0<=lo.getD 0) (h2:lo.getD 0<=hi.getD len) (h3:hi.getD len<=len):
  (Instr.sliceBounds isSlice len cap (lo.map (Value.int .i64)) (hi.map (Value.int .i64)) none).run P w=.ok ((lo.getD 0).toNat,(hi.getD len).toNat,cap) w:=by
 unfold Instr.sliceBounds;cases hi with
 | none=>
  cases lo with
  | none=>simp
  | some l=>
   simp only [Option.getD_some,Option.getD_none] at h1 h2 h3;simp [Instr.sliceBound,asIntOf,h1,h2]
 | some h=>
  simp only [Option.getD_some] at h2 h3;have hh:0<=h/\h<=(cap:Int):=by omega
  cases lo with
  | none=>simp [Instr.sliceBound,asIntOf,hh]
  | some l=>
   simp only [Option.getD_some] at h1 h2;have h4:(l<=(h.toNat:Int)):=by omega
   have e1:(Instr.sliceBound (.int .i64 h) cap (if isSlice then .sliceAcap else .sliceAlen)).run P w=.ok h.toNat w:=by simp [Instr.sliceBound,asIntOf,hh]
   have e2:(Instr.sliceBound (.int .i64 l) h.toNat .sliceB).run P w=.ok l.toNat w:=by
    simp only [Instr.sliceBound,asIntOf,Sem.run_bind,Sem.run_pure,Result.andThen_ok];rw [if_pos ⟨h1,h4⟩]; rfl
   simp only [Option.map_some,Sem.run_bind,Sem.run_pure,Result.andThen_ok,e1,Option.isSome_none,Bool.false_eq_true,if_false,e2,Option.getD_some]
theorem z0K {a b c:Bool} (h:(a&&b&&c)=true):a=true/\b=true/\c=true:=by simpa [and_assoc] using h
def zvm (ad:Option Addr) (k l h cap:Nat):Value:=.slice (if cap=l then ad else ad.map (·.add (l*k))) (h - l) (cap - l)
theorem zO9 (hcx:CxOK P cx) {T e':Nat} {i:TInfo} (hu:P.underlying T=some (.slice e')) (hi:cx.ti e'=some i) {ad:Option Addr} {len cap:Nat} {lo hi':Option Int} (hcap:len<=cap)
  (h1:0<=lo.getD 0) (h2:lo.getD 0<=hi'.getD len) (h3:hi'.getD len<=len):
  (Instr.sliceAt T (.slice ad len cap) (lo.map (Value.int .i64)) (hi'.map (Value.int .i64)) none).run P w=.ok (zvm ad i.size (lo.getD 0).toNat (hi'.getD len).toNat cap) w:=by
 simp only [Instr.sliceAt,Instr.slice,Sem.run_bind,zcR hu,Result.andThen_ok,zQ7 true len cap lo hi' hcap h1 h2 h3,zvh hcx hi,Sem.run_pure,zvm]
theorem zZM {k l h n cap g:Nat} (hl:l<=h) (hh:h<=n) (hcap:n<=cap):zk1 k l (h - l) (.slice (some ⟨g,0,none⟩) n cap) (zvm (some ⟨g,0,none⟩) k l h cap):=by
 unfold zk1 zvm;by_cases hc:cap=l
 ·have:h - l=0:=by omega
  by_cases h0:l=0
  ·left; subst h0; simp [hc,zer]
  ·right; exact ⟨this,by omega,some ⟨g,0,none⟩,cap - l,by rw [this,if_pos hc],by simp⟩
 ·left; rw [if_neg hc]; rfl
theorem zZu {k l h n0 a0 cap n g:Nat} {v:Value} {c0:Nat} {ad:Option Addr} (hv:v=.slice ad n0 c0) (hs:zk1 k a0 n0 (.slice (some ⟨g,0,none⟩) n cap) v) (hl:l<=h) (hh:h<=n0) (hn:a0+n0<=n) (hcap:n<=cap):
  zk1 k (a0+l) (h - l) (.slice (some ⟨g,0,none⟩) n cap) (zvm ad k l h c0):=by
 unfold zk1 at hs ⊢;subst hv;rcases hs with he | ⟨h0,hpos,b,c,he,hbc⟩
 ·simp only [Value.slice.injEq,true_and] at he;obtain ⟨rfl,rfl⟩:=he;unfold zvm;by_cases hc:cap - a0=l
  ·have:h - l=0:=by omega
   by_cases h1:a0+l=0
   ·left
    have:a0=0:=by omega
    have:l=0:=by omega
    subst_vars
    simp [zer]
   ·right; exact ⟨this,by omega,some ((⟨g,0,none⟩:Addr).add (a0*k)),cap - a0 - l,by rw [this,if_pos hc],by simp⟩
  ·left
   rw [if_neg hc];simp only [Option.map_some,zer,Nat.add_mul,Nat.zero_add];congr 1;omega
 ·simp only [Value.slice.injEq] at he;obtain ⟨rfl,_,rfl⟩:=he
  right
  refine ⟨by omega,by omega,_,_,by unfold zvm; rw [show h - l=0 by omega],λhn=> ?_⟩
  have:ad=none:=by
   split at hn
   ·exact hn
   ·simpa using hn
  rw [hbc this]; omega
theorem zhm {a b:Bool} (h:(a&&b)=true):a=true/\b=true:=by simpa using h
theorem zvU {F:Nat->Prop} {v:Value} {T:Nat} {l:List (ty T)} (h:zcn cx F w v T l):(v=.slice none 0 0/\l=[])\/∃ g cap,v=.slice (some ⟨g,0,none⟩) l.length cap/\l.length<=cap:=by
 obtain ⟨xs,ho,_⟩:=h;rcases ho.2 with ⟨hv,h0⟩ | ⟨g,cap,cur,hv,_,_,h1,_⟩
 ·exact .inl ⟨hv,List.eq_nil_of_length_eq_zero h0⟩
 ·exact .inr ⟨g,cap,hv,h1⟩
theorem zWj {F:Nat->Prop} (hcx:CxOK P cx) {T:Nat} {l:List (ty T)} {ad:Option Addr} {cap lo hi:Nat} {i:TInfo} (hi':cx.ti T=some i) (hr:Rep cx F w (.slice ad l.length cap) (.sl T l))
  (h1:lo<=hi) (h2:hi<=l.length):Rep cx F w (zvm ad i.size lo hi cap) (.sl T ((l.drop lo).take (hi - lo))):=by
 have hk:zl cx T=i.size:=by simp [zl,hi']
 have hlen:((l.drop lo).take (hi - lo)).length=hi - lo:=by simp; omega
 by_cases h0:hi - lo=0
 ·have hz:ad=none->cap=0:=by
   intro had;generalize hv:Value.slice ad l.length cap=v at hr;cases hr with
   | slE a' c T' hn=>simp only [Value.slice.injEq] at hv; obtain ⟨rfl,_,rfl⟩:=hv; exact hn had
   | sl=>simp only [Value.slice.injEq] at hv; rw [had] at hv; simp at hv
  unfold zvm;rw [h0]
  simpa using Rep.slE (cx:=cx) (F:=F) (w:=w) _ (cap - lo) T (λhn=>by
   have:ad=none:=by
    split at hn
    ·exact hn
    ·simpa using hn
   rw [hz this]; omega)
 ·generalize hv:Value.slice ad l.length cap=v at hr;generalize hl:(AV.sl T l:AV ty)=av at hr;cases hr with
  | sl b off cap' T' l' us hF hcap hlen' hc hr=>
   simp only [AV.sl.injEq] at hl;obtain ⟨rfl,hl⟩:=hl;have hl:=eq_of_heq hl;subst hl;simp only [Value.slice.injEq,true_and] at hv;obtain ⟨rfl,rfl⟩:=hv;unfold zvm;rw [if_neg (by omega)]
   simp only [Option.map_some,zer]
   conv=>arg 4; rw [<- hlen]
   have e1:=zvF _ _ (hcx.len T) (l.drop lo) (hi - lo);have e2:=zqU _ _ (hcx.len T) l lo;have ha:All2 (Rep cx F w) us (zcc cx T l):=⟨hlen',hr⟩;have ha2:=(ha.drop (lo*zl cx T)).take ((hi - lo)*zl cx T);have ee:zcc cx T ((l.drop lo).take (hi - lo))=((zcc cx T l).drop (lo*zl cx T)).take ((hi - lo)*zl cx T):=by unfold zcc; rw [e1,e2]
   rw [<- hk];refine .sl b (off+lo*zl cx T) (cap - lo) T _ ((us.drop (lo*zl cx T)).take ((hi - lo)*zl cx T)) hF (by rw [hlen]; omega) (by rw [ee]; exact ha2.len) (λj u hu=> ?_) (λj u c hu hc'=> ?_)
   ·rw [List.getElem?_take] at hu;split at hu
    ·rw [List.getElem?_drop] at hu;have:=hc _ u hu
     rwa [Nat.add_assoc]
    ·cases hu
   ·rw [ee] at hc';exact ha2.at_ j u c hu hc'
  | slE ad' c T'=>
   simp only [AV.sl.injEq] at hl;obtain ⟨rfl,hl⟩:=hl;have hl:=eq_of_heq hl;subst hl;simp at h2;omega
  | _=>cases hl
theorem zYs {T:Nat} {x:Operand} {lo hi:Option Operand} (hcx:CxOK P cx) (ho:o.op=.slice T x lo hi none) (h:aop cx o st=some d) (hf:RF cx e st κ a w):o.wp P a w (λa' w'=>R cx e (st.app o.dst d) a' w') Q:=by
 unfold aop zdW at h;simp only [ho] at h;have hx:=zbY hf x;split at h
 ·rename_i l0 h0 hlo hhi;have elo:=zNa hf hlo;have ehi:=zNa hf hhi;generalize hev:a.eval x=ve at hx;unfold zoz at h;split at h
  ·-- a string
   rename_i s hex;rw [hex] at hx;have hve:=zbW hx;split at h
   ·rename_i sz bz z hT;obtain ⟨hb,h⟩:=zdR h;obtain ⟨h1,h2,h3⟩:=z0K hb;simp only [qe] at h1 h2 h3;simp only [qa] at h; subst h;have hu:=zsf hcx hT;have hbr:=zQ7 (P:=P) (w:=w) false s.size s.size l0 h0 (Nat.le_refl _) h1 h2 h3;refine zW (v:=.string (s.extract (l0.getD 0).toNat (h0.getD s.size).toNat)) (w':=w) ?_ (hf.val (.rep (.lit _)));simp only [execOp,ho,hev,hve,elo,ehi,Option.map_none,Instr.sliceAt,Instr.slice,Sem.run_bind,zcR hu,Result.andThen_ok,Option.isSome_none,Bool.false_eq_true,if_false,hbr,Sem.run_pure]
   ·cases h
  ·-- the nil slice
   rename_i hex;rw [hex] at hx;have hve:=zbW hx;split at h
   ·rename_i e' s b z hT;have hu:=zhn hcx hT;split at h
    ·cases h
    ·rename_i hse;obtain ⟨i,hi'⟩:=Option.isSome_iff_exists.1 hse;obtain ⟨hb,h⟩:=zdR h;obtain ⟨h1,h2⟩:=zhm hb;simp only [qe] at h1 h2;simp only [qa] at h; subst h;have:=zO9 (w:=w) hcx hu hi' (ad:=none) (len:=0) (cap:=0) (lo:=l0) (hi':=h0) (Nat.le_refl _) (by omega) (by show _<=h0.getD 0; omega) (by show h0.getD 0<=0; omega)
     have hcut:zvm none i.size (l0.getD 0).toNat (h0.getD ((0:Nat):Int)).toNat 0=.slice none 0 0:=by
      have e1:(h0.getD ((0:Nat):Int))=0:=h2;rw [h1,e1]; simp [zvm]
     rw [hcut] at this;refine zW (v:=.slice none 0 0) (w':=w) ?_ (hf.val (.rep (.lit _)));simp only [execOp,ho,hev,hve,elo,ehi,Option.map_none,Sem.run_bind,this,Result.andThen_ok,Sem.run_pure]
   ·cases h
  ·rename_i hns hns2;split at h
   ·rename_i e' s b z T' xs rd hT hl;have hu:=zhn hcx hT;split at h
    ·cases h
    ·rename_i heT;obtain ⟨heT,hse⟩:=zhm heT;have heT:e'=T':=Nat.eq_of_beq_eq_true heT;subst heT;obtain ⟨i,hi'⟩:=Option.isSome_iff_exists.1 hse;have hk:zl cx e'=i.size:=by simp [zl,hi']
     obtain ⟨hb,h⟩:=zdR h;obtain ⟨h1,h2,h3⟩:=z0K hb;simp only [qe] at h1 h2 h3;have n1:(l0.getD 0).toNat<=(h0.getD xs.length).toNat:=by omega
     have n2:(h0.getD xs.length).toNat<=xs.length:=by omega
     have run:∀ ad cap,ve=.slice ad xs.length cap->xs.length<=cap->(execOp a.eval o).run P w=.ok (.value (zvm ad i.size (l0.getD 0).toNat (h0.getD xs.length).toNat cap)) w:=by
      intro ad cap hve hcap;have:=zO9 (w:=w) hcx hu hi' (ad:=ad) hcap h1 h2 h3;simp only [execOp,ho,hev,hve,elo,ehi,Option.map_none,Sem.run_bind,this,Result.andThen_ok,Sem.run_pure]
     generalize hex:st.ev x=av at hx hl h;cases av with
     | sl T2 l2=>
      simp only [zc9,qa,qb,Sigma.mk.injEq] at hl;obtain ⟨⟨rfl,hl⟩,_⟩:=hl;have hl:=eq_of_heq hl;subst hl;simp only [qa] at h; subst h;cases hx with
      | rep hx=>
       obtain ⟨ad,cap,hve,hcap⟩:∃ ad cap,ve=.slice ad l2.length cap/\l2.length<=cap:=by
        cases hx with
        | slE ad c=>exact ⟨ad,c,rfl,Nat.zero_le _⟩
        | sl b off cap _ _ us hF hcap=>exact ⟨_,cap,rfl,hcap⟩
       subst hve;exact zW (run ad cap rfl hcap) (hf.val (.rep (zWj hcx hi' hx n1 n2)))
     | own id=>
      simp only [zc9] at hl;split at hl
      ·rename_i T2 l2 fz hbl;simp only [qa,qb,Sigma.mk.injEq] at hl;obtain ⟨⟨rfl,hl⟩,rfl⟩:=hl;have hl:=eq_of_heq hl;subst hl;simp only [qa] at h; subst h;cases hx with
       | rep hx=>cases hx
       | own _ k m hk'=>
        have hk2:=hk';simp only [hbl,Blk.kind,Kind.arr.injEq] at hk2;obtain ⟨rfl,rfl⟩:=hk2;rcases zvU (hf.rb.row hbl) with ⟨hv,rfl⟩ | ⟨g,cap,hv,hcap⟩
        ·refine zW (run none 0 hv (Nat.zero_le _)) (hf.val (.sub _ id _ _ _ _ hk' (by simp at n1 n2 ⊢; omega) ?_))
         rw [hv];have e1:(h0.getD (([]:List (ty T2)).length:Int)).toNat=0:=by simpa using n2
         have e2:(l0.getD 0).toNat=0:=by omega
         simp only [zvm,e1,e2,zk1];exact ⟨none,0,by simp,by simp,by simp,by simp⟩
        ·refine zW (run _ cap hv hcap) (hf.val (.sub _ id _ _ _ _ hk' (by omega) ?_))
         rw [hv,hk];exact zZM n1 n2 hcap
       | ownD _ _ hk'=>simp [hbl,Blk.kind] at hk'
      ·cases hl
     | sub id a0 n0=>
      simp only [zc9] at hl;split at hl
      ·rename_i T2 l2 fz hbl;simp only [qa,qb,Sigma.mk.injEq] at hl;obtain ⟨⟨rfl,hl⟩,rfl⟩:=hl;have hl:=eq_of_heq hl;subst hl;simp only [qa] at h; subst h;cases hx with
       | rep hx=>cases hx
       | sub _ _ _ _ k m hk' hlm hv'=>
        have hk2:=hk';simp only [hbl,Blk.kind,Kind.arr.injEq] at hk2;obtain ⟨rfl,rfl⟩:=hk2;have hlen:((l2.drop a0).take n0).length=n0:=by simp; omega
        rw [hlen] at run n1 n2 ⊢;have hv2:=hv';rcases zvU (hf.rb.row hbl) with ⟨hv,rfl⟩ | ⟨g,cap,hv,hcap⟩
        ·rw [hv] at hv2;unfold zk1 at hv2;obtain ⟨b',c',rfl,rfl,hnil,hbc⟩:=hv2;refine zW (run b' c' rfl (Nat.zero_le _)) (hf.val (.sub _ id _ _ _ _ hk' (by omega) ?_))
         rw [hv];unfold zk1;have e1:(h0.getD ((0:Nat):Int)).toNat=0:=by omega
         have e2:(l0.getD 0).toNat=0:=by omega
         simp only [zvm,e1,e2]
         exact ⟨_,_,rfl,by simp,λh=>by
          have:a0=0:=by omega
          have:=hnil this;simp only [Value.slice.injEq,true_and] at this;obtain ⟨rfl,rfl⟩:=this
          simp,λhn=>by
           have:b'=none:=by
            split at hn
            ·exact hn
            ·simpa using hn
           rw [hbc this]⟩
        ·rw [hv] at hv2
         obtain ⟨ad,c0,hve⟩:∃ ad c0,ve=.slice ad n0 c0:=by
          unfold zk1 at hv2;rcases hv2 with rfl | ⟨rfl,_,b',c',rfl,_⟩
          ·exact ⟨_,_,rfl⟩
          ·exact ⟨_,_,rfl⟩
         have hc0:n0<=c0:=by
          unfold zk1 at hv2;rcases hv2 with h' | ⟨rfl,_⟩
          ·rw [hve] at h'; simp only [Value.slice.injEq,true_and] at h'; omega
          ·exact Nat.zero_le _
         refine zW (run ad c0 hve hc0) (hf.val (.sub _ id _ _ _ _ hk' (by omega) ?_))
         rw [hv,hk];rw [hk] at hv2;exact zZu hve hv2 n1 n2 hlm hcap
       | subD _ _ _ _ hk'=>simp [hbl,Blk.kind] at hk'
      ·cases hl
     | _=>simp [zc9] at hl
   ·cases h
 ·cases h
end
end
end Go.Ab
/- The operations that yield a value and leave the blocks alone, against the machine's: the fourth part: indexes, lengths, min and max. -/
namespace Go.Ab
noncomputable section
variable {ty:Nat->Type}
section
variable {P:Program} {cx:Cx ty} {e:Env} {st:St ty} {κ:Nat->Value} {a:Act} {w:World} {o:Oper} {d:Delta ty} {Q:Exit->Act->World->Prop}
theorem zVA (hcx:CxOK P cx) {T e':Nat} {i:TInfo} (hu:P.underlying T=some (.slice e')) (hi:cx.ti e'=some i) {ad:Addr} {len cap:Nat} {n:Int} (h1:0<=n) (h2:n<len):
  (Instr.indexAt T (.slice (some ad) len cap) (.int .i64 n)).run P w=.ok (.pointer (some (ad.add (n.toNat *i.size)))) w:=by
 simp [Instr.indexAt,asIntOf,zcR hu,h1,h2,zvh hcx hi]
theorem zY3 (hcx:CxOK P cx) {F:Nat->Prop} {T:Nat} {l:List (ty T)} {b off:Nat} {us:List Value} (hF:F b) (hlen:us.length=(zcc cx T l).length)
  (hc:∀ (j:Nat) u,us[j]? =some u->w.cell? ⟨b,off+j,none⟩=some u) (hr:All2 (Rep cx F w) us (zcc cx T l)) {n:Nat} (hn:n<l.length) (dd:ty T):
  Rep cx F w (.pointer (some ⟨b,off+n*zl cx T,none⟩)) (.fptr T (l.getD n dd) 0):=by
 have e2:=zqU _ _ (hcx.len T) l n;have hd:l.drop n=l[n]::l.drop (n+1):=List.drop_eq_getElem_cons hn
 have e:((zcc cx T l).drop (n*zl cx T)).take (zl cx T)=cx.enc T (l.getD n dd):=by
  unfold zcc;rw [<- e2,hd,List.flatMap_cons,List.take_append,hcx.len,Nat.sub_self,List.take_zero,List.append_nil,List.take_of_length_le (by rw [hcx.len]; exact Nat.le_refl _)]
  congr 1;simp [List.getD,hn]
 have hx:=(hr.drop (n*zl cx T)).take (zl cx T);rw [e] at hx
 have:=Rep.fptr (cx:=cx) (F:=F) (w:=w) b (off+n*zl cx T) 0 T (l.getD n dd) ((us.drop (n*zl cx T)).take (zl cx T)) hF hx.len (λj u hu=>by
  rw [List.getElem?_take] at hu;split at hu
  ·rw [List.getElem?_drop] at hu;have:=hc _ u hu
   rwa [Nat.add_assoc]
  ·cases hu) hx.at_
 simpa using this
theorem zUP {T:Nat} {x ix:Operand} (hcx:CxOK P cx) (ho:o.op=.indexAddr T x ix) (h:aop cx o st=some d) (hf:RF cx e st κ a w):o.wp P a w (λa' w'=>R cx e (st.app o.dst d) a' w') Q:=by
 unfold aop zdW at h;simp only [ho] at h;have hx:=zbY hf x;generalize hev:a.eval x=ve at hx;split at h
 ·rename_i e' s b z n hT hn;have hu:=zhn hcx hT;have hix:=zwY (zbY hf ix) hn
  have run:∀ (i:TInfo) ad len cap,cx.ti e'=some i->ve=.slice (some ad) len cap->0<=n->n<(len:Int)->(execOp a.eval o).run P w=.ok (.value (.pointer (some (ad.add (n.toNat *i.size))))) w:=by
   intro i ad len cap hi hve h1 h2;have:=zVA (w:=w) hcx hu hi (ad:=ad) (cap:=cap) h1 h2;simp only [execOp,ho,hev,hve,hix,Sem.run_bind,this,Result.andThen_ok,Sem.run_pure]
  split at h
  ·rename_i T' l hex;rw [hex] at hx;split at h
   ·rename_i heT;obtain ⟨heT,hse⟩:=zhm heT;have heT:e'=T':=Nat.eq_of_beq_eq_true heT;subst heT;obtain ⟨i,hi⟩:=Option.isSome_iff_exists.1 hse;have hk:zl cx e'=i.size:=by simp [zl,hi]
    obtain ⟨hb,h⟩:=zdR h;obtain ⟨h1,h2⟩:=zhm hb;simp only [qe] at h1 h2;simp only [qa] at h; subst h;cases hx with
    | rep hx=>
     cases hx with
     | slE ad c=>simp at h2; omega
     | sl b off cap _ _ us hF hcap hlen hc hr=>
      refine zW (run i _ _ _ hi rfl h1 h2) (hf.val (.rep ?_));rw [zer, <- hk];exact zY3 hcx hF hlen hc ⟨hlen,hr⟩ (by omega) _
   ·cases h
  ·rename_i id hex;rw [hex] at hx;split at h
   ·rename_i T' l fz hbl;split at h
    ·rename_i heT;obtain ⟨heT,hse⟩:=zhm heT;have heT:e'=T':=Nat.eq_of_beq_eq_true heT;subst heT;obtain ⟨i,hi⟩:=Option.isSome_iff_exists.1 hse;have hk:zl cx e'=i.size:=by simp [zl,hi]
     obtain ⟨hb,h⟩:=zdR h;obtain ⟨h1,h2⟩:=zhm hb;simp only [qe] at h1 h2;simp only [qa] at h; subst h;cases hx with
     | rep hx=>cases hx
     | own _ k m hk'=>
      have hk2:=hk';simp only [hbl,Blk.kind,Kind.arr.injEq] at hk2;obtain ⟨rfl,rfl⟩:=hk2;rcases zvU (hf.rb.row hbl) with ⟨hv,rfl⟩ | ⟨g,cap,hv,hcap⟩
      ·simp at h2; omega
      ·refine zW (run i _ _ _ hi hv h1 h2) (hf.val ?_);rw [zer, <- hk,Nat.zero_add];exact .eptr id n.toNat 0 g _ _ _ cap hk' (by omega) hv
     | ownD _ _ hk'=>simp [hbl,Blk.kind] at hk'
    ·cases h
   ·cases h
  ·rename_i id lo m' hex;rw [hex] at hx;split at h
   ·rename_i T' l fz hbl;split at h
    ·rename_i heT;obtain ⟨heT,hse⟩:=zhm heT;have heT:e'=T':=Nat.eq_of_beq_eq_true heT;subst heT;obtain ⟨i,hi⟩:=Option.isSome_iff_exists.1 hse;have hk:zl cx e'=i.size:=by simp [zl,hi]
     obtain ⟨hb,h⟩:=zdR h;obtain ⟨h1,h2⟩:=zhm hb;simp only [qe] at h1 h2;simp only [qa] at h; subst h;cases hx with
     | rep hx=>cases hx
     | sub _ _ _ _ k m hk' hlm hv'=>
      have hk2:=hk';simp only [hbl,Blk.kind,Kind.arr.injEq] at hk2;obtain ⟨rfl,rfl⟩:=hk2;rcases zvU (hf.rb.row hbl) with ⟨hv,rfl⟩ | ⟨g,cap,hv,hcap⟩
      ·simp at hlm; omega
      ·rw [hv] at hv';unfold zk1 at hv';rcases hv' with hve | ⟨h0,_⟩
       ·refine zW (run i _ _ _ hi hve h1 h2) (hf.val ?_);rw [zer,zer, <- hk,Nat.zero_add, <- Nat.add_mul];exact .eptr id (lo+n.toNat) 0 g _ _ _ cap hk' (by omega) hv
       ·omega
     | subD _ _ _ _ hk'=>simp [hbl,Blk.kind] at hk'
    ·cases h
   ·cases h
  ·cases h
 ·cases h
theorem zYA {T:Nat} {x ix:Operand} (hcx:CxOK P cx) (ho:o.op=.index T x ix) (h:aop cx o st=some d) (hf:RF cx e st κ a w):o.wp P a w (λa' w'=>R cx e (st.app o.dst d) a' w') Q:=by
 unfold aop zdW at h;simp only [ho] at h;have hx:=zbY hf x;split at h
 ·rename_i s b z str n hT hex hn;have hu:=zsf hcx hT;have hix:=zwY (zbY hf ix) hn;rw [hex] at hx;have hve:=zbW hx;obtain ⟨hb,h⟩:=zdR h;obtain ⟨h1,h2⟩:=zhm hb;simp only [qe] at h1 h2;simp only [qa] at h; subst h;have hlt:n.toNat<str.size:=by omega
  refine zW (v:=.int .u8 (zTW str n)) (w':=w) ?_ (hf.val (.rep (.lit _)))
  have hget:str[n.toNat]? =some (str[n.toNat]'hlt):=by
   exact getElem?_pos str n.toNat hlt
  simp only [execOp,ho,hve,hix,Instr.index,asIntOf,Sem.run_bind,Sem.run_pure,Result.andThen_ok,zcR hu,h1,if_true,hget,zTW,dif_pos hlt]
 ·cases h
theorem zAF {f:Int->Int->Int} {g:Value->Value->Sem Value} (hg:∀ k x y,(g (.int k x) (.int k y)).run P w=.ok (.int k (f x y)) w) (hg':∀ k k' x y,(g (.int k x) (.int k' y)).run P w=.ok (.int k (f x y)) w):
  ∀ (us:List Value) (cs:List (AV ty)) (k:IntKind) (x:Int) (v:AV ty),All2 (zeE cx e st κ w) us cs->zvA f k x cs=some v->
   ∃ u,(us.foldlM g (.int k x)).run P w=.ok u w/\v=.lit u
 | us,[],k,x,v,h,hv=>by
  rw [h.nil_left.1];simp only [zvA,qa] at hv; subst hv;exact ⟨_,rfl,rfl⟩
 | us,c::cs,k,x,v,h,hv=>by
  obtain ⟨u,us',rfl,hu,h'⟩:=h.inv;cases c with
  | lit y=>
   cases y with
   | int k' y=>
    simp only [zvA] at hv;obtain ⟨r,hr,rfl⟩:=zAF hg hg' us' cs k (f x y) v h' hv;refine ⟨r, ?_,rfl⟩;rw [zbW hu,List.foldlM_cons,Sem.run_bind,hg',Result.andThen_ok,hr]
   | _=>simp [zvA] at hv
  | _=>simp [zvA] at hv
theorem zrd (hf:RF cx e st κ a w) (args:List Operand):All2 (zeE cx e st κ w) (args.map a.eval) (args.map st.ev):=by
 refine ⟨by simp,λj u c hu hc=> ?_⟩
 rw [List.getElem?_map] at hu hc;cases hx:args[j]? with
 | none=>rw [hx] at hu; cases hu
 | some x=>
  rw [hx] at hu hc;simp only [Option.map_some,qa] at hu hc;subst hu; subst hc;exact zbY hf x
theorem zqj {b:Builtin} {args:Array Operand} {ts:Array TypeId} (ho:o.op=.call { callee:=.builtin b,args:=args,argTypes:=ts }):
  execOp a.eval o=builtin b ts o.type (args.map λ| .const _=>true | _=>false) (args.map a.eval):=by
 simp only [execOp,ho,resolve,invoke]; rfl
theorem z0u {args:Array Operand} {ts:Array TypeId} (hcx:CxOK P cx) (ho:o.op=.call { callee:=.builtin .len,args:=args,argTypes:=ts }) (h:aop cx o st=some d) (hf:RF cx e st κ a w):o.wp P a w (λa' w'=>R cx e (st.app o.dst d) a' w') Q:=by
 unfold aop zdW at h;simp only [ho] at h;have hall:=zrd hf args.toList;have hex:=zqj (a:=a) ho;unfold zgj at h;generalize hts:ts.toList=tl at h;generalize hvs:args.toList.map st.ev=vl at h hall
 match tl,vl,h,hall with
 | T::tr,[v],h,hall=>
  obtain ⟨u,us',hus,hu,h'⟩:=hall.inv;have hus':us'=[]:=h'.nil_left.1;subst hus';have hT0:ts[0]? =some T:=by rw [<- Array.getElem?_toList,hts]; rfl
  have hu0:(args.map a.eval)[0]? =some u:=by
   rw [<- Array.getElem?_toList,Array.toList_map,hus]; rfl
  have run:∀ v':Value,(Builtin.len_ ts o.type (args.map a.eval)).run P w=.ok v' w->(execOp a.eval o).run P w=.ok (.value v') w:=by
   intro v' hv';rw [hex];simp only [builtin,Sem.run_bind,hv',Result.andThen_ok,Sem.run_pure]
  simp only at h;split at h
  ·rename_i s b z hT;split at h
   ·rename_i str;simp only [qa] at h; subst h;have hve:=zbW hu;refine zW (run _ ?_) (hf.val (.rep (.lit _)));simp only [Builtin.len_,hT0,hu0,hve,Sem.run_bind,zcR (zsf hcx hT),Result.andThen_ok,goInt,Sem.run_pure]
   ·cases h
  rotate_left
  ·rename_i kt vt s b z hT;split at h
   ·rename_i id;split at h
    ·rename_i K V l fz hbl;simp only [qa] at h; subst h;have hbk:=hf.rb.blk id;rw [hbl] at hbk;obtain ⟨bl,es,clock,hκ,hg,hent,_⟩:=hbk
     have hve:u=.map (some bl):=by
      cases hu with
      | rep hr=>cases hr
      | mp _ h=>exact hκ
      | mpD _ _ h=>simp [hbl,Blk.kind] at h
     refine zW (run _ ?_) (hf.val (.rep (.lit _)));have hlen:es.size=l.length:=by simpa using hent.len
     simp only [Builtin.len_,hT0,hu0,hve,Sem.run_bind,zcR (zHM hcx hT),Result.andThen_ok,Go.MapKept.run_getObj_map hg,goInt,hlen,Sem.run_pure]
    ·cases h
   ·cases h
  ·cases h
  ·rename_i e' s b z hT;have hu':=zhn hcx hT
   have fin:∀ (ad:Option Addr) (n cap:Nat),u=.slice ad n cap->(Builtin.len_ ts o.type (args.map a.eval)).run P w=.ok (.int .i64 n) w:=by
    rintro ad n cap rfl
    simp only [Builtin.len_,hT0,hu0,Sem.run_bind,zcR hu',Result.andThen_ok,goInt,Sem.run_pure]
   split at h
   ·simp only [qa] at h; subst h;have hve:=zbW hu;exact zW (run _ (fin _ 0 0 hve)) (hf.val (.rep (.lit _)))
   ·rename_i id lo n;split at h
    ·rename_i T' l fz hbl;simp only [qa] at h; subst h;have hl:zc9 st (.sub id lo n:AV ty)=some (⟨T',(l.drop lo).take n⟩,[id]):=by simp [zc9,hbl]
     obtain ⟨ad,cap,hve,_⟩:=zLG hf.rb hu hl;cases hu with
     | rep hu=>cases hu
     | sub _ _ _ _ k m hk' hlm hv'=>
      have hk2:=hk';simp only [hbl,Blk.kind,Kind.arr.injEq] at hk2;obtain ⟨rfl,rfl⟩:=hk2;have hlen:((l.drop lo).take n).length=n:=by simp; omega
      simp only [hlen] at hve;exact zW (run _ (fin _ n _ hve)) (hf.val (.rep (.lit _)))
     | subD _ _ _ _ hk'=>simp [hbl,Blk.kind] at hk'
    ·cases h
   ·split at h
    ·rename_i T' l rd hl;simp only [qa] at h; subst h;obtain ⟨ad,cap,hve,_⟩:=zLG hf.rb hu hl;exact zW (run _ (fin _ _ _ hve)) (hf.val (.rep (.lit _)))
    ·cases h
theorem z0Q {args:Array Operand} {ts:Array TypeId} (hcx:CxOK P cx) (ho:o.op=.call { callee:=.builtin .cap,args:=args,argTypes:=ts }) (h:aop cx o st=some d) (hf:RF cx e st κ a w):o.wp P a w (λa' w'=>R cx e (st.app o.dst d) a' w') Q:=by
 unfold aop zdW at h;simp only [ho] at h;have hall:=zrd hf args.toList;have hex:=zqj (a:=a) ho;unfold zgj at h;generalize hts:ts.toList=tl at h;generalize hvs:args.toList.map st.ev=vl at h hall
 match tl,vl,h,hall with
 | T::tr,[.lit (.slice none 0 0)],h,hall=>
  obtain ⟨u,us',hus,hu,h'⟩:=hall.inv;have hus':us'=[]:=h'.nil_left.1;subst hus';have hT0:ts[0]? =some T:=by rw [<- Array.getElem?_toList,hts]; rfl
  have hu0:(args.map a.eval)[0]? =some u:=by
   rw [<- Array.getElem?_toList,Array.toList_map,hus]; rfl
  simp only at h;split at h
  ·rename_i e' s b z hT;have hu':=zhn hcx hT;simp only [qa] at h; subst h;have hve:=zbW hu;refine zW (v:=.int .i64 0) (w':=w) ?_ (hf.val (.rep (.lit _)));rw [hex];simp only [builtin,Builtin.cap_,hT0,hu0,hve,Sem.run_bind,zcR hu',Result.andThen_ok,goInt,Sem.run_pure];rfl
  ·cases h
theorem zS1 {b:Builtin} {args:Array Operand} {ts:Array TypeId} (hb:b=.min\/b=.max) (ho:o.op=.call { callee:=.builtin b,args:=args,argTypes:=ts }) (h:aop cx o st=some d) (hf:RF cx e st κ a w):o.wp P a w (λa' w'=>R cx e (st.app o.dst d) a' w') Q:=by
 unfold aop zdW at h;simp only [ho] at h;have hall:=zrd hf args.toList;have hex:=zqj (a:=a) ho;unfold zgj at h;generalize hvs:args.toList.map st.ev=vl at h hall;rcases hb with rfl | rfl
 ·match vl,h,hall with
  | .lit (.int k x)::r,h,hall=>
   obtain ⟨u,us',hus,hu,h'⟩:=hall.inv;simp only at h;split at h
   ·rename_i v hv;simp only [qa] at h; subst h;obtain ⟨r',hr,rfl⟩:=zAF (P:=P) (g:=Builtin.min2) (λ_ _ _=>by simp [Builtin.min2]) (λ_ _ _ _=>by simp [Builtin.min2]) us' r k x v h' hv
    refine zW (v:=r') (w':=w) ?_ (hf.val (.rep (.lit _)));have hl:(args.map a.eval).toList=.int k x::us':=by rw [Array.toList_map,hus,zbW hu]
    rw [hex];simp only [builtin,Builtin.min_,hl,Sem.run_bind,hr,Result.andThen_ok,Sem.run_pure]
   ·cases h
 ·match vl,h,hall with
  | .lit (.int k x)::r,h,hall=>
   obtain ⟨u,us',hus,hu,h'⟩:=hall.inv;simp only at h;split at h
   ·rename_i v hv;simp only [qa] at h; subst h;obtain ⟨r',hr,rfl⟩:=zAF (P:=P) (g:=Builtin.max2) (λ_ _ _=>by simp [Builtin.max2]) (λ_ _ _ _=>by simp [Builtin.max2]) us' r k x v h' hv
    refine zW (v:=r') (w':=w) ?_ (hf.val (.rep (.lit _)));have hl:(args.map a.eval).toList=.int k x::us':=by rw [Array.toList_map,hus,zbW hu]
    rw [hex];simp only [builtin,Builtin.max_,hl,Sem.run_bind,hr,Result.andThen_ok,Sem.run_pure]
   ·cases h
end
end
end Go.Ab
/- The operations that make or write memory of the call's own, against the machine's. -/
namespace Go.Ab
noncomputable section
variable {ty:Nat->Type}
section
variable {P:Program} {cx:Cx ty} {e:Env} {st:St ty} {κ:Nat->Value} {a:Act} {w:World} {o:Oper} {d:Delta ty} {Q:Exit->Act->World->Prop}
theorem zbr (b:List (Blk ty)) (i j:Nat) (x:Blk ty):(gD .none (b.set i x) j)=if i=j/\i<b.length then x else (gD .none b j):=by
 simp only [zfF,List.getD_eq_getElem?_getD,List.getElem?_set];by_cases h:i=j
 ·subst h;by_cases h':i<b.length <;>simp [h']
 ·simp [h]
theorem Blk.freeze_unfz {b:Blk ty}:¬ b.freeze.unfz:=by cases b <;>simp [Blk.freeze,Blk.unfz]
theorem Blk.freeze_id {b:Blk ty} (h:¬ b.unfz):b.freeze=b:=by cases b <;>simp_all [Blk.freeze,Blk.unfz]
theorem Blk.freeze_kind {b:Blk ty}:b.freeze.kind cx=b.kind cx:=by cases b <;>rfl
theorem Blk.freeze_freeze {b:Blk ty}:b.freeze.freeze=b.freeze:=by cases b <;>rfl
theorem zkv:∀ (ids:List Nat) (b:List (Blk ty)) (j:Nat),(gD .none (zbA b ids) j)=if j∈ids then ((gD .none b j)).freeze else (gD .none b j)
 | [],b,j=>by simp [zbA]
 | i::r,b,j=>by
  simp only [zbA,zkv r,zbr];by_cases h:i=j
  ·subst h;by_cases hl:i<b.length
   ·simp [hl,Blk.freeze_freeze]
   ·have:(gD .none b i)=.none:=by simp [zfF,List.getD_eq_getElem?_getD,List.getElem?_eq_none (Nat.le_of_not_lt hl)]
    simp [hl,this,Blk.freeze]
  ·simp [h,Ne.symm h]
theorem zgh:∀ (ids:List Nat) (b:List (Blk ty)),(zbA b ids).length=b.length
 | [],b=>rfl
 | i::r,b=>by simp [zbA,zgh r]
theorem zje {i:Nat} (h:zdG st i=true):st.blk i=.none/\i<st.blks.length:=by
 rw [zBW] at h;split at h
 ·rename_i hb;exact ⟨by simp [St.blk,zfF,List.getD_eq_getElem?_getD,hb],(List.getElem?_eq_some_iff.1 hb).1⟩
 ·cases h
theorem zZ8 {i:Nat} (h:(st.blk i).kind cx≠.none):i<st.blks.length:=by
 rcases Nat.lt_or_ge i st.blks.length with h' | h'
 ·exact h'
 ·exact absurd (by simp [St.blk,zfF,List.getD_eq_getElem?_getD,List.getElem?_eq_none h',Blk.kind]) h
theorem Compat.trans {B' B'':Nat->Blk ty} {κ' κ'':Nat->Value} {w' w'':World} {B0:Nat->Blk ty} (h:Compat cx e B0 κ w B' κ' w') (h':Compat cx e B' κ' w' B'' κ'' w''):Compat cx e B0 κ w B'' κ'' w'':=by
 refine ⟨λb hb=> ?_,λid hid=> ?_⟩
 ·obtain ⟨h1,h2⟩:=h.fz b hb;obtain ⟨h3,h4⟩:=h'.fz b h1;exact ⟨h3,h4.trans h2⟩
 ·rcases h.kd id hid with ⟨h1,h2⟩ | h1
  ·rcases h'.kd id (by rw [h1]; exact hid) with ⟨h3,h4⟩ | h3
   ·exact .inl ⟨h3.trans h1,h4.trans h2⟩
   ·exact .inr h3
  ·rcases h'.kd id (by rw [h1]; simp) with ⟨h3,_⟩ | h3
   ·exact .inr (h3.trans h1)
   ·exact .inr h3
theorem zom (h:RB cx e st.blk κ w) (ids:List Nat):
  RB cx e (λj=>(gD .none (zbA st.blks ids) j)) κ w/\Compat cx e st.blk κ w (λj=>(gD .none (zbA st.blks ids) j)) κ w:=by
 refine h.step (λi=>i∈ids/\(st.blk i).unfz) rfl rfl rfl (Nat.le_refl _) (λb _=>.inl rfl) (λid hid=>⟨?_,rfl⟩) (λid hid _=>.inl ⟨?_,rfl⟩) (λid b hid hl hb=> ?_) (λi j b _ hj _ hu _ _=> ?_) (λid hid hc=> ?_)
 ·simp only [zkv];split
  ·rename_i hm;exact Blk.freeze_id λhu=>hid ⟨hm,hu⟩
  ·rfl
 ·simp only [zkv,if_pos hid.1]; exact Blk.freeze_kind
 ·exact ⟨(h.old id b hid.2.live hb).2,.inl ⟨id,hid,hid.2,hb⟩⟩
 ·simp only [zkv,if_pos hj.1] at hu; exact absurd hu Blk.freeze_unfz
 ·change zFe _ _ _ _ _ _ ((gD .none (zbA st.blks ids) id))
  have hk:=(h.blk id).keep (F':=Fz e (λj=>(gD .none (zbA st.blks ids) j)) κ w) (w':=w) (kd':=λi=>((gD .none (zbA st.blks ids) i)).kind cx) (κ':=κ) (λ_ _ _=>rfl) (λv a=>hc.rep) (λv a=>hc.rep')
  rw [show (gD .none (zbA st.blks ids) id)=(st.blk id).freeze by rw [zkv,if_pos hid.1]; rfl]
  cases hb:st.blk id with
  | box cs fz=>rw [hb] at hk; exact hk
  | arr T l fz=>rw [hb] at hk; exact hk
  | mp K V l fz=>rw [hb] at hk; exact hk
  | none=>trivial
  | dead=>trivial
theorem zrz {B:List (Blk ty)} {κ:Nat->Value} {w w':World} {n:Nat} {nb:Blk ty} {v:Value} (h:RB cx e (λj=>(gD .none B j)) κ w) (hn:(gD .none B n)=.none) (hlt:n<B.length)
  (hos:w'.os=w.os) (htape:w'.tape=w.tape) (hout:w'.output=w.output) (hsize:w.heap.size<=w'.heap.size) (hheap:∀ b,b<w.heap.size->w'.heap[b]? =w.heap[b]?)
  (hv:∀ b,zS v=some b->w.heap.size<=b/\b<w'.heap.size)
  (hblk:Compat cx e (λj=>(gD .none B j)) κ w (λj=>(gD .none (B.set n nb) j)) (λi=>if i=n then v else κ i) w'->zFe cx (Fz e (λj=>(gD .none (B.set n nb) j)) (λi=>if i=n then v else κ i) w') w' (λi=>((gD .none (B.set n nb) i)).kind cx) (λi=>if i=n then v else κ i) v nb)
  (hdr:cx.dr=true->w.drawn<=w'.drawn:=by first | exact λ_=>Nat.le_refl _ | assumption | exact λ_=>by assumption):
  RB cx e (λj=>(gD .none (B.set n nb) j)) (λi=>if i=n then v else κ i) w'/\Compat cx e (λj=>(gD .none B j)) κ w (λj=>(gD .none (B.set n nb) j)) (λi=>if i=n then v else κ i) w':=by
 refine h.step (λi=>i=n) hos htape hout hsize (λb hb=>.inl (hheap b hb)) (λid hid=>⟨?_,by simp [hid]⟩) (λid hid hk=> ?_) (λid b hid hl hb=> ?_) (λi j b hi hj _ _ _ _=>hi.trans hj.symm) (λid hid hc=> ?_) hdr
 ·simp only [zbr]; rw [if_neg (λhh=>hid hh.1.symm)]
 ·subst hid; exact absurd (by simp only [hn,Blk.kind]) hk
 ·subst hid;simp only [if_true] at hb;exact ⟨(hv b hb).2,.inr (hv b hb).1⟩
 ·subst hid;simp only [if_true];have:=hblk hc;rw [zbr,if_pos ⟨rfl,hlt⟩];exact this
theorem zx8 {B:List (Blk ty)} {κ:Nat->Value} {w w':World} {n:Nat} {nb:Blk ty} (h:RB cx e (λj=>(gD .none B j)) κ w) (hu:((gD .none B n)).unfz) (hk:nb.kind cx=((gD .none B n)).kind cx)
  (hos:w'.os=w.os) (htape:w'.tape=w.tape) (hout:w'.output=w.output) (hsize:w.heap.size=w'.heap.size) (hheap:∀ b,b<w.heap.size->w'.heap[b]? =w.heap[b]? \/zS (κ n)=some b)
  (hblk:Compat cx e (λj=>(gD .none B j)) κ w (λj=>(gD .none (B.set n nb) j)) κ w'->zFe cx (Fz e (λj=>(gD .none (B.set n nb) j)) κ w') w' (λi=>((gD .none (B.set n nb) i)).kind cx) κ (κ n) nb)
  (hdr:cx.dr=true->w.drawn<=w'.drawn:=by first | exact λ_=>Nat.le_refl _ | assumption | exact λ_=>by assumption):
  RB cx e (λj=>(gD .none (B.set n nb) j)) κ w'/\Compat cx e (λj=>(gD .none B j)) κ w (λj=>(gD .none (B.set n nb) j)) κ w':=by
 have hlt:n<B.length:=by
  rcases Nat.lt_or_ge n B.length with h' | h'
  ·exact h'
  ·rw [show (gD .none B n)=.none by simp [zfF,List.getD_eq_getElem?_getD,List.getElem?_eq_none h']] at hu
   exact hu.elim
 refine h.step (λi=>i=n) hos htape hout (by omega) (λb hb=> ?_) (λid hid=>⟨?_,rfl⟩) (λid hid _=>.inl ⟨?_,rfl⟩) (λid b hid hl hb=> ?_) (λi j b hi hj _ _ _ _=>hi.trans hj.symm) (λid hid hc=> ?_) hdr
 ·rcases hheap b hb with h' | h'
  ·exact .inl h'
  ·exact .inr ⟨n,rfl,hu,h'⟩
 ·simp only [zbr]; rw [if_neg (λhh=>hid hh.1.symm)]
 ·subst hid; rw [zbr,if_pos ⟨rfl,hlt⟩]; exact hk
 ·subst hid;exact ⟨by rw [<- hsize]; exact (h.old id b hu.live hb).2,.inl ⟨id,rfl,hu,hb⟩⟩
 ·subst hid;rw [zbr,if_pos ⟨rfl,hlt⟩];exact hblk hc
theorem zv1 (dst:Option Tmp) (d:Delta ty):(st.app dst d).blk=λj=>(gD .none (zbE (zbA st.blks d.fz) d.wr) j):=by funext j; unfold St.blk; rw [St.app_blks]
theorem zcP {dst:Option Tmp} {v:AV ty} {n:Nat} {nb:Blk ty} {fz rd:List Nat}:(st.app dst { val:=v,wr:=[(n,nb)],fz:=fz,rd:=rd }).blk=λj=>(gD .none ((zbA st.blks fz).set n nb) j):=by funext j; unfold St.blk; rw [St.app_blks]; rfl
theorem wp_skip {Q:Exit->Act->World->Prop} {next:Act->World->Prop} {w':World} (h:(execOp a.eval o).run P w=.ok .skip w') (hn:next (a.put o.dst undef) w'):o.wp P a w next Q:=by
 unfold Oper.wp; rw [h]; exact hn
theorem zYy {T:Nat} (hcx:CxOK P cx) (ho:o.op=.alloc T) (h:aop cx o st=some d) (hf:RF cx e st κ a w):o.wp P a w (λa' w'=>R cx e (st.app o.dst d) a' w') Q:=by
 unfold aop zdW at h;simp only [ho] at h;split at h
 ·rename_i i dd hT hdst;obtain ⟨hfree,h⟩:=zdR h;simp only [qa] at h; subst h;obtain ⟨hn,hlt⟩:=zje hfree;obtain ⟨info,desc,z,hi,hu,hs,hb,hz,hzc,hzl,hz1,hd⟩:=(hcx.ti T _ hT).ok
  have hst:=zrz (w':=w.alloc (.cells z.cells T)) (nb:=.box (i.zero.map .lit) false) (v:=.pointer (some ⟨w.heap.size,0,none⟩)) hf.rb hn hlt rfl rfl rfl (by simp) (λb hb=>heap_alloc_old w _ b hb)
   (λb hb=>by simp [zS] at hb; subst hb; simp)
   (λhc=>⟨w.heap.size,z.cells,T,rfl,heap_alloc_new w _,by rw [hzc]; exact (zDk i.zero).imp λ_ _ h=>.rep h⟩)
  refine zW (v:=.pointer (some ⟨w.heap.size,0,none⟩)) (w':=w.alloc (.cells z.cells T)) ?_ ⟨_,hf.put (κ':=λi=>if i=zK dd then .pointer (some ⟨w.heap.size,0,none⟩) else κ i) ?_ ?_ (λ_=> ?_)⟩
  ·simp [execOp,ho,Instr.alloc,zDB hi hz,newVar,newRow]
  ·rw [zcP]; exact hst.1
  ·rw [zcP]; exact hst.2
  ·rw [zcP];refine .ptr _ 0 w.heap.size ?_ (by simp)
   change Blk.kind cx ((gD .none (st.blks.set (zK dd) _) (zK dd)))=_
   rw [zbr,if_pos ⟨rfl,hlt⟩]; rfl
 ·cases h
theorem z0i {T:Nat} {x:Operand} (hcx:CxOK P cx) (ho:o.op=.box T x) (h:aop cx o st=some d) (hf:RF cx e st κ a w):o.wp P a w (λa' w'=>R cx e (st.app o.dst d) a' w') Q:=by
 unfold aop zdW at h;simp only [ho] at h;split at h
 ·rename_i i dd cs hT hdst hcs;obtain ⟨hfree,h⟩:=zdR h;simp only [qa] at h; subst h;obtain ⟨hn,hlt⟩:=zje hfree;obtain ⟨ha,h1⟩:=zyZ hf.rb (zbY hf x) hcs
  have hst:=zrz (w':=w.alloc (.cells (a.eval x).cells T)) (nb:=.box cs false) (v:=.pointer (some ⟨w.heap.size,0,none⟩)) hf.rb hn hlt rfl rfl rfl (by simp) (λb hb=>heap_alloc_old w _ b hb)
   (λb hb=>by simp [zS] at hb; subst hb; simp)
   (λhc=>⟨w.heap.size,_,T,rfl,heap_alloc_new w _,ha.imp λ_ _ h=>hc.rep h⟩)
  refine zW (v:=.pointer (some ⟨w.heap.size,0,none⟩)) (w':=w.alloc (.cells (a.eval x).cells T)) ?_ ⟨_,hf.put (κ':=λi=>if i=zK dd then .pointer (some ⟨w.heap.size,0,none⟩) else κ i) ?_ ?_ (λ_=> ?_)⟩
  ·simp [execOp,ho,Instr.box,newVar,newRow]
  ·rw [zcP]; exact hst.1
  ·rw [zcP]; exact hst.2
  ·rw [zcP];refine .ptr _ 0 w.heap.size ?_ (by simp)
   change Blk.kind cx ((gD .none (st.blks.set (zK dd) _) (zK dd)))=_
   rw [zbr,if_pos ⟨rfl,hlt⟩]; rfl
 ·cases h
theorem zwB {f:AV ty->Option (AV ty×List Nat)} (hf:∀ av a' ids,f av=some (a',ids)->∀ id∈ids,(st.blk id).live):∀ (cs cs':List (AV ty)) (ids:List Nat),zes f cs=some (cs',ids)->∀ id∈ids,(st.blk id).live
 | [],cs',ids,h=>by
  simp only [zes,qa,qb] at h;obtain ⟨_,rfl⟩:=h;simp
 | c::cs,cs',ids,h=>by
  simp only [zes] at h;split at h
  ·cases h
  ·rename_i c' i hc;split at h
   ·cases h
   ·rename_i cs'' is hcs;simp only [qa,qb] at h;obtain ⟨_,rfl⟩:=h;intro id hid;rcases List.mem_append.1 hid with h1 | h1
    ·exact hf _ _ _ hc id h1
    ·exact zwB hf cs cs'' is hcs id h1
theorem zM7:∀ (n:Nat) (av a':AV ty) (ids:List Nat),zbn cx st n av=some (a',ids)->∀ id∈ids,(st.blk id).live
 | 0,_,_,_,h=>by simp [zbn] at h
 | n+1,av,a',ids,h=>by
  have ih:=zM7 n;cases av <;>simp only [zbn] at h
  case mp=>cases h
  case lit | sl | fptr | bptr | err=>simp only [qa,qb] at h; obtain ⟨_,rfl⟩:=h; simp
  case own | sub | eptr=>
   split at h
   ·rename_i hb;simp only [qa,qb] at h; obtain ⟨_,rfl⟩:=h;simp [hb,Blk.live]
   ·cases h
  case ptr=>
   split at h
   ·rename_i hb;split at h
    ·rename_i cs' is hm;simp only [qa,qb] at h; obtain ⟨_,rfl⟩:=h;intro id hid;rcases qd.1 hid with rfl | h1
     ·rw [hb]; trivial
     ·exact zwB ih _ _ _ hm id h1
    ·cases h
   ·cases h
  case agg | fn=>
   split at h
   ·rename_i cs' is hm;simp only [qa,qb] at h; obtain ⟨_,rfl⟩:=h;exact zwB ih _ _ _ hm
   ·cases h
  case tup | dead=>cases h
abbrev FzB (st:St ty) (fz:List Nat):Nat->Blk ty:=λj=>(gD .none (zbA st.blks fz) j)
theorem zUw (h:RB cx e st.blk κ w) {fz:List Nat} {id b:Nat} (hid:id∈fz) (hl:(st.blk id).live) (hb:zS (κ id)=some b):Fz e (FzB st fz) κ w b:=by
 refine ⟨.inr (h.old id b hl hb).1,(h.old id b hl hb).2,λj hj hbj=> ?_⟩
 have hjm:j∉fz:=λhm=>by
  simp only [FzB,zkv,if_pos hm] at hj;exact Blk.freeze_unfz hj
 simp only [FzB,zkv,if_neg hjm] at hj;exact hjm ((h.sep id j b hl hj hb hbj) ▸ hid)
theorem zCp (hcx:CxOK P cx) (h:RB cx e st.blk κ w) {fz:List Nat} {n:Nat} {v:Value} {av a':AV ty} {ids:List Nat} (hr:zeE cx e st κ w v av) (hp:zbn cx st n av=some (a',ids)) (hi:∀ id∈ids,id∈fz):
  Rep cx (Fz e (FzB st fz) κ w) w v a':=
 zCE hcx h _ (λb hb=>((zom h fz).2.fz b hb).1) n v av a' ids hr hp λid hid b hb=>zUw h (hi id hid) (zM7 n av a' ids hp id hid) hb
theorem zQ5 (hcx:CxOK P cx) (h:RB cx e st.blk κ w) {fz:List Nat} {n:Nat} {us:List Value} {cs cs':List (AV ty)} {ids:List Nat} (hr:All2 (zeE cx e st κ w) us cs) (hp:zes (zbn cx st n) cs=some (cs',ids)) (hi:∀ id∈ids,id∈fz):
  All2 (Rep cx (Fz e (FzB st fz) κ w) w) us cs':=
 zA4 (κ:=κ) (λv av a' ids hr hp hi=>zCE hcx h _ (λb hb=>((zom h fz).2.fz b hb).1) n v av a' ids hr hp hi) us cs cs' ids hr hp λid hid b hb=>
  zUw h (hi id hid) (zwB (λav a' ids=>zM7 n av a' ids) cs cs' ids hp id hid) hb
theorem zU0 {α β:Type} (f:α->List β) (k:Nat) (hk:∀ x,(f x).length=k):∀ (l:List α) (i:Nat) (x:α),i<l.length->(l.set i x).flatMap f=(l.flatMap f).take (i*k)++f x++(l.flatMap f).drop ((i+1)*k)
 | [],i,x,h=>by simp at h
 | y::l,0,x,h=>by
  simp only [List.set_cons_zero,List.flatMap_cons,Nat.zero_mul,List.take_zero,List.nil_append,Nat.zero_add,Nat.one_mul];rw [List.drop_append,List.drop_eq_nil_of_le (as:=f y) (by rw [hk]; exact Nat.le_refl _),hk,Nat.sub_self,List.drop_zero,List.nil_append]
 | y::l,i+1,x,h=>by
  have ih:=zU0 f k hk l i x (by simpa using h)
  have m1:(i+1)*k=i*k+k:=Nat.succ_mul i k;have m2:(i+1+1)*k=(i+1)*k+k:=Nat.succ_mul (i+1) k;simp only [List.set_cons_succ,List.flatMap_cons,ih];rw [List.take_append,List.take_of_length_le (l:=f y) (by rw [hk]; omega),List.drop_append,List.drop_eq_nil_of_le (as:=f y) (by rw [hk]; omega),hk,List.nil_append]
  rw [show (i+1)*k - k=i*k by omega,show (i+1+1)*k - k=(i+1)*k by omega]
  simp [List.append_assoc]
theorem zXT {α:Type} (xs new:List α) (p off k:Nat) (h1:off+new.length<=k) (h2:p+k<=xs.length):
  xs.take (p+off)++new++xs.drop (p+off+new.length)=xs.take p++(((xs.drop p).take k).take off++new++((xs.drop p).take k).drop (off+new.length))++xs.drop (p+k):=by
 have e1:xs.take (p+off)=xs.take p++((xs.drop p).take k).take off:=by
  rw [List.take_take,Nat.min_eq_left (by omega),List.take_add]
 have e2:xs.drop (p+off+new.length)=((xs.drop p).take k).drop (off+new.length)++xs.drop (p+k):=by
  rw [List.drop_take,List.drop_drop];have:xs.drop (p+k)=(xs.drop (p+(off+new.length))).drop (k - (off+new.length)):=by rw [List.drop_drop]; congr 1; omega
  rw [this,List.take_append_drop];congr 1; omega
 rw [e1,e2];simp only [List.append_assoc]
theorem zO1 {α:Type} (cur new:List α) (p n:Nat) (h:p+new.length<=n) (hn:n<=cur.length):(cur.take p++new++cur.drop (p+new.length)).take n=(cur.take n).take p++new++(cur.take n).drop (p+new.length):=by
 rw [List.take_append,List.take_append,List.take_of_length_le (l:=cur.take p) (by simp; omega),List.take_take,Nat.min_eq_left (by omega)]
 rw [List.take_of_length_le (l:=new) (by simp; omega)]
 congr 1;rw [List.drop_take];congr 1;simp; omega
theorem zMs (hcx:CxOK P cx) {T:Nat} {i:TInfo} (hT:cx.ti T=some i) {g off:Nat} {t:TypeId} {cur:Array Value} {u:Value} (hg:w.heap[g]? =some (.cells cur t (0,0))) (hsz:u.cells.toList.length=i.size)
  (hle:off+u.cells.toList.length<=cur.size) (h1:∀ v∈u.cells.toList,zb7 v=true):
  (storeVar T ⟨g,off,none⟩ u).run P w=.ok () (w.setRow g (cur.toList.take off++u.cells.toList++cur.toList.drop (off+u.cells.toList.length)).toArray):=by
 have hst:=run_storeCells_at P g off t u.cells.toList 0 cur w hg (by omega) (λv hv=>by rw [<- zQi]; exact h1 v hv)
 simp only [Nat.add_zero] at hst;simp only [storeVar,Sem.run_bind,zvh hcx hT,Result.andThen_ok,Sem.run_ite];rw [if_neg (by rw [<- Array.length_toList,hsz]; simp)]
 exact hst
theorem zuB (g b:Nat) (cs:Array Value):(w.setRow g cs).heap[b]? =w.heap[b]? \/b=g:=by
 by_cases h:b=g
 ·exact .inr h
 ·exact .inl (setRow_other w g b cs h)
theorem zYp {T:Nat} {x y:Operand} (hcx:CxOK P cx) (ho:o.op=.store T x y) (h:aop cx o st=some d) (hf:RF cx e st κ a w):o.wp P a w (λa' w'=>R cx e (st.app o.dst d) a' w') Q:=by
 unfold aop zdW at h;simp only [ho] at h;have hx:=zbY hf x;have hy:=zbY hf y;generalize hev:a.eval x=ve at hx;split at h
 ·rename_i i new hT hnew;obtain ⟨ha,h1⟩:=zyZ hf.rb hy hnew;split at h
  ·cases h
  ·rename_i hlen;have hlen:new.length=i.size:=Nat.eq_of_beq_eq_true hlen;have hsz:(a.eval y).cells.toList.length=i.size:=by rw [ha.len,hlen]
   split at h
   ·-- into a box
    rename_i id off hex;rw [hex] at hx;split at h
    ·rename_i cs hbl;split at h
     ·rename_i cs' hsp;simp only [qa] at h; subst h;obtain ⟨hle,rfl⟩:=zGe hsp;obtain ⟨b,cur,t,hκ,hg,hb⟩:=hf.rb.box hbl;have hbl':(gD .none st.blks id)=.box cs false:=hbl;cases hx with
      | rep hx=>cases hx
      | ptr _ _ b' hk hb'=>
       rw [hκ] at hb';simp only [Value.pointer.injEq,qa,Addr.mk.injEq,and_true] at hb';subst hb';have hcur:cur.size=cs.length:=by rw [<- hb.len,Array.length_toList]
       have hrun:=zMs hcx hT (u:=a.eval y) hg hsz (by rw [ha.len,hcur]; exact hle) h1
       have hst:=zx8 (w':=w.setRow b (cur.toList.take off++(a.eval y).cells.toList++cur.toList.drop (off+(a.eval y).cells.toList.length)).toArray)
        (nb:=.box (cs.take off++new++cs.drop (off+new.length)) false) hf.rb (n:=id) (by rw [hbl']; rfl) (by rw [hbl']; rfl) rfl rfl rfl (by simp)
        (λb2 _=>by
         rcases zuB (w:=w) b b2 (cur.toList.take off++(a.eval y).cells.toList++cur.toList.drop (off+(a.eval y).cells.toList.length)).toArray with h' | h'
         ·exact .inl h'
         ·subst h'; exact .inr (by rw [hκ]; rfl))
        (λhc=>⟨b,_,t,hκ,setRow_heap w b cur _ t _ hg,((hb.imp λ_ _ h=>hc.rep h).splice (ha.imp λ_ _ h=>hc.rep h) off)⟩)
       refine wp_skip (w':=w.setRow b (cur.toList.take off++(a.eval y).cells.toList++cur.toList.drop (off+(a.eval y).cells.toList.length)).toArray) ?_ ⟨κ,hf.put ?_ ?_ (λ_=>.dead _)⟩
       ·simp only [execOp,ho,hev,Instr.storeAt,Instr.sureAddr,Sem.run_bind,Sem.run_pure,Result.andThen_ok,hrun]
       ·rw [zcP]; exact hst.1
       ·rw [zcP]; exact hst.2
      | ptrD _ _ _ hk=>simp [hbl,Blk.kind] at hk
     ·cases h
    ·cases h
   ·-- into an element of a row
    rename_i id ix off hex;rw [hex] at hx;split at h
    ·rename_i T' l new' fz hbl hpure;split at h
     ·rename_i cs' hsp hnc;split at h
      ·rename_i x' hdec;obtain ⟨hix,h⟩:=zdR h;simp only [qe] at hix;simp only [qa] at h; subst h;obtain ⟨hle,rfl⟩:=zGe hsp;have hbl0:(gD .none st.blks id)=.arr T' l false:=hbl;cases hx with
       | rep hx=>cases hx
       | eptr _ _ _ b k m n cap hk hi2 hκ=>
        simp only [hbl,Blk.kind,Kind.arr.injEq] at hk;obtain ⟨rfl,rfl⟩:=hk
        -- first the parts of the value are frozen
        obtain ⟨hrb1,hc1⟩:=zom hf.rb fz;have hnotin:id∉fz:=by simpa using hnc
        have hbl1:(gD .none (zbA st.blks fz) id)=.arr T' l false:=by rw [zkv,if_neg hnotin]; exact hbl0
        have hnewrep:=zQ5 hcx hf.rb (fz:=fz) ha hpure (λ_ h=>h)
        have hrow:=hf.rb.row hbl;rw [hκ] at hrow;obtain ⟨xs,hown,hall⟩:=hrow;rcases hown.2 with ⟨hbad,_⟩ | ⟨g,cap',cur,hv,_,hg,hnc',hcm,hcs,htake⟩
        ·simp at hbad
        ·simp only [Value.slice.injEq,qa,Addr.mk.injEq,and_true] at hv;obtain ⟨rfl,rfl,rfl⟩:=hv;have hxl:xs.length=l.length*zl cx T':=hown.1;have hk1:(ix+1)*zl cx T'<=l.length*zl cx T':=Nat.mul_le_mul_right _ hix;have hk2:l.length*zl cx T'<=cap*zl cx T':=Nat.mul_le_mul_right _ hnc';have hk3:(ix+1)*zl cx T'=ix*zl cx T'+zl cx T':=Nat.succ_mul _ _;have hle':off+new'.length<=zl cx T':=by rw [<- hcx.len T' (l.getD ix (cx.dflt T'))]; exact hle
         have hnl:(a.eval y).cells.toList.length=new'.length:=hnewrep.len;have hnl2:(a.eval y).cells.size=new'.length:=by rw [<- Array.length_toList]; exact hnl
         have hrun:=zMs hcx hT (off:=ix*zl cx T'+off) (u:=a.eval y) hg hsz (by rw [hnl]; omega) h1
         have hst:=zx8 (B:=zbA st.blks fz) (κ:=κ) (w:=w) (w':=w.setRow b (cur.toList.take (ix*zl cx T'+off)++(a.eval y).cells.toList++cur.toList.drop (ix*zl cx T'+off+(a.eval y).cells.toList.length)).toArray)
          (nb:=.arr T' (l.set ix x') false) hrb1 (n:=id) (by rw [hbl1]; rfl) (by rw [hbl1]; simp [Blk.kind]) rfl rfl rfl (by simp)
          (λb2 _=>by
           rcases zuB (w:=w) b b2 (cur.toList.take (ix*zl cx T'+off)++(a.eval y).cells.toList++cur.toList.drop (ix*zl cx T'+off+(a.eval y).cells.toList.length)).toArray with h' | h'
           ·exact .inl h'
           ·subst h'; exact .inr (by rw [hκ]; rfl))
          (λhc=>by
           rw [hκ];have hall1:All2 (Rep cx (Fz e (λj=>(gD .none ((zbA st.blks fz).set id (.arr T' (l.set ix x') false)) j)) κ (w.setRow b (cur.toList.take (ix*zl cx T'+off)++(a.eval y).cells.toList++cur.toList.drop (ix*zl cx T'+off+(a.eval y).cells.toList.length)).toArray)) _) xs (zcc cx T' l):=hall.imp λ_ _ h=>hc.rep' (hc1.rep' h)
           have hnew1:=hnewrep.imp λ_ _ h=>hc.rep' h
           have hel:((zcc cx T' l).drop (ix*zl cx T')).take (zl cx T')=cx.enc T' (l.getD ix (cx.dflt T')):=by
            have e2:=zqU _ _ (hcx.len T') l ix;have hd:l.drop ix=l[ix]::l.drop (ix+1):=List.drop_eq_getElem_cons hix;unfold zcc;rw [<- e2,hd,List.flatMap_cons,List.take_append,hcx.len,Nat.sub_self,List.take_zero,List.append_nil,List.take_of_length_le (by rw [hcx.len]; exact Nat.le_refl _)]
            congr 1;simp [List.getD,hix]
           have hel1:=((hall1.drop (ix*zl cx T')).take (zl cx T'));rw [hel] at hel1;have hel2:=hcx.dec T' _ _ hdec _ _ _ (hel1.splice hnew1 off);refine ⟨xs.take (ix*zl cx T'+off)++(a.eval y).cells.toList++xs.drop (ix*zl cx T'+off+(a.eval y).cells.toList.length),⟨?_,.inr ⟨b,cap,_,by simp,Nat.zero_le _,setRow_heap w b cur _ T' _ hg,by simpa using hnc',hcm, ?_, ?_⟩⟩, ?_⟩
           ·simp; omega
           ·simp; omega
           ·have hcl:cur.toList.length=cur.size:=rfl;have ht:=zO1 cur.toList (a.eval y).cells.toList (ix*zl cx T'+off) (l.length*zl cx T') (by omega) (by omega)
            rw [htake] at ht
            simpa only [List.length_set,List.toList_toArray] using ht
           ·rw [zXT xs (a.eval y).cells.toList (ix*zl cx T') off (zl cx T') (by rw [hnl]; exact hle') (by omega)]
            unfold zcc;rw [zU0 _ _ (hcx.len T') l ix x' hix];rw [show ix*zl cx T'+zl cx T'=(ix+1)*zl cx T' from hk3.symm]
            exact ((hall1.take _).append hel2).append (hall1.drop _))
         refine wp_skip (w':=w.setRow b (cur.toList.take (ix*zl cx T'+off)++(a.eval y).cells.toList++cur.toList.drop (ix*zl cx T'+off+(a.eval y).cells.toList.length)).toArray) ?_ ⟨κ,hf.put ?_ ?_ (λ_=>.dead _)⟩
         ·simp only [execOp,ho,hev,Instr.storeAt,Instr.sureAddr,Sem.run_bind,Sem.run_pure,Result.andThen_ok,hrun]
         ·rw [zcP]; exact hst.1
         ·rw [zcP]; exact hc1.trans hst.2
       | eptrD _ _ _ _ hk=>simp [hbl,Blk.kind] at hk
      ·cases h
     ·cases h
    ·cases h
   ·cases h
 ·cases h
end
end
end Go.Ab
/- The operations that make or write memory of the call's own, against the machine's: slice literals, make, append, clear. -/
namespace Go.Ab
noncomputable section
variable {ty:Nat->Type}
section
variable {P:Program} {cx:Cx ty} {e:Env} {st:St ty} {κ:Nat->Value} {a:Act} {w:World} {o:Oper} {d:Delta ty} {Q:Exit->Act->World->Prop}
theorem zPL (hcx:CxOK P cx) {F:Nat->Prop} {T:Nat} {l:List (ty T)} {us:List Value} (ha:All2 (Rep cx F w) us (zcc cx T l)):∀ u∈us,u.oneCell'=true:=by
 intro u hu;obtain ⟨j,hj⟩:=List.getElem?_of_mem hu;obtain ⟨c,hc,hr⟩:=ha.getL hj;have hm:c∈zcc cx T l:=List.mem_of_getElem? hc;obtain ⟨x,_,hx⟩:=List.mem_flatMap.1 hm;have:=hcx.cell T x c hx;rw [<- zQi];cases hr with
 | lit v=>exact this
 | agg=>exact this.elim
 | _=>rfl
theorem zDI (hcx:CxOK P cx) (hrb:RB cx e st.blk κ w) {fz:List Nat} {el k:Nat} (hk:zl cx el=k):
  ∀ (ps:List (Nat×AV ty)) (us:List (Nat×Value)) (n:Nat) (l:List (ty el)) (ids:List Nat) (cur:List Value),
   All2 (λ(u:Nat×Value) (p:Nat×AV ty)=>u.1=p.1/\zeE cx e st κ w u.2 p.2) us ps->zkc cx st el n ps=some (l,ids)->(∀ id∈ids,id∈fz)->(n+ps.length)*k<=cur.length->
   ∃ mid:List Value,Instr.fill (λi=>some (i*k,k)) cur.toArray us=some (cur.take (n*k)++mid++cur.drop ((n+ps.length)*k)).toArray/\mid.length=ps.length*k/\
    All2 (Rep cx (Fz e (FzB st fz) κ w) w) mid (zcc cx el l)/\l.length=ps.length
 | [],us,n,l,ids,cur,hu,h,_,_=>by
  rw [hu.nil_left.1];simp only [zkc,qa,qb] at h;obtain ⟨rfl,rfl⟩:=h;exact ⟨[],by simp [Instr.fill],by simp,.nil,rfl⟩
 | (i,v)::r,us,n,l,ids,cur,hu,h,hi,hl=>by
  obtain ⟨⟨i',u⟩,us',rfl,⟨hii,hr⟩,hu'⟩:=hu.inv;simp only at hii hr; subst hii;simp only [zkc] at h;split at h
  ·cases h
  ·rename_i hin;have hin:i'=n:=Nat.eq_of_beq_eq_true hin;subst hin;split at h
   ·cases h
   ·rename_i c hc;split at h
    ·cases h
    ·rename_i c' ids1 hp;split at h
     ·cases h
     ·rename_i x hdec;split at h
      ·cases h
      ·rename_i xs is hrest;simp only [qa,qb] at h;obtain ⟨rfl,rfl⟩:=h;obtain ⟨ha,h1⟩:=zyZ hrb hr hc;have hnew:=zQ5 hcx hrb (fz:=fz) ha hp (λid hid=>hi id (by simp [hid]))
       have hx:=hcx.dec el c' x hdec _ _ _ hnew;have hsz:u.cells.toList.length=k:=by rw [hx.len,hcx.len,hk]
       have hsz':u.cells.size=k:=by rw [<- Array.length_toList]; exact hsz
       have m1:(i'+1)*k=i'*k+k:=Nat.succ_mul _ _;have m2:(i'+(r.length+1))*k=(i'+1+r.length)*k:=by congr 1; omega
       have m3:(i'+1)*k<=(i'+1+r.length)*k:=Nat.mul_le_mul_right _ (by omega)
       simp only [qf] at hl
       obtain ⟨mid,hfill,hml,hmr,hll⟩:=zDI hcx hrb hk r us' (i'+1) xs is (cur.take (i'*k)++u.cells.toList++cur.drop (i'*k+u.cells.toList.length)) hu' hrest (λid hid=>hi id (by simp [hid])) (by
        simp only [qg,List.length_take,List.length_drop,hsz];omega)
       refine ⟨u.cells.toList++mid, ?_,by simp only [qg,hsz,hml,qf,Nat.succ_mul]; omega, ?_,by simp [hll]⟩
       ·have hset:=zSZ (cur:=cur) (off:=i'*k) u.cells.toList (by omega)
        simp only [Array.toArray_toList] at hset;rw [<- hset] at hfill;simp only [Instr.fill,hsz',List.size_toArray];rw [show ((k≠k)||decide (i'*k+k>cur.length))=false by simp; omega]
        simp only [Bool.false_eq_true,if_false];simp only [Array.toArray_toList] at hfill;rw [hfill,hset];congr 2;simp only [qf];rw [m2];apply List.ext_getElem?;intro j;simp only [List.getElem?_append,qg,List.length_take,List.getElem?_take,List.getElem?_drop,List.length_drop,hsz];have q1:min (i'*k) cur.length=i'*k:=by omega
        have q2:min ((i'+1)*k) (i'*k+k+(cur.length - (i'*k+k)))=(i'+1)*k:=by omega
        simp only [q1,q2];by_cases c1:j<i'*k
        ·have c2:j<(i'+1)*k:=by omega
         have c3:j<i'*k+k:=by omega
         have c4:j<(i'+1)*k+mid.length:=by omega
         have c5:j<i'*k+(k+mid.length):=by omega
         simp [c1,c2,c3,c4,c5]
        ·by_cases c2:j<(i'+1)*k
         ·have c3:j<i'*k+k:=by omega
          have c4:j<(i'+1)*k+mid.length:=by omega
          have c5:j<i'*k+(k+mid.length):=by omega
          have c6:j - i'*k<k:=by omega
          simp [c1,c2,c3,c4,c5,c6]
         ·by_cases c4:j<(i'+1)*k+mid.length
          ·have c5:j<i'*k+(k+mid.length):=by omega
           have c6:¬ (j - i'*k<k):=by omega
           have c7:j - (i'+1)*k=j - i'*k - k:=by omega
           simp [c1,c2,c4,c5,c6,c7]
          ·have c5:¬ j<i'*k+(k+mid.length):=by omega
           have c8:¬ ((i'+1+r.length)*k+(j - ((i'+1)*k+mid.length))<i'*k):=by omega
           have c9:¬ ((i'+1+r.length)*k+(j - ((i'+1)*k+mid.length))<i'*k+k):=by omega
           simp only [c4,c5,c8,c9,if_false];congr 1;omega
       ·unfold zcc;rw [List.flatMap_cons];exact hx.append hmr
theorem zTy {T n:Nat} {parts:Array (Nat×Operand)} (hcx:CxOK P cx) (ho:o.op=.buildSlice T n parts) (h:aop cx o st=some d) (hf:RF cx e st κ a w):o.wp P a w (λa' w'=>R cx e (st.app o.dst d) a' w') Q:=by
 unfold aop zdW at h;simp only [ho] at h;split at h
 ·rename_i el s b zz dd hT hdst;have hu:=zhn hcx hT;split at h
  ·rename_i l fz inf hfe hn hinf;have hn:n=parts.size:=Nat.eq_of_beq_eq_true hn;split at h
   ·rename_i hle;obtain ⟨hle,hfree⟩:=zhm hle;obtain ⟨hnle,hfree⟩:=zhm hfree;have hnle:n<=16777216:=Nat.le_of_ble_eq_true hnle;simp only [qa] at h; subst h;obtain ⟨hnone,hlt⟩:=zje hfree;obtain ⟨info,desc,z,hi,hu2,hs,hb,hz,hzc,hzl,hz1,hd⟩:=(hcx.ti el _ hinf).ok;have hk:zl cx el=inf.size:=by simp [zl,hinf]
    have hle:n*inf.size<=16777216:=Nat.le_of_ble_eq_true hle
    obtain ⟨mid,hfill,hml,hmr,hll⟩:=zDI (κ:=κ) (fz:=fz) hcx hf.rb hk (parts.toList.map λ(i,x)=>(i,st.ev x)) (parts.toList.map λ(i,x)=>(i,a.eval x)) 0 l fz
     ((madeCells (if n*inf.size=0 then #[] else z.cells) (n*inf.size)).toList)
     (⟨by simp,λj u c hu hc=>by
      rw [List.getElem?_map] at hu hc;cases hx:parts.toList[j]? with
      | none=>rw [hx] at hu; cases hu
      | some x=>
       rw [hx] at hu hc;simp only [Option.map_some,qa] at hu hc;subst hu; subst hc;exact ⟨rfl,zbY hf x.2⟩⟩) hfe (λ_ h=>h) (by
      have e1:=size_madeCells (if n*inf.size=0 then #[] else z.cells) (n*inf.size)
      rw [List.length_map,Nat.zero_add]
      change parts.size*inf.size<=Array.size _
      rw [e1,hn]; exact Nat.le_refl _)
    simp only [List.length_map,Array.length_toList] at hfill hml hll;simp only [Nat.zero_mul,List.take_zero,List.nil_append,Nat.zero_add,Array.toArray_toList] at hfill
    rw [List.drop_eq_nil_of_le (by
     have e1:=size_madeCells (if n*inf.size=0 then #[] else z.cells) (n*inf.size)
     change Array.size _<=_
     rw [e1,hn]; exact Nat.le_refl _),List.append_nil] at hfill
    obtain ⟨hrb1,hc1⟩:=zom hf.rb fz
    have hnone1:(gD .none (zbA st.blks fz) (zK dd))=.none:=by
     rw [zkv];have:(gD .none st.blks (zK dd))=.none:=hnone;rw [this]; split <;>rfl
    have hst:=zrz (w':=w.alloc (.cells mid.toArray el)) (nb:=.arr el l false) (v:=.slice (some ⟨w.heap.size,0,none⟩) n n) hrb1 hnone1 (by rw [zgh]; exact hlt) rfl rfl rfl (by simp) (λb hb=>heap_alloc_old w _ b hb)
     (λb hb=>by simp [zS] at hb; subst hb; simp)
     (λhc=>⟨mid,by
      have:=World.ownsRow_lit (base:=0) (e:=el) (size:=zl cx el) w mid.toArray n (Nat.zero_le _) (by simp only [maxLen]; omega) (by simp [hml,hn,hk])
      rw [hll, <- hn]
      simpa using this,hmr.imp λ_ _ h=>hc.rep' h⟩)
    refine zW (v:=.slice (some ⟨w.heap.size,0,none⟩) n n) (w':=w.alloc (.cells mid.toArray el)) ?_ ⟨_,hf.put (κ':=λi=>if i=zK dd then .slice (some ⟨w.heap.size,0,none⟩) n n else κ i) ?_ ?_ (λ_=> ?_)⟩
    ·have hparts:(parts.map λ(i,x)=>(i,a.eval x)).toList=parts.toList.map λ(i,x)=>(i,a.eval x):=by simp
     have hrun:(Instr.buildSlice T n (parts.map λ(i,x)=>(i,a.eval x))).run P w=.ok (.slice (some ⟨w.heap.size,0,none⟩) n n) (w.alloc (.cells mid.toArray el)):=by
      simp only [Instr.buildSlice,Sem.run_bind,zcR hu,Result.andThen_ok,zvh hcx hinf,Sem.run_ite];rw [if_neg (by omega)]
      by_cases h0:n*inf.size=0
      ·simp only [h0,if_true] at hfill;simp only [h0,if_true,Sem.run_pure,Result.andThen_ok,hparts];simp only [madeCells] at hfill;rw [hfill];simp [newRow]
      ·simp only [h0,if_false] at hfill;simp only [h0,if_false,Sem.run_pure,Sem.run_bind,zDB hi hz,Result.andThen_ok,hparts];simp only [madeCells] at hfill;rw [hfill];simp [newRow]
     simp only [execOp,ho,Sem.run_bind,hrun,Result.andThen_ok,Sem.run_pure]
    ·rw [zcP]; exact hst.1
    ·rw [zcP]; exact hc1.trans hst.2
    ·rw [zcP]
     have:=RepA.own (cx:=cx) (F:=Fz e (λj=>(gD .none ((zbA st.blks fz).set (zK dd) (.arr el l false)) j)) (λi=>if i=zK dd then .slice (some ⟨w.heap.size,0,none⟩) n n else κ i) (w.alloc (.cells mid.toArray el))) (w:=w.alloc (.cells mid.toArray el))
      (kd:=λi=>((gD .none ((zbA st.blks fz).set (zK dd) (.arr el l false)) i)).kind cx) (κ:=λi=>if i=zK dd then .slice (some ⟨w.heap.size,0,none⟩) n n else κ i) (zK dd) (zl cx el) l.length (by
       rw [zbr,if_pos ⟨rfl,by rw [zgh]; exact hlt⟩]; rfl)
     simpa using this
   ·cases h
  ·cases h
 ·cases h
end
end
end Go.Ab
/- The operations that make or write memory of the call's own, against the machine's: make, append, clear. -/
namespace Go.Ab
noncomputable section
variable {ty:Nat->Type}
section
variable {P:Program} {cx:Cx ty} {e:Env} {st:St ty} {κ:Nat->Value} {a:Act} {w:World} {o:Oper} {d:Delta ty} {Q:Exit->Act->World->Prop}
theorem zYM (z:Array Value) (c k i j:Nat) (hz:z.size=k) (hi:i<c) (hj:j<k):(madeCells z (c*k)).toList[i*k+j]? =z.toList[j]? :=by
 have h1:i*k+j<c*k:=by
  have:(i+1)*k<=c*k:=Nat.mul_le_mul_right _ hi;rw [Nat.succ_mul] at this; omega
 have h2:(i*k+j) % z.size=j:=by rw [hz,Nat.mul_comm,Nat.mul_add_mod]; exact Nat.mod_eq_of_lt hj
 simp [madeCells,h1,h2,hz,hj];rw [Nat.mod_eq_of_lt hj];exact getElem!_pos z j (by omega)
theorem zPE {F:Nat->Prop} (hcx:CxOK P cx) {T k c n:Nat} {z:Array Value} {x:ty T} (hk:zl cx T=k) (hz:z.size=k) (hr:All2 (Rep cx F w) z.toList (cx.enc T x)) (hn:n<=c):
  All2 (Rep cx F w) ((madeCells z (c*k)).toList.take (n*k)) (zcc cx T (List.replicate n x)):=by
 have hlen:((madeCells z (c*k)).toList.take (n*k)).length=n*k:=by
  rw [List.length_take];have e1:=size_madeCells z (c*k);have:n*k<=c*k:=Nat.mul_le_mul_right _ hn
  change min _ (Array.size _)=_
  rw [e1]; omega
 refine ⟨by rw [hlen,zJx hcx,List.length_replicate,hk],λj u v hu hv=> ?_⟩
 have hj:j<n*k:=by rw [<- hlen]; exact (List.getElem?_eq_some_iff.1 hu).1
 have hk0:0<k:=by
  rcases Nat.eq_zero_or_pos k with h | h
  ·subst h; simp at hj
  ·exact h
 have hji:j=(j / k)*k+j % k:=by have:=Nat.div_add_mod j k; rw [Nat.mul_comm] at this; exact this.symm
 have hi:j / k<n:=by
  rw [Nat.div_lt_iff_lt_mul hk0]; exact hj
 have hm:j % k<k:=Nat.mod_lt _ hk0;rw [List.getElem?_take,if_pos hj] at hu;rw [hji,zYM z c k _ _ hz (by omega) hm] at hu
 unfold zcc at hv;rw [hji,zJO _ k (by rw [<- hk]; exact hcx.len T) _ _ _ hm] at hv
 simp only [List.getElem?_replicate,if_pos hi,Option.bind_some] at hv;exact hr.at_ _ u v hu hv
theorem zPU {F:Nat->Prop} (hcx:CxOK P cx) {T:Nat} {inf:TInfo} {z:Value} {x:ty T} (hzc:z.cells.toList=inf.zero) (hdec:cx.dec T (inf.zero.map .lit)=some x):All2 (Rep cx F w) z.cells.toList (cx.enc T x):=by
 rw [hzc];exact hcx.dec T _ x hdec F w _ (zDk inf.zero)
theorem zUT {T:Nat} {x y:Operand} (hcx:CxOK P cx) (ho:o.op=.makeSlice T x y) (h:aop cx o st=some d) (hf:RF cx e st κ a w):o.wp P a w (λa' w'=>R cx e (st.app o.dst d) a' w') Q:=by
 unfold aop zdW at h;simp only [ho] at h;split at h
 ·rename_i el s b zz dd n c hT hdst hn hc;have hu:=zhn hcx hT;have en:=zwY (zbY hf x) hn;have ec:=zwY (zbY hf y) hc;split at h
  ·rename_i inf hinf;split at h
   ·rename_i z hdec;obtain ⟨hb,h⟩:=zdR h;simp only [qa] at h; subst h;simp only [qc,qe] at hb;obtain ⟨⟨⟨⟨hfree,h0⟩,hnc⟩,hby⟩,hcr⟩:=hb;obtain ⟨hnone,hlt⟩:=zje hfree;obtain ⟨info,desc,zv,hi,hu2,hs,hbb,hz,hzc,hzl,hz1,hd⟩:=(hcx.ti el _ hinf).ok;have hk:zl cx el=inf.size:=by simp [zl,hinf]
    have hzs:zv.cells.size=inf.size:=by rw [<- Array.length_toList,hzc,hzl]
    unfold zbO at hby hcr;have hrun:=run_make (P:=P) w T el info zv hu hi hz .i64 .i64 n c h0 hnc (by rw [hbb,Int.mul_comm]; omega) (by omega)
    rw [hs] at hrun
    have hst:=zrz (w':=w.alloc (.cells (madeCells zv.cells (c.toNat *inf.size)) el)) (nb:=.arr el (List.replicate n.toNat z) false) (v:=.slice (some ⟨w.heap.size,0,none⟩) n.toNat c.toNat) hf.rb hnone hlt rfl rfl rfl (by simp) (λb hb=>heap_alloc_old w _ b hb)
     (λb hb=>by simp [zS] at hb; subst hb; simp)
     (λhcc=>⟨(madeCells zv.cells (c.toNat *inf.size)).toList.take (n.toNat *inf.size),by
      refine ⟨?_,.inr ⟨w.heap.size,c.toNat,_,by simp,Nat.zero_le _,heap_alloc_new w _,by simp; omega,by simp only [maxLen]; omega, ?_, ?_⟩⟩
      ·rw [List.length_take];have e1:=size_madeCells zv.cells (c.toNat *inf.size);have:n.toNat *inf.size<=c.toNat *inf.size:=Nat.mul_le_mul_right _ (by omega)
       change min _ (Array.size _)=_
       rw [e1,hk,List.length_replicate]; omega
      ·rw [size_madeCells,hk]
      ·rw [hk,List.length_replicate],zPE hcx hk hzs (zPU hcx hzc hdec) (by omega)⟩)
    refine zW (v:=.slice (some ⟨w.heap.size,0,none⟩) n.toNat c.toNat) (w':=w.alloc (.cells (madeCells zv.cells (c.toNat *inf.size)) el)) ?_ ⟨_,hf.put (κ':=λi=>if i=zK dd then .slice (some ⟨w.heap.size,0,none⟩) n.toNat c.toNat else κ i) ?_ ?_ (λ_=> ?_)⟩
    ·simp only [execOp,ho,en,ec,Sem.run_bind,hrun,Result.andThen_ok,Sem.run_pure]
    ·rw [zcP]; exact hst.1
    ·rw [zcP]; exact hst.2
    ·rw [zcP]
     have:=RepA.own (cx:=cx) (F:=Fz e (λj=>(gD .none ((zbA st.blks []).set (zK dd) (.arr el (List.replicate n.toNat z) false)) j)) (λi=>if i=zK dd then .slice (some ⟨w.heap.size,0,none⟩) n.toNat c.toNat else κ i) (w.alloc (.cells (madeCells zv.cells (c.toNat *inf.size)) el))) (w:=w.alloc (.cells (madeCells zv.cells (c.toNat *inf.size)) el))
      (kd:=λi=>((gD .none ((zbA st.blks []).set (zK dd) (.arr el (List.replicate n.toNat z) false)) i)).kind cx) (κ:=λi=>if i=zK dd then .slice (some ⟨w.heap.size,0,none⟩) n.toNat c.toNat else κ i) (zK dd) (zl cx el) (List.replicate n.toNat z).length (by
       rw [zbr,if_pos ⟨rfl,by rw [zgh]; exact hlt⟩]; rfl)
     simpa using this
   ·cases h
  ·cases h
 ·cases h
theorem zP0 {T T' el:Nat} {tyr:TypeId} {info:TypeInfo} {zv:Value} {k':IntKind} (hu:P.underlying T=some (.slice el)) (hu':P.underlying T'=some (.int k')) (hi:P.info? el=some info) (hz:info.zero=some zv) (hzs:zv.cells.size=info.size) (hs0:info.size≠0)
  (n:Nat) (h0:0<n) (hby:n*info.bytes<=70368744177664) (hn:n<=70368744177664):
  (Builtin.append_ #[T,T'] tyr #[.slice none 0 0,.int .i64 n]).run P w=.ok (.slice (some ⟨w.heap.size,0,none⟩) n (grownCap w n 0 el)) (w.drew.alloc (.cells (Builtin.zeroCells zv.cells n++Builtin.zeroCells zv.cells (grownCap w n 0 el - n)) el)):=by
 have hw:IntKind.i64.wrap (n:Int)=n:=by simp [IntKind.wrap,IntKind.bits,IntKind.signed]; omega
 have h1:¬ ((n:Int)<0):=by omega
 have h2:¬ (281474976710656<(n:Int)*(info.bytes:Int)):=by
  have:((n*info.bytes:Nat):Int)<=70368744177664:=by omega
  rw [Int.natCast_mul] at this; omega
 have h3:Builtin.nextslicecap n 0=n:=by unfold Builtin.nextslicecap; rw [if_pos (by omega)]
 have h4:¬ (281474976710656<n*info.bytes):=by omega
 have h5:¬ (n=0):=by omega
 have h6:¬ (9223372036854775807<(n:Int)):=by omega
 have hf:=run_firstCells_none (P:=P) w.drew info.size 0 0 0;simp [Builtin.append_,run_underlying hu,run_underlying hu',sizeOf,typeInfo,zeroValue,hi,hz,asInt,asIntOf,hw,h1,h2,h3,h4,h5,h6,hs0,Question.forced,hf,newRow,grownCap];intro h7;rcases Nat.mul_eq_zero.1 h7 with h | h
 ·exact absurd h h5
 ·exact absurd h hs0
theorem zXk {args:Array Operand} {ts:Array TypeId} {T T2:Nat} {sv xv:AV ty} {u u2:Value} (hcx:CxOK P cx) (hts':ts=#[T,T2]) (hargs:args.map a.eval=#[u,u2]) (hu:zeE cx e st κ w u sv) (hu2:zeE cx e st κ w u2 xv)
  (hex:execOp a.eval o=builtin .append ts o.type (args.map λ| .const _=>true | _=>false) (args.map a.eval)) (h:zp7 cx st o.dst T T2 sv xv some=some d) (hf:RF cx e st κ a w):o.wp P a w (λa' w'=>R cx e (st.app o.dst d) a' w') Q:=by
 unfold zp7 at h;split at h
 ·rename_i el s b zz s2 b2 zz2 dd hT hT2 hdst;have hund:=zhn hcx hT;have hund2:P.underlying T2=some (.int .i64):=zvL hcx hT2;split at h
  ·rename_i n;split at h
   ·rename_i inf hinf;split at h
    ·rename_i z hdec;obtain ⟨hb,h⟩:=zdR h;simp only [qa] at h; subst h;simp only [qc,qe,Bool.not_eq_true'] at hb;obtain ⟨hfree,h0,hby,hn,hs0⟩:=hb;obtain ⟨m,rfl⟩:=Int.eq_ofNat_of_zero_le (Int.le_of_lt h0);obtain ⟨hnone,hlt⟩:=zje hfree;obtain ⟨info,desc,zv,hi,hu3,hs,hbb,hz,hzc,hzl,hz1,hd⟩:=(hcx.ti el _ hinf).ok;have hk:zl cx el=inf.size:=by simp [zl,hinf]
     have hzs:zv.cells.size=inf.size:=by rw [<- Array.length_toList,hzc,hzl]
     have hs0:inf.size≠0:=by intro h0; rw [h0] at hs0; cases hs0
     unfold zbO at hby hn;have e1:=zbW hu;have e2:=zbW hu2
     have hby':m*info.bytes<=70368744177664:=by
      rw [hbb];have:((m*inf.bytes:Nat):Int)<=70368744177664:=by rw [Int.natCast_mul]; omega
      omega
     have hrun:=zP0 (P:=P) (w:=w) (tyr:=o.type) hund hund2 hi hz (by rw [hzs,hs]) (by rw [hs]; exact hs0) m (by omega) hby' (by omega)
     generalize hc:grownCap w m 0 el=c at hrun;have hmc:m<=c:=hc ▸ grownCap_ge w m 0 el;have hcm:c<=maxLen:=hc ▸ grownCap_le_maxLen w m 0 el (by simp only [maxLen]; omega)
     generalize hX:Builtin.zeroCells zv.cells m++Builtin.zeroCells zv.cells (c - m)=X at hrun;have hzc1:Builtin.zeroCells zv.cells m=madeCells zv.cells (m*inf.size):=by unfold Builtin.zeroCells madeCells; rw [hzs]
     have hX1:X.size=c*inf.size:=by
      rw [<- hX,Array.size_append,size_zeroCells,size_zeroCells,hzs, <- Nat.add_mul]; congr 1; omega
     have hX2:X.toList.take (m*inf.size)=(madeCells zv.cells (m*inf.size)).toList.take (m*inf.size):=by
      rw [<- hX,hzc1,Array.toList_append,List.take_append_of_le_length (by rw [Array.length_toList,size_madeCells]; exact Nat.le_refl _)]
     have hst:=zrz (w':=w.drew.alloc (.cells X el)) (nb:=.arr el (List.replicate m z) false) (v:=.slice (some ⟨w.heap.size,0,none⟩) m c) hf.rb hnone hlt rfl rfl rfl (by simp) (λb hb=>heap_alloc_old w.drew _ b hb)
      (λb hb=>by simp [zS] at hb; subst hb; simp)
      (λhcc=>⟨X.toList.take (m*inf.size),by
       refine ⟨?_,.inr ⟨w.heap.size,c,_,by simp,Nat.zero_le _,heap_alloc_new w.drew _,by simpa using hmc,hcm, ?_, ?_⟩⟩
       ·rw [hX2,List.length_take,Array.length_toList,size_madeCells,hk,List.length_replicate]; omega
       ·rw [hX1,hk]
       ·rw [hk,List.length_replicate],by rw [hX2]; exact zPE hcx hk hzs (zPU hcx hzc hdec) (Nat.le_refl _)⟩)
      (λ_=>Nat.le_succ _)
     refine zW (v:=.slice (some ⟨w.heap.size,0,none⟩) m c) (w':=w.drew.alloc (.cells X el)) ?_ ⟨_,hf.put (κ':=λi=>if i=zK dd then .slice (some ⟨w.heap.size,0,none⟩) m c else κ i) ?_ ?_ (λ_=> ?_)⟩
     ·rw [hex,hts',hargs,e1,e2];simp only [builtin,Sem.run_bind,hrun,Result.andThen_ok,Sem.run_pure]
     ·rw [zcP]; exact hst.1
     ·rw [zcP]; exact hst.2
     ·rw [zcP]
      have:=RepA.own (cx:=cx) (F:=Fz e (λj=>(gD .none ((zbA st.blks []).set (zK dd) (.arr el (List.replicate m z) false)) j)) (λi=>if i=zK dd then .slice (some ⟨w.heap.size,0,none⟩) m c else κ i) (w.drew.alloc (.cells X el))) (w:=w.drew.alloc (.cells X el))
       (kd:=λi=>((gD .none ((zbA st.blks []).set (zK dd) (.arr el (List.replicate m z) false)) i)).kind cx) (κ:=λi=>if i=zK dd then .slice (some ⟨w.heap.size,0,none⟩) m c else κ i) (zK dd) (zl cx el) (List.replicate m z).length (by
        rw [zbr,if_pos ⟨rfl,by rw [zgh]; exact hlt⟩]; rfl)
      simpa using this
    ·cases h
   ·cases h
  ·cases h
 ·cases h
theorem zNb (hcx:CxOK P cx) (hrb:RB cx e st.blk κ w) {v:Value} {av:AV ty} {T:Nat} {l:List (ty T)} {rd:List Nat} (hr:zeE cx e st κ w v av) (h:zc9 st av=some (⟨T,l⟩,rd)):
  ∃ ad cap us,v=.slice ad l.length cap/\(ad=none->l=[]/\cap=0)/\All2 (Rep cx (Fz e st.blk κ w) w) us (zcc cx T l)/\∀ ad',ad=some ad'->∀ (j:Nat) u,us[j]? =some u->w.cell? (ad'.add j)=some u:=by
 cases av with
 | sl T' l'=>
  simp only [zc9,qa,qb,Sigma.mk.injEq] at h;obtain ⟨⟨rfl,h⟩,_⟩:=h;have h:=eq_of_heq h; subst h;cases hr with
  | rep hr=>
   cases hr with
   | slE ad c T hn=>exact ⟨ad,c,[],rfl,λh=>⟨rfl,hn h⟩,.nil,λ_ _ j u hu=>by simp at hu⟩
   | sl b off cap _ _ us hF hcap hlen hc hr=>exact ⟨_,cap,us,rfl,by simp,⟨hlen,hr⟩,λad' had j u hu=>by
     simp only [qa] at had; subst had;rw [zer]; exact hc j u hu⟩
 | own id=>
  simp only [zc9] at h;split at h
  ·rename_i T' l' fz hb;simp only [qa,qb,Sigma.mk.injEq] at h;obtain ⟨⟨rfl,h⟩,_⟩:=h;have h:=eq_of_heq h; subst h;cases hr with
   | rep hr=>cases hr
   | own _ k m hk=>
    obtain ⟨xs,ho,ha⟩:=hrb.row hb;rcases ho.2 with ⟨hv,h0⟩ | ⟨g,cap,cur,hv,_,hg,hnc,_,_,htake⟩
    ·have hl:l'=[]:=List.eq_nil_of_length_eq_zero h0;subst hl;exact ⟨none,0,[],hv,λ_=>⟨rfl,rfl⟩,.nil,λ_ _ j u hu=>by simp at hu⟩
    ·exact ⟨_,cap,xs,hv,by simp,ha,λad' had j u hu=>by
      simp only [qa] at had; subst had;exact ho.cells (g:=g) (by rw [hv]; rfl) j u hu⟩
   | ownD _ _ hk=>simp [hb,Blk.kind] at hk
  ·cases h
 | sub id lo n=>
  simp only [zc9] at h;split at h
  ·rename_i T' l' fz hb;simp only [qa,qb,Sigma.mk.injEq] at h;obtain ⟨⟨rfl,h⟩,_⟩:=h;have h:=eq_of_heq h; subst h;cases hr with
   | rep hr=>cases hr
   | sub _ _ _ _ k m hk hl hv=>
    simp only [hb,Blk.kind,Kind.arr.injEq] at hk;obtain ⟨rfl,rfl⟩:=hk;have hlen:((l'.drop lo).take n).length=n:=by simp; omega
    obtain ⟨xs,ho,ha⟩:=hrb.row hb;have e1:=zvF _ _ (hcx.len T') (l'.drop lo) n;have e2:=zqU _ _ (hcx.len T') l' lo
    have hus:All2 (Rep cx (Fz e st.blk κ w) w) ((xs.drop (lo*zl cx T')).take (n*zl cx T')) (zcc cx T' ((l'.drop lo).take n)):=by
     unfold zcc; rw [e1,e2]; exact (ha.drop _).take _
    rcases ho.2 with ⟨hκ,h0⟩ | ⟨g,cap,cur,hκ,_,hg,hnc,_,_,htake⟩
    ·rw [hκ] at hv;unfold zk1 at hv;obtain ⟨b,c,rfl,rfl,_,hbc⟩:=hv;exact ⟨b,c,_,by rw [hlen],λh=>⟨by simp,hbc h⟩,hus,λ_ _ j u hu=>by simp at hu⟩
    ·rw [hκ] at hv;unfold zk1 at hv;rcases hv with rfl | ⟨rfl,_,b,c,rfl,hbc⟩
     ·refine ⟨_,_,_,by rw [hlen],by simp,hus,λad' had j u hu=> ?_⟩
      simp only [qa] at had; subst had;rw [List.getElem?_take] at hu;split at hu
      ·rw [List.getElem?_drop] at hu;have:=ho.cells (g:=g) (by rw [hκ]; rfl) _ u hu
       rw [zer] at this
       rwa [zer,zer,Nat.add_assoc]
      ·cases hu
     ·exact ⟨b,c,_,by rw [hlen],λh=>⟨by simp,hbc h⟩,hus,λ_ _ j u hu=>by simp at hu⟩
   | subD _ _ _ _ hk=>simp [hb,Blk.kind] at hk
  ·cases h
 | _=>simp [zc9] at h
theorem zrA {T T':Nat} {l:List (ty T)} {l':List (ty T')} (h:ztZ T T' l=some l'):∃ he:T=T',l'=he ▸ l:=by
 unfold ztZ at h;split at h
 ·rename_i he;simp only [qa] at h;exact ⟨he,h.symm⟩
 ·cases h
theorem zRa (hcx:CxOK P cx) {T el:Nat} {inf:TInfo} {tyr:TypeId} (hu:P.underlying T=some (.slice el)) (hinf:cx.ti el=some inf) (hz0:inf.size≠0) {F:Nat->Prop} {v x:Value} {l ys:List (ty el)}
  (hrow:zcn cx F w v el l) {ad:Option Addr} {cap:Nat} {us:List Value} (hx:x=.slice ad ys.length cap) (hnil:ad=none->ys=[]/\cap=0) (hus:All2 (Rep cx F w) us (zcc cx el ys))
  (hcell:∀ ad',ad=some ad'->∀ (j:Nat) u,us[j]? =some u->w.cell? (ad'.add j)=some u) (hreach:(l.length+ys.length)*inf.bytes<=zbO) (hsmall:l.length+ys.length<=maxLen):
  ∃ v' w' xs,(Builtin.append_ #[T,T] tyr #[v,x]).run P w=.ok v' w'/\w.ownsRow 0 el (zl cx el) v l.length xs/\All2 (Rep cx F w) xs (zcc cx el l)/\w'.ownsRow 0 el (zl cx el) v' (l++ys).length (xs++us)/\w.grownBy w' (zS v)/\
   ∀ b,zS v'=some b->zS v=some b\/w.heap.size<=b:=by
 obtain ⟨info,desc,zv,hi,hu2,hs,hbb,hz,hzc,hzl,hz1,hd⟩:=(hcx.ti el _ hinf).ok;have hk:zl cx el=inf.size:=by simp [zl,hinf]
 have hzs:zv.cells.size=inf.size:=by rw [<- Array.length_toList,hzc,hzl]
 obtain ⟨xs,ho,ha⟩:=hrow
 have hbo:v.ownBlock=zS v:=by
  rcases ho.2 with ⟨rfl,_⟩ | ⟨g,cap',cur,rfl,_⟩ <;>rfl
 subst hx;cases ad with
 | none=>
  obtain ⟨rfl,rfl⟩:=hnil rfl;have hus0:us=[]:=hus.nil_left.1;subst hus0;have:=run_append_owned_none (P:=P) (w:=w) 0 T tyr el info (zl cx el) hu hi v l.length xs ho;exact ⟨v,w,xs,this,ho,ha,by simpa using ho,⟨rfl,rfl,rfl,Nat.le_refl _,λ_ _ _=>rfl⟩,λb hb=>.inl hb⟩
 | some ad'=>
  obtain ⟨v',w',hrun,hown,hg,_,hat⟩:=run_append_own_at (P:=P) w 0 T tyr el info zv (zl cx el) inf.bytes hu hi hz (by rw [hs,hk]) hbb (by rw [hzs,hk]) (by rw [hk]; omega) v l.length xs ho ad' ys.length cap us
   (by rw [hus.len,zJx hcx]) (hcell ad' rfl) (zPL hcx hus) hsmall (by unfold zbO at hreach; omega) (Nat.zero_le _)
  rw [hbo] at hg;refine ⟨v',w',xs,hrun,ho,ha,by rw [qg]; exact hown,hg,λb hb=> ?_⟩
  have hb':v'.ownBlock=some b:=by
   rcases hown.2 with ⟨rfl,_⟩ | ⟨g,cap',cur,rfl,_⟩
   ·simp [zS] at hb
   ·exact hb
  rcases hat with h | h
  ·left; rw [<- hbo, <- h]; exact hb'
  ·right; rw [h] at hb'; simp at hb'; omega
theorem zSD {dst:Option Tmp} {v:AV ty} {n m:Nat} {nb mb:Blk ty} {fz rd:List Nat}:(st.app dst { val:=v,wr:=[(n,nb),(m,mb)],fz:=fz,rd:=rd }).blk=λj=>(gD .none (((zbA st.blks fz).set n nb).set m mb) j):=by funext j; unfold St.blk; rw [St.app_blks]; rfl
theorem zXL {args:Array Operand} {ts:Array TypeId} (hcx:CxOK P cx) (ho:o.op=.call { callee:=.builtin .append,args:=args,argTypes:=ts }) (h:aop cx o st=some d) (hf:RF cx e st κ a w):o.wp P a w (λa' w'=>R cx e (st.app o.dst d) a' w') Q:=by
 unfold aop zdW at h;simp only [ho] at h;have hall:=zrd hf args.toList;have hex:=zqj (a:=a) ho;unfold zgj at h;generalize hts:ts.toList=tl at h;generalize hvs:args.toList.map st.ev=vl at h hall
 match tl,vl,h,hall with
 | [T,T2],[sv,xv],h,hall=>
  obtain ⟨u,us',hus,hu,h'⟩:=hall.inv;obtain ⟨u2,us2,hus2,hu2,h2⟩:=h'.inv;have h20:us2=[]:=h2.nil_left.1;subst h20; subst hus2;simp only at h;split at h
  ·rename_i hTT;have hTT:T=T2:=Nat.eq_of_beq_eq_true hTT;subst hTT;have hts':ts=#[T,T]:=by apply Array.ext'; exact hts
   have hargs:args.map a.eval=#[u,u2]:=by apply Array.ext'; rw [Array.toList_map]; exact hus
   have run:∀ v' w',(Builtin.append_ #[T,T] o.type #[u,u2]).run P w=.ok v' w'->(execOp a.eval o).run P w=.ok (.value v') w':=by
    intro v' w' hv';rw [hex,hts',hargs];simp only [builtin,Sem.run_bind,hv',Result.andThen_ok,Sem.run_pure]
   unfold zon at h;split at h
   ·rename_i el sz bz zz dd hT hdst;have hund:=zhn hcx hT;split at h
    ·cases h
    ·rename_i inf hinf;split at h
     ·cases h
     ·rename_i hz0;rw [Bool.or_eq_false_iff] at hz0;obtain ⟨hz0,hb0⟩:=hz0;have hz0:inf.size≠0:=by intro h0; rw [h0] at hz0; cases hz0
      have hb0:1<=inf.bytes:=by
       rcases Nat.eq_zero_or_pos inf.bytes with h | h
       ·rw [h] at hb0; cases hb0
       ·exact h
      split at h
      ·cases h
      ·rename_i ys rd hsrc
       -- the source
       obtain ⟨ad,cap,us,hx,hnil,hur,hcell⟩:∃ ad cap us,u2=.slice ad ys.length cap/\(ad=none->ys=[]/\cap=0)/\All2 (Rep cx (Fz e st.blk κ w) w) us (zcc cx el ys)/\
         ∀ ad',ad=some ad'->∀ (j:Nat) u,us[j]? =some u->w.cell? (ad'.add j)=some u:=by
        split at hsrc
        ·simp only [qa,qb] at hsrc;obtain ⟨rfl,_⟩:=hsrc;exact ⟨none,0,[],zbW hu2,λ_=>⟨rfl,rfl⟩,.nil,λ_ _ j u hu=>by simp at hu⟩
        ·simp only [qa,qb] at hsrc;obtain ⟨rfl,_⟩:=hsrc;exact ⟨_,_,[],zbW hu2,by simp,.nil,λ_ _ j u hu=>by simp at hu⟩
        ·split at hsrc
         ·rename_i T3 ys3 rd3 hl;cases hcst:ztZ T3 el ys3 with
          | none=>rw [hcst] at hsrc; cases hsrc
          | some ys4=>
           rw [hcst] at hsrc;simp only [Option.map_some,qa,qb] at hsrc;obtain ⟨rfl,_⟩:=hsrc;obtain ⟨rfl,rfl⟩:=zrA hcst;exact zNb hcx hf.rb hu2 hl
         ·cases hsrc
       split at h
       ·-- onto nil
        obtain ⟨hb,h⟩:=zdR h;obtain ⟨hfree,hreach⟩:=zhm hb;simp only [qe] at hreach;simp only [qa] at h; subst h;obtain ⟨hnone,hlt⟩:=zje hfree;have hv:=zbW hu;have hrow:zcn cx (Fz e st.blk κ w) w (.slice none 0 0) el ([]:List (ty el)):=⟨[],⟨by simp,.inl ⟨rfl,rfl⟩⟩,.nil⟩
        obtain ⟨v',w',xs,hrun,ho',ha,hown,hg,hblk⟩:=zRa (tyr:=o.type) hcx hund hinf hz0 hrow hx hnil hur hcell (by simpa using hreach) (by
         have:ys.length*1<=ys.length*inf.bytes:=Nat.mul_le_mul_left _ hb0;unfold zbO at hreach;simp only [maxLen,List.length_nil];omega)
        have hxs:xs=[]:=by
         have:=ho'.1; simp at this; exact this
        subst hxs;simp only [List.nil_append] at hown;have hdr:w.drawn<=w'.drawn:=zSK _ _ _ _ hrun
        have hst:=zrz (w':=w') (nb:=.arr el ys false) (v:=v') hf.rb hnone hlt hg.os hg.tape hg.output hg.size (λb hb=>hg.block b hb (by simp [zS]))
         (λb hb=>⟨(hblk b hb).resolve_left (by simp [zS]),ztR hown hb⟩)
         (λhc=>⟨us,hown,hur.imp λ_ _ h=>hc.rep' h⟩)
        refine zW (v:=v') (w':=w') (run v' w' (by rw [hv]; exact hrun)) ⟨_,hf.put (κ':=λi=>if i=zK dd then v' else κ i) ?_ ?_ (λ_=> ?_)⟩
        ·rw [zcP]; exact hst.1
        ·rw [zcP]; exact hst.2
        ·rw [zcP]
         have:=RepA.own (cx:=cx) (F:=Fz e (λj=>(gD .none ((zbA st.blks []).set (zK dd) (.arr el ys false)) j)) (λi=>if i=zK dd then v' else κ i) w') (w:=w')
          (kd:=λi=>((gD .none ((zbA st.blks []).set (zK dd) (.arr el ys false)) i)).kind cx) (κ:=λi=>if i=zK dd then v' else κ i) (zK dd) (zl cx el) ys.length (by
           rw [zbr,if_pos ⟨rfl,by rw [zgh]; exact hlt⟩]; rfl)
         simpa using this
       ·-- onto a row
        rename_i id;split at h
        ·rename_i T4 l4 hbl hrdf;obtain ⟨hrdc,hfree⟩:=zhm hrdf;split at h
         ·cases h
         ·rename_i l hcst;obtain ⟨hb,h⟩:=zdR h;simp only [qe] at hb;simp only [qa] at h; subst h;obtain ⟨rfl,rfl⟩:=zrA hcst;obtain ⟨hnone,hlt⟩:=zje hfree;have hbl0:(gD .none st.blks id)=.arr T4 l false:=hbl;have hidlt:id<st.blks.length:=zZ8 (cx:=cx) (by rw [hbl]; simp [Blk.kind])
          have hne:id≠zK dd:=by
           intro he; rw [he] at hbl; rw [hnone] at hbl; cases hbl
          cases hu with
          | rep hu=>cases hu
          | own _ k m hk=>
           obtain ⟨v',w',xs,hrun,ho',ha,hown,hg,hblk⟩:=zRa (tyr:=o.type) hcx hund hinf hz0 (hf.rb.row hbl) hx hnil hur hcell hb (by
            have:(l.length+ys.length)*1<=(l.length+ys.length)*inf.bytes:=Nat.mul_le_mul_left _ hb0;unfold zbO at hb;simp only [maxLen];omega)
           have huf:(st.blk id).unfz:=by rw [hbl]; rfl
           have hdr:w.drawn<=w'.drawn:=zSK _ _ _ _ hrun
           have hst:=hf.rb.step (B':=λj=>(gD .none (((zbA st.blks []).set id .dead).set (zK dd) (.arr T4 (l++ys) false)) j)) (κ':=λi=>if i=zK dd then v' else κ i) (w':=w') (λi=>i=id\/i=zK dd)
            hg.os hg.tape hg.output hg.size (λb hb2=>by
             by_cases hbb:zS (κ id)=some b
             ·exact .inr ⟨id,.inl rfl,huf,hbb⟩
             ·exact .inl (hg.block b hb2 (λhh=>hbb hh.symm)))
            (λi hi=>by
             have h1:¬ i=id:=λhh=>hi (.inl hh)
             have h2:¬ i=zK dd:=λhh=>hi (.inr hh)
             refine ⟨?_,by simp [h2]⟩
             change (gD .none (((zbA st.blks []).set id .dead).set (zK dd) (.arr T4 (l++ys) false)) i)=st.blk i
             rw [zbr,if_neg (λhh=>h2 hh.1.symm),zbr,if_neg (λhh=>h1 hh.1.symm)]
             rfl)
            (λi hi hk2=>by
             rcases hi with rfl | rfl
             ·right
              change Blk.kind cx ((gD .none (((zbA st.blks []).set i .dead).set (zK dd) (.arr T4 (l++ys) false)) i))=_
              rw [zbr,if_neg (λhh=>hne hh.1.symm),zbr,if_pos ⟨rfl,by rw [zgh]; exact hidlt⟩]
              rfl
             ·exact absurd (by rw [hnone]; rfl) hk2)
            (λi b hi hl hb2=>by
             rcases hi with rfl | rfl
             ·exfalso
              have:(gD .none (((zbA st.blks []).set i .dead).set (zK dd) (.arr T4 (l++ys) false)) i)=.dead:=by
               rw [zbr,if_neg (λhh=>hne hh.1.symm),zbr,if_pos ⟨rfl,by rw [zgh]; exact hidlt⟩]
              rw [this] at hl;exact hl
             ·simp only [if_true] at hb2;refine ⟨ztR hown hb2, ?_⟩;rcases hblk b hb2 with h3 | h3
              ·exact .inl ⟨id,.inl rfl,huf,h3⟩
              ·exact .inr h3)
            (λi j b hi hj hl hu2 _ _=>by
             have dead:¬ ((gD .none (((zbA st.blks []).set id .dead).set (zK dd) (.arr T4 (l++ys) false)) id)).live:=by
              rw [zbr,if_neg (λhh=>hne hh.1.symm),zbr,if_pos ⟨rfl,by rw [zgh]; exact hidlt⟩]
              exact λhh=>hh
             rcases hi with rfl | rfl
             ·exact absurd hl dead
             ·rcases hj with rfl | rfl
              ·exact absurd hu2.live dead
              ·rfl)
            (λi hi hc=>by
             rcases hi with rfl | rfl
             ·have:(gD .none (((zbA st.blks []).set i .dead).set (zK dd) (.arr T4 (l++ys) false)) i)=.dead:=by
               rw [zbr,if_neg (λhh=>hne hh.1.symm),zbr,if_pos ⟨rfl,by rw [zgh]; exact hidlt⟩]
              rw [this]; trivial
             ·have:(gD .none (((zbA st.blks []).set id .dead).set (zK dd) (.arr T4 (l++ys) false)) (zK dd))=.arr T4 (l++ys) false:=by
               rw [zbr,if_pos ⟨rfl,by rw [List.length_set,zgh]; exact hlt⟩]
              rw [this];simp only [if_true];refine ⟨xs++us,hown, ?_⟩;unfold zcc;rw [List.flatMap_append];exact (ha.imp λ_ _ h=>hc.rep' h).append (hur.imp λ_ _ h=>hc.rep' h))
           refine zW (v:=v') (w':=w') (run v' w' hrun) ⟨_,hf.put (κ':=λi=>if i=zK dd then v' else κ i) ?_ ?_ (λ_=> ?_)⟩
           ·rw [zSD]; exact hst.1
           ·rw [zSD]; exact hst.2
           ·rw [zSD]
            have:=RepA.own (cx:=cx) (F:=Fz e (λj=>(gD .none (((zbA st.blks []).set id .dead).set (zK dd) (.arr T4 (l++ys) false)) j)) (λi=>if i=zK dd then v' else κ i) w') (w:=w')
             (kd:=λi=>((gD .none (((zbA st.blks []).set id .dead).set (zK dd) (.arr T4 (l++ys) false)) i)).kind cx) (κ:=λi=>if i=zK dd then v' else κ i) (zK dd) (zl cx T4) (l++ys).length (by
              rw [zbr,if_pos ⟨rfl,by rw [List.length_set,zgh]; exact hlt⟩]; rfl)
            simpa using this
          | ownD _ _ hk=>simp [hbl,Blk.kind] at hk
        ·cases h
       ·cases h
   ·cases h
  ·have hargs2:args.map a.eval=#[u,u2]:=by apply Array.ext'; rw [Array.toList_map]; exact hus
   exact zXk hcx (by apply Array.ext'; exact hts) hargs2 hu hu2 hex h hf
theorem zUV:∀ (cs:List (AV ty)) (us:List Value) (ns:List Int),All2 (Rep cx (Fz e st.blk κ w) w) us cs->bytesOf cs=some ns->us=ns.map (Value.int .u8)
 | [],us,ns,h,hb=>by
  simp only [bytesOf,qa] at hb; subst hb;exact h.nil_left.1
 | c::cs,us,ns,h,hb=>by
  obtain ⟨u,us',rfl,hu,h'⟩:=h.inv;unfold bytesOf at hb;split at hb
  ·rename_i e; cases e
  ·rename_i n r e;simp only [qj] at e;obtain ⟨rfl,rfl⟩:=e;split at hb
   ·rename_i ns' hns;simp only [qa] at hb; subst hb;cases hu;rw [zUV cs us' ns' h' hns]; rfl
   ·cases hb
  ·cases hb
theorem zXe {S D:Nat} {x:Operand} (hcx:CxOK P cx) (ho:o.op=.convert S D x) (h:aop cx o st=some d) (hf:RF cx e st κ a w):o.wp P a w (λa' w'=>R cx e (st.app o.dst d) a' w') Q:=by
 unfold aop zdW at h;simp only [ho] at h;have hx:=zbY hf x;split at h
 ·rename_i k1 s1 b1 z1 k2 s2 b2 z2 k n hS hD hex;rw [hex] at hx;simp only [qa] at h; subst h;exact zW (v:=.int k2 (k2.wrap n)) (w':=w) (by simp only [execOp,ho,zbW hx,convert,zcR (zvL hcx hS),zcR (zvL hcx hD),Conv.intToInt,Sem.run_bind,Sem.run_pure,Result.andThen_ok]) (hf.val (.rep (.lit _)))
 ·rename_i s1 b1 z1 s2 b2 z2 s hS hD hex;rw [hex] at hx;simp only [qa] at h; subst h;exact zW (v:=.string s) (w':=w) (by simp only [execOp,ho,zbW hx,convert,zcR (zsf hcx hS),zcR (zsf hcx hD),Sem.run_bind,Sem.run_pure,Result.andThen_ok]) (hf.val (.rep (.lit _)))
 ·rename_i e1 s1 b1 z1 s2 b2 z2 hS hD;split at h
  ·rename_i s3 b3 z3 T' l rd he hl;split at h
   ·rename_i ns hk hns;simp only [qa] at h; subst h;simp only [qc] at hk;have hk1:=Nat.eq_of_beq_eq_true hk.1;have hk2:=Nat.eq_of_beq_eq_true hk.2;subst hk1 hk2;obtain ⟨ad,cap,us,hv,hnil,hrep,hcells⟩:=zNb hcx hf.rb hx hl;have hus:=zUV _ us ns hrep hns;refine zW (v:=.string (ns.foldl (λr n=>r.push (UInt8.ofNat n.toNat)) ByteArray.empty)) (w':=w) ?_ (hf.val (.rep (.lit _)))
    simp only [execOp,ho,hv,run_convert_bytes_string w S D e1 ad _ cap (zhn hcx hS) (zvL hcx he) (zsf hcx hD),Sem.run_bind];cases ad with
    | none=>
     obtain ⟨rfl,rfl⟩:=hnil rfl;simp only [List.flatMap_nil,bytesOf,qa] at hns;subst hns;simp [Conv.bytesToString,Sem.run_pure]
    | some ad=>
     have hlen:(loadCells ad l.length).run P w=.ok (ns.map (Value.int .u8)).toArray w:=by
      have h1:=run_loadCells_list (P:=P) w ad (ns.map (Value.int .u8)) (λj u hj=>hcells ad rfl j u (by rw [hus]; exact hj))
      have h2:(ns.map (Value.int .u8)).length=l.length:=by
       rw [<- hus,hrep.len,zJx hcx,show zl cx e1=1 by unfold zl; rw [he]]; omega
      rwa [h2] at h1
     rw [run_bytesToString w ad _ cap ns hlen]; rfl
   ·cases h
  ·cases h
 ·cases h
end
end
end Go.Ab
