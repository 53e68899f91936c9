/- Texts of this claim, joined (an interpreter of the code over typed data, and its soundness). -/
import Derived.Laws.StructEq
import Derived.ProofKit
import Derived.ChangeSame
import Derived.ChangeVars
import Derived.JoinedOf
import Derived.RowKit
import Derived.RowKitTokens
import Derived.LaidLaws
import Derived.LaidHandle
import Derived.Stop.Joined
import Derived.Deep.DeepLaidRun
import Derived.Lib.Bytealg
import Derived.Test.YtoknknbmfmddbaaGreatDoorGA2
set_option autoImplicit false
set_option linter.unusedVariables false
set_option linter.unusedSectionVars false
set_option linter.unusedSimpArgs false
/- Typed data as cells: z5m, and their laws. -/
namespace Go.Ab
noncomputable section
variable {ty:Nat->Type}
def zbl8 (c:AV ty):Prop:=match c with | .lit v=>zbJ v=true | .agg _ | .tup _ | .dead=>False | _=>True
structure DT (ty:Nat->Type) (α:Type) where
 size:Nat
 dec:List (AV ty)->Option α
 enc:α->List (AV ty)
 len:∀ x,(enc x).length=size
 cell:∀ x c,c∈enc x->zbl8 c
 ok:∀ (cx:Cx ty) (F:Nat->Prop) (w:World) (us:List Value) (cs:List (AV ty)) (x:α),dec cs=some x->All2 (Rep cx F w) us cs->All2 (Rep cx F w) us (enc x)
def ztp (k:IntKind):DT ty Int where
 size:=1
 dec:=λcs=>match cs with | [.lit (.int k' n)]=>if k'=k then some n else none | _=>none
 enc:=λn=>[.lit (.int k n)]
 len:=λ_=>rfl
 cell:=λx c h=>by simp at h; subst h; rfl
 ok:=λcx F w us cs x h hr=>by
  split at h
  ·split at h
   ·rename_i hk; subst hk; simp only [q0] at h; subst h; exact hr
   ·cases h
  ·cases h
def zblY:DT ty Bool where
 size:=1
 dec:=λcs=>match cs with | [.lit (.bool n)]=>some n | _=>none
 enc:=λn=>[.lit (.bool n)]
 len:=λ_=>rfl
 cell:=λx c h=>by simp at h; subst h; rfl
 ok:=λcx F w us cs x h hr=>by
  split at h
  ·simp only [q0] at h; subst h; exact hr
  ·cases h
def zbbA:DT ty ByteArray where
 size:=1
 dec:=λcs=>match cs with | [.lit (.string n)]=>some n | _=>none
 enc:=λn=>[.lit (.string n)]
 len:=λ_=>rfl
 cell:=λx c h=>by simp at h; subst h; rfl
 ok:=λcx F w us cs x h hr=>by
  split at h
  ·simp only [q0] at h; subst h; exact hr
  ·cases h
def zbnX:DT ty Unit where
 size:=1
 dec:=λ_=>none
 enc:=λ_=>[.lit (.map none)]
 len:=λ_=>rfl
 cell:=λx c h=>by simp at h; subst h; rfl
 ok:=λcx F w us cs x h hr=>by cases h
def zlK (e:Nat):DT ty (List (ty e)) where
 size:=1
 dec:=λcs=>match cs with | [a]=>z7u e a | _=>none
 enc:=λl=>[.sl e l]
 len:=λ_=>rfl
 cell:=λx c h=>by simp at h; subst h; trivial
 ok:=λcx F w us cs x h hr=>by
  split at h
  ·obtain ⟨u,us,rfl,hu,hus⟩:=hr.inv;rw [hus.nil_left.1];exact .cons (zLs hu h) .nil
  ·cases h
def zkF {α β:Type} (a:DT ty α) (b:DT ty β):DT ty (α×β) where
 size:=a.size+b.size
 dec:=λcs=>match a.dec (cs.take a.size),b.dec (cs.drop a.size) with
  | some x,some y=>some (x,y)
  | _,_=>none
 enc:=λx=>a.enc x.1++b.enc x.2
 len:=λx=>by rw [qf,a.len,b.len]
 cell:=λx c h=>by
  rcases q12.1 h with h | h
  ·exact a.cell _ c h
  ·exact b.cell _ c h
 ok:=λcx F w us cs x h hr=>by
  split at h
  ·rename_i x1 y1 h1 h2;simp only [q0] at h; subst h;have e1:=a.ok cx F w _ _ x1 h1 (hr.take a.size);have e2:=b.ok cx F w _ _ y1 h2 (hr.drop a.size);have:=e1.append e2
   rwa [List.take_append_drop] at this
  ·cases h
def zCn {α β:Type} (f:α->β) (g:β->α) (hgf:∀ x,g (f x)=x) (a:DT ty α):DT ty β where
 size:=a.size
 dec:=λcs=>match a.dec cs with
  | some x=>some (f x)
  | none=>none
 enc:=λy=>a.enc (g y)
 len:=λy=>a.len _
 cell:=λy c h=>a.cell _ c h
 ok:=λcx F w us cs x h hr=>by
  split at h
  ·rename_i x1 h1;simp only [q0] at h; subst h;rw [hgf];exact a.ok cx F w us cs x1 h1 hr
  ·cases h
def zblU {α:Type}:DT ty α where
 size:=0
 dec:=λ_=>none
 enc:=λ_=>[]
 len:=λ_=>rfl
 cell:=λx c h=>by cases h
 ok:=λcx F w us cs x h hr=>by cases h
def zbdd:List ((T:Nat)×DT ty (ty T))->(T:Nat)->DT ty (ty T)
 | [],_=>zblU
 | ⟨T',d⟩::r,T=>if h:T'=T then h ▸ d else zbdd r T
theorem zbci:∀ (l:List ((T:Nat)×DT ty (ty T))) (tis:List (Nat×TInfo)),(l.map λp=>(p.1,p.2.size))=(tis.map λp=>(p.1,p.2.size))->∀ T,(zbdd l T).size=match tis.lookup T with | some i=>i.size | none=>0
 | [],[],_,T=>rfl
 | [],_::_,h,T=>by simp at h
 | _::_,[],h,T=>by simp at h
 | ⟨T',d⟩::r,(T2,i)::tis,h,T=>by
  simp only [q1q,qp,qe] at h;obtain ⟨⟨rfl,hs⟩,hr⟩:=h;simp only [zbdd,List.lookup_cons];by_cases hT:T'=T
  ·subst hT;simp [hs]
  ·have:(T==T')=false:=by simp; exact λh=>hT h.symm
   rw [dif_neg hT,this];exact zbci r tis hr T
theorem zJO {α:Type}:∀ (l:List (Nat×α)) (T:Nat) (x:α),l.lookup T=some x->(T,x)∈l
 | [],T,x,h=>by simp at h
 | (T',y)::r,T,x,h=>by
  simp only [List.lookup_cons] at h;split at h
  ·rename_i hb;have:=beq_iff_eq.1 hb;simp only [q0] at h;subst this h;simp
  ·exact q1y _ (zJO r T x h)
def zbm:List TD->List Value->List Value->Option Bool
 | [],[],[]=>some true
 | .int k::ts,.int k1 a::us,.int k2 b::vs=>match zbm ts us vs with
  | some r=>if k1=k/\k2=k then some (a==b&&r) else none
  | none=>none
 | .bool::ts,.bool a::us,.bool b::vs=>match zbm ts us vs with
  | some r=>some (a==b&&r)
  | none=>none
 | .str::ts,.string a::us,.string b::vs=>match zbm ts us vs with
  | some r=>some (a.toList==b.toList&&r)
  | none=>none
 | _,_,_=>none
def z6Y (e:TypeDesc):Prop:=match e with | .struct _ | .array _ _=>False | _=>True
theorem zVu (P:Program) (d:Nat) (xs ys:Array Value) (w:World):∀ (ts:List TD) (fs:List Field) (us vs:List Value) (i:Nat) (r:Bool),fs.length=ts.length->
  (∀ (j:Nat) f t,fs[j]? =some f->ts[j]? =some t->f.offset=i+j/\f.name≠ "_"/\∃ e,P.underlying f.type=some e/\zzJ P t e)->xs.toList.drop i=us->ys.toList.drop i=vs->zbm ts us vs=some r->
  (Op.eqFields (d+1) xs ys fs).run P w=.ok r w
 | [],fs,us,vs,i,r,hl,hf,hu,hv,h=>by
  obtain rfl:fs=[]:=q1a hl;cases us <;>cases vs <;>simp [zbm] at h
  subst h;simp [Op.eqFields]
 | t::ts,[],us,vs,i,r,hl,hf,hu,hv,h=>by simp at hl
 | t::ts,f::fs,us,vs,i,r,hl,hf,hu,hv,h=>by
  obtain ⟨h1,h2,e,h3,h4⟩:=hf 0 f t rfl rfl
  have hrest:∀ (u v:Value) (us' vs':List Value) (r':Bool),us=u::us'->vs=v::vs'->zbm ts us' vs'=some r'->(Op.eqFields (d+1) xs ys fs).run P w=.ok r' w:=by
   intro u v us' vs' r' e1 e2 he;refine zVu P d xs ys w ts fs us' vs' (i+1) r' (by simpa using hl) (λj f' t' hj ht=> ?_) ?_ ?_ he
   ·have:=hf (j+1) f' t' (by simpa using hj) (by simpa using ht)
    rw [show i+1+j=i+(j+1) by omega]; exact this
   ·rw [<- List.drop_drop,hu,e1]; rfl
   ·rw [<- List.drop_drop,hv,e2]; rfl
  have hget:∀ (zs:Array Value) (z:Value) (zs':List Value),zs.toList.drop i=z::zs'->zs[f.offset]? =some z:=λzs z zs' hz=>by
   rw [h1];have:(zs.toList.drop i)[0]? =some z:=by rw [hz]; rfl
   rw [q2c] at this
   simpa using this
  have hpart:∀ (zs:Array Value) (z:Value),zs[f.offset]? =some z->z6Y e->(part f.type zs f.offset).run P w=.ok z w:=by
   intro zs z hz hno;have:(isAgg f.type).run P w=.ok false w:=by cases e <;>simp_all [isAgg,run_underlying h3,z6Y]
   simp [part,this,hz]
  have step:∀ (u v:Value) (us' vs':List Value) (q r':Bool),us=u::us'->vs=v::vs'->zbm ts us' vs'=some r'->(Op.equalIn (d+1) f.type u v).run P w=.ok q w->z6Y e->
    (Op.eqFields (d+1) xs ys (f::fs)).run P w=.ok (q&&r') w:=by
   intro u v us' vs' q r' e1 e2 he hq hno;have p1:=hpart xs u (hget xs u us' (hu.trans e1)) hno;have p2:=hpart ys v (hget ys v vs' (hv.trans e2)) hno;have hr:=hrest u v us' vs' r' e1 e2 he;simp only [Op.eqFields,if_pos h2,Sem.run_bind,p1,p2,Result.andThen_ok,hq,Sem.run_ite];cases q
   ·simp
   ·simp [hr]
  cases t with
  | int k=>
   cases us with
   | nil=>simp [zbm] at h
   | cons u us=>cases vs with
    | nil=>cases u <;>simp [zbm] at h
    | cons v vs=>
     cases u <;>cases v <;>simp only [zbm,reduceCtorEq] at h
     split at h
     ·rename_i r' he;split at h
      ·rename_i hk;obtain ⟨rfl,rfl⟩:=hk;simp only [q0] at h; subst h;simp only [zzJ] at h4;subst h4;exact step _ _ us vs _ r' rfl rfl he (run_equalIn_int w d f.type _ _ _ _ h3) trivial
      ·cases h
     ·cases h
  | bool=>
   cases us with
   | nil=>simp [zbm] at h
   | cons u us=>cases vs with
    | nil=>cases u <;>simp [zbm] at h
    | cons v vs=>
     cases u <;>cases v <;>simp only [zbm,reduceCtorEq] at h
     split at h
     ·rename_i r' he;simp only [q0] at h; subst h;simp only [zzJ] at h4;subst h4;exact step _ _ us vs _ r' rfl rfl he (run_equalIn_bool' w d f.type _ _ h3) trivial
     ·cases h
  | str=>
   cases us with
   | nil=>simp [zbm] at h
   | cons u us=>cases vs with
    | nil=>cases u <;>simp [zbm] at h
    | cons v vs=>
     cases u <;>cases v <;>simp only [zbm,reduceCtorEq] at h
     split at h
     ·rename_i r' he;simp only [q0] at h; subst h;simp only [zzJ] at h4;subst h4;exact step _ _ us vs _ r' rfl rfl he (run_equalIn_string w d f.type _ _ h3) trivial
     ·cases h
  | slice _=>cases us <;>simp [zbm] at h
  | struct _=>cases us <;>simp [zbm] at h
  | iface=>cases us <;>simp [zbm] at h
  | map _ _=>cases us <;>simp [zbm] at h
  | other=>cases us <;>simp [zbm] at h
theorem z2u:∀ (ts:List TD) (us:List Value) (b:Bool),zbm ts us us=some b->b=true
 | [],us,b,h=>by
  cases us with
  | nil=>simp only [zbm,q0] at h; exact h.symm
  | cons u us=>simp [zbm] at h
 | t::ts,us,b,h=>by
  cases us with
  | nil=>cases t <;>simp [zbm] at h
  | cons u us=>
   cases t <;>cases u <;>simp only [zbm,reduceCtorEq] at h
   all_goals
    cases hr:zbm ts us us with
    | none=>rw [hr] at h; cases h
    | some r=>
     have:=z2u ts us r hr;subst this;rw [hr] at h;simp at h
     first | exact h | exact h.2 | exact h.symm | exact h.2.symm
theorem z6f:∀ (ts:List TD) (us vs:List Value),zbm ts us us=some true->zbm ts vs vs=some true->zbm ts us vs=some (zxQ us vs)/\(zxQ us vs=true->us=vs)/\∀ u∈us,∀ n,Instr.sameBits n u u=true
 | [],us,vs,hu,hv=>by
  cases us <;>cases vs <;>simp [zbm] at hu hv ⊢
  simp [zxQ]
 | t::ts,us,vs,hu,hv=>by
  have fin:∀ (u v:Value) (us' vs':List Value),us=u::us'->vs=v::vs'->zbm ts us' us'=some true->zbm ts vs' vs'=some true->(∀ r,zbm ts us' vs'=some r->zbm (t::ts) (u::us') (v::vs')=some (zPv u v&&r))->
    (zPv u v=true->u=v)->(∀ n,Instr.sameBits n u u=true)->zbm (t::ts) us vs=some (zxQ us vs)/\(zxQ us vs=true->us=vs)/\∀ u∈us,∀ n,Instr.sameBits n u u=true:=by
   rintro u v us' vs' rfl rfl h1 h2 h3 h4 h5
   obtain ⟨i1,i2,i3⟩:=z6f ts us' vs' h1 h2;refine ⟨by rw [h3 _ i1]; rfl,λh=> ?_,λx hx=> ?_⟩
   ·simp only [zxQ,qa] at h;rw [h4 h.1,i2 h.2]
   ·rcases q8.1 hx with rfl | hx
    ·exact h5
    ·exact i3 x hx
  cases t with
  | int k=>
   cases us with
   | nil=>simp [zbm] at hu
   | cons u us=>cases vs with
    | nil=>simp [zbm] at hv
    | cons v vs=>
     cases u <;>simp only [zbm,reduceCtorEq] at hu
     cases v <;>simp only [zbm,reduceCtorEq] at hv
     rename_i k1 a k2 b;split at hu
     ·rename_i r hr;split at hu
      ·rename_i hk;split at hv
       ·rename_i r2 hr2;split at hv
        ·rename_i hk2;obtain ⟨rfl,_⟩:=hk;obtain ⟨rfl,_⟩:=hk2;simp only [beq_self_eq_true,q1j,q0] at hu hv; subst hu hv;refine fin _ _ us vs rfl rfl hr hr2 (λr he=>by simp [zbm,he,zPv]) (λh=>by simp [zPv] at h; rw [h]) (λn=>by cases n <;>simp [Instr.sameBits])
        ·cases hv
       ·cases hv
      ·cases hu
     ·cases hu
  | bool=>
   cases us with
   | nil=>simp [zbm] at hu
   | cons u us=>cases vs with
    | nil=>simp [zbm] at hv
    | cons v vs=>
     cases u <;>simp only [zbm,reduceCtorEq] at hu
     cases v <;>simp only [zbm,reduceCtorEq] at hv
     split at hu
     ·rename_i r hr;split at hv
      ·rename_i r2 hr2;simp only [beq_self_eq_true,q1j,q0] at hu hv; subst hu hv;refine fin _ _ us vs rfl rfl hr hr2 (λr he=>by simp [zbm,he,zPv]) (λh=>by simp [zPv] at h; rw [h]) (λn=>by cases n <;>simp [Instr.sameBits])
      ·cases hv
     ·cases hu
  | str=>
   cases us with
   | nil=>simp [zbm] at hu
   | cons u us=>cases vs with
    | nil=>simp [zbm] at hv
    | cons v vs=>
     cases u <;>simp only [zbm,reduceCtorEq] at hu
     cases v <;>simp only [zbm,reduceCtorEq] at hv
     rename_i a b;split at hu
     ·rename_i r hr;split at hv
      ·rename_i r2 hr2;simp only [beq_self_eq_true,q1j,q0] at hu hv; subst hu hv;refine fin _ _ us vs rfl rfl hr hr2 (λr he=>by simp [zbm,he,zPv]) (λh=> ?_) (λn=> ?_)
       ·have h:(a.toList==b.toList)=true:=h;rw [beq_iff_eq] at h;rw [ByteArray.toList_eq,ByteArray.toList_eq] at h;have:a=b:=by cases a; cases b; congr 1; exact Array.toList_inj.1 h
        rw [this]
       ·have:(a==a)=true:=by
         obtain ⟨a⟩:=a;show (a==a)=true;simp
        cases n <;>simp only [Instr.sameBits,this]
      ·cases hv
     ·cases hu
  | slice _=>cases us <;>simp [zbm] at hu
  | struct _=>cases us <;>simp [zbm] at hu
  | iface=>cases us <;>simp [zbm] at hu
  | map _ _=>cases us <;>simp [zbm] at hu
  | other=>cases us <;>simp [zbm] at hu
theorem zbeQ {t:TD} {ts:List TD} {u:Value} {us vs:List Value} {b:Bool} (h:zbm (t::ts) (u::us) vs=some b):
  (∃ v vs' r,vs=v::vs'/\zbm ts us vs'=some r)/\((∃ k a,t=.int k/\u=.int k a)\/(∃ a,t=.bool/\u=.bool a)\/∃ a,t=.str/\u=.string a):=by
 cases vs with
 | nil=>cases t <;>cases u <;>simp [zbm] at h
 | cons v vs=>cases t with
  | int k=>
   cases u <;>cases v <;>simp only [zbm,reduceCtorEq] at h
   split at h
   ·rename_i r hr;split at h
    ·rename_i hk;obtain ⟨rfl,_⟩:=hk;exact ⟨⟨_,_,_,rfl,hr⟩,.inl ⟨_,_,rfl,rfl⟩⟩
    ·cases h
   ·cases h
  | bool=>
   cases u <;>cases v <;>simp only [zbm,reduceCtorEq] at h
   split at h
   ·rename_i r hr;exact ⟨⟨_,_,_,rfl,hr⟩,.inr (.inl ⟨_,rfl,rfl⟩)⟩
   ·cases h
  | str=>
   cases u <;>cases v <;>simp only [zbm,reduceCtorEq] at h
   split at h
   ·rename_i r hr;exact ⟨⟨_,_,_,rfl,hr⟩,.inr (.inr ⟨_,rfl,rfl⟩)⟩
   ·cases h
  | slice _=>simp [zbm] at h
  | struct _=>simp [zbm] at h
  | iface=>simp [zbm] at h
  | map _ _=>simp [zbm] at h
  | other=>simp [zbm] at h
theorem z8w {P:Program} {T:Nat} {t:TD} {e:TypeDesc} (h3:P.underlying T=some e) (h4:zzJ P t e) {u:Value} (hl:(∃ k a,t=.int k/\u=.int k a)\/(∃ a,t=.bool/\u=.bool a)\/∃ a,t=.str/\u=.string a) (em:Bool) (n:Nat) (w:World):
  (Instr.checkKey em (n+1) T u).run P w=.ok () w/\z6Y e:=by
 rcases hl with ⟨k,a,rfl,rfl⟩ | ⟨a,rfl,rfl⟩ | ⟨a,rfl,rfl⟩ <;>simp only [zzJ] at h4 <;>subst h4 <;>exact ⟨by simp [Instr.checkKey,run_underlying h3],trivial⟩
theorem zbdD {P:Program} (em:Bool) (n:Nat) (xs:Array Value) (w:World):∀ (ts:List TD) (fs:List Field) (us vs:List Value) (i:Nat) (r:Bool),fs.length=ts.length->
  (∀ (j:Nat) f t,fs[j]? =some f->ts[j]? =some t->f.offset=i+j/\f.name≠ "_"/\∃ e,P.underlying f.type=some e/\zzJ P t e)->xs.toList.drop i=us->zbm ts us vs=some r->
  (forIn fs PUnit.unit λf _=>do
   if f.name≠ "_" then Instr.checkKey em (n+1) f.type (<- part f.type xs f.offset)
   pure (ForInStep.yield PUnit.unit):Sem PUnit).run P w=.ok () w
 | [],fs,us,vs,i,r,hl,hf,hu,h=>by
  obtain rfl:fs=[]:=q1a hl;rfl
 | t::ts,[],us,vs,i,r,hl,hf,hu,h=>by simp at hl
 | t::ts,f::fs,us,vs,i,r,hl,hf,hu,h=>by
  obtain ⟨h1,h2,e,h3,h4⟩:=hf 0 f t rfl rfl;cases us with
  | nil=>cases t <;>cases vs <;>simp [zbm] at h
  | cons u us=>
   obtain ⟨⟨v,vs',r',rfl,he⟩,hl'⟩:=zbeQ h;obtain ⟨hck,hno⟩:=z8w h3 h4 hl' em n w
   have hrest:=zbdD em n xs w ts fs us vs' (i+1) r' (by simpa using hl) (λj f' t' hj ht=>by
    have:=hf (j+1) f' t' (by simpa using hj) (by simpa using ht)
    rw [show i+1+j=i+(j+1) by omega]; exact this) (by rw [<- List.drop_drop,hu]; rfl) he
   have hget:xs[f.offset]? =some u:=by
    rw [h1];have:(xs.toList.drop i)[0]? =some u:=by rw [hu]; rfl
    rw [q2c] at this
    simpa using this
   have hpart:(part f.type xs f.offset).run P w=.ok u w:=by
    have:(isAgg f.type).run P w=.ok false w:=by cases e <;>simp_all [isAgg,run_underlying h3,z6Y]
    simp [part,this,hget]
   simp only [List.forIn_cons,ne_eq,if_pos h2,Sem.run_bind,hpart,hck,Result.andThen_ok,Sem.run_pure]
   simpa using hrest
theorem zTA {P:Program} {T:Nat} (fs:List Field) (ts:List TD) (ht:P.underlying T=some (.struct fs.toArray)) (hp:P.stoodInHeld T=false) (hg:P.eqGuardType P.depth T=false) (hlen:fs.length=ts.length)
  (hf:∀ (j:Nat) f t,fs[j]? =some f->ts[j]? =some t->f.offset=0+j/\f.name≠ "_"/\∃ e,P.underlying f.type=some e/\zzJ P t e) {us vs:List Value} {b:Bool} (h:zbm ts us vs=some b) (w:World):
  zbgn P T us vs b w:=by
 have hfo:P.fieldsOf T=fs.toArray:=by unfold Program.fieldsOf; rw [ht]
 have:(Op.equalIn (9999+1) T (.agg us.toArray) (.agg vs.toArray)).run P w=.ok b w:=by
  rw [run_equalIn_struct w 9999 T _ _ (by rw [hfo]; exact ht) hp,hfo]
  exact zVu P 9998 us.toArray vs.toArray w ts fs us vs 0 b hlen hf (by simp) (by simp) h
 refine ⟨?_, ?_,λop x y=>run_eqGuard_agg w op T x y _ _ hg,this,λe n=> ?_,_,ht⟩
 ·rw [run_eql_struct,this]; rfl
 ·rw [run_neq_struct,this]; rfl
 ·have hk:=zbdD (P:=P) e n us.toArray w ts fs us vs 0 b hlen hf (by simp) h
  rw [Instr.checkKey];simp only [Sem.run_bind,run_underlying ht,Result.andThen_ok];simp only [List.forIn_toArray];exact (congrArg (λz=>Result.andThen z λa w'=>Result.ok () w') (by simpa using hk)).trans rfl
end
end Go.Ab
/- What is read of an argument is typed data. -/
namespace Go.Ab
noncomputable section
variable {ty:Nat->Type}
section
variable {P:Program} {cx:Cx ty} {W:(T:Nat)->ty T->Prop}
def In (w:World) (b:Nat):Prop:=b<w.heap.size
def zlL (P:Program) (cx:Cx ty) (W:(T:Nat)->ty T->Prop) (T:Nat):Prop:=
 ∀ (H:Type) (en:TypeId×Value->H) (w:World) (sp:Nat->Bool) (held:Bool) (fuel:Nat) (cs:List Value) (y:DataW H×List MemPlace),DataW.trod en P w 0 sp held fuel T cs=some y->(DataW.weights P T y.1).all (· <=reachBytes)=true->
  ∃ x:ty T,All2 (Rep cx (In w) w) cs (cx.enc T x)/\W T x
def zt3 (P:Program) (cx:Cx ty) (W:(T:Nat)->ty T->Prop) (m:Nat) (T:Nat):Prop:=
 ∀ (H:Type) (en:TypeId×Value->H) (w:World) (sp:Nat->Bool) (held:Bool) (fuel:Nat) (cs:List Value) (y:DataW H×List MemPlace),fuel<=m->DataW.trod en P w 0 sp held fuel T cs=some y->(DataW.weights P T y.1).all (· <=reachBytes)=true->
  ∃ x:ty T,All2 (Rep cx (In w) w) cs (cx.enc T x)/\W T x
theorem zlL.at {W:(T:Nat)->ty T->Prop} {T:Nat} (h:zlL P cx W T) (m:Nat):zt3 P cx W m T:=λH en w sp held fuel cs y _=>h H en w sp held fuel cs y
theorem zbhu {W:(T:Nat)->ty T->Prop} {T:Nat} (h:∀ m,zt3 P cx W m T):zlL P cx W T:=λH en w sp held fuel cs y hy hz=>h fuel H en w sp held fuel cs y (qn _) hy hz
theorem zqH {W:(T:Nat)->ty T->Prop} {T:Nat}:zt3 P cx W 0 T:=λH en w sp held fuel cs y hf h hz=>by
 obtain rfl:fuel=0:=by omega
 simp [DataW.trod] at h
def z6:Nat:=140737488351232
theorem zS9 {H:Type} {P:Program} {e:Nat}:∀ {l:List (DataW H)},(DataW.weightsAll P e l).all (· <=reachBytes)=true->∀ d∈l,(DataW.weights P e d).all (· <=reachBytes)=true
 | [],_,d,hd=>by cases hd
 | x::r,h,d,hd=>by
  simp only [DataW.weightsAll,q37,qa] at h;rcases q8.1 hd with rfl | hd
  ·exact h.1
  ·exact zS9 h.2 d hd
theorem zPo {H:Type} {P:Program}:∀ {ts:List TypeId} {l:List (DataW H)},(DataW.weightsEach P ts l).all (· <=reachBytes)=true->∀ (i:Nat) (t:TypeId) (d:DataW H),ts[i]? =some t->l[i]? =some d->(DataW.weights P t d).all (· <=reachBytes)=true
 | [],_,_,i,t,d,ht,_=>by simp at ht
 | _::_,[],_,i,t,d,_,hd=>by simp at hd
 | t0::ts,d0::l,h,i,t,d,ht,hd=>by
  simp only [DataW.weightsEach,q37,qa] at h;cases i with
  | zero=>simp only [q1x,q0] at ht hd; subst ht hd; exact h.1
  | succ i=>exact zPo h.2 i t d (by simpa using ht) (by simpa using hd)
theorem zg7 {H:Type} {P:Program} {T:Nat} {fs:Array Field} (hu:P.underlying T=some (.struct fs)) {y:DataW H×List MemPlace} {xs:List (DataW H×List MemPlace)} {ps:List MemPlace} (hy:y=(.agg (xs.map (·.1)),ps))
  (hz:(DataW.weights P T y.1).all (· <=reachBytes)=true):∀ (i:Nat) (f:Field),fs[i]? =some f->∀ x,xs[i]? =some x->(DataW.weights P f.type x.1).all (· <=reachBytes)=true:=by
 intro i f hf x hx;subst hy;simp only [DataW.weights,hu] at hz;exact zPo hz i f.type x.1 (by simp [hf]) (by simp [hx])
theorem zUN {F:Nat->Prop} {w:World} {v:Value} {a:AV ty} (h:Rep cx F w v a):All2 (Rep cx F w) [v] [a]:=.cons h .nil
theorem zbac {T:Nat} {k:IntKind} (hu:P.underlying T=some (.int k)) (mk:Int->ty T) (he:∀ n,cx.enc T (mk n)=[.lit (.int k n)]) (hW:∀ n,(Lit.int k n).wf=true->W T (mk n)):zlL P cx W T:=by
 intro H en w sp held fuel cs y h hz;obtain ⟨n,rfl,_,hw⟩:=DataW.trod_int hu h;exact ⟨mk n,by rw [he]; exact zUN (.lit _),hW n hw⟩
theorem zbhL {T:Nat} (hu:P.underlying T=some .string) (mk:ByteArray->ty T) (he:∀ n,cx.enc T (mk n)=[.lit (.string n)]) (hW:∀ n:ByteArray,n.size<=z6->W T (mk n)):zlL P cx W T:=by
 intro H en w sp held fuel cs y h hz;obtain ⟨n,rfl,hy,hw⟩:=DataW.trod_string hu h;refine ⟨mk n,by rw [he]; exact zUN (.lit _),hW n ?_⟩
 rw [hy] at hz;simp only [DataW.weights,q28,List.all_nil,q23,qb] at hz;rw [show reachBytes=z6 by decide] at hz
 exact hz
theorem zUJ {α:Type} {Q:Nat->α->Prop}:∀ (n:Nat),(∀ i,i<n->∃ x,Q i x)->∃ l:List α,l.length=n/\∀ (i:Nat) x,l[i]? =some x->Q i x
 | 0,_=>⟨[],rfl,λi x h=>by simp at h⟩
 | n+1,h=>by
  obtain ⟨l,hl,hQ⟩:=zUJ n λi hi=>h i (by omega)
  obtain ⟨x,hx⟩:=h n (by omega)
  refine ⟨l++[x],by simp [hl],λi y hy=> ?_⟩
  rw [List.getElem?_append] at hy;split at hy
  ·exact hQ i y hy
  ·rename_i hi
   have:i=n:=by
    have:=(q1t.1 hy).1;simp at this; omega
   subst this;simp [hl] at hy;subst hy; exact hx
theorem zbfj {b off k:Nat}:(⟨b,off,none⟩:Addr).add k=⟨b,off+k,none⟩:=zf5 b off k
theorem zzz {m0:Nat} (hcx:CxOK P cx) {T e:Nat} (hu:P.underlying T=some (.slice e)) (hk:P.cellsOf e=zt cx e) (hpos:0<zt cx e) (mk:List (ty e)->ty T) (he:∀ l,cx.enc T (mk l)=[.sl e l]) (hb1:0<P.bytesOf e) (hr:zt3 P cx W m0 e)
  (hW:∀ l:List (ty e),(∀ x∈l,W e x)->l.length<=z6->W T (mk l)):zt3 P cx W (m0+1) T:=by
 intro H en w sp held fuel cs y hfu h hz;rcases DataW.trod_slice hu h with ⟨rfl,_⟩ | ⟨a,len,cap,elems,rest,n,rfl,rfl,hy,hb,hlc,hcm,hel,hat,_,_⟩
 ·exact ⟨mk [],by rw [he]; exact zUN (.slE none 0 e λ_=>rfl),hW [] (by simp) (q19 _)⟩
 ·-- the elements
  rw [hy] at hz;simp only [DataW.weights,hu,q28,q37,qa,qb,q1b] at hz;obtain ⟨hz0,hz1,_⟩:=hz
  have hroom:len<=z6:=by
   have h1:elems.length+rest.length<=(elems.length+rest.length)*P.bytesOf e:=Nat.le_mul_of_pos_right _ hb1;have h2:reachBytes=z6:=by decide
   omega
  have each:∀ i,i<len->∃ x:ty e,(∃ us,w.cells? 0 (a.add (i*zt cx e)) (zt cx e)=some us/\All2 (Rep cx (In w) w) us (cx.enc e x))/\W e x:=by
   intro i hi;have:=hat i hi;rw [ql (by omega),hk] at this
   cases hc:w.cells? 0 (a.add (i*zt cx e)) (zt cx e) with
   | none=>rw [hc] at this; cases this
   | some us=>
    rw [hc] at this;obtain ⟨x,hx,hw⟩:=hr H en w sp held n us _ (by omega) this (zS9 hz1 _ (q1p.2 ⟨_,List.getElem_mem _,rfl⟩))
    exact ⟨x,⟨us,rfl,hx⟩,hw⟩
  obtain ⟨l,hl,hQ⟩:=zUJ len each;refine ⟨mk l, ?_,hW l (λx hx=> ?_) (by omega)⟩
  ·rw [he];refine zUN ?_;cases len with
   | zero=>
    obtain rfl:l=[]:=q1a hl;exact .slE (some a) cap e (by simp)
   | succ m=>
    -- the address has no spot
    obtain ⟨⟨us0,hc0,_⟩,_⟩:=hQ 0 _ (ql (by omega))
    obtain ⟨_,hl0,hg0⟩:=World.cells?_some hc0;have h00:=hg0 0 hpos;have hne:∃ v,us0[0]? =some v:=⟨us0[0],ql (by omega)⟩
    obtain ⟨v0,hv0⟩:=hne;rw [hv0] at h00;have hz:∀ b:Addr,b.add 0=b:=λb=>by unfold Addr.add; simp
    rw [Nat.zero_mul,hz,hz] at h00;obtain ⟨b,off,spot⟩:=a
    have hspot:spot=none:=by
     unfold World.cell? at h00;split at h00
     ·split at h00
      ·cases h00
      ·rename_i hs; simpa using hs
     ·cases h00
    subst hspot
    have hblk:b<w.heap.size:=by
     unfold World.cell? at h00;split at h00
     ·rename_i hh; exact (q1r.1 hh).1
     ·cases h00
    -- all cells
    have cell:∀ j,j<(m+1)*zt cx e->∃ u,w.cell? ⟨b,off+j,none⟩=some u/\∀ c,(zcP cx e l)[j]? =some c->Rep cx (In w) w u c:=by
     intro j hj;have hi:j / zt cx e<m+1:=(Nat.div_lt_iff_lt_mul hpos).2 hj;have hjm:j % zt cx e<zt cx e:=Nat.mod_lt _ hpos;obtain ⟨⟨us,hc,ha⟩,_⟩:=hQ (j / zt cx e) _ (ql (by omega))
     obtain ⟨_,hlu,hgu⟩:=World.cells?_some hc;have hg:=hgu (j % zt cx e) hjm;rw [zbfj,zbfj,q2e,Nat.mul_comm,Nat.div_add_mod] at hg;refine ⟨us[j % zt cx e]'(by omega),by rw [hg]; exact ql (by omega),λc hcj=> ?_⟩
     have e1:=zTP (cx.enc e) (zt cx e) (hcx.len e) l (j / zt cx e) (j % zt cx e) hjm;rw [Nat.mul_comm,Nat.div_add_mod] at e1;unfold zcP at hcj;rw [e1,ql (by omega)] at hcj
     exact ha.at_ _ _ c (ql (by omega)) hcj
    obtain ⟨us,hul,hus⟩:=zUJ ((m+1)*zt cx e) cell;have hll:(zcP cx e l).length=(m+1)*zt cx e:=by rw [zUu hcx,hl]
    have:=Rep.sl (cx:=cx) (F:=In w) (w:=w) b off cap e l us hblk (by omega) (by rw [hul,hll]) (λj u hu=>(hus j u hu).1) (λj u c hu hc=>(hus j u hu).2 c hc)
    rw [hl] at this;exact this
  ·obtain ⟨i,hi⟩:=q2i hx;exact (hQ i x hi).2
theorem zHS (hcx:CxOK P cx) {T e:Nat} (hu:P.underlying T=some (.slice e)) (hk:P.cellsOf e=zt cx e) (hpos:0<zt cx e) (mk:List (ty e)->ty T) (he:∀ l,cx.enc T (mk l)=[.sl e l]) (hb1:0<P.bytesOf e) (hr:zlL P cx W e)
  (hW:∀ l:List (ty e),(∀ x∈l,W e x)->l.length<=z6->W T (mk l)):zlL P cx W T:=
 λH en w sp held fuel cs y h hz=>zzz (m0:=fuel) hcx hu hk hpos mk he hb1 (hr.at fuel) hW H en w sp held fuel cs y (by omega) h hz
theorem zha {e off:Nat} (hr:zlL P cx W e) (hk:P.cellsOf e=zt cx e) {H:Type} {en:TypeId×Value->H} {w:World} {sp:Nat->Bool} {held:Bool} {n:Nat} {cs:List Value} {xs:List (DataW H×List MemPlace)} {fs:Array Field}
  (hlen:xs.length=fs.size) (hf:∀ (i:Nat) (f:Field),fs[i]? =some f->DataW.trod en P w 0 sp held n f.type ((cs.drop f.offset).take (P.cellsOf f.type))=xs[i]?) (hz:∀ (i:Nat) (f:Field),fs[i]? =some f->∀ x,xs[i]? =some x->(DataW.weights P f.type x.1).all (· <=reachBytes)=true) (i:Nat) (f:Field) (hi:fs[i]? =some f) (ht:f.type=e) (ho:f.offset=off):
  ∃ x:ty e,All2 (Rep cx (In w) w) ((cs.drop off).take (zt cx e)) (cx.enc e x)/\W e x:=by
 subst ht ho;have h:=hf i f hi;have hlt:i<xs.length:=by rw [hlen]; exact (q1r.1 hi).1
 rw [ql hlt,hk] at h;exact hr H en w sp held n _ _ h (hz i f hi _ (ql hlt))
theorem zfQ {m0:Nat} {e off:Nat} (hr:zt3 P cx W m0 e) (hk:P.cellsOf e=zt cx e) {H:Type} {en:TypeId×Value->H} {w:World} {sp:Nat->Bool} {held:Bool} {n:Nat} (hn:n<=m0) {cs:List Value} {xs:List (DataW H×List MemPlace)} {fs:Array Field}
  (hlen:xs.length=fs.size) (hf:∀ (i:Nat) (f:Field),fs[i]? =some f->DataW.trod en P w 0 sp held n f.type ((cs.drop f.offset).take (P.cellsOf f.type))=xs[i]?) (hz:∀ (i:Nat) (f:Field),fs[i]? =some f->∀ x,xs[i]? =some x->(DataW.weights P f.type x.1).all (· <=reachBytes)=true) (i:Nat) (f:Field) (hi:fs[i]? =some f) (ht:f.type=e) (ho:f.offset=off):
  ∃ x:ty e,All2 (Rep cx (In w) w) ((cs.drop off).take (zt cx e)) (cx.enc e x)/\W e x:=by
 subst ht ho;have h:=hf i f hi;have hlt:i<xs.length:=by rw [hlen]; exact (q1r.1 hi).1
 rw [ql hlt,hk] at h;exact hr H en w sp held n _ _ hn h (hz i f hi _ (ql hlt))
theorem zfG {F:Nat->Prop} {w:World} {cs:List Value} {off k:Nat} {as bs:List (AV ty)} (h1:All2 (Rep cx F w) ((cs.drop off).take k) as) (h2:All2 (Rep cx F w) (cs.drop (off+k)) bs):All2 (Rep cx F w) (cs.drop off) (as++bs):=by
 have:=h1.append h2
 rwa [<- List.drop_drop,List.take_append_drop] at this
theorem zuj {F:Nat->Prop} {w:World} {cs:List Value} {off k:Nat} {as:List (AV ty)} (h1:All2 (Rep cx F w) ((cs.drop off).take k) as) (hl:cs.length=off+k):All2 (Rep cx F w) (cs.drop off) as:=by
 rwa [q24 (by simp; omega)] at h1
theorem zbgP {dr:Bool} {w w':World} (h:Kept dr (znJ []) w w'):Go.RowKit.Below w.heap.size w w':=
 ⟨h.os,h.tape,h.output,h.size,λk hk=>h.keep k hk λ⟨v,hv,_⟩=>by cases hv⟩
theorem zbhQ {f:Nat} {s:Spec ty} (hs:Sound P cx f s) {as:List (Arg ty)} (hsp:s as=some (true,⟨[.pure (.lit (.bool true))],[]⟩)) {w:World} {vs:List Value} (hown:zbo vs as=[]) (hg:GOK cx w (znJ [])) (ha:All2 (zkc cx (In w) w) vs as):
  Calls P f vs.toArray w λe w'=>e=.returned (.bool true)/\Go.RowKit.Below w.heap.size w w':=by
 refine (hs.calls as _ hsp w (In w) vs (λb hb=>hb) ha (by rw [hown]; exact ⟨λi j u v b h=>by simp at h,hg⟩)).mono λe w' ⟨v,he,hp⟩=> ?_
 obtain ⟨F',rs,hv,hk,_,_,hr,_⟩:=hp.ok;rw [hown] at hk;obtain ⟨u,us,rfl,hu,hus⟩:=hr.inv;obtain rfl:=hus.nil_left.1;have hu:Rep cx F' w' u (.lit (.bool true)):=hu;cases hu;exact ⟨by rw [he,hv]; rfl,zbgP hk⟩
open Go.RowKit in
theorem zVA {H:Type} {en:TypeId×Value->H} (hl:laidOutB P=true) {w w':World} (hb:Below w.heap.size w w'):∀ (ts:List TypeId) (vs:List Value) (ds:List (DataW H)) (ps:List MemPlace),(∀ t∈ts,P.readableRec t=true/\t<P.types.size)->
  (∀ x∈ps,x.block<w.heap.size)->DataW.TrodAll en P w 0 (λ_=>true) true ts vs ds ps->DataW.TrodAll en P w' 0 (λb=>decide (b<w.heap.size)) true ts vs ds ps
 | [],[],[],ps,_,_,h=>h
 | t::ts,v::vs,d::ds,ps,hr,hlt,h=>by
  obtain ⟨p,q,h1,h2,rfl⟩:=h;refine ⟨p,q,Below.trod hl (hr t (by simp)).1 (hr t (by simp)).2 h1 hb (λx hx=>hlt x (by simp [hx])),zVA hl hb ts vs ds q (λt ht=>hr t (by simp [ht])) (λx hx=>hlt x (by simp [hx])) h2,rfl⟩
 | [],[],_::_,_,_,_,h=>h.elim
 | [],_::_,[],_,_,_,h=>h.elim
 | [],_::_,_::_,_,_,_,h=>h.elim
 | _::_,[],[],_,_,_,h=>h.elim
 | _::_,[],_::_,_,_,_,h=>h.elim
 | _::_,_::_,[],_,_,_,h=>h.elim
open Go.RowKit Go.ChangeShapes Go.WideShapes in
theorem zbi9 {H:Type} {en:TypeId×Value->H} {fn:Func} {s:ChangeSpec} {w w':World} {args:Array Value} {ds gs:List (DataW H)} {before:List MemPlace} {B:Nat} {fresh handsOn:Bool} (hl:laidOutB P=true) (hr:∀ t∈fn.params.toList,P.readableRec t=true/\t<P.types.size)
  (hv:s.vars=[]) (hres:fn.resultTypes=#[B]) (hB:P.underlying B=some .bool) (hfn:s.fn H ds={ results:=[.lit (.bool true)],args:=ds }) (hW:DataW.Whole en P fn.params.toList s.vars false w args.toList ds gs before) (hb:Below w.heap.size w w'):
  s.post en P fn false fresh handsOn false w args (.bool true) w':=by
 have hW0:=hW;have hlt:=hW.lt;obtain ⟨p,q,hA,hV,rfl,_,_⟩:=hW;rw [hv] at hV;obtain ⟨rfl,rfl⟩:=trodVars_none hV;refine ⟨ds,[],p++[],[],p,[],hW0, ?_, ?_, ?_,hb.frame _,λh=>by cases h⟩
 ·rw [q1o,hfn,hres];exact trodAll_mk1 (shut_bool hB true)
 ·rw [q1o,hfn];exact zVA hl hb _ _ _ _ hr (λx hx=>hlt x (by simp [hx])) hA
 ·rw [q1o,hfn,hv]; rfl
end
end
end Go.Ab
/- From the contract of a law's function, and its plain law, to the law's row. -/
namespace Go.Ab
noncomputable section
open Go.ChangeShapes Go.WideShapes Go.RowKit
variable {ty:Nat->Type}
section
variable {P:Program} {cx:Cx ty} {W:(T:Nat)->ty T->Prop}
def zbfY (P:Program) (w:World) (ts:List TypeId) (vs:List Value):Prop:=∀ (j:Nat) t v,ts[j]? =some t->vs[j]? =some v->∃ base,Value.okWide P w .any base t v
def zbi7 (P:Program) (cx:Cx ty) (T:Nat) (mk:ty T->AV ty):Prop:=
 ∀ (w:World) (base:Nat) (v:Value) (x:ty T),Value.okWide P w .any base T v->All2 (Rep cx (In w) w) v.cells.toList (cx.enc T x)->Rep cx (In w) w v (mk x)
theorem z2N {T:Nat} {fs:Array Field} (hu:P.underlying T=some (.struct fs)):zbi7 P cx T λx=>.agg (cx.enc T x):=by
 intro w base v x hv ha;unfold Value.okWide at hv;rw [hu] at hv;obtain ⟨cs,rfl,_,_⟩:=hv;have ha:All2 (Rep cx (In w) w) cs.toList (cx.enc T x):=ha;exact .agg cs.toList _ ha.len ha.at_
theorem zbiq {T:Nat} {d:TypeDesc} (hu:P.underlying T=some d) (hd:match d with | .int _ | .bool | .string | .slice _=>True | _=>False) (mk:ty T->AV ty) (he:∀ x,cx.enc T x=[mk x]):zbi7 P cx T mk:=by
 intro w base v x hv ha;rw [he] at ha
 have hc:v.cells.toList=[v]:=by
  unfold Value.okWide at hv;rw [hu] at hv;cases v with
  | agg cs=>
   exfalso;cases d <;>simp_all [Cell.okWide,Cell.ok]
  | _=>rfl
 rw [hc] at ha;obtain ⟨u,us,h,hu,_⟩:=ha.inv;simp only [qp] at h;rw [h.1]; exact hu
theorem z3x {H:Type} {en:TypeId×Value->H} {w:World} {T:Nat} {ts:List TypeId} {vs:List Value} {ds:List (DataW H)} {ps:List MemPlace} (hr:zlL P cx W T) {mk:ty T->AV ty} (hm:zbi7 P cx T mk)
  (hv:zbfY P w (T::ts) vs) (h:DataW.TrodAll en P w 0 (λ_=>true) true (T::ts) vs ds ps) (hz:(DataW.weightsEach P (T::ts) ds).all (· <=reachBytes)=true):
  ∃ v vs' ds' ps' x,vs=v::vs'/\Rep cx (In w) w v (mk x)/\W T x/\zbfY P w ts vs'/\DataW.TrodAll en P w 0 (λ_=>true) true ts vs' ds' ps'/\(DataW.weightsEach P ts ds').all (· <=reachBytes)=true:=by
 cases vs with
 | nil=>cases ds <;>exact h.elim
 | cons v vs=>
  cases ds with
  | nil=>exact h.elim
  | cons d ds=>
   obtain ⟨p,q,⟨fuel,hf⟩,h2,_⟩:=h;simp only [DataW.weightsEach,q37,qa] at hz;obtain ⟨x,hx,hw⟩:=hr H en w _ _ fuel _ _ hf hz.1;obtain ⟨base,hok⟩:=hv 0 T v rfl rfl;exact ⟨v,vs,ds,q,x,rfl,hm w base v x hok hx,hw,λj t u h1 h2=>hv (j+1) t u (by simpa using h1) (by simpa using h2),h2,hz.2⟩
theorem zbkN {H:Type} {en:TypeId×Value->H} {w:World} {vs:List Value} {ds:List (DataW H)} {ps:List MemPlace} (h:DataW.TrodAll en P w 0 (λ_=>true) true [] vs ds ps):vs=[]:=by
 cases vs with
 | nil=>rfl
 | cons v vs=>cases ds <;>exact h.elim
theorem zQt {H:Type} {en:TypeId×Value->H} {w:World}:∀ {ts:List TypeId} {vs:List Value} {ds:List (DataW H)} {ps:List MemPlace},DataW.TrodAll en P w 0 (λ_=>true) true ts vs ds ps->ds.length=ts.length
 | [],[],[],_,_=>rfl
 | t::ts,v::vs,d::ds,_,h=>by
  obtain ⟨p,q,_,h2,_⟩:=h;simp [zQt h2]
 | [],[],_::_,_,h=>h.elim
 | [],_::_,[],_,h=>h.elim
 | [],_::_,_::_,_,h=>h.elim
 | _::_,[],[],_,h=>h.elim
 | _::_,[],_::_,_,h=>h.elim
 | _::_,_::_,[],_,h=>h.elim
end
theorem zMc {H:Type} {P:Program}:∀ {ts us:List TypeId} {ds gs:List (DataW H)},ds.length=ts.length->(DataW.weightsEach P (ts++us) (ds++gs)).all (· <=reachBytes)=true->(DataW.weightsEach P ts ds).all (· <=reachBytes)=true
 | [],us,[],gs,_,_=>rfl
 | t::ts,us,[],gs,h,_=>by simp at h
 | [],us,d::ds,gs,h,_=>by simp at h
 | t::ts,us,d::ds,gs,h,hz=>by
  simp only [qo,DataW.weightsEach,q37,qa] at hz ⊢;exact ⟨hz.1,zMc (by simpa using h) hz.2⟩
theorem zbgy {C:Checked} {cx:Cx ty} {os:Os} {f:FuncId} {fn:Func} {s:ChangeSpec} {laid:List (String×DataW Unit)} {H:Type} {enc:TypeId×Value->H} {fresh handsOn:Bool} (own:ownKnob C.prog.godebug=none) (started:os.Started) (noInit:C.prog.inits.idxOf? f=none)
  (hfn:C.prog.funcs[f]? =some fn)
  (wit:∃ (w:World) (tape:Tape) (i:Input),w.os=os/\(w.forCall tape i).Shaped C.prog/\i.vars=[]/\Input.okWide C.prog (w.forCall tape i) .any w.heap.size f i/\
   ((s.pre enc C.prog fn [] false (w.forCall tape i).memory i.args/\laidMetH C.prog laid (w.forCall tape i).memory)/\sizedMet enc C.prog fn (OpenSpec.ofChange s) false (w.forCall tape i).memory i.args)/\({}:Assume).holds C.prog (lone (Frame.enter C.prog f i.args .normal) [] (w.forCall tape i)))
  (hl:laidOutB C.prog=true) (hr:∀ t∈fn.params.toList,C.prog.readableRec t=true/\t<C.prog.types.size) (hv:s.vars=[]) {B:Nat} (hres:fn.resultTypes=#[B]) (hB:C.prog.underlying B=some .bool)
  (hspec:∀ ds:List (DataW H),ds.length=fn.params.size->s.fn H ds={ results:=[.lit (.bool true)],args:=ds }) {sp:Spec ty} (hs:Sound C.prog cx f sp) (hinv:∀ w,w.ShapedOpen C.prog->laidMetH C.prog laid w->cx.inv w/\cx.ng<=w.heap.size)
  (hargs:∀ (w:World) (vs:List Value) (ds:List (DataW H)) (ps:List MemPlace),zbfY C.prog w fn.params.toList vs->DataW.TrodAll enc C.prog w 0 (λ_=>true) true fn.params.toList vs ds ps->(DataW.weightsEach C.prog fn.params.toList ds).all (· <=reachBytes)=true->
   ∃ avs,sp avs=some (true,⟨[.pure (.lit (.bool true))],[]⟩)/\zbo vs avs=[]/\All2 (zkc cx (In w) w) vs avs):
  ReturnsInHanded {} C os f .any (λw args=>(s.pre enc C.prog fn [] false w args/\laidMetH C.prog laid w)/\sizedMet enc C.prog fn (OpenSpec.ofChange s) false w args) (s.post enc C.prog fn false fresh handsOn false):=by
 refine returnsInHanded_of_calls own started noInit wit ?_;intro w tape i _ hsh _ hok hpre _;obtain ⟨_,_,_,fn',hfn',_,_,_,_,hval⟩:=hok;have e:fn'=fn:=q26 (hfn'.symm.trans hfn);subst e;obtain ⟨⟨⟨ds,gs,before,hW,hc⟩,hL⟩,hz⟩:=hpre;have hz':=hz.weights hW;have hW:=DataW.Whole.of_heap (w':=w.forCall tape i) (by rfl) hW
 have hL:laidMetH C.prog laid (w.forCall tape i):=hL.of_heap (by rfl)
 generalize hWe:w.forCall tape i=W at hsh hval hW hL;generalize i.args=args at hval hW
 suffices h:Calls C.prog f args W λe W'=>∃ v,e=.returned v/\s.post enc C.prog fn' false fresh handsOn false W args v W' by
  refine h.mono λe W' ⟨v,he,hp⟩=> ?_
  subst he;exact ChangeSpec.post_blind hp
 have hW0:=hW;obtain ⟨p,q,hA,_,_,_,_⟩:=hW;obtain ⟨avs,hsp,hown,ha⟩:=hargs W args.toList ds p (λj t v h1 h2=>⟨_,hval j t v (by simpa using h1) (by simpa using h2)⟩) hA (zMc (zQt hA) hz')
 obtain ⟨hi,hn⟩:=hinv W hsh hL;have hc:=zbhQ hs hsp hown ⟨hi,λb ⟨v,hv,_⟩=>absurd hv (by simp),hn⟩ ha
 have hc':Calls C.prog f args W λe w'=>e=.returned (.bool true)/\Below W.heap.size W w':=by simpa using hc
 refine hc'.mono λe w' ⟨he,hb⟩=>⟨_,he, ?_⟩
 exact zbi9 hl hr hv hres hB (hspec ds (by rw [zQt hA]; simp)) hW0 hb
end
end Go.Ab
/- Ways: what a function does, or one round of a loop, as data; and what follows from it: contracts. -/
namespace Go.Ab
noncomputable section
variable {ty:Nat->Type}
inductive Wy (α β ρ:Type):Type where
 | h (x:α) (y:β)
 | k (r:ρ)
 | d
 | i (c:Bool) (a b:Wy α β ρ)
section
variable {α β ρ:Type}
noncomputable def Wy.ev {R:Type} (H:α->β->R) (K:ρ->R) (D:R) (w:Wy α β ρ):R:=
 Wy.rec (motive:=λ_=>R) H K D (λc _ _ a b=>bif c then a else b) w
def Wy.bn {A:Type} (p:Bool×A) (k:A->Wy α β ρ):Wy α β ρ:=.i p.1 (k p.2) .d
theorem Wy.ev_app {R S:Type} (f:S->R) (H:α->β->S) (K:ρ->S) (D:S):∀ w:Wy α β ρ,f (w.ev H K D)=w.ev (λx y=>f (H x y)) (λr=>f (K r)) (f D)
 | .h _ _=>rfl
 | .k _=>rfl
 | .d=>rfl
 | .i c a b=>by
  have ha:=Wy.ev_app f H K D a;have hb:=Wy.ev_app f H K D b;cases c with
  | true=>exact ha
  | false=>exact hb
def Wy.ix {α β ρ:Type} (i:Int) (n:Nat) (w:Wy α β ρ):Wy α β ρ:=.i (decide ((0:Int)<=i)&&decide (i<Int.ofNat n)) w .d
noncomputable def zy (W:α->β->Wy α β ρ) (z:ρ):Nat->α->β->Bool×ρ
 | 0=>λ_ _=>(false,z)
 | n+1=>λx y=>(W x y).ev (zy W z n) (λr=>(true,r)) (false,z)
noncomputable def spW (V:LL ty α) (B:BL ty β) (W:α->β->Wy α β ρ) (z:ρ) (tr:ρ->LTree ty) (m:α->β->Nat):zAR ty:=
 z5u V B λx y=>((zy W z (m x y) x y).1,tr (zy W z (m x y) x y).2)
theorem zn {cx:Cx ty} {c:Code} {id:Nat} {V:LL ty α} {B:BL ty β} {W:α->β->Wy α β ρ} {z:ρ} {tr:ρ->LTree ty} {m:α->β->Nat}
  (hid:zcf c=id:=by kernel_rfl) (hl:cx.loops id=some (spW V B W z tr m):=by kernel_rfl)
  (hr:∀ (R:Type) (H:List (AV ty)->List (Blk ty)->Option R) (K:Ex->List (AV ty)->List (Blk ty)->Option R) (x:α) (y:β),zE3 (R:=R) cx c H K (V.enc x) (B.enc y)=(W x y).ev (λx y=>H (V.enc x) (B.enc y)) (λr=>zy0 K (tr r)) none:=by intro _ _ _ _ _; kernel_rfl):zC cx c:=
 zbhl hid hl (zbhe λR K n=>by
  induction n with
  | zero=>intro x y; rfl
  | succ n ih=>
   intro x y;show zE3 cx c (zUa cx c K n) K (V.enc x) (B.enc y)=_;rw [hr];have e:(λx y=>zUa cx c K n (V.enc x) (B.enc y))=λx y=>out (λr=>zy0 K (tr r)) (zy W z n x y):=by funext x y; exact ih x y
   rw [e];exact (Wy.ev_app (out λr=>zy0 K (tr r)) (zy W z n) (λr=>(true,r)) (false,z) (W x y)).symm)
theorem zU8 {cx:Cx ty} {c:Code} {id:Nat} {V:LL ty α} {B:BL ty β} {W:α->β->Wy α β ρ} {z:ρ} {tr:ρ->LTree ty} {m:α->β->Nat}
  (hid:zcf c=id:=by kernel_rfl) (hl:cx.joins id=some (spW V B W z tr m):=by kernel_rfl) (hm:∀ x y,m x y=1:=by intro _ _; rfl)
  (hr:∀ (R:Type) (H:List (AV ty)->List (Blk ty)->Option R) (K:Ex->List (AV ty)->List (Blk ty)->Option R) (x:α) (y:β),zE3 (R:=R) cx c H K (V.enc x) (B.enc y)=(W x y).ev (λx y=>H (V.enc x) (B.enc y)) (λr=>zy0 K (tr r)) none:=by intro _ _ _ _ _; kernel_rfl):zM2 cx c:=by
 intro sp hs vals bs t h R K;rw [hid,hl] at hs;obtain rfl:=q26 hs;unfold spW z5u at h;split at h
 case h_2=>cases h
 rename_i x hx;split at h
 case h_2=>cases h
 rename_i y hy;simp only [hm,q0,qe] at h;have h1:=h;rw [V.ok _ _ hx,B.ok _ _ hy,hr, <- h1.2]
 have key:∀ w:Wy α β ρ,(w.ev (zy W z 0) (λr=>(true,r)) (false,z)).1=true->w.ev (λ_ _=>(none:Option R)) (λr=>zy0 K (tr r)) none=zy0 K (tr (w.ev (zy W z 0) (λr=>(true,r)) (false,z)).2):=by
  intro w;induction w with
  | h x y=>intro h; cases h
  | k r=>intro _; rfl
  | d=>intro h; cases h
  | i c a b iha ihb=>cases c with
   | true=>exact iha
   | false=>exact ihb
 exact key _ h1.1
abbrev Wy0 (ρ:Type):=Wy Empty Empty ρ
def noH {R:Type}:Empty->Empty->R:=λx _=>nomatch x
noncomputable def Wy.fin (w:Wy0 ρ) (z:ρ):Bool×ρ:=w.ev noH (λr=>(true,r)) (false,z)
theorem Wy.fin_k (r z:ρ):(Wy.k r:Wy0 ρ).fin z=(true,r):=rfl
theorem Wy.fin_d (z:ρ):(Wy.d:Wy0 ρ).fin z=(false,z):=rfl
theorem Wy.fin_i (c:Bool) (a b:Wy0 ρ) (z:ρ):(Wy.i c a b).fin z=bif c then a.fin z else b.fin z:=rfl
theorem Wy.fin_bn {A:Type} (p:Bool×A) (k:A->Wy0 ρ) (z:ρ):(Wy.bn p k).fin z=bif p.1 then (k p.2).fin z else (false,z):=rfl
theorem Wy.ev_k {R:Type} (H:α->β->R) (K:ρ->R) (D:R) (r:ρ):(Wy.k r).ev H K D=K r:=rfl
theorem Wy.ev_h {R:Type} (H:α->β->R) (K:ρ->R) (D:R) (x:α) (y:β):(Wy.h x y).ev H K D=H x y:=rfl
theorem Wy.ev_d {R:Type} (H:α->β->R) (K:ρ->R) (D:R):(Wy.d).ev H K D=D:=rfl
theorem Wy.ev_i {R:Type} (H:α->β->R) (K:ρ->R) (D:R) (c:Bool) (a b:Wy α β ρ):(Wy.i c a b).ev H K D=bif c then a.ev H K D else b.ev H K D:=rfl
theorem Wy.ev_bn {R A:Type} (H:α->β->R) (K:ρ->R) (D:R) (p:Bool×A) (k:A->Wy α β ρ):(Wy.bn p k).ev H K D=bif p.1 then (k p.2).ev H K D else D:=rfl
end
def zbV (cx:Cx ty) (nt:Nat) (sp:List (Nat×Spec ty)) (io:List (Nat×List Bool)) (hd:List (Nat×List (Nat×LMode))) (ot:List (Nat×Nat×List (Nat×LMode))) (lps:List (Nat×zAR ty)) (raw:List Nat):Cx ty:=
 { cx with nt:=nt,spec:=λg=>List.lookup g sp,io:=λg=>(List.lookup g io).getD [],head:=λi=>(List.lookup i hd).getD [],out:=zbj4 ot,loops:=λi=>List.lookup i lps,raw:=λg=>raw.contains g }
section
variable {cx:Cx ty} {nt:Nat} {sp:List (Nat×Spec ty)} {io:List (Nat×List Bool)} {hd:List (Nat×List (Nat×LMode))} {ot:List (Nat×Nat×List (Nat×LMode))} {lps:List (Nat×zAR ty)} {raw:List Nat}
def zbg2 (cx:Cx ty) (nt:Nat) (sp:List (Nat×Spec ty)) (io:List (Nat×List Bool)) (hd:List (Nat×List (Nat×LMode))) (ot:List (Nat×Nat×List (Nat×LMode))) (lps:List (Nat×zAR ty)) (raw:List Nat) (js:List (Nat×zAR ty)):Cx ty:=
 { zbV cx nt sp io hd ot lps raw with joins:=λi=>List.lookup i js }
theorem zbcA:cx.Same (zbV cx nt sp io hd ot lps raw):=⟨⟨rfl,rfl,rfl,rfl,rfl,rfl⟩,rfl⟩
theorem zi {P:Program} (h:All (λp=>Sound P cx p.1 p.2) sp):∀ g s,(zbV cx nt sp io hd ot lps raw).spec g=some s->Sound P cx g s:=zbfi sp h
end
theorem zbkk {cx:Cx ty} {nt:Nat} {sp:List (Nat×Spec ty)} {io:List (Nat×List Bool)} {hd:List (Nat×List (Nat×LMode))} {ot:List (Nat×Nat×List (Nat×LMode))} {lps:List (Nat×zAR ty)} {raw:List Nat} {js:List (Nat×zAR ty)}:cx.Same (zbg2 cx nt sp io hd ot lps raw js):=⟨⟨rfl,rfl,rfl,rfl,rfl,rfl⟩,rfl⟩
theorem zbiS {P:Program} {cx:Cx ty} {nt:Nat} {sp:List (Nat×Spec ty)} {io:List (Nat×List Bool)} {hd:List (Nat×List (Nat×LMode))} {ot:List (Nat×Nat×List (Nat×LMode))} {lps:List (Nat×zAR ty)} {raw:List Nat} {js:List (Nat×zAR ty)} (h:All (λp=>Sound P cx p.1 p.2) sp):∀ g s,(zbg2 cx nt sp io hd ot lps raw js).spec g=some s->Sound P cx g s:=zbfi sp h
theorem z8s {P:Program} {cx cx':Cx ty} {α ρ:Type} (hm:P.follows .mixedOrders=true) (hcx:CxOK P cx) (hsame:cx.Same cx') (hspec:∀ g s,cx'.spec g=some s->Sound P cx g s)
  {f:Nat} {fn:Func} {c:Code} (hent:∀ args w,(callFunc f args).run P w=.ok (.enter f args) w) (hf:P.funcs[f]? =some fn) (hb:fn.body=some c) (hl:ziV cx' c) {sg:Sig} {A:AL cx α} {res:ρ->ARes ty} {W:α->Wy0 ρ} {z:ρ}
  (hrun:∀ x,zeQ cx' fn c sg (A.enc x)=(W x).ev noH (λr=>some (res r)) none:=by intro _; kernel_rfl)
  (hchk:∀ x,(Nat.ble (A.enc x).length fn.ntmps&&zNg c (A.enc x) sg.upd)=true:=by intro _; kernel_rfl):
  Sound P cx f (zh A λx=>(((W x).fin z).1,res ((W x).fin z).2)):=
 zbdm hm hcx hsame hspec hent hf hb hl (F:=λx=>(W x).fin z) (λx=>(hrun x).trans (by
  have:=Wy.ev_app (out λr=>some (res r)) noH (λr=>(true,r)) (false,z) (W x)
  have e:(λ(x:Empty) (y:Empty)=>out (λr=>some (res r)) (noH x y:Bool×ρ))=noH:=by funext x; exact nomatch x
  rw [e] at this;exact this.symm)) hchk
end
section
variable {ty:Nat->Type}
def kpL (l:List Nat):List (Nat×LMode):=l.map λt=>(t,.keep)
noncomputable abbrev zbp (b:Cx ty) (n:Nat) (l:List (Nat×Spec ty)):Cx ty:=zbV b n l [] [] [] [] []
noncomputable def zj:LD ty Int:=zL .i64
noncomputable def zeZ {cx:Cx ty}:VD cx Int:=zgS .i64
theorem aN {α:Type} {Q:α->Prop}:All Q []:=trivial
theorem aC {α:Type} {Q:α->Prop} {x:α} {r:List α} (h:Q x) (g:All Q r):All Q (x::r):=⟨h,g⟩
theorem lOK {cx:Cx ty} {c:Code} {l:List Code} (ha:All (zC cx) l) (h:zh2 c=l:=by kernel_rfl) (hj:∀ i,cx.joins i=none:=by intro _; rfl):ziV cx c:=ztx h ha hj
theorem sW {P:Program} {cx cx':Cx ty} {α ρ:Type} (hm:P.follows .mixedOrders=true) (hcx:CxOK P cx) (hsame:cx.Same cx') (hspec:∀ g s,cx'.spec g=some s->Sound P cx g s)
  {f:Nat} {fn:Func} {c:Code} (hent:∀ args w,(callFunc f args).run P w=.ok (.enter f args) w) (hf:P.funcs[f]? =some fn) (hl:ziV cx' c) (sg:Sig:=⟨[.pure],[]⟩) {A:AL cx α} {res:ρ->ARes ty} {W:α->Wy0 ρ} {z:ρ}
  (hb:fn.body=some c:=by kernel_rfl)
  (hrun:∀ x,zeQ cx' fn c sg (A.enc x)=(W x).ev noH (λr=>some (res r)) none:=by intro _; kernel_rfl)
  (hchk:∀ x,(Nat.ble (A.enc x).length fn.ntmps&&zNg c (A.enc x) sg.upd)=true:=by intro _; kernel_rfl):
  Sound P cx f (zh A λx=>(((W x).fin z).1,res ((W x).fin z).2)):=z8s hm hcx hsame hspec hent hf hb hl hrun hchk
end
end Go.Ab
/- slices.Clone: three cases of the value that came in. -/
namespace Go.Ab
noncomputable section
variable {ty:Nat->Type}
theorem zbdI {cx:Cx ty} {F:Nat->Prop} {w:World} {v:Value} {T:Nat} {l:List (ty T)} (h:Rep cx F w v (.sl T l)):
  (v=.slice none 0 0/\l=[])\/(∃ a c,v=.slice (some a) 0 c/\l=[])\/l.isEmpty=false:=by
 cases h with
 | slE a c T hn=>
  cases a with
  | none=>rw [hn rfl]; exact .inl ⟨rfl,rfl⟩
  | some a=>exact .inr (.inl ⟨a,c,rfl,rfl⟩)
 | sl b off cap T l us hF hcap hlen hc hr=>
  cases l with
  | nil=>exact .inr (.inl ⟨_,cap,rfl,rfl⟩)
  | cons x r=>exact .inr (.inr rfl)
theorem zyo {P:Program} {cx cx':Cx ty} (hm:P.follows .mixedOrders=true) (hcx:CxOK P cx) (hsame:cx.Same cx') (hspec:∀ g s,cx'.spec g=some s->Sound P cx g s)
  {f:Nat} {fn:Func} {c:Code} (hent:∀ args w,(callFunc f args).run P w=.ok (.enter f args) w) (hf:P.funcs[f]? =some fn) (hb:fn.body=some c) (hl:ziV cx' c) {T:Nat} {bytes:Nat}
  (h1:zeQ cx' fn c ⟨[.own T],[]⟩ [.pure (.lit (.slice none 0 0))]=some ⟨[.own T []],[]⟩)
  (h2:∀ a n,zeQ cx' fn c ⟨[.own T],[]⟩ [.pure (.lit (.slice (some a) 0 n))]=some ⟨[.own T []],[]⟩)
  (h3:∀ l:List (ty T),zeQ cx' fn c ⟨[.own T],[]⟩ [.pure (.sl T l)]=bif !l.isEmpty then bif decide ((([]:List (ty T)).length+l.length)*bytes<=zD) then some ⟨[.own T l],[]⟩ else none else none)
  (hn:Nat.ble 1 fn.ntmps=true):
  Sound P cx f (zh (cx:=cx) (zd (ze (vSl T)) zp) λx=>(decide (x.1.length*bytes<=zD),⟨[.own T x.1],[]⟩)) where
 enters:=hent
 calls:=λas r hs w F vs hF ha hsep=>by
  unfold zh at hs;split at hs
  ·rename_i x hx;simp only [q0,qe] at hs;obtain ⟨hpre,rfl⟩:=hs;have hk:=(zd (ze (vSl (cx:=cx) T)) zp).kind vs as x hx;have ha':=(zd (ze (vSl (cx:=cx) T)) zp).ok P hcx F w vs as x hx ha;obtain ⟨l,_⟩:=x;obtain ⟨v,vs',rfl,hv,hv'⟩:=ha'.inv;obtain rfl:=hv'.nil_left.1;have hv:Rep cx F w v (.sl T l):=hv
   have fin:∀ (a:AV ty),Rep cx F w v a->zeQ cx' fn c ⟨[.own T],[]⟩ [.pure a]=some ⟨[.own T l],[]⟩->Calls P f [v].toArray w λe w'=>∃ u,e=.returned u/\Post cx F w (zbo [v] as) ⟨[.own T l],[]⟩ u w':=by
    intro a hra hrun;have:=z2v hm (hcx.cg hsame.s) (λg s hg=>(hspec g s hg).cg hsame) hf hb hl hrun hn rfl w F [v] hF (.cons (show zkc cx' F w v (.pure a) from Rep.cg hsame.s.enc hra) .nil) (SepW.cg hsame.s ⟨by intro i j u u' b h; simp [zbo] at h,⟨hsep.g.inv,λb ⟨v,hv,_⟩=>by simp [zbo] at hv,hsep.g.size⟩⟩)
    refine this.mono λe w' ⟨u,he,hp⟩=>⟨u,he, ?_⟩
    rw [hk];exact hp.cg hsame.s.symm λe=>hsame.dr ▸ e
   rcases zbdI hv with ⟨rfl,rfl⟩ | ⟨a,n,rfl,rfl⟩ | hne
   ·exact fin _ (.lit _) h1
   ·exact fin _ (.lit _) (h2 a n)
   ·refine fin _ hv ?_;rw [h3,hne];simp only [q1k,q7,qv,q1s];simp only at hpre;rw [hpre]; rfl
  ·cases hs
end
end Go.Ab
/- Trees of integers with their lexicographic order: a total order. Plain Lean. -/
namespace Go.Ab
noncomputable section
inductive TT where
 | i (n:Int)
 | l (ts:List TT)
def zef (a b:Int):Int:=if a<b then -1 else if b<a then 1 else 0
mutual
def zbe:TT->TT->Int
 | .i a,.i b=>zef a b
 | .l a,.l b=>zbx a b
 | .i _,.l _=> -1
 | .l _,.i _=>1
def zbx:List TT->List TT->Int
 | [],[]=>0
 | [],_::_=> -1
 | _::_,[]=>1
 | x::a,y::b=>if zbe x y=0 then zbx a b else zbe x y
end
theorem zbhj (a b:Int):zef b a= - zef a b:=by unfold zef; split <;>split <;>omega
theorem zbkw {a b:Int} (h:zef a b=0):a=b:=by
 unfold zef at h; split at h
 ·omega
 ·split at h <;>omega
theorem zbgN {a b c:Int} (h1:zef a b<=0) (h2:zef b c<=0):zef a c<=0:=by
 unfold zef at *;by_cases p:b<a
 ·rw [if_neg (by omega),if_pos p] at h1; omega
 ·by_cases q:c<b
  ·rw [if_neg (by omega),if_pos q] at h2; omega
  ·by_cases r:a<c
   ·rw [if_pos r]; omega
   ·rw [if_neg r,if_neg (by omega)]; omega
theorem zbiO (a b:Int):zef a b= -1\/zef a b=0\/zef a b=1:=by
 unfold zef;split
 ·simp
 ·split <;>simp
mutual
theorem zgm:∀ a b:TT,zbe b a= - zbe a b
 | .i a,.i b=>by simp only [zbe]; exact zbhj a b
 | .l a,.l b=>by simp only [zbe]; exact zH5 a b
 | .i _,.l _=>by simp only [zbe]; rfl
 | .l _,.i _=>by simp only [zbe]
theorem zH5:∀ a b:List TT,zbx b a= - zbx a b
 | [],[]=>by simp only [zbx]; rfl
 | [],_::_=>by simp only [zbx]; rfl
 | _::_,[]=>by simp only [zbx]
 | x::a,y::b=>by
  simp only [zbx];rw [zgm x y,zH5 a b];split <;>split <;>omega
end
mutual
theorem ztc:∀ a b:TT,zbe a b=0->a=b
 | .i a,.i b=>λh=>by simp only [zbe] at h; rw [zbkw h]
 | .l a,.l b=>λh=>by simp only [zbe] at h; rw [zLZ a b h]
 | .i _,.l _=>λh=>by simp only [zbe] at h; omega
 | .l _,.i _=>λh=>by simp only [zbe] at h; omega
theorem zLZ:∀ a b:List TT,zbx a b=0->a=b
 | [],[]=>λ_=>rfl
 | [],_::_=>λh=>by simp only [zbx] at h; omega
 | _::_,[]=>λh=>by simp only [zbx] at h; omega
 | x::a,y::b=>λh=>by
  simp only [zbx] at h;split at h
  ·rename_i h0;rw [ztc x y h0,zLZ a b h]
  ·rename_i h0; exact absurd h h0
end
theorem zD0 (a:TT):zbe a a=0:=by have:=zgm a a; omega
theorem zZP (a:List TT):zbx a a=0:=by have:=zH5 a a; omega
mutual
theorem ztY:∀ a b c:TT,zbe a b<=0->zbe b c<=0->zbe a c<=0
 | .i a,.i b,.i c=>λh1 h2=>by simp only [zbe] at *; exact zbgN h1 h2
 | .l a,.l b,.l c=>λh1 h2=>by simp only [zbe] at *; exact zLA a b c h1 h2
 | .i a,.i b,.l c=>λh1 h2=>by simp only [zbe]; omega
 | .i a,.l b,.l c=>λh1 h2=>by simp only [zbe]; omega
 | .i a,.l b,.i c=>λh1 h2=>by simp only [zbe] at h2; omega
 | .l a,.i b,_=>λh1 h2=>by simp only [zbe] at h1; omega
 | .l a,.l b,.i c=>λh1 h2=>by simp only [zbe] at h2; omega
theorem zLA:∀ a b c:List TT,zbx a b<=0->zbx b c<=0->zbx a c<=0
 | [],_,[]=>λh1 h2=>by simp only [zbx]; omega
 | [],_,_::_=>λh1 h2=>by simp only [zbx]; omega
 | _::_,[],_=>λh1 h2=>by simp only [zbx] at h1; omega
 | _::_,_::_,[]=>λh1 h2=>by simp only [zbx] at h2; omega
 | x::a,y::b,z::c=>λh1 h2=>by
  simp only [zbx] at *;by_cases p:zbe x y=0
  ·rw [if_pos p] at h1;have p':=ztc x y p;subst p';by_cases q:zbe x z=0
   ·rw [if_pos q] at h2 ⊢; exact zLA a b c h1 h2
   ·rw [if_neg q] at h2 ⊢; exact h2
  ·rw [if_neg p] at h1;by_cases q:zbe y z=0
   ·have q':=ztc y z q;subst q';rw [if_neg p]; exact h1
   ·rw [if_neg q] at h2;have t:=ztY x y z h1 h2;by_cases r:zbe x z=0
    ·have r':=ztc x z r;subst r';have:=zgm x y;omega
    ·rw [if_neg r]; exact t
end
mutual
theorem zbdb:∀ a b:TT,zbe a b= -1\/zbe a b=0\/zbe a b=1
 | .i a,.i b=>by simp only [zbe]; exact zbiO a b
 | .l a,.l b=>by simp only [zbe]; exact zbcG a b
 | .i _,.l _=>by simp [zbe]
 | .l _,.i _=>by simp [zbe]
theorem zbcG:∀ a b:List TT,zbx a b= -1\/zbx a b=0\/zbx a b=1
 | [],[]=>by simp [zbx]
 | [],_::_=>by simp [zbx]
 | _::_,[]=>by simp [zbx]
 | x::a,y::b=>by
  simp only [zbx];split
  ·exact zbcG a b
  ·exact zbdb x y
end
theorem zbag {a b c:List TT} (h1:zbx a b<0) (h2:zbx b c<0):zbx a c<0:=by
 have h:=zLA a b c (by omega) (by omega)
 by_cases e:zbx a c=0
 ·have e':=zLZ a c e;subst e';have:=zH5 a b;omega
 ·omega
def trB (b:ByteArray):TT:=.l (b.data.toList.map λx=>.i (x.toNat:Int))
theorem zbfQ:∀ a b:List UInt8,Lib.compareBytes a b=zbx (a.map λx=>.i (x.toNat:Int)) (b.map λx=>.i (x.toNat:Int))
 | [],[]=>by simp only [Lib.compareBytes,List.map,zbx]
 | [],_::_=>by simp only [Lib.compareBytes,List.map,zbx]
 | _::_,[]=>by simp only [Lib.compareBytes,List.map,zbx]
 | x::a,y::b=>by
  simp only [Lib.compareBytes,List.map,zbx,zbe,zef];have e1:(x<y)↔(x.toNat:Int)<(y.toNat:Int):=by rw [UInt8.lt_iff_toNat_lt]; omega
  have e2:(y<x)↔(y.toNat:Int)<(x.toNat:Int):=by rw [UInt8.lt_iff_toNat_lt]; omega
  by_cases p:x<y
  ·simp [p,e1.1 p]
  ·by_cases q:y<x
   ·simp only [if_neg p,if_pos q,if_neg (λh=>p (e1.2 h)),if_pos (e2.1 q)]; rfl
   ·simp only [if_neg p,if_neg q,if_neg (λh=>p (e1.2 h)),if_neg (λh=>q (e2.2 h)),if_true]; exact zbfQ a b
theorem zbfm (a b:ByteArray):Lib.compareBytes a.data.toList b.data.toList=zbe (trB a) (trB b):=by rw [zbfQ]; simp only [trB,zbe]
end
end Go.Ab
