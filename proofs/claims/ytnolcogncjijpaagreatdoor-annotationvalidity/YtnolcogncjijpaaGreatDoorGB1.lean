/- Texts of this claim, joined (the library functions, over typed data). -/
import Derived.Shelf.Strconv.Itoa3
import Derived.Shelf.Strings.OnBuilder
import Derived.Shelf.SlSortCmp.NoneTotal
import Derived.Lib.SmallJoins
import Derived.Shelf.Small.Wraps
import Derived.Shelf.Strings.Cut
import Derived.Shelf.Strings.FuncGrows
import Derived.Shelf.Strconv.ErrVarAll
import Derived.Shelf.Small.Strs
import Derived.Shelf.Strconv.Itoa4
import Derived.Shelf.Strings.Replace
import Derived.Shelf.Small.Bits
import Derived.Test.YtnolcogncjijpaaGreatDoorGA3
set_option autoImplicit false
set_option linter.unusedVariables false
set_option linter.unusedSectionVars false
set_option linter.unusedSimpArgs false
/- Contracts of the library's own functions, over typed data: numbers in decimal, joined strings. -/
namespace Go.Ab
noncomputable section
open Go.Sort Go.Proofs Go.Shelf Go.RowKit
variable {ty:Nat->Type}
theorem zJ2 {P:Program} {cx:Cx ty} (hdr:cx.dr=false) {w w':World} (h:Below w.heap.size w w'):Kept cx.dr (zkl []) w w':=
 ⟨h.os,h.tape,h.output,λe=>absurd (hdr ▸ e) (by simp),h.size,λb hb _=>h.block b hb⟩
theorem zNf {dr:Bool} {OP:Nat->Prop} {w w':World} {k:Nat} {os:Array Obj} (h:w'=grow (w.drewN k) os):Kept dr OP w w':=by
 subst h;exact ⟨rfl,rfl,rfl,λ_=>Nat.le_add_right _ _,by simp [grow],λb hb _=>by unfold grow; exact Array.getElem?_append_left (by simpa using hb)⟩
theorem zS2 {dr:Bool} {OP:Nat->Prop} {w w':World} (h:w'=w):Kept dr OP w w':=by
 subst h;exact ⟨rfl,rfl,rfl,λ_=>Nat.le_refl _,Nat.le_refl _,λb hb _=>rfl⟩
theorem zMo {P:Program} {cx:Cx ty} (hcx:CxOK P cx) {f:Nat} (hent:∀ args w,(callFunc f args).run P w=.ok (.enter f args) w) {α:Type} (A:AL cx α) (G:α->Bool×List Value) (hown:∀ x vs,zbc vs (A.enc x)=[])
  (h:∀ x,(G x).1=true->∀ (w:World) (F:Nat->Prop) (vs:List Value),cx.inv w->(∀ b,F b->b<w.heap.size)->All2 (zim cx F w) vs (A.enc x)->Calls P f vs.toArray w λe w'=>e=.returned (zw1 (G x).2)/\Kept cx.dr (zkl []) w w'):
  Sound P cx f (zi A λx=>((G x).1,⟨(G x).2.map λv=>.pure (.lit v),[]⟩)) where
 enters:=hent
 calls:=λavs r hsp w F vs hF ha hsep=>by
  unfold zi at hsp;split at hsp
  ·rename_i x hx;simp only [qa,qb] at hsp;obtain ⟨hpre,rfl⟩:=hsp;have hk:=A.kind vs avs x hx;rw [hown x vs] at hk;refine (h x hpre w F vs hsep.g.inv hF (A.ok P hcx F w vs avs x hx ha)).mono λe w' ⟨he,hkept⟩=>⟨_,he, ?_⟩
   rw [hk];refine ⟨F,(G x).2,rfl,hkept,λ_ h=>h,λb h=>⟨Nat.lt_of_lt_of_le (hF b h) hkept.size,.inl h⟩,⟨by simp,λj u c hu hc=> ?_⟩,.nil,λi j T l T' l' u v b h=> ?_,λi m T l x u v b _ h=>by simp at h⟩
   ·rw [List.getElem?_map,hu] at hc;simp only [Option.map_some,qa] at hc;subst hc; exact Rep.lit u
   ·rw [List.getElem?_map] at h;cases hg:(G x).2[i]? <;>rw [hg] at h <;>simp at h
  ·cases hsp
theorem zZW {cx:Cx ty} {F:Nat->Prop} {w:World} {vs:List Value} {n:Int} (h:All2 (zim cx F w) vs [Arg.pure (.lit (.int .i64 n))]):vs=[.int .i64 n]:=by
 obtain ⟨u,us,rfl,hu,hus⟩:=h.inv;obtain rfl:=hus.nil_left.1;have hu:Rep cx F w u (.lit (.int .i64 n)):=hu;cases hu; rfl
def zCr:Nat->Nat->List UInt8
 | 0,_=>[]
 | f+1,u=>bif Nat.blt u 10 then [UInt8.ofNat (48+u)] else zCr f (u / 10)++[UInt8.ofNat (48+u % 10)]
theorem zSa:∀ (f u:Nat),u<10 ^ f->zCr f u=Lib.decDigits u\/f=0
 | 0,_,_=>.inr rfl
 | f+1,u,h=>by
  refine .inl ?_;rw [zCr,Lib.decDigits];by_cases h1:u<10
  ·have:Nat.blt u 10=true:=by simp [Nat.blt]; omega
   rw [this,dif_pos h1]; rfl
  ·have:Nat.blt u 10=false:=by cases hb:Nat.blt u 10 <;>simp [Nat.blt] at hb ⊢; omega
   rw [this,dif_neg h1];have h2:u / 10<10 ^ f:=by rw [Nat.pow_succ] at h; omega
   rcases zSa f (u / 10) h2 with h3 | h3
   ·rw [h3]; rfl
   ·subst h3; simp at h2; omega
def ziE (n:Int):List UInt8:=bif decide (n<0) then 45::zCr 20 n.natAbs else zCr 20 n.toNat
theorem zP2 {n:Int} (h1: -9223372036854775808<=n) (h2:n<=9223372036854775807):ziE n=Lib.itoa n:=by
 have e:∀ u:Nat,u<10 ^ 20->zCr 20 u=Lib.decDigits u:=λu h=>(zSa 20 u h).resolve_right (by omega)
 unfold ziE Lib.itoa;by_cases h:n<0
 ·rw [decide_eq_true h,if_pos h,e n.natAbs (by omega)]; rfl
 ·rw [decide_eq_false h,if_neg h,e n.toNat (by omega)]; rfl
def zNH (n:Int):ByteArray:=⟨(ziE n).toArray⟩
def zNN (n:Int):Bool×ByteArray:=(decide (-9223372036854775808<=n)&&decide (n<=9223372036854775807),zNH n)
theorem zWy {P:Program} {cx:Cx ty} {ρ:Ren} (hcx:CxOK P cx) (L:LaysM.n171 P ρ) (hent:∀ args w,(callFunc (ρ.f 171) args).run P w=.ok (.enter (ρ.f 171) args) w) (htab:∀ w,cx.inv w->Lib.TabIs P w "internal/strconv.uint64pow10" .u64 Lib.pow10Tab):
  Sound P cx (ρ.f 171) (zi (cx:=cx) (zf (zg (zgr .i64)) zF) λx=>((zNN x.1).1,⟨[.pure (.lit (.string (zNN x.1).2))],[]⟩)):=by
 refine zMo hcx hent (zf (zg (zgr .i64)) zF) (λx=>((zNN x.1).1,[.string (zNN x.1).2])) (λx vs=> ?_) λx hx w F vs hi _ ha=> ?_
 ·cases vs with
  | nil=>rfl
  | cons v vs=>cases vs <;>rfl
 ·obtain ⟨n,_⟩:=x;obtain rfl:=zZW ha;simp only [zNN,qc,qe] at hx;show Calls P (ρ.f 171) [Value.int .i64 n].toArray w λe w'=>e=.returned (zw1 [.string (zNH n)])/\Kept cx.dr (zkl []) w w'
  unfold zNH;rw [zP2 hx.1 hx.2];exact (Any.strconv_Itoa L n hx.1 hx.2 w (htab w hi)).mono λe w' ⟨he,k,os,hw⟩=>⟨he,zNf hw⟩
def z03 (l:List ByteArray) (sep:ByteArray):ByteArray:=⟨(Lib.join (l.map (·.data.toList)) sep.data.toList).toArray⟩
def zTQ (l:List ByteArray) (sep:ByteArray):Bool×ByteArray:=(decide (l.length<=140737488355328)&&decide ((Lib.join (l.map (·.data.toList)) sep.data.toList).length<=140737488355328),z03 l sep)
theorem zWp {P:Program} {cx:Cx ty} {ρ:Ren} (hcx:CxOK P cx) (hdr:cx.dr=false) (L:Lays.n156 P ρ) (X:Builder.Extra P ρ) (hent:∀ args w,(callFunc (ρ.f 156) args).run P w=.ok (.enter (ρ.f 156) args) w) {T:Nat} (toS:ty T->ByteArray)
  (henc:∀ s,cx.enc T s=[.lit (.string (toS s))]) (J:List (ty T)->ByteArray->Bool×ByteArray) (hJ:∀ l sep,J l sep=zTQ (l.map toS) sep):
  Sound P cx (ρ.f 156) (zi (cx:=cx) (zf (zg (vSl T)) (zf (zg zss) zF)) λx=>((J x.1 x.2.1).1,⟨[.pure (.lit (.string (J x.1 x.2.1).2))],[]⟩)):=by
 refine zMo hcx hent (zf (zg (vSl T)) (zf (zg zss) zF)) (λx=>((J x.1 x.2.1).1,[.string (J x.1 x.2.1).2])) (λx vs=> ?_) λx hx w F vs hi hF ha=> ?_
 ·cases vs with
  | nil=>rfl
  | cons v vs=>cases vs with
   | nil=>rfl
   | cons u us=>cases us <;>rfl
 ·obtain ⟨l,sep,_⟩:=x;obtain ⟨u,us,rfl,hu,hus⟩:=ha.inv;obtain ⟨u2,us2,rfl,hu2,hus2⟩:=hus.inv;obtain rfl:=hus2.nil_left.1;have hu:Rep cx F w u (.sl T l):=hu;have hu2:Rep cx F w u2 (.lit (.string sep)):=hu2;cases hu2;show Calls P (ρ.f 156) [u,.string sep].toArray w λe w'=>e=.returned (zw1 [.string (J l sep).2])/\Kept cx.dr (zkl []) w w'
  have hx:(J l sep).1=true:=hx;rw [hJ] at hx ⊢;simp only [zTQ,qc,qe] at hx;cases hu with
  | slE a c _ hn=>
   refine (Any.strings_Join_none L X a c sep w).mono λe w' ⟨he,hw⟩=>⟨?_,zS2 hw⟩
   rw [he]; rfl
  | sl b off cap _ _ us hFb hcap hlen hc hr=>
   have hel:∀ l:List (ty T),zcc cx T l=l.map λs=>.lit (.string (toS s)):=λl=>by
    induction l with
    | nil=>rfl
    | cons s l ih=>
     have:zcc cx T (s::l)=cx.enc T s++zcc cx T l:=rfl;rw [this,ih,henc]; rfl
   have hlen':us.length=l.length:=by rw [hlen,hel]; simp
   have h:=Any.strings_Join L X b off cap (l.map toS) sep w (λj s hj=> ?_) (hF b hFb) hx.1 (by simpa using hcap) hx.2
   ·rw [List.length_map] at h;exact h.mono λe w' ⟨he,hw⟩=>⟨by rw [he]; rfl,zJ2 (P:=P) hdr hw⟩
   ·rw [List.getElem?_map] at hj;obtain ⟨s0,hs0,rfl⟩:=Option.map_eq_some_iff.1 hj;have hjl:j<us.length:=by rw [hlen']; exact (List.getElem?_eq_some_iff.1 hs0).1
    have hju:=List.getElem?_eq_getElem hjl;have:=hr j _ (.lit (.string (toS s0))) hju (by rw [hel,List.getElem?_map,hs0]; rfl)
    rw [hc j _ hju];generalize us[j]=u at this;cases this; rfl
end
end Go.Ab
/- Sorting rows of the call's own by a function of the program's: the library's sort, over typed data. -/
namespace Go.Ab
noncomputable section
open Go.Sort Go.Proofs Go.Shelf
variable {ty:Nat->Type}
structure SortOK {α:Type} (c:α->α->Bool×Int) (l:List α):Prop where
 size:l.length<4611686018427387904
 ends : ∀ x ∈ l, ∀ y ∈ l, (c x y).1 = true
 irrefl:∀ x∈l,¬ (c x x).2<0
 trans:∀ x∈l,∀ y∈l,∀ z∈l,(c x y).2<0->(c y z).2<0->(c x z).2<0
 ntrans:∀ x∈l,∀ y∈l,∀ z∈l,¬ (c x y).2<0->¬ (c y z).2<0->¬ (c x z).2<0
 total:∀ x∈l,∀ y∈l,¬ (c x y).2<0->¬ (c y x).2<0->x=y
instance {α:Type} [DecidableEq α] (c:α->α->Bool×Int) (l:List α):Decidable (SortOK c l):=
 decidable_of_iff (l.length<4611686018427387904/\(∀ x∈l,∀ y∈l,(c x y).1=true)/\(∀ x∈l,¬ (c x x).2<0)/\(∀ x∈l,∀ y∈l,∀ z∈l,(c x y).2<0->(c y z).2<0->(c x z).2<0)/\
  (∀ x∈l,∀ y∈l,∀ z∈l,¬ (c x y).2<0->¬ (c y z).2<0->¬ (c x z).2<0)/\(∀ x∈l,∀ y∈l,¬ (c x y).2<0->¬ (c y x).2<0->x=y))
  ⟨λ⟨h1,h2,h3,h4,h5,h6⟩=>⟨h1,h2,h3,h4,h5,h6⟩,λh=>⟨h.size,h.ends,h.irrefl,h.trans,h.ntrans,h.total⟩⟩
def ins {α:Type} (c:α->α->Bool×Int) (x:α):List α->List α
 | []=>[x]
 | y::r=>bif decide ((c y x).2<0) then y::ins c x r else x::y::r
def zgN {α:Type} (c:α->α->Bool×Int):List α->List α
 | []=>[]
 | x::r=>ins c x (zgN c r)
def zDV {α:Type} [DecidableEq α] (c:α->α->Bool×Int) (l:List α):Bool×List α:=(decide (SortOK c l),zgN c l)
theorem zP8 {α:Type} (c:α->α->Bool×Int) (x:α):∀ l:List α,(ins c x l).Perm (x::l)
 | []=>.refl _
 | y::r=>by
  unfold ins;cases decide ((c y x).2<0)
  ·exact .refl _
  ·exact ((zP8 c x r).cons y).trans (.swap x y r)
theorem zlV {α:Type} (c:α->α->Bool×Int):∀ l:List α,(zgN c l).Perm l
 | []=>.refl _
 | x::r=>(zP8 c x _).trans ((zlV c r).cons x)
abbrev Asc {α:Type} (c:α->α->Bool×Int) (l:List α):Prop:=l.Pairwise λx y=>¬ (c y x).2<0
theorem zWb {α:Type} {c:α->α->Bool×Int} {l0:List α} (hn:∀ x∈l0,∀ y∈l0,∀ z∈l0,¬ (c x y).2<0->¬ (c y z).2<0->¬ (c x z).2<0) (ha:∀ x∈l0,∀ y∈l0,(c x y).2<0->¬ (c y x).2<0) {x:α} (hx:x∈l0):
  ∀ l:List α,(∀ y∈l,y∈l0)->Asc c l->Asc c (ins c x l)
 | [],_,_=>by simp [ins]
 | y::r,hm,h=>by
  have h:=qi.1 h;have hy:=hm y (by simp)
  unfold ins;by_cases hd:(c y x).2<0
  ·rw [decide_eq_true hd];refine qi.2 ⟨λz hz=> ?_,zWb hn ha hx r (λz hz=>hm z (by simp [hz])) h.2⟩
   rcases qd.1 ((zP8 c x r).mem_iff.1 hz) with rfl | hz
   ·exact ha _ hy _ hx hd
   ·exact h.1 z hz
  ·rw [decide_eq_false hd];refine qi.2 ⟨λz hz=> ?_,qi.2 h⟩
   rcases qd.1 hz with rfl | hz
   ·exact hd
   ·exact hn z (hm z (by simp [hz])) y hy x hx (h.1 z hz) hd
theorem zLU {α:Type} {c:α->α->Bool×Int} {l0:List α} (hn:∀ x∈l0,∀ y∈l0,∀ z∈l0,¬ (c x y).2<0->¬ (c y z).2<0->¬ (c x z).2<0) (ha:∀ x∈l0,∀ y∈l0,(c x y).2<0->¬ (c y x).2<0):
  ∀ l:List α,(∀ y∈l,y∈l0)->Asc c (zgN c l)
 | [],_=>.nil
 | x::r,hm=>zWb hn ha (hm x (by simp)) _ (λy hy=>hm y (List.mem_cons_of_mem _ ((zlV c r).mem_iff.1 hy))) (zLU hn ha r λy hy=>hm y (List.mem_cons_of_mem _ hy))
theorem SortOK.asymm {α:Type} {c:α->α->Bool×Int} {l:List α} (ok:SortOK c l):∀ x∈l,∀ y∈l,(c x y).2<0->¬ (c y x).2<0:=λx hx y hy h1 h2=>ok.irrefl x hx (ok.trans x hx y hy x hx h1 h2)
theorem SortOK.unique {α:Type} {c:α->α->Bool×Int} {l l':List α} (ok:SortOK c l) (hp:l'.Perm l) (hs:Asc c l'):l'=zgN c l:=by
 refine List.Perm.eq_of_pairwise (le:=λx y=>¬ (c y x).2<0) (λa b ha hb h1 h2=> ?_) hs (zLU ok.ntrans ok.asymm l λ_ h=>h) (hp.trans (zlV c l).symm)
 exact ok.total a (hp.mem_iff.1 ha) b ((zlV c l).mem_iff.1 hb) h2 h1
abbrev Elm {V α:Type} (Rp:V->α->Prop) (l:List α):Type:={ p:V×α // Rp p.1 p.2/\p.2∈l }
theorem zNJ {V α:Type} {Rp:V->α->Prop} {l:List α} {c:α->α->Bool×Int} (ok:SortOK c l):SWO (ltOf λx y:Elm Rp l=>(c x.1.2 y.1.2).2):=
 ⟨λx=>by simpa [ltOf] using ok.irrefl x.1.2 x.2.2,λx y z h1 h2=>by simp only [ltOf,qe] at *; exact ok.trans _ x.2.2 _ y.2.2 _ z.2.2 h1 h2,λx y z h1 h2=>by
  simp only [ltOf,decide_eq_false_iff_not] at *; exact ok.ntrans _ x.2.2 _ y.2.2 _ z.2.2 h1 h2⟩
theorem zJH {V α:Type} {Rp:V->α->Prop} {l:List α} {c:α->α->Bool×Int} (ok:SortOK c l) [Inhabited (Elm Rp l)] (d d':Array (Elm Rp l)) (hd:d.toList.map (·.1.2)=l)
  (hp:PermIn 0 d.size d d') (hs:SortedIn (ltOf λx y:Elm Rp l=>(c x.1.2 y.1.2).2) 0 d.size d'):d'.toList.map (·.1.2)=zgN c l:=by
 obtain ⟨h1,h2,h3⟩:=hp;have e1:d'.extract 0 d.size=d':=by rw [<- h1]; exact Array.extract_size
 rw [e1,Array.extract_size] at h3;have hm:(d'.toList.map (·.1.2)).Perm (d.toList.map (·.1.2)):=h3.map _;refine ok.unique (hm.trans (by rw [hd])) ?_
 rw [Asc,List.pairwise_map];refine List.pairwise_iff_getElem.2 λi j hi hj hij=> ?_
 have:=hs i j (Nat.zero_le _) hij (by simpa [h1] using hj)
 simp only [Array.length_toList] at hi hj;rw [getElem!_pos d' i hi,getElem!_pos d' j hj] at this
 simpa [ltOf] using this
theorem zXS {OP:Nat->Prop} {W w':World} (h:Kept true OP W w') (hop:∀ b,¬ OP b):∃ q os',w'=grow (W.drewN q) os':=by
 refine ⟨w'.drawn - W.drawn,w'.heap.extract W.heap.size w'.heap.size, ?_⟩;obtain ⟨h1,h2,h3,h4',h5,h6⟩:=h;have h4:=h4' rfl;clear h4';obtain ⟨hp,tp,dr,os,ou⟩:=w';simp only at h1 h2 h3 h4 h5 h6;subst h1 h2 h3;unfold grow World.drewN;simp only [World.mk.injEq,and_true,true_and];refine ⟨?_,by omega⟩
 apply Array.ext_getElem?;intro i;rw [Array.getElem?_append];split
 ·rename_i hi; exact h6 i hi (hop i)
 ·rename_i hi;rw [Array.getElem?_extract];split
  ·congr 1; omega
  ·exact Array.getElem?_eq_none (by omega)
theorem zVy {α:Type} [Inhabited α] (enc:α->Value) (w:World) (blk off:Nat) (d:Array α) (b:Nat) (h:b≠blk):(putRow enc w blk off d).heap[b]? =w.heap[b]? :=by
 unfold putRow mapBlock;simp only [Array.getElem?_modify];rw [if_neg (λe=>h e.symm)]
theorem zLz {α:Type} [Inhabited α] (enc:α->Value) (w:World) (blk off:Nat) (d:Array α) {c:Array Value} {e:TypeId} {fr:Nat×Nat} (h:w.heap[blk]? =some (.cells c e fr)):
  (putRow enc w blk off d).heap[blk]? =some (.cells (putCells enc off d c) e fr):=by
 unfold putRow mapBlock;simp only [Array.getElem?_modify,if_true,h,Option.map_some,onCells]
theorem zAT {α:Type} [Inhabited α] (enc:α->Value) (d:Array α) (c:Array Value) (h:d.size<=c.size):(putCells enc 0 d c).size=c.size/\(putCells enc 0 d c).toList.take d.size=d.toList.map enc:=by
 refine ⟨by simp [putCells], ?_⟩
 apply List.ext_getElem?;intro i;rw [List.getElem?_take];split
 ·rename_i hi;rw [Array.getElem?_toList];unfold putCells;rw [Array.getElem?_mapIdx,Array.getElem?_eq_getElem (by omega)]
  simp only [Option.map_some];rw [if_pos ⟨Nat.zero_le _,by omega⟩]
  simp [getElem!_pos d i hi,hi]
 ·rename_i hi;rw [List.getElem?_eq_none (by simp; omega)]
theorem zmj {α:Type} [Inhabited α] (enc:α->List Value) (k:Nat) (w:World) (blk m:Nat) (d:Array α) (os:Array Obj):∀ b,b<w.heap.size->b≠blk->(sortWorldK enc k w blk 0 m d os).heap[b]? =w.heap[b]? :=by
 intro b hb hne;unfold sortWorldK putRowK grow;rw [Array.getElem?_append_left (by simpa using hb),zVy _ _ _ _ _ _ hne]
 rfl
theorem zRR {P:Program} {cx:Cx ty} (hcx:CxOK P cx) {F:Nat->Prop} {w:World} {T:Nat} {x:ty T} {us:List Value} (h:All2 (Rep cx F w) us (cx.enc T x)):∀ u∈us,u.oneCell'=true:=by
 have:zcc cx T [x]=cx.enc T x:=by simp [zcc]
 exact zPL hcx (this ▸ h)
theorem zND {cx:Cx ty} {P:Program} (hcx:CxOK P cx) {F:Nat->Prop} {w:World} {T:Nat} {l0:List (ty T)}:∀ (l:List (ty T)) (xs:List Value),(∀ x∈l,x∈l0)->All2 (Rep cx F w) xs (zcc cx T l)->
  ∃ d:List (Elm (λus x=>All2 (Rep cx F w) us (cx.enc T x)) l0),d.map (·.1.2)=l/\d.flatMap (·.1.1)=xs
 | [],xs,hm,h=>by
  obtain rfl:=h.nil_left.1;exact ⟨[],rfl,rfl⟩
 | x::l,xs,hm,h=>by
  have e:zcc cx T (x::l)=cx.enc T x++zcc cx T l:=rfl;have h1:=h.take (cx.enc T x).length;have h2:=h.drop (cx.enc T x).length;rw [e,List.take_left] at h1;rw [e,List.drop_left] at h2;obtain ⟨d,hd,hx⟩:=zND hcx l _ (λy hy=>hm y (List.mem_cons_of_mem _ hy)) h2
  refine ⟨⟨(xs.take (cx.enc T x).length,x),h1,hm x (by simp)⟩::d,by simp [hd], ?_⟩
  simp [hx]
theorem zPn {cx:Cx ty} {F:Nat->Prop} {w:World} {T:Nat} {l0:List (ty T)} (d:List (Elm (λus x=>All2 (Rep cx F w) us (cx.enc T x)) l0)):All2 (Rep cx F w) (d.flatMap (·.1.1)) (zcc cx T (d.map (·.1.2))):=by
 induction d with
 | nil=>exact .nil
 | cons x d ih=>
  have:zcc cx T ((x::d).map (·.1.2))=cx.enc T x.1.2++zcc cx T (d.map (·.1.2)):=rfl;rw [this];exact x.2.1.append ih
theorem zIW {α:Type} [Inhabited α] (enc:α->List Value) (k:Nat) (hk:∀ x,(enc x).length=k) (d:Array α):(flatK enc k d).toList=d.toList.flatMap enc:=by
 apply List.ext_getElem?;intro t;by_cases ht:t<d.size*k
 ·have k0:0<k:=by rcases Nat.eq_zero_or_pos k with h | h; · subst h; simp at ht
                  ·exact h
  have h1:t / k<d.size:=(Nat.div_lt_iff_lt_mul k0).2 ht;have h2:t % k<k:=Nat.mod_lt _ k0;have e1:=zJO enc k hk d.toList (t / k) (t % k) h2;rw [Nat.mul_comm,Nat.div_add_mod] at e1;rw [e1,Array.getElem?_toList,Array.getElem?_eq_getElem (by simpa using ht),Array.getElem?_toList,Array.getElem?_eq_getElem h1]
  have:=get_flatK enc k d t ht;rw [getElem!_pos _ t (by simpa using ht),getElem!_pos d _ h1] at this
  rw [this,getElem!_pos _ _ (by rw [hk]; exact h2)]
  simp [hk,h2]
 ·rw [List.getElem?_eq_none (by simpa using ht),List.getElem?_eq_none (by rw [zDM enc k hk]; simpa using ht)]
theorem zDc:∀ (vs:List Value) (avs:List (AV ty)),zbc vs (avs.map Arg.pure)=[]
 | [],[]=>rfl
 | [],_::_=>rfl
 | _::_,[]=>rfl
 | _::vs,_::avs=>by simp only [List.map_cons,zbc]; exact zDc vs avs
theorem zYm:zZd []:=λi j u v b h=>by simp at h
theorem zQb {cx:Cx ty} {w:World} (hi:cx.inv w) (hn:cx.ng<=w.heap.size):SepW cx w []:=⟨zYm,⟨hi,λb ⟨v,hv,_⟩=>absurd hv (by simp),hn⟩⟩
theorem z0b (b:Nat):¬ zkl [] b:=λ⟨v,hv,_⟩=>by cases hv
theorem zMU {P:Program} {cx:Cx ty} (hdr:cx.dr=true) {g:Nat} {s:Spec ty} (hs:Sound P cx g s) {F:Nat->Prop} {W:World} {us:List Value} {avs:List (AV ty)} {n:Int} (hsp:s (avs.map Arg.pure)=some (true,⟨[.pure (.lit (.int .i64 n))],[]⟩))
  (hF:∀ b,F b->b<W.heap.size) (ha:All2 (Rep cx F W) us avs) (hg:SepW cx W []):Calls P g us.toArray W λe w'=>e=.returned (.int .i64 n)/\∃ q os',w'=grow (W.drewN q) os':=by
 have hA:All2 (zim cx F W) us (avs.map Arg.pure):=⟨by rw [ha.len,List.length_map],λj u c hu hc=>by
  rw [List.getElem?_map] at hc;obtain ⟨a,ha',rfl⟩:=Option.map_eq_some_iff.1 hc;exact ha.at_ j u a hu ha'⟩
 refine (hs.calls _ _ hsp W F us hF hA (by rw [zDc]; exact hg)).mono λe w' ⟨v,he,hp⟩=> ?_
 obtain ⟨F',rs,hv,hk,_,_,hr,_⟩:=hp.ok;rw [zDc,hdr] at hk;obtain ⟨u,us',rfl,hu,hus⟩:=hr.inv;obtain rfl:=hus.nil_left.1;have hu:Rep cx F' w' u (.lit (.int .i64 n)):=hu;cases hu;exact ⟨by rw [he,hv]; rfl,zXS hk z0b⟩
theorem zNo (dr:Bool) (OP:Nat->Prop) (w:World):Kept dr OP w w:=⟨rfl,rfl,rfl,λ_=>Nat.le_refl _,Nat.le_refl _,λ_ _ _=>rfl⟩
theorem zx7 {cx:Cx ty} {F:Nat->Prop} {w w':World} {v:Value} {T:Nat} {l:List (ty T)} (hF:∀ b,F b->b<w.heap.size) (hk:Kept cx.dr (zkl [v]) w w') (hr:zcn cx F w' v T l) (hn:∀ b,zS v=some b->¬ F b):
  Post cx F w [v] ⟨[],[some ⟨T,l⟩]⟩ (.tuple #[]) w':=
 ⟨⟨F,[],rfl,hk,λ_ h=>h,λb h=>⟨Nat.lt_of_lt_of_le (hF b h) hk.size,.inl h⟩,.nil,.cons ⟨hr,hn⟩ .nil,λi j T l T' l' u v b h=>by simp at h,λi m T l x u v b h=>by simp at h⟩⟩
set_option maxHeartbeats 1000000 in
theorem zVv {P:Program} {cx:Cx ty} {ρ:Ren} (hcx:CxOK P cx) (hdr:cx.dr=true) (L:SlLaysF0.n6 P ρ) {T:Nat} [DecidableEq (ty T)] (aE:∀ w,(isAgg (ρ.t 24)).run P w=.ok true w) (zE:∀ w,(Go.sizeOf (ρ.t 24)).run P w=.ok (zl cx T) w)
  (hent:∀ args w,(callFunc (ρ.f 6) args).run P w=.ok (.enter (ρ.f 6) args) w) {g:Nat} {s:Spec ty} (hs:Sound P cx g s) {β:Type} (D:VL cx β) (cmp:β->ty T->ty T->Bool×Int)
  (hcmp:∀ c x y,(cmp c x y).1=true->s ((AV.agg (cx.enc T x)::AV.agg (cx.enc T y)::D.enc c).map Arg.pure)=some (true,⟨[.pure (.lit (.int .i64 (cmp c x y).2))],[]⟩)):
  Sound P cx (ρ.f 6) (zi (cx:=cx) (zf (znZ T) (zf (zg (vFn g D)) zF)) λx=>((zDV (cmp x.2.1) x.1).1,⟨[],[some ⟨T,(zDV (cmp x.2.1) x.1).2⟩]⟩)) where
 enters:=hent
 calls:=λavs r hsp w F vs hF ha hsep=>by
  unfold zi at hsp;split at hsp
  ·rename_i x hx;simp only [qa,qb] at hsp;obtain ⟨hpre,rfl⟩:=hsp;have hk:=(zf (znZ (cx:=cx) T) (zf (zg (vFn g D)) zF)).kind vs avs x hx;have ha':=(zf (znZ (cx:=cx) T) (zf (zg (vFn g D)) zF)).ok P hcx F w vs avs x hx ha;rw [hk] at hsep ⊢;clear hk hx ha;obtain ⟨l,c,u0⟩:=x;obtain ⟨v,vs',rfl,hv,hv'⟩:=ha'.inv;obtain ⟨fv,vs'',rfl,hfv,h0⟩:=hv'.inv;obtain rfl:=h0.nil_left.1;clear ha' hv' h0;have hv:zcn cx F w v T l/\∀ b,zS v=some b->¬ F b:=hv;have hfv:Rep cx F w fv (.fn g (D.enc c)):=hfv;obtain ⟨⟨xs,hown,hxs⟩,hnF⟩:=hv;have hok:SortOK (cmp c) l:=of_decide_eq_true hpre;show Calls P (ρ.f 6) #[v,fv] w λe w'=>∃ u,e=.returned u/\Post cx F w [v] ⟨[],[some ⟨T,zgN (cmp c) l⟩]⟩ u w'
   have none_case:l=[]->∀ p cap,v=.slice p 0 cap->Calls P (ρ.f 6) #[v,fv] w λe w'=>∃ u,e=.returned u/\Post cx F w [v] ⟨[],[some ⟨T,zgN (cmp c) l⟩]⟩ u w':=by
    intro hl p cap hvp;subst hl;have hrow:zcn cx F w v T ([]:List (ty T)):=⟨xs,hown,hxs⟩;have h:=AnyF.slices_SortFunc_none (P:=P) (ρ:=ρ) L p cap fv w;rw [<- hvp] at h;refine h.mono λe w' ⟨he,hw⟩=>⟨_,he, ?_⟩
    subst hw;exact zx7 hF (zNo _ _ _) hrow hnF
   rcases hown.2 with ⟨rfl,hn0⟩ | ⟨g0,cap,cur,rfl,_,hg,hnc,hcm,hcs,htake⟩
   ·exact none_case (List.eq_nil_of_length_eq_zero hn0) none 0 rfl
   ·cases hlen:l with
    | nil=>subst hlen; exact none_case rfl _ _ rfl
    | cons x0 l0=>
     rw [<- hlen];cases hfv with
     | fn _ us _ hul hur=>
      have hcaps:All2 (Rep cx F w) us (D.enc c):=⟨hul,hur⟩;obtain ⟨dl,hd1,hd2⟩:=zND hcx l xs (λ_ h=>h) hxs
      have hne:dl≠[]:=λh=>by rw [h,hlen] at hd1; simp at hd1
      haveI:Inhabited (Elm (λus x=>All2 (Rep cx F w) us (cx.enc T x)) l):=⟨dl.head hne⟩
      have hdl:dl.length=l.length:=by have:=congrArg List.length hd1; simpa using this
      let enc:Elm (λus x=>All2 (Rep cx F w) us (cx.enc T x)) l->List Value:=λp=>p.1.1
      have hkk:∀ p,(enc p).length=zl cx T:=λp=>p.2.1.len.trans (hcx.len T _)
      have hg0:g0<w.heap.size:=(Array.getElem?_eq_some_iff.1 hg).1;have hgF:¬ F g0:=hnF g0 rfl
      have hFW:∀ m (dk:Array (Elm (λus x=>All2 (Rep cx F w) us (cx.enc T x)) l)) os,∀ b,F b->F b/\(sortWorldK enc (zl cx T) w g0 0 m dk os).heap[b]? =w.heap[b]? :=λm dk os b hb=>
       ⟨hb,zmj enc _ w g0 m dk os b (hF b hb) (λh=>hgF (h ▸ hb))⟩
      have hgg:cx.ng<=g0:=hsep.g.big g0 ⟨_,qh.2 rfl,rfl⟩
      have hsize:∀ m (dk:Array (Elm (λus x=>All2 (Rep cx F w) us (cx.enc T x)) l)) os,w.heap.size<=(sortWorldK enc (zl cx T) w g0 0 m dk os).heap.size:=λm dk os=>by
       unfold sortWorldK putRowK grow; simp [Go.Sort.size_putRow,ahead]
      have hgW:∀ m (dk:Array (Elm (λus x=>All2 (Rep cx F w) us (cx.enc T x)) l)) os,SepW cx (sortWorldK enc (zl cx T) w g0 0 m dk os) []:=λm dk os=>
       zQb (hcx.stable _ _ hsep.g.inv λb hb=>zmj enc _ w g0 m dk os b (Nat.lt_of_lt_of_le hb hsep.g.size) (by omega)) (Nat.le_trans hsep.g.size (hsize m dk os))
      have hflat:∀ dk:Array (Elm (λus x=>All2 (Rep cx F w) us (cx.enc T x)) l),(flatK enc (zl cx T) dk).toList=dk.toList.flatMap enc:=zIW enc _ hkk
      have hH:HoldsK enc (zl cx T) w g0 0 dl.toArray:=by
       intro j hj;have e1:(flatK enc (zl cx T) dl.toArray).toList=xs:=by rw [hflat]; exact hd2
       have hjx:j<xs.length:=by rw [<- e1]; simpa using hj
       have e2:(flatK enc (zl cx T) dl.toArray)[j]? =xs[j]? :=by rw [<- e1,Array.getElem?_toList]
       have e3:cur[j]? =xs[j]? :=by
        rw [<- htake,List.getElem?_take,if_pos (by rw [<- hown.1]; exact hjx),Array.getElem?_toList]
       refine ⟨?_, ?_⟩
       ·unfold World.cell?;simp only [hg,Option.isSome_none,Bool.false_eq_true,if_false,Nat.zero_add];rw [e3, <- e2,getElem!_pos _ j hj,Array.getElem?_eq_getElem hj]; rfl
       ·unfold World.frozen?;simp [hg]
      have hcmpL:CmpLays P g us.toArray enc (zl cx T) (λx y=>(cmp c x.1.2 y.1.2).2) g0 0 dl.toArray.size w:=by
       intro m os dk _ x y
       have h:=zMU hdr hs (hcmp c x.1.2 y.1.2 (hok.ends _ x.2.2 _ y.2.2)) (λb hb=>Nat.lt_of_lt_of_le (hF b hb) (hsize m dk os)) (us:=.agg x.1.1.toArray::.agg y.1.1.toArray::us)
        (.cons (Rep.mono (hFW m dk os) (.agg _ _ x.2.1.len x.2.1.at_)) (.cons (Rep.mono (hFW m dk os) (.agg _ _ y.2.1.len y.2.1.at_)) (hcaps.imp λ_ _=>Rep.mono (hFW m dk os)))) (hgW m dk os)
       have e:#[Value.agg (enc x).toArray,.agg (enc y).toArray]++us.toArray=(.agg x.1.1.toArray::.agg y.1.1.toArray::us).toArray:=by simp [enc]
       rw [e]; exact h
      have hmain:=AnyQ.slices_SortFunc L (zl cx T) aE zE enc hkk (λp v hv=>zRR hcx p.2.1 v hv) (λx y=>(cmp c x.1.2 y.1.2).2) (zNJ hok) g us.toArray g0 0 cap dl.toArray w hs.enters hcmpL hH hg0 (by simpa [hdl] using hok.size)
      rw [show dl.toArray.size=l.length by simpa using hdl] at hmain
      refine hmain.mono λe w' ⟨he,d',n,os,hperm,hsorted,hw⟩=>⟨_,he, ?_⟩
      have hsz':d'.size=l.length:=by simpa [hdl] using hperm.1
      have hs':d'.toList.map (·.1.2)=zgN (cmp c) l:=zJH hok dl.toArray d' hd1 (by simpa [hdl] using hperm) (by simpa [hdl] using hsorted)
      have hlen':(zgN (cmp c) l).length=l.length:=(zlV (cmp c) l).length_eq
      have hwat:w'.heap[g0]? =some (.cells (putCells id 0 (flatK enc (zl cx T) d') cur) T (0,0)):=by
       rw [hw]; unfold sortWorldK putRowK grow;rw [Array.getElem?_append_left (by simpa [Go.Sort.size_putRow,ahead] using hg0)]
       exact zLz id (Sort.ahead w n) g0 0 _ hg
      have hle:(flatK enc (zl cx T) d').size<=cur.size:=by
       rw [size_flatK,hsz',hcs]; exact Nat.mul_le_mul_right _ hnc
      obtain ⟨pc1,pc2⟩:=zAT id (flatK enc (zl cx T) d') cur hle;refine zx7 hF ⟨?_, ?_, ?_, ?_, ?_, ?_⟩ ⟨d'.toList.flatMap enc,⟨?_,.inr ⟨g0,cap,_, ?_,Nat.zero_le _,hwat, ?_,hcm, ?_, ?_⟩⟩, ?_⟩ hnF
      ·rw [hw]; rfl
      ·rw [hw]; rfl
      ·rw [hw]; rfl
      ·intro _; rw [hw]; exact Nat.le_add_right _ _
      ·rw [hw]; exact hsize n d' os
      ·intro b hb hop;rw [hw];exact zmj enc _ w g0 n d' os b hb (λh=>hop ⟨_,qh.2 rfl,by rw [h]; rfl⟩)
      ·rw [zDM enc _ hkk,hlen']; simp [hsz']
      ·rw [hlen']
      ·rw [hlen']; exact hnc
      ·rw [pc1,hcs]
      ·rw [hlen', <- hsz', <- size_flatK enc,pc2,hflat]; simp
      ·rw [<- hs',hw];exact (zPn d'.toList).imp λ_ _=>Rep.mono (hFW n d' os)
  ·cases hsp
end
end Go.Ab
/- Contracts of the library's own functions, over typed data: cutting strings, looking through them, numbers out of them. -/
namespace Go.Ab
noncomputable section
open Go.Sort Go.Proofs Go.Shelf Go.RowKit
variable {ty:Nat->Type}
theorem zAX {P:Program} {cx:Cx ty} (hcx:CxOK P cx) {f:Nat} (hent:∀ args w,(callFunc f args).run P w=.ok (.enter f args) w) {α:Type} (A:AL cx α) (G:α->Bool×List (AV ty)) (hown:∀ x vs,zbc vs (A.enc x)=[])
  (h:∀ x,(G x).1=true->∀ (w:World) (F:Nat->Prop) (vs:List Value),cx.inv w->cx.ng<=w.heap.size->(∀ b,F b->b<w.heap.size)->All2 (zim cx F w) vs (A.enc x)->Calls P f vs.toArray w λe w'=>∃ us,e=.returned (zw1 us)/\All2 (Rep cx (λ_=>False) w') us (G x).2/\Kept cx.dr (zkl []) w w'):
  Sound P cx f (zi A λx=>((G x).1,⟨(G x).2.map .pure,[]⟩)) where
 enters:=hent
 calls:=λavs r hsp w F vs hF ha hsep=>by
  unfold zi at hsp;split at hsp
  ·rename_i x hx;simp only [qa,qb] at hsp;obtain ⟨hpre,rfl⟩:=hsp;have hk:=A.kind vs avs x hx;rw [hown x vs] at hk;refine (h x hpre w F vs hsep.g.inv hsep.g.size hF (A.ok P hcx F w vs avs x hx ha)).mono λe w' ⟨us,he,hus,hkept⟩=>⟨_,he, ?_⟩
   rw [hk];refine ⟨F,us,rfl,hkept,λ_ h=>h,λb h=>⟨Nat.lt_of_lt_of_le (hF b h) hkept.size,.inl h⟩,⟨by simp [hus.len],λj u c hu hc=> ?_⟩,.nil,λi j T l T' l' u v b h=> ?_,λi m T l x u v b _ h=>by simp at h⟩
   ·rw [List.getElem?_map] at hc;obtain ⟨c',hc',rfl⟩:=Option.map_eq_some_iff.1 hc;exact (hus.at_ j u c' hu hc').mono λb hb=>hb.elim
   ·rw [List.getElem?_map] at h;cases hg:(G x).2[i]? <;>rw [hg] at h <;>simp at h
  ·cases hsp
theorem zZz {cx:Cx ty} {F:Nat->Prop} {w:World} {vs:List Value} {s p:ByteArray} (h:All2 (zim cx F w) vs [Arg.pure (.lit (.string s)),Arg.pure (.lit (.string p))]):vs=[.string s,.string p]:=by
 obtain ⟨u,us,rfl,hu,hus⟩:=h.inv;obtain ⟨u2,us2,rfl,hu2,hus2⟩:=hus.inv;obtain rfl:=hus2.nil_left.1;have hu:Rep cx F w u (.lit (.string s)):=hu;have hu2:Rep cx F w u2 (.lit (.string p)):=hu2;cases hu; cases hu2; rfl
theorem zVW {cx:Cx ty} {α β:Type} (a:VD cx α) (b:VD cx β) (x:α×β×Unit) (vs:List Value):zbc vs ((zf (zg a) (zf (zg b) zF):AL cx (α×β×Unit)).enc x)=[]:=by
 cases vs with
 | nil=>rfl
 | cons v vs=>cases vs with
  | nil=>rfl
  | cons u us=>cases us <;>rfl
end
end Go.Ab
/- Contracts of the library's own functions, over typed data: comparison and replacement in strings, numbers in base ten. -/
namespace Go.Ab
noncomputable section
open Go.Sort Go.Proofs Go.Shelf Go.RowKit
variable {ty:Nat->Type}
def zDw (a b:ByteArray):Bool×Int:=(true,Lib.compareBytes a.data.toList b.data.toList)
theorem zTz {P:Program} {cx:Cx ty} {ρ:Ren} (hcx:CxOK P cx) (L:Lays.n106 P ρ) (hent:∀ args w,(callFunc (ρ.f 106) args).run P w=.ok (.enter (ρ.f 106) args) w):
  Sound P cx (ρ.f 106) (zi (cx:=cx) (zf (zg zss) (zf (zg zss) zF)) λx=>((zDw x.1 x.2.1).1,⟨[.pure (.lit (.int .i64 (zDw x.1 x.2.1).2))],[]⟩)):=by
 refine zAX hcx hent (zf (zg zss) (zf (zg zss) zF)) (λx=>((zDw x.1 x.2.1).1,[.lit (.int .i64 (zDw x.1 x.2.1).2)])) (zVW _ _) λx hx w F vs _ _ _ ha=> ?_
 obtain ⟨s,p,_⟩:=x;obtain rfl:=zZz ha;exact (Any.strings_Compare L s p w).mono λe w' ⟨he,hw⟩=>⟨[.int .i64 _],he,.cons (.lit _) .nil,zS2 hw⟩
def ztT (n b:Int):Bool×ByteArray:=(decide (-9223372036854775808<=n)&&decide (n<=9223372036854775807)&&decide (b=10),zNH n)
theorem zQ6 {P:Program} {cx:Cx ty} {ρ:Ren} (hcx:CxOK P cx) (L:LaysM.n173 P ρ) (hent:∀ args w,(callFunc (ρ.f 173) args).run P w=.ok (.enter (ρ.f 173) args) w) (htab:∀ w,cx.inv w->Lib.TabIs P w "internal/strconv.uint64pow10" .u64 Lib.pow10Tab):
  Sound P cx (ρ.f 173) (zi (cx:=cx) (zf (zg (zgr .i64)) (zf (zg (zgr .i64)) zF)) λx=>((ztT x.1 x.2.1).1,⟨[.pure (.lit (.string (ztT x.1 x.2.1).2))],[]⟩)):=by
 refine zAX hcx hent (zf (zg (zgr .i64)) (zf (zg (zgr .i64)) zF)) (λx=>((ztT x.1 x.2.1).1,[.lit (.string (ztT x.1 x.2.1).2)])) (zVW _ _) λx hx w F vs hi _ _ ha=> ?_
 obtain ⟨n,b,_⟩:=x;obtain ⟨u,us,rfl,hu,hus⟩:=ha.inv;obtain ⟨u2,us2,rfl,hu2,hus2⟩:=hus.inv;obtain rfl:=hus2.nil_left.1;have hu:Rep cx F w u (.lit (.int .i64 n)):=hu;have hu2:Rep cx F w u2 (.lit (.int .i64 b)):=hu2;cases hu; cases hu2;simp only [ztT,qc,qe] at hx;obtain ⟨⟨h1,h2⟩,rfl⟩:=hx;refine (Any.strconv_FormatInt_10 L n h1 h2 w (htab w hi)).mono λe w' ⟨he,k,os,hw⟩=>⟨[.string (zNH n)], ?_,.cons (.lit _) .nil,zNf hw⟩
 rw [he];unfold zNH;rw [zP2 h1 h2]; rfl
def zse (s old new:ByteArray):Bool×ByteArray:=
 (decide (s.size<4294967281)&&decide (1<=old.size)&&decide (s.size+Lib.countB s old*new.size<=140737488355328),⟨(Lib.replaceAll s.data.toList old.data.toList new.data.toList).toArray⟩)
theorem zPC {P:Program} {cx:Cx ty} {ρ:Ren} (hcx:CxOK P cx) (hdr:cx.dr=false) (L:Lays.n155 P ρ) (X:Builder.Extra P ρ) (hent:∀ args w,(callFunc (ρ.f 155) args).run P w=.ok (.enter (ρ.f 155) args) w) (hm:∀ w,cx.inv w->∃ m,w.cell? ⟨ρ.g 1,0,none⟩=some (.int .i64 m)):
  Sound P cx (ρ.f 155) (zi (cx:=cx) (zf (zg zss) (zf (zg zss) (zf (zg zss) zF))) λx=>((zse x.1 x.2.1 x.2.2.1).1,⟨[.pure (.lit (.string (zse x.1 x.2.1 x.2.2.1).2))],[]⟩)):=by
 refine zAX hcx hent (zf (zg zss) (zf (zg zss) (zf (zg zss) zF))) (λx=>((zse x.1 x.2.1 x.2.2.1).1,[.lit (.string (zse x.1 x.2.1 x.2.2.1).2)])) (λx vs=> ?_) λx hx w F vs hi _ _ ha=> ?_
 ·match vs with
  | []=>rfl
  | [_]=>rfl
  | [_,_]=>rfl
  | _::_::_::r=>cases r <;>rfl
 ·obtain ⟨s,p,q,_⟩:=x;obtain ⟨u,us,rfl,hu,hus⟩:=ha.inv;obtain ⟨u2,us2,rfl,hu2,hus2⟩:=hus.inv;obtain ⟨u3,us3,rfl,hu3,hus3⟩:=hus2.inv;obtain rfl:=hus3.nil_left.1;have hu:Rep cx F w u (.lit (.string s)):=hu;have hu2:Rep cx F w u2 (.lit (.string p)):=hu2;have hu3:Rep cx F w u3 (.lit (.string q)):=hu3;cases hu; cases hu2; cases hu3;obtain ⟨m,hm⟩:=hm w hi;simp only [zse,qc,qe] at hx;exact (Any.strings_ReplaceAll L X s p q m w hx.1.1 hm hx.1.2 hx.2).mono λe w' ⟨he,hb⟩=>⟨[.string _],he,.cons (.lit _) .nil,zJ2 (P:=P) hdr hb⟩
end
end Go.Ab
/- slices.pdqsortCmpFunc over a whole row of structs, over typed data. -/
namespace Go.Ab
noncomputable section
open Go.Sort Go.Proofs Go.Shelf
variable {ty:Nat->Type}
def zSo {α:Type} [DecidableEq α] (c:α->α->Bool×Int) (l:List α) (a b lim:Int):Bool×List α:=
 (decide (SortOK c l)&&(decide (a=0)&&(decide (b=l.length)&&(decide (0<=lim)&&decide (lim<4611686018427387904)))),zgN c l)
set_option maxHeartbeats 1000000 in
theorem zWO {P:Program} {cx:Cx ty} {ρ:Ren} (hcx:CxOK P cx) (hdr:cx.dr=true) (L:SlLaysF0.n14 P ρ) {T:Nat} [DecidableEq (ty T)] (aE:∀ w,(isAgg (ρ.t 24)).run P w=.ok true w) (zE:∀ w,(Go.sizeOf (ρ.t 24)).run P w=.ok (zl cx T) w)
  (hent:∀ args w,(callFunc (ρ.f 14) args).run P w=.ok (.enter (ρ.f 14) args) w) {g:Nat} {s:Spec ty} (hs:Sound P cx g s) {β:Type} (D:VL cx β) (cmp:β->ty T->ty T->Bool×Int)
  (hcmp:∀ c x y,(cmp c x y).1=true->s ((AV.agg (cx.enc T x)::AV.agg (cx.enc T y)::D.enc c).map Arg.pure)=some (true,⟨[.pure (.lit (.int .i64 (cmp c x y).2))],[]⟩)):
  Sound P cx (ρ.f 14) (zi (cx:=cx) (zf (znZ T) (zf (zg (zgr .i64)) (zf (zg (zgr .i64)) (zf (zg (zgr .i64)) (zf (zg (vFn g D)) zF))))) λx=>((zSo (cmp x.2.2.2.2.1) x.1 x.2.1 x.2.2.1 x.2.2.2.1).1,⟨[],[some ⟨T,(zSo (cmp x.2.2.2.2.1) x.1 x.2.1 x.2.2.1 x.2.2.2.1).2⟩]⟩)) where
 enters:=hent
 calls:=λavs r hsp w F vs hF ha hsep=>by
  unfold zi at hsp;split at hsp
  ·rename_i x hx;simp only [qa,qb] at hsp;obtain ⟨hpre,rfl⟩:=hsp;have hk:=(zf (znZ (cx:=cx) T) (zf (zg (zgr .i64)) (zf (zg (zgr .i64)) (zf (zg (zgr .i64)) (zf (zg (vFn g D)) zF))))).kind vs avs x hx;have ha':=(zf (znZ (cx:=cx) T) (zf (zg (zgr .i64)) (zf (zg (zgr .i64)) (zf (zg (zgr .i64)) (zf (zg (vFn g D)) zF))))).ok P hcx F w vs avs x hx ha;rw [hk] at hsep ⊢;clear hk hx ha;obtain ⟨l,na,nb,nl,c,u0⟩:=x;obtain ⟨v,vs',rfl,hv,hv'⟩:=ha'.inv;obtain ⟨ua,vs1,rfl,hua,hv1⟩:=hv'.inv;obtain ⟨ub,vs2,rfl,hub,hv2⟩:=hv1.inv;obtain ⟨ul,vs3,rfl,hul',hv3⟩:=hv2.inv;obtain ⟨fv,vs'',rfl,hfv,h0⟩:=hv3.inv;obtain rfl:=h0.nil_left.1;clear ha' hv' h0 hv1 hv2 hv3;have hua:Rep cx F w ua (.lit (.int .i64 na)):=hua;have hub:Rep cx F w ub (.lit (.int .i64 nb)):=hub;have hul':Rep cx F w ul (.lit (.int .i64 nl)):=hul';obtain rfl:ua=.int .i64 na:=by cases hua; rfl
   obtain rfl:ub=.int .i64 nb:=by cases hub; rfl
   obtain rfl:ul=.int .i64 nl:=by cases hul'; rfl
   clear hua hub hul';have hv:zcn cx F w v T l/\∀ b,zS v=some b->¬ F b:=hv;have hfv:Rep cx F w fv (.fn g (D.enc c)):=hfv;obtain ⟨⟨xs,hown,hxs⟩,hnF⟩:=hv;have hpre:(decide (SortOK (cmp c) l)&&(decide (na=0)&&(decide (nb=l.length)&&(decide (0<=nl)&&decide (nl<4611686018427387904)))))=true:=hpre;simp only [qc,qe] at hpre;obtain ⟨hok,rfl,rfl,hl0,hl1⟩:=hpre;obtain ⟨lim,rfl⟩:=Int.eq_ofNat_of_zero_le hl0;show Calls P (ρ.f 14) #[v,.int .i64 0,.int .i64 l.length,.int .i64 lim,fv] w λe w'=>∃ u,e=.returned u/\Post cx F w [v] ⟨[],[some ⟨T,zgN (cmp c) l⟩]⟩ u w'
   have none_case:l=[]->∀ p cap,v=.slice p 0 cap->Calls P (ρ.f 14) #[v,.int .i64 0,.int .i64 l.length,.int .i64 lim,fv] w λe w'=>∃ u,e=.returned u/\Post cx F w [v] ⟨[],[some ⟨T,zgN (cmp c) l⟩]⟩ u w':=by
    intro hl p cap hvp;subst hl;have hrow:zcn cx F w v T ([]:List (ty T)):=⟨xs,hown,hxs⟩;have h:=AnyF.pdqsortCmpFunc_none (P:=P) (ρ:=ρ) L p cap lim fv w;rw [<- hvp] at h;refine h.mono λe w' ⟨he,hw⟩=>⟨_,he, ?_⟩
    subst hw;exact zx7 hF (zNo _ _ _) hrow hnF
   rcases hown.2 with ⟨rfl,hn0⟩ | ⟨g0,cap,cur,rfl,_,hg,hnc,hcm,hcs,htake⟩
   ·exact none_case (List.eq_nil_of_length_eq_zero hn0) none 0 rfl
   ·cases hlen:l with
    | nil=>subst hlen; exact none_case rfl _ _ rfl
    | cons x0 l0=>
     rw [<- hlen];cases hfv with
     | fn _ us _ hul hur=>
      have hcaps:All2 (Rep cx F w) us (D.enc c):=⟨hul,hur⟩;obtain ⟨dl,hd1,hd2⟩:=zND hcx l xs (λ_ h=>h) hxs
      have hne:dl≠[]:=λh=>by rw [h,hlen] at hd1; simp at hd1
      haveI:Inhabited (Elm (λus x=>All2 (Rep cx F w) us (cx.enc T x)) l):=⟨dl.head hne⟩
      have hdl:dl.length=l.length:=by have:=congrArg List.length hd1; simpa using this
      let enc:Elm (λus x=>All2 (Rep cx F w) us (cx.enc T x)) l->List Value:=λp=>p.1.1
      have hkk:∀ p,(enc p).length=zl cx T:=λp=>p.2.1.len.trans (hcx.len T _)
      have hg0:g0<w.heap.size:=(Array.getElem?_eq_some_iff.1 hg).1;have hgF:¬ F g0:=hnF g0 rfl
      have hFW:∀ m (dk:Array (Elm (λus x=>All2 (Rep cx F w) us (cx.enc T x)) l)) os,∀ b,F b->F b/\(sortWorldK enc (zl cx T) w g0 0 m dk os).heap[b]? =w.heap[b]? :=λm dk os b hb=>
       ⟨hb,zmj enc _ w g0 m dk os b (hF b hb) (λh=>hgF (h ▸ hb))⟩
      have hgg:cx.ng<=g0:=hsep.g.big g0 ⟨_,qh.2 rfl,rfl⟩
      have hsize:∀ m (dk:Array (Elm (λus x=>All2 (Rep cx F w) us (cx.enc T x)) l)) os,w.heap.size<=(sortWorldK enc (zl cx T) w g0 0 m dk os).heap.size:=λm dk os=>by
       unfold sortWorldK putRowK grow; simp [Go.Sort.size_putRow,ahead]
      have hgW:∀ m (dk:Array (Elm (λus x=>All2 (Rep cx F w) us (cx.enc T x)) l)) os,SepW cx (sortWorldK enc (zl cx T) w g0 0 m dk os) []:=λm dk os=>
       zQb (hcx.stable _ _ hsep.g.inv λb hb=>zmj enc _ w g0 m dk os b (Nat.lt_of_lt_of_le hb hsep.g.size) (by omega)) (Nat.le_trans hsep.g.size (hsize m dk os))
      have hflat:∀ dk:Array (Elm (λus x=>All2 (Rep cx F w) us (cx.enc T x)) l),(flatK enc (zl cx T) dk).toList=dk.toList.flatMap enc:=zIW enc _ hkk
      have hH:HoldsK enc (zl cx T) w g0 0 dl.toArray:=by
       intro j hj;have e1:(flatK enc (zl cx T) dl.toArray).toList=xs:=by rw [hflat]; exact hd2
       have hjx:j<xs.length:=by rw [<- e1]; simpa using hj
       have e2:(flatK enc (zl cx T) dl.toArray)[j]? =xs[j]? :=by rw [<- e1,Array.getElem?_toList]
       have e3:cur[j]? =xs[j]? :=by
        rw [<- htake,List.getElem?_take,if_pos (by rw [<- hown.1]; exact hjx),Array.getElem?_toList]
       refine ⟨?_, ?_⟩
       ·unfold World.cell?;simp only [hg,Option.isSome_none,Bool.false_eq_true,if_false,Nat.zero_add];rw [e3, <- e2,getElem!_pos _ j hj,Array.getElem?_eq_getElem hj]; rfl
       ·unfold World.frozen?;simp [hg]
      have hcmpL:CmpLays P g us.toArray enc (zl cx T) (λx y=>(cmp c x.1.2 y.1.2).2) g0 0 dl.toArray.size w:=by
       intro m os dk _ x y
       have h:=zMU hdr hs (hcmp c x.1.2 y.1.2 (hok.ends _ x.2.2 _ y.2.2)) (λb hb=>Nat.lt_of_lt_of_le (hF b hb) (hsize m dk os)) (us:=.agg x.1.1.toArray::.agg y.1.1.toArray::us)
        (.cons (Rep.mono (hFW m dk os) (.agg _ _ x.2.1.len x.2.1.at_)) (.cons (Rep.mono (hFW m dk os) (.agg _ _ y.2.1.len y.2.1.at_)) (hcaps.imp λ_ _=>Rep.mono (hFW m dk os)))) (hgW m dk os)
       have e:#[Value.agg (enc x).toArray,.agg (enc y).toArray]++us.toArray=(.agg x.1.1.toArray::.agg y.1.1.toArray::us).toArray:=by simp [enc]
       rw [e]; exact h
      have hmain0:=AnyQ.pdqsortCmpFunc_all (P:=P) (ρ:=ρ) L (zl cx T) aE zE enc (λx y=>(cmp c x.1.2 y.1.2).2) g us.toArray (zNJ hok) g0 0 cap dl.toArray w hs.enters hcmpL ⟨hkk,λp v hv=>zRR hcx p.2.1 v hv,hH,hg0⟩ (dl.toArray.size+1) 0 dl.toArray.size lim dl.toArray w (by omega) rfl (SWK.start hH) (Nat.zero_le _) (Nat.le_refl _) (by simpa [hdl] using hok.size) (by omega) (Or.inl rfl)
      have hp:=pdq_sorts (ltOf λx y:Elm (λus x=>All2 (Rep cx F w) us (cx.enc T x)) l=>(cmp c x.1.2 y.1.2).2) (zNJ hok) dl.toArray 0 dl.toArray.size lim true true (Nat.zero_le _) (Nat.le_refl _) (Or.inl rfl)
      have hmain:=hmain0.mono λ_ _ ⟨he,n,os,hw⟩=>(⟨he,_,n,os,hp.1,hp.2,hw⟩:_/\∃ d' n os,PermIn 0 dl.toArray.size dl.toArray d'/\SortedIn (ltOf λx y:Elm (λus x=>All2 (Rep cx F w) us (cx.enc T x)) l=>(cmp c x.1.2 y.1.2).2) 0 dl.toArray.size d'/\_=sortWorldK enc (zl cx T) w g0 0 n d' os)
      rw [show dl.toArray.size=l.length by simpa using hdl] at hmain
      refine hmain.mono λe w' ⟨he,d',n,os,hperm,hsorted,hw⟩=>⟨_,he, ?_⟩
      have hsz':d'.size=l.length:=by simpa [hdl] using hperm.1
      have hs':d'.toList.map (·.1.2)=zgN (cmp c) l:=zJH hok dl.toArray d' hd1 (by simpa [hdl] using hperm) (by simpa [hdl] using hsorted)
      have hlen':(zgN (cmp c) l).length=l.length:=(zlV (cmp c) l).length_eq
      have hwat:w'.heap[g0]? =some (.cells (putCells id 0 (flatK enc (zl cx T) d') cur) T (0,0)):=by
       rw [hw]; unfold sortWorldK putRowK grow;rw [Array.getElem?_append_left (by simpa [Go.Sort.size_putRow,ahead] using hg0)]
       exact zLz id (Sort.ahead w n) g0 0 _ hg
      have hle:(flatK enc (zl cx T) d').size<=cur.size:=by
       rw [size_flatK,hsz',hcs]; exact Nat.mul_le_mul_right _ hnc
      obtain ⟨pc1,pc2⟩:=zAT id (flatK enc (zl cx T) d') cur hle;refine zx7 hF ⟨?_, ?_, ?_, ?_, ?_, ?_⟩ ⟨d'.toList.flatMap enc,⟨?_,.inr ⟨g0,cap,_, ?_,Nat.zero_le _,hwat, ?_,hcm, ?_, ?_⟩⟩, ?_⟩ hnF
      ·rw [hw]; rfl
      ·rw [hw]; rfl
      ·rw [hw]; rfl
      ·intro _; rw [hw]; exact Nat.le_add_right _ _
      ·rw [hw]; exact hsize n d' os
      ·intro b hb hop;rw [hw];exact zmj enc _ w g0 n d' os b hb (λh=>hop ⟨_,qh.2 rfl,by rw [h]; rfl⟩)
      ·rw [zDM enc _ hkk,hlen']; simp [hsz']
      ·rw [hlen']
      ·rw [hlen']; exact hnc
      ·rw [pc1,hcs]
      ·rw [hlen', <- hsz', <- size_flatK enc,pc2,hflat]; simp
      ·rw [<- hs',hw];exact (zPn d'.toList).imp λ_ _=>Rep.mono (hFW n d' os)
  ·cases hsp
def zR3 {α:Type} [DecidableEq α] (c:α->α->Bool×Int) (l:List α) (a b:Int):Bool×List α:=
 (decide (SortOK c l)&&(decide (a=0)&&decide (b=l.length)),zgN c l)
set_option maxHeartbeats 1000000 in
theorem zWw {P:Program} {cx:Cx ty} {ρ:Ren} (hcx:CxOK P cx) (hdr:cx.dr=true) (L:SlLaysF0.n20 P ρ) {T:Nat} [DecidableEq (ty T)] (aE:∀ w,(isAgg (ρ.t 24)).run P w=.ok true w) (zE:∀ w,(Go.sizeOf (ρ.t 24)).run P w=.ok (zl cx T) w)
  (hent:∀ args w,(callFunc (ρ.f 20) args).run P w=.ok (.enter (ρ.f 20) args) w) {g:Nat} {s:Spec ty} (hs:Sound P cx g s) {β:Type} (D:VL cx β) (cmp:β->ty T->ty T->Bool×Int)
  (hcmp:∀ c x y,(cmp c x y).1=true->s ((AV.agg (cx.enc T x)::AV.agg (cx.enc T y)::D.enc c).map Arg.pure)=some (true,⟨[.pure (.lit (.int .i64 (cmp c x y).2))],[]⟩)):
  Sound P cx (ρ.f 20) (zi (cx:=cx) (zf (znZ T) (zf (zg (zgr .i64)) (zf (zg (zgr .i64)) (zf (zg (vFn g D)) zF)))) λx=>((zR3 (cmp x.2.2.2.1) x.1 x.2.1 x.2.2.1).1,⟨[],[some ⟨T,(zR3 (cmp x.2.2.2.1) x.1 x.2.1 x.2.2.1).2⟩]⟩)) where
 enters:=hent
 calls:=λavs r hsp w F vs hF ha hsep=>by
  unfold zi at hsp;split at hsp
  ·rename_i x hx;simp only [qa,qb] at hsp;obtain ⟨hpre,rfl⟩:=hsp;have hk:=(zf (znZ (cx:=cx) T) (zf (zg (zgr .i64)) (zf (zg (zgr .i64)) (zf (zg (vFn g D)) zF)))).kind vs avs x hx;have ha':=(zf (znZ (cx:=cx) T) (zf (zg (zgr .i64)) (zf (zg (zgr .i64)) (zf (zg (vFn g D)) zF)))).ok P hcx F w vs avs x hx ha;rw [hk] at hsep ⊢;clear hk hx ha;obtain ⟨l,na,nb,c,u0⟩:=x;obtain ⟨v,vs',rfl,hv,hv'⟩:=ha'.inv;obtain ⟨ua,vs1,rfl,hua,hv1⟩:=hv'.inv;obtain ⟨ub,vs2,rfl,hub,hv2⟩:=hv1.inv;obtain ⟨fv,vs'',rfl,hfv,h0⟩:=hv2.inv;obtain rfl:=h0.nil_left.1;clear ha' hv' h0 hv1 hv2;have hua:Rep cx F w ua (.lit (.int .i64 na)):=hua;have hub:Rep cx F w ub (.lit (.int .i64 nb)):=hub;obtain rfl:ua=.int .i64 na:=by cases hua; rfl
   obtain rfl:ub=.int .i64 nb:=by cases hub; rfl
   clear hua hub;have hv:zcn cx F w v T l/\∀ b,zS v=some b->¬ F b:=hv;have hfv:Rep cx F w fv (.fn g (D.enc c)):=hfv;obtain ⟨⟨xs,hown,hxs⟩,hnF⟩:=hv;have hpre:(decide (SortOK (cmp c) l)&&(decide (na=0)&&decide (nb=l.length)))=true:=hpre;simp only [qc,qe] at hpre;obtain ⟨hok,rfl,rfl⟩:=hpre;show Calls P (ρ.f 20) #[v,.int .i64 0,.int .i64 l.length,fv] w λe w'=>∃ u,e=.returned u/\Post cx F w [v] ⟨[],[some ⟨T,zgN (cmp c) l⟩]⟩ u w'
   have none_case:l=[]->∀ p cap,v=.slice p 0 cap->Calls P (ρ.f 20) #[v,.int .i64 0,.int .i64 l.length,fv] w λe w'=>∃ u,e=.returned u/\Post cx F w [v] ⟨[],[some ⟨T,zgN (cmp c) l⟩]⟩ u w':=by
    intro hl p cap hvp;subst hl;have hrow:zcn cx F w v T ([]:List (ty T)):=⟨xs,hown,hxs⟩;have h:=AnyF.insertionSortCmpFunc_none (P:=P) (ρ:=ρ) L p cap fv w;rw [<- hvp] at h;refine h.mono λe w' ⟨he,hw⟩=>⟨_,he, ?_⟩
    subst hw;exact zx7 hF (zNo _ _ _) hrow hnF
   rcases hown.2 with ⟨rfl,hn0⟩ | ⟨g0,cap,cur,rfl,_,hg,hnc,hcm,hcs,htake⟩
   ·exact none_case (List.eq_nil_of_length_eq_zero hn0) none 0 rfl
   ·cases hlen:l with
    | nil=>subst hlen; exact none_case rfl _ _ rfl
    | cons x0 l0=>
     rw [<- hlen];cases hfv with
     | fn _ us _ hul hur=>
      have hcaps:All2 (Rep cx F w) us (D.enc c):=⟨hul,hur⟩;obtain ⟨dl,hd1,hd2⟩:=zND hcx l xs (λ_ h=>h) hxs
      have hne:dl≠[]:=λh=>by rw [h,hlen] at hd1; simp at hd1
      haveI:Inhabited (Elm (λus x=>All2 (Rep cx F w) us (cx.enc T x)) l):=⟨dl.head hne⟩
      have hdl:dl.length=l.length:=by have:=congrArg List.length hd1; simpa using this
      let enc:Elm (λus x=>All2 (Rep cx F w) us (cx.enc T x)) l->List Value:=λp=>p.1.1
      have hkk:∀ p,(enc p).length=zl cx T:=λp=>p.2.1.len.trans (hcx.len T _)
      have hg0:g0<w.heap.size:=(Array.getElem?_eq_some_iff.1 hg).1;have hgF:¬ F g0:=hnF g0 rfl
      have hFW:∀ m (dk:Array (Elm (λus x=>All2 (Rep cx F w) us (cx.enc T x)) l)) os,∀ b,F b->F b/\(sortWorldK enc (zl cx T) w g0 0 m dk os).heap[b]? =w.heap[b]? :=λm dk os b hb=>
       ⟨hb,zmj enc _ w g0 m dk os b (hF b hb) (λh=>hgF (h ▸ hb))⟩
      have hgg:cx.ng<=g0:=hsep.g.big g0 ⟨_,qh.2 rfl,rfl⟩
      have hsize:∀ m (dk:Array (Elm (λus x=>All2 (Rep cx F w) us (cx.enc T x)) l)) os,w.heap.size<=(sortWorldK enc (zl cx T) w g0 0 m dk os).heap.size:=λm dk os=>by
       unfold sortWorldK putRowK grow; simp [Go.Sort.size_putRow,ahead]
      have hgW:∀ m (dk:Array (Elm (λus x=>All2 (Rep cx F w) us (cx.enc T x)) l)) os,SepW cx (sortWorldK enc (zl cx T) w g0 0 m dk os) []:=λm dk os=>
       zQb (hcx.stable _ _ hsep.g.inv λb hb=>zmj enc _ w g0 m dk os b (Nat.lt_of_lt_of_le hb hsep.g.size) (by omega)) (Nat.le_trans hsep.g.size (hsize m dk os))
      have hflat:∀ dk:Array (Elm (λus x=>All2 (Rep cx F w) us (cx.enc T x)) l),(flatK enc (zl cx T) dk).toList=dk.toList.flatMap enc:=zIW enc _ hkk
      have hH:HoldsK enc (zl cx T) w g0 0 dl.toArray:=by
       intro j hj;have e1:(flatK enc (zl cx T) dl.toArray).toList=xs:=by rw [hflat]; exact hd2
       have hjx:j<xs.length:=by rw [<- e1]; simpa using hj
       have e2:(flatK enc (zl cx T) dl.toArray)[j]? =xs[j]? :=by rw [<- e1,Array.getElem?_toList]
       have e3:cur[j]? =xs[j]? :=by
        rw [<- htake,List.getElem?_take,if_pos (by rw [<- hown.1]; exact hjx),Array.getElem?_toList]
       refine ⟨?_, ?_⟩
       ·unfold World.cell?;simp only [hg,Option.isSome_none,Bool.false_eq_true,if_false,Nat.zero_add];rw [e3, <- e2,getElem!_pos _ j hj,Array.getElem?_eq_getElem hj]; rfl
       ·unfold World.frozen?;simp [hg]
      have hcmpL:CmpLays P g us.toArray enc (zl cx T) (λx y=>(cmp c x.1.2 y.1.2).2) g0 0 dl.toArray.size w:=by
       intro m os dk _ x y
       have h:=zMU hdr hs (hcmp c x.1.2 y.1.2 (hok.ends _ x.2.2 _ y.2.2)) (λb hb=>Nat.lt_of_lt_of_le (hF b hb) (hsize m dk os)) (us:=.agg x.1.1.toArray::.agg y.1.1.toArray::us)
        (.cons (Rep.mono (hFW m dk os) (.agg _ _ x.2.1.len x.2.1.at_)) (.cons (Rep.mono (hFW m dk os) (.agg _ _ y.2.1.len y.2.1.at_)) (hcaps.imp λ_ _=>Rep.mono (hFW m dk os)))) (hgW m dk os)
       have e:#[Value.agg (enc x).toArray,.agg (enc y).toArray]++us.toArray=(.agg x.1.1.toArray::.agg y.1.1.toArray::us).toArray:=by simp [enc]
       rw [e]; exact h
      have hmain0:=AnyQ.insertionSortCmpFunc (P:=P) (ρ:=ρ) L (zl cx T) aE zE enc hkk (λp v hv=>zRR hcx p.2.1 v hv) (λx y=>(cmp c x.1.2 y.1.2).2) g us.toArray g0 0 cap 0 dl.toArray.size dl.toArray w hs.enters hcmpL hH hg0 (Nat.zero_le _) (Nat.le_refl _) (by simpa [hdl] using hok.size)
      have hp:=insertionSort_holds (lt:=ltOf λx y:Elm (λus x=>All2 (Rep cx F w) us (cx.enc T x)) l=>(cmp c x.1.2 y.1.2).2) (zNJ hok) dl.toArray 0 dl.toArray.size (Nat.zero_le _) (Nat.le_refl _)
      have hmain:=hmain0.mono λ_ _ ⟨he,n,os,hw⟩=>(⟨he,_,n,os,hp.1,hp.2,hw⟩:_/\∃ d' n os,PermIn 0 dl.toArray.size dl.toArray d'/\SortedIn (ltOf λx y:Elm (λus x=>All2 (Rep cx F w) us (cx.enc T x)) l=>(cmp c x.1.2 y.1.2).2) 0 dl.toArray.size d'/\_=sortWorldK enc (zl cx T) w g0 0 n d' os)
      rw [show dl.toArray.size=l.length by simpa using hdl] at hmain
      refine hmain.mono λe w' ⟨he,d',n,os,hperm,hsorted,hw⟩=>⟨_,he, ?_⟩
      have hsz':d'.size=l.length:=by simpa [hdl] using hperm.1
      have hs':d'.toList.map (·.1.2)=zgN (cmp c) l:=zJH hok dl.toArray d' hd1 (by simpa [hdl] using hperm) (by simpa [hdl] using hsorted)
      have hlen':(zgN (cmp c) l).length=l.length:=(zlV (cmp c) l).length_eq
      have hwat:w'.heap[g0]? =some (.cells (putCells id 0 (flatK enc (zl cx T) d') cur) T (0,0)):=by
       rw [hw]; unfold sortWorldK putRowK grow;rw [Array.getElem?_append_left (by simpa [Go.Sort.size_putRow,ahead] using hg0)]
       exact zLz id (Sort.ahead w n) g0 0 _ hg
      have hle:(flatK enc (zl cx T) d').size<=cur.size:=by
       rw [size_flatK,hsz',hcs]; exact Nat.mul_le_mul_right _ hnc
      obtain ⟨pc1,pc2⟩:=zAT id (flatK enc (zl cx T) d') cur hle;refine zx7 hF ⟨?_, ?_, ?_, ?_, ?_, ?_⟩ ⟨d'.toList.flatMap enc,⟨?_,.inr ⟨g0,cap,_, ?_,Nat.zero_le _,hwat, ?_,hcm, ?_, ?_⟩⟩, ?_⟩ hnF
      ·rw [hw]; rfl
      ·rw [hw]; rfl
      ·rw [hw]; rfl
      ·intro _; rw [hw]; exact Nat.le_add_right _ _
      ·rw [hw]; exact hsize n d' os
      ·intro b hb hop;rw [hw];exact zmj enc _ w g0 n d' os b hb (λh=>hop ⟨_,qh.2 rfl,by rw [h]; rfl⟩)
      ·rw [zDM enc _ hkk,hlen']; simp [hsz']
      ·rw [hlen']
      ·rw [hlen']; exact hnc
      ·rw [pc1,hcs]
      ·rw [hlen', <- hsz', <- size_flatK enc,pc2,hflat]; simp
      ·rw [<- hs',hw];exact (zPn d'.toList).imp λ_ _=>Rep.mono (hFW n d' os)
  ·cases hsp
theorem Post.unit {cx:Cx ty} {F:Nat->Prop} {w w':World} {owns:List Value} {us:List (Option ((T:Nat)×List (ty T)))} {v:Value} (h:Post cx F w owns ⟨[],us⟩ v w'):v=.tuple #[]:=by
 obtain ⟨F',rs,rfl,_,_,_,h,_⟩:=h.ok;obtain rfl:=h.nil_left.1;rfl
end
end Go.Ab
/- Ordered sets over a comparison: plain lists, no program. -/
namespace Go.Ab
noncomputable section
variable {α:Type}
structure Ord3 (c:α->α->Int):Prop where
 eq:∀ x y,c x y=0↔x=y
 swap:∀ x y,c x y<0↔0<c y x
 trans:∀ x y z,c x y<0->c y z<0->c x z<0
namespace Ord3
variable {c:α->α->Int} (h:Ord3 c)
include h
theorem refl (x:α):c x x=0:=(h.eq x x).2 rfl
theorem irrefl (x:α):¬ c x x<0:=by rw [h.refl]; omega
theorem asymm {x y:α} (h1:c x y<0):¬ c y x<0:=λh2=>h.irrefl x (h.trans x y x h1 h2)
theorem conn {x y:α} (h1:¬ c x y<0) (h2:¬ c y x<0):x=y:=(h.eq x y).1 (by have:=(h.swap y x); omega)
theorem gt {x y:α} (h1:0<c x y):c y x<0:=(h.swap y x).2 h1
theorem le_trans {x y z:α} (h1:¬ c y x<0) (h2:¬ c z y<0):¬ c z x<0:=λh3=>by
 by_cases hxy:c x y<0
 ·exact h2 (h.trans z x y h3 hxy)
 ·have:=h.conn hxy h1; subst this; exact h2 h3
end Ord3
abbrev zF2 (c:α->α->Int) (l:List α):Prop:=l.Pairwise λx y=>c x y<0
theorem zPd {c:α->α->Int} (h:Ord3 c):∀ {l l':List α},zF2 c l->zF2 c l'->(∀ x,x∈l↔x∈l')->l=l'
 | [],[],_,_,_=>rfl
 | [],y::r,_,_,hm=>absurd ((hm y).2 (by simp)) (by simp)
 | x::r,[],_,_,hm=>absurd ((hm x).1 (by simp)) (by simp)
 | x::r,y::s,h1,h2,hm=>by
  have h1:=qi.1 h1;have h2:=qi.1 h2
  have hxy:x=y:=by
   rcases qd.1 ((hm x).1 (by simp)) with e | hx
   ·exact e
   ·rcases qd.1 ((hm y).2 (by simp)) with e | hy
    ·exact e.symm
    ·exact absurd (h1.1 y hy) (h.asymm (h2.1 x hx))
  subst hxy;congr 1;refine zPd h h1.2 h2.2 λz=>⟨λhz=> ?_,λhz=> ?_⟩
  ·rcases qd.1 ((hm z).1 (by simp [hz])) with e | hz'
   ·subst e; exact absurd (h1.1 _ hz) (h.irrefl _)
   ·exact hz'
  ·rcases qd.1 ((hm z).2 (by simp [hz])) with e | hz'
   ·subst e; exact absurd (h2.1 _ hz) (h.irrefl _)
   ·exact hz'
theorem zXc {c:α->α->Int} (h:Ord3 c) {l:List α} (hl:zF2 c l):l.Nodup:=hl.imp λhxy e=>by subst e; exact h.irrefl _ hxy
def znX (c:α->α->Int) (x:α):List α->List α
 | []=>[x]
 | y::r=>if c x y<0 then x::y::r else if c x y=0 then y::r else y::znX c x r
theorem zJr {c:α->α->Int} (h:Ord3 c) (x:α):∀ (l:List α) (z:α),z∈znX c x l↔z=x\/z∈l
 | [],z=>by simp [znX]
 | y::r,z=>by
  unfold znX;split
  ·simp
  ·split
   ·rename_i he;have:=(h.eq x y).1 he;subst this; simp
   ·simp only [qd,zJr h x r z];constructor
    ·rintro (h | h | h) <;>simp [h]
    ·rintro (h | h | h) <;>simp [h]
theorem zPI {c:α->α->Int} (h:Ord3 c) (x:α):∀ {l:List α},zF2 c l->zF2 c (znX c x l)
 | [],_=>by simp [znX]
 | y::r,hl=>by
  have hl':=qi.1 hl;unfold znX;split
  ·rename_i hx
   exact qi.2 ⟨λz hz=>by
    rcases qd.1 hz with rfl | hz
    ·exact hx
    ·exact h.trans _ _ _ hx (hl'.1 z hz),hl⟩
  ·split
   ·exact hl
   ·rename_i h1 h2;refine qi.2 ⟨λz hz=> ?_,zPI h x hl'.2⟩
    rcases (zJr h x r z).1 hz with rfl | hz
    ·exact h.gt (by omega)
    ·exact hl'.1 z hz
def zIl (c:α->α->Int) (l:List α):List α:=l.foldl (λo x=>znX c x o) []
theorem zCi {c:α->α->Int} (h:Ord3 c):∀ (l o:List α),zF2 c o->zF2 c (l.foldl (λo x=>znX c x o) o)/\∀ z,z∈l.foldl (λo x=>znX c x o) o↔z∈o\/z∈l
 | [],o,ho=>⟨ho,λz=>by simp⟩
 | x::l,o,ho=>by
  obtain ⟨h1,h2⟩:=zCi h l _ (zPI h x ho);refine ⟨h1,λz=> ?_⟩
  rw [List.foldl_cons,h2,zJr h,qd];constructor
  ·rintro ((h | h) | h) <;>simp [h]
  ·rintro (h | h | h) <;>simp [h]
theorem zEQ {c:α->α->Int} (h:Ord3 c) (l:List α):zF2 c (zIl c l):=(zCi h l [] .nil).1
theorem zzB {c:α->α->Int} (h:Ord3 c) (l:List α) (z:α):z∈zIl c l↔z∈l:=by
 have:=(zCi h l [] .nil).2 z
 simpa [zIl] using this
theorem zPM {c:α->α->Int} (h:Ord3 c) {l s:List α} (hs:zF2 c s) (hm:∀ z,z∈s↔z∈l):s=zIl c l:=zPd h hs (zEQ h l) λz=>(hm z).trans (zzB h l z).symm
theorem zoO:∀ {l l':List α},l.Nodup->(∀ x∈l,x∈l')->l.length<=l'.length
 | [],_,_,_=>Nat.zero_le _
 | x::r,l',hn,hm=>by
  obtain ⟨s,t,rfl⟩:=List.append_of_mem (hm x (by simp))
  have hn':=List.nodup_cons.1 hn
  have:=zoO (l':=s++t) hn'.2 λy hy=>by
   have:=hm y (by simp [hy])
   rw [List.mem_append,qd] at this;rcases this with h | rfl | h
   ·simp [h]
   ·exact absurd hy hn'.1
   ·simp [h]
  simp at this ⊢; omega
theorem zUK {c:α->α->Int} (h:Ord3 c) (l:List α):(zIl c l).length<=l.length:=
 zoO (zXc h (zEQ h l)) λx hx=>(zzB h l x).1 hx
def zgU (p:α->α->Bool):α->List α->List α
 | _,[]=>[]
 | x,y::r=>bif p y x then zgU p y r else y::zgU p y r
def adj (p:α->α->Bool):List α->List α
 | []=>[]
 | x::r=>x::zgU p x r
theorem zFG (p:α->α->Bool):∀ (l:List α) (x z:α),z∈zgU p x l->z∈l
 | [],_,_,h=>by simp [zgU] at h
 | y::r,x,z,h=>by
  unfold zgU at h;cases hp:p y x <;>rw [hp] at h
  ·rcases qd.1 h with rfl | h
   ·simp
   ·exact List.mem_cons_of_mem _ (zFG p r y z h)
  ·exact List.mem_cons_of_mem _ (zFG p r y z h)
theorem zFL {c:α->α->Int} (h:Ord3 c) {p:α->α->Bool} (hp:∀ x y,p x y=true↔x=y):∀ (l:List α) (x:α),(x::l).Pairwise (λa b=>¬ c b a<0)->zF2 c (x::zgU p x l)/\∀ z,z∈l->z=x\/z∈zgU p x l
 | [],x,_=>by simp [zgU]
 | y::r,x,hl=>by
  have hl1:=qi.1 hl;obtain ⟨ih1,ih2⟩:=zFL h hp r y hl1.2;unfold zgU;cases he:p y x
  ·have hne:y≠x:=λe=>by rw [(hp y x).2 e] at he; cases he
   have hxy:c x y<0:=Classical.byContradiction λh'=>hne (h.conn (hl1.1 y (by simp)) h')
   refine ⟨qi.2 ⟨λz hz=> ?_,ih1⟩,λz hz=> ?_⟩
   ·rcases qd.1 hz with rfl | hz
    ·exact hxy
    ·exact h.trans _ _ _ hxy ((qi.1 ih1).1 z hz)
   ·rcases qd.1 hz with rfl | hz
    ·exact .inr (by simp)
    ·rcases ih2 z hz with rfl | hz
     ·exact .inr (by simp)
     ·exact .inr (List.mem_cons_of_mem _ hz)
  ·have e:=(hp y x).1 he;subst e;refine ⟨ih1,λz hz=> ?_⟩
   rcases qd.1 hz with rfl | hz
   ·exact .inl rfl
   ·exact ih2 z hz
theorem zX5 {c:α->α->Int} (h:Ord3 c) {p:α->α->Bool} (hp:∀ x y,p x y=true↔x=y) {cc:α->α->Bool×Int} {l:List α} (ok:SortOK cc l) (hc:∀ x∈l,∀ y∈l,(cc x y).2=c x y):adj p (zgN cc l)=zIl c l:=by
 have hs:=zLU ok.ntrans ok.asymm l λ_ h=>h
 have hm:=λz=>(zlV cc l).mem_iff (a:=z)
 have hs':(zgN cc l).Pairwise (λa b=>¬ c b a<0):=List.Pairwise.imp_of_mem (λ{a b} ha hb hab=>by rw [<- hc b ((hm b).1 hb) a ((hm a).1 ha)]; exact hab) hs
 refine zPM h ?_ λz=> ?_
 ·cases hl:zgN cc l with
  | nil=>exact .nil
  | cons x r=>rw [hl] at hs'; exact (zFL h hp r x hs').1
 ·rw [<- hm z];cases hl:zgN cc l with
  | nil=>simp [adj]
  | cons x r=>
   rw [hl] at hs';simp only [adj,qd];constructor
   ·rintro (h | h)
    ·exact .inl h
    ·exact .inr (zFG p r x z h)
   ·rintro (h1 | h1)
    ·exact .inl h1
    ·exact (zFL h hp r x hs').2 z h1
theorem zYj {c:α->α->Int} (h:Ord3 c) {cc:α->α->Bool×Int} {l:List α} (hl:l.length<4611686018427387904) (hc:∀ x∈l,∀ y∈l,cc x y=(true,c x y)):SortOK cc l where
 size:=hl
 ends := λx hx y hy => by rw [hc x hx y hy]
 irrefl:=λx hx=>by rw [hc x hx x hx]; exact h.irrefl x
 trans:=λx hx y hy z hz=>by rw [hc x hx y hy,hc y hy z hz,hc x hx z hz]; exact h.trans x y z
 ntrans:=λx hx y hy z hz=>by rw [hc x hx y hy,hc y hy z hz,hc x hx z hz]; exact λh1 h2=>h.le_trans h2 h1
 total:=λx hx y hy=>by rw [hc x hx y hy,hc y hy x hx]; exact h.conn
theorem zNB {n:Int} (h0: -9223372036854775808<=n) (h1:n<=9223372036854775807):IntKind.i64.wrap n=n:=by
 have e1:(2:Int) ^ 64=18446744073709551616:=rfl;have e2:(2:Int) ^ (64 - 1)=9223372036854775808:=rfl;simp only [IntKind.wrap,IntKind.bits,IntKind.signed,Bool.true_and,qe,e1,e2];split <;>omega
theorem zXy {l:List α} {i:Nat} {d:α} (h:i<l.length):l.drop i=l.getD i d::l.drop (i+1):=by
 rw [List.getD_eq_getElem?_getD,List.getElem?_eq_getElem h];exact List.drop_eq_getElem_cons h
end
end Go.Ab
/- Words for walking through printed loops: numbers, guards. -/
namespace Go.Ab
noncomputable section
variable {α:Type}
theorem zmT (i m:Nat):decide ((i:Int)<(m:Int))=decide (i<m):=by simp
theorem zr3 (i m:Nat):decide ((i:Int)<=(m:Int))=decide (i<=m):=by simp
theorem zXI (i m:Nat):decide ((i:Int)≥(m:Int))=decide (m<=i):=by simp
theorem zpM (i m:Nat):decide ((i:Int)>(m:Int))=decide (m<i):=by simp
theorem zf4 (i:Nat):decide ((0:Int)<=(i:Int))=true:=by simp
theorem zbi {i:Nat} (h:i<4611686018427387904):IntKind.i64.wrap ((i:Int)+1)=((i+1:Nat):Int):=by
 rw [zNB (by omega) (by omega)]; omega
theorem zoV {i:Nat} (h0:0<i) (h:i<4611686018427387904):IntKind.i64.wrap ((i:Int) - 1)=((i - 1:Nat):Int):=by
 rw [zNB (by omega) (by omega)]; omega
theorem zYW {n:Nat} {b:Nat} (hn:n<=1073741824) (hb:b<=1024):n*b<=zbO:=by
 have h1:n*b<=1073741824*1024:=Nat.mul_le_mul hn hb;have:1073741824*1024<=zbO:=by decide
 omega
theorem zbb [Inhabited α] {l:List α} {i:Nat} (h:i<l.length):l.drop i=l.getD i default::l.drop (i+1):=zXy h
theorem zdA {l:List α} {i:Nat} (h:¬ i<l.length):l.drop i=[]:=List.drop_eq_nil_of_le (by omega)
theorem zX [Inhabited α] {l:List α} {i:Nat} (h:i<l.length):l.getD i default∈l:=by
 rw [List.getD_eq_getElem?_getD,List.getElem?_eq_getElem h]; exact List.getElem_mem h
theorem zTe {l:List α} {i:Nat} (x:α) (h:i<l.length):(l.set i x).take (i+1)=l.take i++[x]:=by
 rw [List.take_add_one,List.take_set_of_le (Nat.le_refl i),List.getElem?_set_self h]; rfl
theorem zVp {l:List α} {i j:Nat} (x:α) (h:i<j):(l.set i x).drop j=l.drop j:=List.drop_set_of_lt h
theorem zSz [Inhabited α] {l:List α} {i:Nat} (h:i<l.length):l.take (i+1)=l.take i++[l.getD i default]:=by
 rw [List.take_add_one,List.getD_eq_getElem?_getD,List.getElem?_eq_getElem h]; rfl
theorem zXm {l:List α} {k m:Nat} (x:α) (h:k<=l.length):(l.take k++List.replicate m x++l.drop (k+m)).take k=l.take k:=by
 rw [List.append_assoc,List.take_append_of_le_length (by simp; omega),List.take_take,Nat.min_self]
theorem tT:(∀ n:Nat,Int.ofNat n=(n:Int))/\(∀ i m:Nat,decide ((i:Int)<(m:Int))=decide (i<m))/\(∀ i:Nat,decide ((0:Int)<=(i:Int))=true)/\(∀ h:Decidable True, @decide True h=true)/\(∀ h:Decidable False, @decide False h=false)/\
  (∀ b:Bool,(b&&b)=b)/\(∀ b:Bool,(true&&b)=b)/\(∀ b:Bool,(b&&true)=b)/\(∀ b:Bool,(b&&false)=false)/\(∀ b:Bool,(false&&b)=false)/\(∀ {α:Type} (a b:α), @cond α true a b=a)/\(∀ {α:Type} (a b:α), @cond α false a b=b)/\(∀ n:Nat,Int.toNat (n:Int)=n)/\(!true)=false/\(!false)=true:=
 ⟨λ_=>rfl,zmT,zf4,λh=>decide_true h,λh=>decide_false h,Bool.and_self,Bool.true_and,Bool.and_true,Bool.and_false,Bool.false_and,λ_ _=>rfl,λ_ _=>rfl,Int.toNat_natCast,rfl,rfl⟩
end
end Go.Ab
/- Loops over a list, as folds. -/
namespace Go.Ab
noncomputable section
section
variable {α β ρ σ τ:Type}
def zRS (step:τ->σ->σ⊕ρ) (fin:σ->ρ):List τ->σ->ρ
 | [],s=>fin s
 | t::r,s=>match step t s with
  | .inl s'=>zRS step fin r s'
  | .inr x=>x
theorem zeI [Inhabited τ] {W:α->β->Wy α β ρ} {z:ρ} {l:List τ} (ex:Nat->σ->α) (ey:Nat->σ->β) (step:τ->σ->σ⊕ρ) (fin:σ->ρ) (I:Nat->σ->Prop)
  (h:∀ i s,i<l.length->I i s->(∃ s',step (l.getD i default) s=.inl s'/\I (i+1) s'/\∀ (H:α->β->Bool×ρ) K D,(W (ex i s) (ey i s)).ev H K D=H (ex (i+1) s') (ey (i+1) s'))\/
   ∃ r,step (l.getD i default) s=.inr r/\∀ (H:α->β->Bool×ρ) K D,(W (ex i s) (ey i s)).ev H K D=K r)
  (he:∀ s,I l.length s->∀ (H:α->β->Bool×ρ) K D,(W (ex l.length s) (ey l.length s)).ev H K D=K (fin s)):
  ∀ n i s,l.length<i+n->i<=l.length->I i s->zN W z n (ex i s) (ey i s)=(true,zRS step fin (l.drop i) s)
 | 0,i,s,h1,h2,hI=>by omega
 | n+1,i,s,h1,h2,hI=>by
  show (W (ex i s) (ey i s)).ev (zN W z n) (λr=>(true,r)) (false,z)=_
  by_cases hi:i<l.length
  ·rw [zbb hi];rcases h i s hi hI with ⟨s',hs,hI',hW⟩ | ⟨r,hs,hW⟩
   ·rw [hW,zeI ex ey step fin I h he n (i+1) s' (by omega) (by omega) hI']
    simp only [zRS,hs]
   ·rw [hW];simp only [zRS,hs]
  ·have:i=l.length:=by omega
   subst this;rw [he s hI,zdA hi];rfl
theorem zeO (f:τ->σ->σ) (fin:σ->ρ):∀ (l:List τ) (s:σ),zRS (λt s=>.inl (f t s)) fin l s=fin (l.foldl (λs t=>f t s) s)
 | [],s=>rfl
 | t::r,s=>by simp only [zRS,List.foldl_cons]; exact zeO f fin r _
end
end
end Go.Ab
/- Texts with their separators; quotes doubled; decimal numbers: what can be read back. Plain lists of bytes. -/
namespace Go.Ab
noncomputable section
open Go.Lib Go.Proofs
def zoe (c:UInt8):Bool:=decide (48<=c.toNat)&&decide (c.toNat<=57)
theorem zYJ {c:UInt8}:zoe c=true↔48<=c.toNat/\c.toNat<=57:=by simp [zoe]
def zGa:Nat->List UInt8->Nat
 | acc,[]=>acc
 | acc,c::r=>zGa (acc*10+(c.toNat - 48)) r
theorem zUe:∀ (l r:List UInt8) (acc:Nat),zGa acc (l++r)=zGa (zGa acc l) r
 | [],r,acc=>rfl
 | c::l,r,acc=>zUe l r _
theorem zPT {d:Nat} (h:d<10):(UInt8.ofNat (48+d)).toNat=48+d:=by
 simp [UInt8.toNat_ofNat']; omega
theorem z0L {l r:List UInt8} (h:l≠[]):(l++r).head? =l.head? :=by
 cases l with
 | nil=>exact absurd rfl h
 | cons c l=>rfl
theorem zZk {d:Nat} (h:d<10):zoe (UInt8.ofNat (48+d))=true:=by
 have:=zPT h;exact zYJ.2 ⟨by omega,by omega⟩
theorem zLS:∀ (k n:Nat),n<=k->(decDigits n).all zoe=true/\zGa 0 (decDigits n)=n/\decDigits n≠[]/\(1<=n->(decDigits n).head? ≠some 48)
 | k,n,hk=>by
  rw [decDigits];by_cases h:n<10
  ·rw [dif_pos h];have h1:=zPT h;refine ⟨?_, ?_,List.cons_ne_nil _ _,λhn=> ?_⟩
   ·rw [List.all_cons,zZk h]; rfl
   ·unfold zGa zGa; rw [h1]; omega
   intro h2;rw [List.head?_cons] at h2;have h3:UInt8.ofNat (48+n)=48:=Option.some.inj h2;have:=congrArg UInt8.toNat h3;rw [h1,show (48:UInt8).toNat=48 from rfl] at this
   omega
  ·rw [dif_neg h];cases k with
   | zero=>omega
   | succ k=>
    obtain ⟨h1,h2,h3,h4⟩:=zLS k (n / 10) (by omega)
    have h6:n % 10<10:=by omega
    have h5:=zPT h6;refine ⟨?_, ?_,List.append_ne_nil_of_left_ne_nil h3 _,λhn=> ?_⟩
    ·rw [List.all_append,h1,List.all_cons,zZk h6]; rfl
    ·rw [zUe,h2];unfold zGa zGa; rw [h5]; omega
    ·rw [z0L h3];exact h4 (by omega)
def bs (l:List UInt8):ByteArray:=⟨l.toArray⟩
theorem zWg (l:List UInt8):(bs l).data.toList=l:=by simp [bs]
theorem z0w {a b:List UInt8} (h:bs a=bs b):a=b:=by rw [<- zWg a,h,zWg]
def znq:List (List UInt8)->List UInt8->List UInt8
 | [],_=>[]
 | [x],_=>x
 | x::y::r,s=>x++(s++znq (y::r) s)
def esc (c:UInt8):List UInt8:=if c=39 then [39,39] else [c]
theorem zPq:∀ (s t u v:List UInt8),u.head? ≠some 39->v.head? ≠some 39->s.flatMap esc++39::u=t.flatMap esc++39::v->s=t/\u=v
 | [],[],u,v,hu,hv,h=>by simpa using h
 | [],d::t,u,v,hu,hv,h=>by
  exfalso;rw [List.flatMap_cons,List.flatMap_nil] at h;unfold esc at h;split at h
  ·simp only [List.nil_append,List.cons_append,qj,true_and] at h;rw [h] at hu; simp at hu
  ·rename_i hd;simp only [List.nil_append,List.cons_append,qj] at h;exact hd h.1.symm
 | c::s,[],u,v,hu,hv,h=>by
  exfalso;rw [List.flatMap_cons,List.flatMap_nil] at h;unfold esc at h;split at h
  ·simp only [List.nil_append,List.cons_append,qj,true_and] at h;rw [<- h] at hv; simp at hv
  ·rename_i hd;simp only [List.nil_append,List.cons_append,qj] at h;exact hd h.1
 | c::s,d::t,u,v,hu,hv,h=>by
  rw [List.flatMap_cons,List.flatMap_cons,List.append_assoc,List.append_assoc] at h;by_cases hc:c=39
  ·by_cases hd:d=39
   ·subst hc hd;have e:esc 39=[39,39]:=rfl;rw [e] at h;simp only [List.cons_append,List.nil_append,qj,true_and] at h;obtain ⟨h1,h2⟩:=zPq s t u v hu hv h;exact ⟨by rw [h1],h2⟩
   ·have e1:esc c=[39,39]:=by rw [hc]; rfl
    have e2:esc d=[d]:=by simp [esc,hd]
    rw [e1,e2] at h;simp only [List.cons_append,List.nil_append,qj] at h;exact absurd h.1.symm hd
  ·by_cases hd:d=39
   ·have e1:esc d=[39,39]:=by rw [hd]; rfl
    have e2:esc c=[c]:=by simp [esc,hc]
    rw [e1,e2] at h;simp only [List.cons_append,List.nil_append,qj] at h;exact absurd h.1 hc
   ·have e1:esc c=[c]:=by simp [esc,hc]
    have e2:esc d=[d]:=by simp [esc,hd]
    rw [e1,e2] at h;simp only [List.cons_append,List.nil_append,qj] at h;obtain ⟨h1,h2⟩:=zPq s t u v hu hv h.2;exact ⟨by rw [h.1,h1],h2⟩
def noDig (u:List UInt8):Prop:=∀ c,u.head? =some c->zoe c=false
theorem zNi:∀ (s t u v:List UInt8),s.all zoe=true->t.all zoe=true->noDig u->noDig v->s++u=t++v->s=t/\u=v
 | [],[],u,v,_,_,_,_,h=>⟨rfl,by simpa using h⟩
 | [],d::t,u,v,_,ht,hu,_,h=>by
  exfalso;rw [List.nil_append] at h;have:=hu d (by rw [h]; rfl)
  rw [List.all_cons,qc] at ht;rw [ht.1] at this; cases this
 | c::s,[],u,v,hs,_,_,hv,h=>by
  exfalso;rw [List.nil_append] at h;have:=hv c (by rw [<- h]; rfl)
  rw [List.all_cons,qc] at hs;rw [hs.1] at this; cases this
 | c::s,d::t,u,v,hs,ht,hu,hv,h=>by
  simp only [List.cons_append,qj] at h;rw [List.all_cons,qc] at hs ht;obtain ⟨h1,h2⟩:=zNi s t u v hs.2 ht.2 hu hv h.2;exact ⟨by rw [h.1,h1],h2⟩
theorem zC4 {u:Nat} (h:u<10 ^ 20):(zCr 20 u).all zoe=true/\zCr 20 u≠[]/\zGa 0 (zCr 20 u)=u:=by
 have e:zCr 20 u=Lib.decDigits u:=(zSa 20 u h).resolve_right (by omega)
 obtain ⟨a1,a2,a3,a4⟩:=zLS u u (Nat.le_refl _);rw [e]; exact ⟨a1,a3,a2⟩
theorem zq0 {m n:Int} (hm: -9223372036854775808<=m/\m<=9223372036854775807) (hn: -9223372036854775808<=n/\n<=9223372036854775807) {u v:List UInt8} (hu:noDig u) (hv:noDig v) (h:ziE m++u=ziE n++v):m=n/\u=v:=by
 have d45:zoe 45=false:=by decide
 unfold ziE at h;obtain ⟨a1,a2,a3⟩:=zC4 (show m.natAbs<10 ^ 20 by omega)
 obtain ⟨b1,b2,b3⟩:=zC4 (show n.natAbs<10 ^ 20 by omega)
 have hd:∀ (l:List UInt8) (w:List UInt8),l≠[]->l.all zoe=true->∀ z,45::z≠l++w:=λl w h1 h2 z e=>by
  cases l with
  | nil=>exact h1 rfl
  | cons c r=>
   rw [List.all_cons,qc] at h2;simp only [List.cons_append,qj] at e;rw [<- e.1] at h2;rw [d45] at h2; cases h2.1
 by_cases h1:m<0
 ·by_cases h2:n<0
  ·rw [decide_eq_true h1,decide_eq_true h2] at h;simp only [cond_true,List.cons_append,qj,true_and] at h;obtain ⟨e1,e2⟩:=zNi _ _ u v a1 b1 hu hv h;rw [e1] at a3; rw [a3] at b3;exact ⟨by omega,e2⟩
  ·rw [decide_eq_true h1,decide_eq_false h2] at h;have en:n.natAbs=n.toNat:=by omega
   rw [en] at b1 b2;simp only [cond_true,cond_false,List.cons_append] at h;exact absurd h (hd _ _ b2 b1 _)
 ·by_cases h2:n<0
  ·rw [decide_eq_false h1,decide_eq_true h2] at h;have en:m.natAbs=m.toNat:=by omega
   rw [en] at a1 a2;simp only [cond_true,cond_false,List.cons_append] at h;exact absurd h.symm (hd _ _ a2 a1 _)
  ·rw [decide_eq_false h1,decide_eq_false h2] at h;have em:m.natAbs=m.toNat:=by omega
   have en:n.natAbs=n.toNat:=by omega
   rw [em] at a1 a3; rw [en] at b1 b3;simp only [cond_false] at h;obtain ⟨e1,e2⟩:=zNi _ _ u v a1 b1 hu hv h;rw [e1] at a3; rw [a3] at b3;exact ⟨by omega,e2⟩
theorem zYc {n:Int} (h:0<=n) (h2:n<=9223372036854775807):(ziE n).all zoe=true/\ziE n≠[]:=by
 unfold ziE;rw [decide_eq_false (by omega)]
 exact ⟨(zC4 (show n.toNat<10 ^ 20 by omega)).1,(zC4 (show n.toNat<10 ^ 20 by omega)).2.1⟩
theorem zS0 {n:Int} (h: -9223372036854775808<=n) (h2:n<=9223372036854775807):∃ c r,ziE n=c::r/\(c=45\/zoe c=true):=by
 unfold ziE;by_cases h1:n<0
 ·rw [decide_eq_true h1]; exact ⟨45,_,rfl,.inl rfl⟩
 ·rw [decide_eq_false h1];obtain ⟨a1,a2,_⟩:=zC4 (show n.toNat<10 ^ 20 by omega)
  cases hl:zCr 20 n.toNat with
  | nil=>exact absurd hl a2
  | cons c r=>
   rw [hl,List.all_cons,qc] at a1;exact ⟨c,r,by simp only [cond_false],.inr a1.1⟩
end
end Go.Ab
