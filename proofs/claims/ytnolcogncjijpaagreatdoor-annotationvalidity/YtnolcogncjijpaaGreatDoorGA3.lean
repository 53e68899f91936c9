/- Texts of this claim, joined (an interpreter of the code over typed data, and its soundness). -/
import Derived.Laws.StructEq
import Derived.ProofKit
import Derived.ChangeSame
import Derived.ChangeVars
import Derived.JoinedOf
import Derived.RowKit
import Derived.RowKitTokens
import Derived.LaidLaws
import Derived.LaidHandle
import Derived.Stop.Joined
import Derived.Deep.DeepLaidRun
import Derived.Lib.Bytealg
import Derived.Test.YtnolcogncjijpaaGreatDoorGA2
set_option autoImplicit false
set_option linter.unusedVariables false
set_option linter.unusedSectionVars false
set_option linter.unusedSimpArgs false
/- Contracts and loops out of printed equations. -/
namespace Go.Ab
noncomputable section
variable {ty:Nat->Type}
def out {A R:Type} (f:A->Option R) (p:Bool×A):Option R:=bif p.1 then f p.2 else none
abbrev bnd {A B:Type} (p:Bool×A) (k:A->Bool×B) (d:Bool×B):Bool×B:=bif p.1 then k p.2 else d
def bn {A R:Type} (p:Bool×A) (k:A->R) (d:R):R:=bif p.1 then k p.2 else d
structure Cx.Same0 (cx cx':Cx ty):Prop where
 ti:cx'.ti=cx.ti
 enc:cx'.enc=cx.enc
 dec:cx'.dec=cx.dec
 eqs:cx'.eqs=cx.eqs
 ng:cx'.ng=cx.ng
 inv:cx'.inv=cx.inv
structure Cx.Same (cx cx':Cx ty):Prop where
 s:cx.Same0 cx'
 drc:(cx'.dr,cx'.cells)=(cx.dr,cx.cells)
theorem Cx.Same.dr {cx cx':Cx ty} (h:cx.Same cx'):cx'.dr=cx.dr:=congrArg Prod.fst h.drc
theorem Cx.Same.cells {cx cx':Cx ty} (h:cx.Same cx'):cx'.cells=cx.cells:=congrArg Prod.snd h.drc
theorem Cx.Same0.symm {cx cx':Cx ty} (h:cx.Same0 cx'):cx'.Same0 cx:=⟨h.ti.symm,h.enc.symm,h.dec.symm,h.eqs.symm,h.ng.symm,h.inv.symm⟩
theorem Cx.Same.symm {cx cx':Cx ty} (h:cx.Same cx'):cx'.Same cx:=⟨h.s.symm,h.drc.symm⟩
section
variable {P:Program} {cx cx':Cx ty} {F:Nat->Prop} {w:World}
theorem Rep.cg (h:cx'.enc=cx.enc) {v:Value} {a:AV ty} (hr:Rep cx F w v a):Rep cx' F w v a:=by
 have he:∀ T (l:List (ty T)),zcc cx' T l=zcc cx T l:=λT l=>by unfold zcc; rw [h]
 induction hr with
 | lit v=>exact .lit v
 | slE a c T hn=>exact .slE a c T hn
 | errN=>exact .errN
 | errS t u=>exact .errS t u
 | sl b off cap T l us hF hcap hlen hc hr ih=>exact .sl b off cap T l us hF hcap (by rw [he]; exact hlen) hc (λj u c hu hcj=>ih j u c hu (by rw [<- he]; exact hcj))
 | fptr b off0 off T x us hF hlen hc hr ih=>exact .fptr b off0 off T x us hF (by rw [h]; exact hlen) hc (λj u c hu hcj=>ih j u c hu (by rw [<- h]; exact hcj))
 | bptr b off cs us hF hlen hc hr ih=>exact .bptr b off cs us hF hlen hc ih
 | agg vs cs hlen hr ih=>exact .agg vs cs hlen ih
 | fn f vs cs hlen hr ih=>exact .fn f vs cs hlen ih
theorem zVT (h:cx'.ti=cx.ti) (T:Nat):zl cx' T=zl cx T:=by unfold zl; rw [h]
theorem zcn.cg (h:cx.Same0 cx') {v:Value} {T:Nat} {l:List (ty T)} (hr:zcn cx F w v T l):zcn cx' F w v T l:=by
 obtain ⟨xs,ho,ha⟩:=hr;refine ⟨xs,by rw [zVT h.ti]; exact ho, ?_⟩
 have he:zcc cx' T l=zcc cx T l:=by unfold zcc; rw [h.enc]
 rw [he]; exact ha.imp λ_ _=>Rep.cg h.enc
theorem zim.cg (h:cx.Same0 cx') {v:Value} {a:Arg ty} (hr:zim cx F w v a):zim cx' F w v a:=by
 cases a with
 | pure a=>exact Rep.cg h.enc hr
 | own T l=>exact ⟨zcn.cg h hr.1,hr.2⟩
theorem CellOK.cg (h:cx.Same0 cx') {T b:Nat} {l:List (ty T)} {u:Value} (hc:CellOK cx F w T l b u):CellOK cx' F w T l b u:=⟨hc.at_,hc.row.cg h,hc.out,hc.ne⟩
theorem GOK.cg (h:cx.Same0 cx') {OP:Nat->Prop} (hg:GOK cx w OP):GOK cx' w OP:=⟨by rw [h.inv]; exact hg.inv,by rw [h.ng]; exact hg.big,by rw [h.ng]; exact hg.size⟩
theorem SoundC.cg (h:cx.Same0 cx') (hd:cx'.dr=true->cx.dr=true) {f:Nat} {s:CSpec ty} (hs:SoundC P cx f s):SoundC P cx' f s where
 enters:=hs.enters
 calls:=λg as l l' hr w F vs b u hF ha hc hg=>(hs.calls g as l l' hr w F vs b u hF (ha.imp λ_ _=>Rep.cg h.symm.enc) (hc.cg h.symm) (hg.cg h.symm)).mono λe w' ⟨v,he,F',u',h1,h2,h3,h4,h5⟩=>
  ⟨v,he,F',u',{ h1 with drawn:=λe=>h1.drawn (hd e) },h2,h3,h4.cg h,h5⟩
theorem CxOK.cg (h:cx.Same0 cx') (hcx:CxOK P cx) (hc:∀ f s,cx'.cells f=some s->SoundC P cx' f s:=by intro _ _ h; cases h):CxOK P cx' where
 ti:=λT i hi=>hcx.ti T i (by rw [<- h.ti]; exact hi)
 len:=λT x=>by rw [h.enc,zVT h.ti]; exact hcx.len T x
 cell:=λT x c hc=>hcx.cell T x c (by rw [<- h.enc]; exact hc)
 dec:=λT cs x hd F w us ha=>by
  have:=hcx.dec T cs x (by rw [<- h.dec]; exact hd) F w us (ha.imp λ_ _=>Rep.cg h.enc.symm)
  rw [h.enc]; exact this.imp λ_ _=>Rep.cg h.enc
 eqs:=λT xs ys r he=>hcx.eqs T xs ys r (by rw [<- h.eqs]; exact he)
 eqk:=λT us vs hu hv=>by rw [h.eqs] at hu hv ⊢; exact hcx.eqk T us vs hu hv
 eqr:=λT us b hu=>hcx.eqr T us b (by rw [<- h.eqs]; exact hu)
 stable:=λw w' hi hb=>by rw [h.inv] at hi ⊢; exact hcx.stable w w' hi (by rw [<- h.ng]; exact hb)
 cells:=hc
theorem CxOK.cgS (h:cx.Same0 cx') (hc:cx'.cells=cx.cells) (hd:cx'.dr=true->cx.dr=true) (hcx:CxOK P cx):CxOK P cx':=hcx.cg h λf s hf=>(hcx.cells f s (by rw [<- hc]; exact hf)).cg h hd
theorem SepW.cg {L:List Value} (h:cx.Same0 cx') (hs:SepW cx w L):SepW cx' w L:=⟨hs.sep,⟨by rw [h.inv]; exact hs.g.inv,by rw [h.ng]; exact hs.g.big,by rw [h.ng]; exact hs.g.size⟩⟩
theorem Post.cg (h:cx.Same0 cx') (hd:cx'.dr=true->cx.dr=true) {owns:List Value} {res:ARes ty} {v:Value} {w':World} (hp:Post cx F w owns res v w'):Post cx' F w owns res v w':=by
 obtain ⟨F',rs,h1,h2,h3,h4,h5,h6,h7,h8⟩:=hp.ok;refine ⟨F',rs,h1,{ h2 with drawn:=λe=>h2.drawn (hd e) },h3,h4,h5.imp λu c hr=> ?_,h6.imp λu c hr=> ?_,h7,h8⟩
 ·cases c with
  | pure a=>exact Rep.cg h.enc hr
  | own T l=>exact ⟨zcn.cg h hr.1,hr.2⟩
 ·cases c with
  | none=>trivial
  | some x=>exact ⟨zcn.cg h hr.1,hr.2⟩
theorem Sound.cg0 (h:cx.Same0 cx') (hd:cx'.dr=true->cx.dr=true) {f:Nat} {s:Spec ty} (hs:Sound P cx f s):Sound P cx' f s where
 enters:=hs.enters
 calls:=λas res hsp w F vs hF ha hsep=>(hs.calls as res hsp w F vs hF (ha.imp λ_ _=>zim.cg h.symm) (hsep.cg h.symm)).mono λe w' ⟨v,he,hp⟩=>⟨v,he,hp.cg h hd⟩
theorem Sound.cg (h:cx.Same cx') {f:Nat} {s:Spec ty} (hs:Sound P cx f s):Sound P cx' f s:=hs.cg0 h.s λe=>h.dr ▸ e
theorem Sound.nodr {f:Nat} {s:Spec ty} (hs:Sound P cx f s):Sound P { cx with dr:=false } f s:=
 Sound.cg0 (cx:=cx) (cx':={ cx with dr:=false }) ⟨rfl,rfl,rfl,rfl,rfl,rfl⟩ (λe=>absurd e (by simp)) hs
end
structure VD (cx:Cx ty) (α:Type) where
 dec:AV ty->Option α
 enc:α->AV ty
 ok:∀ (P:Program),CxOK P cx->∀ (F:Nat->Prop) (w:World) (v:Value) (a:AV ty) (x:α),dec a=some x->Rep cx F w v a->Rep cx F w v (enc x)
structure VL (cx:Cx ty) (α:Type) where
 dec:List (AV ty)->Option α
 enc:α->List (AV ty)
 ok:∀ (P:Program),CxOK P cx->∀ (F:Nat->Prop) (w:World) (vs:List Value) (as:List (AV ty)) (x:α),dec as=some x->All2 (Rep cx F w) vs as->All2 (Rep cx F w) vs (enc x)
structure AD (cx:Cx ty) (α:Type) where
 dec:Arg ty->Option α
 enc:α->Arg ty
 ok:∀ (P:Program),CxOK P cx->∀ (F:Nat->Prop) (w:World) (v:Value) (a:Arg ty) (x:α),dec a=some x->zim cx F w v a->zim cx F w v (enc x)
 kind:∀ (vs:List Value) (a:Arg ty) (x:α) (r r':List (Arg ty)),dec a=some x->zbc vs.tail r=zbc vs.tail r'->zbc vs (a::r)=zbc vs (enc x::r')
structure AL (cx:Cx ty) (α:Type) where
 dec:List (Arg ty)->Option α
 enc:α->List (Arg ty)
 ok:∀ (P:Program),CxOK P cx->∀ (F:Nat->Prop) (w:World) (vs:List Value) (as:List (Arg ty)) (x:α),dec as=some x->All2 (zim cx F w) vs as->All2 (zim cx F w) vs (enc x)
 kind:∀ (vs:List Value) (as:List (Arg ty)) (x:α),dec as=some x->zbc vs as=zbc vs (enc x)
section
variable {cx:Cx ty} {α β:Type}
def zgr (k:IntKind):VD cx Int where
 dec:=λa=>match a with | .lit (.int k' n)=>if k'=k then some n else none | _=>none
 enc:=λn=>.lit (.int k n)
 ok:=λP hcx F w v a x h hr=>by
  split at h
  ·split at h
   ·rename_i hk; subst hk; simp only [qa] at h; subst h; exact hr
   ·cases h
  ·cases h
def z1e:VD cx Bool where
 dec:=λa=>match a with | .lit (.bool b)=>some b | _=>none
 enc:=λb=>.lit (.bool b)
 ok:=λP hcx F w v a x h hr=>by
  split at h
  ·simp only [qa] at h; subst h; exact hr
  ·cases h
def zss:VD cx ByteArray where
 dec:=λa=>match a with | .lit (.string s)=>some s | _=>none
 enc:=λs=>.lit (.string s)
 ok:=λP hcx F w v a x h hr=>by
  split at h
  ·simp only [qa] at h; subst h; exact hr
  ·cases h
def zZl:VD cx Unit where
 dec:=λa=>match a with | .lit (.slice none 0 0)=>some () | _=>none
 enc:=λ_=>.lit (.slice none 0 0)
 ok:=λP hcx F w v a x h hr=>by
  split at h
  ·exact hr
  ·cases h
def vSl (T:Nat):VD cx (List (ty T)) where
 dec:=zSi T
 enc:=λl=>.sl T l
 ok:=λP hcx F w v a x h hr=>zBY hr h
def zdh (T:Nat):VD cx (ty T) where
 dec:=λa=>match a with | .agg cs=>cx.dec T cs | _=>none
 enc:=λx=>.agg (cx.enc T x)
 ok:=λP hcx F w v a x h hr=>by
  split at h
  ·cases hr with
   | agg vs cs hlen hr=>
    have:=hcx.dec T _ x h F w vs ⟨hlen,hr⟩;exact .agg vs _ this.len this.at_
  ·cases h
def zRG (d:VL cx α):VD cx α where
 dec:=λa=>match a with | .bptr cs 0=>d.dec cs | _=>none
 enc:=λx=>.bptr (d.enc x) 0
 ok:=λP hcx F w v a x h hr=>by
  split at h
  ·cases hr with
   | bptr b off cs us hF hlen hc hr=>
    have:=d.ok P hcx F w us _ x h ⟨hlen,hr⟩;exact .bptr b 0 _ us hF this.len hc this.at_
  ·cases h
def zQp (T:Nat):VD cx (ty T) where
 dec:=λa=>match a with | .bptr cs 0=>cx.dec T cs | _=>none
 enc:=λx=>.bptr (cx.enc T x) 0
 ok:=λP hcx F w v a x h hr=>by
  split at h
  ·cases hr with
   | bptr b off cs us hF hlen hc hr=>
    have:=hcx.dec T _ x h F w us ⟨hlen,hr⟩;exact .bptr b 0 _ us hF this.len hc this.at_
  ·cases h
def vFn (f:Nat) (d:VL cx α):VD cx α where
 dec:=λa=>match a with | .fn g cs=>(match Nat.beq g f with | true=>d.dec cs | false=>none) | _=>none
 enc:=λx=>.fn f (d.enc x)
 ok:=λP hcx F w v a x h hr=>by
  split at h
  ·split at h
   ·rename_i hb;have hb:=Nat.eq_of_beq_eq_true hb;subst hb;cases hr with
    | fn f vs cs hlen hr=>
     have:=d.ok P hcx F w vs _ x h ⟨hlen,hr⟩;exact .fn _ vs _ this.len this.at_
   ·cases h
  ·cases h
def zcQ:VL cx Unit where
 dec:=λas=>match as with | []=>some () | _=>none
 enc:=λ_=>[]
 ok:=λP hcx F w vs as x h hr=>by
  split at h
  ·exact hr
  ·cases h
def zpI (d:VD cx α) (r:VL cx β):VL cx (α×β) where
 dec:=λas=>match as with
  | a::as=>match d.dec a with
   | some x=>match r.dec as with
    | some y=>some (x,y)
    | none=>none
   | none=>none
  | _=>none
 enc:=λx=>d.enc x.1::r.enc x.2
 ok:=λP hcx F w vs as x h hr=>by
  split at h
  ·split at h
   ·rename_i x1 h1;split at h
    ·rename_i y h2;simp only [qa] at h; subst h;obtain ⟨u,us,rfl,hu,hus⟩:=hr.inv;exact .cons (d.ok P hcx F w u _ x1 h1 hu) (r.ok P hcx F w us _ y h2 hus)
    ·cases h
   ·cases h
  ·cases h
def zg (d:VD cx α):AD cx α where
 dec:=λa=>match a with | .pure a=>d.dec a | _=>none
 enc:=λx=>.pure (d.enc x)
 ok:=λP hcx F w v a x h hr=>by
  split at h
  ·exact d.ok P hcx F w v _ x h hr
  ·cases h
 kind:=λvs a x r r' h hr=>by
  split at h
  ·cases vs with
   | nil=>rfl
   | cons v vs=>simpa [zbc] using hr
  ·cases h
def znZ (T:Nat):AD cx (List (ty T)) where
 dec:=λa=>match a with | .own T' l=>ztZ T' T l | _=>none
 enc:=λl=>.own T l
 ok:=λP hcx F w v a x h hr=>by
  split at h
  ·obtain ⟨rfl,rfl⟩:=zrA h;exact hr
  ·cases h
 kind:=λvs a x r r' h hr=>by
  split at h
  ·cases vs with
   | nil=>rfl
   | cons v vs=>simpa [zbc] using hr
  ·cases h
def zF:AL cx Unit where
 dec:=λas=>match as with | []=>some () | _=>none
 enc:=λ_=>[]
 ok:=λP hcx F w vs as x h hr=>by
  split at h
  ·exact hr
  ·cases h
 kind:=λvs as x h=>by
  split at h
  ·rfl
  ·cases h
def zf (d:AD cx α) (r:AL cx β):AL cx (α×β) where
 dec:=λas=>match as with
  | a::as=>match d.dec a with
   | some x=>match r.dec as with
    | some y=>some (x,y)
    | none=>none
   | none=>none
  | _=>none
 enc:=λx=>d.enc x.1::r.enc x.2
 ok:=λP hcx F w vs as x h hr=>by
  split at h
  ·split at h
   ·rename_i x1 h1;split at h
    ·rename_i y h2;simp only [qa] at h; subst h;obtain ⟨u,us,rfl,hu,hus⟩:=hr.inv;exact .cons (d.ok P hcx F w u _ x1 h1 hu) (r.ok P hcx F w us _ y h2 hus)
    ·cases h
   ·cases h
  ·cases h
 kind:=λvs as x h=>by
  split at h
  ·split at h
   ·rename_i x1 h1;split at h
    ·rename_i y h2;simp only [qa] at h; subst h;exact d.kind vs _ x1 _ _ h1 (r.kind vs.tail _ y h2)
    ·cases h
   ·cases h
  ·cases h
def zi (A:AL cx α) (G:α->Bool×ARes ty):Spec ty:=λas=>match A.dec as with
 | some x=>some (G x)
 | none=>none
theorem zUE {P:Program} {cx':Cx ty} {ρ:Type} (hm:P.follows .mixedOrders=true) (hcx:CxOK P cx) (hsame:cx.Same cx') (hspec:∀ g s,cx'.spec g=some s->Sound P cx g s)
  {f:Nat} {fn:Func} {c:Code} (hent:∀ args w,(callFunc f args).run P w=.ok (.enter f args) w) (hf:P.funcs[f]? =some fn) (hb:fn.body=some c) (hl:zfn cx' c) {sg:Sig} {A:AL cx α} {res:ρ->ARes ty} {F:α->Bool×ρ}
  (hrun:∀ x,ze0 cx' fn c sg (A.enc x)=out (λr=>some (res r)) (F x))
  (hchk:∀ x,(Nat.ble (A.enc x).length fn.ntmps&&zDh c (A.enc x) sg.upd)=true):
  Sound P cx f (zi A λx=>((F x).1,res (F x).2)) where
 enters:=hent
 calls:=λas r hs w F' vs hF ha hsep=>by
  unfold zi at hs;split at hs
  ·rename_i x hx;simp only [qa,qb] at hs;obtain ⟨hpre,rfl⟩:=hs;have hk:=A.kind vs as x hx;have hr:ze0 cx' fn c sg (A.enc x)=some (res (F x).2):=by rw [hrun]; unfold out; rw [hpre]; rfl
   have hc:=hchk x;simp only [qc] at hc;have:=zPg hm (hcx.cgS hsame.s hsame.cells λe=>hsame.dr ▸ e) (λg s hg=>(hspec g s hg).cg hsame) hf hb hl hr hc.1 hc.2 w F' vs hF ((A.ok P hcx F' w vs as x hx ha).imp λ_ _=>zim.cg hsame.s) ((hk ▸ hsep).cg hsame.s)
   refine this.mono λe w' ⟨v,he,hp⟩=>⟨v,he, ?_⟩
   rw [hk]; exact hp.cg hsame.s.symm λe=>hsame.dr ▸ e
  ·cases hs
end
structure LD (ty:Nat->Type) (α:Type) where
 dec:AV ty->Option α
 enc:α->AV ty
 ok:∀ a x,dec a=some x->a=enc x
structure LL (ty:Nat->Type) (α:Type) where
 dec:List (AV ty)->Option α
 enc:α->List (AV ty)
 ok:∀ a x,dec a=some x->a=enc x
structure BL (ty:Nat->Type) (α:Type) where
 dec:List (Blk ty)->Option α
 enc:α->List (Blk ty)
 ok:∀ a x,dec a=some x->a=enc x
section
variable {α β:Type}
def zA (k:IntKind):LD ty Int where
 dec:=λa=>match a with | .lit (.int k' n)=>if k'=k then some n else none | _=>none
 enc:=λn=>.lit (.int k n)
 ok:=λa x h=>by
  split at h
  ·split at h
   ·rename_i hk; subst hk; simp only [qa] at h; subst h; rfl
   ·cases h
  ·cases h
def zmf:LD ty ByteArray where
 dec:=λa=>match a with | .lit (.string s)=>some s | _=>none
 enc:=λs=>.lit (.string s)
 ok:=λa x h=>by
  split at h
  ·simp only [qa] at h; subst h; rfl
  ·cases h
def zWL:LD ty Unit where
 dec:=λa=>match a with | .lit (.slice none 0 0)=>some () | _=>none
 enc:=λ_=>.lit (.slice none 0 0)
 ok:=λa x h=>by
  split at h
  ·rfl
  ·cases h
def lSl (T:Nat):LD ty (List (ty T)) where
 dec:=λa=>match a with | .sl T' l=>ztZ T' T l | _=>none
 enc:=λl=>.sl T l
 ok:=λa x h=>by
  split at h
  ·obtain ⟨rfl,rfl⟩:=zrA h; rfl
  ·cases h
def zhT (id:Nat):LD ty Unit where
 dec:=λa=>match a with | .own j=>(match Nat.beq j id with | true=>some () | false=>none) | _=>none
 enc:=λ_=>.own id
 ok:=λa x h=>by
  split at h
  ·split at h
   ·rename_i hb; rw [Nat.eq_of_beq_eq_true hb]
   ·cases h
  ·cases h
def lMp (id:Nat):LD ty Unit where
 dec:=λa=>match a with | .mp j=>(match Nat.beq j id with | true=>some () | false=>none) | _=>none
 enc:=λ_=>.mp id
 ok:=λa x h=>by
  split at h
  ·split at h
   ·rename_i hb; rw [Nat.eq_of_beq_eq_true hb]
   ·cases h
  ·cases h
def z1j (id:Nat):LD ty (Nat×Nat) where
 dec:=λa=>match a with | .sub j lo n=>(match Nat.beq j id with | true=>some (lo,n) | false=>none) | _=>none
 enc:=λx=>.sub id x.1 x.2
 ok:=λa x h=>by
  split at h
  ·split at h
   ·rename_i hb; rw [Nat.eq_of_beq_eq_true hb]; simp only [qa] at h; subst h; rfl
   ·cases h
  ·cases h
def zeB (id off:Nat):LD ty Unit where
 dec:=λa=>match a with | .ptr j o=>(match Nat.beq j id&&Nat.beq o off with | true=>some () | false=>none) | _=>none
 enc:=λ_=>.ptr id off
 ok:=λa x h=>by
  split at h
  ·split at h
   ·rename_i hb; rw [qc] at hb; rw [Nat.eq_of_beq_eq_true hb.1,Nat.eq_of_beq_eq_true hb.2]
   ·cases h
  ·cases h
def zAd (d:LL ty α) (off:Nat):LD ty α where
 dec:=λa=>match a with | .bptr cs o=>(match Nat.beq o off with | true=>d.dec cs | false=>none) | _=>none
 enc:=λx=>.bptr (d.enc x) off
 ok:=λa x h=>by
  split at h
  ·split at h
   ·rename_i hb; rw [Nat.eq_of_beq_eq_true hb,d.ok _ _ h]
   ·cases h
  ·cases h
def zhu (f:α->β) (g:β->α) (hgf:∀ x,g (f x)=x) (d:LL ty α):LL ty β where
 dec:=λas=>match d.dec as with
  | some x=>some (f x)
  | none=>none
 enc:=λy=>d.enc (g y)
 ok:=λa x h=>by
  split at h
  ·rename_i y hy;simp only [qa] at h; subst h;rw [hgf,d.ok _ _ hy]
  ·cases h
def isL {α β:Type}:α⊕β->Bool
 | .inl _=>true
 | .inr _=>false
def getL {α β:Type} [Inhabited α]:α⊕β->α
 | .inl a=>a
 | .inr _=>default
def getR {α β:Type} [Inhabited β]:α⊕β->β
 | .inl _=>default
 | .inr b=>b
def lFn (f:Nat) (d:LL ty α):LD ty α where
 dec:=λa=>match a with | .fn g cs=>(match Nat.beq g f with | true=>d.dec cs | false=>none) | _=>none
 enc:=λx=>.fn f (d.enc x)
 ok:=λa x h=>by
  split at h
  ·split at h
   ·rename_i hb; rw [Nat.eq_of_beq_eq_true hb,d.ok _ _ h]
   ·cases h
  ·cases h
def zr:LL ty Unit where
 dec:=λas=>match as with | []=>some () | _=>none
 enc:=λ_=>[]
 ok:=λa x h=>by
  split at h
  ·rfl
  ·cases h
def za (d:LD ty α) (r:LL ty β):LL ty (α×β) where
 dec:=λas=>match as with
  | a::as=>match d.dec a with
   | some x=>match r.dec as with
    | some y=>some (x,y)
    | none=>none
   | none=>none
  | _=>none
 enc:=λx=>d.enc x.1::r.enc x.2
 ok:=λa x h=>by
  split at h
  ·split at h
   ·rename_i x1 h1;split at h
    ·rename_i y h2;simp only [qa] at h; subst h;rw [d.ok _ _ h1,r.ok _ _ h2]
    ·cases h
   ·cases h
  ·cases h
def zbv:BL ty Unit where
 dec:=λas=>match as with | []=>some () | _=>none
 enc:=λ_=>[]
 ok:=λa x h=>by
  split at h
  ·rfl
  ·cases h
def zWS (V V':Nat) (l:List (Value×ty V)):Option (List (Value×ty V')):=if h:V=V' then some (h ▸ l) else none
theorem zWZ {V V':Nat} {l:List (Value×ty V)} {l':List (Value×ty V')} (h:zWS V V' l=some l'):∃ e:V=V',e ▸ l=l':=by
 unfold zWS at h;split at h
 ·rename_i e; exact ⟨e,Option.some.inj h⟩
 ·cases h
def bMp (K V:Nat) (fz:Bool) (r:BL ty β):BL ty (List (Value×ty V)×β) where
 dec:=λas=>match as with
  | .mp K' V' l fz'::as=>match Nat.beq K' K,zWS V' V l,r.dec as with
   | true,some l,some y=>if fz'=fz then some (l,y) else none
   | _,_,_=>none
  | _=>none
 enc:=λx=>.mp K V x.1 fz::r.enc x.2
 ok:=λa x h=>by
  split at h
  ·split at h
   ·rename_i hk hl h2;split at h
    ·rename_i hfz;simp only [qa] at h; subst h;obtain ⟨rfl,rfl⟩:=zWZ hl;rw [Nat.eq_of_beq_eq_true hk,hfz,r.ok _ _ h2]
    ·cases h
   ·cases h
  ·cases h
def zhU (T:Nat) (fz:Bool) (r:BL ty β):BL ty (List (ty T)×β) where
 dec:=λas=>match as with
  | .arr T' l fz'::as=>match ztZ T' T l with
   | some l=>match r.dec as with
    | some y=>if fz'=fz then some (l,y) else none
    | none=>none
   | none=>none
  | _=>none
 enc:=λx=>.arr T x.1 fz::r.enc x.2
 ok:=λa x h=>by
  split at h
  ·split at h
   ·rename_i l hl;split at h
    ·rename_i y h2;split at h
     ·rename_i hfz;simp only [qa] at h; subst h; subst hfz;obtain ⟨rfl,rfl⟩:=zrA hl;rw [r.ok _ _ h2]
     ·cases h
    ·cases h
   ·cases h
  ·cases h
def zhD (d:LL ty α) (fz:Bool) (r:BL ty β):BL ty (α×β) where
 dec:=λas=>match as with
  | .box cs fz'::as=>match d.dec cs with
   | some x=>match r.dec as with
    | some y=>if fz'=fz then some (x,y) else none
    | none=>none
   | none=>none
  | _=>none
 enc:=λx=>.box (d.enc x.1) fz::r.enc x.2
 ok:=λa x h=>by
  split at h
  ·split at h
   ·rename_i l hl;split at h
    ·rename_i y h2;split at h
     ·rename_i hfz;simp only [qa] at h; subst h; subst hfz;rw [r.ok _ _ h2,d.ok _ _ hl]
     ·cases h
    ·cases h
   ·cases h
  ·cases h
def zQx (V:LL ty α) (B:BL ty β) (G:α->β->Bool×LTree ty):ztQ ty:=λvals bs=>match V.dec vals with
 | some x=>match B.dec bs with
  | some y=>some (G x y)
  | none=>none
 | none=>none
theorem zXq {cx:Cx ty} {c:Code} {V:LL ty α} {B:BL ty β} {ρ:Type} {tr:ρ->LTree ty} {L:Nat->α->β->Bool×ρ} {m:α->β->Nat}
  (h:∀ (R:Type) (K:Ex->List (AV ty)->List (Blk ty)->Option R) n x y,zIx cx c K n (V.enc x) (B.enc y)=out (λr=>zsN K (tr r)) (L n x y)):
  ∀ vals bs t,zQx V B (λx y=>((L (m x y) x y).1,tr (L (m x y) x y).2)) vals bs=some (true,t)->zwz cx c vals bs t:=by
 intro vals bs t ht;unfold zQx at ht;split at ht
 ·rename_i x hx;split at ht
  ·rename_i y hy;simp only [qa,qb] at ht;obtain ⟨h1,rfl⟩:=ht;rw [V.ok _ _ hx,B.ok _ _ hy];refine ⟨m x y,λR K=> ?_⟩
   rw [h R K]; unfold out; rw [h1]; rfl
  ·cases ht
 ·cases ht
end
def z1f:Ex->Nat
 | .ret=>0
 | .exit j=>j+1
 | .normal=>0
def zZj:List (Nat×Nat×List (Nat×LMode))->Nat->Ex->List (Nat×LMode)
 | [],_,_=>[]
 | (i,k,l)::r,j,ex=>match Nat.beq i j&&Nat.beq k (z1f ex) with
  | true=>l
  | false=>zZj r j ex
def zf3:Code->List Code
 | .seq a b=>zf3 a++zf3 b
 | .cond _ a b=>zf3 a++zf3 b
 | .block _ c=>zf3 c
 | .loop c=>c::zf3 c
 | .scope c=>zf3 c
 | _=>[]
def All {α:Type} (Q:α->Prop):List α->Prop
 | []=>True
 | x::r=>Q x/\All Q r
def body (f:Func):Code:=f.body.getD .skip
def lp (c:Code) (i:Nat):Code:=(zf3 c).getD i .skip
def zR (cx:Cx ty) (c:Code):Prop:=∀ sp,cx.loops (zbT c)=some sp->∀ vals bs t,sp vals bs=some (true,t)->zwz cx c vals bs t
theorem All.mem {α:Type} {Q:α->Prop}:∀ {l:List α},All Q l->∀ x∈l,Q x
 | [],_,x,h=>by cases h
 | y::r,h,x,hx=>by
  rcases qd.1 hx with rfl | hx
  ·exact h.1
  ·exact All.mem h.2 x hx
def zhB:Code->List Code
 | .seq a b=>b::(zhB a++zhB b)
 | .cond _ a b=>zhB a++zhB b
 | .block _ c=>zhB c
 | .loop c=>zhB c
 | .scope c=>zhB c
 | _=>[]
def zHB (cx:Cx ty) (c:Code):Prop:=∀ sp,cx.joins (zbT c)=some sp->∀ vals bs t,sp vals bs=some (true,t)->zXV cx c vals bs t
theorem zjZ (cx:Cx ty):∀ (c:Code),(∀ x∈zf3 c,zR cx x)->(∀ x∈zhB c,zHB cx x)->zfn cx c
 | .seq a b,h,g=>⟨zjZ cx a (λx hx=>h x (by simp [zf3,hx])) λx hx=>g x (by simp [zhB,hx]),zjZ cx b (λx hx=>h x (by simp [zf3,hx])) λx hx=>g x (by simp [zhB,hx]),g b (by simp [zhB])⟩
 | .cond _ a b,h,g=>⟨zjZ cx a (λx hx=>h x (by simp [zf3,hx])) λx hx=>g x (by simp [zhB,hx]),zjZ cx b (λx hx=>h x (by simp [zf3,hx])) λx hx=>g x (by simp [zhB,hx])⟩
 | .block _ c,h,g=>zjZ cx c (λx hx=>h x (by simpa [zf3] using hx)) λx hx=>g x (by simpa [zhB] using hx)
 | .loop c,h,g=>⟨zjZ cx c (λx hx=>h x (by simp [zf3,hx])) λx hx=>g x (by simpa [zhB] using hx),h c (by simp [zf3])⟩
 | .skip,_,_=>trivial
 | .region ..,_,_=>trivial
 | .exit _,_,_=>trivial
 | .ret,_,_=>trivial
 | .label _,_,_=>trivial
 | .goto _,_,_=>trivial
 | .scope c,h,g=>zjZ cx c (λx hx=>h x (by simpa [zf3] using hx)) λx hx=>g x (by simpa [zhB] using hx)
 | .rangeFunc ..,_,_=>trivial
 | .refuse _,_,_=>trivial
theorem zoE {cx:Cx ty} {c:Code} {l:List Code} (h:zf3 c=l) (ha:All (zR cx) l) (hj:∀ i,cx.joins i=none:=by intro _; rfl):zfn cx c:=zjZ cx c (λx hx=>All.mem ha x (h ▸ hx)) λx _ sp hs=>by rw [hj] at hs; cases hs
theorem zTf {cx:Cx ty} {c:Code} {l js:List Code} (h:zf3 c=l) (ha:All (zR cx) l) (hj:(zhB c).filter (λx=>(cx.joins (zbT x)).isSome)=js) (hb:All (zHB cx) js):zfn cx c:=
 zjZ cx c (λx hx=>All.mem ha x (h ▸ hx)) λx hx sp hs=>All.mem hb x (hj ▸ List.mem_filter.2 ⟨hx,by rw [hs]; rfl⟩) sp hs
def jn (c:Code) (i:Nat):Code:=((zhB c).filter λx=>Nat.beq (zbT x) i).getD 0 .skip
theorem zYb {cx:Cx ty} {c:Code} {id:Nat} {sp:ztQ ty} (hid:zbT c=id) (hl:cx.loops id=some sp) (h:∀ vals bs t,sp vals bs=some (true,t)->zwz cx c vals bs t):zR cx c:=by
 intro sp' hs;rw [hid,hl] at hs;obtain rfl:=Option.some.inj hs;exact h
def zCy (s t:Spec ty):Spec ty:=λas=>match s as with
 | some r=>some r
 | none=>t as
theorem Sound.or {P:Program} {cx:Cx ty} {f:Nat} {s t:Spec ty} (hs:Sound P cx f s) (ht:Sound P cx f t):Sound P cx f (zCy s t) where
 enters:=hs.enters
 calls:=λas r h=>by
  unfold zCy at h;split at h
  ·rename_i r' hr;simp only [qa] at h; subst h;exact hs.calls as r hr
  ·exact ht.calls as r h
theorem zbd {P:Program} {cx:Cx ty} {α:Type} {f:Nat} {A:AL cx α} {G:α->Bool×ARes ty} (hent:∀ args w,(callFunc f args).run P w=.ok (.enter f args) w) (h:∀ x,(G x).1=false):Sound P cx f (zi A G) where
 enters:=hent
 calls:=λas r hs=>by
  unfold zi at hs;split at hs
  ·rename_i x hx;simp only [qa] at hs;have:=h x;rw [hs] at this; cases this
  ·cases hs
theorem zVS {P:Program} {cx:Cx ty} (l:List (Nat×Spec ty)) (h:All (λp=>Sound P cx p.1 p.2) l):∀ g s,l.lookup g=some s->Sound P cx g s:=by
 induction l with
 | nil=>intro g s h; simp at h
 | cons p r ih=>
  intro g s hg;obtain ⟨f0,s0⟩:=p;simp only [List.lookup_cons] at hg;split at hg
  ·rename_i hb;have:=beq_iff_eq.1 hb;simp only [qa] at hg;subst this hg;exact h.1
  ·exact ih h.2 g s hg
end
end Go.Ab
/- Typed data as cells: zQr, and their laws. -/
namespace Go.Ab
noncomputable section
variable {ty:Nat->Type}
def z0P (c:AV ty):Prop:=match c with | .lit v=>zb7 v=true | .agg _ | .tup _ | .dead=>False | _=>True
structure DT (ty:Nat->Type) (α:Type) where
 size:Nat
 dec:List (AV ty)->Option α
 enc:α->List (AV ty)
 len:∀ x,(enc x).length=size
 cell:∀ x c,c∈enc x->z0P c
 ok:∀ (cx:Cx ty) (F:Nat->Prop) (w:World) (us:List Value) (cs:List (AV ty)) (x:α),dec cs=some x->All2 (Rep cx F w) us cs->All2 (Rep cx F w) us (enc x)
def zsU (k:IntKind):DT ty Int where
 size:=1
 dec:=λcs=>match cs with | [.lit (.int k' n)]=>if k'=k then some n else none | _=>none
 enc:=λn=>[.lit (.int k n)]
 len:=λ_=>rfl
 cell:=λx c h=>by simp at h; subst h; rfl
 ok:=λcx F w us cs x h hr=>by
  split at h
  ·split at h
   ·rename_i hk; subst hk; simp only [qa] at h; subst h; exact hr
   ·cases h
  ·cases h
def z0F:DT ty Bool where
 size:=1
 dec:=λcs=>match cs with | [.lit (.bool n)]=>some n | _=>none
 enc:=λn=>[.lit (.bool n)]
 len:=λ_=>rfl
 cell:=λx c h=>by simp at h; subst h; rfl
 ok:=λcx F w us cs x h hr=>by
  split at h
  ·simp only [qa] at h; subst h; exact hr
  ·cases h
def zZo:DT ty ByteArray where
 size:=1
 dec:=λcs=>match cs with | [.lit (.string n)]=>some n | _=>none
 enc:=λn=>[.lit (.string n)]
 len:=λ_=>rfl
 cell:=λx c h=>by simp at h; subst h; rfl
 ok:=λcx F w us cs x h hr=>by
  split at h
  ·simp only [qa] at h; subst h; exact hr
  ·cases h
def z1r:DT ty Unit where
 size:=1
 dec:=λ_=>none
 enc:=λ_=>[.lit (.map none)]
 len:=λ_=>rfl
 cell:=λx c h=>by simp at h; subst h; rfl
 ok:=λcx F w us cs x h hr=>by cases h
def zvi (e:Nat):DT ty (List (ty e)) where
 size:=1
 dec:=λcs=>match cs with | [a]=>zSi e a | _=>none
 enc:=λl=>[.sl e l]
 len:=λ_=>rfl
 cell:=λx c h=>by simp at h; subst h; trivial
 ok:=λcx F w us cs x h hr=>by
  split at h
  ·obtain ⟨u,us,rfl,hu,hus⟩:=hr.inv;rw [hus.nil_left.1];exact .cons (zBY hu h) .nil
  ·cases h
def zqt {α β:Type} (a:DT ty α) (b:DT ty β):DT ty (α×β) where
 size:=a.size+b.size
 dec:=λcs=>match a.dec (cs.take a.size),b.dec (cs.drop a.size) with
  | some x,some y=>some (x,y)
  | _,_=>none
 enc:=λx=>a.enc x.1++b.enc x.2
 len:=λx=>by rw [qg,a.len,b.len]
 cell:=λx c h=>by
  rcases List.mem_append.1 h with h | h
  ·exact a.cell _ c h
  ·exact b.cell _ c h
 ok:=λcx F w us cs x h hr=>by
  split at h
  ·rename_i x1 y1 h1 h2;simp only [qa] at h; subst h;have e1:=a.ok cx F w _ _ x1 h1 (hr.take a.size);have e2:=b.ok cx F w _ _ y1 h2 (hr.drop a.size);have:=e1.append e2
   rwa [List.take_append_drop] at this
  ·cases h
def zJM {α β:Type} (f:α->β) (g:β->α) (hgf:∀ x,g (f x)=x) (a:DT ty α):DT ty β where
 size:=a.size
 dec:=λcs=>match a.dec cs with
  | some x=>some (f x)
  | none=>none
 enc:=λy=>a.enc (g y)
 len:=λy=>a.len _
 cell:=λy c h=>a.cell _ c h
 ok:=λcx F w us cs x h hr=>by
  split at h
  ·rename_i x1 h1;simp only [qa] at h; subst h;rw [hgf];exact a.ok cx F w us cs x1 h1 hr
  ·cases h
def z0n {α:Type}:DT ty α where
 size:=0
 dec:=λ_=>none
 enc:=λ_=>[]
 len:=λ_=>rfl
 cell:=λx c h=>by cases h
 ok:=λcx F w us cs x h hr=>by cases h
def zUJ:List ((T:Nat)×DT ty (ty T))->(T:Nat)->DT ty (ty T)
 | [],_=>z0n
 | ⟨T',d⟩::r,T=>if h:T'=T then h ▸ d else zUJ r T
theorem zUn:∀ (l:List ((T:Nat)×DT ty (ty T))) (tis:List (Nat×TInfo)),(l.map λp=>(p.1,p.2.size))=(tis.map λp=>(p.1,p.2.size))->∀ T,(zUJ l T).size=match tis.lookup T with | some i=>i.size | none=>0
 | [],[],_,T=>rfl
 | [],_::_,h,T=>by simp at h
 | _::_,[],h,T=>by simp at h
 | ⟨T',d⟩::r,(T2,i)::tis,h,T=>by
  simp only [List.map_cons,qj,qb] at h;obtain ⟨⟨rfl,hs⟩,hr⟩:=h;simp only [zUJ,List.lookup_cons];by_cases hT:T'=T
  ·subst hT;simp [hs]
  ·have:(T==T')=false:=by simp; exact λh=>hT h.symm
   rw [dif_neg hT,this];exact zUn r tis hr T
theorem zBb {α:Type}:∀ (l:List (Nat×α)) (T:Nat) (x:α),l.lookup T=some x->(T,x)∈l
 | [],T,x,h=>by simp at h
 | (T',y)::r,T,x,h=>by
  simp only [List.lookup_cons] at h;split at h
  ·rename_i hb;have:=beq_iff_eq.1 hb;simp only [qa] at h;subst this h;simp
  ·exact List.mem_cons_of_mem _ (zBb r T x h)
def zba:List TD->List Value->List Value->Option Bool
 | [],[],[]=>some true
 | .int k::ts,.int k1 a::us,.int k2 b::vs=>match zba ts us vs with
  | some r=>if k1=k/\k2=k then some (a==b&&r) else none
  | none=>none
 | .bool::ts,.bool a::us,.bool b::vs=>match zba ts us vs with
  | some r=>some (a==b&&r)
  | none=>none
 | .str::ts,.string a::us,.string b::vs=>match zba ts us vs with
  | some r=>some (a.toList==b.toList&&r)
  | none=>none
 | _,_,_=>none
def zRd (e:TypeDesc):Prop:=match e with | .struct _ | .array _ _=>False | _=>True
theorem zJZ (P:Program) (d:Nat) (xs ys:Array Value) (w:World):∀ (ts:List TD) (fs:List Field) (us vs:List Value) (i:Nat) (r:Bool),fs.length=ts.length->
  (∀ (j:Nat) f t,fs[j]? =some f->ts[j]? =some t->f.offset=i+j/\f.name≠ "_"/\∃ e,P.underlying f.type=some e/\zs5 P t e)->xs.toList.drop i=us->ys.toList.drop i=vs->zba ts us vs=some r->
  (Op.eqFields (d+1) xs ys fs).run P w=.ok r w
 | [],fs,us,vs,i,r,hl,hf,hu,hv,h=>by
  obtain rfl:fs=[]:=List.eq_nil_of_length_eq_zero hl;cases us <;>cases vs <;>simp [zba] at h
  subst h;simp [Op.eqFields]
 | t::ts,[],us,vs,i,r,hl,hf,hu,hv,h=>by simp at hl
 | t::ts,f::fs,us,vs,i,r,hl,hf,hu,hv,h=>by
  obtain ⟨h1,h2,e,h3,h4⟩:=hf 0 f t rfl rfl
  have hrest:∀ (u v:Value) (us' vs':List Value) (r':Bool),us=u::us'->vs=v::vs'->zba ts us' vs'=some r'->(Op.eqFields (d+1) xs ys fs).run P w=.ok r' w:=by
   intro u v us' vs' r' e1 e2 he;refine zJZ P d xs ys w ts fs us' vs' (i+1) r' (by simpa using hl) (λj f' t' hj ht=> ?_) ?_ ?_ he
   ·have:=hf (j+1) f' t' (by simpa using hj) (by simpa using ht)
    rw [show i+1+j=i+(j+1) by omega]; exact this
   ·rw [<- List.drop_drop,hu,e1]; rfl
   ·rw [<- List.drop_drop,hv,e2]; rfl
  have hget:∀ (zs:Array Value) (z:Value) (zs':List Value),zs.toList.drop i=z::zs'->zs[f.offset]? =some z:=λzs z zs' hz=>by
   rw [h1];have:(zs.toList.drop i)[0]? =some z:=by rw [hz]; rfl
   rw [List.getElem?_drop] at this
   simpa using this
  have hpart:∀ (zs:Array Value) (z:Value),zs[f.offset]? =some z->zRd e->(part f.type zs f.offset).run P w=.ok z w:=by
   intro zs z hz hno;have:(isAgg f.type).run P w=.ok false w:=by cases e <;>simp_all [isAgg,run_underlying h3,zRd]
   simp [part,this,hz]
  have step:∀ (u v:Value) (us' vs':List Value) (q r':Bool),us=u::us'->vs=v::vs'->zba ts us' vs'=some r'->(Op.equalIn (d+1) f.type u v).run P w=.ok q w->zRd e->
    (Op.eqFields (d+1) xs ys (f::fs)).run P w=.ok (q&&r') w:=by
   intro u v us' vs' q r' e1 e2 he hq hno;have p1:=hpart xs u (hget xs u us' (hu.trans e1)) hno;have p2:=hpart ys v (hget ys v vs' (hv.trans e2)) hno;have hr:=hrest u v us' vs' r' e1 e2 he;simp only [Op.eqFields,if_pos h2,Sem.run_bind,p1,p2,Result.andThen_ok,hq,Sem.run_ite];cases q
   ·simp
   ·simp [hr]
  cases t with
  | int k=>
   cases us with
   | nil=>simp [zba] at h
   | cons u us=>cases vs with
    | nil=>cases u <;>simp [zba] at h
    | cons v vs=>
     cases u <;>cases v <;>simp only [zba,reduceCtorEq] at h
     split at h
     ·rename_i r' he;split at h
      ·rename_i hk;obtain ⟨rfl,rfl⟩:=hk;simp only [qa] at h; subst h;simp only [zs5] at h4;subst h4;exact step _ _ us vs _ r' rfl rfl he (run_equalIn_int w d f.type _ _ _ _ h3) trivial
      ·cases h
     ·cases h
  | bool=>
   cases us with
   | nil=>simp [zba] at h
   | cons u us=>cases vs with
    | nil=>cases u <;>simp [zba] at h
    | cons v vs=>
     cases u <;>cases v <;>simp only [zba,reduceCtorEq] at h
     split at h
     ·rename_i r' he;simp only [qa] at h; subst h;simp only [zs5] at h4;subst h4;exact step _ _ us vs _ r' rfl rfl he (run_equalIn_bool' w d f.type _ _ h3) trivial
     ·cases h
  | str=>
   cases us with
   | nil=>simp [zba] at h
   | cons u us=>cases vs with
    | nil=>cases u <;>simp [zba] at h
    | cons v vs=>
     cases u <;>cases v <;>simp only [zba,reduceCtorEq] at h
     split at h
     ·rename_i r' he;simp only [qa] at h; subst h;simp only [zs5] at h4;subst h4;exact step _ _ us vs _ r' rfl rfl he (run_equalIn_string w d f.type _ _ h3) trivial
     ·cases h
  | slice _=>cases us <;>simp [zba] at h
  | struct _=>cases us <;>simp [zba] at h
  | iface=>cases us <;>simp [zba] at h
  | map _ _=>cases us <;>simp [zba] at h
  | other=>cases us <;>simp [zba] at h
theorem zOT:∀ (ts:List TD) (us:List Value) (b:Bool),zba ts us us=some b->b=true
 | [],us,b,h=>by
  cases us with
  | nil=>simp only [zba,qa] at h; exact h.symm
  | cons u us=>simp [zba] at h
 | t::ts,us,b,h=>by
  cases us with
  | nil=>cases t <;>simp [zba] at h
  | cons u us=>
   cases t <;>cases u <;>simp only [zba,reduceCtorEq] at h
   all_goals
    cases hr:zba ts us us with
    | none=>rw [hr] at h; cases h
    | some r=>
     have:=zOT ts us r hr;subst this;rw [hr] at h;simp at h
     first | exact h | exact h.2 | exact h.symm | exact h.2.symm
theorem zQB:∀ (ts:List TD) (us vs:List Value),zba ts us us=some true->zba ts vs vs=some true->zba ts us vs=some (zrT us vs)/\(zrT us vs=true->us=vs)/\∀ u∈us,∀ n,Instr.sameBits n u u=true
 | [],us,vs,hu,hv=>by
  cases us <;>cases vs <;>simp [zba] at hu hv ⊢
  simp [zrT]
 | t::ts,us,vs,hu,hv=>by
  have fin:∀ (u v:Value) (us' vs':List Value),us=u::us'->vs=v::vs'->zba ts us' us'=some true->zba ts vs' vs'=some true->(∀ r,zba ts us' vs'=some r->zba (t::ts) (u::us') (v::vs')=some (zET u v&&r))->
    (zET u v=true->u=v)->(∀ n,Instr.sameBits n u u=true)->zba (t::ts) us vs=some (zrT us vs)/\(zrT us vs=true->us=vs)/\∀ u∈us,∀ n,Instr.sameBits n u u=true:=by
   rintro u v us' vs' rfl rfl h1 h2 h3 h4 h5
   obtain ⟨i1,i2,i3⟩:=zQB ts us' vs' h1 h2;refine ⟨by rw [h3 _ i1]; rfl,λh=> ?_,λx hx=> ?_⟩
   ·simp only [zrT,qc] at h;rw [h4 h.1,i2 h.2]
   ·rcases qd.1 hx with rfl | hx
    ·exact h5
    ·exact i3 x hx
  cases t with
  | int k=>
   cases us with
   | nil=>simp [zba] at hu
   | cons u us=>cases vs with
    | nil=>simp [zba] at hv
    | cons v vs=>
     cases u <;>simp only [zba,reduceCtorEq] at hu
     cases v <;>simp only [zba,reduceCtorEq] at hv
     rename_i k1 a k2 b;split at hu
     ·rename_i r hr;split at hu
      ·rename_i hk;split at hv
       ·rename_i r2 hr2;split at hv
        ·rename_i hk2;obtain ⟨rfl,_⟩:=hk;obtain ⟨rfl,_⟩:=hk2;simp only [beq_self_eq_true,Bool.true_and,qa] at hu hv; subst hu hv;refine fin _ _ us vs rfl rfl hr hr2 (λr he=>by simp [zba,he,zET]) (λh=>by simp [zET] at h; rw [h]) (λn=>by cases n <;>simp [Instr.sameBits])
        ·cases hv
       ·cases hv
      ·cases hu
     ·cases hu
  | bool=>
   cases us with
   | nil=>simp [zba] at hu
   | cons u us=>cases vs with
    | nil=>simp [zba] at hv
    | cons v vs=>
     cases u <;>simp only [zba,reduceCtorEq] at hu
     cases v <;>simp only [zba,reduceCtorEq] at hv
     split at hu
     ·rename_i r hr;split at hv
      ·rename_i r2 hr2;simp only [beq_self_eq_true,Bool.true_and,qa] at hu hv; subst hu hv;refine fin _ _ us vs rfl rfl hr hr2 (λr he=>by simp [zba,he,zET]) (λh=>by simp [zET] at h; rw [h]) (λn=>by cases n <;>simp [Instr.sameBits])
      ·cases hv
     ·cases hu
  | str=>
   cases us with
   | nil=>simp [zba] at hu
   | cons u us=>cases vs with
    | nil=>simp [zba] at hv
    | cons v vs=>
     cases u <;>simp only [zba,reduceCtorEq] at hu
     cases v <;>simp only [zba,reduceCtorEq] at hv
     rename_i a b;split at hu
     ·rename_i r hr;split at hv
      ·rename_i r2 hr2;simp only [beq_self_eq_true,Bool.true_and,qa] at hu hv; subst hu hv;refine fin _ _ us vs rfl rfl hr hr2 (λr he=>by simp [zba,he,zET]) (λh=> ?_) (λn=> ?_)
       ·have h:(a.toList==b.toList)=true:=h;rw [beq_iff_eq] at h;rw [ByteArray.toList_eq,ByteArray.toList_eq] at h;have:a=b:=by cases a; cases b; congr 1; exact Array.toList_inj.1 h
        rw [this]
       ·have:(a==a)=true:=by
         obtain ⟨a⟩:=a;show (a==a)=true;simp
        cases n <;>simp only [Instr.sameBits,this]
      ·cases hv
     ·cases hu
  | slice _=>cases us <;>simp [zba] at hu
  | struct _=>cases us <;>simp [zba] at hu
  | iface=>cases us <;>simp [zba] at hu
  | map _ _=>cases us <;>simp [zba] at hu
  | other=>cases us <;>simp [zba] at hu
theorem zVG {t:TD} {ts:List TD} {u:Value} {us vs:List Value} {b:Bool} (h:zba (t::ts) (u::us) vs=some b):
  (∃ v vs' r,vs=v::vs'/\zba ts us vs'=some r)/\((∃ k a,t=.int k/\u=.int k a)\/(∃ a,t=.bool/\u=.bool a)\/∃ a,t=.str/\u=.string a):=by
 cases vs with
 | nil=>cases t <;>cases u <;>simp [zba] at h
 | cons v vs=>cases t with
  | int k=>
   cases u <;>cases v <;>simp only [zba,reduceCtorEq] at h
   split at h
   ·rename_i r hr;split at h
    ·rename_i hk;obtain ⟨rfl,_⟩:=hk;exact ⟨⟨_,_,_,rfl,hr⟩,.inl ⟨_,_,rfl,rfl⟩⟩
    ·cases h
   ·cases h
  | bool=>
   cases u <;>cases v <;>simp only [zba,reduceCtorEq] at h
   split at h
   ·rename_i r hr;exact ⟨⟨_,_,_,rfl,hr⟩,.inr (.inl ⟨_,rfl,rfl⟩)⟩
   ·cases h
  | str=>
   cases u <;>cases v <;>simp only [zba,reduceCtorEq] at h
   split at h
   ·rename_i r hr;exact ⟨⟨_,_,_,rfl,hr⟩,.inr (.inr ⟨_,rfl,rfl⟩)⟩
   ·cases h
  | slice _=>simp [zba] at h
  | struct _=>simp [zba] at h
  | iface=>simp [zba] at h
  | map _ _=>simp [zba] at h
  | other=>simp [zba] at h
theorem zR4 {P:Program} {T:Nat} {t:TD} {e:TypeDesc} (h3:P.underlying T=some e) (h4:zs5 P t e) {u:Value} (hl:(∃ k a,t=.int k/\u=.int k a)\/(∃ a,t=.bool/\u=.bool a)\/∃ a,t=.str/\u=.string a) (em:Bool) (n:Nat) (w:World):
  (Instr.checkKey em (n+1) T u).run P w=.ok () w/\zRd e:=by
 rcases hl with ⟨k,a,rfl,rfl⟩ | ⟨a,rfl,rfl⟩ | ⟨a,rfl,rfl⟩ <;>simp only [zs5] at h4 <;>subst h4 <;>exact ⟨by simp [Instr.checkKey,run_underlying h3],trivial⟩
theorem zUd {P:Program} (em:Bool) (n:Nat) (xs:Array Value) (w:World):∀ (ts:List TD) (fs:List Field) (us vs:List Value) (i:Nat) (r:Bool),fs.length=ts.length->
  (∀ (j:Nat) f t,fs[j]? =some f->ts[j]? =some t->f.offset=i+j/\f.name≠ "_"/\∃ e,P.underlying f.type=some e/\zs5 P t e)->xs.toList.drop i=us->zba ts us vs=some r->
  (forIn fs PUnit.unit λf _=>do
   if f.name≠ "_" then Instr.checkKey em (n+1) f.type (<- part f.type xs f.offset)
   pure (ForInStep.yield PUnit.unit):Sem PUnit).run P w=.ok () w
 | [],fs,us,vs,i,r,hl,hf,hu,h=>by
  obtain rfl:fs=[]:=List.eq_nil_of_length_eq_zero hl;rfl
 | t::ts,[],us,vs,i,r,hl,hf,hu,h=>by simp at hl
 | t::ts,f::fs,us,vs,i,r,hl,hf,hu,h=>by
  obtain ⟨h1,h2,e,h3,h4⟩:=hf 0 f t rfl rfl;cases us with
  | nil=>cases t <;>cases vs <;>simp [zba] at h
  | cons u us=>
   obtain ⟨⟨v,vs',r',rfl,he⟩,hl'⟩:=zVG h;obtain ⟨hck,hno⟩:=zR4 h3 h4 hl' em n w
   have hrest:=zUd em n xs w ts fs us vs' (i+1) r' (by simpa using hl) (λj f' t' hj ht=>by
    have:=hf (j+1) f' t' (by simpa using hj) (by simpa using ht)
    rw [show i+1+j=i+(j+1) by omega]; exact this) (by rw [<- List.drop_drop,hu]; rfl) he
   have hget:xs[f.offset]? =some u:=by
    rw [h1];have:(xs.toList.drop i)[0]? =some u:=by rw [hu]; rfl
    rw [List.getElem?_drop] at this
    simpa using this
   have hpart:(part f.type xs f.offset).run P w=.ok u w:=by
    have:(isAgg f.type).run P w=.ok false w:=by cases e <;>simp_all [isAgg,run_underlying h3,zRd]
    simp [part,this,hget]
   simp only [List.forIn_cons,ne_eq,if_pos h2,Sem.run_bind,hpart,hck,Result.andThen_ok,Sem.run_pure]
   simpa using hrest
theorem zQk {P:Program} {T:Nat} (fs:List Field) (ts:List TD) (ht:P.underlying T=some (.struct fs.toArray)) (hp:P.stoodInHeld T=false) (hg:P.eqGuardType P.depth T=false) (hlen:fs.length=ts.length)
  (hf:∀ (j:Nat) f t,fs[j]? =some f->ts[j]? =some t->f.offset=0+j/\f.name≠ "_"/\∃ e,P.underlying f.type=some e/\zs5 P t e) {us vs:List Value} {b:Bool} (h:zba ts us vs=some b) (w:World):
  zWo P T us vs b w:=by
 have hfo:P.fieldsOf T=fs.toArray:=by unfold Program.fieldsOf; rw [ht]
 have:(Op.equalIn (9999+1) T (.agg us.toArray) (.agg vs.toArray)).run P w=.ok b w:=by
  rw [run_equalIn_struct w 9999 T _ _ (by rw [hfo]; exact ht) hp,hfo]
  exact zJZ P 9998 us.toArray vs.toArray w ts fs us vs 0 b hlen hf (by simp) (by simp) h
 refine ⟨?_, ?_,λop x y=>run_eqGuard_agg w op T x y _ _ hg,this,λe n=> ?_,_,ht⟩
 ·rw [run_eql_struct,this]; rfl
 ·rw [run_neq_struct,this]; rfl
 ·have hk:=zUd (P:=P) e n us.toArray w ts fs us vs 0 b hlen hf (by simp) h
  rw [Instr.checkKey];simp only [Sem.run_bind,run_underlying ht,Result.andThen_ok];simp only [List.forIn_toArray];exact (congrArg (λz=>Result.andThen z λa w'=>Result.ok () w') (by simpa using hk)).trans rfl
end
end Go.Ab
/- What is read of an argument is typed data. -/
namespace Go.Ab
noncomputable section
variable {ty:Nat->Type}
section
variable {P:Program} {cx:Cx ty} {W:(T:Nat)->ty T->Prop}
def In (w:World) (b:Nat):Prop:=b<w.heap.size
def ztU (P:Program) (cx:Cx ty) (W:(T:Nat)->ty T->Prop) (T:Nat):Prop:=
 ∀ (H:Type) (en:TypeId×Value->H) (w:World) (sp:Nat->Bool) (held:Bool) (fuel:Nat) (cs:List Value) (y:DataW H×List MemPlace),DataW.trod en P w 0 sp held fuel T cs=some y->(DataW.weights P T y.1).all (· <=reachBytes)=true->
  ∃ x:ty T,All2 (Rep cx (In w) w) cs (cx.enc T x)/\W T x
def zoN (P:Program) (cx:Cx ty) (W:(T:Nat)->ty T->Prop) (m:Nat) (T:Nat):Prop:=
 ∀ (H:Type) (en:TypeId×Value->H) (w:World) (sp:Nat->Bool) (held:Bool) (fuel:Nat) (cs:List Value) (y:DataW H×List MemPlace),fuel<=m->DataW.trod en P w 0 sp held fuel T cs=some y->(DataW.weights P T y.1).all (· <=reachBytes)=true->
  ∃ x:ty T,All2 (Rep cx (In w) w) cs (cx.enc T x)/\W T x
theorem ztU.at {W:(T:Nat)->ty T->Prop} {T:Nat} (h:ztU P cx W T) (m:Nat):zoN P cx W m T:=λH en w sp held fuel cs y _=>h H en w sp held fuel cs y
theorem zXA {W:(T:Nat)->ty T->Prop} {T:Nat} (h:∀ m,zoN P cx W m T):ztU P cx W T:=λH en w sp held fuel cs y hy hz=>h fuel H en w sp held fuel cs y (Nat.le_refl _) hy hz
theorem zmo {W:(T:Nat)->ty T->Prop} {T:Nat}:zoN P cx W 0 T:=λH en w sp held fuel cs y hf h hz=>by
 obtain rfl:fuel=0:=by omega
 simp [DataW.trod] at h
def zby:Nat:=140737488351232
theorem zHQ {H:Type} {P:Program} {e:Nat}:∀ {l:List (DataW H)},(DataW.weightsAll P e l).all (· <=reachBytes)=true->∀ d∈l,(DataW.weights P e d).all (· <=reachBytes)=true
 | [],_,d,hd=>by cases hd
 | x::r,h,d,hd=>by
  simp only [DataW.weightsAll,List.all_append,qc] at h;rcases qd.1 hd with rfl | hd
  ·exact h.1
  ·exact zHQ h.2 d hd
theorem zFb {H:Type} {P:Program}:∀ {ts:List TypeId} {l:List (DataW H)},(DataW.weightsEach P ts l).all (· <=reachBytes)=true->∀ (i:Nat) (t:TypeId) (d:DataW H),ts[i]? =some t->l[i]? =some d->(DataW.weights P t d).all (· <=reachBytes)=true
 | [],_,_,i,t,d,ht,_=>by simp at ht
 | _::_,[],_,i,t,d,_,hd=>by simp at hd
 | t0::ts,d0::l,h,i,t,d,ht,hd=>by
  simp only [DataW.weightsEach,List.all_append,qc] at h;cases i with
  | zero=>simp only [List.getElem?_cons_zero,qa] at ht hd; subst ht hd; exact h.1
  | succ i=>exact zFb h.2 i t d (by simpa using ht) (by simpa using hd)
theorem zmB {H:Type} {P:Program} {T:Nat} {fs:Array Field} (hu:P.underlying T=some (.struct fs)) {y:DataW H×List MemPlace} {xs:List (DataW H×List MemPlace)} {ps:List MemPlace} (hy:y=(.agg (xs.map (·.1)),ps))
  (hz:(DataW.weights P T y.1).all (· <=reachBytes)=true):∀ (i:Nat) (f:Field),fs[i]? =some f->∀ x,xs[i]? =some x->(DataW.weights P f.type x.1).all (· <=reachBytes)=true:=by
 intro i f hf x hx;subst hy;simp only [DataW.weights,hu] at hz;exact zFb hz i f.type x.1 (by simp [hf]) (by simp [hx])
theorem zI5 {F:Nat->Prop} {w:World} {v:Value} {a:AV ty} (h:Rep cx F w v a):All2 (Rep cx F w) [v] [a]:=.cons h .nil
theorem zS6 {T:Nat} {k:IntKind} (hu:P.underlying T=some (.int k)) (mk:Int->ty T) (he:∀ n,cx.enc T (mk n)=[.lit (.int k n)]) (hW:∀ n,(Lit.int k n).wf=true->W T (mk n)):ztU P cx W T:=by
 intro H en w sp held fuel cs y h hz;obtain ⟨n,rfl,_,hw⟩:=DataW.trod_int hu h;exact ⟨mk n,by rw [he]; exact zI5 (.lit _),hW n hw⟩
theorem zXU {T:Nat} (hu:P.underlying T=some .string) (mk:ByteArray->ty T) (he:∀ n,cx.enc T (mk n)=[.lit (.string n)]) (hW:∀ n:ByteArray,n.size<=zby->W T (mk n)):ztU P cx W T:=by
 intro H en w sp held fuel cs y h hz;obtain ⟨n,rfl,hy,hw⟩:=DataW.trod_string hu h;refine ⟨mk n,by rw [he]; exact zI5 (.lit _),hW n ?_⟩
 rw [hy] at hz;simp only [DataW.weights,List.all_cons,List.all_nil,Bool.and_true,qe] at hz;rw [show reachBytes=zby by decide] at hz
 exact hz
theorem zJg {α:Type} {Q:Nat->α->Prop}:∀ (n:Nat),(∀ i,i<n->∃ x,Q i x)->∃ l:List α,l.length=n/\∀ (i:Nat) x,l[i]? =some x->Q i x
 | 0,_=>⟨[],rfl,λi x h=>by simp at h⟩
 | n+1,h=>by
  obtain ⟨l,hl,hQ⟩:=zJg n λi hi=>h i (by omega)
  obtain ⟨x,hx⟩:=h n (by omega)
  refine ⟨l++[x],by simp [hl],λi y hy=> ?_⟩
  rw [List.getElem?_append] at hy;split at hy
  ·exact hQ i y hy
  ·rename_i hi
   have:i=n:=by
    have:=(List.getElem?_eq_some_iff.1 hy).1;simp at this; omega
   subst this;simp [hl] at hy;subst hy; exact hx
theorem zVQ {b off k:Nat}:(⟨b,off,none⟩:Addr).add k=⟨b,off+k,none⟩:=zer b off k
theorem zw2 {m0:Nat} (hcx:CxOK P cx) {T e:Nat} (hu:P.underlying T=some (.slice e)) (hk:P.cellsOf e=zl cx e) (hpos:0<zl cx e) (mk:List (ty e)->ty T) (he:∀ l,cx.enc T (mk l)=[.sl e l]) (hb1:0<P.bytesOf e) (hr:zoN P cx W m0 e)
  (hW:∀ l:List (ty e),(∀ x∈l,W e x)->l.length<=zby->W T (mk l)):zoN P cx W (m0+1) T:=by
 intro H en w sp held fuel cs y hfu h hz;rcases DataW.trod_slice hu h with ⟨rfl,_⟩ | ⟨a,len,cap,elems,rest,n,rfl,rfl,hy,hb,hlc,hcm,hel,hat,_,_⟩
 ·exact ⟨mk [],by rw [he]; exact zI5 (.slE none 0 e λ_=>rfl),hW [] (by simp) (Nat.zero_le _)⟩
 ·-- the elements
  rw [hy] at hz;simp only [DataW.weights,hu,List.all_cons,List.all_append,qc,qe,List.length_map] at hz;obtain ⟨hz0,hz1,_⟩:=hz
  have hroom:len<=zby:=by
   have h1:elems.length+rest.length<=(elems.length+rest.length)*P.bytesOf e:=Nat.le_mul_of_pos_right _ hb1;have h2:reachBytes=zby:=by decide
   omega
  have each:∀ i,i<len->∃ x:ty e,(∃ us,w.cells? 0 (a.add (i*zl cx e)) (zl cx e)=some us/\All2 (Rep cx (In w) w) us (cx.enc e x))/\W e x:=by
   intro i hi;have:=hat i hi;rw [List.getElem?_eq_getElem (by omega),hk] at this
   cases hc:w.cells? 0 (a.add (i*zl cx e)) (zl cx e) with
   | none=>rw [hc] at this; cases this
   | some us=>
    rw [hc] at this;obtain ⟨x,hx,hw⟩:=hr H en w sp held n us _ (by omega) this (zHQ hz1 _ (List.mem_map.2 ⟨_,List.getElem_mem _,rfl⟩))
    exact ⟨x,⟨us,rfl,hx⟩,hw⟩
  obtain ⟨l,hl,hQ⟩:=zJg len each;refine ⟨mk l, ?_,hW l (λx hx=> ?_) (by omega)⟩
  ·rw [he];refine zI5 ?_;cases len with
   | zero=>
    obtain rfl:l=[]:=List.eq_nil_of_length_eq_zero hl;exact .slE (some a) cap e (by simp)
   | succ m=>
    -- the address has no spot
    obtain ⟨⟨us0,hc0,_⟩,_⟩:=hQ 0 _ (List.getElem?_eq_getElem (by omega))
    obtain ⟨_,hl0,hg0⟩:=World.cells?_some hc0;have h00:=hg0 0 hpos;have hne:∃ v,us0[0]? =some v:=⟨us0[0],List.getElem?_eq_getElem (by omega)⟩
    obtain ⟨v0,hv0⟩:=hne;rw [hv0] at h00;have hz:∀ b:Addr,b.add 0=b:=λb=>by unfold Addr.add; simp
    rw [Nat.zero_mul,hz,hz] at h00;obtain ⟨b,off,spot⟩:=a
    have hspot:spot=none:=by
     unfold World.cell? at h00;split at h00
     ·split at h00
      ·cases h00
      ·rename_i hs; simpa using hs
     ·cases h00
    subst hspot
    have hblk:b<w.heap.size:=by
     unfold World.cell? at h00;split at h00
     ·rename_i hh; exact (Array.getElem?_eq_some_iff.1 hh).1
     ·cases h00
    -- all cells
    have cell:∀ j,j<(m+1)*zl cx e->∃ u,w.cell? ⟨b,off+j,none⟩=some u/\∀ c,(zcc cx e l)[j]? =some c->Rep cx (In w) w u c:=by
     intro j hj;have hi:j / zl cx e<m+1:=(Nat.div_lt_iff_lt_mul hpos).2 hj;have hjm:j % zl cx e<zl cx e:=Nat.mod_lt _ hpos;obtain ⟨⟨us,hc,ha⟩,_⟩:=hQ (j / zl cx e) _ (List.getElem?_eq_getElem (by omega))
     obtain ⟨_,hlu,hgu⟩:=World.cells?_some hc;have hg:=hgu (j % zl cx e) hjm;rw [zVQ,zVQ,Nat.add_assoc,Nat.mul_comm,Nat.div_add_mod] at hg;refine ⟨us[j % zl cx e]'(by omega),by rw [hg]; exact List.getElem?_eq_getElem (by omega),λc hcj=> ?_⟩
     have e1:=zJO (cx.enc e) (zl cx e) (hcx.len e) l (j / zl cx e) (j % zl cx e) hjm;rw [Nat.mul_comm,Nat.div_add_mod] at e1;unfold zcc at hcj;rw [e1,List.getElem?_eq_getElem (by omega)] at hcj
     exact ha.at_ _ _ c (List.getElem?_eq_getElem (by omega)) hcj
    obtain ⟨us,hul,hus⟩:=zJg ((m+1)*zl cx e) cell;have hll:(zcc cx e l).length=(m+1)*zl cx e:=by rw [zJx hcx,hl]
    have:=Rep.sl (cx:=cx) (F:=In w) (w:=w) b off cap e l us hblk (by omega) (by rw [hul,hll]) (λj u hu=>(hus j u hu).1) (λj u c hu hc=>(hus j u hu).2 c hc)
    rw [hl] at this;exact this
  ·obtain ⟨i,hi⟩:=List.getElem?_of_mem hx;exact (hQ i x hi).2
theorem zuO {e off:Nat} (hr:ztU P cx W e) (hk:P.cellsOf e=zl cx e) {H:Type} {en:TypeId×Value->H} {w:World} {sp:Nat->Bool} {held:Bool} {n:Nat} {cs:List Value} {xs:List (DataW H×List MemPlace)} {fs:Array Field}
  (hlen:xs.length=fs.size) (hf:∀ (i:Nat) (f:Field),fs[i]? =some f->DataW.trod en P w 0 sp held n f.type ((cs.drop f.offset).take (P.cellsOf f.type))=xs[i]?) (hz:∀ (i:Nat) (f:Field),fs[i]? =some f->∀ x,xs[i]? =some x->(DataW.weights P f.type x.1).all (· <=reachBytes)=true) (i:Nat) (f:Field) (hi:fs[i]? =some f) (ht:f.type=e) (ho:f.offset=off):
  ∃ x:ty e,All2 (Rep cx (In w) w) ((cs.drop off).take (zl cx e)) (cx.enc e x)/\W e x:=by
 subst ht ho;have h:=hf i f hi;have hlt:i<xs.length:=by rw [hlen]; exact (Array.getElem?_eq_some_iff.1 hi).1
 rw [List.getElem?_eq_getElem hlt,hk] at h;exact hr H en w sp held n _ _ h (hz i f hi _ (List.getElem?_eq_getElem hlt))
theorem zep {m0:Nat} {e off:Nat} (hr:zoN P cx W m0 e) (hk:P.cellsOf e=zl cx e) {H:Type} {en:TypeId×Value->H} {w:World} {sp:Nat->Bool} {held:Bool} {n:Nat} (hn:n<=m0) {cs:List Value} {xs:List (DataW H×List MemPlace)} {fs:Array Field}
  (hlen:xs.length=fs.size) (hf:∀ (i:Nat) (f:Field),fs[i]? =some f->DataW.trod en P w 0 sp held n f.type ((cs.drop f.offset).take (P.cellsOf f.type))=xs[i]?) (hz:∀ (i:Nat) (f:Field),fs[i]? =some f->∀ x,xs[i]? =some x->(DataW.weights P f.type x.1).all (· <=reachBytes)=true) (i:Nat) (f:Field) (hi:fs[i]? =some f) (ht:f.type=e) (ho:f.offset=off):
  ∃ x:ty e,All2 (Rep cx (In w) w) ((cs.drop off).take (zl cx e)) (cx.enc e x)/\W e x:=by
 subst ht ho;have h:=hf i f hi;have hlt:i<xs.length:=by rw [hlen]; exact (Array.getElem?_eq_some_iff.1 hi).1
 rw [List.getElem?_eq_getElem hlt,hk] at h;exact hr H en w sp held n _ _ hn h (hz i f hi _ (List.getElem?_eq_getElem hlt))
theorem zhO {F:Nat->Prop} {w:World} {cs:List Value} {off k:Nat} {as bs:List (AV ty)} (h1:All2 (Rep cx F w) ((cs.drop off).take k) as) (h2:All2 (Rep cx F w) (cs.drop (off+k)) bs):All2 (Rep cx F w) (cs.drop off) (as++bs):=by
 have:=h1.append h2
 rwa [<- List.drop_drop,List.take_append_drop] at this
theorem zyn {F:Nat->Prop} {w:World} {cs:List Value} {off k:Nat} {as:List (AV ty)} (h1:All2 (Rep cx F w) ((cs.drop off).take k) as) (hl:cs.length=off+k):All2 (Rep cx F w) (cs.drop off) as:=by
 rwa [List.take_of_length_le (by simp; omega)] at h1
theorem zW4 {dr:Bool} {w w':World} (h:Kept dr (zkl []) w w'):Go.RowKit.Below w.heap.size w w':=
 ⟨h.os,h.tape,h.output,h.size,λk hk=>h.keep k hk λ⟨v,hv,_⟩=>by cases hv⟩
theorem zYe {f:Nat} {s:Spec ty} (hs:Sound P cx f s) {as:List (Arg ty)} (hsp:s as=some (true,⟨[.pure (.lit (.bool true))],[]⟩)) {w:World} {vs:List Value} (hown:zbc vs as=[]) (hg:GOK cx w (zkl [])) (ha:All2 (zim cx (In w) w) vs as):
  Calls P f vs.toArray w λe w'=>e=.returned (.bool true)/\Go.RowKit.Below w.heap.size w w':=by
 refine (hs.calls as _ hsp w (In w) vs (λb hb=>hb) ha (by rw [hown]; exact ⟨λi j u v b h=>by simp at h,hg⟩)).mono λe w' ⟨v,he,hp⟩=> ?_
 obtain ⟨F',rs,hv,hk,_,_,hr,_⟩:=hp.ok;rw [hown] at hk;obtain ⟨u,us,rfl,hu,hus⟩:=hr.inv;obtain rfl:=hus.nil_left.1;have hu:Rep cx F' w' u (.lit (.bool true)):=hu;cases hu;exact ⟨by rw [he,hv]; rfl,zW4 hk⟩
open Go.RowKit in
theorem zKf {H:Type} {en:TypeId×Value->H} (hl:laidOutB P=true) {w w':World} (hb:Below w.heap.size w w'):∀ (ts:List TypeId) (vs:List Value) (ds:List (DataW H)) (ps:List MemPlace),(∀ t∈ts,P.readableRec t=true/\t<P.types.size)->
  (∀ x∈ps,x.block<w.heap.size)->DataW.TrodAll en P w 0 (λ_=>true) true ts vs ds ps->DataW.TrodAll en P w' 0 (λb=>decide (b<w.heap.size)) true ts vs ds ps
 | [],[],[],ps,_,_,h=>h
 | t::ts,v::vs,d::ds,ps,hr,hlt,h=>by
  obtain ⟨p,q,h1,h2,rfl⟩:=h;refine ⟨p,q,Below.trod hl (hr t (by simp)).1 (hr t (by simp)).2 h1 hb (λx hx=>hlt x (by simp [hx])),zKf hl hb ts vs ds q (λt ht=>hr t (by simp [ht])) (λx hx=>hlt x (by simp [hx])) h2,rfl⟩
 | [],[],_::_,_,_,_,h=>h.elim
 | [],_::_,[],_,_,_,h=>h.elim
 | [],_::_,_::_,_,_,_,h=>h.elim
 | _::_,[],[],_,_,_,h=>h.elim
 | _::_,[],_::_,_,_,_,h=>h.elim
 | _::_,_::_,[],_,_,_,h=>h.elim
open Go.RowKit Go.ChangeShapes Go.WideShapes in
theorem zYD {H:Type} {en:TypeId×Value->H} {fn:Func} {s:ChangeSpec} {w w':World} {args:Array Value} {ds gs:List (DataW H)} {before:List MemPlace} {B:Nat} {fresh handsOn:Bool} (hl:laidOutB P=true) (hr:∀ t∈fn.params.toList,P.readableRec t=true/\t<P.types.size)
  (hv:s.vars=[]) (hres:fn.resultTypes=#[B]) (hB:P.underlying B=some .bool) (hfn:s.fn H ds={ results:=[.lit (.bool true)],args:=ds }) (hW:DataW.Whole en P fn.params.toList s.vars false w args.toList ds gs before) (hb:Below w.heap.size w w'):
  s.post en P fn false fresh handsOn false w args (.bool true) w':=by
 have hW0:=hW;have hlt:=hW.lt;obtain ⟨p,q,hA,hV,rfl,_,_⟩:=hW;rw [hv] at hV;obtain ⟨rfl,rfl⟩:=trodVars_none hV;refine ⟨ds,[],p++[],[],p,[],hW0, ?_, ?_, ?_,hb.frame _,λh=>by cases h⟩
 ·rw [List.append_nil,hfn,hres];exact trodAll_mk1 (shut_bool hB true)
 ·rw [List.append_nil,hfn];exact zKf hl hb _ _ _ _ hr (λx hx=>hlt x (by simp [hx])) hA
 ·rw [List.append_nil,hfn,hv]; rfl
end
end
end Go.Ab
/- From the contract of a law's function, and its plain law, to the law's row. -/
namespace Go.Ab
noncomputable section
open Go.ChangeShapes Go.WideShapes Go.RowKit
variable {ty:Nat->Type}
section
variable {P:Program} {cx:Cx ty} {W:(T:Nat)->ty T->Prop}
def zWs (P:Program) (w:World) (ts:List TypeId) (vs:List Value):Prop:=∀ (j:Nat) t v,ts[j]? =some t->vs[j]? =some v->∃ base,Value.okWide P w .any base t v
def z0C (P:Program) (cx:Cx ty) (T:Nat) (mk:ty T->AV ty):Prop:=
 ∀ (w:World) (base:Nat) (v:Value) (x:ty T),Value.okWide P w .any base T v->All2 (Rep cx (In w) w) v.cells.toList (cx.enc T x)->Rep cx (In w) w v (mk x)
theorem zXw {T:Nat} {d:TypeDesc} (hu:P.underlying T=some d) (hd:match d with | .int _ | .bool | .string | .slice _=>True | _=>False) (mk:ty T->AV ty) (he:∀ x,cx.enc T x=[mk x]):z0C P cx T mk:=by
 intro w base v x hv ha;rw [he] at ha
 have hc:v.cells.toList=[v]:=by
  unfold Value.okWide at hv;rw [hu] at hv;cases v with
  | agg cs=>
   exfalso;cases d <;>simp_all [Cell.okWide,Cell.ok]
  | _=>rfl
 rw [hc] at ha;obtain ⟨u,us,h,hu,_⟩:=ha.inv;simp only [qj] at h;rw [h.1]; exact hu
theorem zYC {H:Type} {en:TypeId×Value->H} {w:World} {T:Nat} {ts:List TypeId} {vs:List Value} {ds:List (DataW H)} {ps:List MemPlace} (hr:ztU P cx W T) {mk:ty T->AV ty} (hm:z0C P cx T mk)
  (hv:zWs P w (T::ts) vs) (h:DataW.TrodAll en P w 0 (λ_=>true) true (T::ts) vs ds ps) (hz:(DataW.weightsEach P (T::ts) ds).all (· <=reachBytes)=true):
  ∃ v vs' ds' ps' x,vs=v::vs'/\Rep cx (In w) w v (mk x)/\W T x/\zWs P w ts vs'/\DataW.TrodAll en P w 0 (λ_=>true) true ts vs' ds' ps'/\(DataW.weightsEach P ts ds').all (· <=reachBytes)=true:=by
 cases vs with
 | nil=>cases ds <;>exact h.elim
 | cons v vs=>
  cases ds with
  | nil=>exact h.elim
  | cons d ds=>
   obtain ⟨p,q,⟨fuel,hf⟩,h2,_⟩:=h;simp only [DataW.weightsEach,List.all_append,qc] at hz;obtain ⟨x,hx,hw⟩:=hr H en w _ _ fuel _ _ hf hz.1;obtain ⟨base,hok⟩:=hv 0 T v rfl rfl;exact ⟨v,vs,ds,q,x,rfl,hm w base v x hok hx,hw,λj t u h1 h2=>hv (j+1) t u (by simpa using h1) (by simpa using h2),h2,hz.2⟩
theorem zZE {H:Type} {en:TypeId×Value->H} {w:World} {vs:List Value} {ds:List (DataW H)} {ps:List MemPlace} (h:DataW.TrodAll en P w 0 (λ_=>true) true [] vs ds ps):vs=[]:=by
 cases vs with
 | nil=>rfl
 | cons v vs=>cases ds <;>exact h.elim
theorem zGn {H:Type} {en:TypeId×Value->H} {w:World}:∀ {ts:List TypeId} {vs:List Value} {ds:List (DataW H)} {ps:List MemPlace},DataW.TrodAll en P w 0 (λ_=>true) true ts vs ds ps->ds.length=ts.length
 | [],[],[],_,_=>rfl
 | t::ts,v::vs,d::ds,_,h=>by
  obtain ⟨p,q,_,h2,_⟩:=h;simp [zGn h2]
 | [],[],_::_,_,h=>h.elim
 | [],_::_,[],_,h=>h.elim
 | [],_::_,_::_,_,h=>h.elim
 | _::_,[],[],_,h=>h.elim
 | _::_,[],_::_,_,h=>h.elim
 | _::_,_::_,[],_,h=>h.elim
end
theorem zDg {H:Type} {P:Program}:∀ {ts us:List TypeId} {ds gs:List (DataW H)},ds.length=ts.length->(DataW.weightsEach P (ts++us) (ds++gs)).all (· <=reachBytes)=true->(DataW.weightsEach P ts ds).all (· <=reachBytes)=true
 | [],us,[],gs,_,_=>rfl
 | t::ts,us,[],gs,h,_=>by simp at h
 | [],us,d::ds,gs,h,_=>by simp at h
 | t::ts,us,d::ds,gs,h,hz=>by
  simp only [List.cons_append,DataW.weightsEach,List.all_append,qc] at hz ⊢;exact ⟨hz.1,zDg (by simpa using h) hz.2⟩
theorem zWh {C:Checked} {cx:Cx ty} {os:Os} {f:FuncId} {fn:Func} {s:ChangeSpec} {laid:List (String×DataW Unit)} {H:Type} {enc:TypeId×Value->H} {fresh handsOn:Bool} (own:ownKnob C.prog.godebug=none) (started:os.Started) (noInit:C.prog.inits.idxOf? f=none)
  (hfn:C.prog.funcs[f]? =some fn)
  (wit:∃ (w:World) (tape:Tape) (i:Input),w.os=os/\(w.forCall tape i).Shaped C.prog/\i.vars=[]/\Input.okWide C.prog (w.forCall tape i) .any w.heap.size f i/\
   ((s.pre enc C.prog fn [] false (w.forCall tape i).memory i.args/\laidMetH C.prog laid (w.forCall tape i).memory)/\sizedMet enc C.prog fn (OpenSpec.ofChange s) false (w.forCall tape i).memory i.args)/\({}:Assume).holds C.prog (lone (Frame.enter C.prog f i.args .normal) [] (w.forCall tape i)))
  (hl:laidOutB C.prog=true) (hr:∀ t∈fn.params.toList,C.prog.readableRec t=true/\t<C.prog.types.size) (hv:s.vars=[]) {B:Nat} (hres:fn.resultTypes=#[B]) (hB:C.prog.underlying B=some .bool)
  (hspec:∀ ds:List (DataW H),ds.length=fn.params.size->s.fn H ds={ results:=[.lit (.bool true)],args:=ds }) {sp:Spec ty} (hs:Sound C.prog cx f sp) (hinv:∀ w,w.ShapedOpen C.prog->laidMetH C.prog laid w->cx.inv w/\cx.ng<=w.heap.size)
  (hargs:∀ (w:World) (vs:List Value) (ds:List (DataW H)) (ps:List MemPlace),zWs C.prog w fn.params.toList vs->DataW.TrodAll enc C.prog w 0 (λ_=>true) true fn.params.toList vs ds ps->(DataW.weightsEach C.prog fn.params.toList ds).all (· <=reachBytes)=true->
   ∃ avs,sp avs=some (true,⟨[.pure (.lit (.bool true))],[]⟩)/\zbc vs avs=[]/\All2 (zim cx (In w) w) vs avs):
  ReturnsInHanded {} C os f .any (λw args=>(s.pre enc C.prog fn [] false w args/\laidMetH C.prog laid w)/\sizedMet enc C.prog fn (OpenSpec.ofChange s) false w args) (s.post enc C.prog fn false fresh handsOn false):=by
 refine returnsInHanded_of_calls own started noInit wit ?_;intro w tape i _ hsh _ hok hpre _;obtain ⟨_,_,_,fn',hfn',_,_,_,_,hval⟩:=hok;have e:fn'=fn:=Option.some.inj (hfn'.symm.trans hfn);subst e;obtain ⟨⟨⟨ds,gs,before,hW,hc⟩,hL⟩,hz⟩:=hpre;have hz':=hz.weights hW;have hW:=DataW.Whole.of_heap (w':=w.forCall tape i) (by rfl) hW
 have hL:laidMetH C.prog laid (w.forCall tape i):=hL.of_heap (by rfl)
 generalize hWe:w.forCall tape i=W at hsh hval hW hL;generalize i.args=args at hval hW
 suffices h:Calls C.prog f args W λe W'=>∃ v,e=.returned v/\s.post enc C.prog fn' false fresh handsOn false W args v W' by
  refine h.mono λe W' ⟨v,he,hp⟩=> ?_
  subst he;exact ChangeSpec.post_blind hp
 have hW0:=hW;obtain ⟨p,q,hA,_,_,_,_⟩:=hW;obtain ⟨avs,hsp,hown,ha⟩:=hargs W args.toList ds p (λj t v h1 h2=>⟨_,hval j t v (by simpa using h1) (by simpa using h2)⟩) hA (zDg (zGn hA) hz')
 obtain ⟨hi,hn⟩:=hinv W hsh hL;have hc:=zYe hs hsp hown ⟨hi,λb ⟨v,hv,_⟩=>absurd hv (by simp),hn⟩ ha
 have hc':Calls C.prog f args W λe w'=>e=.returned (.bool true)/\Below W.heap.size W w':=by simpa using hc
 refine hc'.mono λe w' ⟨he,hb⟩=>⟨_,he, ?_⟩
 exact zYD hl hr hv hres hB (hspec ds (by rw [zGn hA]; simp)) hW0 hb
end
end Go.Ab
/- Ways: what a function does, or one round of a loop, as data; and what follows from it: contracts. -/
namespace Go.Ab
noncomputable section
variable {ty:Nat->Type}
inductive Wy (α β ρ:Type):Type where
 | h (x:α) (y:β)
 | k (r:ρ)
 | d
 | i (c:Bool) (a b:Wy α β ρ)
section
variable {α β ρ:Type}
noncomputable def Wy.ev {R:Type} (H:α->β->R) (K:ρ->R) (D:R) (w:Wy α β ρ):R:=
 Wy.rec (motive:=λ_=>R) H K D (λc _ _ a b=>bif c then a else b) w
def Wy.bn {A:Type} (p:Bool×A) (k:A->Wy α β ρ):Wy α β ρ:=.i p.1 (k p.2) .d
theorem Wy.ev_app {R S:Type} (f:S->R) (H:α->β->S) (K:ρ->S) (D:S):∀ w:Wy α β ρ,f (w.ev H K D)=w.ev (λx y=>f (H x y)) (λr=>f (K r)) (f D)
 | .h _ _=>rfl
 | .k _=>rfl
 | .d=>rfl
 | .i c a b=>by
  have ha:=Wy.ev_app f H K D a;have hb:=Wy.ev_app f H K D b;cases c with
  | true=>exact ha
  | false=>exact hb
def Wy.ix {α β ρ:Type} (i:Int) (n:Nat) (w:Wy α β ρ):Wy α β ρ:=.i (decide ((0:Int)<=i)&&decide (i<Int.ofNat n)) w .d
noncomputable def zN (W:α->β->Wy α β ρ) (z:ρ):Nat->α->β->Bool×ρ
 | 0=>λ_ _=>(false,z)
 | n+1=>λx y=>(W x y).ev (zN W z n) (λr=>(true,r)) (false,z)
noncomputable def spW (V:LL ty α) (B:BL ty β) (W:α->β->Wy α β ρ) (z:ρ) (tr:ρ->LTree ty) (m:α->β->Nat):ztQ ty:=
 zQx V B λx y=>((zN W z (m x y) x y).1,tr (zN W z (m x y) x y).2)
theorem zD {cx:Cx ty} {c:Code} {id:Nat} {V:LL ty α} {B:BL ty β} {W:α->β->Wy α β ρ} {z:ρ} {tr:ρ->LTree ty} {m:α->β->Nat}
  (hid:zbT c=id:=by kernel_rfl) (hl:cx.loops id=some (spW V B W z tr m):=by kernel_rfl)
  (hr:∀ (R:Type) (H:List (AV ty)->List (Blk ty)->Option R) (K:Ex->List (AV ty)->List (Blk ty)->Option R) (x:α) (y:β),zxa (R:=R) cx c H K (V.enc x) (B.enc y)=(W x y).ev (λx y=>H (V.enc x) (B.enc y)) (λr=>zsN K (tr r)) none:=by intro _ _ _ _ _; kernel_rfl):zR cx c:=
 zYb hid hl (zXq λR K n=>by
  induction n with
  | zero=>intro x y; rfl
  | succ n ih=>
   intro x y;show zxa cx c (zIx cx c K n) K (V.enc x) (B.enc y)=_;rw [hr];have e:(λx y=>zIx cx c K n (V.enc x) (B.enc y))=λx y=>out (λr=>zsN K (tr r)) (zN W z n x y):=by funext x y; exact ih x y
   rw [e];exact (Wy.ev_app (out λr=>zsN K (tr r)) (zN W z n) (λr=>(true,r)) (false,z) (W x y)).symm)
theorem zP1 {cx:Cx ty} {c:Code} {id:Nat} {V:LL ty α} {B:BL ty β} {W:α->β->Wy α β ρ} {z:ρ} {tr:ρ->LTree ty} {m:α->β->Nat}
  (hid:zbT c=id:=by kernel_rfl) (hl:cx.joins id=some (spW V B W z tr m):=by kernel_rfl) (hm:∀ x y,m x y=1:=by intro _ _; rfl)
  (hr:∀ (R:Type) (H:List (AV ty)->List (Blk ty)->Option R) (K:Ex->List (AV ty)->List (Blk ty)->Option R) (x:α) (y:β),zxa (R:=R) cx c H K (V.enc x) (B.enc y)=(W x y).ev (λx y=>H (V.enc x) (B.enc y)) (λr=>zsN K (tr r)) none:=by intro _ _ _ _ _; kernel_rfl):zHB cx c:=by
 intro sp hs vals bs t h R K;rw [hid,hl] at hs;obtain rfl:=Option.some.inj hs;unfold spW zQx at h;split at h
 case h_2=>cases h
 rename_i x hx;split at h
 case h_2=>cases h
 rename_i y hy;simp only [hm,qa,qb] at h;have h1:=h;rw [V.ok _ _ hx,B.ok _ _ hy,hr, <- h1.2]
 have key:∀ w:Wy α β ρ,(w.ev (zN W z 0) (λr=>(true,r)) (false,z)).1=true->w.ev (λ_ _=>(none:Option R)) (λr=>zsN K (tr r)) none=zsN K (tr (w.ev (zN W z 0) (λr=>(true,r)) (false,z)).2):=by
  intro w;induction w with
  | h x y=>intro h; cases h
  | k r=>intro _; rfl
  | d=>intro h; cases h
  | i c a b iha ihb=>cases c with
   | true=>exact iha
   | false=>exact ihb
 exact key _ h1.1
abbrev Wy0 (ρ:Type):=Wy Empty Empty ρ
def noH {R:Type}:Empty->Empty->R:=λx _=>nomatch x
noncomputable def Wy.fin (w:Wy0 ρ) (z:ρ):Bool×ρ:=w.ev noH (λr=>(true,r)) (false,z)
theorem Wy.fin_k (r z:ρ):(Wy.k r:Wy0 ρ).fin z=(true,r):=rfl
theorem Wy.fin_d (z:ρ):(Wy.d:Wy0 ρ).fin z=(false,z):=rfl
theorem Wy.fin_i (c:Bool) (a b:Wy0 ρ) (z:ρ):(Wy.i c a b).fin z=bif c then a.fin z else b.fin z:=rfl
theorem Wy.fin_bn {A:Type} (p:Bool×A) (k:A->Wy0 ρ) (z:ρ):(Wy.bn p k).fin z=bif p.1 then (k p.2).fin z else (false,z):=rfl
theorem Wy.ev_k {R:Type} (H:α->β->R) (K:ρ->R) (D:R) (r:ρ):(Wy.k r).ev H K D=K r:=rfl
theorem Wy.ev_h {R:Type} (H:α->β->R) (K:ρ->R) (D:R) (x:α) (y:β):(Wy.h x y).ev H K D=H x y:=rfl
theorem Wy.ev_d {R:Type} (H:α->β->R) (K:ρ->R) (D:R):(Wy.d).ev H K D=D:=rfl
theorem Wy.ev_i {R:Type} (H:α->β->R) (K:ρ->R) (D:R) (c:Bool) (a b:Wy α β ρ):(Wy.i c a b).ev H K D=bif c then a.ev H K D else b.ev H K D:=rfl
theorem Wy.ev_bn {R A:Type} (H:α->β->R) (K:ρ->R) (D:R) (p:Bool×A) (k:A->Wy α β ρ):(Wy.bn p k).ev H K D=bif p.1 then (k p.2).ev H K D else D:=rfl
end
def zcC (cx:Cx ty) (nt:Nat) (sp:List (Nat×Spec ty)) (io:List (Nat×List Bool)) (hd:List (Nat×List (Nat×LMode))) (ot:List (Nat×Nat×List (Nat×LMode))) (lps:List (Nat×ztQ ty)) (raw:List Nat):Cx ty:=
 { cx with nt:=nt,spec:=λg=>List.lookup g sp,io:=λg=>(List.lookup g io).getD [],head:=λi=>(List.lookup i hd).getD [],out:=zZj ot,loops:=λi=>List.lookup i lps,raw:=λg=>raw.contains g }
section
variable {cx:Cx ty} {nt:Nat} {sp:List (Nat×Spec ty)} {io:List (Nat×List Bool)} {hd:List (Nat×List (Nat×LMode))} {ot:List (Nat×Nat×List (Nat×LMode))} {lps:List (Nat×ztQ ty)} {raw:List Nat}
def zXh (cx:Cx ty) (nt:Nat) (sp:List (Nat×Spec ty)) (io:List (Nat×List Bool)) (hd:List (Nat×List (Nat×LMode))) (ot:List (Nat×Nat×List (Nat×LMode))) (lps:List (Nat×ztQ ty)) (raw:List Nat) (js:List (Nat×ztQ ty)):Cx ty:=
 { zcC cx nt sp io hd ot lps raw with joins:=λi=>List.lookup i js }
theorem zG5:cx.Same (zcC cx nt sp io hd ot lps raw):=⟨⟨rfl,rfl,rfl,rfl,rfl,rfl⟩,rfl⟩
theorem zn {P:Program} (h:All (λp=>Sound P cx p.1 p.2) sp):∀ g s,(zcC cx nt sp io hd ot lps raw).spec g=some s->Sound P cx g s:=zVS sp h
end
theorem zZC {cx:Cx ty} {nt:Nat} {sp:List (Nat×Spec ty)} {io:List (Nat×List Bool)} {hd:List (Nat×List (Nat×LMode))} {ot:List (Nat×Nat×List (Nat×LMode))} {lps:List (Nat×ztQ ty)} {raw:List Nat} {js:List (Nat×ztQ ty)}:cx.Same (zXh cx nt sp io hd ot lps raw js):=⟨⟨rfl,rfl,rfl,rfl,rfl,rfl⟩,rfl⟩
theorem zYr {P:Program} {cx:Cx ty} {nt:Nat} {sp:List (Nat×Spec ty)} {io:List (Nat×List Bool)} {hd:List (Nat×List (Nat×LMode))} {ot:List (Nat×Nat×List (Nat×LMode))} {lps:List (Nat×ztQ ty)} {raw:List Nat} {js:List (Nat×ztQ ty)} (h:All (λp=>Sound P cx p.1 p.2) sp):∀ g s,(zXh cx nt sp io hd ot lps raw js).spec g=some s->Sound P cx g s:=zVS sp h
theorem zSd {P:Program} {cx cx':Cx ty} {α ρ:Type} (hm:P.follows .mixedOrders=true) (hcx:CxOK P cx) (hsame:cx.Same cx') (hspec:∀ g s,cx'.spec g=some s->Sound P cx g s)
  {f:Nat} {fn:Func} {c:Code} (hent:∀ args w,(callFunc f args).run P w=.ok (.enter f args) w) (hf:P.funcs[f]? =some fn) (hb:fn.body=some c) (hl:zfn cx' c) {sg:Sig} {A:AL cx α} {res:ρ->ARes ty} {W:α->Wy0 ρ} {z:ρ}
  (hrun:∀ x,ze0 cx' fn c sg (A.enc x)=(W x).ev noH (λr=>some (res r)) none:=by intro _; kernel_rfl)
  (hchk:∀ x,(Nat.ble (A.enc x).length fn.ntmps&&zDh c (A.enc x) sg.upd)=true:=by intro _; kernel_rfl):
  Sound P cx f (zi A λx=>(((W x).fin z).1,res ((W x).fin z).2)):=
 zUE hm hcx hsame hspec hent hf hb hl (F:=λx=>(W x).fin z) (λx=>(hrun x).trans (by
  have:=Wy.ev_app (out λr=>some (res r)) noH (λr=>(true,r)) (false,z) (W x)
  have e:(λ(x:Empty) (y:Empty)=>out (λr=>some (res r)) (noH x y:Bool×ρ))=noH:=by funext x; exact nomatch x
  rw [e] at this;exact this.symm)) hchk
end
section
variable {ty:Nat->Type}
def kpL (l:List Nat):List (Nat×LMode):=l.map λt=>(t,.keep)
noncomputable abbrev zbR (b:Cx ty) (n:Nat) (l:List (Nat×Spec ty)):Cx ty:=zcC b n l [] [] [] [] []
noncomputable def zm:LD ty Int:=zA .i64
noncomputable def zlk {cx:Cx ty}:VD cx Int:=zgr .i64
theorem aN {α:Type} {Q:α->Prop}:All Q []:=trivial
theorem aC {α:Type} {Q:α->Prop} {x:α} {r:List α} (h:Q x) (g:All Q r):All Q (x::r):=⟨h,g⟩
theorem lOK {cx:Cx ty} {c:Code} {l:List Code} (ha:All (zR cx) l) (h:zf3 c=l:=by kernel_rfl) (hj:∀ i,cx.joins i=none:=by intro _; rfl):zfn cx c:=zoE h ha hj
theorem sW {P:Program} {cx cx':Cx ty} {α ρ:Type} (hm:P.follows .mixedOrders=true) (hcx:CxOK P cx) (hsame:cx.Same cx') (hspec:∀ g s,cx'.spec g=some s->Sound P cx g s)
  {f:Nat} {fn:Func} {c:Code} (hent:∀ args w,(callFunc f args).run P w=.ok (.enter f args) w) (hf:P.funcs[f]? =some fn) (hl:zfn cx' c) (sg:Sig:=⟨[.pure],[]⟩) {A:AL cx α} {res:ρ->ARes ty} {W:α->Wy0 ρ} {z:ρ}
  (hb:fn.body=some c:=by kernel_rfl)
  (hrun:∀ x,ze0 cx' fn c sg (A.enc x)=(W x).ev noH (λr=>some (res r)) none:=by intro _; kernel_rfl)
  (hchk:∀ x,(Nat.ble (A.enc x).length fn.ntmps&&zDh c (A.enc x) sg.upd)=true:=by intro _; kernel_rfl):
  Sound P cx f (zi A λx=>(((W x).fin z).1,res ((W x).fin z).2)):=zSd hm hcx hsame hspec hent hf hb hl hrun hchk
end
end Go.Ab
/- A function that is handed a box of one cell with a row of its own, against its contract. -/
namespace Go.Ab
noncomputable section
variable {ty:Nat->Type}
def zwT (g:Option Nat) (id:Nat):AV ty:=match g with
 | none=>.ptr id 0
 | some g=>.fn g [.ptr id 0]
def zhY (nt:Nat) (as:List (AV ty)) (g:Option Nat) (T:Nat) (l:List (ty T)):St ty:=
 { tmps:=(as++[zwT g (4*nt)])++List.replicate (nt - (as++[(zwT g (4*nt):AV ty)]).length) (.lit undef),blks:=List.replicate (4*nt) .none++[.box [.own (4*nt+1)] false,.arr T l false] }
def zSp (T t:Nat) (st:St ty):Option (List (ty T)):=
 match zNz (st.get t) with
 | some (_,id)=>match zot st T id with
  | some (_,l)=>some l
  | none=>none
 | none=>none
def zT9 (cx:Cx ty) (fn:Func) (c:Code) (g:Option Nat) (as:List (AV ty)) (T:Nat) (l:List (ty T)):Option (List (ty T)):=
 zpQ cx c (zhY fn.ntmps as g T l) λex st=>match ex with
  | .exit _=>none
  | _=>zSp T as.length st
theorem zVB {g g':Option Nat} {b b':Nat} (h:zfT g b=zfT g' b'):b=b':=by
 cases g <;>cases g' <;>simp [zfT] at h <;>first | exact h | exact h.2
section
variable {P:Program} {cx:Cx ty} {w:World}
theorem zW6 (nt:Nat) (as:List (AV ty)) (g:Option Nat) (T:Nat) (l:List (ty T)) (j:Nat):(zhY nt as g T l).blk j=if j=4*nt then .box [.own (4*nt+1)] false else if j=4*nt+1 then .arr T l false else .none:=by
 show gD Blk.none (List.replicate (4*nt) Blk.none++[.box [.own (4*nt+1)] false,.arr T l false]) j=_;rw [zfF,List.getD_eq_getElem?_getD];rcases Nat.lt_or_ge j (4*nt) with h | h
 ·rw [List.getElem?_append_left (by simpa using h),List.getElem?_replicate,if_pos h,if_neg (by omega),if_neg (by omega)]; rfl
 ·rw [List.getElem?_append_right (by simpa using h)]
  simp only [List.length_replicate];by_cases h1:j=4*nt
  ·rw [if_pos h1,h1,Nat.sub_self]; rfl
  ·rw [if_neg h1];by_cases h2:j=4*nt+1
   ·rw [if_pos h2,h2,show 4*nt+1 - 4*nt=1 by omega]; rfl
   ·rw [if_neg h2];rw [List.getElem?_eq_none (by simp; omega)]; rfl
theorem zUt {as:List (AV ty)} {vs:List Value} {F:Nat->Prop} {nt b T:Nat} {u:Value} {g:Option Nat} {l:List (ty T)} (hF:∀ c,F c->c<w.heap.size) (ha:All2 (Rep cx F w) vs as) (hc:CellOK cx F w T l b u) (hg:GOK cx w (OPc b u))
  (hn:as.length<nt):R cx ⟨w,F,OPc b u⟩ (zhY nt as g T l) { tmps:=(vs++[zfT g b]).toArray++Array.replicate (nt - (vs++[zfT g b]).toArray.size) undef,defers:=[] } w:=by
 have hblk:=zW6 nt as g T l;have hB0:(zhY nt as g T l).blk (4*nt)=.box [.own (4*nt+1)] false:=by rw [hblk,if_pos rfl]
 have hB1:(zhY nt as g T l).blk (4*nt+1)=.arr T l false:=by rw [hblk,if_neg (by omega),if_pos rfl]
 have hBn:∀ j,j≠4*nt->j≠4*nt+1->(zhY nt as g T l).blk j=.none:=λj h1 h2=>by rw [hblk,if_neg h1,if_neg h2]
 let κ:Nat->Value:=λj=>if j=4*nt then .pointer (some ⟨b,0,none⟩) else u
 have k0:κ (4*nt)=.pointer (some ⟨b,0,none⟩):=if_pos rfl;have k1:κ (4*nt+1)=u:=if_neg (by omega)
 have hlive:∀ j,((zhY nt as g T l).blk j).live->j=4*nt\/j=4*nt+1:=λj h=>by
  by_cases h1:j=4*nt
  ·exact .inl h1
  ·by_cases h2:j=4*nt+1
   ·exact .inr h2
   ·rw [hBn j h1 h2] at h; exact h.elim
 have hop:∀ j c,(j=4*nt\/j=4*nt+1)->zS (κ j)=some c->OPc b u c:=λj c hj h=>by
  rcases hj with rfl | rfl
  ·rw [k0] at h; simp only [zS,qa] at h; exact .inl h.symm
  ·rw [k1] at h; exact .inr h
 have hlt:∀ c,OPc b u c->c<w.heap.size:=λc h=>by
  rcases h with rfl | h
  ·obtain ⟨t,ht⟩:=hc.at_;exact (Array.getElem?_eq_some_iff.1 ht).1
  ·obtain ⟨xs,ho,_⟩:=hc.row;exact ztR ho h
 have hfz:∀ c,F c->Fz ⟨w,F,OPc b u⟩ (zhY nt as g T l).blk κ w c:=λc h=>⟨.inl h,hF c h,λj hj hb=>hc.out c (hop j c (hlive j hj.live) hb) h⟩
 have hown:RepA cx (Fz ⟨w,F,OPc b u⟩ (zhY nt as g T l).blk κ w) w (λi=>((zhY nt as g T l).blk i).kind cx) κ u (.own (4*nt+1)):=by
  have:=RepA.own (cx:=cx) (F:=Fz ⟨w,F,OPc b u⟩ (zhY nt as g T l).blk κ w) (w:=w) (kd:=λi=>((zhY nt as g T l).blk i).kind cx) (κ:=κ) (4*nt+1) (zl cx T) l.length (by show ((zhY nt as g T l).blk (4*nt+1)).kind cx=_; rw [hB1]; rfl)
  rwa [k1] at this
 have hptr:RepA cx (Fz ⟨w,F,OPc b u⟩ (zhY nt as g T l).blk κ w) w (λi=>((zhY nt as g T l).blk i).kind cx) κ (.pointer (some ⟨b,0,none⟩)) (.ptr (4*nt) 0):=
  .ptr (4*nt) 0 b (by show ((zhY nt as g T l).blk (4*nt)).kind cx=_; rw [hB0]; rfl) k0
 refine ⟨κ,⟨⟨rfl,rfl,rfl,λ_=>Nat.le_refl _,Nat.le_refl _,λ_ _ _=>rfl,λj=> ?_,λi j c hi hj hbi hbj=> ?_,λj c hj hb=>.inl (hop j c (hlive j hj.live) hb),λj c hj hb=>⟨.inl (hop j c (hlive j hj) hb),hlt c (hop j c (hlive j hj) hb)⟩,hg⟩,rfl, ?_,λt=> ?_⟩⟩
 ·by_cases h1:j=4*nt
  ·subst h1;rw [hB0,k0];obtain ⟨t,ht⟩:=hc.at_;exact ⟨b,#[u],t,rfl,ht,.cons hown .nil⟩
  ·by_cases h2:j=4*nt+1
   ·subst h2;rw [hB1,k1];obtain ⟨xs,ho,ha⟩:=hc.row;exact ⟨xs,ho,ha.imp λ_ _ h=>h.mono λc hc=>⟨hfz c hc,rfl⟩⟩
   ·rw [hBn j h1 h2]; trivial
 ·rcases hlive i hi with rfl | rfl <;>rcases hlive j hj.live with rfl | rfl
  ·rfl
  ·rw [k0] at hbi; rw [k1] at hbj;simp only [zS,qa] at hbi; subst hbi;exact absurd hbj hc.ne
  ·rw [k1] at hbi; rw [k0] at hbj;simp only [zS,qa] at hbj; subst hbj;exact absurd hbi hc.ne
  ·rfl
 ·show ((vs++[zfT g b]).toArray++Array.replicate (nt - (vs++[zfT g b]).toArray.size) undef).size=((as++[(zwT g (4*nt):AV ty)])++List.replicate (nt - (as++[(zwT g (4*nt):AV ty)]).length) (AV.lit undef)).length;simp [ha.len];omega
 ·show RepA cx _ w _ _ _ ((gD AV.dead ((as++[zwT g (4*nt)])++List.replicate (nt - (as++[(zwT g (4*nt):AV ty)]).length) (AV.lit undef)) t))
  have hval:RepA cx (Fz ⟨w,F,OPc b u⟩ (zhY nt as g T l).blk κ w) w (λi=>((zhY nt as g T l).blk i).kind cx) κ (zfT g b) (zwT g (4*nt)):=by
   cases g with
   | none=>exact hptr
   | some g=>exact .fn g [.pointer (some ⟨b,0,none⟩)] [.ptr (4*nt) 0] rfl (All2.cons hptr .nil).at_
  have hall:All2 (RepA cx (Fz ⟨w,F,OPc b u⟩ (zhY nt as g T l).blk κ w) w (λi=>((zhY nt as g T l).blk i).kind cx) κ) (vs++[zfT g b]) (as++[zwT g (4*nt)]):=
   (ha.imp λ_ _ h=>.rep (h.mono λc hc=>⟨hfz c hc,rfl⟩)).append (.cons hval .nil)
  rw [zfF,List.getD_eq_getElem?_getD,Array.getD_eq_getD_getElem?];rcases Nat.lt_or_ge t (as++[(zwT g (4*nt):AV ty)]).length with ht | ht
  ·have htv:t<(vs++[zfT g b]).length:=by rw [hall.len]; exact ht
   rw [List.getElem?_append_left ht,Array.getElem?_append_left (by simpa using htv)]
   simp only [List.getElem?_toArray,List.getElem?_eq_getElem ht,List.getElem?_eq_getElem htv,Option.getD_some];exact hall.at_ t _ _ (List.getElem?_eq_getElem htv) (List.getElem?_eq_getElem ht)
  ·rw [List.getElem?_append_right ht,Array.getElem?_append_right (by simpa [hall.len] using ht)]
   rw [List.getElem?_replicate,Array.getElem?_replicate];split <;>split <;>first | exact .dead _ | exact .rep (.lit undef)
theorem zUp (hm:P.follows .mixedOrders=true) (hcx:CxOK P cx) (hspec:∀ f s,cx.spec f=some s->Sound P cx f s) {f:Nat} {fn:Func} {c:Code} (hf:P.funcs[f]? =some fn) (hb:fn.body=some c) (hl:zfn cx c)
  {g:Option Nat} {as:List (AV ty)} {T:Nat} {l l':List (ty T)} (hrun:zT9 cx fn c g as T l=some l') (hn:Nat.blt as.length fn.ntmps=true) (hw:zkY [as.length] c=true) (hr:fn.results.toList=[])
  (w:World) (F:Nat->Prop) (vs:List Value) (b:Nat) (u:Value) (hF:∀ c,F c->c<w.heap.size) (ha:All2 (Rep cx F w) vs as) (hc:CellOK cx F w T l b u) (hg:GOK cx w (OPc b u)):
  Calls P f (vs++[zfT g b]).toArray w λe w'=>∃ v,e=.returned v/\∃ (F':Nat->Prop) (u':Value),Kept cx.dr (OPc b u) w w'/\(∀ c,F c->F' c)/\(∀ c,F' c->c<w'.heap.size/\(F c\/OPc b u c\/w.heap.size<=c))/\
   CellOK cx F' w' T l' b u'/\∀ c,zS u'=some c->OPc b u c\/w.heap.size<=c:=by
 have hn:=Nat.le_of_ble_eq_true hn;have hR:=zUt (nt:=fn.ntmps) (g:=g) hF ha hc hg (by omega)
 have hkeep:zve (λa=>∀ t∈[as.length],a.tmps.getD t undef=((vs++[zfT g b]).toArray++Array.replicate (fn.ntmps - (vs++[zfT g b]).toArray.size) undef).getD t undef) c:=
  zrs (val:=λt=>((vs++[zfT g b]).toArray++Array.replicate (fn.ntmps - (vs++[zfT g b]).toArray.size) undef).getD t undef) hw
 have hFO:∀ c,F c->c<w.heap.size/\¬ OPc b u c:=λc h=>⟨hF c h,λho=>hc.out c ho h⟩
 refine calls_of_wp hf hb (wp_mono (zjS hm hcx hspec c hl hkeep _ _ _ w hrun hR (λt _=>rfl)) ?_)
 rintro ex a w' ⟨x,st,rfl,hk,hR',hg'⟩
 have fin:zSp T as.length st=some l'->a.defers=[]/\∃ v,(results fn a.tmps).run P w'=.ok v w'/\∃ v',Ending.returned v=.returned v'/\∃ (F':Nat->Prop) (u':Value),Kept cx.dr (OPc b u) w w'/\(∀ c,F c->F' c)/\(∀ c,F' c->c<w'.heap.size/\(F c\/OPc b u c\/w.heap.size<=c))/\
   CellOK cx F' w' T l' b u'/\∀ c,zS u'=some c->OPc b u c\/w.heap.size<=c:=by
  intro h;obtain ⟨κ,hf'⟩:=hR';obtain ⟨us,hrunr,_⟩:=zOW hcx (fn:=fn) (avs:=[]) (by rw [hr]; rfl) hf'
  refine ⟨hf'.defers,_,hrunr,_,rfl, ?_⟩;unfold zSp at h;split at h
  ·rename_i g' id hca;split at h
   ·rename_i ks l2 hrow;simp only [qa] at h; subst h
    have hkb:(st.blk id).kind cx=.box:=by
     unfold zot at hrow;split at hrow
     ·rename_i hb; rw [hb]; rfl
     ·rename_i hb; rw [hb]; rfl
     ·cases hrow
    obtain ⟨b',hκ,hv⟩:=zPh hca hkb (hf'.tmps as.length)
    have hbb:b'=b:=by
     have e1:=hg' as.length (by simp)
     rw [hv,Array.getD_eq_getD_getElem?,Array.getElem?_append_left (by simp [ha.len])] at e1
     simp [<- ha.len] at e1;exact zVB e1
    subst hbb;obtain ⟨hidu,_,hks,hkn,u',t,hat,hrowok,hub⟩:=zOL hf'.rb hrow hκ;have hbid:zS (κ id)=some b':=by rw [hκ]; rfl
    refine ⟨Fz ⟨w,F,OPc b' u⟩ st.blk κ w',u',⟨hf'.rb.os,hf'.rb.tape,hf'.rb.output,hf'.rb.drawn,hf'.rb.size,hf'.rb.keep⟩,λc hc'=>⟨.inl hc',Nat.lt_of_lt_of_le (hFO c hc').1 hf'.rb.size,λi hi hbi=> ?_⟩,λc hc'=>⟨hc'.2.1,hc'.1⟩,
     ⟨⟨t,hat⟩,hrowok,λc hco hcf=> ?_,λhbu=> ?_⟩,λc hcu=> ?_⟩
    ·rcases hf'.rb.mine i c hi hbi with h | h
     ·exact (hFO c hc').2 h
     ·exact absurd (hFO c hc').1 (Nat.not_lt.2 h)
    ·rcases hco with rfl | hco
     ·exact hcf.2.2 id hidu hbid
     ·obtain ⟨k,hk,hkc⟩:=hub c hco;exact hcf.2.2 k (hks k hk).1 hkc
    ·obtain ⟨k,hk,hkc⟩:=hub b' hbu;exact (hks k hk).2 (hf'.rb.sep k id b' (hks k hk).1.live hidu hkc hbid)
    ·obtain ⟨k,hk,hkc⟩:=hub c hcu;exact hf'.rb.mine k c (hks k hk).1 hkc
   ·cases h
  ·cases h
 cases x with
 | normal=>exact fin hk
 | ret=>exact fin hk
 | exit id=>cases hk
def mkC {α:Type} (g0:Option Nat) (A:VL cx α) (T:Nat) (G:α->List (ty T)->Bool×List (ty T)):CSpec ty:=
 ⟨T,λg as l=>match decide (g=g0),A.dec as with
  | true,some x=>some ((G x l).1,(G x l).2)
  | _,_=>none⟩
theorem zUU {cx':Cx ty} {α:Type} (hm:P.follows .mixedOrders=true) (hcx:CxOK P cx) (hsame:cx.Same cx') (hspec:∀ g s,cx'.spec g=some s->Sound P cx g s)
  {f:Nat} {fn:Func} {c:Code} (hent:∀ args w,(callFunc f args).run P w=.ok (.enter f args) w) (hf:P.funcs[f]? =some fn) (hb:fn.body=some c) (hl:zfn cx' c) {g0:Option Nat} {A:VL cx α} {T:Nat} {W:α->List (ty T)->Wy0 (List (ty T))} {z:List (ty T)}
  (hrun:∀ x l,zT9 cx' fn c g0 (A.enc x) T l=(W x l).ev noH some none:=by intro _ _; kernel_rfl)
  (hchk:∀ x,(Nat.blt (A.enc x).length fn.ntmps&&zkY [(A.enc x).length] c)=true:=by intro _; kernel_rfl) (hr:fn.results.toList=[]:=by kernel_rfl):
  SoundC P cx f (mkC g0 A T λx l=>(W x l).fin z) where
 enters:=hent
 calls:=λg as l l' hs w F vs b u hF ha hc hg=>by
  unfold mkC at hs;simp only at hs;split at hs
  ·rename_i x hg0 hx;have hg0:g=g0:=of_decide_eq_true hg0;subst hg0;simp only [qa] at hs
   have key:∀ (w:Wy0 (List (ty T))) (l':List (ty T)),w.fin z=(true,l')->w.ev noH some none=some l':=by
    intro w l';induction w with
    | h x y=>exact nomatch x
    | k r=>intro h; cases h; rfl
    | d=>intro h; cases h
    | i c a b iha ihb=>cases c with
     | true=>exact iha
     | false=>exact ihb
   have hrn:zT9 cx' fn c g (A.enc x) T l=some l':=(hrun x l).trans (key _ _ hs);have hk:=hchk x;simp only [qc] at hk;have:=zUp hm (hcx.cgS hsame.s hsame.cells λe=>hsame.dr ▸ e) (λg s hg=>(hspec g s hg).cg hsame) hf hb hl hrn hk.1 hk.2 hr w F vs b u hF ((A.ok P hcx F w vs as x hx ha).imp λ_ _=>Rep.cg hsame.s.enc) (hc.cg hsame.s) (hg.cg hsame.s)
   exact this.mono λe w' ⟨v,he,F',u',h1,h2,h3,h4,h5⟩=>⟨v,he,F',u',{ h1 with drawn:=λe=>h1.drawn (hsame.dr ▸ e) },h2,h3,h4.cg hsame.s.symm,h5⟩
  ·cases hs
theorem zUk {α:Type} {f:Nat} {g0:Option Nat} {A:VL cx α} {T:Nat} {G:α->List (ty T)->Bool×List (ty T)} (hent:∀ args w,(callFunc f args).run P w=.ok (.enter f args) w) (h:∀ x l,(G x l).1=false):SoundC P cx f (mkC g0 A T G) where
 enters:=hent
 calls:=λg as l l' hs w F vs b u hF ha hc hg=>by
  unfold mkC at hs;simp only at hs;split at hs
  ·rename_i x _ _;have h1:=congrArg Prod.fst (Option.some.inj hs);have h2:=h x l;exact absurd (h2.symm.trans h1) (by simp)
  ·cases hs
theorem SoundC.recode {cx2:Cx ty} {α:Type} {f:Nat} {g0:Option Nat} {A:VL cx α} {A':VL cx2 α} {T:Nat} {G:α->List (ty T)->Bool×List (ty T)} (he:∀ as,A'.dec as=A.dec as) {P:Program} {cx':Cx ty} (h:SoundC P cx' f (mkC g0 A T G)):SoundC P cx' f (mkC g0 A' T G):=by
 have:mkC g0 A' T G=mkC g0 A T G:=by
  unfold mkC;congr 1
  funext g as l
  rw [he as]
 rw [this]; exact h
def zTL (cx:Cx ty) (cs:List (Nat×CSpec ty)):Cx ty:={ cx with cells:=λg=>List.lookup g cs }
theorem zuW {cs:List (Nat×CSpec ty)}:cx.Same0 (zTL cx cs):=⟨rfl,rfl,rfl,rfl,rfl,rfl⟩
theorem zQh {β:Type}:∀ {l:List (Nat×β)} {g:Nat} {s:β},l.lookup g=some s->(g,s)∈l
 | [],g,s,h=>by cases h
 | (k,y)::r,g,s,h=>by
  simp only [List.lookup] at h;split at h
  ·rename_i he;simp only [beq_iff_eq] at he;simp only [qa] at h;subst he; subst h; simp
  ·exact List.mem_cons_of_mem _ (zQh h)
theorem zUZ {cs:List (Nat×CSpec ty)} (hcx:CxOK P cx) (h:All (λp=>SoundC P cx p.1 p.2) cs):CxOK P (zTL cx cs):=
 hcx.cg zuW λf s hf=>(All.mem h (f,s) (zQh hf)).cg zuW λe=>e
end
end
end Go.Ab
/- slices.Clone: three cases of the value that came in. -/
namespace Go.Ab
noncomputable section
variable {ty:Nat->Type}
theorem zTX {cx:Cx ty} {F:Nat->Prop} {w:World} {v:Value} {T:Nat} {l:List (ty T)} (h:Rep cx F w v (.sl T l)):
  (v=.slice none 0 0/\l=[])\/(∃ a c,v=.slice (some a) 0 c/\l=[])\/l.isEmpty=false:=by
 cases h with
 | slE a c T hn=>
  cases a with
  | none=>rw [hn rfl]; exact .inl ⟨rfl,rfl⟩
  | some a=>exact .inr (.inl ⟨a,c,rfl,rfl⟩)
 | sl b off cap T l us hF hcap hlen hc hr=>
  cases l with
  | nil=>exact .inr (.inl ⟨_,cap,rfl,rfl⟩)
  | cons x r=>exact .inr (.inr rfl)
theorem zyT {P:Program} {cx cx':Cx ty} (hm:P.follows .mixedOrders=true) (hcx:CxOK P cx) (hsame:cx.Same cx') (hspec:∀ g s,cx'.spec g=some s->Sound P cx g s)
  {f:Nat} {fn:Func} {c:Code} (hent:∀ args w,(callFunc f args).run P w=.ok (.enter f args) w) (hf:P.funcs[f]? =some fn) (hb:fn.body=some c) (hl:zfn cx' c) {T:Nat} {bytes:Nat}
  (h1:ze0 cx' fn c ⟨[.own T],[]⟩ [.pure (.lit (.slice none 0 0))]=some ⟨[.own T []],[]⟩)
  (h2:∀ a n,ze0 cx' fn c ⟨[.own T],[]⟩ [.pure (.lit (.slice (some a) 0 n))]=some ⟨[.own T []],[]⟩)
  (h3:∀ l:List (ty T),ze0 cx' fn c ⟨[.own T],[]⟩ [.pure (.sl T l)]=bif !l.isEmpty then bif decide ((([]:List (ty T)).length+l.length)*bytes<=zbO) then some ⟨[.own T l],[]⟩ else none else none)
  (hn:Nat.ble 1 fn.ntmps=true):
  Sound P cx f (zi (cx:=cx) (zf (zg (vSl T)) zF) λx=>(decide (x.1.length*bytes<=zbO),⟨[.own T x.1],[]⟩)) where
 enters:=hent
 calls:=λas r hs w F vs hF ha hsep=>by
  unfold zi at hs;split at hs
  ·rename_i x hx;simp only [qa,qb] at hs;obtain ⟨hpre,rfl⟩:=hs;have hk:=(zf (zg (vSl (cx:=cx) T)) zF).kind vs as x hx;have ha':=(zf (zg (vSl (cx:=cx) T)) zF).ok P hcx F w vs as x hx ha;obtain ⟨l,_⟩:=x;obtain ⟨v,vs',rfl,hv,hv'⟩:=ha'.inv;obtain rfl:=hv'.nil_left.1;have hv:Rep cx F w v (.sl T l):=hv
   have fin:∀ (a:AV ty),Rep cx F w v a->ze0 cx' fn c ⟨[.own T],[]⟩ [.pure a]=some ⟨[.own T l],[]⟩->Calls P f [v].toArray w λe w'=>∃ u,e=.returned u/\Post cx F w (zbc [v] as) ⟨[.own T l],[]⟩ u w':=by
    intro a hra hrun;have:=zPg hm (hcx.cgS hsame.s hsame.cells λe=>hsame.dr ▸ e) (λg s hg=>(hspec g s hg).cg hsame) hf hb hl hrun hn rfl w F [v] hF (.cons (show zim cx' F w v (.pure a) from Rep.cg hsame.s.enc hra) .nil) (SepW.cg hsame.s ⟨by intro i j u u' b h; simp [zbc] at h,⟨hsep.g.inv,λb ⟨v,hv,_⟩=>by simp [zbc] at hv,hsep.g.size⟩⟩)
    refine this.mono λe w' ⟨u,he,hp⟩=>⟨u,he, ?_⟩
    rw [hk];exact hp.cg hsame.s.symm λe=>hsame.dr ▸ e
   rcases zTX hv with ⟨rfl,rfl⟩ | ⟨a,n,rfl,rfl⟩ | hne
   ·exact fin _ (.lit _) h1
   ·exact fin _ (.lit _) (h2 a n)
   ·refine fin _ hv ?_;rw [h3,hne];simp only [Bool.not_false,cond_true,List.length_nil,Nat.zero_add];simp only at hpre;rw [hpre]; rfl
  ·cases hs
end
end Go.Ab
/- Trees of integers with their lexicographic order: a total order. Plain Lean. -/
namespace Go.Ab
noncomputable section
inductive TT where
 | i (n:Int)
 | l (ts:List TT)
def zdm (a b:Int):Int:=if a<b then -1 else if b<a then 1 else 0
mutual
def zbL:TT->TT->Int
 | .i a,.i b=>zdm a b
 | .l a,.l b=>zbF a b
 | .i _,.l _=> -1
 | .l _,.i _=>1
def zbF:List TT->List TT->Int
 | [],[]=>0
 | [],_::_=> -1
 | _::_,[]=>1
 | x::a,y::b=>if zbL x y=0 then zbF a b else zbL x y
end
theorem zX2 (a b:Int):zdm b a= - zdm a b:=by unfold zdm; split <;>split <;>omega
theorem zZt {a b:Int} (h:zdm a b=0):a=b:=by
 unfold zdm at h; split at h
 ·omega
 ·split at h <;>omega
theorem zWK {a b c:Int} (h1:zdm a b<=0) (h2:zdm b c<=0):zdm a c<=0:=by
 unfold zdm at *;by_cases p:b<a
 ·rw [if_neg (by omega),if_pos p] at h1; omega
 ·by_cases q:c<b
  ·rw [if_neg (by omega),if_pos q] at h2; omega
  ·by_cases r:a<c
   ·rw [if_pos r]; omega
   ·rw [if_neg r,if_neg (by omega)]; omega
theorem zYI (a b:Int):zdm a b= -1\/zdm a b=0\/zdm a b=1:=by
 unfold zdm;split
 ·simp
 ·split <;>simp
mutual
theorem zE0:∀ a b:TT,zbL b a= - zbL a b
 | .i a,.i b=>by simp only [zbL]; exact zX2 a b
 | .l a,.l b=>by simp only [zbL]; exact zMb a b
 | .i _,.l _=>by simp only [zbL]; rfl
 | .l _,.i _=>by simp only [zbL]
theorem zMb:∀ a b:List TT,zbF b a= - zbF a b
 | [],[]=>by simp only [zbF]; rfl
 | [],_::_=>by simp only [zbF]; rfl
 | _::_,[]=>by simp only [zbF]
 | x::a,y::b=>by
  simp only [zbF];rw [zE0 x y,zMb a b];split <;>split <;>omega
end
mutual
theorem zGY:∀ a b:TT,zbL a b=0->a=b
 | .i a,.i b=>λh=>by simp only [zbL] at h; rw [zZt h]
 | .l a,.l b=>λh=>by simp only [zbL] at h; rw [zNy a b h]
 | .i _,.l _=>λh=>by simp only [zbL] at h; omega
 | .l _,.i _=>λh=>by simp only [zbL] at h; omega
theorem zNy:∀ a b:List TT,zbF a b=0->a=b
 | [],[]=>λ_=>rfl
 | [],_::_=>λh=>by simp only [zbF] at h; omega
 | _::_,[]=>λh=>by simp only [zbF] at h; omega
 | x::a,y::b=>λh=>by
  simp only [zbF] at h;split at h
  ·rename_i h0;rw [zGY x y h0,zNy a b h]
  ·rename_i h0; exact absurd h h0
end
theorem zXx (a:TT):zbL a a=0:=by have:=zE0 a a; omega
theorem zMn (a:List TT):zbF a a=0:=by have:=zMb a a; omega
mutual
theorem zWJ:∀ a b c:TT,zbL a b<=0->zbL b c<=0->zbL a c<=0
 | .i a,.i b,.i c=>λh1 h2=>by simp only [zbL] at *; exact zWK h1 h2
 | .l a,.l b,.l c=>λh1 h2=>by simp only [zbL] at *; exact zRu a b c h1 h2
 | .i a,.i b,.l c=>λh1 h2=>by simp only [zbL]; omega
 | .i a,.l b,.l c=>λh1 h2=>by simp only [zbL]; omega
 | .i a,.l b,.i c=>λh1 h2=>by simp only [zbL] at h2; omega
 | .l a,.i b,_=>λh1 h2=>by simp only [zbL] at h1; omega
 | .l a,.l b,.i c=>λh1 h2=>by simp only [zbL] at h2; omega
theorem zRu:∀ a b c:List TT,zbF a b<=0->zbF b c<=0->zbF a c<=0
 | [],_,[]=>λh1 h2=>by simp only [zbF]; omega
 | [],_,_::_=>λh1 h2=>by simp only [zbF]; omega
 | _::_,[],_=>λh1 h2=>by simp only [zbF] at h1; omega
 | _::_,_::_,[]=>λh1 h2=>by simp only [zbF] at h2; omega
 | x::a,y::b,z::c=>λh1 h2=>by
  simp only [zbF] at *;by_cases p:zbL x y=0
  ·rw [if_pos p] at h1;have p':=zGY x y p;subst p';by_cases q:zbL x z=0
   ·rw [if_pos q] at h2 ⊢; exact zRu a b c h1 h2
   ·rw [if_neg q] at h2 ⊢; exact h2
  ·rw [if_neg p] at h1;by_cases q:zbL y z=0
   ·have q':=zGY y z q;subst q';rw [if_neg p]; exact h1
   ·rw [if_neg q] at h2;have t:=zWJ x y z h1 h2;by_cases r:zbL x z=0
    ·have r':=zGY x z r;subst r';have:=zE0 x y;omega
    ·rw [if_neg r]; exact t
end
mutual
theorem zUH:∀ a b:TT,zbL a b= -1\/zbL a b=0\/zbL a b=1
 | .i a,.i b=>by simp only [zbL]; exact zYI a b
 | .l a,.l b=>by simp only [zbL]; exact zUb a b
 | .i _,.l _=>by simp [zbL]
 | .l _,.i _=>by simp [zbL]
theorem zUb:∀ a b:List TT,zbF a b= -1\/zbF a b=0\/zbF a b=1
 | [],[]=>by simp [zbF]
 | [],_::_=>by simp [zbF]
 | _::_,[]=>by simp [zbF]
 | x::a,y::b=>by
  simp only [zbF];split
  ·exact zUb a b
  ·exact zUH x y
end
def trB (b:ByteArray):TT:=.l (b.data.toList.map λx=>.i (x.toNat:Int))
theorem zV8:∀ a b:List UInt8,Lib.compareBytes a b=zbF (a.map λx=>.i (x.toNat:Int)) (b.map λx=>.i (x.toNat:Int))
 | [],[]=>by simp only [Lib.compareBytes,List.map,zbF]
 | [],_::_=>by simp only [Lib.compareBytes,List.map,zbF]
 | _::_,[]=>by simp only [Lib.compareBytes,List.map,zbF]
 | x::a,y::b=>by
  simp only [Lib.compareBytes,List.map,zbF,zbL,zdm];have e1:(x<y)↔(x.toNat:Int)<(y.toNat:Int):=by rw [UInt8.lt_iff_toNat_lt]; omega
  have e2:(y<x)↔(y.toNat:Int)<(x.toNat:Int):=by rw [UInt8.lt_iff_toNat_lt]; omega
  by_cases p:x<y
  ·simp [p,e1.1 p]
  ·by_cases q:y<x
   ·simp only [if_neg p,if_pos q,if_neg (λh=>p (e1.2 h)),if_pos (e2.1 q)]; rfl
   ·simp only [if_neg p,if_neg q,if_neg (λh=>p (e1.2 h)),if_neg (λh=>q (e2.2 h)),if_true]; exact zV8 a b
theorem zVO (a b:ByteArray):Lib.compareBytes a.data.toList b.data.toList=zbL (trB a) (trB b):=by rw [zV8]; simp only [trB,zbL]
end
end Go.Ab
