/- Texts of this claim, joined (an interpreter of the code over typed data, and its soundness). -/
import Derived.ChangeSame
import Derived.ChangeVars
import Derived.JoinedOf
import Derived.RowKit
import Derived.RowKitTokens
import Derived.LaidLaws
import Derived.LaidHandle
import Derived.Stop.Joined
import Derived.Deep.DeepLaidRun
import Derived.Lib.Bytealg
import Derived.Test.YtddkaehkimnklaaGreatDoorGA2
set_option autoImplicit false
set_option linter.unusedVariables false
set_option linter.unusedSectionVars false
set_option linter.unusedSimpArgs false
/- From the contract of a law's function, and its plain law, to the law's row. -/
namespace Go.Ab
noncomputable section
open Go.ChangeShapes Go.WideShapes Go.RowKit
variable {ty:Nat→Type}
section
variable {P:Program} {cx:Cx ty} {W:(T:Nat)→ty T→Prop}
def zHP (P:Program) (w:World) (ts:List TypeId) (vs:List Value):Prop:=∀ (j:Nat) t v,ts[j]? =some t→vs[j]? =some v→∃ base,Value.okWide P w .any base t v
def ArgR (P:Program) (cx:Cx ty) (T:Nat) (mk:ty T→AV ty):Prop:=
 ∀ (w:World) (base:Nat) (v:Value) (x:ty T),Value.okWide P w .any base T v→All2 (Rep cx (In w) w) v.cells.toList (cx.enc T x)→Rep cx (In w) w v (mk x)
theorem zB6 {T:Nat} {fs:Array Field} (hu:P.underlying T=some (.struct fs)):ArgR P cx T fun x=>.agg (cx.enc T x):=by
 intro w base v x hv ha
 unfold Value.okWide at hv
 rw [hu] at hv
 obtain ⟨cs,rfl,_,_⟩:=hv
 have ha:All2 (Rep cx (In w) w) cs.toList (cx.enc T x):=ha
 exact .agg cs.toList _ ha.len ha.at_
theorem zH9 {T:Nat} {d:TypeDesc} (hu:P.underlying T=some d) (hd:match d with | .int _ | .bool | .string | .slice _=>True | _=>False) (mk:ty T→AV ty) (he:∀ x,cx.enc T x=[mk x]):ArgR P cx T mk:=by
 intro w base v x hv ha
 rw [he] at ha
 have hc:v.cells.toList=[v]:=by
  unfold Value.okWide at hv
  rw [hu] at hv
  cases v with
  | agg cs=>
   exfalso
   cases d <;>simp_all [Cell.okWide,Cell.ok]
  | _=>rfl
 rw [hc] at ha
 obtain ⟨u,us,h,hu,_⟩:=ha.inv
 simp only [List.cons.injEq] at h
 rw [h.1]; exact hu
theorem zCZ {H:Type} {en:TypeId×Value→H} {w:World} {T:Nat} {ts:List TypeId} {vs:List Value} {ds:List (DataW H)} {ps:List MemPlace} (hr:zk0 P cx W T) {mk:ty T→AV ty} (hm:ArgR P cx T mk)
  (hv:zHP P w (T::ts) vs) (h:DataW.TrodAll en P w 0 (fun _=>true) true (T::ts) vs ds ps) (hz:(DataW.weightsEach P (T::ts) ds).all (· ≤reachBytes)=true):
  ∃ v vs' ds' ps' x,vs=v::vs'∧Rep cx (In w) w v (mk x)∧W T x∧zHP P w ts vs'∧DataW.TrodAll en P w 0 (fun _=>true) true ts vs' ds' ps'∧(DataW.weightsEach P ts ds').all (· ≤reachBytes)=true:=by
 cases vs with
 | nil=>cases ds <;>exact h.elim
 | cons v vs=>
  cases ds with
  | nil=>exact h.elim
  | cons d ds=>
   obtain ⟨p,q,⟨fuel,hf⟩,h2,_⟩:=h
   simp only [DataW.weightsEach,List.all_append,Bool.and_eq_true] at hz
   obtain ⟨x,hx,hw⟩:=hr H en w _ _ fuel _ _ hf hz.1
   obtain ⟨base,hok⟩:=hv 0 T v rfl rfl
   exact ⟨v,vs,ds,q,x,rfl,hm w base v x hok hx,hw,fun j t u h1 h2=>hv (j+1) t u (by simpa using h1) (by simpa using h2),h2,hz.2⟩
theorem zJJ {H:Type} {en:TypeId×Value→H} {w:World} {vs:List Value} {ds:List (DataW H)} {ps:List MemPlace} (h:DataW.TrodAll en P w 0 (fun _=>true) true [] vs ds ps):vs=[]:=by
 cases vs with
 | nil=>rfl
 | cons v vs=>cases ds <;>exact h.elim
theorem zx1 {H:Type} {en:TypeId×Value→H} {w:World}:∀ {ts:List TypeId} {vs:List Value} {ds:List (DataW H)} {ps:List MemPlace},DataW.TrodAll en P w 0 (fun _=>true) true ts vs ds ps→ds.length=ts.length
 | [],[],[],_,_=>rfl
 | t::ts,v::vs,d::ds,_,h=>by
  obtain ⟨p,q,_,h2,_⟩:=h
  simp [zx1 h2]
 | [],[],_::_,_,h=>h.elim
 | [],_::_,[],_,h=>h.elim
 | [],_::_,_::_,_,h=>h.elim
 | _::_,[],[],_,h=>h.elim
 | _::_,[],_::_,_,h=>h.elim
 | _::_,_::_,[],_,h=>h.elim
end
theorem zwq {H:Type} {P:Program}:∀ {ts us:List TypeId} {ds gs:List (DataW H)},ds.length=ts.length→(DataW.weightsEach P (ts++us) (ds++gs)).all (· ≤reachBytes)=true→(DataW.weightsEach P ts ds).all (· ≤reachBytes)=true
 | [],us,[],gs,_,_=>rfl
 | t::ts,us,[],gs,h,_=>by simp at h
 | [],us,d::ds,gs,h,_=>by simp at h
 | t::ts,us,d::ds,gs,h,hz=>by
  simp only [List.cons_append,DataW.weightsEach,List.all_append,Bool.and_eq_true] at hz ⊢
  exact ⟨hz.1,zwq (by simpa using h) hz.2⟩
theorem zHm {C:Checked} {cx:Cx ty} {os:Os} {f:FuncId} {fn:Func} {s:ChangeSpec} {laid:List (String×DataW Unit)} {H:Type} {enc:TypeId×Value→H} {fresh handsOn:Bool} (own:ownKnob C.prog.godebug=none) (started:os.Started) (noInit:C.prog.inits.idxOf? f=none)
  (hfn:C.prog.funcs[f]? =some fn)
  (wit:∃ (w:World) (tape:Tape) (i:Input),w.os=os∧(w.forCall tape i).Shaped C.prog∧i.vars=[]∧Input.okWide C.prog (w.forCall tape i) .any w.heap.size f i∧
   ((s.pre enc C.prog fn [] false (w.forCall tape i).memory i.args∧laidMetH C.prog laid (w.forCall tape i).memory)∧sizedMet enc C.prog fn (OpenSpec.ofChange s) false (w.forCall tape i).memory i.args)∧({}:Assume).holds C.prog (lone (Frame.enter C.prog f i.args .normal) [] (w.forCall tape i)))
  (hl:laidOutB C.prog=true) (hr:∀ t∈fn.params.toList,C.prog.readableRec t=true∧t<C.prog.types.size) (hv:s.vars=[]) {B:Nat} (hres:fn.resultTypes=#[B]) (hB:C.prog.underlying B=some .bool)
  (hspec:∀ ds:List (DataW H),ds.length=fn.params.size→s.fn H ds={ results:=[.lit (.bool true)],args:=ds }) {sp:Spec ty} (hs:Sound C.prog cx f sp) (hinv:∀ w,w.ShapedOpen C.prog→laidMetH C.prog laid w→cx.inv w∧cx.ng≤w.heap.size)
  (hargs:∀ (w:World) (vs:List Value) (ds:List (DataW H)) (ps:List MemPlace),zHP C.prog w fn.params.toList vs→DataW.TrodAll enc C.prog w 0 (fun _=>true) true fn.params.toList vs ds ps→(DataW.weightsEach C.prog fn.params.toList ds).all (· ≤reachBytes)=true→
   ∃ avs,sp avs=some (true,⟨[.pure (.lit (.bool true))],[]⟩)∧zQ vs avs=[]∧All2 (zgJ cx (In w) w) vs avs):
  ReturnsInHanded {} C os f .any (fun w args=>(s.pre enc C.prog fn [] false w args∧laidMetH C.prog laid w)∧sizedMet enc C.prog fn (OpenSpec.ofChange s) false w args) (s.post enc C.prog fn false fresh handsOn false):=by
 refine returnsInHanded_of_calls own started noInit wit ?_
 intro w tape i _ hsh _ hok hpre _
 obtain ⟨_,_,_,fn',hfn',_,_,_,_,hval⟩:=hok
 have e:fn'=fn:=Option.some.inj (hfn'.symm.trans hfn)
 subst e
 obtain ⟨⟨⟨ds,gs,before,hW,hc⟩,hL⟩,hz⟩:=hpre
 have hz':=hz.weights hW
 have hW:=DataW.Whole.of_heap (w':=w.forCall tape i) (by rfl) hW
 have hL:laidMetH C.prog laid (w.forCall tape i):=hL.of_heap (by rfl)
 generalize hWe:w.forCall tape i=W at hsh hval hW hL
 generalize i.args=args at hval hW
 suffices h:Calls C.prog f args W fun e W'=>∃ v,e=.returned v∧s.post enc C.prog fn' false fresh handsOn false W args v W' by
  refine h.mono fun e W' ⟨v,he,hp⟩=> ?_
  subst he
  exact ChangeSpec.post_blind hp
 have hW0:=hW
 obtain ⟨p,q,hA,_,_,_,_⟩:=hW
 obtain ⟨avs,hsp,hown,ha⟩:=hargs W args.toList ds p (fun j t v h1 h2=>⟨_,hval j t v (by simpa using h1) (by simpa using h2)⟩) hA (zwq (zx1 hA) hz')
 obtain ⟨hi,hn⟩:=hinv W hsh hL
 have hc:=zH0 hs hsp hown ⟨hi,fun b ⟨v,hv,_⟩=>absurd hv (by simp),hn⟩ ha
 have hc':Calls C.prog f args W fun e w'=>e=.returned (.bool true)∧Below W.heap.size W w':=by simpa using hc
 refine hc'.mono fun e w' ⟨he,hb⟩=>⟨_,he, ?_⟩
 exact zIY hl hr hv hres hB (hspec ds (by rw [zx1 hA]; simp)) hW0 hb
end
end Go.Ab
/- Ways: what a function does, or one round of a loop, as data; and what follows from it: contracts. -/
namespace Go.Ab
noncomputable section
variable {ty:Nat→Type}
inductive Wy (α β ρ:Type):Type where
 | h (x:α) (y:β)
 | k (r:ρ)
 | d
 | i (c:Bool) (a b:Wy α β ρ)
section
variable {α β ρ:Type}
noncomputable def Wy.ev {R:Type} (H:α→β→R) (K:ρ→R) (D:R) (w:Wy α β ρ):R:=
 Wy.rec (motive:=fun _=>R) H K D (fun c _ _ a b=>bif c then a else b) w
def Wy.bn {A:Type} (p:Bool×A) (k:A→Wy α β ρ):Wy α β ρ:=.i p.1 (k p.2) .d
theorem Wy.ev_app {R S:Type} (f:S→R) (H:α→β→S) (K:ρ→S) (D:S):∀ w:Wy α β ρ,f (w.ev H K D)=w.ev (fun x y=>f (H x y)) (fun r=>f (K r)) (f D)
 | .h _ _=>rfl
 | .k _=>rfl
 | .d=>rfl
 | .i c a b=>by
  have ha:=Wy.ev_app f H K D a
  have hb:=Wy.ev_app f H K D b
  cases c with
  | true=>exact ha
  | false=>exact hb
noncomputable def zP (W:α→β→Wy α β ρ) (z:ρ):Nat→α→β→Bool×ρ
 | 0=>fun _ _=>(false,z)
 | n+1=>fun x y=>(W x y).ev (zP W z n) (fun r=>(true,r)) (false,z)
noncomputable def spW (V:LL ty α) (B:BL ty β) (W:α→β→Wy α β ρ) (z:ρ) (tr:ρ→LTree ty) (m:α→β→Nat):zoo ty:=
 zDe V B fun x y=>((zP W z (m x y) x y).1,tr (zP W z (m x y) x y).2)
theorem zK {cx:Cx ty} {c:Code} {id:Nat} {V:LL ty α} {B:BL ty β} {W:α→β→Wy α β ρ} {z:ρ} {tr:ρ→LTree ty} {m:α→β→Nat}
  (hid:zbd c=id:=by kernel_rfl) (hl:cx.loops id=some (spW V B W z tr m):=by kernel_rfl)
  (hr:∀ (R:Type) (H:List (AV ty)→List (Blk ty)→Option R) (K:Ex→List (AV ty)→List (Blk ty)→Option R) (x:α) (y:β),zrO (R:=R) cx c H K (V.enc x) (B.enc y)=(W x y).ev (fun x y=>H (V.enc x) (B.enc y)) (fun r=>znm K (tr r)) none:=by intro _ _ _ _ _; kernel_rfl):zW cx c:=
 zHV hid hl (zIy fun R K n=>by
  induction n with
  | zero=>intro x y; rfl
  | succ n ih=>
   intro x y
   show zrO cx c (zzG cx c K n) K (V.enc x) (B.enc y)=_
   rw [hr]
   have e:(fun x y=>zzG cx c K n (V.enc x) (B.enc y))=fun x y=>out (fun r=>znm K (tr r)) (zP W z n x y):=by funext x y; exact ih x y
   rw [e]
   exact (Wy.ev_app (out fun r=>znm K (tr r)) (zP W z n) (fun r=>(true,r)) (false,z) (W x y)).symm)
theorem zCI {cx:Cx ty} {c:Code} {id:Nat} {V:LL ty α} {B:BL ty β} {W:α→β→Wy α β ρ} {z:ρ} {tr:ρ→LTree ty} {m:α→β→Nat}
  (hid:zbd c=id:=by kernel_rfl) (hl:cx.joins id=some (spW V B W z tr m):=by kernel_rfl) (hm:∀ x y,m x y=1:=by intro _ _; rfl)
  (hr:∀ (R:Type) (H:List (AV ty)→List (Blk ty)→Option R) (K:Ex→List (AV ty)→List (Blk ty)→Option R) (x:α) (y:β),zrO (R:=R) cx c H K (V.enc x) (B.enc y)=(W x y).ev (fun x y=>H (V.enc x) (B.enc y)) (fun r=>znm K (tr r)) none:=by intro _ _ _ _ _; kernel_rfl):zzh cx c:=by
 intro sp hs vals bs t h R K
 rw [hid,hl] at hs
 obtain rfl:=Option.some.inj hs
 unfold spW zDe at h
 split at h
 case h_2=>cases h
 rename_i x hx
 split at h
 case h_2=>cases h
 rename_i y hy
 simp only [hm,Option.some.injEq,Prod.mk.injEq] at h
 have h1:=h
 rw [V.ok _ _ hx,B.ok _ _ hy,hr, ← h1.2]
 have key:∀ w:Wy α β ρ,(w.ev (zP W z 0) (fun r=>(true,r)) (false,z)).1=true→w.ev (fun _ _=>(none:Option R)) (fun r=>znm K (tr r)) none=znm K (tr (w.ev (zP W z 0) (fun r=>(true,r)) (false,z)).2):=by
  intro w
  induction w with
  | h x y=>intro h; cases h
  | k r=>intro _; rfl
  | d=>intro h; cases h
  | i c a b iha ihb=>cases c with
   | true=>exact iha
   | false=>exact ihb
 exact key _ h1.1
abbrev Wy0 (ρ:Type):=Wy Empty Empty ρ
def noH {R:Type}:Empty→Empty→R:=fun x _=>nomatch x
noncomputable def Wy.fin (w:Wy0 ρ) (z:ρ):Bool×ρ:=w.ev noH (fun r=>(true,r)) (false,z)
theorem Wy.fin_k (r z:ρ):(Wy.k r:Wy0 ρ).fin z=(true,r):=rfl
theorem Wy.fin_i (c:Bool) (a b:Wy0 ρ) (z:ρ):(Wy.i c a b).fin z=bif c then a.fin z else b.fin z:=rfl
theorem Wy.fin_bn {A:Type} (p:Bool×A) (k:A→Wy0 ρ) (z:ρ):(Wy.bn p k).fin z=bif p.1 then (k p.2).fin z else (false,z):=rfl
theorem Wy.ev_k {R:Type} (H:α→β→R) (K:ρ→R) (D:R) (r:ρ):(Wy.k r).ev H K D=K r:=rfl
theorem Wy.ev_h {R:Type} (H:α→β→R) (K:ρ→R) (D:R) (x:α) (y:β):(Wy.h x y).ev H K D=H x y:=rfl
theorem Wy.ev_d {R:Type} (H:α→β→R) (K:ρ→R) (D:R):(Wy.d).ev H K D=D:=rfl
theorem Wy.ev_i {R:Type} (H:α→β→R) (K:ρ→R) (D:R) (c:Bool) (a b:Wy α β ρ):(Wy.i c a b).ev H K D=bif c then a.ev H K D else b.ev H K D:=rfl
theorem Wy.ev_bn {R A:Type} (H:α→β→R) (K:ρ→R) (D:R) (p:Bool×A) (k:A→Wy α β ρ):(Wy.bn p k).ev H K D=bif p.1 then (k p.2).ev H K D else D:=rfl
end
def mkCx (cx:Cx ty) (nt:Nat) (sp:List (Nat×Spec ty)) (io:List (Nat×List Bool)) (hd:List (Nat×List (Nat×LMode))) (ot:List (Nat×Nat×List (Nat×LMode))) (lps:List (Nat×zoo ty)) (raw:List Nat):Cx ty:=
 { cx with nt:=nt,spec:=fun g=>List.lookup g sp,io:=fun g=>(List.lookup g io).getD [],head:=fun i=>(List.lookup i hd).getD [],out:=zJq ot,loops:=fun i=>List.lookup i lps,raw:=fun g=>raw.contains g }
section
variable {cx:Cx ty} {nt:Nat} {sp:List (Nat×Spec ty)} {io:List (Nat×List Bool)} {hd:List (Nat×List (Nat×LMode))} {ot:List (Nat×Nat×List (Nat×LMode))} {lps:List (Nat×zoo ty)} {raw:List Nat}
def zHQ (cx:Cx ty) (nt:Nat) (sp:List (Nat×Spec ty)) (io:List (Nat×List Bool)) (hd:List (Nat×List (Nat×LMode))) (ot:List (Nat×Nat×List (Nat×LMode))) (lps:List (Nat×zoo ty)) (raw:List Nat) (js:List (Nat×zoo ty)):Cx ty:=
 { mkCx cx nt sp io hd ot lps raw with joins:=fun i=>List.lookup i js }
theorem zB:cx.Same (mkCx cx nt sp io hd ot lps raw):=⟨⟨rfl,rfl,rfl,rfl,rfl,rfl⟩,rfl⟩
theorem zu {P:Program} (h:All (fun p=>Sound P cx p.1 p.2) sp):∀ g s,(mkCx cx nt sp io hd ot lps raw).spec g=some s→Sound P cx g s:=zGH sp h
end
theorem zJT {cx:Cx ty} {nt:Nat} {sp:List (Nat×Spec ty)} {io:List (Nat×List Bool)} {hd:List (Nat×List (Nat×LMode))} {ot:List (Nat×Nat×List (Nat×LMode))} {lps:List (Nat×zoo ty)} {raw:List Nat} {js:List (Nat×zoo ty)}:cx.Same (zHQ cx nt sp io hd ot lps raw js):=⟨⟨rfl,rfl,rfl,rfl,rfl,rfl⟩,rfl⟩
theorem zI1 {P:Program} {cx:Cx ty} {nt:Nat} {sp:List (Nat×Spec ty)} {io:List (Nat×List Bool)} {hd:List (Nat×List (Nat×LMode))} {ot:List (Nat×Nat×List (Nat×LMode))} {lps:List (Nat×zoo ty)} {raw:List Nat} {js:List (Nat×zoo ty)} (h:All (fun p=>Sound P cx p.1 p.2) sp):∀ g s,(zHQ cx nt sp io hd ot lps raw js).spec g=some s→Sound P cx g s:=zGH sp h
theorem zr {P:Program} {cx cx':Cx ty} {α ρ:Type} (hm:P.follows .mixedOrders=true) (hcx:CxOK P cx) (hsame:cx.Same cx') (hspec:∀ g s,cx'.spec g=some s→Sound P cx g s)
  {f:Nat} {fn:Func} {c:Code} (hent:∀ args w,(callFunc f args).run P w=.ok (.enter f args) w) (hf:P.funcs[f]? =some fn) (hb:fn.body=some c) (hl:ziJ cx' c) {sg:Sig} {A:AL cx α} {res:ρ→ARes ty} {W:α→Wy0 ρ} {z:ρ}
  (hrun:∀ x,ze9 cx' fn c sg (A.enc x)=(W x).ev noH (fun r=>some (res r)) none:=by intro _; kernel_rfl)
  (hchk:∀ x,(Nat.ble (A.enc x).length fn.ntmps&&((sg.upd.all fun u=> !u)&&Nat.beq sg.upd.length (znY (A.enc x))))=true:=by intro _; kernel_rfl):
  Sound P cx f (zk A fun x=>(((W x).fin z).1,res ((W x).fin z).2)):=
 zFH hm hcx hsame hspec hent hf hb hl (F:=fun x=>(W x).fin z) (fun x=>(hrun x).trans (by
  have:=Wy.ev_app (out fun r=>some (res r)) noH (fun r=>(true,r)) (false,z) (W x)
  have e:(fun (x:Empty) (y:Empty)=>out (fun r=>some (res r)) (noH x y:Bool×ρ))=noH:=by funext x; exact nomatch x
  rw [e] at this
  exact this.symm)) hchk
end
end Go.Ab
/- slices.Clone: three cases of the value that came in. -/
namespace Go.Ab
noncomputable section
variable {ty:Nat→Type}
theorem zGk {cx:Cx ty} {F:Nat→Prop} {w:World} {v:Value} {T:Nat} {l:List (ty T)} (h:Rep cx F w v (.sl T l)):
  (v=.slice none 0 0∧l=[])∨(∃ a c,v=.slice (some a) 0 c∧l=[])∨l.isEmpty=false:=by
 cases h with
 | slE a c T hn=>
  cases a with
  | none=>rw [hn rfl]; exact .inl ⟨rfl,rfl⟩
  | some a=>exact .inr (.inl ⟨a,c,rfl,rfl⟩)
 | sl b off cap T l us hF hcap hlen hc hr=>
  cases l with
  | nil=>exact .inr (.inl ⟨_,cap,rfl,rfl⟩)
  | cons x r=>exact .inr (.inr rfl)
theorem ztt {P:Program} {cx cx':Cx ty} (hm:P.follows .mixedOrders=true) (hcx:CxOK P cx) (hsame:cx.Same cx') (hspec:∀ g s,cx'.spec g=some s→Sound P cx g s)
  {f:Nat} {fn:Func} {c:Code} (hent:∀ args w,(callFunc f args).run P w=.ok (.enter f args) w) (hf:P.funcs[f]? =some fn) (hb:fn.body=some c) (hl:ziJ cx' c) {T:Nat} {bytes:Nat}
  (h1:ze9 cx' fn c ⟨[.own T],[]⟩ [.pure (.lit (.slice none 0 0))]=some ⟨[.own T []],[]⟩)
  (h2:∀ a n,ze9 cx' fn c ⟨[.own T],[]⟩ [.pure (.lit (.slice (some a) 0 n))]=some ⟨[.own T []],[]⟩)
  (h3:∀ l:List (ty T),ze9 cx' fn c ⟨[.own T],[]⟩ [.pure (.sl T l)]=bif !l.isEmpty then bif decide ((([]:List (ty T)).length+l.length)*bytes≤reach) then some ⟨[.own T l],[]⟩ else none else none)
  (hn:Nat.ble 1 fn.ntmps=true):
  Sound P cx f (zk (cx:=cx) (zf (zg (vSl T)) aNil) fun x=>(decide (x.1.length*bytes≤reach),⟨[.own T x.1],[]⟩)) where
 enters:=hent
 calls:=fun as r hs w F vs hF ha hsep=>by
  unfold zk at hs
  split at hs
  ·rename_i x hx
   simp only [Option.some.injEq,Prod.mk.injEq] at hs
   obtain ⟨hpre,rfl⟩:=hs
   have hk:=(zf (zg (vSl (cx:=cx) T)) aNil).kind vs as x hx
   have ha':=(zf (zg (vSl (cx:=cx) T)) aNil).ok P hcx F w vs as x hx ha
   obtain ⟨l,_⟩:=x
   obtain ⟨v,vs',rfl,hv,hv'⟩:=ha'.inv
   obtain rfl:=hv'.nil_left.1
   have hv:Rep cx F w v (.sl T l):=hv
   have fin:∀ (a:AV ty),Rep cx F w v a→ze9 cx' fn c ⟨[.own T],[]⟩ [.pure a]=some ⟨[.own T l],[]⟩→Calls P f [v].toArray w fun e w'=>∃ u,e=.returned u∧Post cx F w (zQ [v] as) ⟨[.own T l],[]⟩ u w':=by
    intro a hra hrun
    have:=zCt hm (hcx.cg hsame.s) (fun g s hg=>(hspec g s hg).cg hsame) hf hb hl hrun hn rfl w F [v] hF (.cons (show zgJ cx' F w v (.pure a) from Rep.cg hsame.s.enc hra) .nil) (SepW.cg hsame.s ⟨by intro i j u u' b h; simp [zQ] at h,⟨hsep.g.inv,fun b ⟨v,hv,_⟩=>by simp [zQ] at hv,hsep.g.size⟩⟩)
    refine this.mono fun e w' ⟨u,he,hp⟩=>⟨u,he, ?_⟩
    rw [hk]
    exact hp.cg hsame.s.symm fun e=>hsame.dr ▸ e
   rcases zGk hv with ⟨rfl,rfl⟩ | ⟨a,n,rfl,rfl⟩ | hne
   ·exact fin _ (.lit _) h1
   ·exact fin _ (.lit _) (h2 a n)
   ·refine fin _ hv ?_
    rw [h3,hne]
    simp only [Bool.not_false,cond_true,List.length_nil,Nat.zero_add]
    simp only at hpre
    rw [hpre]; rfl
  ·cases hs
end
end Go.Ab
/- Trees of integers with their lexicographic order: a total order. Plain Lean. -/
namespace Go.Ab
noncomputable section
inductive TT where
 | i (n:Int)
 | l (ts:List TT)
def cmpI (a b:Int):Int:=if a<b then -1 else if b<a then 1 else 0
mutual
def cmpT:TT→TT→Int
 | .i a,.i b=>cmpI a b
 | .l a,.l b=>cmpL a b
 | .i _,.l _=> -1
 | .l _,.i _=>1
def cmpL:List TT→List TT→Int
 | [],[]=>0
 | [],_::_=> -1
 | _::_,[]=>1
 | x::a,y::b=>if cmpT x y=0 then cmpL a b else cmpT x y
end
theorem zIj (a b:Int):cmpI b a= - cmpI a b:=by unfold cmpI; split <;>split <;>omega
theorem zJS {a b:Int} (h:cmpI a b=0):a=b:=by
 unfold cmpI at h; split at h
 ·omega
 ·split at h <;>omega
theorem zHI {a b c:Int} (h1:cmpI a b≤0) (h2:cmpI b c≤0):cmpI a c≤0:=by
 unfold cmpI at *
 by_cases p:b<a
 ·rw [if_neg (by omega),if_pos p] at h1; omega
 ·by_cases q:c<b
  ·rw [if_neg (by omega),if_pos q] at h2; omega
  ·by_cases r:a<c
   ·rw [if_pos r]; omega
   ·rw [if_neg r,if_neg (by omega)]; omega
theorem zI4 (a b:Int):cmpI a b= -1∨cmpI a b=0∨cmpI a b=1:=by
 unfold cmpI
 split
 ·simp
 ·split <;>simp
mutual
theorem zw5:∀ a b:TT,cmpT b a= - cmpT a b
 | .i a,.i b=>by simp only [cmpT]; exact zIj a b
 | .l a,.l b=>by simp only [cmpT]; exact zEr a b
 | .i _,.l _=>by simp only [cmpT]; rfl
 | .l _,.i _=>by simp only [cmpT]
theorem zEr:∀ a b:List TT,cmpL b a= - cmpL a b
 | [],[]=>by simp only [cmpL]; rfl
 | [],_::_=>by simp only [cmpL]; rfl
 | _::_,[]=>by simp only [cmpL]
 | x::a,y::b=>by
  simp only [cmpL]
  rw [zw5 x y,zEr a b]
  split <;>split <;>omega
end
mutual
theorem zvw:∀ a b:TT,cmpT a b=0→a=b
 | .i a,.i b=>fun h=>by simp only [cmpT] at h; rw [zJS h]
 | .l a,.l b=>fun h=>by simp only [cmpT] at h; rw [zGW a b h]
 | .i _,.l _=>fun h=>by simp only [cmpT] at h; omega
 | .l _,.i _=>fun h=>by simp only [cmpT] at h; omega
theorem zGW:∀ a b:List TT,cmpL a b=0→a=b
 | [],[]=>fun _=>rfl
 | [],_::_=>fun h=>by simp only [cmpL] at h; omega
 | _::_,[]=>fun h=>by simp only [cmpL] at h; omega
 | x::a,y::b=>fun h=>by
  simp only [cmpL] at h
  split at h
  ·rename_i h0
   rw [zvw x y h0,zGW a b h]
  ·rename_i h0; exact absurd h h0
end
theorem zEv (a:TT):cmpT a a=0:=by have:=zw5 a a; omega
mutual
theorem zHi:∀ a b c:TT,cmpT a b≤0→cmpT b c≤0→cmpT a c≤0
 | .i a,.i b,.i c=>fun h1 h2=>by simp only [cmpT] at *; exact zHI h1 h2
 | .l a,.l b,.l c=>fun h1 h2=>by simp only [cmpT] at *; exact zDR a b c h1 h2
 | .i a,.i b,.l c=>fun h1 h2=>by simp only [cmpT]; omega
 | .i a,.l b,.l c=>fun h1 h2=>by simp only [cmpT]; omega
 | .i a,.l b,.i c=>fun h1 h2=>by simp only [cmpT] at h2; omega
 | .l a,.i b,_=>fun h1 h2=>by simp only [cmpT] at h1; omega
 | .l a,.l b,.i c=>fun h1 h2=>by simp only [cmpT] at h2; omega
theorem zDR:∀ a b c:List TT,cmpL a b≤0→cmpL b c≤0→cmpL a c≤0
 | [],_,[]=>fun h1 h2=>by simp only [cmpL]; omega
 | [],_,_::_=>fun h1 h2=>by simp only [cmpL]; omega
 | _::_,[],_=>fun h1 h2=>by simp only [cmpL] at h1; omega
 | _::_,_::_,[]=>fun h1 h2=>by simp only [cmpL] at h2; omega
 | x::a,y::b,z::c=>fun h1 h2=>by
  simp only [cmpL] at *
  by_cases p:cmpT x y=0
  ·rw [if_pos p] at h1
   have p':=zvw x y p
   subst p'
   by_cases q:cmpT x z=0
   ·rw [if_pos q] at h2 ⊢; exact zDR a b c h1 h2
   ·rw [if_neg q] at h2 ⊢; exact h2
  ·rw [if_neg p] at h1
   by_cases q:cmpT y z=0
   ·have q':=zvw y z q
    subst q'
    rw [if_neg p]; exact h1
   ·rw [if_neg q] at h2
    have t:=zHi x y z h1 h2
    by_cases r:cmpT x z=0
    ·have r':=zvw x z r
     subst r'
     have:=zw5 x y
     omega
    ·rw [if_neg r]; exact t
end
mutual
theorem zFw:∀ a b:TT,cmpT a b= -1∨cmpT a b=0∨cmpT a b=1
 | .i a,.i b=>by simp only [cmpT]; exact zI4 a b
 | .l a,.l b=>by simp only [cmpT]; exact zF5 a b
 | .i _,.l _=>by simp [cmpT]
 | .l _,.i _=>by simp [cmpT]
theorem zF5:∀ a b:List TT,cmpL a b= -1∨cmpL a b=0∨cmpL a b=1
 | [],[]=>by simp [cmpL]
 | [],_::_=>by simp [cmpL]
 | _::_,[]=>by simp [cmpL]
 | x::a,y::b=>by
  simp only [cmpL]
  split
  ·exact zF5 a b
  ·exact zFw x y
end
def trB (b:ByteArray):TT:=.l (b.data.toList.map fun x=>.i (x.toNat:Int))
theorem zGI:∀ a b:List UInt8,Lib.compareBytes a b=cmpL (a.map fun x=>.i (x.toNat:Int)) (b.map fun x=>.i (x.toNat:Int))
 | [],[]=>by simp only [Lib.compareBytes,List.map,cmpL]
 | [],_::_=>by simp only [Lib.compareBytes,List.map,cmpL]
 | _::_,[]=>by simp only [Lib.compareBytes,List.map,cmpL]
 | x::a,y::b=>by
  simp only [Lib.compareBytes,List.map,cmpL,cmpT,cmpI]
  have e1:(x<y)↔(x.toNat:Int)<(y.toNat:Int):=by rw [UInt8.lt_iff_toNat_lt]; omega
  have e2:(y<x)↔(y.toNat:Int)<(x.toNat:Int):=by rw [UInt8.lt_iff_toNat_lt]; omega
  by_cases p:x<y
  ·simp [p,e1.1 p]
  ·by_cases q:y<x
   ·simp only [if_neg p,if_pos q,if_neg (fun h=>p (e1.2 h)),if_pos (e2.1 q)]; rfl
   ·simp only [if_neg p,if_neg q,if_neg (fun h=>p (e1.2 h)),if_neg (fun h=>q (e2.2 h)),if_true]; exact zGI a b
theorem zGZ (a b:ByteArray):Lib.compareBytes a.data.toList b.data.toList=cmpT (trB a) (trB b):=by rw [zGI]; simp only [trB,cmpT]
end
end Go.Ab
