/- Texts of this claim, joined (an interpreter of the code over typed data, and its soundness). -/
import Derived.Scope
import Derived.Laws.Sem
import Derived.Test.YtoknknbmfmddbaaGreatDoorGA1
set_option autoImplicit false
set_option linter.unusedVariables false
set_option linter.unusedSectionVars false
set_option linter.unusedSimpArgs false
/- Contracts of functions over abstract values, and a call against the machine's. -/
namespace Go.Ab
noncomputable section
variable {ty:Nat->Type}
section
variable {P:Program} {cx:Cx ty} {e:Env} {st:St ty} {κ:Nat->Value} {a:Act} {w:World} {o:Oper} {d:Delta ty} {Q:Exit->Act->World->Prop}
theorem zbgg {S:Value->AV ty->Prop} (hcx:CxOK P cx) {el lo n:Nat} {l:List (ty el)} {z:ty el} {xs zs:List Value} (h:All2 S xs (zcP cx el l)) (hz:All2 S zs (zcP cx el (List.replicate n z))) (hl:zs.length=n*zt cx el):
  All2 S (xs.take (lo*zt cx el)++zs++xs.drop (lo*zt cx el+zs.length)) (zcP cx el (l.take lo++List.replicate n z++l.drop (lo+n))):=by
 have m1:(lo+n)*zt cx el=lo*zt cx el+n*zt cx el:=q2s _ _ _;unfold zcP;rw [List.flatMap_append,List.flatMap_append,zDK _ _ (hcx.len el),zwA _ _ (hcx.len el),hl, <- m1];exact ((h.take _).append hz).append (h.drop _)
theorem zbjB {args:Array Operand} {ts:Array TypeId} (hcx:CxOK P cx) (ho:o.op=.call { callee:=.builtin .clear,args:=args,argTypes:=ts }) (h:aop cx o st=some d) (hf:RF cx e st κ a w):o.wp P a w (λa' w'=>R cx e (st.app o.dst d) a' w') Q:=by
 unfold aop ze8 at h;simp only [ho] at h;have hall:=zAN hf args.toList;have hex:=zvG (a:=a) ho;unfold zim at h;generalize hts:ts.toList=tl at h;generalize hvs:args.toList.map st.ev=vl at h hall
 match tl,vl,h,hall with
 | [T],[.sub id lo n],h,hall=>
  obtain ⟨u,us',hus,hu,h'⟩:=hall.inv;have h20:us'=[]:=h'.nil_left.1;subst h20;simp only at h;split at h
  ·rename_i el sz bz zz T' l hT hbl;have hund:=zjE hcx hT;split at h
   ·rename_i inf heT hinf;have heT:el=T':=qx heT;subst heT;split at h
    ·cases h
    ·rename_i z hdec;obtain ⟨hb,h⟩:=zfD h;simp only [qb] at hb;simp only [q0] at h; subst h;have hts':ts=#[T]:=by apply Array.ext'; exact hts
     have hargs:args.map a.eval=#[u]:=by apply Array.ext'; rw [q2t]; exact hus
     have run:∀ w',(Builtin.clear_ #[T] o.type #[u]).run P w=.ok (.tuple #[]) w'->(execOp a.eval o).run P w=.ok (.value (.tuple #[])) w':=by
      intro w' hv';rw [hex,hts',hargs];simp only [builtin,Sem.run_bind,hv',Result.andThen_ok,Sem.run_pure]
     have hbl0:(gD .none st.blks id)=.arr el l false:=hbl;obtain ⟨info,desc,zv,hi,hu2,hs,hbb,hz,hzc,hzl,hz1,hd⟩:=(hcx.ti el _ hinf).ok;have hk:zt cx el=inf.size:=by simp [zt,hinf]
     have hzs:zv.cells.size=inf.size:=by rw [<- q1h,hzc,hzl]
     have hll:(l.take lo++List.replicate n z++l.drop (lo+n)).length=l.length:=by simp; omega
     have hkd:(Blk.arr el (l.take lo++List.replicate n z++l.drop (lo+n)) false:Blk ty).kind cx=((gD .none st.blks id)).kind cx:=by rw [hbl0]; simp only [Blk.kind,hll]
     -- nothing is written
     have same:n=0->(Builtin.clear_ #[T] o.type #[u]).run P w=.ok (.tuple #[]) w->o.wp P a w (λa' w'=>R cx e (st.app o.dst { val:=.dead,wr:=[(id,.arr el (l.take lo++List.replicate n z++l.drop (lo+n)) false)] }) a' w') Q:=by
      intro hn hrun
      have hst:=zHc (B:=st.blks) (κ:=κ) (w:=w) (w':=w) (nb:=.arr el (l.take lo++List.replicate n z++l.drop (lo+n)) false) hf.rb (n:=id) (by rw [hbl0]; rfl) hkd rfl rfl rfl rfl (λ_ _=>.inl rfl)
       (λhc=>by
        have e1:l.take lo++List.replicate n z++l.drop (lo+n)=l:=by rw [hn]; simp
        have h1:∀ F' w',zdp cx F' w' (κ id) el l->zdp cx F' w' (κ id) el (l.take lo++List.replicate n z++l.drop (lo+n)):=λF' w' h=>by rw [e1]; exact h
        obtain ⟨xs,hown,ha⟩:=hf.rb.row hbl;exact h1 _ _ ⟨xs,hown,ha.imp λ_ _ h=>(hc.rep' h)⟩)
      refine zZ (run w hrun) ⟨κ,hf.put ?_ ?_ (λ_=>.dead _)⟩
      ·rw [zdK]; exact hst.1
      ·rw [zdK]; exact hst.2
     cases hu with
     | rep hu=>cases hu
     | sub _ _ _ _ k m hk' hlm hv=>
      rcases zDR (hf.rb.row hbl) with ⟨hκ,hl0⟩ | ⟨g,cap,hκ,hcap⟩
      ·rw [hκ] at hv;unfold zow at hv;obtain ⟨b,c,rfl,hn,_⟩:=hv;subst hn;refine same rfl ?_;cases b <;>simp [Builtin.clear_,zdJ hund]
      ·rw [hκ] at hv;unfold zow at hv;rcases hv with rfl | ⟨hn,_,b,c,rfl,_⟩
       ·by_cases hn:n=0
        ·subst hn;exact same rfl (by simp [Builtin.clear_,zdJ hund])
        ·have hrow:=hf.rb.row hbl;rw [hκ] at hrow;obtain ⟨xs,hown,ha⟩:=hrow;simp only [hbl,Blk.kind,Kind.arr.injEq] at hk';obtain ⟨rfl,rfl⟩:=hk';rcases hown.2 with ⟨hbad,_⟩ | ⟨g2,cap2,cur,hv2,_,hg,hnc,hcm,hcs,htake⟩
         ·simp at hbad
         ·simp only [Value.slice.injEq,q0,Addr.mk.injEq,and_true,true_and] at hv2;obtain ⟨rfl,rfl⟩:=hv2;have hxl:xs.length=l.length*zt cx el:=hown.1;have hmk:(Builtin.zeroCells zv.cells n)=madeCells zv.cells (n*zt cx el):=by rw [hk, <- hzs]; rfl
          have hms:(madeCells zv.cells (n*zt cx el)).toList.length=n*zt cx el:=size_madeCells _ _;have m1:(lo+n)*zt cx el=lo*zt cx el+n*zt cx el:=q2s _ _ _;have m2:(lo+n)*zt cx el<=l.length*zt cx el:=q1v _ hb;have m3:l.length*zt cx el<=cap*zt cx el:=q1v _ hnc
          have hzr:All2 (Rep cx (Fz e st.blk κ w) w) (madeCells zv.cells (n*zt cx el)).toList (zcP cx el (List.replicate n z)):=by
           have:=z28 (n:=n) (c:=n) hcx hk hzs (z4w (F:=Fz e st.blk κ w) (w:=w) hcx hzc hdec) (qn _);rw [<- hk,q24 (by rw [hms]; exact qn _)] at this
           exact this
          have hcl:cur.toList.length=cur.size:=rfl;have hsto:=run_storeCells_at P g (lo*zt cx el) el (madeCells zv.cells (n*zt cx el)).toList 0 cur w hg (by omega) (z3C hcx hzr)
          simp only [Nat.add_zero] at hsto
          have hst:=zHc (B:=st.blks) (κ:=κ) (w:=w) (w':=w.setRow g (cur.toList.take (lo*zt cx el)++(madeCells zv.cells (n*zt cx el)).toList++cur.toList.drop (lo*zt cx el+(madeCells zv.cells (n*zt cx el)).toList.length)).toArray)
           (nb:=.arr el (l.take lo++List.replicate n z++l.drop (lo+n)) false) hf.rb (n:=id) (by rw [hbl0]; rfl) hkd rfl rfl rfl (by simp)
           (λb2 _=>by
            rcases zBw (w:=w) g b2 (cur.toList.take (lo*zt cx el)++(madeCells zv.cells (n*zt cx el)).toList++cur.toList.drop (lo*zt cx el+(madeCells zv.cells (n*zt cx el)).toList.length)).toArray with h' | h'
            ·exact .inl h'
            ·subst h'; exact .inr (by rw [hκ]; rfl))
           (λhc=>by
            rw [hκ];refine ⟨xs.take (lo*zt cx el)++(madeCells zv.cells (n*zt cx el)).toList++xs.drop (lo*zt cx el+(madeCells zv.cells (n*zt cx el)).toList.length),⟨?_,.inr ⟨g,cap,_,by rw [hll],q19 _,setRow_heap w g cur _ el _ hg,by rw [hll]; exact hnc,hcm, ?_, ?_⟩⟩, ?_⟩
            ·rw [hll,qf,qf,q15,q2q,hms]; omega
            ·simp only [List.size_toArray,qf,q15,q2q,hms]; omega
            ·have ht:=z2V cur.toList (madeCells zv.cells (n*zt cx el)).toList (lo*zt cx el) (l.length*zt cx el) (by omega) (by omega)
             rw [htake] at ht;rw [hll]
             simpa only [List.toList_toArray] using ht
            ·exact zbgg hcx (ha.imp λ_ _ h=>hc.rep' h) (hzr.imp λ_ _ h=>hc.rep' h) hms)
          refine zZ (run (w.setRow g (cur.toList.take (lo*zt cx el)++(madeCells zv.cells (n*zt cx el)).toList++cur.toList.drop (lo*zt cx el+(madeCells zv.cells (n*zt cx el)).toList.length)).toArray) ?_) ⟨κ,hf.put ?_ ?_ (λ_=>.dead _)⟩
          ·rw [zf5,q1s];obtain ⟨n',rfl⟩:∃ n',n=n'+1:=⟨n - 1,by omega⟩
           simp only [Builtin.clear_,List.getElem?_toArray,q1x,Sem.run_bind,zdJ hund,Result.andThen_ok,zMk hi hz,hmk,hsto,Sem.run_pure]
          ·rw [zdK]; exact hst.1
          ·rw [zdK]; exact hst.2
       ·subst hn;refine same rfl ?_;cases b <;>simp [Builtin.clear_,zdJ hund]
     | subD _ _ _ _ hk'=>simp [hbl,Blk.kind] at hk'
   ·cases h
  ·cases h
end
def zFh:List Value->Value
 | [v]=>v
 | vs=>.tuple vs.toArray
def zkc (cx:Cx ty) (F:Nat->Prop) (w:World) (v:Value):Arg ty->Prop
 | .pure a=>Rep cx F w v a
 | .own T l=>zdp cx F w v T l/\∀ b,zbj v=some b->¬ F b
def zbo:List Value->List (Arg ty)->List Value
 | v::vs,.own _ _::as=>v::zbo vs as
 | _::vs,.pure _::as=>zbo vs as
 | _,_=>[]
def zbiD (L:List Value):Prop:=∀ (i j:Nat) u v b,L[i]? =some u->L[j]? =some v->zbj u=some b->zbj v=some b->i=j
def z8y (cx:Cx ty) (F:Nat->Prop) (w w':World) (OP:Nat->Prop) (v:Value):RV ty->Prop
 | .pure a=>Rep cx F w' v a
 | .own T l=>zdp cx F w' v T l/\∀ b,zbj v=some b->¬ F b/\(OP b\/w.heap.size<=b)
def zbjT (cx:Cx ty) (F:Nat->Prop) (w':World) (v:Value):Option ((T:Nat)×List (ty T))->Prop
 | none=>True
 | some x=>zdp cx F w' v x.1 x.2/\∀ b,zbj v=some b->¬ F b
def znJ (L:List Value) (b:Nat):Prop:=∃ v∈L,zbj v=some b
structure SepW (cx:Cx ty) (w:World) (L:List Value):Prop where
 sep:zbiD L
 g:GOK cx w (znJ L)
structure Kept (dr:Bool) (OP:Nat->Prop) (w w':World):Prop where
 os:w'.os=w.os
 tape:w'.tape=w.tape
 output:w'.output=w.output
 drawn:dr=true->w.drawn<=w'.drawn
 size:w.heap.size<=w'.heap.size
 keep:∀ b,b<w.heap.size->¬ OP b->w'.heap[b]? =w.heap[b]?
structure Post (cx:Cx ty) (F:Nat->Prop) (w:World) (owns:List Value) (res:ARes ty) (v:Value) (w':World):Prop where
 ok:∃ (F':Nat->Prop) (rs:List Value),v=zFh rs/\Kept cx.dr (znJ owns) w w'/\(∀ b,F b->F' b)/\(∀ b,F' b->b<w'.heap.size/\(F b\/znJ owns b\/w.heap.size<=b))/\
  All2 (z8y cx F' w w' (znJ owns)) rs res.vals/\All2 (zbjT cx F' w') owns res.upd/\
  (∀ (i j:Nat) T l T' l' u v b,res.vals[i]? =some (.own T l)->res.vals[j]? =some (.own T' l')->rs[i]? =some u->rs[j]? =some v->zbj u=some b->zbj v=some b->i=j)/\
  (∀ (i m:Nat) T l x u v b,res.vals[i]? =some (.own T l)->res.upd[m]? =some (some x)->rs[i]? =some u->owns[m]? =some v->zbj u=some b->zbj v≠some b)
structure Sound (P:Program) (cx:Cx ty) (f:Nat) (s:Spec ty):Prop where
 enters:∀ args w,(callFunc f args).run P w=.ok (.enter f args) w
 calls:∀ as res,s as=some (true,res)->∀ (w:World) (F:Nat->Prop) (vs:List Value),(∀ b,F b->b<w.heap.size)->All2 (zkc cx F w) vs as->SepW cx w (zbo vs as)->
  Calls P f vs.toArray w λe w'=>∃ v,e=.returned v/\Post cx F w (zbo vs as) res v w'
section
variable {P:Program} {cx:Cx ty} {e:Env} {st:St ty} {κ:Nat->Value} {a:Act} {w:World} {o:Oper} {d:Delta ty} {Q:Exit->Act->World->Prop}
theorem zLs {F:Nat->Prop} {T:Nat} {v:Value} {av:AV ty} {l:List (ty T)} (hr:Rep cx F w v av) (h:z7u T av=some l):Rep cx F w v (.sl T l):=by
 unfold z7u at h;split at h
 ·rename_i T' l';obtain ⟨rfl,rfl⟩:=zAP h;exact hr
 ·simp only [q0] at h; subst h;cases hr;exact .slE none 0 T (λ_=>rfl)
 ·cases h
theorem zbcL (hcx:CxOK P cx) {F:Nat->Prop} {T:Nat} {v:Value} {av av':AV ty} (hr:Rep cx F w v av) (h:zbdK cx T av=some av'):Rep cx F w v av':=by
 unfold zbdK at h;split at h
 ·split at h
  ·rename_i l hl;simp only [q0] at h; subst h;exact zLs hr hl
  ·cases h
 ·split at h
  ·rename_i cs;split at h
   ·rename_i x hx;simp only [q0] at h; subst h;cases hr with
    | agg vs _ hlen hr=>
     have:=hcx.dec T cs x hx F w vs ⟨hlen,hr⟩;exact .agg vs _ this.len this.at_
   ·cases h
  ·cases h
 ·simp only [q0] at h; subst h; exact hr
theorem zZn (hcx:CxOK P cx) {F:Nat->Prop} {T:Option Nat} {v:Value} {av av':AV ty} (hr:Rep cx F w v av) (h:z6m cx T av=some av'):Rep cx F w v av':=by
 cases T with
 | none=>simp only [z6m,q0] at h; subst h; exact hr
 | some T=>exact zbcL hcx hr h
theorem z7m (hrb:RB cx e st.blk κ w) {v:Value} {id T:Nat} {l:List (ty T)} {fz:Bool} (hr:ziB cx e st κ w v (.own id)) (hb:st.blk id=.arr T l fz):v=κ id:=by
 cases hr with
 | rep hr=>cases hr
 | own=>rfl
 | ownD _ _ hk=>simp [hb,Blk.kind] at hk
theorem zJT (hcx:CxOK P cx) (hrb:RB cx e st.blk κ w) {F1:Nat->Prop}:
  ∀ (avs:List (AV ty)) (io:List Bool) (ts:List Nat) (vs:List Value) (as:List (Arg ty)) (fz mv:List Nat),All2 (ziB cx e st κ w) vs avs->zmY cx st io ts avs=some (as,fz,mv)->
   (∀ v av a' ids,ziB cx e st κ w v av->zbE cx st zdh av=some (a',ids)->(∀ id∈ids,id∈fz)->Rep cx F1 w v a')->
   (∀ id T l,id∈mv->st.blk id=.arr T l false->zdp cx F1 w (κ id) T l/\∀ b,zbj (κ id)=some b->¬ F1 b)->
   All2 (zkc cx F1 w) vs as/\zbo vs as=mv.map κ/\∀ id∈mv,(st.blk id).unfz
 | [],io,ts,vs,as,fz,mv,hv,h,_,_=>by
  rw [hv.nil_left.1];simp only [zmY,q0,qe] at h;obtain ⟨rfl,rfl,rfl⟩:=h;exact ⟨.nil,rfl,by simp⟩
 | av::avs,io,ts,vs,as,fz,mv,hv,h,hp,ho=>by
  obtain ⟨v,vs',rfl,hr,hv'⟩:=hv.inv;simp only [zmY] at h;split at h
  ·cases h
  ·rename_i as' fz' mv' hrest;split at h
   ·-- handed over
    split at h
    ·rename_i id;split at h
     ·rename_i T l hb;simp only [q0,qe] at h;obtain ⟨rfl,rfl,rfl⟩:=h;obtain ⟨h1,h2,h3⟩:=zJT hcx hrb avs _ _ vs' as' fz' mv' hv' hrest hp (λi T l hi=>ho i T l (by simp [hi]))
      have hv0:=z7m hrb hr hb;subst hv0
      exact ⟨.cons (ho id T l (by simp) hb) h1,by simp [zbo,h2],λi hi=>by
       rcases q8.1 hi with rfl | hi
       ·rw [hb]; rfl
       ·exact h3 i hi⟩
     ·cases h
    ·cases h
   ·split at h
    ·cases h
    ·rename_i a1 ids hpure;split at h
     ·cases h
     ·rename_i a2 hcan;simp only [q0,qe] at h;obtain ⟨rfl,rfl,rfl⟩:=h;obtain ⟨h1,h2,h3⟩:=zJT hcx hrb avs _ _ vs' as' fz' mv' hv' hrest (λv av a' ids hr hpp hi=>hp v av a' ids hr hpp (λid hid=>by simp [hi id hid])) ho
      exact ⟨.cons (zZn hcx (hp v av a1 ids hr hpure (λid hid=>by simp [hid])) hcan) h1,by simpa [zbo] using h2,h3⟩
theorem z98:∀ {l:List Nat},zgB l=true->∀ (i j:Nat) x,l[i]? =some x->l[j]? =some x->i=j
 | [],_,i,j,x,hi,_=>by simp at hi
 | y::r,h,i,j,x,hi,hj=>by
  simp only [zgB,qa,q17] at h;obtain ⟨h1,h2⟩:=h
  have hny:∀ (k:Nat),r[k]? ≠some y:=λk hk=>by
   have:r.contains y=true:=by simpa using q1l hk
   rw [this] at h1; cases h1
  cases i with
  | zero=>
   cases j with
   | zero=>rfl
   | succ j=>simp at hi hj; subst hi; exact absurd hj (hny j)
  | succ i=>
   cases j with
   | zero=>simp at hi hj; subst hj; exact absurd hi (hny i)
   | succ j=>simp at hi hj; rw [z98 h2 i j x hi hj]
theorem zbfx:∀ (wr:List (Nat×Blk ty)) (b:List (Blk ty)) (j:Nat),zgB (wr.map (·.1))=true->(∀ p∈wr,p.1<b.length)->(gD .none (zcr b wr) j)=(wr.lookup j).getD ((gD .none b j))
 | [],b,j,_,_=>by simp [zcr]
 | (i,x)::r,b,j,hn,hl=>by
  simp only [q1q,zgB,qa,q17] at hn;obtain ⟨h1,h2⟩:=hn;simp only [zcr];rw [zbfx r (b.set i x) j h2 (λp hp=>by rw [List.length_set]; exact hl p (by simp [hp])),zbI]
  by_cases hij:i=j
  ·subst hij
   have hno:r.lookup i=none:=by
    rw [List.lookup_eq_none_iff];intro p hp;have:¬ (r.map (·.1)).contains i=true:=by rw [h1]; simp
    simp only [q2h,qb] at this;simp only [q22,ne_eq,bne_iff_ne];intro he;exact this (q1p.2 ⟨p,hp,he.symm⟩)
   have hlt:=hl (i,x) (by simp)
   simp [hno,hlt,List.lookup]
  ·have:(j==i)=false:=by simp; exact λh=>hij h.symm
   simp [List.lookup,this,hij]
end
end
end Go.Ab
/- A call against the machine's. -/
namespace Go.Ab
noncomputable section
variable {ty:Nat->Type}
section
variable {P:Program} {cx:Cx ty} {e:Env} {st:St ty} {κ:Nat->Value} {a:Act} {w:World} {o:Oper} {d:Delta ty} {Q:Exit->Act->World->Prop}
theorem zXB:∀ {mv:List Nat} {us:List (Option ((T:Nat)×List (ty T)))} {r:List (Nat×Blk ty)},zgr st mv us=some r->r=(mv.zip us).map (λp=>(p.1,zAd p.2))/\mv.length=us.length/\
  ∀ (m i:Nat) (x:(T:Nat)×List (ty T)),mv[m]? =some i->us[m]? =some (some x)->∃ l0 f0,st.blk i=.arr x.1 l0 f0
 | [],[],r,h=>by simp only [zgr,q0] at h; subst h; exact ⟨rfl,rfl,λm i x h=>by simp at h⟩
 | [],u::us,r,h=>by simp [zgr] at h
 | i::mv,[],r,h=>by simp [zgr] at h
 | i::mv,u::us,r,h=>by
  simp only [zgr] at h;split at h
  ·cases h
  ·rename_i r' hr;obtain ⟨h1,h2,h3⟩:=zXB hr;split at h
   ·simp only [q0] at h; subst h;refine ⟨by rw [h1]; rfl,by simp [h2],λm j x hm hx=> ?_⟩
    cases m with
    | zero=>simp at hx
    | succ m=>exact h3 m j x (by simpa using hm) (by simpa using hx)
   ·rename_i T l;split at h
    ·rename_i T0 l0 f0 hb;split at h
     ·rename_i hT;have hT:T=T0:=qx hT;subst hT;simp only [q0] at h; subst h;refine ⟨by rw [h1]; rfl,by simp [h2],λm j x hm hx=> ?_⟩
      cases m with
      | zero=>simp at hm hx; subst hm; subst hx; exact ⟨l0,f0,hb⟩
      | succ m=>exact h3 m j x (by simpa using hm) (by simpa using hx)
     ·cases h
    ·cases h
theorem zP7:∀ (id:Nat) (vals:List (RV ty)),(zbc id vals).1.length=vals.length
 | _,[]=>rfl
 | id,.pure a::r=>by simp [zbc,zP7 (id+1) r]
 | id,.own T l::r=>by simp [zbc,zP7 (id+1) r]
theorem zMh:∀ (id:Nat) (vals:List (RV ty)) (j:Nat) (av:AV ty),vals[j]? =some (.pure av)->(zbc id vals).1[j]? =some av
 | id,v::r,0,av,h=>by simp at h; subst h; simp [zbc]
 | id,.pure b::r,j+1,av,h=>by simpa [zbc] using zMh (id+1) r j av (by simpa using h)
 | id,.own T l::r,j+1,av,h=>by simpa [zbc] using zMh (id+1) r j av (by simpa using h)
theorem zCi:∀ (id:Nat) (vals:List (RV ty)) (j:Nat) (T:Nat) (l:List (ty T)),vals[j]? =some (.own T l)->(zbc id vals).1[j]? =some (.own (id+j))/\(id+j,Blk.arr T l false)∈(zbc id vals).2
 | id,v::r,0,T,l,h=>by simp at h; subst h; simp [zbc]
 | id,.pure b::r,j+1,T,l,h=>by
  have:=zCi (id+1) r j T l (by simpa using h)
  rw [show id+(j+1)=id+1+j by omega]
  simpa [zbc] using this
 | id,.own T' l'::r,j+1,T,l,h=>by
  have:=zCi (id+1) r j T l (by simpa using h)
  rw [show id+(j+1)=id+1+j by omega]
  refine ⟨by simpa [zbc] using this.1, ?_⟩
  simp only [zbc];exact q1y _ this.2
theorem zQP:∀ (id:Nat) (vals:List (RV ty)) (p:Nat×Blk ty),p∈(zbc id vals).2->∃ j T l,vals[j]? =some (.own T l)/\p=(id+j,.arr T l false)
 | id,[],p,h=>by simp [zbc] at h
 | id,.pure b::r,p,h=>by
  obtain ⟨j,T,l,h1,h2⟩:=zQP (id+1) r p (by simpa [zbc] using h)
  exact ⟨j+1,T,l,by simpa using h1,by rw [h2,show id+(j+1)=id+1+j by omega]⟩
 | id,.own T' l'::r,p,h=>by
  simp only [zbc] at h;rcases q8.1 h with rfl | h
  ·exact ⟨0,T',l',rfl,rfl⟩
  ·obtain ⟨j,T,l,h1,h2⟩:=zQP (id+1) r p h;exact ⟨j+1,T,l,by simpa using h1,by rw [h2,show id+(j+1)=id+1+j by omega]⟩
theorem zKf:∀ (id:Nat) (vals:List (RV ty)),zgB ((zbc id vals).2.map (·.1))=true/\∀ i∈(zbc id vals).2.map (·.1),id<=i
 | id,[]=>by simp [zbc,zgB]
 | id,.pure b::r=>by
  obtain ⟨h1,h2⟩:=zKf (id+1) r;exact ⟨by simpa [zbc] using h1,λi hi=>by have:=h2 i (by simpa [zbc] using hi); omega⟩
 | id,.own T l::r=>by
  obtain ⟨h1,h2⟩:=zKf (id+1) r;refine ⟨?_,λi hi=> ?_⟩
  ·simp only [zbc,q1q,zgB,h1,q23,q17,q2h,q1c];intro hm;have:=h2 id hm;omega
  ·simp only [zbc,q1q,q8] at hi;rcases hi with rfl | hi
   ·exact qn _
   ·have:=h2 i hi; omega
theorem zYJ:∀ {l m:List Nat},zgB l=true->zgB m=true->(∀ i∈l,i∉m)->zgB (l++m)=true
 | [],m,_,h,_=>h
 | x::l,m,h,hm,hd=>by
  simp only [zgB,qa,q17,q2h,q1c] at h;simp only [qo,zgB,qa,q17,q2h,q1c,q12,not_or];exact ⟨⟨h.1,hd x (by simp)⟩,zYJ h.2 hm (λi hi=>hd i (by simp [hi]))⟩
theorem zKv:∀ {r:List (Nat×Blk ty)} {i:Nat} {x:Blk ty},zgB (r.map (·.1))=true->(i,x)∈r->r.lookup i=some x
 | [],i,x,_,h=>by simp at h
 | (k,y)::r,i,x,hn,h=>by
  simp only [q1q,zgB,qa,q17,q2h,q1c] at hn;rcases q8.1 h with he | h2
  ·simp only [qe] at he;obtain ⟨rfl,rfl⟩:=he;simp [List.lookup]
  ·have:(i==k)=false:=by
    simp only [q22,ne_eq];intro he; subst he;exact hn.1 (q1p.2 ⟨(i,x),h2,rfl⟩)
   simp [List.lookup,this,zKv hn.2 h2]
theorem z9h {r:List (Nat×Blk ty)} {i:Nat} (h:i∉r.map (·.1)):r.lookup i=none:=by
 rw [List.lookup_eq_none_iff];intro p hp;simp only [q22,ne_eq,bne_iff_ne];intro he;exact h (q1p.2 ⟨p,hp,he.symm⟩)
theorem zZU:∀ {l:List (Nat×Blk ty)},zlQ st l=true->∀ p∈l,zfT st p.1=true
 | [],_,p,hp=>by simp at hp
 | (i,x)::r,h,p,hp=>by
  simp only [zlQ,qa] at h;rcases q8.1 hp with rfl | hp
  ·exact h.1
  ·exact zZU h.2 p hp
theorem zbkS {F F':Nat->Prop} {w w':World} {v:Value} {av:AV ty} (h:av.flat=true) (hr:Rep cx F w v av):Rep cx F' w' v av:=by
 cases av with
 | lit x=>cases hr; exact .lit _
 | err x=>cases hr with
  | errN=>exact .errN
  | errS=>exact .errS _ _
 | agg cs=>
  cases hr with
  | agg vs _ hlen hr=>
   refine .agg vs cs hlen λj u c hu hc=> ?_
   have hm:=(q1d.1 h) c (q1l hc);cases c with
   | lit x=>have:=hr j u _ hu hc; cases this; exact .lit _
   | _=>simp at hm
 | _=>simp [AV.flat] at h
theorem zbhh (hcx:CxOK P cx) {B:List (Blk ty)} {κ:Nat->Value} {w w':World} (hrb:RB cx e (λj=>(gD .none B j)) κ w) {F1 F':Nat->Prop} {mv:List Nat} {res:ARes ty} {rs:List Value} {us:List (Nat×Blk ty)} {id:Nat}
  (hmu:∀ i∈mv,((gD .none B i)).unfz) (hmn:zgB mv=true) (hus':us=(mv.zip res.upd).map (λp=>(p.1,zAd p.2))) (hlen:mv.length=res.upd.length) (hty:∀ (m i:Nat) (x:(T:Nat)×List (ty T)),mv[m]? =some i->res.upd[m]? =some (some x)->∃ l0 f0,(gD .none B i)=.arr x.1 l0 f0) (hfree:∀ p∈(zbc id res.vals).2,(gD .none B p.1)=.none/\p.1<B.length)
  (hkept:Kept cx.dr (znJ (mv.map κ)) w w') (hF1:∀ b,Fz e (λj=>(gD .none B j)) κ w b->F1 b)
  (hF'2:∀ b,F' b->b<w'.heap.size/\(F1 b\/znJ (mv.map κ) b\/w.heap.size<=b))
  (hvals:All2 (z8y cx F' w w' (znJ (mv.map κ))) rs res.vals) (hupd:All2 (zbjT cx F' w') (mv.map κ) res.upd)
  (hs1:∀ (i j:Nat) T l T' l' u v b,res.vals[i]? =some (.own T l)->res.vals[j]? =some (.own T' l')->rs[i]? =some u->rs[j]? =some v->zbj u=some b->zbj v=some b->i=j)
  (hs2:∀ (i m:Nat) T l x u v b,res.vals[i]? =some (.own T l)->res.upd[m]? =some (some x)->rs[i]? =some u->(mv.map κ)[m]? =some v->zbj u=some b->zbj v≠some b)
  (hF:res.flat=false->∀ b,F1 b->Fz e (λj=>(gD .none B j)) κ w b):
  ∃ κ',RB cx e (λj=>(gD .none (zcr B (us++(zbc id res.vals).2)) j)) κ' w'/\Compat cx e (λj=>(gD .none B j)) κ w (λj=>(gD .none (zcr B (us++(zbc id res.vals).2)) j)) κ' w'/\
   All2 (RepA cx (Fz e (λj=>(gD .none (zcr B (us++(zbc id res.vals).2)) j)) κ' w') w' (λi=>((gD .none (zcr B (us++(zbc id res.vals).2)) i)).kind cx) κ') rs (zbc id res.vals).1:=by
 have hkeys:us.map (·.1)=mv:=by
  rw [hus',List.map_map];have:((λp:Nat×Blk ty=>p.1) ∘ λp:Nat×Option ((T:Nat)×List (ty T))=>(p.1,zAd p.2))=λp=>p.1:=rfl
  rw [this,List.map_fst_zip (Nat.le_of_eq hlen)]
 have hnew:∀ i∈(zbc id res.vals).2.map (·.1),(gD .none B i)=.none/\i<B.length:=by
  intro i hi;obtain ⟨p,hp,rfl⟩:=q1p.1 hi;exact hfree p hp
 have hmlive:∀ i∈mv,i<B.length:=by
  intro i hi;rcases Nat.lt_or_ge i B.length with h | h
  ·exact h
  ·have:=hmu i hi;rw [show (gD .none B i)=.none by simp [zjB,qi,q25 h]] at this
   exact this.elim
 have hdisj:∀ i∈mv,i∉(zbc id res.vals).2.map (·.1):=by
  intro i hi hn;have h1:=hmu i hi;rw [(hnew i hn).1] at h1;exact h1
 have hnd:zgB ((us++(zbc id res.vals).2).map (·.1))=true:=by
  rw [q2g,hkeys];exact zYJ hmn (zKf id res.vals).1 hdisj
 have hget:∀ j,(gD .none (zcr B (us++(zbc id res.vals).2)) j)=((us++(zbc id res.vals).2).lookup j).getD ((gD .none B j)):=λj=>
  zbfx _ _ _ hnd (λp hp=>by
   rcases q12.1 hp with h | h
   ·exact hmlive p.1 (by rw [<- hkeys]; exact q1p.2 ⟨p,h,rfl⟩)
   ·exact (hfree p h).2)
 -- what each block is now
 have hold:∀ j,j∉mv->j∉(zbc id res.vals).2.map (·.1)->(gD .none (zcr B (us++(zbc id res.vals).2)) j)=(gD .none B j):=by
  intro j h1 h2;rw [hget,z9h (by rw [q2g,hkeys,q12]; exact λh=>h.elim h1 h2)]
  rfl
 have hmv:∀ (m i:Nat) u,mv[m]? =some i->res.upd[m]? =some u->(gD .none (zcr B (us++(zbc id res.vals).2)) i)=zAd u:=by
  intro m i u h1 h2
  rw [hget,zKv hnd (x:=zAd u) (q12.2 (.inl (by
   rw [hus'];refine q1p.2 ⟨(i,u), ?_,rfl⟩;refine q1l (i:=m) ?_;rw [List.getElem?_zip_eq_some];exact ⟨h1,h2⟩)))]
  rfl
 have hown:∀ (j T:Nat) (l:List (ty T)),res.vals[j]? =some (.own T l)->(gD .none (zcr B (us++(zbc id res.vals).2)) (id+j))=.arr T l false:=by
  intro j T l h;rw [hget,zKv hnd (q12.2 (.inr (zCi id res.vals j T l h).2))];rfl
 have hmvu:∀ i∈mv,∃ (m:Nat) (u:Option ((T:Nat)×List (ty T))),mv[m]? =some i/\res.upd[m]? =some u:=by
  intro i hi;obtain ⟨m,hm⟩:=q2i hi;have:m<res.upd.length:=by rw [<- hlen]; exact (q1t.1 hm).1
  exact ⟨m,_,hm,ql this⟩
 have hnewj:∀ i∈(zbc id res.vals).2.map (·.1),∃ j T l,res.vals[j]? =some (.own T l)/\i=id+j:=by
  intro i hi;obtain ⟨p,hp,rfl⟩:=q1p.1 hi;obtain ⟨j,T,l,h1,h2⟩:=zQP id res.vals p hp;exact ⟨j,T,l,h1,by rw [h2]⟩
 have hOP:∀ b,znJ (mv.map κ) b↔∃ i∈mv,zbj (κ i)=some b:=by
  intro b;constructor
  ·rintro ⟨v,hv,hb⟩
   obtain ⟨i,hi,rfl⟩:=q1p.1 hv;exact ⟨i,hi,hb⟩
  ·rintro ⟨i,hi,hb⟩
   exact ⟨κ i,q1p.2 ⟨i,hi,rfl⟩,hb⟩
 -- the values of the new numbers
 let κ':Nat->Value:=λi=>if i∈(zbc id res.vals).2.map (·.1) then rs.getD (i - id) undef else κ i
 have hκnew:∀ (j T:Nat) (l:List (ty T)) u,res.vals[j]? =some (.own T l)->rs[j]? =some u->κ' (id+j)=u:=by
  intro j T l u h hu;have hm:id+j∈(zbc id res.vals).2.map (·.1):=q1p.2 ⟨_,(zCi id res.vals j T l h).2,rfl⟩;simp only [κ',if_pos hm,Nat.add_sub_cancel_left,zjB,qi,hu,q2j]
 have hκold:∀ i,i∉(zbc id res.vals).2.map (·.1)->κ' i=κ i:=λi hi=>by simp only [κ',if_neg hi]
 -- what may be read by the results may be read now
 have hfin:res.flat=false->∀ b,F' b->Fz e (λj=>(gD .none (zcr B (us++(zbc id res.vals).2)) j)) κ' w' b:=by
  intro hflat b hb;obtain ⟨hlt,hor⟩:=hF'2 b hb;refine ⟨?_,hlt,λi hiu hbi=> ?_⟩
  ·rcases hor with h | h | h
   ·exact (hF hflat b h).1
   ·obtain ⟨i,hi,hbi⟩:=(hOP b).1 h;exact .inr (hrb.mine i b (hmu i hi) hbi)
   ·exact .inr (.inr (q18 hrb.size h))
  ·replace hiu:((gD .none (zcr B (us++(zbc id res.vals).2)) i)).unfz:=hiu;by_cases him:i∈mv
   ·obtain ⟨m,u,hm,hu⟩:=hmvu i him;have e1:(gD .none (zcr B (us++(zbc id res.vals).2)) i)=zAd u:=hmv m i u hm hu;rw [hκold i (hdisj i him)] at hbi;cases u with
    | none=>rw [e1] at hiu; exact hiu
    | some x=>exact (hupd.at_ m (κ i) (some x) (by rw [q14,hm]; rfl) hu).2 b hbi hb
   ·by_cases hin:i∈(zbc id res.vals).2.map (·.1)
    ·obtain ⟨j,T,l,hj,rfl⟩:=hnewj i hin;obtain ⟨v,hv,hr⟩:=hvals.getR hj;rw [hκnew j T l v hj hv] at hbi;exact (hr.2 b hbi).1 hb
    ·have e1:(gD .none (zcr B (us++(zbc id res.vals).2)) i)=(gD .none B i):=hold i him hin;rw [hκold i hin] at hbi;rw [e1] at hiu;rcases hor with h | h | h
     ·exact (hF hflat b h).2.2 i hiu hbi
     ·obtain ⟨i0,hi0,hbi0⟩:=(hOP b).1 h;exact him ((hrb.sep i i0 b hiu.live (hmu i0 hi0) hbi hbi0) ▸ hi0)
     ·have:=(hrb.old i b hiu.live hbi).2; omega
 have hdr:cx.dr=true->w.drawn<=w'.drawn:=hkept.drawn
 have hstep:=hrb.step (B':=λj=>(gD .none (zcr B (us++(zbc id res.vals).2)) j)) (κ':=κ') (w':=w') (λi=>i∈mv\/i∈(zbc id res.vals).2.map (·.1)) hkept.os hkept.tape hkept.output hkept.size
  (λb hb=>by
   by_cases hop:znJ (mv.map κ) b
   ·obtain ⟨i,hi,hbi⟩:=(hOP b).1 hop;exact .inr ⟨i,.inl hi,hmu i hi,hbi⟩
   ·exact .inl (hkept.keep b hb hop))
  (λi hi=>⟨hold i (λh=>hi (.inl h)) (λh=>hi (.inr h)),hκold i (λh=>hi (.inr h))⟩)
  (λi hi hk=>by
   rcases hi with hi | hi
   ·obtain ⟨m,u,hm,hu⟩:=hmvu i hi;have e1:(gD .none (zcr B (us++(zbc id res.vals).2)) i)=zAd u:=hmv m i u hm hu;cases u with
    | none=>right; simp only [e1,zAd,Blk.kind]
    | some x=>
     left
     refine ⟨?_,hκold i (hdisj i hi)⟩;obtain ⟨T,l⟩:=x;simp only [e1,zAd,Blk.kind];have hup:=hupd.at_ m (κ i) (some ⟨T,l⟩) (by rw [q14,hm]; rfl) hu
     obtain ⟨l0,f0,hb⟩:=hty m i ⟨T,l⟩ hm hu
     have hrow:zdp cx (Fz e (λj=>(gD .none B j)) κ w) w (κ i) T l0:=by
      have:=hrb.blk i;simp only [hb] at this;exact this
     simp only [hb,Kind.arr.injEq,true_and];rcases zDR hrow with ⟨hv,hl0⟩ | ⟨g,cap,hv,_⟩
     ·rcases zDR hup.1 with ⟨hv2,hl⟩ | ⟨g2,cap2,hv2,_⟩
      ·simp only at hl; rw [hl,hl0]
      ·rw [hv] at hv2; simp at hv2
     ·rcases zDR hup.1 with ⟨hv2,hl⟩ | ⟨g2,cap2,hv2,_⟩
      ·rw [hv] at hv2; simp at hv2
      ·rw [hv] at hv2; simp only [Value.slice.injEq] at hv2; exact hv2.2.1.symm
   ·exact absurd (by simp only [(hnew i hi).1,Blk.kind]) hk)
  (λi b hi hl hb=>by
   rcases hi with hi | hi
   ·rw [hκold i (hdisj i hi)] at hb;exact ⟨q2b (hrb.old i b (hmu i hi).live hb).2 hkept.size,.inl ⟨i,.inl hi,hmu i hi,hb⟩⟩
   ·obtain ⟨j,T,l,hj,rfl⟩:=hnewj i hi;obtain ⟨u,hu,hr⟩:=hvals.getR hj;rw [hκnew j T l u hj hu] at hb;obtain ⟨⟨xs,ho,_⟩,hblk⟩:=hr;refine ⟨zLM ho hb, ?_⟩;rcases (hblk b hb).2 with hop | hge
    ·obtain ⟨i0,hi0,hb0⟩:=(hOP b).1 hop;exact .inl ⟨i0,.inl hi0,hmu i0 hi0,hb0⟩
    ·exact .inr hge)
  (λi j b hi hj hl hu hbi hbj=>by
   have mvlive:∀ i∈mv,((gD .none (zcr B (us++(zbc id res.vals).2)) i)).live->∃ (m:Nat) (x:(T:Nat)×List (ty T)),mv[m]? =some i/\res.upd[m]? =some (some x):=by
    intro i hi hl;obtain ⟨m,u,hm,hu⟩:=hmvu i hi;have e1:(gD .none (zcr B (us++(zbc id res.vals).2)) i)=zAd u:=hmv m i u hm hu;cases u with
    | none=>rw [e1] at hl; exact hl.elim
    | some x=>exact ⟨m,x,hm,hu⟩
   rcases hi with hi | hi
   ·rcases hj with hj | hj
    ·rw [hκold i (hdisj i hi)] at hbi;rw [hκold j (hdisj j hj)] at hbj;exact hrb.sep i j b (hmu i hi).live (hmu j hj) hbi hbj
    ·obtain ⟨m,x,hm,hx⟩:=mvlive i hi hl;obtain ⟨j',T,l,hj',rfl⟩:=hnewj j hj;obtain ⟨v,hv,_⟩:=hvals.getR hj';rw [hκold i (hdisj i hi)] at hbi;rw [hκnew j' T l v hj' hv] at hbj;exact absurd hbi (hs2 j' m T l x v (κ i) b hj' hx hv (by rw [q14,hm]; rfl) hbj)
   ·obtain ⟨i',T,l,hi',rfl⟩:=hnewj i hi;obtain ⟨v,hv,_⟩:=hvals.getR hi';rw [hκnew i' T l v hi' hv] at hbi;rcases hj with hj | hj
    ·obtain ⟨m,x,hm,hx⟩:=mvlive j hj hu.live;rw [hκold j (hdisj j hj)] at hbj;exact absurd hbj (hs2 i' m T l x v (κ j) b hi' hx hv (by rw [q14,hm]; rfl) hbi)
    ·obtain ⟨j',T2,l2,hj',rfl⟩:=hnewj j hj;obtain ⟨v2,hv2,_⟩:=hvals.getR hj';rw [hκnew j' T2 l2 v2 hj' hv2] at hbj;rw [hs1 i' j' T l T2 l2 v v2 b hi' hj' hv hv2 hbi hbj])
  (λi hi hc=>by
   rcases hi with hi | hi
   ·obtain ⟨m,u,hm,hu⟩:=hmvu i hi;have e1:(gD .none (zcr B (us++(zbc id res.vals).2)) i)=zAd u:=hmv m i u hm hu;rw [hκold i (hdisj i hi)];cases u with
    | none=>rw [e1]; trivial
    | some x=>
     have hup:=hupd.at_ m (κ i) (some x) (by rw [q14,hm]; rfl) hu
     have hnf:res.flat=false:=by
      unfold ARes.flat;rw [Bool.and_eq_false_iff]
      right
      rw [List.all_eq_false];exact ⟨some x,q1l hu,by simp⟩
     rw [e1];obtain ⟨T,l⟩:=x;obtain ⟨⟨xs,ho,ha⟩,_⟩:=hup;exact ⟨xs,ho,ha.imp λ_ _ h=>h.mono λb hb=>⟨hfin hnf b hb,rfl⟩⟩
   ·obtain ⟨j,T,l,hj,rfl⟩:=hnewj i hi;obtain ⟨v,hv,hr⟩:=hvals.getR hj
    have hnf:res.flat=false:=by
     unfold ARes.flat;rw [Bool.and_eq_false_iff]
     left
     rw [List.all_eq_false];exact ⟨_,q1l hj,by simp [RV.flat]⟩
    have e1:(gD .none (zcr B (us++(zbc id res.vals).2)) (id+j))=.arr T l false:=hown j T l hj;rw [e1,hκnew j T l v hj hv];obtain ⟨⟨xs,ho,ha⟩,_⟩:=hr;exact ⟨xs,ho,ha.imp λ_ _ h=>h.mono λb hb=>⟨hfin hnf b hb,rfl⟩⟩)
 refine ⟨κ',hstep.1,hstep.2,by rw [hvals.len,zP7],λj v av hv hav=> ?_⟩
 obtain ⟨rv,hrv,hr⟩:=hvals.getL hv;cases rv with
 | pure av'=>
  rw [zMh id res.vals j av' hrv] at hav;simp only [q0] at hav; subst hav;cases hfl:res.flat with
  | true=>
   unfold ARes.flat at hfl;rw [qa] at hfl;have:=(q1d.1 hfl.1) _ (q1l hrv);exact .rep (zbkS (by simpa [RV.flat] using this) hr)
  | false=>exact .rep (hr.mono λb hb=>⟨hfin hfl b hb,rfl⟩)
 | own T l=>
  rw [(zCi id res.vals j T l hrv).1] at hav;simp only [q0] at hav; subst hav;have e1:=hκnew j T l v hrv hv
  have:=RepA.own (cx:=cx) (F:=Fz e (λj=>(gD .none (zcr B (us++(zbc id res.vals).2)) j)) κ' w') (w:=w') (kd:=λi=>((gD .none (zcr B (us++(zbc id res.vals).2)) i)).kind cx) (κ:=κ') (id+j) (zt cx T) l.length (by
   have e2:(gD .none (zcr B (us++(zbc id res.vals).2)) (id+j))=.arr T l false:=hown j T l hrv;simp only [e2,Blk.kind])
  rwa [e1] at this
theorem zbhx {F:Nat->Prop} {kd:Nat->Kind} {rs:List Value} {avs:List (AV ty)} (h:All2 (RepA cx F w kd κ) rs avs):RepA cx F w kd κ (zFh rs) (zblT avs):=by
 cases avs with
 | nil=>rw [h.nil_left.1]; exact .tup [] [] rfl (λj u c hu=>by simp at hu)
 | cons c cs=>
  obtain ⟨u,us,rfl,hu,h'⟩:=h.inv;cases cs with
  | nil=>rw [h'.nil_left.1]; exact hu
  | cons c2 cs2=>
   obtain ⟨u2,us2,rfl,hu2,h2⟩:=h'.inv;exact .tup _ _ h.len h.at_
theorem zbkD {f:Operand} {args:Array Operand} {ts:Array TypeId} (hcx:CxOK P cx) (hspec:∀ f s,cx.spec f=some s->Sound P cx f s)
  (ho:o.op=.call { callee:=.value f,args:=args,argTypes:=ts }) (h:aop cx o st=some d) (hf:RF cx e st κ a w):o.wp P a w (λa' w'=>R cx e (st.app o.dst d) a' w') Q:=by
 unfold aop ze8 at h;simp only [ho] at h;have hfr:=zcq hf f;split at h
 ·rename_i g caps hfe;rw [hfe] at hfr
  obtain ⟨vc,hve,hcr⟩:∃ vc:List Value,a.eval f=.func (.func g) #[] vc.toArray/\All2 (ziB cx e st κ w) vc caps:=by
   generalize a.eval f=ve at hfr;cases hfr with
   | rep hr=>cases hr with | fn _ vs _ hlen hr=>exact ⟨vs,rfl,zDz hlen hr⟩
   | fn _ vs _ hlen hr=>exact ⟨vs,rfl,hlen,hr⟩
  have hall:=(zAN hf args.toList).append hcr;unfold zy2 at h;split at h
  ·cases h
  ·rename_i s hs;have hsnd:=hspec g s hs;split at h
   ·cases h
   ·rename_i as fz mv hargs;split at h
    ·cases h
    ·rename_i hnd;obtain ⟨hnd,hdj⟩:=zki hnd;split at h
     ·cases h
     ·rename_i pre res hres;obtain ⟨hpre,h⟩:=zfD h;subst hpre;split at h
      ·cases h
      ·rename_i us hus
       -- the arguments, read with what they freeze
       have hF1le:∀ b,Fz e st.blk κ w b->Fz e (FzB st fz) κ w b:=λb hb=>((zyk hf.rb fz).2.fz b hb).1
       obtain ⟨harg,hown,hmu⟩:=zJT (F1:=Fz e (FzB st fz) κ w) hcx hf.rb _ _ _ _ as fz mv hall hargs (λv av a' ids hr hp hi=>zSV hcx hf.rb hr hp hi)
        (λid T l hid hb=>by
         have hnf:id∉fz:=by
          intro hm;have:(!mv.contains id)=true:=(q1d.1 hdj) id hm;simp at this;exact this hid
         obtain ⟨xs,hx1,hx2⟩:=hf.rb.row hb;refine ⟨⟨xs,hx1,hx2.imp λ_ _ h=>h.mono λb hb=>⟨hF1le b hb,rfl⟩⟩,λb hbb hfb=> ?_⟩
         refine hfb.2.2 id ?_ hbb;simp only [FzB,zrw,if_neg hnf];have:(gD .none st.blks id)=st.blk id:=rfl;rw [this,hb]; rfl)
       have hsep:zbiD (zbo (args.toList.map a.eval++vc) as):=by
        rw [hown];intro i j u v b hi hj hbi hbj;rw [q14] at hi hj;cases hmi:mv[i]? with
        | none=>rw [hmi] at hi; cases hi
        | some x=>
         cases hmj:mv[j]? with
         | none=>rw [hmj] at hj; cases hj
         | some y=>
          rw [hmi] at hi; rw [hmj] at hj;simp only [qz,q0] at hi hj;subst hi; subst hj;have hxy:=hf.rb.sep x y b (hmu x (q1l hmi)).live (hmu y (q1l hmj)) hbi hbj;exact z98 hnd i j x hmi (hxy ▸ hmj)
       have hgb:∀ i b,i∈mv->zbj (κ i)=some b->cx.ng<=b:=λi b hi hb=>by
        rcases hf.rb.mine i b (hmu i hi) hb with h' | h'
        ·exact hf.rb.g.big b h'
        ·exact q18 hf.rb.g.size h'
       have hsepw:SepW cx w (zbo (args.toList.map a.eval++vc) as):=by
        refine ⟨hsep,⟨hcx.stable _ _ hf.rb.g.inv λb hb=>hf.rb.keep b (q2b hb hf.rb.g.size) λhop=> ?_,λb ⟨v,hv,hb⟩=> ?_,q18 hf.rb.g.size hf.rb.size⟩⟩
        ·have:=hf.rb.g.big b hop; omega
        ·rw [hown] at hv;obtain ⟨i,hi,rfl⟩:=q1p.1 hv;exact hgb i b hi hb
       have hcalls:=hsnd.calls as res hres w (Fz e (FzB st fz) κ w) _ (λb hb=>hb.2.1) harg hsepw
       -- the machine's side
       have hrun:(execOp a.eval o).run P w=.ok (.enter g (args.toList.map a.eval++vc).toArray) w:=by
        have:(args.map a.eval++vc.toArray)=(args.toList.map a.eval++vc).toArray:=by
         apply Array.ext'; simp
        simp only [execOp,ho,resolve,hve,Deferred.ofValue,Sem.run_bind,Sem.run_pure,Result.andThen_ok,invoke];rw [show (#[]++args.map a.eval:Array Value)=args.map a.eval by simp,this]
        exact hsnd.enters _ _
       unfold Oper.wp;rw [hrun,Oper.upon_enter];refine hcalls.mono λen w' hpost=> ?_
       obtain ⟨v,rfl,⟨F',rs,rfl,hkept,hF'1,hF'2,hvals,hupd,hs1,hs2⟩⟩:=hpost;rw [hown] at hkept hF'2 hvals hupd hs2
       -- what is frozen for good
       obtain ⟨hu1,hu2,hu3⟩:=zXB hus;obtain ⟨hrb1,hc1⟩:=zyk hf.rb (bif res.flat then [] else fz)
       have hmnf:∀ i∈mv,i∉(bif res.flat then [] else fz):=by
        intro i hi hm;cases hfl:res.flat with
        | true=>rw [hfl] at hm; simp at hm
        | false=>
         rw [hfl] at hm;have:(!mv.contains i)=true:=(q1d.1 hdj) i hm;simp at this;exact this hi
       have hB1:∀ i∈mv,(gD .none (zbY st.blks (bif res.flat then [] else fz)) i)=st.blk i:=λi hi=>by
        rw [zrw,if_neg (hmnf i hi)]; rfl
       have step:∀ (id:Nat),(∀ p∈(zbc id res.vals).2,zfT st p.1=true)->_:=λid hfree=>
        zbhh (id:=id) (w':=w') (rs:=rs) (F1:=Fz e (FzB st fz) κ w) (F':=F') (mv:=mv) (us:=us) hcx hrb1 (λi hi=>by rw [hB1 i hi]; exact hmu i hi) hnd hu1 hu2
         (λm i x hm hx=>by
          obtain ⟨l0,f0,hb⟩:=hu3 m i x hm hx;exact ⟨l0,f0,by rw [hB1 i (q1l hm)]; exact hb⟩)
         (λp hp=>by
          obtain ⟨h1,h2⟩:=znv (hfree p hp);refine ⟨?_,by rw [zjA]; exact h2⟩
          rw [zrw];have:(gD .none st.blks p.1)=.none:=h1;rw [this]; split <;>rfl)
         hkept (λb hb=>by
          cases hfl:res.flat with
          | true=>rw [hfl] at hb; exact hF1le b hb
          | false=>rw [hfl] at hb; exact hb) hF'2 hvals hupd hs1 hs2 (λhfl b hb=>by rw [hfl]; exact hb)
       split at h
       ·rename_i dd hdst;split at h
        ·rename_i hfl;obtain ⟨hfree,_⟩:=zki hfl;obtain rfl:=q26 h;obtain ⟨κ',h1,h2,h3⟩:=step (zQ dd) (zZU hfree);refine ⟨κ',hf.put (by rw [zLW]; exact h1) (by rw [zLW]; exact hc1.trans h2) (λ_=>by rw [zLW]; exact zbhx h3)⟩
        ·cases h
       ·rename_i hdst;split at h
        ·rename_i hnil;obtain rfl:=q26 h;obtain ⟨κ',h1,h2,h3⟩:=step 0 (λp hp=>by rw [hnil] at hp; simp at hp)
         rw [hnil,q1o] at h1 h2;exact ⟨κ',hf.put (by rw [zLW]; exact h1) (by rw [zLW]; exact hc1.trans h2) (λ_=>.dead _)⟩
        ·cases h
 ·cases h
end
end
end Go.Ab
/- Maps of the call's own, against the machine's. -/
namespace Go.Ab
noncomputable section
open Go.MapKept
variable {ty:Nat->Type}
section
variable {P:Program} {cx:Cx ty} {e:Env} {st:St ty} {κ:Nat->Value} {a:Act} {w:World} {o:Oper} {d:Delta ty} {Q:Exit->Act->World->Prop}
theorem zbaB {α β:Type} {S:α->β->Prop} {l:List β} (h:All2 S [] l):l=[]:=q1a h.len.symm
theorem z7M {α β:Type} {S:α->β->Prop} {x:α} {r:List α} {l:List β} (h:All2 S (x::r) l):∃ y l',l=y::l'/\S x y/\All2 S r l':=by
 cases l with
 | nil=>have:=h.len; simp at this
 | cons y l'=>exact ⟨y,l',rfl,h.at_ 0 x y rfl rfl,⟨by simpa using h.len,λj u c hu hc=>h.at_ (j+1) u c (by simpa using hu) (by simpa using hc)⟩⟩
theorem z2T {P:Program} (hcx:CxOK P cx) {v:Value} {av:AV ty} {K:Nat} {key:Value} (hr:ziB cx e st κ w v av) (h:zbbx cx K av=some key):v=key/\zvT cx K key:=by
 unfold zbbx at h;split at h
 ·rename_i s;split at h
  ·rename_i sz b z hK;simp only [q0] at h; subst h;exact ⟨zco hr,⟨_,_,_,hK⟩⟩
  ·cases h
 ·rename_i k n;split at h
  ·rename_i k' sz b z hK;split at h
   ·rename_i hk; subst hk;simp only [q0] at h; subst h;exact ⟨zco hr,⟨_,_,_,hK⟩⟩
   ·cases h
  ·cases h
 ·rename_i cs;split at h
  ·rename_i us hus;split at h
   ·rename_i q hq;simp only [q0] at h; subst h;obtain ⟨vs,rfl,ha⟩:=zSc hr;obtain rfl:=z0U _ _ _ ha hus;obtain rfl:=hcx.eqr _ _ _ hq;exact ⟨rfl,hq⟩
   ·cases h
  ·cases h
 ·cases h
def zAI (key:Value):List MapEntry->Nat->Option (Nat×Value)
 | [],_=>none
 | e::es,i=>bif zmo key e.key then some (i,e.val) else zAI key es (i+1)
theorem zYo {dk:TypeDesc} {key:Value}:∀ (es:List MapEntry) (i:Nat),(∀ en∈es,Instr.sameNow dk key en.key=some (zmo key en.key))->Instr.findNow dk key es i=some (zAI key es i)
 | [],i,_=>rfl
 | en::es,i,h=>by
  have h0:=h en (by simp)
  have:=zYo es (i+1) λx hx=>h x (by simp [hx])
  cases hb:zmo key en.key <;>simp [Instr.findNow,h0,hb,zAI,this]
theorem z9z {K:Nat} {key:Value}:∀ (es:List MapEntry) (i:Nat),(∀ en∈es,(Op.equal K key en.key).run P w=.ok (zmo key en.key) w)->(Instr.findAsking K key es i).run P w=.ok (zAI key es i) w
 | [],i,_=>rfl
 | en::es,i,h=>by
  have h0:=h en (by simp)
  have:=z9z es (i+1) λx hx=>h x (by simp [hx])
  cases hb:zmo key en.key <;>simp [Instr.findAsking,h0,hb,zAI,this]
theorem z2y (hcx:CxOK P cx) {K:Nat} {key:Value} (h:zvT cx K key):(∀ e,(Instr.checkKey e 10000 K key).run P w=.ok () w)/\∀ es:List MapEntry,(∀ en∈es,zvT cx K en.key)->(Instr.findKey K key es).run P w=.ok (zAI key es 0) w:=by
 cases key with
 | string s=>
  obtain ⟨sz,b,z,hK⟩:=h;refine ⟨λe=>Go.MapKept.run_checkKey (zyi hcx hK) (by simp [IsKey]) e 9999,λes hes=>Go.MapKept.run_findKey (zyi hcx hK) (zYo es 0 λen hen=> ?_)⟩
  have h2:=hes en hen;revert h2;generalize en.key=k2;intro h2;cases k2 with
  | string t=>rfl
  | int k n=>
   obtain ⟨_,_,_,hK2⟩:=h2;rw [hK] at hK2; cases hK2
  | agg a=>
   obtain ⟨_,_,_,_,_,fs,hfs⟩:=hcx.eqs K _ _ _ h2 w;rw [zyi hcx hK] at hfs; cases hfs
  | _=>exact h2.elim
 | int k n=>
  obtain ⟨sz,b,z,hK⟩:=h;refine ⟨λe=>Go.MapKept.run_checkKey (zEc hcx hK) (by simp [IsKey]) e 9999,λes hes=>Go.MapKept.run_findKey (zEc hcx hK) (zYo es 0 λen hen=> ?_)⟩
  have h2:=hes en hen;revert h2;generalize en.key=k2;intro h2;cases k2 with
  | string t=>
   obtain ⟨_,_,_,hK2⟩:=h2;rw [hK] at hK2; cases hK2
  | int k' n'=>
   obtain ⟨_,_,_,hK2⟩:=h2;rw [hK] at hK2;simp only [q0,TInfo.mk.injEq,TD.int.injEq] at hK2;obtain ⟨rfl,_⟩:=hK2;simp [Instr.sameNow,zmo]
  | agg a=>
   obtain ⟨_,_,_,_,_,fs,hfs⟩:=hcx.eqs K _ _ _ h2 w;rw [zEc hcx hK] at hfs; cases hfs
  | _=>exact h2.elim
 | agg a=>
  have h:cx.eqs K a.toList a.toList=some true:=h;obtain ⟨_,_,_,_,hck,fs,hfs⟩:=hcx.eqs K _ _ _ h w;refine ⟨λe=>by simpa using hck e 9998,λes hes=> ?_⟩
  have hq:∀ en∈es,(Op.equal K (.agg a) en.key).run P w=.ok (zmo (.agg a) en.key) w:=by
   intro en hen;have h2:=hes en hen;revert h2;generalize en.key=k2;intro h2;cases k2 with
   | string t=>
    obtain ⟨_,_,_,hK2⟩:=h2;rw [zyi hcx hK2] at hfs; cases hfs
   | int k' n'=>
    obtain ⟨_,_,_,hK2⟩:=h2;rw [zEc hcx hK2] at hfs; cases hfs
   | agg c=>
    have h2:cx.eqs K c.toList c.toList=some true:=h2;obtain ⟨_,_,_,hr,_,_⟩:=hcx.eqs K _ _ _ (hcx.eqk K _ _ h h2).1 w
    simpa [zmo] using hr
   | _=>exact h2.elim
  cases es with
  | nil=>simp [Instr.findKey,run_underlying hfs,Instr.findNow,zAI]
  | cons en es=>
   have hno:Instr.findNow (.struct fs) (.agg a) (en::es) 0=none:=by simp [Instr.findNow,Instr.sameNow]
   simp only [Instr.findKey,Sem.run_bind,run_underlying hfs,Result.andThen_ok,hno,z9z _ _ hq]
 | _=>exact h.elim
theorem zbck {K V:Nat} {es:List MapEntry} {l:List (Value×ty V)} (ha:All2 (zPn cx V) es l) (hk:∀ p∈l,zvT cx K p.1):∀ en∈es,zvT cx K en.key:=by
 intro en hen;obtain ⟨j,hj⟩:=q2i hen;obtain ⟨p,hp,hpe⟩:=ha.getL hj;rw [hpe.1]; exact hk p (q1l hp)
theorem zYx {V:Nat} {key:Value}:
  ∀ (es:List MapEntry) (l:List (Value×ty V)) (i:Nat),All2 (zPn cx V) es l->
   (zAI key es i=none/\zTC key l=none/\zJ4 key l=false/\∀ x,zHk key x l=l++[(key,x)])\/
   (∃ (j:Nat) (en:MapEntry) (x0:ty V),es[j]? =some en/\zmo key en.key=true/\zAI key es i=some (i+j,en.val)/\zTC key l=some x0/\zJ4 key l=true/\cx.enc V x0=[.lit en.val]/\∀ x,zHk key x l=l.set j (key,x))
 | [],l,i,ha=>by
  obtain rfl:=zbaB ha;exact .inl ⟨rfl,rfl,rfl,λx=>rfl⟩
 | en::es,l,i,ha=>by
  obtain ⟨p,l',rfl,hp,ha'⟩:=z7M ha;cases hb:zmo key en.key with
  | true=>
   refine .inr ⟨0,en,p.2,rfl,hb, ?_, ?_, ?_,hp.2,λx=> ?_⟩
   ·simp [zAI,hb]
   ·simp [zTC, <- hp.1,hb]
   ·simp [zJ4, <- hp.1,hb]
   ·simp [zHk, <- hp.1,hb]
  | false=>
   have h0:zAI key (en::es) i=zAI key es (i+1):=by simp [zAI,hb]
   have h1:zTC key (p::l')=zTC key l':=by simp [zTC, <- hp.1,hb]
   have h2:zJ4 key (p::l')=zJ4 key l':=by simp [zJ4, <- hp.1,hb]
   have h3:∀ x,zHk key x (p::l')=p::zHk key x l':=λx=>by simp [zHk, <- hp.1,hb]
   rw [h0,h1,h2];rcases zYx es l' (i+1) ha' with ⟨a1,a2,a3,a4⟩ | ⟨j,en',x0,a1,a2,a3,a4,a5,a6,a7⟩
   ·exact .inl ⟨a1,a2,a3,λx=>by rw [h3,a4]; rfl⟩
   ·exact .inr ⟨j+1,en',x0,by simpa using a1,a2,by rw [a3,show i+1+j=i+(j+1) by omega],a4,a5,a6,λx=>by rw [h3,a7]; rfl⟩
theorem zbcP (hrb:RB cx e st.blk κ w) {id K V:Nat} {l:List (Value×ty V)} {fz:Bool} (hb:st.blk id=.mp K V l fz):
  ∃ b es clock,κ id=.map (some b)/\w.heap[b]? =some (.map es clock)/\All2 (zPn cx V) es.toList l/\∀ p∈l,zvT cx K p.1:=by
 have:=hrb.blk id;rw [hb] at this;exact this
theorem zbgV {T:Nat} (hcx:CxOK P cx) (ho:o.op=.makeMap T none) (h:aop cx o st=some d) (hf:RF cx e st κ a w):o.wp P a w (λa' w'=>R cx e (st.app o.dst d) a' w') Q:=by
 unfold aop ze8 at h;simp only [ho] at h;split at h
 ·rename_i kt vt s1 b1 z1 dd hT hdst;obtain ⟨hfree,h⟩:=zfD h;simp only [q0] at h; subst h;obtain ⟨hn,hlt⟩:=znv hfree
  have hst:=zwX (w':=w.alloc (.map #[] 0)) (nb:=.mp kt vt [] false) (v:=.map (some w.heap.size)) hf.rb hn hlt rfl rfl rfl (by simp) (λb hb=>heap_alloc_old w _ b hb)
   (λb hb=>by simp [zbj] at hb; subst hb; simp)
   (λhc=>⟨w.heap.size,#[],0,rfl,heap_alloc_new w _,.nil,λp hp=>by simp at hp⟩)
  refine zZ (v:=.map (some w.heap.size)) (w':=w.alloc (.map #[] 0)) ?_ ⟨_,hf.put (κ':=λi=>if i=zQ dd then .map (some w.heap.size) else κ i) ?_ ?_ (λ_=> ?_)⟩
  ·simp [execOp,ho,Instr.makeMap]
  ·rw [zdK]; exact hst.1
  ·rw [zdK]; exact hst.2
  ·rw [zdK]
   have:=RepA.mp (cx:=cx) (F:=Fz e (λj=>(gD .none ((zbY st.blks []).set (zQ dd) (.mp kt vt [] false)) j)) (λi=>if i=zQ dd then .map (some w.heap.size) else κ i) (w.alloc (.map #[] 0))) (w:=w.alloc (.map #[] 0))
    (kd:=λi=>((gD .none ((zbY st.blks []).set (zQ dd) (.mp kt vt [] false)) i)).kind cx) (κ:=λi=>if i=zQ dd then .map (some w.heap.size) else κ i) (zQ dd) (by
     rw [zbI,if_pos ⟨rfl,by rw [zjA]; exact hlt⟩]; rfl)
   simpa using this
 ·cases h
theorem zbhG (hrb:RB cx e st.blk κ w) {F:Nat->Prop} {v:Value} {id K V:Nat} {l:List (Value×ty V)} {fz:Bool} (hb:st.blk id=.mp K V l fz) (hr:RepA cx F w (λi=>(st.blk i).kind cx) κ v (.mp id)):v=κ id:=by
 cases hr with
 | rep hr=>cases hr
 | mp _ h=>rfl
 | mpD _ _ h=>simp [hb,Blk.kind] at h
theorem zbiR (hcx:CxOK P cx) {V:Nat} {inf:TInfo} (hV:cx.ti V=some inf) (hns:zwY inf=false) {c:AV ty} {F:Nat->Prop} {z:ty V} (hdec:cx.dec V (inf.zero.map .lit)=some z) (hc:cx.enc V z=[c]):
  ∃ u,(zeroValue V).run P w=.ok u w/\Rep cx F w u c:=by
 obtain ⟨info,desc,zv,hi,hu,hs,hb,hz,hzc,hzl,hz1,hd⟩:=(hcx.ti V _ hV).ok;have h1:=hz1.2 hns;have hcell:inf.zero=[zv]:=by rw [<- hzc,zbaf h1]
 refine ⟨zv,zMk hi hz, ?_⟩;have:=hcx.dec V _ z hdec F w inf.zero (zMu inf.zero);rw [hc,hcell] at this;exact this.head.1
theorem zbhJ {T:Nat} {m k:Operand} {ok:Bool} (hcx:CxOK P cx) (ho:o.op=.lookup T m k ok) (h:aop cx o st=some d) (hf:RF cx e st κ a w):o.wp P a w (λa' w'=>R cx e (st.app o.dst d) a' w') Q:=by
 unfold aop ze8 at h;simp only [ho] at h;unfold zGT at h;have hm:=zcq hf m;have hk:=zcq hf k;generalize hme:a.eval m=vm at hm;generalize hke:a.eval k=vk at hk;split at h
 ·rename_i kt vt s1 b1 z1 id hT hmv;rw [hmv] at hm;split at h
  ·rename_i kt' vt' l fz inf hb hV;split at h
   ·rename_i key z hbeq hkey hdec;simp only [qa,q17] at hbeq;obtain ⟨⟨e1,e2⟩,hns⟩:=hbeq;have e1:=qx e1;have e2:=qx e2;subst e1 e2;obtain ⟨rfl,hfit⟩:=z2T hcx hk hkey;obtain ⟨bl,es,clock,hκ,hg,hent,hkeys⟩:=zbcP hf.rb hb;obtain ⟨hck,hfind⟩:=z2y (w:=w) hcx hfit;have hfind:=hfind _ (zbck hent hkeys);have hvm:vm=.map (some bl):=(zbhG hf.rb hb hm).trans hκ;subst hvm;split at h
    ·rename_i c hc
     have hres:∃ u,(Instr.lookup T (.map (some bl)) vk ok).run P w=.ok (bif ok then .tuple #[u,.bool (zJ4 vk l)] else u) w/\Rep cx (Fz e st.blk κ w) w u c:=by
      rcases zYx (key:=vk) es.toList l 0 hent with ⟨a1,a2,a3,_⟩ | ⟨j,en,x0,_,_,a3,a4,a5,a6,_⟩
      ·rw [a2] at hc;obtain ⟨u,hu,hr⟩:=zbiR (w:=w) (F:=Fz e st.blk κ w) hcx hV hns hdec hc;refine ⟨u, ?_,hr⟩;rw [a3];simp only [Instr.lookup,Sem.run_bind,zdJ (zRu hcx hT),Result.andThen_ok,q2w hg,Sem.run_pure,hck,hfind,a1,hu];cases ok <;>rfl
      ·rw [a4] at hc;have hc:cx.enc vt x0=[c]:=hc;rw [a6] at hc;obtain rfl:AV.lit en.val=c:=by simpa using hc
       refine ⟨en.val, ?_,.lit _⟩;rw [a5];simp only [Instr.lookup,Sem.run_bind,zdJ (zRu hcx hT),Result.andThen_ok,q2w hg,Sem.run_pure,hck,hfind,a3];cases ok <;>rfl
     obtain ⟨u,hrun,hu⟩:=hres;cases ok with
     | true=>
      simp only [q0] at h; subst h;refine zZ (v:=.tuple #[u,.bool (zJ4 vk l)]) (w':=w) (by simp only [execOp,ho,hme,hke,hrun,Sem.run_bind,Result.andThen_ok,Sem.run_pure,q7]) (hf.val ?_)
      exact .tup [u,.bool (zJ4 vk l)] _ rfl λj u2 c2 hu2 hc2=>by
       match j with
       | 0=>simp at hu2 hc2; subst hu2 hc2; exact .rep hu
       | 1=>simp at hu2 hc2; subst hu2 hc2; exact .rep (.lit _)
       | j+2=>simp at hu2
     | false=>
      simp only [q0] at h; subst h;exact zZ (v:=u) (w':=w) (by simp only [execOp,ho,hme,hke,hrun,Sem.run_bind,Result.andThen_ok,Sem.run_pure,q9]) (hf.val (.rep hu))
    ·cases h
   ·cases h
  ·cases h
 ·cases h
theorem z5G {s t:ByteArray} (h:(s==t)=true):s=t:=by
 obtain ⟨⟨s⟩⟩:=s;obtain ⟨⟨t⟩⟩:=t;have h:((⟨s⟩:Array UInt8)==⟨t⟩)=true:=h;rw [beq_iff_eq.1 h]
theorem z82 (s:ByteArray):(s==s)=true:=by
 obtain ⟨s⟩:=s;show (s==s)=true;simp
theorem zbha (hcx:CxOK P cx) {a b:Value} (h:zmo a b=true) (K:Nat) (hk:zvT cx K a) (hk2:zvT cx K b):Instr.sameBits 10000 b a=true:=by
 cases a with
 | string s=>cases b with
  | string t=>
   have:(s==t)=true:=h;have:=z5G this;subst this;simp only [Instr.sameBits,z82]
  | _=>simp [zmo] at h
 | int k n=>cases b with
  | int k' n'=>
   have:(n==n')=true:=h;have:n=n':=by simpa using this
   subst this;obtain ⟨_,_,_,h1⟩:=hk;obtain ⟨_,_,_,h2⟩:=hk2;rw [h1] at h2;simp only [q0,TInfo.mk.injEq,TD.int.injEq] at h2;obtain ⟨rfl,_⟩:=h2;simp [Instr.sameBits]
  | _=>simp [zmo] at h
 | agg c=>cases b with
  | agg d=>
   have h1:=hcx.eqk K _ _ hk hk2;have h3:=h1.2.1 h
   have h4:c=d:=by
    obtain ⟨c⟩:=c; obtain ⟨d⟩:=d;exact congrArg _ h3
   subst h4;have h5:=h1.2.2;show (c.size==c.size&&(c.toList.zip c.toList).all λ(x,y)=>Instr.sameBits 9999 x y)=true
   simp only [beq_self_eq_true,q1j,q1d]
   rintro ⟨x,y⟩ hxy
   obtain ⟨j,hj⟩:=q2i hxy;rw [List.getElem?_zip_eq_some] at hj;have:x=y:=q26 (hj.1.symm.trans hj.2);subst this;exact h5 x (q1l hj.1) 9999
  | _=>simp [zmo] at h
 | _=>simp [zmo] at h
theorem zbkI {V:Nat} {es:List MapEntry} {l:List (Value×ty V)} (ha:All2 (zPn cx V) es l) {j:Nat} {f:MapEntry->MapEntry} {p:Value×ty V} (hf:∀ en,es[j]? =some en->zPn cx V (f en) p):All2 (zPn cx V) (es.modify j f) (l.set j p):=by
 refine ⟨by simp [ha.len],λi u c hu hc=> ?_⟩
 rw [List.getElem?_modify] at hu;rw [q32] at hc;by_cases hij:j=i
 ·subst hij;cases he:es[j]? with
  | none=>rw [he] at hu; simp at hu
  | some en=>
   rw [he] at hu;simp at hu;subst hu;split at hc
   ·simp at hc; obtain ⟨_,rfl⟩:=hc; exact hf en he
   ·exact absurd rfl ‹_›
 ·rw [if_neg hij] at hc;simp [hij] at hu;exact ha.at_ i u c hu hc
theorem z0l {T:Nat} {m k v:Operand} (hcx:CxOK P cx) (ho:o.op=.mapUpdate T m k v\/o.op=.insert T m k v) (h:aop cx o st=some d) (hf:RF cx e st κ a w):o.wp P a w (λa' w'=>R cx e (st.app o.dst d) a' w') Q:=by
 have h:zvf cx st T (st.ev m) (st.ev k) (st.ev v) some=some d:=by
  unfold aop ze8 at h;rcases ho with ho | ho <;>simp only [ho] at h <;>exact h
 unfold zvf at h;have hm:=zcq hf m;have hk:=zcq hf k;have hv:=zcq hf v;generalize hme:a.eval m=vm at hm;generalize hke:a.eval k=vk at hk;generalize hve:a.eval v=vv at hv;split at h
 ·rename_i kt vt s1 b1 z1 id hT hmv;rw [hmv] at hm;split at h
  ·rename_i kt' vt' l hb;split at h
   ·rename_i key u hbeq hkey hvu;simp only [qa] at hbeq;obtain ⟨e1,e2⟩:=hbeq;have e1:=qx e1;have e2:=qx e2;subst e1 e2;rw [hvu] at hv;obtain rfl:=zco hv;obtain ⟨rfl,hfit⟩:=z2T hcx hk hkey;obtain ⟨bl,es,clock,hκ,hg,hent,hkeys⟩:=zbcP hf.rb hb;obtain ⟨hck,hfind⟩:=z2y (w:=w) hcx hfit;have hfind:=hfind _ (zbck hent hkeys);have hvm:vm=.map (some bl):=(zbhG hf.rb hb hm).trans hκ;subst hvm;split at h
    ·rename_i x hdec;split at h
     ·rename_i u' henc;simp only [q0] at h; subst h
      have hu':cx.enc vt x=[.lit vv]:=by
       have:=hcx.dec vt _ x hdec (λ_=>True) w [vv] (zMu [vv])
       rw [henc] at this ⊢;have:=this.head.1;cases this; rfl
      have hbl':(gD .none st.blks id)=.mp kt vt l false:=hb
      have step:∀ (es':Array MapEntry) (clock':Nat),(Instr.mapUpdate T (.map (some bl)) vk vv).run P w=.ok () { w with heap:=w.heap.setIfInBounds bl (.map es' clock') }->All2 (zPn cx vt) es'.toList (zHk vk x l)->(∀ p∈zHk vk x l,zvT cx kt p.1)->
        o.wp P a w (λa' w'=>R cx e (st.app o.dst { val:=.dead,wr:=[(id,.mp kt vt (zHk vk x l) false)] }) a' w') Q:=by
       intro es' clock' hrun hent' hkeys'
       have hst:=zHc (w':={ w with heap:=w.heap.setIfInBounds bl (.map es' clock') }) (nb:=.mp kt vt (zHk vk x l) false) hf.rb (n:=id) (by rw [hbl']; rfl) (by rw [hbl']; rfl) rfl rfl rfl (by simp)
        (λb2 _=>by
         by_cases h2:b2=bl
         ·subst h2; exact .inr (by rw [hκ]; rfl)
         ·exact .inl ((Go.MapKept.heap_set hg).2 b2 h2))
        (λhc=>⟨bl,es',clock',hκ,(Go.MapKept.heap_set hg).1,hent',hkeys'⟩)
       refine wp_skip (w':={ w with heap:=w.heap.setIfInBounds bl (.map es' clock') }) ?_ ⟨κ,hf.put ?_ ?_ (λ_=>.dead _)⟩
       ·rcases ho with ho | ho <;>simp only [execOp,ho,hme,hke,hve,Sem.run_bind,hrun,Result.andThen_ok,Sem.run_pure]
       ·rw [zdK]; exact hst.1
       ·rw [zdK]; exact hst.2
      rcases zYx (key:=vk) es.toList l 0 hent with ⟨a1,_,_,a4⟩ | ⟨j,en,x0,b1,b2,b3,_,_,_,b7⟩
      ·refine step (es.push { key:=vk,val:=vv,born:=clock }) (clock+1) ?_ ?_ ?_
       ·simp only [Instr.mapUpdate,Sem.run_bind,zdJ (zRu hcx hT),Result.andThen_ok,q2w hg,hck,hfind,a1,Go.MapKept.run_setObj_map _ hg]
       ·rw [a4,Array.toList_push];exact hent.append (.cons ⟨rfl,hu'⟩ .nil)
       ·rw [a4];intro p hp;rcases q12.1 hp with hp | hp
        ·exact hkeys p hp
        ·simp at hp; subst hp; exact hfit
      ·have hen:es[j]? =some en:=by simpa using b1
       have hfen:zvT cx kt en.key:=by
        obtain ⟨p,hp,hpe⟩:=hent.getL b1;rw [hpe.1]; exact hkeys p (q1l hp)
       have hst:(Instr.keyThatStays (((es[j]?).map (·.key)).getD vk) vk).run P w=.ok vk w:=by
        rw [hen];simp only [Instr.keyThatStays,qz,q2j,zbha hcx b2 kt hfit hfen,if_true,Sem.run_pure]
       refine step (es.modify j λe=>{ e with key:=vk,val:=vv }) clock ?_ ?_ ?_
       ·simp only [Instr.mapUpdate,Sem.run_bind,zdJ (zRu hcx hT),Result.andThen_ok,q2w hg,hck,hfind,b3,q1s,hst,Go.MapKept.run_setObj_map _ hg]
       ·rw [b7,Array.toList_modify];exact zbkI hent λen' _=>⟨rfl,hu'⟩
       ·rw [b7];intro p hp;rcases List.mem_or_eq_of_mem_set hp with hp | hp
        ·exact hkeys p hp
        ·subst hp; exact hfit
     ·cases h
    ·cases h
   ·cases h
  ·cases h
 ·cases h
end
end
end Go.Ab
/- Every operation, and regions, against the machine's. -/
namespace Go.Ab
noncomputable section
variable {ty:Nat->Type}
section
variable {P:Program} {cx:Cx ty} {e:Env} {st:St ty} {κ:Nat->Value} {a:Act} {w:World} {o:Oper} {d:Delta ty} {Q:Exit->Act->World->Prop} {α:Type}
theorem zDs {b:Bool} {x:Option (Delta ty)} {K:Delta ty->Option α}:(bif b then x else none).bind K=bif b then x.bind K else none:=by cases b <;>rfl
theorem zbgD (dst:Option Tmp) (f:Nat) (ts:List Nat) (vs:List (AV ty)) (K:Delta ty->Option α):zy2 cx st dst f ts vs K=(zy2 cx st dst f ts vs some).bind K:=by
 unfold zy2
 repeat' (split <;>try rfl)
 all_goals (rw [zDs]; congr 1)
 all_goals (repeat' (split <;>try rfl))
theorem zbeK (T:Nat) (x:AV ty) (lo hi:Option Int) (K:Delta ty->Option α):ztD cx T st x lo hi K=(ztD cx T st x lo hi some).bind K:=by
 unfold ztD
 repeat' (split <;>try rfl)
 all_goals (rw [zDs]; first | rfl | (congr 1; repeat' (split <;>try rfl)))
theorem zbdi (dst:Option Tmp) (T:Nat) (s x:AV ty) (K:Delta ty->Option α):zs8 cx st dst T s x K=(zs8 cx st dst T s x some).bind K:=by
 unfold zs8
 repeat' (split <;>try rfl)
 all_goals (rw [zDs]; rfl)
theorem zbcb (dst:Option Tmp) (T T':Nat) (s x:AV ty) (K:Delta ty->Option α):zvu cx st dst T T' s x K=(zvu cx st dst T T' s x some).bind K:=by
 unfold zvu
 repeat' (split <;>try rfl)
 all_goals (rw [zDs]; rfl)
theorem zbbp (dst:Option Tmp) (b:Builtin) (ts:List Nat) (vs:List (AV ty)) (K:Delta ty->Option α):zim cx st dst b ts vs K=(zim cx st dst b ts vs some).bind K:=by
 unfold zim
 repeat' (split <;>try rfl)
 all_goals first | exact zbdi .. | exact zbcb .. | (rw [zDs]; rfl)
theorem zbdx (T:Nat) (m k:AV ty) (ok:Bool) (K:Delta ty->Option α):zGT cx st T m k ok K=(zGT cx st T m k ok some).bind K:=by
 unfold zGT
 repeat' (split <;>try rfl)
theorem zbef (T:Nat) (m k v:AV ty) (K:Delta ty->Option α):zvf cx st T m k v K=(zvf cx st T m k v some).bind K:=by
 unfold zvf
 repeat' (split <;>try rfl)
theorem z9r (K:Delta ty->Option α):ze8 cx o st K=(aop cx o st).bind K:=by
 unfold aop ze8
 repeat' (split <;>try rfl)
 all_goals first | exact zbgD .. | exact zbeK .. | exact zbbp .. | exact zbdx .. | exact zbef .. | (rw [zDs]; rfl)
theorem z9V (hcx:CxOK P cx) (hspec:∀ f s,cx.spec f=some s->Sound P cx f s) (h:aop cx o st=some d) (hf:RF cx e st κ a w):o.wp P a w (λa' w'=>R cx e (st.app o.dst d) a' w') Q:=by
 cases ho:o.op with
 | move x=>exact zbfO (.inl ho) h hf
 | assign x=>exact zbfO (.inr ho) h hf
 | pick c x y=>exact zbk5 ho h hf
 | alloc T=>exact zbjd hcx ho h hf
 | box T x=>exact zbm0 hcx ho h hf
 | build T ps=>exact zbjr hcx ho h hf
 | buildSlice T n ps=>exact zbah hcx ho h hf
 | load T x=>exact zbk3 hcx ho h hf
 | store T x y=>exact zbiU hcx ho h hf
 | nilCheck x=>exact zben hcx ho h hf
 | binOp b T x y T'=>exact zbjm hcx ho h hf
 | unOp u T x=>exact zblh ho h hf
 | convert S D x=>exact zbg4 hcx ho h hf
 | makeFunc fn first caps=>
  cases fn with
  | func g=>exact zber ho h hf
  | _=>unfold aop ze8 at h; simp only [ho] at h; cases h
 | makeSlice T x y=>exact zbdW hcx ho h hf
 | makeMap T r=>
  cases r with
  | none=>exact zbgV hcx ho h hf
  | some m=>unfold aop ze8 at h; simp only [ho] at h; cases h
 | lookup T m k ok=>exact zbhJ hcx ho h hf
 | mapUpdate T m k v=>exact z0l hcx (.inl ho) h hf
 | insert T m k v=>exact z0l hcx (.inr ho) h hf
 | slice T x lo hi mx=>
  cases mx with
  | none=>exact zbjM hcx ho h hf
  | some m=>unfold aop ze8 at h; simp only [ho] at h; cases h
 | fieldAddr S x f=>exact zbds hcx ho h hf
 | field S x f=>exact zbiQ hcx ho h hf
 | indexAddr T x i=>exact zbd6 hcx ho h hf
 | index T x i=>exact zbjg hcx ho h hf
 | extract x i=>exact zbgR ho h hf
 | call c=>
  obtain ⟨callee,args,ts⟩:=c;cases callee with
  | value f=>exact zbkD hcx hspec ho h hf
  | invoke r m=>unfold aop ze8 at h; simp only [ho] at h; cases h
  | builtin b=>
   cases b with
   | len=>exact zbm7 hcx ho h hf
   | append=>exact zbin hcx ho h hf
   | cap=>exact zbmZ hcx ho h hf
   | min=>exact z94 (.inl rfl) ho h hf
   | max=>exact z94 (.inr rfl) ho h hf
   | clear=>exact zbjB hcx ho h hf
   | _=>unfold aop ze8 zim at h; simp only [ho] at h; cases h
 | _=>unfold aop ze8 at h; simp only [ho] at h; cases h
def zhI (cx:Cx ty) (ops:Array Oper) (o:Oper) (st:St ty):Option (Delta ty):=
 match o.guard with
 | none=>aop cx o st
 | some (g,want)=>match (ops[g]?).bind (·.dst) with
  | none=>none
  | some t=>match st.get t with
   | .lit (.bool b)=>bif (b==want) then aop cx o st else some zRE
   | .lit (.tuple _)=>some zRE
   | _=>none
theorem zPe {t:Nat} {v:AV ty} (h:st.get t=v) (hne:v≠.dead):st.setT t v=st:=by
 rw [St.setT_def]
 have:st.tmps.set t v=st.tmps:=by
  apply q31;intro j;rw [q32];split
  ·rename_i hj; subst hj;split
   ·rename_i hl;rw [St.get_def] at h;rw [qi,ql hl] at h;rw [ql hl]
    simpa using h.symm
   ·rename_i hl;rw [q25 (by omega)]
  ·rfl
 rw [this]
theorem z9q {t:Tmp} {K:St ty->Option α}:z6h st t K=K st:=by
 unfold z6h;split
 ·rename_i b hb;cases b with
  | true=>simp only [q7]; rw [zPe hb (by simp)]
  | false=>simp only [q9]; rw [zPe hb (by simp)]
 ·rfl
theorem zbcC {K:Delta ty->St ty->Option α}:zbbC cx o st K=(aop cx o st).bind λd=>K d st:=by
 unfold zbbC;split
 ·rw [z9q,z9r]
 ·rw [z9r]
theorem zTV {ops:Array Oper} {K:Delta ty->St ty->Option α}:z6d cx ops o st K=(zhI cx ops o st).bind λd=>K d st:=by
 unfold z6d zhI;cases hg:o.guard with
 | none=>exact zbcC
 | some gw=>
  obtain ⟨g,want⟩:=gw
  dsimp only
  rw [zbgr,q1n];cases ht:(ops[g]?).bind (·.dst) with
  | none=>rfl
  | some t=>
   dsimp only
   rw [z9q];cases hv:st.get t with
   | lit v=>
    cases v with
    | bool b=>
     dsimp only
     cases (b==want) with
     | true=>simp only [q7]; exact zbcC
     | false=>rfl
    | _=>rfl
   | _=>rfl
theorem RF.skip (hf:RF cx e st κ a w) (dst:Option Tmp):R cx e (st.app dst zRE) (a.put dst undef) w:=hf.val (rd:=[]) (.rep (.lit undef))
theorem z2j (hcx:CxOK P cx) (hspec:∀ f s,cx.spec f=some s->Sound P cx f s) {ops:Array Oper} {i:Nat} (hi:ops[i]? =some o) (h:zhI cx ops o st=some d) (hf:RF cx e st κ a w):
  wpOp P ops Q i (λa' w'=>R cx e (st.app o.dst d) a' w') a w:=by
 unfold wpOp;simp only [hi];unfold zhI at h;split at h
 ·rename_i hg;have:Region.wanted o (yielded ops a.tmps)=true:=by simp [Region.wanted,hg]
  rw [if_pos this];exact .inl (z9V hcx hspec h hf)
 ·rename_i g want hg;split at h
  ·cases h
  ·rename_i t ht;have hr:=hf.tmps t;split at h
   ·rename_i b hb;rw [hb] at hr;have hv:=zco hr
    have hget:a.tmps[t]? =some (.bool b):=by
     rw [q1i] at hv;cases hx:a.tmps[t]? with
     | none=>rw [hx] at hv; simp [undef] at hv
     | some x=>rw [hx] at hv; simp at hv; rw [hv]
    have hy:yielded ops a.tmps g=some b:=by unfold yielded; rw [ht]; simp only [q1g,hget]
    have hw:Region.wanted o (yielded ops a.tmps)=(b==want):=by
     unfold Region.wanted; rw [hg]; simp only [hy]; cases b <;>cases want <;>rfl
    rw [hw];cases hbw:(b==want) with
    | true=>
     rw [hbw] at h;simp only [q7] at h;simp only [if_true];exact .inl (z9V hcx hspec h hf)
    | false=>
     rw [hbw] at h;simp only [q9,q0] at h; subst h;simp only [q1e,if_false];exact hf.skip o.dst
   ·rename_i vs hb;rw [hb] at hr;have hv:=zco hr
    have hy:yielded ops a.tmps g=none:=by
     unfold yielded; rw [ht]; simp only [q1g];rw [q1i] at hv;cases hx:a.tmps[t]? with
     | none=>rfl
     | some x=>rw [hx] at hv; simp at hv; rw [hv]
    have hw:Region.wanted o (yielded ops a.tmps)=false:=by
     unfold Region.wanted; rw [hg]; simp only [hy]; rfl
    rw [hw];simp only [q0] at h; subst h;simp only [q1e,if_false];exact hf.skip o.dst
   ·cases h
theorem zVF (hcx:CxOK P cx) (hspec:∀ f s,cx.spec f=some s->Sound P cx f s) {ops:Array Oper} {K:St ty->Option α} {r:α} (hQ:∀ st a w,K st=some r->R cx e st a w->Q .normal a w):
  ∀ (l:List Oper) (off:Nat) (st:St ty) (a:Act) (w:World),(∀ j:Nat,l[j]? =ops[off+j]?)->z0Q cx ops l st K=some r->R cx e st a w->wpOps P ops Q (List.range' off l.length) a w
 | [],off,st,a,w,_,h,hR=>hQ st a w h hR
 | o::l,off,st,a,w,hl,h,hR=>by
  obtain ⟨κ,hf⟩:=hR;simp only [z0Q,zTV] at h;cases hd:zhI cx ops o st with
  | none=>rw [hd] at h; cases h
  | some d=>
   rw [hd] at h;simp only [q1g] at h;have h0:ops[off]? =some o:=by simpa using (hl 0).symm
   simp only [qc,List.range'_succ,wpOps_cons];refine wpOp_mono (λa' w' hR'=> ?_) (z2j hcx hspec h0 hd hf)
   exact zVF hcx hspec hQ l (off+1) _ a' w' (λj=>by have:=hl (j+1); simpa [q2e,Nat.add_comm 1 j] using this) h hR'
end
end
end Go.Ab
/- What an operation looks at: its operands, and the blocks that it says it reads. -/
namespace Go.Ab
noncomputable section
variable {ty:Nat->Type}
section
variable {cx:Cx ty} {st st':St ty} {o:Oper} {d:Delta ty} {α:Type}
theorem zvt (h:st'.blks=st.blks) (i:Nat):st'.blk i=st.blk i:=by unfold St.blk; rw [h]
theorem zwt (h:st'.blks=st.blks) (i:Nat):zfT st' i=zfT st i:=by unfold zfT; rw [h]
theorem zbho (h:st'.blks=st.blks) (i:Nat):ztO st' i=ztO st i:=by unfold ztO; rw [zvt h]
theorem zbip (h:st'.blks=st.blks):AV.isCell st'=AV.isCell st:=by funext v; cases v <;>simp only [AV.isCell,zbho h]
theorem zUL (h:st'.blks=st.blks) (v:AV ty):v.cells st'=v.cells st:=by unfold AV.cells; simp only [zbip h]
theorem zPt (h:st'.blks=st.blks):∀ n,zbE cx st' n=zbE cx st n
 | 0=>rfl
 | n+1=>by funext v; cases v <;>simp only [zbE,zvt h,zPt h n]
theorem zU1 (h:st'.blks=st.blks) (v:AV ty):ze2 cx st' v=ze2 cx st v:=by cases v <;>simp only [ze2,zvt h]
theorem zPU (h:st'.blks=st.blks) (v:AV ty):zed st' v=zed st v:=by cases v <;>simp only [zed,zvt h]
theorem zXV (h:st'.blks=st.blks) (fs:List (Nat×Nat)):∀ (l:List (Nat×AV ty)) (cs:List (AV ty)),zjI cx st' fs cs l=zjI cx st fs cs l
 | [],cs=>rfl
 | (i,v)::r,cs=>by simp only [zjI,zUL h,zXV h fs r]
theorem zX4 (h:st'.blks=st.blks) (e:Nat):∀ (l:List (Nat×AV ty)) (n:Nat),znw cx st' e n l=znw cx st e n l
 | [],n=>rfl
 | (i,v)::r,n=>by simp only [znw,zUL h,zPt h,zX4 h e r]
theorem z5L (h:st'.blks=st.blks):∀ (vs:List (AV ty)) (io:List Bool) (ts:List Nat),zmY cx st' io ts vs=zmY cx st io ts vs
 | [],io,ts=>rfl
 | v::vs,io,ts=>by simp only [zmY,z5L h vs,zvt h,zPt h]
theorem z68 (h:st'.blks=st.blks):∀ (ids:List Nat) (us:List (Option ((T:Nat)×List (ty T)))),zgr st' ids us=zgr st ids us
 | [],[]=>rfl
 | [],_::_=>rfl
 | _::_,[]=>rfl
 | id::ids,u::us=>by simp only [zgr,z68 h ids,zvt h]
theorem zUF (h:st'.blks=st.blks):∀ (l:List (Nat×Blk ty)),zlQ st' l=zlQ st l
 | []=>rfl
 | (i,b)::r=>by simp only [zlQ,zwt h,zUF h r]
theorem zbiE (h:st'.blks=st.blks) (dst:Option Tmp) (f:Nat) (ts:List Nat) (vs:List (AV ty)) (K:Delta ty->Option α):zy2 cx st' dst f ts vs K=zy2 cx st dst f ts vs K:=by
 unfold zy2; simp only [z5L h,z68 h,zUF h]
theorem zbhr (h:st'.blks=st.blks) (T:Nat) (x:AV ty) (lo hi:Option Int) (K:Delta ty->Option α):ztD cx T st' x lo hi K=ztD cx T st x lo hi K:=by
 unfold ztD; simp only [zPU h]
theorem zbgE (h:st'.blks=st.blks) (dst:Option Tmp) (T:Nat) (s x:AV ty) (K:Delta ty->Option α):zs8 cx st' dst T s x K=zs8 cx st dst T s x K:=by
 unfold zs8; simp only [zPU h,zwt h,zvt h]
theorem zbgJ (h:st'.blks=st.blks) (dst:Option Tmp) (T T':Nat) (s x:AV ty) (K:Delta ty->Option α):zvu cx st' dst T T' s x K=zvu cx st dst T T' s x K:=by
 unfold zvu; simp only [zwt h]
theorem zbeG (h:st'.blks=st.blks) (dst:Option Tmp) (b:Builtin) (ts:List Nat) (vs:List (AV ty)) (K:Delta ty->Option α):zim cx st' dst b ts vs K=zim cx st dst b ts vs K:=by
 unfold zim; simp only [zPU h,zbgE h,zbgJ h,zvt h]
theorem z9K {x:Option Operand} (h:∀ y∈x.toArray,st'.ev y=st.ev y):zzU st' x=zzU st x:=by
 cases x with
 | none=>rfl
 | some y=>unfold zzU; simp only [h y (by simp)]
theorem zbda {ps:List (Nat×Operand)} (h:∀ y∈ps.map (·.2),st'.ev y=st.ev y):(ps.map λ(i,x)=>(i,st'.ev x))=ps.map λ(i,x)=>(i,st.ev x):=by
 apply q33;intro p hp;simp only [h p.2 (q1p.2 ⟨p,hp,rfl⟩)]
theorem zblV {ps:List (Nat×Operand)} (h:∀ y∈ps.map (·.2),st'.ev y=st.ev y):(ps.flatMap λp=>(st'.ev p.2).ids1)=ps.flatMap λp=>(st.ev p.2).ids1:=by
 rw [List.flatMap_def,List.flatMap_def];congr 1;apply q33;intro p hp;rw [h p.2 (q1p.2 ⟨p,hp,rfl⟩)]
theorem zblR (hb:st'.blks=st.blks) (hev:∀ x∈o.op.operands,st'.ev x=st.ev x):aop cx o st'=aop cx o st:=by
 unfold aop ze8;cases ho:o.op <;>rw [ho] at hev <;>simp only [Op.operands] at hev
 case buildSlice T n ps=>simp only [zbda (ps:=ps.toList) (λy hy=>hev y (by simpa using hy)),zX4 hb,zwt hb]
 case build T ps=>simp only [zbda (ps:=ps.toList) (λy hy=>hev y (by simpa using hy)),zblV (ps:=ps.toList) (λy hy=>hev y (by simpa using hy)),zXV hb]
 case slice T x lo hi mx=>
  cases mx with
  | some _=>rfl
  | none=>simp only [hev x (by simp),z9K (x:=lo) (λy hy=>hev y (by simp at hy ⊢; simp [hy])),z9K (x:=hi) (λy hy=>hev y (by simp at hy ⊢; simp [hy])),zbhr hb]
 case makeFunc fn first caps=>
  cases fn with
  | func g=>
   have:caps.toList.map st'.ev=caps.toList.map st.ev:=q33 λx hx=>hev x (by simp at hx ⊢; exact .inr hx)
   simp only [this]
  | _=>rfl
 case call c=>
  obtain ⟨callee,args,ts⟩:=c;simp only [Call.operands] at hev;have hargs:args.toList.map st'.ev=args.toList.map st.ev:=q33 λx hx=>hev x (by cases callee <;>simp at hx ⊢ <;>simp [hx])
  cases callee with
  | value f=>simp only [hev f (by simp),hargs,zbiE hb]
  | invoke r m=>rfl
  | builtin b=>simp only [hargs,zbeG hb]
 case pick c a b=>simp only [hev c (by simp),hev a (by simp),hev b (by simp)]
 case binOp b T x y u=>simp only [hev x (by simp),hev y (by simp)]
 case store T x y=>simp only [hev x (by simp),hev y (by simp),zUL hb,zvt hb,zPt hb]
 case makeSlice T x y=>simp only [hev x (by simp),hev y (by simp),zwt hb]
 case makeMap T r=>
  cases r with
  | none=>simp only [zwt hb]
  | some m=>rfl
 case lookup T m k ok=>simp only [hev m (by simp),hev k (by simp),zGT,zvt hb]
 case mapUpdate T m k v=>simp only [hev m (by simp),hev k (by simp),hev v (by simp),zvf,zvt hb]
 case insert T m k v=>simp only [hev m (by simp),hev k (by simp),hev v (by simp),zvf,zvt hb]
 case indexAddr T x y=>simp only [hev x (by simp),hev y (by simp),zvt hb]
 case index T x y=>simp only [hev x (by simp),hev y (by simp)]
 case alloc T=>simp only [zwt hb]
 case box T x=>simp only [hev x (by simp),zwt hb,zUL hb]
 case load T x=>simp only [hev x (by simp),zU1 hb]
 case nilCheck x=>simp only [hev x (by simp),zU1 hb]
 case unOp u T x=>simp only [hev x (by simp)]
 case convert S D x=>simp only [hev x (by simp),zPU hb]
 case fieldAddr S x f=>simp only [hev x (by simp),zU1 hb]
 case field S x f=>simp only [hev x (by simp)]
 case extract x i=>simp only [hev x (by simp)]
 case move x=>simp only [hev x (by simp)]
 case assign x=>simp only [hev x (by simp)]
theorem zTH {f g:AV ty->Option (AV ty×List Nat)} (h:∀ v v',f v=some (v',[])->g v=some (v',[])):∀ (l l':List (AV ty)),zf3 f l=some (l',[])->zf3 g l=some (l',[])
 | [],l',hl=>hl
 | c::cs,l',hl=>by
  simp only [zf3] at hl ⊢;split at hl
  ·cases hl
  ·rename_i c' i hc;split at hl
   ·cases hl
   ·rename_i cs' is hcs;simp only [q0,qe,List.append_eq_nil_iff] at hl;obtain ⟨rfl,rfl,rfl⟩:=hl;rw [h c c' hc,zTH h cs cs' hcs];rfl
theorem zZ4 (st':St ty):∀ (n:Nat) (v v':AV ty),zbE cx st n v=some (v',[])->zbE cx st' n v=some (v',[])
 | 0,v,v',h=>by simp [zbE] at h
 | n+1,v,v',h=>by
  cases v with
  | own id=>simp only [zbE] at h; split at h <;>simp at h
  | sub id lo k=>simp only [zbE] at h; split at h <;>simp at h
  | ptr id off=>simp only [zbE] at h; split at h <;>(try split at h) <;>simp at h
  | eptr id ix off=>simp only [zbE] at h; split at h <;>simp at h
  | agg cs=>
   simp only [zbE] at h ⊢;split at h
   ·rename_i cs' is hcs;simp only [q0,qe] at h;obtain ⟨rfl,rfl⟩:=h;rw [zTH (zZ4 st' n) cs cs' hcs]
   ·cases h
  | fn f cs=>
   simp only [zbE] at h ⊢;split at h
   ·rename_i cs' is hcs;simp only [q0,qe] at h;obtain ⟨rfl,rfl⟩:=h;rw [zTH (zZ4 st' n) cs cs' hcs]
   ·cases h
  | _=>exact h
theorem zZi (st st':St ty) {v:AV ty} (h:v.cellId=[]):v.isCell st'=v.isCell st:=by
 cases v <;>simp only [AV.cellId] at h <;>first | rfl | cases h
theorem zbiJ (st st':St ty) {v:AV ty} (h:v.ids1=[]):v.cells st'=v.cells st:=by
 cases v with
 | agg cs=>
  simp only [AV.ids1,List.flatMap_eq_nil_iff] at h
  have:cs.all (AV.isCell st')=cs.all (AV.isCell st):=by
   rw [Bool.eq_iff_iff,q1d,q1d];exact ⟨λhh x hx=>(zZi st st' (h x hx)) ▸ hh x hx,λhh x hx=>(zZi st st' (h x hx)).symm ▸ hh x hx⟩
  simp only [AV.cells,this]
 | _=>simp only [AV.ids1] at h; simp only [AV.cells,zZi st st' h]
theorem zZv (st st':St ty) (fs:List (Nat×Nat)):∀ (l:List (Nat×AV ty)) (cs:List (AV ty)),(∀ p∈l,p.2.ids1=[])->zjI cx st' fs cs l=zjI cx st fs cs l
 | [],cs,_=>rfl
 | (i,v)::r,cs,h=>by
  simp only [zjI,zbiJ st st' (h (i,v) (by simp)),λcs=>zZv st st' fs r cs λp hp=>h p (by simp [hp])]
theorem zUW (st':St ty) {v:AV ty} {cs:List (AV ty)} {off:Nat} (h:ze2 cx st v=some (cs,off,[])):ze2 cx st' v=some (cs,off,[]):=by
 cases v with
 | ptr id o=>simp only [ze2] at h; split at h <;>simp at h
 | eptr id ix o=>simp only [ze2] at h; split at h <;>simp at h
 | _=>exact h
theorem zZR (st':St ty) {v:AV ty} {l:(T:Nat)×List (ty T)} (h:zed st v=some (l,[])):zed st' v=some (l,[]):=by
 cases v with
 | own id=>simp only [zed] at h; split at h <;>simp at h
 | sub id lo n=>simp only [zed] at h; split at h <;>simp at h
 | _=>exact h
theorem zUm (st':St ty):∀ (vs:List (AV ty)) (io:List Bool) (ts:List Nat) (as:List (Arg ty)),zmY cx st io ts vs=some (as,[],[])->zmY cx st' io ts vs=some (as,[],[])
 | [],io,ts,as,h=>h
 | v::vs,io,ts,as,h=>by
  simp only [zmY] at h ⊢;split at h
  ·cases h
  ·rename_i as' fz mv has;split at h
   ·split at h
    ·split at h
     ·simp at h
     ·cases h
    ·cases h
   ·rename_i hio;split at h
    ·cases h
    ·rename_i a ids ha;split at h
     ·cases h
     ·rename_i a' ha';simp only [q0,qe,List.append_eq_nil_iff] at h;obtain ⟨rfl,⟨rfl,rfl⟩,rfl⟩:=h;rw [zUm st' vs _ _ as' has];have hp:=zZ4 (cx:=cx) st' zdh v a ha
      dsimp only
      simp only [hp,ha']; rfl
theorem z2s {ids:List Nat} {us:List (Option ((T:Nat)×List (ty T)))} (h:zgr st ids us=some []):ids=[]/\us=[]:=by
 cases ids with
 | nil=>cases us with
  | nil=>exact ⟨rfl,rfl⟩
  | cons u us=>simp [zgr] at h
 | cons id ids=>cases us with
  | nil=>simp [zgr] at h
  | cons u us=>
   simp only [zgr] at h
   repeat' (split at h)
   all_goals simp at h
theorem zbiV (st':St ty) {dst:Option Tmp} {f:Nat} {ts:List Nat} {vs:List (AV ty)} (h:zy2 cx st dst f ts vs some=some d) (hw:d.wr=[]) (hr:d.rd=[]):zy2 cx st' dst f ts vs some=some d:=by
 unfold zy2 at h ⊢;split at h
 ·cases h
 ·rename_i s hs;split at h
  ·cases h
  ·rename_i as fz mv has;split at h
   ·cases h
   ·rename_i hd;split at h
    ·cases h
    ·rename_i pre res hres;cases pre with
     | false=>cases h
     | true=>
      simp only [q7] at h;split at h
      ·cases h
      ·rename_i us hus;split at h
       ·rename_i t;split at h
        ·rename_i hal;simp only [q0] at h;subst h;simp only [List.append_eq_nil_iff] at hw hr;obtain ⟨rfl,hws⟩:=hw;obtain ⟨rfl,hup⟩:=z2s hus;subst hr;rw [zUm st' vs _ _ as has];simp only [hd,hres,q7,hup,zgr,hws,zlQ,q1j] at hal ⊢;rw [hal]
        ·cases h
       ·split at h
        ·rename_i hrv;simp only [q0] at h;subst h;simp only at hw hr;subst hw hr;obtain ⟨rfl,hup⟩:=z2s hus;rw [zUm st' vs _ _ as has];simp only [hd,hres,q7,hup,zgr,hrv]
        ·cases h
theorem zfP {β:Type} {c:Bool} {x:Option β} {d:β} (h:(bif c then x else none)=some d):x=some d:=by cases c with | true=>exact h | false=>cases h
theorem zbhS (st':St ty) {T:Nat} {x:AV ty} {lo hi:Option Int} (h:ztD cx T st x lo hi some=some d) (hr:d.rd=[]):ztD cx T st' x lo hi some=some d:=by
 unfold ztD at h ⊢;split at h
 ·exact h
 ·exact h
 ·rename_i hns hns2;split at h
  ·rename_i e sz bt z T' xs rd hti hl;split at h
   ·cases h
   ·rename_i hb;generalize hcnd:(decide (0<=lo.getD 0)&&decide (lo.getD 0<=hi.getD xs.length)&&decide (hi.getD xs.length<=xs.length))=cnd at h;cases cnd with
    | false=>cases h
    | true=>
     simp only [q7] at h
     have hrd:rd=[]:=by
      split at h
      ·simp only [zed,q0,qe] at hl; exact hl.2.symm
      ·simp only [q0] at h; subst h; exact hr
      ·simp only [q0] at h; subst h; exact hr
      ·cases h
     subst hrd;simp only [hti,zZR st' hl,hb,hcnd,q7];exact h
  ·cases h
theorem zbep (st':St ty) {dst:Option Tmp} {b:Builtin} {ts:List Nat} {vs:List (AV ty)} (h:zim cx st dst b ts vs some=some d) (hw:d.wr=[]) (hr:d.rd=[]):zim cx st' dst b ts vs some=some d:=by
 unfold zim at h ⊢;split at h
 ·split at h
  ·exact h
  ·rename_i hti;split at h
   ·exact h
   ·split at h
    ·simp only [q0] at h; subst h; simp at hr
    ·cases h
   ·rename_i v h1 h2;split at h
    ·rename_i T' l rd hl;simp only [q0] at h; subst h;simp only at hr; subst hr;simp only [hti,zZR st' hl]
    ·cases h
  ·split at h
   ·split at h
    ·simp only [q0] at h; subst h; simp at hr
    ·cases h
   ·cases h
  ·cases h
 ·split at h
  ·unfold zs8 at h
   repeat' (split at h)
   all_goals first
    | (cases h; done)
    | (have h:=zfP h; simp only [q0] at h; subst h; simp at hw; done)
    | (have h:=zfP h; simp only [q0] at h; subst h; simp at hw; done)
  ·unfold zvu at h
   repeat' (split at h)
   all_goals first
    | (cases h; done)
    | (have h:=zfP h; simp only [q0] at h; subst h; simp at hw; done)
 ·exact h
 ·exact h
 ·exact h
 ·repeat' (split at h)
  all_goals first
   | (cases h; done)
   | (have h:=zfP h; simp only [q0] at h; subst h; simp at hw; done)
 ·cases h
theorem z5V {st st':St ty} (ht:st'.tmps=st.tmps):st'.ev=st.ev:=by
 funext x; cases x <;>simp only [St.ev,St.get,ht]
theorem zbad {st st':St ty} (ht:st'.tmps=st.tmps) (x:Option Operand):zzU st' x=zzU st x:=by
 cases x <;>simp only [zzU,z5V ht]
theorem zbh2 (st':St ty) (ht:st'.tmps=st.tmps) (h:aop cx o st=some d) (he:d.foot.empty=true):aop cx o st'=some d:=by
 have hw:d.wr=[]:=by simp [Delta.foot,Foot.empty] at he; exact he.1.1
 have hf:d.fz=[]:=by simp [Delta.foot,Foot.empty] at he; exact he.1.2
 have hr:d.rd=[]:=by simp [Delta.foot,Foot.empty] at he; exact he.2
 unfold aop ze8 at h ⊢;cases ho:o.op <;>simp only [ho] at h ⊢ <;>(try simp only [z5V ht,zbad ht]) <;>first | exact h | skip
 case convert S D x=>
  split at h
  ·exact h
  ·exact h
  ·rename_i hS hD;split at h
   ·rename_i he' hl;split at h
    ·rename_i hk hns;simp only [q0] at h; subst h;simp only at hr; subst hr;simp only [hS,hD,he',zZR st' hl,hk,hns]
    ·cases h
   ·cases h
  ·cases h
 case makeFunc fn first caps=>
  cases fn <;>first | exact h | (simp only [z5V ht]; exact h)
 case alloc T=>
  repeat' (split at h)
  all_goals first
   | (cases h; done)
   | (have h:=zfP h; simp only [q0] at h; subst h; simp at hw; done)
 case box T x=>
  repeat' (split at h)
  all_goals first
   | (cases h; done)
   | (have h:=zfP h; simp only [q0] at h; subst h; simp at hw; done)
 case build T ps=>
  split at h
  ·rename_i fs sz bt z hti;split at h
   ·rename_i cs hcs;simp only [q0] at h; subst h;simp only [List.flatMap_eq_nil_iff] at hr
    rw [zZv st st' fs _ _ (λp hp=>by
     obtain ⟨q,hq,rfl⟩:=q1p.1 hp;exact hr q hq),hcs]
   ·cases h
  ·cases h
 case buildSlice T n ps=>
  repeat' (split at h)
  all_goals first
   | (cases h; done)
   | (simp only [q0] at h; subst h; simp at hw)
 case load T x=>
  split at h
  ·rename_i i cs off rd hti hc;split at h
   ·rename_i v hv;simp only [q0] at h; subst h; simp only at hr; subst hr;simp only [hti,zUW st' hc,hv]
   ·cases h
  ·cases h
 case store T x y=>
  repeat' (split at h)
  all_goals first
   | (cases h; done)
   | (simp only [q0] at h; subst h; simp at hw; done)
   | (have h:=zfP h; simp only [q0] at h; subst h; simp at hw; done)
 case nilCheck x=>
  split at h
  ·exact h
  ·split at h
   ·rename_i cs off rd hc;simp only [q0] at h; subst h; simp only at hr; subst hr;simp only [zUW st' hc]
   ·cases h
 case makeMap T r=>
  cases r with
  | some m=>exact h
  | none=>
   simp only at h ⊢
   repeat' (split at h)
   all_goals first
    | (cases h; done)
    | (have h:=zfP h; simp only [q0] at h; subst h; simp at hw; done)
 case lookup T m k ok=>
  unfold zGT at h
  repeat' (split at h)
  all_goals first
   | (cases h; done)
   | (simp only [q0] at h; subst h; simp at hr; done)
 case mapUpdate T m k v=>
  unfold zvf at h
  repeat' (split at h)
  all_goals first
   | (cases h; done)
   | (simp only [q0] at h; subst h; simp at hw; done)
 case insert T m k v=>
  unfold zvf at h
  repeat' (split at h)
  all_goals first
   | (cases h; done)
   | (simp only [q0] at h; subst h; simp at hw; done)
 case makeSlice T x y=>
  repeat' (split at h)
  all_goals first
   | (cases h; done)
   | (have h:=zfP h; simp only [q0] at h; subst h; simp at hw; done)
 case slice T x lo hi mx=>
  cases mx with
  | some m=>exact h
  | none=>
   simp only at h ⊢;split at h
   ·rename_i lo' hi' h1 h2;exact zbhS st' h hr
   ·cases h
 case fieldAddr S x f=>
  split at h
  ·rename_i fs sz bt z hti;split at h
   ·rename_i p hp;split at h
    ·rename_i i v cs off rd hi hs hc;cases hz:Nat.beq i.size 0 with
     | true=>rw [hz] at h; cases h
     | false=>
      rw [hz] at h;simp only [q0] at h; subst h; simp only at hr; subst hr;simp only [zUW st' hc,hs,hi,hz]
    ·cases h
   ·cases h
  ·cases h
 case indexAddr T x y=>
  split at h
  ·rename_i e sz bt z i hti hi;split at h
   ·exact h
   all_goals first
    | (repeat' (split at h)
       all_goals first
        | (cases h; done)
        | (have h:=zfP h; simp only [q0] at h; subst h; simp at hr; done))
  ·cases h
 case call c=>
  obtain ⟨callee,args,ts⟩:=c;cases callee with
  | invoke r m=>exact h
  | builtin b=>exact zbep st' h hw hr
  | value f=>
   simp only at h ⊢;split at h
   ·exact zbiV st' h hw hr
   ·cases h
end
end
end Go.Ab
/- Operations see the blocks of their footprint alone. -/
namespace Go.Ab
noncomputable section
variable {ty:Nat->Type}
section
variable {cx:Cx ty} {st st':St ty} {o:Oper} {d:Delta ty} {S T:List Nat}
def Agr (S:List Nat) (st st':St ty):Prop:=∀ id∈S,st'.blks[id]? =st.blks[id]?
theorem Agr.blk (h:Agr S st st') {id:Nat} (hi:id∈S):st'.blk id=st.blk id:=by
 rw [St.blk_def,St.blk_def,qi,qi,h id hi]
theorem Agr.free (h:Agr S st st') {id:Nat} (hi:id∈S):zfT st' id=zfT st id:=by rw [zLw,zLw,h id hi]
theorem Agr.mono (h:Agr S st st') (hs:∀ id∈T,id∈S):Agr T st st':=λid hi=>h id (hs id hi)
theorem zAT {f f':AV ty->Option (AV ty×List Nat)}:∀ (cs:List (AV ty)) {r:List (AV ty)} {ids:List Nat},(∀ c∈cs,∀ r i,f c=some (r,i)->Agr i st st'->f' c=some (r,i))->zf3 f cs=some (r,ids)->Agr ids st st'->zf3 f' cs=some (r,ids)
 | [],r,ids,hf,h,ha=>h
 | c::cs,r,ids,hf,h,ha=>by
  simp only [zf3] at h ⊢;split at h
  ·cases h
  ·rename_i c' i hc;split at h
   ·cases h
   ·rename_i cs' is hcs;simp only [q0,qe] at h;obtain ⟨rfl,rfl⟩:=h;rw [hf c (by simp) _ _ hc (ha.mono λid hi=>by simp [hi]),zAT cs (λx hx=>hf x (by simp [hx])) hcs (ha.mono λid hi=>by simp [hi])]
theorem z2S {f:AV ty->Option (AV ty×List Nat)}:∀ (cs:List (AV ty)) {r:List (AV ty)} {ids:List Nat},zf3 f cs=some (r,ids)->∀ c∈cs,∃ r' i,f c=some (r',i)/\∀ id∈i,id∈ids
 | [],r,ids,h,c,hc=>by cases hc
 | x::cs,r,ids,h,c,hc=>by
  simp only [zf3] at h;split at h
  ·cases h
  ·rename_i c' i hx;split at h
   ·cases h
   ·rename_i cs' is hcs;simp only [q0,qe] at h;obtain ⟨rfl,rfl⟩:=h;rcases q8.1 hc with rfl | hc
    ·exact ⟨_,_,hx,λid hi=>by simp [hi]⟩
    ·obtain ⟨r',i',h1,h2⟩:=z2S cs hcs c hc;exact ⟨r',i',h1,λid hi=>by simp [h2 id hi]⟩
theorem zPE:∀ (n:Nat) (v:AV ty) {r:AV ty} {ids:List Nat},zbE cx st n v=some (r,ids)->Agr ids st st'->zbE cx st' n v=some (r,ids)
 | 0,v,r,ids,h,ha=>by simp [zbE] at h
 | n+1,v,r,ids,h,ha=>by
  have ih:=λv r i (h:zbE cx st n v=some (r,i)) ha=>zPE n v h ha
  cases v with
  | own id=>
   simp only [zbE] at h ⊢;split at h
   ·rename_i hb;simp only [q0,qe] at h;obtain ⟨rfl,rfl⟩:=h;rw [ha.blk (by simp),hb]
   ·cases h
  | sub id lo k=>
   simp only [zbE] at h ⊢;split at h
   ·rename_i hb;simp only [q0,qe] at h;obtain ⟨rfl,rfl⟩:=h;rw [ha.blk (by simp),hb]
   ·cases h
  | eptr id ix off=>
   simp only [zbE] at h ⊢;split at h
   ·rename_i hb;simp only [q0,qe] at h;obtain ⟨rfl,rfl⟩:=h;rw [ha.blk (by simp),hb]
   ·cases h
  | ptr id off=>
   simp only [zbE] at h ⊢;split at h
   ·rename_i hb;split at h
    ·rename_i cs' is hm;simp only [q0,qe] at h;obtain ⟨rfl,rfl⟩:=h;rw [ha.blk (by simp),hb]
     simp only [zAT _ (λc _ r i hc hi=>ih c r i hc hi) hm (ha.mono λid hi=>by simp [hi])]
    ·cases h
   ·cases h
  | agg cs=>
   simp only [zbE] at h ⊢;split at h
   ·rename_i cs' is hm;simp only [q0,qe] at h;obtain ⟨rfl,rfl⟩:=h;simp only [zAT _ (λc _ r i hc hi=>ih c r i hc hi) hm ha]
   ·cases h
  | fn f cs=>
   simp only [zbE] at h ⊢;split at h
   ·rename_i cs' is hm;simp only [q0,qe] at h;obtain ⟨rfl,rfl⟩:=h;simp only [zAT _ (λc _ r i hc hi=>ih c r i hc hi) hm ha]
   ·cases h
  | _=>exact h
theorem zbhc {n:Nat} {v r:AV ty} {ids:List Nat} (h:zbE cx st n v=some (r,ids)) (ha:Agr ids st st'):v.isCell st'=v.isCell st:=by
 cases n with
 | zero=>simp [zbE] at h
 | succ n=>
 cases v with
 | own id=>
  simp only [zbE] at h;split at h
  ·simp only [q0,qe] at h;obtain ⟨rfl,rfl⟩:=h;simp only [AV.isCell,ztO,ha.blk (id:=id) (by simp)]
  ·cases h
 | sub id lo k=>
  simp only [zbE] at h;split at h
  ·simp only [q0,qe] at h;obtain ⟨rfl,rfl⟩:=h;simp only [AV.isCell,ztO,ha.blk (id:=id) (by simp)]
  ·cases h
 | eptr id ix off=>
  simp only [zbE] at h;split at h
  ·simp only [q0,qe] at h;obtain ⟨rfl,rfl⟩:=h;simp only [AV.isCell,ztO,ha.blk (id:=id) (by simp)]
  ·cases h
 | ptr id off=>
  simp only [zbE] at h;split at h
  ·split at h
   ·simp only [q0,qe] at h;obtain ⟨rfl,rfl⟩:=h;simp only [AV.isCell,ztO,ha.blk (id:=id) (by simp)]
   ·cases h
  ·cases h
 | _=>rfl
theorem zbdl {p q:AV ty->Bool}:∀ {l:List (AV ty)},(∀ x∈l,p x=q x)->l.all p=l.all q
 | [],h=>rfl
 | x::r,h=>by rw [q28,q28,h x (by simp),zbdl λy hy=>h y (by simp [hy])]
theorem zbdG {v:AV ty} {c c':List (AV ty)} {n:Nat} {ids:List Nat} (h:v.cells st=some c) (hp:zf3 (zbE cx st n) c=some (c',ids)) (ha:Agr ids st st'):v.cells st'=some c:=by
 have key:∀ x∈c,x.isCell st'=x.isCell st:=λx hx=>by
  obtain ⟨r',i,h1,h2⟩:=z2S c hp x hx;exact zbhc h1 (ha.mono h2)
 unfold AV.cells at h ⊢;split at h
 ·rename_i cs;split at h
  ·rename_i hc;simp only [q0] at h; subst h;rw [zbdl key,hc]
  ·cases h
 ·split at h
  ·rename_i hc;simp only [q0] at h; subst h;rw [key v (by simp),hc]
  ·cases h
theorem zbfT {v:AV ty} (ha:Agr v.cellId st st'):v.isCell st'=v.isCell st:=by
 cases v with
 | own id=>simp only [AV.isCell,ztO,ha.blk (id:=id) (by simp [AV.cellId])]
 | sub id lo k=>simp only [AV.isCell,ztO,ha.blk (id:=id) (by simp [AV.cellId])]
 | eptr id ix off=>simp only [AV.isCell,ztO,ha.blk (id:=id) (by simp [AV.cellId])]
 | ptr id off=>simp only [AV.isCell,ztO,ha.blk (id:=id) (by simp [AV.cellId])]
 | _=>rfl
theorem z0r {v:AV ty} {c:List (AV ty)} (h:v.cells st=some c) (ha:Agr (z0L c) st st'):v.cells st'=some c:=by
 have key:∀ x∈c,x.isCell st'=x.isCell st:=λx hx=>zbfT (ha.mono λi hi=>List.mem_flatMap.2 ⟨x,hx,hi⟩)
 unfold AV.cells at h ⊢;split at h
 ·rename_i cs;split at h
  ·rename_i hc;simp only [q0] at h; subst h;rw [zbdl key,hc]
  ·cases h
 ·split at h
  ·rename_i hc;simp only [q0] at h; subst h;rw [key v (by simp),hc]
  ·cases h
theorem zbhp {v:AV ty} {c:List (AV ty)} (h:v.cells st=some c) (ha:Agr v.ids1 st st'):v.cells st'=some c:=by
 refine z0r h (ha.mono λi hi=> ?_)
 unfold AV.cells at h;split at h
 ·rename_i cs;split at h
  ·simp only [q0] at h; subst h; exact hi
  ·cases h
 ·rename_i hne;split at h
  ·simp only [q0] at h; subst h;simp only [z0L,q1f,List.flatMap_nil,q1o] at hi;cases v with
   | agg cs=>exact absurd rfl (hne cs)
   | _=>exact hi
  ·cases h
theorem zZr {fs:List (Nat×Nat)}:∀ (ps:List (Nat×AV ty)) (cs:List (AV ty)) {r:List (AV ty)},zjI cx st fs cs ps=some r->Agr (ps.flatMap λp=>p.2.ids1) st st'->zjI cx st' fs cs ps=some r
 | [],cs,r,h,_=>h
 | (i,v)::ps,cs,r,h,ha=>by
  unfold zjI at h ⊢;split at h
  ·cases h
  ·rename_i off T hf;split at h
   ·cases h
   ·rename_i inf hti;split at h
    ·cases h
    ·rename_i c hc;have hc':=zbhp hc (ha.mono λi hi=>by simp [hi])
     split at h
     ·cases h
     ·rename_i hb;split at h
      ·cases h
      ·rename_i cs' hs;simp only [hf,hti,hc',hb,hs];exact zZr ps cs' h (ha.mono λi hi=>by simp only [q1f,q12]; exact .inr hi)
theorem zZu {e:Nat}:∀ (ps:List (Nat×AV ty)) (n:Nat) {l:List (ty e)} {ids:List Nat},znw cx st e n ps=some (l,ids)->Agr ids st st'->znw cx st' e n ps=some (l,ids)
 | [],n,l,ids,h,ha=>h
 | (i,v)::r,n,l,ids,h,ha=>by
  simp only [znw] at h ⊢;split at h
  ·cases h
  ·rename_i hb;split at h
   ·cases h
   ·rename_i c hc;split at h
    ·cases h
    ·rename_i c' is hm;split at h
     ·cases h
     ·rename_i x hx;split at h
      ·cases h
      ·rename_i xs is' hr;simp only [q0,qe] at h;obtain ⟨rfl,rfl⟩:=h;have a1:Agr is st st':=ha.mono λid hi=>by simp [hi]
       simp only [hb,zbdG hc hm a1,zAT c (λc _ r i hc hi=>zPE zdh c hc hi) hm a1,hx,zZu r (n+1) hr (ha.mono λid hi=>by simp [hi])]
theorem zX5 {v:AV ty} {x:(T:Nat)×List (ty T)} {rd:List Nat} (h:zed st v=some (x,rd)) (ha:Agr rd st st'):zed st' v=some (x,rd):=by
 unfold zed at h ⊢;split at h
 ·exact h
 ·split at h
  ·rename_i hb;simp only [q0,qe] at h;obtain ⟨rfl,rfl⟩:=h;simp only [ha.blk (qj.2 rfl),hb]
  ·cases h
 ·split at h
  ·rename_i hb;simp only [q0,qe] at h;obtain ⟨rfl,rfl⟩:=h;simp only [ha.blk (qj.2 rfl),hb]
  ·cases h
 ·cases h
theorem z6Z {v:AV ty} {cs:List (AV ty)} {off:Nat} {rd:List Nat} (h:ze2 cx st v=some (cs,off,rd)) (ha:Agr rd st st'):ze2 cx st' v=some (cs,off,rd):=by
 cases v with
 | ptr id o=>
  simp only [ze2] at h ⊢;split at h
  ·rename_i hb;simp only [q0,qe] at h;obtain ⟨rfl,rfl,rfl⟩:=h;simp only [ha.blk (qj.2 rfl),hb]
  ·cases h
 | eptr id ix o=>
  simp only [ze2] at h ⊢;split at h
  ·rename_i hb;simp only [q0,qe] at h;obtain ⟨rfl,rfl,rfl⟩:=h;simp only [ha.blk (qj.2 rfl),hb]
  ·cases h
 | _=>exact h
theorem zbik {T:Nat} {x:AV ty} {lo hi:Option Int} (h:ztD cx T st x lo hi some=some d) (ha:Agr d.rd st st'):ztD cx T st' x lo hi some=some d:=by
 unfold ztD at h ⊢;split at h
 ·exact h
 ·exact h
 ·rename_i hns hns2;split at h
  ·rename_i e sz bt z T' xs rd hti hl;split at h
   ·cases h
   ·rename_i hb;generalize hcnd:(decide (0<=lo.getD 0)&&decide (lo.getD 0<=hi.getD xs.length)&&decide (hi.getD xs.length<=xs.length))=cnd at h;cases cnd with
    | false=>cases h
    | true=>
     simp only [q7] at h
     have hrd:Agr rd st st':=by
      split at h
      ·simp only [zed,q0,qe] at hl; rw [<- hl.2]; exact λid hi=>by cases hi
      ·simp only [q0] at h; subst h; exact ha
      ·simp only [q0] at h; subst h; exact ha
      ·cases h
     simp only [hti,zX5 hl hrd,hb,hcnd,q7];exact h
  ·cases h
def z6G (st:St ty) (e:Nat) (x:AV ty):Option (List (ty e)×List Nat):=match x with
  | .lit (.slice none 0 0)=>some ([],[]) | .lit (.slice (some _) 0 _)=>some ([],[]) | x=>match zed st x with | some (⟨T',ys⟩,rd)=>(zCD T' e ys).map (·,rd) | none=>none
theorem zbg8 {e:Nat} {x:AV ty} {r:List (ty e)×List Nat} (h:z6G st e x=some r) (ha:Agr r.2 st st'):z6G st' e x=some r:=by
 unfold z6G at h ⊢;split at h
 ·exact h
 ·exact h
 ·cases hl:zed st x with
  | none=>rw [hl] at h; cases h
  | some q=>
   obtain ⟨⟨T',ys⟩,rd⟩:=q;rw [hl] at h;simp only at h
   have:rd=r.2:=by
    cases hc:zCD T' e ys with
    | none=>rw [hc] at h; cases h
    | some q=>rw [hc] at h; simp only [qz,q0] at h; rw [<- h]
   rw [zX5 hl (this ▸ ha)];exact h
theorem zbf0 {R:Type} {dst:Option Tmp} {T:Nat} {s x:AV ty} {K:Delta ty->Option R}:zs8 cx st dst T s x K=
 (match cx.ti T,dst with
 | some ⟨.slice e,_,_,_⟩,some d=>match cx.ti e with
  | none=>none
  | some inf=>match Nat.beq inf.size 0||Nat.beq inf.bytes 0 with
   | true=>none
   | false=>
       match z6G st e x with
    | none=>none
    | some (ys,rd)=>
     match s with
     | .lit (.slice none 0 0)=>
      bif zfT st (zQ d)&&decide (ys.length*inf.bytes<=zD) then K { val:=.own (zQ d),wr:=[(zQ d,.arr e ys false)],rd:=rd } else none
     | .own id=>match st.blk id, !rd.contains id&&zfT st (zQ d) with
      | .arr T' l false,true=>match zCD T' e l with
       | none=>none
       | some l=>bif decide ((l.length+ys.length)*inf.bytes<=zD) then K { val:=.own (zQ d),wr:=[(id,.dead),(zQ d,.arr e (l++ys) false)],rd:=rd } else none
      | _,_=>none
     | _=>none
 | _,_=>none):=rfl
theorem zbf2 {dst:Option Tmp} {T:Nat} {s x:AV ty} (h:zs8 cx st dst T s x some=some d) (ha:Agr (d.wr.map (·.1)++d.rd) st st'):zs8 cx st' dst T s x some=some d:=by
 rw [zbf0] at h ⊢;split at h
 ·rename_i e sz bt z d0 hti
  try simp only [hti]
  split at h
  ·cases h
  ·rename_i inf hi
   try simp only [hi]
   cases hn:(Nat.beq inf.size 0||Nat.beq inf.bytes 0) with
   | true=>rw [hn] at h; cases h
   | false=>
    rw [hn] at h;simp only at h ⊢;split at h
    ·cases h
    ·rename_i ys rd hx
     have hrd:Agr rd st st':=ha.mono λid hid=>by
      refine List.mem_append_right _ ?_;split at h
      ·have h:=zfP h; simp only [q0] at h; subst h; exact hid
      ·split at h
       ·split at h
        ·cases h
        ·have h:=zfP h; simp only [q0] at h; subst h; exact hid
       ·cases h
      ·cases h
     have hx':=zbg8 hx hrd;rw [hx'];simp only;split at h
     ·have hfr:zfT st' (zQ d0)=zfT st (zQ d0):=ha.free (by
       have h:=zfP h; simp only [q0] at h; subst h; simp)
      rw [hfr]; exact h
     ·rename_i id;split at h
      ·rename_i T' l hb hc;split at h
       ·cases h
       ·rename_i l' hcast;have hd:=zfP h;simp only [q0] at hd;have m1:id∈d.wr.map (·.1)++d.rd:=by rw [<- hd]; simp
        have m2:zQ d0∈d.wr.map (·.1)++d.rd:=by rw [<- hd]; simp
        simp only [ha.blk m1,ha.free m2,hb,hc,hcast];exact h
      ·cases h
     ·cases h
 ·cases h
theorem zUG:∀ (vs:List (AV ty)) (io:List Bool) (ts:List Nat) {as:List (Arg ty)} {fz mv:List Nat},zmY cx st io ts vs=some (as,fz,mv)->Agr (fz++mv) st st'->zmY cx st' io ts vs=some (as,fz,mv)
 | [],io,ts,as,fz,mv,h,ha=>by simpa [zmY] using h
 | v::vs,io,ts,as,fz,mv,h,ha=>by
  simp only [zmY] at h ⊢;split at h
  ·cases h
  ·rename_i as' fz' mv' hr;split at h
   ·rename_i hio;split at h
    ·rename_i id;split at h
     ·rename_i hb;simp only [q0,qe] at h;obtain ⟨rfl,rfl,rfl⟩:=h;simp only [zUG vs io.tail ts.tail hr (ha.mono λid hi=>by simp at hi ⊢; rcases hi with hi | hi <;>simp [hi]),hio,ha.blk (id:=id) (by simp),hb]
     ·cases h
    ·cases h
   ·rename_i hio;split at h
    ·cases h
    ·rename_i a ids hp;split at h
     ·cases h
     ·rename_i a' hc;simp only [q0,qe] at h;obtain ⟨rfl,rfl,rfl⟩:=h;have e:=zUG vs io.tail ts.tail hr (ha.mono λid hi=>by simp at hi ⊢; rcases hi with hi | hi <;>simp [hi])
      have e2:=zPE zdh v hp (ha.mono λid hi=>by simp [hi])
      rw [e];simp only [e2,hc]
theorem zTo:∀ (mv:List Nat) (us:List (Option ((T:Nat)×List (ty T)))) {w:List (Nat×Blk ty)},zgr st mv us=some w->Agr mv st st'->zgr st' mv us=some w/\w.map (·.1)=mv
 | [],[],w,h,ha=>by simp only [zgr,q0] at h ⊢; subst h; exact ⟨rfl,rfl⟩
 | [],_::_,w,h,ha=>by simp [zgr] at h
 | _::_,[],w,h,ha=>by simp [zgr] at h
 | id::ids,u::us,w,h,ha=>by
  simp only [zgr] at h ⊢;split at h
  ·cases h
  ·rename_i r hr;obtain ⟨e1,e2⟩:=zTo ids us hr (ha.mono λid hi=>by simp [hi])
   rw [e1];split at h
   ·simp only [q0] at h; subst h;exact ⟨rfl,by simp [e2]⟩
   ·rename_i T l;simp only;rw [ha.blk (by simp)]
    split at h
    ·rename_i T' l' f hb
     try rw [hb]
     split at h
     ·rename_i hbq;simp only [q0] at h; subst h;exact ⟨by first | rfl | rw [hbq],by simp [e2]⟩
     ·cases h
    ·cases h
theorem zLg:∀ {w:List (Nat×Blk ty)},Agr (w.map (·.1)) st st'->zlQ st' w=zlQ st w
 | [],_=>rfl
 | (i,b)::r,ha=>by
  simp only [zlQ];rw [ha.free (by simp),zLg (w:=r) (ha.mono λid hi=>by simp at hi ⊢; simp [hi])]
theorem zbiu {dst:Option Tmp} {f:Nat} {ts:List Nat} {vs:List (AV ty)} (h:zy2 cx st dst f ts vs some=some d) (ha:Agr (d.wr.map (·.1)++d.rd) st st'):zy2 cx st' dst f ts vs some=some d:=by
 unfold zy2 at h ⊢;split at h
 ·cases h
 ·rename_i s hs
  try simp only [hs]
  split at h
  ·cases h
  ·rename_i as fz mv hal;split at h
   ·cases h
   ·rename_i hnd;cases hsa:s as with
    | none=>rw [hsa] at h; cases h
    | some pr=>
     obtain ⟨pre,res⟩:=pr;rw [hsa] at h;simp only at h;cases pre with
     | false=>cases h
     | true=>
      simp only [q7] at h;split at h
      ·cases h
      ·rename_i us hus;have hmv:us.map (·.1)=mv:=(zTo (st':=st) mv res.upd hus λ_ _=>rfl).2
       have hfz:d.rd=fz/\∀ id∈mv,id∈d.wr.map (·.1):=by
        split at h
        ·split at h
         ·simp only [q0] at h; subst h;exact ⟨rfl,λid hi=>by rw [<- hmv] at hi; simp only [q2g,q12]; exact .inl hi⟩
         ·cases h
        ·split at h
         ·simp only [q0] at h; subst h;exact ⟨rfl,λid hi=>by rw [<- hmv] at hi; exact hi⟩
         ·cases h
       have a1:Agr (fz++mv) st st':=ha.mono λid hi=>by
        rcases q12.1 hi with hi | hi
        ·rw [<- hfz.1] at hi; simp [hi]
        ·exact q2y _ (hfz.2 id hi)
       rw [zUG _ _ _ hal a1];simp only [hnd,hsa,q7];rw [(zTo mv res.upd hus (a1.mono λid hi=>by simp [hi])).1]
       simp only;split at h
       ·rename_i d0;split at h
        ·rename_i hfr
         try simp only
         have:zlQ st' (zbc (zQ d0) res.vals).2=zlQ st (zbc (zQ d0) res.vals).2:=zLg (ha.mono λid hi=>by
          simp only [q0] at h; subst h;simp only [q2g,q12]; exact .inl (.inr hi))
         rw [this,hfr];exact h
        ·cases h
       ·exact h
theorem zbh7 (ht:st'.tmps=st.tmps) (hl:zCW o=true) (h:aop cx o st=some d) (ha:Agr (d.wr.map (·.1)++(d.fz++d.rd)) st st'):aop cx o st'=some d:=by
 have hev:=z5V ht;unfold aop ze8 at h ⊢;unfold zCW at hl;cases ho:o.op <;>simp only [ho] at h hl ⊢ <;>(try simp only [hev,zbad ht]) <;>first | (cases hl; done) | skip
 case load T x=>
  split at h
  ·rename_i i cs off rd hti hc;split at h
   ·rename_i v hv;simp only [q0] at h; subst h;simp only [hti,z6Z hc (ha.mono λid hi=>by simp [hi]),hv]
   ·cases h
  ·cases h
 case alloc T=>
  split at h
  ·rename_i i d0 hti hdst;have hd:=zfP h;simp only [q0] at hd;simp only [hti,hdst,ha.free (id:=zQ d0) (by rw [<- hd]; simp)]
   exact h
  ·cases h
 case box T x=>
  split at h
  ·rename_i i d0 cs hti hdst hcl;have hd:=zfP h;simp only [q0] at hd;have hcl':=z0r hcl (ha.mono λi hi=>by rw [<- hd]; simp [hi])
   simp only [hti,hdst,hcl',ha.free (id:=zQ d0) (by rw [<- hd]; simp)]
   exact h
  ·cases h
 case store T x y=>
  split at h
  ·rename_i i new hti hcl;split at h
   ·cases h
   ·rename_i hlen;split at h
    ·rename_i id off hx;split at h
     ·rename_i cs hb;split at h
      ·rename_i cs' hsp;simp only [q0] at h; subst h;have hcl':=z0r hcl (ha.mono λi hi=>by simp [hi])
       simp only [hti,hcl',hlen,ha.blk (id:=id) (by simp),hb,hsp]
      ·cases h
     ·cases h
    ·rename_i id ix off hx;split at h
     ·rename_i T' l new' fz hb hmp;split at h
      ·rename_i cs' hsp hcn;split at h
       ·rename_i x' hdec;have hd:=zfP h;simp only [q0] at hd;have hfz:Agr fz st st':=ha.mono λi hi=>by rw [<- hd]; simp [hi]
        have hcl':=zbdG hcl hmp hfz;have hmp':=zAT (f':=zbE cx st' zdh) _ (λc _ r i hc hi=>zPE zdh c hc hi) hmp hfz
        simp only [hti,hcl',hlen,ha.blk (id:=id) (by rw [<- hd]; simp),hb,hmp',hsp,hcn,hdec]
        exact h
       ·cases h
      ·cases h
     ·cases h
    ·cases h
  ·cases h
 case fieldAddr S x f=>
  split at h
  ·rename_i fs sz bt z hti;split at h
   ·rename_i p hp;split at h
    ·rename_i i v cs off rd hi hs hc;cases hz:Nat.beq i.size 0 with
     | true=>rw [hz] at h; cases h
     | false=>
      rw [hz] at h;simp only [q0] at h; subst h;simp only [z6Z hc (ha.mono λid hi=>by simp [hi]),hs,hi,hz]
    ·cases h
   ·cases h
  ·cases h
 case indexAddr T x y=>
  split at h
  ·rename_i e sz bt z i hti hi;split at h
   ·exact h
   ·rename_i id hx;split at h
    ·rename_i T' l f hb;split at h
     ·rename_i hq;have hd:=zfP h;simp only [q0] at hd;rw [ha.blk (id:=id) (by rw [<- hd]; simp),hb]
      simp only [hq];exact h
     ·cases h
    ·cases h
   ·rename_i id lo n hx;split at h
    ·rename_i T' l f hb;split at h
     ·rename_i hq;have hd:=zfP h;simp only [q0] at hd;rw [ha.blk (id:=id) (by rw [<- hd]; simp),hb]
      simp only [hq];exact h
     ·cases h
    ·cases h
   ·cases h
  ·cases h
 case build T ps=>
  split at h
  ·rename_i fs sz bt z hti;split at h
   ·rename_i cs hfp;simp only [q0] at h
    have hfp':=zZr (st':=st') _ _ hfp (ha.mono λid hi=>by
     rw [<- h];simp only [q12];refine .inr (.inr ?_);rw [List.flatMap_map] at hi;exact hi)
    simp only [hti,hfp'];rw [h]
   ·cases h
  ·cases h
 case buildSlice T n ps=>
  split at h
  ·rename_i e sz bt z d0 hti hdst;split at h
   ·rename_i l fz inf hfe hn hie;split at h
    ·rename_i hg;simp only [q0] at h;have hfr:zfT st' (zQ d0)=zfT st (zQ d0):=ha.free (by rw [<- h]; simp)
     have hfz:Agr fz st st':=ha.mono λid hi=>by rw [<- h]; simp [hi]
     simp only [zZu _ _ hfe hfz,hn,hie,hfr,hg];rw [h]
    ·cases h
   ·cases h
  ·cases h
 case slice T x lo hi mx=>
  cases mx with
  | some m=>cases hl
  | none=>
   simp only at h ⊢;split at h
   ·rename_i lo' hi' h1 h2;exact zbik h (ha.mono λid hi=>by simp [hi])
   ·cases h
 case call c=>
  obtain ⟨callee,args,ts⟩:=c;cases callee with
  | invoke r m=>cases hl
  | builtin b=>
   simp only at h hl ⊢;unfold zim at h ⊢;cases b <;>first | (cases hl; done) | skip
   case len=>
    split at h
    ·split at h
     ·exact h
     ·rename_i hti;split at h
      ·exact h
      ·split at h
       ·rename_i hb;simp only [q0] at h;rw [ha.blk (by rw [<- h]; simp)]
        simp only [hb,h]
       ·cases h
      ·rename_i v h1 h2;split at h
       ·rename_i T' l rd hl';simp only [q0] at h;simp only [zX5 hl' (ha.mono λid hi=>by rw [<- h]; simp [hi]),h]
       ·cases h
     ·split at h
      ·split at h
       ·rename_i hb;simp only [q0] at h;rw [ha.blk (by rw [<- h]; simp)]
        simp only [hb,h]
       ·cases h
      ·cases h
     ·cases h
    all_goals first | exact h | (exfalso; simp_all; done)
   case append=>
    split at h
    any_goals first | (exact h; done) | (exfalso; simp_all; done)
    split at h
    ·rename_i hq;exact zbf2 h (ha.mono λid hi=>by simp at hi ⊢; rcases hi with hi | hi <;>simp [hi])
    ·rename_i hq;unfold zvu at h ⊢
     repeat' (split at h)
     all_goals first
      | (cases h; done)
      | (have hd:=zfP h
         simp only [q0] at hd;rw [ha.free (by rw [<- hd]; simp)]
         exact h)
  | value f=>
   simp only at h ⊢;split at h
   ·exact zbiu h (ha.mono λid hi=>by simp at hi ⊢; rcases hi with hi | hi <;>simp [hi])
   ·cases h
end
end
end Go.Ab
/- Regions whose order is drawn: one walk in the order of the text serves every order. -/
namespace Go.Ab
noncomputable section
variable {ty:Nat->Type}
section
variable {P:Program} {cx:Cx ty} {e:Env} {st st':St ty} {κ:Nat->Value} {a:Act} {w:World} {o:Oper} {d:Delta ty} {Q:Exit->Act->World->Prop} {α:Type} {ops:Array Oper}
theorem R.drew (h:R cx e st a w) (n:Nat) (hn:w.drawn<=n):R cx e st a { w with drawn:=n }:=by
 obtain ⟨κ,hf⟩:=h
 obtain ⟨hrb,hc⟩:=hf.rb.step (w':={ w with drawn:=n }) (B':=st.blk) (κ':=κ) (λ_=>False) rfl rfl rfl (qn _) (λb _=>.inl rfl) (λid _=>⟨rfl,rfl⟩)
  (λid h=>h.elim) (λid b h=>h.elim) (λi j b h=>h.elim) (λid h=>h.elim) (λ_=>hn)
 exact ⟨κ,⟨hrb,hf.defers,hf.size,λt=>hc.rep (hf.tmps t)⟩⟩
theorem z6B {st:St ty} {t u:Nat} {v:AV ty} {b:List (Blk ty)} (h:t≠u):St.get (ty:=ty) ⟨st.tmps.set t v,b⟩ u=st.get u:=by
 unfold St.get;simp only [zjB,qi,List.getElem?_set_ne h]
theorem ev_app {d:Delta ty} {dst:Option Tmp} {x:Operand} (h:∀ t,dst=some t->x≠.tmp t):(st.app dst d).ev x=st.ev x:=by
 cases dst with
 | none=>cases x <;>rfl
 | some t=>
  cases x with
  | tmp u=>
   show (st.app (some t) d).get u=st.get u;rw [St.app_def]; exact z6B λe=>h t rfl (e ▸ rfl)
  | _=>rfl
theorem zTn {st:St ty} {dst:Option Tmp} {d:Delta ty}:(st.app dst d).tmps=match dst with | some t=>st.tmps.set t d.val | none=>st.tmps:=by rw [St.app_def]; rfl
theorem zl1 {d:Delta ty} (h:d.foot.eff=false) (dst:Option Tmp):(st.app dst d).blks=st.blks:=by
 simp only [Delta.foot,Foot.eff,Bool.not_eq_false',qa,List.isEmpty_iff,List.map_eq_nil_iff] at h;rw [St.app_blks];simp only [h.1,h.2,zcr,zbY]
theorem Foot.empty_eff {f:Foot} (h:f.empty=true):f.eff=false:=by
 simp only [Foot.empty,qa] at h;simp [Foot.eff,h.1.1,h.1.2]
theorem zuq (hb:st'.blks=st.blks) (hev:∀ t,t∈o.looksAt ops->st'.get t=st.get t):zhI cx ops o st'=zhI cx ops o st:=by
 have hop:aop cx o st'=aop cx o st:=zblR hb λx hx=>by
  cases x with
  | tmp t=>exact hev t (q2y _ (List.mem_filterMap.2 ⟨.tmp t,by simpa using hx,rfl⟩))
  | _=>rfl
 unfold zhI;cases hg:o.guard with
 | none=>exact hop
 | some gw=>
  obtain ⟨g,want⟩:=gw
  dsimp only
  cases ht:(ops[g]?).bind (·.dst) with
  | none=>rfl
  | some t=>
   dsimp only
   rw [hev t (List.mem_append_right _ (by simp [hg,ht])),hop]
theorem zbeh (st':St ty) (ht:st'.tmps=st.tmps) (h:zhI cx ops o st=some d) (he:d.foot.empty=true):zhI cx ops o st'=some d:=by
 unfold zhI at h ⊢;cases hg:o.guard with
 | none=>rw [hg] at h; exact zbh2 st' ht h he
 | some gw=>
  obtain ⟨g,want⟩:=gw;rw [hg] at h
  dsimp only at h ⊢
  cases hd:(ops[g]?).bind (·.dst) with
  | none=>rw [hd] at h; cases h
  | some t=>
   rw [hd] at h
   dsimp only at h ⊢
   have:st'.get t=st.get t:=by unfold St.get; rw [ht]
   rw [this];cases hv:st.get t with
   | lit v=>
    rw [hv] at h;cases v with
    | bool b=>
     dsimp only at h ⊢
     cases hbw:(b==want) with
     | true=>rw [hbw] at h; exact zbh2 st' ht h he
     | false=>rw [hbw] at h; exact h
    | tuple vs=>exact h
    | _=>cases h
   | _=>rw [hv] at h; cases h
theorem zbfh {dst:Option Tmp} {t:Nat} (h:dst≠some t):(st.app dst d).get t=st.get t:=by
 cases dst with
 | none=>rfl
 | some u=>rw [St.app_def]; exact z6B λe=>h (e ▸ rfl)
theorem z60:∀ (wr:List (Nat×Blk ty)) (b:List (Blk ty)) (id:Nat),(∀ p∈wr,p.1≠id)->(gD .none (zcr b wr) id)=(gD .none b id)
 | [],b,id,h=>rfl
 | (i,x)::r,b,id,h=>by
  simp only [zcr];rw [z60 r _ id λp hp=>h p (by simp [hp])]
  have hne:i≠id:=h (i,x) (by simp)
  simp only [zjB,qi,List.getElem?_set_ne hne]
theorem z2R:∀ {wr:List (Nat×Blk ty)},zlQ st wr=true->∀ p∈wr,st.blk p.1=.none
 | [],_,p,hp=>by cases hp
 | (i,x)::r,h,p,hp=>by
  simp only [zlQ,qa] at h;rcases q8.1 hp with rfl | hp
  ·have h1:=h.1;rw [zLw] at h1;rw [St.blk_def];rw [qi];split at h1
   ·rename_i hb; rw [hb]; rfl
   ·cases h1
  ·exact z2R h.2 p hp
theorem zblt {dst:Option Tmp} (hn:(d.footN st).nw=true) {id:Nat} (h:st.blk id≠.none):(st.app dst d).blk id=st.blk id:=by
 simp only [Delta.footN,qa,List.isEmpty_iff] at hn;rw [zLW];unfold St.blk;simp only [hn.2,zbY];exact z60 _ _ _ λp hp e=>h (by rw [<- e]; exact z2R hn.1 p hp)
theorem z2P {st st':St ty} (hm:∀ id,st.blk id≠.none->st'.blk id=st.blk id) {v:AV ty} {r:List (AV ty)×Nat×List Nat} (h:ze2 cx st v=some r):ze2 cx st' v=some r:=by
 cases v with
 | ptr id o=>
  simp only [ze2] at h ⊢;rw [hm id λe=>by rw [e] at h; cases h]; exact h
 | eptr id ix o=>
  simp only [ze2] at h ⊢;rw [hm id λe=>by rw [e] at h; cases h]; exact h
 | _=>exact h
theorem zbfl {st st':St ty} (ht:st'.tmps=st.tmps) (hm:∀ id,st.blk id≠.none->st'.blk id=st.blk id) (hr:zU2 o=true) (h:aop cx o st=some d):aop cx o st'=some d:=by
 unfold aop ze8 at h ⊢;unfold zU2 at hr;cases ho:o.op <;>simp only [ho,q1e] at h hr ⊢ <;>(try simp only [z5V ht]) <;>first | (cases hr; done) | skip
 case load T x=>
  split at h
  ·rename_i i cs off rd hti hc;split at h
   ·rename_i v hv;simp only [hti,z2P hm hc,hv]; exact h
   ·cases h
  ·cases h
 case fieldAddr S x f=>
  split at h
  ·rename_i fs sz bt z hti;split at h
   ·rename_i p hp;split at h
    ·rename_i i v cs off rd hi hs hc;simp only [z2P hm hc,hs,hi]; exact h
    ·cases h
   ·cases h
  ·cases h
theorem zbij {st st':St ty} (ht:st'.tmps=st.tmps) (hm:∀ id,st.blk id≠.none->st'.blk id=st.blk id) (hr:zU2 o=true) (h:zhI cx ops o st=some d):zhI cx ops o st'=some d:=by
 unfold zhI at h ⊢;cases hg:o.guard with
 | none=>rw [hg] at h; exact zbfl ht hm hr h
 | some gw=>
  obtain ⟨g,want⟩:=gw;rw [hg] at h
  dsimp only at h ⊢
  cases hd:(ops[g]?).bind (·.dst) with
  | none=>rw [hd] at h; cases h
  | some t=>
   rw [hd] at h
   dsimp only at h ⊢
   have:st'.get t=st.get t:=by unfold St.get; rw [ht]
   rw [this];cases hv:st.get t with
   | lit v=>
    rw [hv] at h;cases v with
    | bool b=>
     dsimp only at h ⊢
     cases hbw:(b==want) with
     | true=>rw [hbw] at h; exact zbfl ht hm hr h
     | false=>rw [hbw] at h; exact h
    | tuple vs=>exact h
    | _=>cases h
   | _=>rw [hv] at h; cases h
theorem zGV {st st':St ty} (hb:st'.blks=st.blks):d.footN st'=d.footN st:=by unfold Delta.footN; rw [zUF hb]
theorem zYG {st st':St ty} (h:d.foot.eff=false):d.footN st'=d.footN st:=by
 simp only [Delta.foot,Foot.eff,Bool.not_eq_false',qa,List.isEmpty_iff,List.map_eq_nil_iff] at h;unfold Delta.footN; rw [h.1]; rfl
theorem zVY:∀ (wr:List (Nat×Blk ty)) (b:List (Blk ty)) (id:Nat),id∉wr.map (·.1)->(zcr b wr)[id]? =b[id]?
 | [],b,id,h=>rfl
 | (i,x)::r,b,id,h=>by
  simp only [zcr];rw [zVY r _ id λhh=>h (by simp only [q1q,q8]; exact .inr hh),List.getElem?_set_ne λe=>h (by simp [e])]
theorem zZg:∀ (fz:List Nat) (b:List (Blk ty)) (id:Nat),id∉fz->(zbY b fz)[id]? =b[id]?
 | [],b,id,h=>rfl
 | i::r,b,id,h=>by
  simp only [zbY];rw [zZg r _ id λhh=>h (by simp [hh]),List.getElem?_set_ne λe=>h (by simp [e])]
theorem zPr {st:St ty} {dst:Option Tmp} {d:Delta ty} {id:Nat} (h1:id∉d.wr.map (·.1)) (h2:id∉d.fz):(st.app dst d).blks[id]? =st.blks[id]? :=by
 rw [St.app_blks,zVY _ _ _ h1,zZg _ _ _ h2]
theorem zbe9 {b b':List (Blk ty)} {i id:Nat} {x x':Blk ty} (h:b[id]? =b'[id]?) (hx:i=id->x=x'):(b.set i x)[id]? =(b'.set i x')[id]? :=by
 rw [List.getElem?_set',List.getElem?_set',h];by_cases e:i=id
 ·simp only [e,if_true,hx e]
 ·simp only [e,if_false]
theorem z2W:∀ (wr:List (Nat×Blk ty)) {b b':List (Blk ty)} {id:Nat},b[id]? =b'[id]? ->(zcr b wr)[id]? =(zcr b' wr)[id]?
 | [],b,b',id,h=>h
 | (i,x)::r,b,b',id,h=>z2W r (zbe9 h λ_=>rfl)
theorem z4Y:∀ (fz:List Nat) {b b':List (Blk ty)} {id:Nat},b[id]? =b'[id]? ->(zbY b fz)[id]? =(zbY b' fz)[id]?
 | [],b,b',id,h=>h
 | i::r,b,b',id,h=>z4Y r (zbe9 h λe=>by
   subst e;rw [zjB,zjB,qi,qi,h])
theorem z9y (wr:List (Nat×Blk ty)) (fz:List Nat) {b b':List (Blk ty)} {id:Nat} (h:b[id]? =b'[id]?):(zcr (zbY b fz) wr)[id]? =(zcr (zbY b' fz) wr)[id]? :=z2W wr (z4Y fz h)
theorem zbab {a b:List Nat} (h:zYD a b=true):∀ id∈a,id∉b:=λid hi hb=>by
 unfold zYD at h;have:=q1d.1 h id hi;simp [hb] at this
theorem zbiW {dx dy:Delta ty} (h:dx.foot.sep dy.foot=true):(∀ id,id∈dx.wr.map (·.1)\/id∈dx.fz->id∉dy.wr.map (·.1)++(dy.fz++dy.rd))/\(∀ id,id∈dy.wr.map (·.1)\/id∈dy.fz->id∉dx.wr.map (·.1)++(dx.fz++dx.rd))/\True:=by
 unfold Foot.sep Delta.foot at h;simp only [qa] at h;exact ⟨λid hi=>zbab h.1 id (q12.2 hi),λid hi=>zbab h.2 id (q12.2 hi),trivial⟩
theorem zbcj {st st':St ty} (ht:st'.tmps=st.tmps) (hl:zCW o=true) (h:zhI cx ops o st=some d) (ha:Agr (d.wr.map (·.1)++(d.fz++d.rd)) st st'):zhI cx ops o st'=some d:=by
 unfold zhI at h ⊢;cases hg:o.guard with
 | none=>rw [hg] at h; exact zbh7 ht hl h ha
 | some gw=>
  obtain ⟨g,want⟩:=gw;rw [hg] at h
  dsimp only at h ⊢
  cases hd:(ops[g]?).bind (·.dst) with
  | none=>rw [hd] at h; cases h
  | some t=>
   rw [hd] at h
   dsimp only at h ⊢
   have:st'.get t=st.get t:=by unfold St.get; rw [ht]
   rw [this];cases hv:st.get t with
   | lit v=>
    rw [hv] at h;cases v with
    | bool b=>
     dsimp only at h ⊢
     cases hbw:(b==want) with
     | true=>rw [hbw] at h; exact zbh7 ht hl h ha
     | false=>rw [hbw] at h; exact h
    | tuple vs=>exact h
    | _=>cases h
   | _=>rw [hv] at h; cases h
theorem zbga {ox oy:Oper} {dx dy:Delta ty} (hap:ox.apart ops oy=true) (hfr:dx.foot.free dy.foot=true\/(zU2 ox=true/\dx.foot.eff=false/\(dy.footN (st.app ox.dst dx)).nw=true)\/(zCW ox=true/\zCW oy=true/\dx.foot.sep dy.foot=true))
  (hx:zhI cx ops ox st=some dx) (hy:zhI cx ops oy (st.app ox.dst dx)=some dy):
  zhI cx ops oy st=some dy/\zhI cx ops ox (st.app oy.dst dy)=some dx/\(st.app oy.dst dy).app ox.dst dx=(st.app ox.dst dx).app oy.dst dy/\dy.footN st=dy.footN (st.app ox.dst dx)/\dx.footN (st.app oy.dst dy)=dx.footN st:=by
 obtain ⟨h1,h2,h3⟩:=Oper.apart_spec hap;have gx:∀ t,t∈oy.looksAt ops->(st.app ox.dst dx).get t=st.get t:=λt ht=>zbfh λe=>h1 t e ht
 have gy:∀ t,t∈ox.looksAt ops->(st.app oy.dst dy).get t=st.get t:=λt ht=>zbfh λe=>h3 t e ht
 have htm:((st.app oy.dst dy).app ox.dst dx).tmps=((st.app ox.dst dx).app oy.dst dy).tmps:=by
  rw [zTn,zTn,zTn,zTn];cases hdx:ox.dst with
  | none=>rfl
  | some t=>
   cases hdy:oy.dst with
   | none=>rfl
   | some u=>
    have hne:t≠u:=λe=>h2 t hdx (e ▸ hdy)
    exact (List.set_comm _ _ hne.symm)
 have ext:∀ s s':St ty,s.tmps=s'.tmps->s.blks=s'.blks->s=s':=λs s' h h'=>by cases s; cases s'; simp_all
 simp only [Foot.free,q1w,qa,q17] at hfr;rcases hfr with ((⟨hnx,hny⟩ | hex) | hey) | ⟨hrd,hnx,hnw⟩ | ⟨hlx,hly,hsep⟩
 ·have hbx:=zl1 (st:=st) hnx ox.dst;have hby:=zl1 (st:=st) hny oy.dst;have y1:zhI cx ops oy st=some dy:=by rw [<- zuq (st':=st.app ox.dst dx) hbx gx]; exact hy
  refine ⟨y1, ?_,ext _ _ htm ?_,(zGV hbx).symm,zGV hby⟩
  ·rw [zuq (st:=st) hby gy]; exact hx
  ·rw [zl1 hnx,zl1 hny,zl1 hny,zl1 hnx]
 ·have hnx:=Foot.empty_eff hex;have hbx:=zl1 (st:=st) hnx ox.dst;have y1:zhI cx ops oy st=some dy:=by rw [<- zuq (st':=st.app ox.dst dx) hbx gx]; exact hy
  refine ⟨y1, ?_,ext _ _ htm ?_,(zGV hbx).symm,zYG hnx⟩
  ·-- over other blocks first, then other temporaries
   have:=zbeh (st:=st) (⟨st.tmps,(st.app oy.dst dy).blks⟩:St ty) rfl hx hex;rw [zuq (st:=(⟨st.tmps,(st.app oy.dst dy).blks⟩:St ty)) (st':=st.app oy.dst dy) rfl gy]; exact this
  ·rw [zl1 hnx];rw [St.app_blks (st.app ox.dst dx),hbx,St.app_blks]
 ·have hny:=Foot.empty_eff hey;have hby:=zl1 (st:=st) hny oy.dst
  have y1:zhI cx ops oy st=some dy:=by
   have:=zbeh (st:=st.app ox.dst dx) (⟨(st.app ox.dst dx).tmps,st.blks⟩:St ty) rfl hy hey;rw [<- zuq (st:=st) (st':=(⟨(st.app ox.dst dx).tmps,st.blks⟩:St ty)) rfl gx]; exact this
  refine ⟨y1, ?_,ext _ _ htm ?_,zYG hny,zGV hby⟩
  ·rw [zuq (st:=st) hby gy]; exact hx
  ·rw [zl1 hny];rw [St.app_blks (st.app oy.dst dy),hby,St.app_blks]
 ·have hbx:=zl1 (st:=st) hnx ox.dst;have y1:zhI cx ops oy st=some dy:=by rw [<- zuq (st':=st.app ox.dst dx) hbx gx]; exact hy
  rw [zGV hbx] at hnw;refine ⟨y1, ?_,ext _ _ htm ?_,(zGV hbx).symm,zYG hnx⟩
  ·have:=zbij (st:=st) (st':=(⟨st.tmps,(st.app oy.dst dy).blks⟩:St ty)) rfl (λid hid=>zblt (dst:=oy.dst) hnw hid) hrd hx
   rw [zuq (st:=(⟨st.tmps,(st.app oy.dst dy).blks⟩:St ty)) (st':=st.app oy.dst dy) rfl gy]; exact this
  ·rw [zl1 hnx];rw [St.app_blks (st.app ox.dst dx),hbx,St.app_blks]
 ·obtain ⟨s1,s2,s3⟩:=zbiW hsep;have ax:∀ id,id∉dx.wr.map (·.1)->id∉dx.fz->(st.app ox.dst dx).blks[id]? =st.blks[id]? :=λid h1 h2=>zPr h1 h2
  have ay:∀ id,id∉dy.wr.map (·.1)->id∉dy.fz->(st.app oy.dst dy).blks[id]? =st.blks[id]? :=λid h1 h2=>zPr h1 h2
  have y1:zhI cx ops oy st=some dy:=by
   have:=zbcj (st:=st.app ox.dst dx) (st':=(⟨(st.app ox.dst dx).tmps,st.blks⟩:St ty)) rfl hly hy λid hi=>(ax id (λh=>s1 id (.inl h) hi) (λh=>s1 id (.inr h) hi)).symm
   rw [<- zuq (st:=st) (st':=(⟨(st.app ox.dst dx).tmps,st.blks⟩:St ty)) rfl gx]; exact this
  refine ⟨y1, ?_,ext _ _ htm ?_, ?_, ?_⟩
  ·have:=zbcj (st:=st) (st':=(⟨st.tmps,(st.app oy.dst dy).blks⟩:St ty)) rfl hlx hx λid hi=>ay id (λh=>s2 id (.inl h) hi) (λh=>s2 id (.inr h) hi)
   rw [zuq (st:=(⟨st.tmps,(st.app oy.dst dy).blks⟩:St ty)) (st':=st.app oy.dst dy) rfl gy]; exact this
  ·apply q31;intro id;by_cases hid:id∈dx.wr.map (·.1)\/id∈dx.fz
   ·have h1:id∉dy.wr.map (·.1):=λh=>s1 id hid (by simp only [q12]; exact .inl h)
    have h2:id∉dy.fz:=λh=>s1 id hid (by simp only [q12]; exact .inr (.inl h))
    rw [zPr (st:=st.app ox.dst dx) h1 h2];exact ((congrArg (·[id]?) (St.app_blks (st.app oy.dst dy) ox.dst dx)).trans (z9y dx.wr dx.fz (ay id h1 h2))).trans (congrArg (·[id]?) (St.app_blks st ox.dst dx)).symm
   ·have h1:id∉dx.wr.map (·.1):=λh=>hid (.inl h)
    have h2:id∉dx.fz:=λh=>hid (.inr h)
    rw [zPr (st:=st.app oy.dst dy) h1 h2];exact ((congrArg (·[id]?) (St.app_blks (st.app ox.dst dx) oy.dst dy)).trans (z9y dy.wr dy.fz (ax id h1 h2))).symm.symm.trans (congrArg (·[id]?) (St.app_blks st oy.dst dy)).symm |>.symm
  ·unfold Delta.footN;rw [zLg (st:=st) (st':=st.app ox.dst dx) λid hi=>ax id (λh=>s1 id (.inl h) (q2y _ hi)) (λh=>s1 id (.inr h) (q2y _ hi))]
  ·unfold Delta.footN;rw [zLg (st:=st) (st':=st.app oy.dst dy) λid hi=>ay id (λh=>s2 id (.inl h) (q2y _ hi)) (λh=>s2 id (.inr h) (q2y _ hi))]
def Tr (cx:Cx ty) (ops:Array Oper):List (Nat×Foot)->St ty->St ty->Prop
 | [],st,sf=>st=sf
 | (i,f)::r,st,sf=>∃ o d,ops[i]? =some o/\zhI cx ops o st=some d/\d.footN st=f/\Tr cx ops r (st.app o.dst d) sf
def May (ops:Array Oper) (x y:Nat×Foot):Prop:=∀ ox oy,ops[x.1]? =some ox->ops[y.1]? =some oy->ox.apart ops oy=true/\(x.2.free y.2=true\/(zU2 ox=true/\x.2.eff=false/\y.2.nw=true)\/(zCW ox=true/\zCW oy=true/\x.2.sep y.2=true))
theorem Tr.swap {x y:Nat×Foot} {r:List (Nat×Foot)} {sf:St ty} (hm:May ops x y) (h:Tr cx ops (x::y::r) st sf):Tr cx ops (y::x::r) st sf:=by
 obtain ⟨i,f⟩:=x; obtain ⟨j,g⟩:=y;obtain ⟨ox,dx,hox,hx,hfx,oy,dy,hoy,hy,hfy,hr⟩:=h;obtain ⟨hap,hfr⟩:=hm ox oy hox hoy;obtain ⟨y1,x1,hs,fy,fx⟩:=zbga hap (by subst hfx hfy; exact hfr) hx hy
 exact ⟨oy,dy,hoy,y1,fy.trans hfy,ox,dx,hox,x1,fx.trans hfx,hs ▸ hr⟩
theorem Tr.front {y:Nat×Foot}:∀ {p q:List (Nat×Foot)} {st sf:St ty},(∀ x∈p,May ops x y)->Tr cx ops (p++y::q) st sf->Tr cx ops (y::(p++q)) st sf
 | [],q,st,sf,_,h=>h
 | (i,f)::p,q,st,sf,hm,h=>by
  obtain ⟨o,d,ho,hd,hf,h⟩:=h;have:=Tr.front (λx hx=>hm x (by simp [hx])) h
  exact Tr.swap (hm (i,f) (by simp)) ⟨o,d,ho,hd,hf,this⟩
theorem zHl:∀ (l:List Oper) (ps:List (List Nat)) (i:Nat),i<ps.length->(zzu ps l).getD i []=ps.getD i []
 | [],ps,i,h=>rfl
 | o::r,ps,i,h=>by
  simp only [zzu];rw [zHl r _ i (by simp; omega)]
  simp only [zjB,qi,q2a h]
theorem zbgo {ps qs:List (List Nat)} {o:Oper} (h:∀ e∈o.after.toList,Region.binds .any e=true->ps.getD e.on []=qs.getD e.on []):zDP ps o=zDP qs o:=by
 unfold zDP;rw [List.flatMap_def,List.flatMap_def];congr 1;apply q33;intro e he;cases hb:Region.binds .any e with
 | true=>simp only [q7,h e he hb]
 | false=>rfl
theorem z5W:∀ (l:List Oper) (ps:List (List Nat)) (n:Nat),ps.length=n->zNM n l=true->∀ (i:Nat) (o:Oper),n<=i->l[i - n]? =some o->
  (∀ e∈o.after,Region.binds .any e=true->e.on<i)/\(zzu ps l).getD i []=(zDP (zzu ps l) o).eraseDups
 | [],ps,n,hn,hb,i,o,hi,ho=>by simp at ho
 | o'::r,ps,n,hn,hb,i,o,hi,ho=>by
  simp only [zNM,qa] at hb;by_cases h:i=n
  ·subst h;simp only [Nat.sub_self,q1x,q0] at ho;subst ho
   have hlt:∀ e∈o'.after,Region.binds .any e=true->e.on<i:=λe he hbi=>by
    have:=(Array.all_eq_true_iff_forall_mem.1 hb.1) e he;simp only [hbi,qk,Bool.false_or] at this;exact q2p this
   refine ⟨hlt, ?_⟩;simp only [zzu];rw [zHl r _ i (by simp; omega)]
   rw [qi, <- hn,q1u (qn _)];simp only [Nat.sub_self,q1x,q2j];congr 1;apply zbgo;intro e he hbi;have:=hlt e (by simpa using he) hbi
   rw [zHl r _ e.on (by simp; omega),qi,qi,q2a (by omega)]
  ·have hs:i - n=(i - (n+1))+1:=by omega
   rw [hs,q2r] at ho;exact z5W r _ (n+1) (by simp [hn]) hb.2 i o (by omega) ho
def zbmg (ops:Array Oper) (ps:List (List Nat)) (listed:Array Bool):Prop:=∀ i,i<ops.size->listed.getD i false=true->∀ j∈ps.getD i [],listed.getD j false=true
theorem zbeB {ps:List (List Nat)} {listed:Array Bool} {i:Nat} (hps:∀ (i:Nat) (o:Oper),ops[i]? =some o->(∀ e∈o.after,Region.binds .any e=true->e.on<i)/\ps.getD i []=(zDP ps o).eraseDups)
  (hd:zbmg ops ps listed) (hr:i∈Region.ready .any ops listed):∀ j∈ps.getD i [],listed.getD j false=true:=by
 obtain ⟨_,o,ho,hall⟩:=mem_ready.1 hr;obtain ⟨hlt,hpi⟩:=hps i o ho;intro j hj;rw [hpi,List.mem_eraseDups] at hj;unfold zDP at hj;obtain ⟨e,he,hje⟩:=List.mem_flatMap.1 hj;have he':e∈o.after:=by simpa using he
 cases hb:Region.binds .any e with
 | false=>rw [hb] at hje; cases hje
 | true=>
  rw [hb] at hje;have hle:=hall e he' hb;rcases q8.1 hje with rfl | hj'
  ·exact hle
  ·have hs:e.on<ops.size:=Nat.lt_trans (hlt e he' hb) (q1r.1 ho).1;exact hd e.on hs hle j hj'
theorem z9n (hcx:CxOK P cx) (hspec:∀ f s,cx.spec f=some s->Sound P cx f s) {ps:List (List Nat)}
  (hps:∀ (i:Nat) (o:Oper),ops[i]? =some o->(∀ e∈o.after,Region.binds .any e=true->e.on<i)/\ps.getD i []=(zDP ps o).eraseDups) {sf:St ty} (hQ:∀ a w,R cx e sf a w->Q .normal a w):
  ∀ (n:Nat) (rem:List (Nat×Foot)) (listed:Array Bool) (st:St ty) (a:Act) (w:World),rem.length=n->Tr cx ops rem st sf->
   rem.Pairwise (λx y=>x.1<y.1/\((ps.getD y.1 []).contains x.1=true\/May ops x y))->listed.size=ops.size->(∀ i,i<ops.size->(listed.getD i false=false↔i∈rem.map (·.1)))->zbmg ops ps listed->
   R cx e st a w->wpAny P .any ops Q n listed a w
 | 0,rem,listed,st,a,w,hn,ht,hp,hsz,hl,hd,hR=>by
  obtain rfl:rem=[]:=by simpa using hn
  obtain rfl:st=sf:=ht;refine wpAny_done ?_ (hQ a w hR) 0;rw [List.eq_nil_iff_forall_not_mem];intro i hi;obtain ⟨h0,o,ho,_⟩:=mem_ready.1 hi;have hlt:=(q1r.1 ho).1;have:=(hl i hlt).1 (by simp only [q1i] at h0 ⊢; cases hx:listed[i]? with | none=>rfl | some b=>rw [hx] at h0; exact h0)
  simp at this
 | n+1,rem,listed,st,a,w,hn,ht,hp,hsz,hl,hd,hR=>by
  refine ⟨λh0=> ?_,λi hi=> ?_⟩
  ·-- the first of those that are left is ready
   cases rem with
   | nil=>simp at hn
   | cons x r=>
    obtain ⟨i,f⟩:=x;obtain ⟨o,d,ho,_,_,_⟩:=ht;have hlt:=(q1r.1 ho).1;have hiu:listed.getD i false=false:=(hl i hlt).2 (by simp)
    have:i∈Region.ready .any ops listed:=by
     refine mem_ready.2 ⟨?_,o,ho,λed he hb=> ?_⟩
     ·have hls:i<listed.size:=by omega
      simp only [q1i,q2d hls,q2j] at hiu ⊢; exact hiu
     ·have hon:=(hps i o ho).1 ed he hb;cases hlo:listed.getD ed.on false with
      | true=>rfl
      | false=>
       have:=(hl ed.on (by omega)).1 hlo
       rcases q8.1 this with h | h
       ·simp at h; omega
       ·obtain ⟨y,hy,hyi⟩:=q1p.1 h;have:=((qh.1 hp).1 y hy).1;simp only at this hyi; omega
    rw [h0] at this; cases this
  ·obtain ⟨h0,o,ho,hall⟩:=mem_ready.1 hi;have hlt:=(q1r.1 ho).1;have hls:i<listed.size:=by omega
   have hiu:listed.getD i false=false:=by
    simp only [q1i,q2d hls,q2j] at h0 ⊢; exact h0
   obtain ⟨y,hy,hyi⟩:=q1p.1 ((hl i hlt).1 hiu);obtain ⟨p,q,rfl⟩:=List.append_of_mem hy;obtain ⟨i',f⟩:=y;obtain rfl:i'=i:=hyi;have hpre:=zbeB hps hd hi;rw [q1m] at hp;obtain ⟨hpp,hpq,hpc⟩:=hp
   have hmay:∀ x∈p,May ops x (i',f):=λx hx=>by
    rcases (hpc x hx (i',f) (by simp)).2 with h | h
    ·have h1:=hpre x.1 (by simpa using h)
     have hx':x.1<ops.size:=by have:=(hpc x hx (i',f) (by simp)).1; simp only at this; omega
     have:=(hl x.1 hx').2 (by simp; exact .inl ⟨x.2,hx⟩)
     rw [h1] at this; cases this
    ·exact h
   obtain ⟨o',d,ho',hst,hf,ht'⟩:=Tr.front hmay ht;obtain rfl:o=o':=by rw [ho] at ho'; exact q26 ho'
   obtain ⟨κ,hrf⟩:=hR;refine wpOp_mono (λa' w' hR'=> ?_) (z2j hcx hspec ho hst hrf)
   have hpq':=qh.1 hpq;refine z9n hcx hspec hps hQ n (p++q) _ _ a' w' (by simp at hn ⊢; omega) ht' ?_ (by simp [hsz]) (λk hk=> ?_) (λk hk hlk j hj=> ?_) hR'
   ·rw [q1m];exact ⟨hpp,hpq'.2,λx hx y hy=>hpc x hx y (by simp [hy])⟩
   ·by_cases hki:i'=k
    ·subst hki;have hset:(listed.setIfInBounds i' true).getD i' false=true:=by simp [q1i,hls]
     rw [hset];constructor
     ·intro h; cases h
     ·intro h;rw [q2g,q12] at h;rcases h with h | h
      ·obtain ⟨y,hy,hyi⟩:=q1p.1 h;have:=(hpc y hy (i',f) (by simp)).1; simp only at this; omega
      ·obtain ⟨y,hy,hyi⟩:=q1p.1 h;have:=(hpq'.1 y hy).1; simp only at this; omega
    ·rw [getD_set_ne false hki,hl k hk];simp only [q2g,q1q,q12,q8];constructor
     ·rintro (h | h | h)
      ·exact .inl h
      ·exact absurd h.symm hki
      ·exact .inr h
     ·rintro (h | h)
      ·exact .inl h
      ·exact .inr (.inr h)
   ·by_cases hki:i'=k
    ·subst hki; exact getD_set_true (hpre j hj)
    ·rw [getD_set_ne false hki] at hlk;exact getD_set_true (hd k hk hlk j hj)
theorem z2C {o:Oper} {pre:List Nat} {f:Foot}:∀ {tr:List (Nat×Oper×Foot)},zSR ops o pre f tr=true->∀ x∈tr,pre.contains x.1=true\/(x.2.1.apart ops o=true/\(x.2.2.free f=true\/(zU2 x.2.1=true/\x.2.2.eff=false/\f.nw=true)\/(zCW x.2.1=true/\zCW o=true/\x.2.2.sep f=true)))
 | [],h,x,hx=>by cases hx
 | (j,oj,fj)::r,h,x,hx=>by
  simp only [zSR,qa,q1w,q17] at h;rcases q8.1 hx with rfl | hx
  ·exact h.1
  ·exact z2C h.2 x hx
theorem z2H {ps:List (List Nat)} {K:St ty->Option α} {r:α}:∀ (l:List Oper) (i:Nat) (tr:List (Nat×Oper×Foot)) (st:St ty),(∀ j:Nat,l[j]? =ops[i+j]?)->(∀ x∈tr,ops[x.1]? =some x.2.1/\x.1<i)->
  zHe cx ops ps i l tr st K=some r->∃ (rem:List (Nat×Foot)) (sf:St ty),rem.map (·.1)=List.range' i l.length/\Tr cx ops rem st sf/\K sf=some r/\
   rem.Pairwise (λx y=>x.1<y.1/\((ps.getD y.1 []).contains x.1=true\/May ops x y))/\
   ∀ x∈tr,∀ y∈rem,(ps.getD y.1 []).contains x.1=true\/May ops (x.1,x.2.2) y
 | [],i,tr,st,hl,htr,h=>⟨[],st,rfl,rfl,h,List.Pairwise.nil,λ_ _ _ hy=>by cases hy⟩
 | o::l,i,tr,st,hl,htr,h=>by
  have h0:ops[i]? =some o:=by simpa using (hl 0).symm
  simp only [zHe,zTV] at h;cases hd:zhI cx ops o st with
  | none=>rw [hd] at h; cases h
  | some d=>
   rw [hd] at h;simp only [q1g] at h;split at h
   ·rename_i hok
    obtain ⟨rem,sf,hm,ht,hK,hp,hc⟩:=z2H l (i+1) ((i,o,d.footN st)::tr) _ (λj=>by have:=hl (j+1); simpa [q2e,Nat.add_comm 1 j] using this)
     (λx hx=>by
      rcases q8.1 hx with rfl | hx
      ·exact ⟨h0,by simp⟩
      ·exact ⟨(htr x hx).1,by have:=(htr x hx).2; omega⟩) h
    have hge:∀ y∈rem,i<y.1:=λy hy=>by
     have:y.1∈rem.map (·.1):=q1p.2 ⟨y,hy,rfl⟩;rw [hm,List.mem_range'] at this;obtain ⟨k,_,hk⟩:=this; omega
    refine ⟨(i,d.footN st)::rem,sf, ?_,⟨o,d,h0,hd,rfl,ht⟩,hK, ?_,λx hx y hy=> ?_⟩
    ·simp only [q1q,qc,List.range'_succ,hm]
    ·rw [qh];exact ⟨λy hy=>⟨hge y hy,hc (i,o,d.footN st) (by simp) y hy⟩,hp⟩
    ·rcases q8.1 hy with rfl | hy
     ·rcases z2C hok x hx with h | h
      ·exact .inl h
      ·refine .inr λox oy hox hoy=> ?_
       have hox':x.2.1=ox:=by rw [(htr x hx).1] at hox; exact q26 hox
       have hoy':o=oy:=by rw [h0] at hoy; exact q26 hoy
       subst hox' hoy'; exact h
     ·exact hc x (by simp [hx]) y hy
   ·cases h
theorem zZw {o:Oper} {pre:List Nat} {f:Foot} {tr:List (Nat×Oper×Foot)}:∀ {T:List (Nat×Oper×Foot)},(∀ x∈T,x.2.2.empty=true\/x∈tr)->zbbG ops o pre (T.map λx=>(x.1,x.2.1))=true->(f.empty=true\/zbdj o pre f tr=true)->zSR ops o pre f T=true
 | [],_,_,_=>rfl
 | (j,oj,fj)::r,hT,hs,hf=>by
  simp only [q1q,zbbG,qa] at hs;have hr:=zZw (T:=r) (λx hx=>hT x (by simp [hx])) hs.2 hf
  simp only [zSR,qa];refine ⟨?_,hr⟩;rw [q1w];rcases q1w _ _ ▸ hs.1 with h1 | h1
  ·exact .inl h1
  ·by_cases hp:pre.contains j=true
   ·exact .inl hp
   ·refine .inr ?_;rw [qa];refine ⟨h1, ?_⟩;rw [q1w];rcases hf with hf | hf
    ·exact .inl (by simp [Foot.free,hf])
    ·rcases hT (j,oj,fj) (by simp) with he | he
     ·have he:fj.empty=true:=he;exact .inl (by simp [Foot.free,he])
     ·have key:∀ {tr:List (Nat×Oper×Foot)},zbdj o pre f tr=true->(j,oj,fj)∈tr->((fj.free f||((zU2 oj&&(!fj.eff&&f.nw))||(zCW oj&&(zCW o&&fj.sep f))))||pre.contains j)=true:=by
       intro tr;induction tr with
       | nil=>intro _ h; cases h
       | cons y r ih=>
        intro h hm;obtain ⟨k,ok,fk⟩:=y;simp only [zbdj,qa] at h;rcases q8.1 hm with e | hm
        ·cases e; exact h.1
        ·exact ih h.2 hm
      have:=key hf he;rw [q1w,q1w] at this;rcases this with h | h
      ·exact h
      ·exact absurd h hp
theorem zKr {ps:List (List Nat)} {K:St ty->Option α} {r:α}:∀ (l:List Oper) (i:Nat) (tr T:List (Nat×Oper×Foot)) (st:St ty),(∀ x∈T,x.2.2.empty=true\/x∈tr)->z0A ops ps i l (T.map λx=>(x.1,x.2.1))=true->
  zIo cx ops ps i l tr st K=some r->zHe cx ops ps i l T st K=some r
 | [],i,tr,T,st,_,_,h=>h
 | o::l,i,tr,T,st,hT,hs,h=>by
  simp only [z0A,qa] at hs;simp only [zIo,zTV] at h;simp only [zHe,zTV];simp only [zjB] at hs h;cases hd:zhI cx ops o st with
  | none=>rw [hd] at h; cases h
  | some d=>
   rw [hd] at h;simp only [q1g] at h ⊢;split at h
   ·rename_i he;rw [zZw hT hs.1 (.inl he)]
    exact zKr l (i+1) tr ((i,o,d.footN st)::T) _ (λx hx=>by
     rcases q8.1 hx with rfl | hx
     ·exact .inl he
     ·exact hT x hx) hs.2 h
   ·split at h
    ·rename_i hdy;rw [zZw hT hs.1 (.inr hdy)]
     exact zKr l (i+1) ((i,o,d.footN st)::tr) ((i,o,d.footN st)::T) _ (λx hx=>by
      rcases q8.1 hx with rfl | hx
      ·exact .inr (by simp)
      ·rcases hT x hx with h | h
       ·exact .inl h
       ·exact .inr (by simp [h])) hs.2 h
    ·cases h
theorem zbd9 (hm:P.follows .mixedOrders=true) (hcx:CxOK P cx) (hspec:∀ f s,cx.spec f=some s->Sound P cx f s) {K:St ty->Option α} {r:α} (hb:zNM 0 ops.toList=true)
  (hQ:∀ st a w,K st=some r->R cx e st a w->Q .normal a w) (h:zHe cx ops (zbbB ops.toList) 0 ops.toList [] st K=some r) (hR:R cx e st a w) (t:Nat):wpOps P ops Q (Region.schedule (P.follows .mixedOrders) ops t) a { w with drawn:=w.drawn+1 }:=by
 obtain ⟨rem,sf,hmm,ht,hK,hp,_⟩:=z2H ops.toList 0 [] st (λj=>by simp) (λx hx=>by cases hx) h
 simp only [Region.schedule,hm,Bool.true_or,if_true];refine wpAny_sound ops.size t _ a _ (z9n hcx hspec (ps:=zbbB ops.toList) (λi o ho=> ?_) (λa w=>hQ sf a w hK) ops.size rem _ st a _ ?_ ht hp (by simp) (λi hi=> ?_) (λi hi hl=> ?_) (hR.drew _ (Nat.le_succ _)))
 ·exact z5W ops.toList [] 0 rfl hb i o (q19 _) (by simpa using ho)
 ·have:=congrArg List.length hmm; simpa using this
 ·rw [hmm];simp [List.mem_range',q1i,hi]
 ·simp [q1i,hi] at hl
end
end
end Go.Ab
/- Loop heads: the shape of what is alive, and its rows and boxes numbered anew. -/
namespace Go.Ab
noncomputable section
variable {ty:Nat->Type}
section
variable {P:Program} {cx:Cx ty} {e:Env} {st st':St ty} {κ:Nat->Value} {a:Act} {w:World} {Q:Exit->Act->World->Prop} {α:Type}
theorem zQX (l:List (AV ty)) (t u:Nat) (v:AV ty):(gD .dead (l.set t v) u)=if t=u/\t<l.length then v else (gD .dead l u):=by
 simp only [zjB,qi,q32];by_cases h:t=u
 ·subst h;by_cases h':t<l.length <;>simp [h']
 ·simp [h]
theorem zN7 (hcx:CxOK P cx) {t id:Nat}:∀ (l:List (Nat×Nat)) (k:Nat) (st st':St ty),zTd t id k l st=some st'->R cx e st a w->R cx e st' a w
 | [],k,st,st',h,hR=>by simp only [zTd,q0] at h; exact h ▸ hR
 | (off,T)::r,k,st,st',h,hR=>by
  simp only [zTd,zEB] at h;split at h
  ·rename_i cs hb;split at h
   ·rename_i hv;split at h
    ·rename_i hfree;refine zN7 hcx r (k+1) _ st' h ?_;obtain ⟨κ,hf⟩:=hR;obtain ⟨hn,hlt⟩:=znv hfree;have hne:zQ t+k≠id:=λhe=>by rw [he,hb] at hn; cases hn
     obtain ⟨hrb,hc⟩:=zwX (B:=st.blks) (n:=zQ t+k) (nb:=.arr T [] false) (v:=.slice none 0 0) (w':=w) hf.rb hn hlt rfl rfl rfl (qn _) (λ_ _=>rfl) (λb hb=>by simp [zbj] at hb)
      (λ_=>⟨[],⟨by simp,.inl ⟨rfl,rfl⟩⟩,⟨by simp [zcP],λj u c hu=>by simp at hu⟩⟩)
     have hid:gD .none (st.blks.set (zQ t+k) (.arr T [] false)) id=.box cs false:=by
      rw [zbI,if_neg (λh=>hne h.1)]; exact hb
     have hbk:=hrb.blk id;simp only [hid] at hbk;obtain ⟨b,cur,ty',hκ,hg,hall⟩:=hbk
     obtain ⟨hrb2,hc2⟩:=zHc (B:=st.blks.set (zQ t+k) (.arr T [] false)) (n:=id) (nb:=.box (cs.set off (.own (zQ t+k))) false) (w':=w) hrb (by rw [hid]; rfl) (by rw [hid]; rfl) rfl rfl rfl rfl (λ_ _=>.inl rfl)
      (λhc3=>⟨b,cur,ty',hκ,hg,⟨by simpa using hall.len,λj u c hu hcj=>by
       rw [q32] at hcj;split at hcj
       ·rename_i hj;subst hj;split at hcj
        ·rename_i hlt2;simp only [q0] at hcj; subst hcj
         have hvo:cs[off]? =some (.lit (.slice none 0 0)):=by
          rw [zjB,qi] at hv;rw [ql (by simpa using hlt2)] at hv ⊢
          simpa using hv
         have hun:=zco (hall.at_ off u _ hu hvo);subst hun
         have:=RepA.own (cx:=cx) (F:=Fz e (λj=>gD .none ((st.blks.set (zQ t+k) (.arr T [] false)).set id (.box (cs.set off (.own (zQ t+k))) false)) j) (λi=>if i=zQ t+k then .slice none 0 0 else κ i) w) (w:=w)
          (kd:=λi=>(gD .none ((st.blks.set (zQ t+k) (.arr T [] false)).set id (.box (cs.set off (.own (zQ t+k))) false)) i).kind cx) (κ:=λi=>if i=zQ t+k then .slice none 0 0 else κ i) (zQ t+k) (zt cx T) 0 (by
           rw [zbI,if_neg (λh=>hne h.1.symm),zbI,if_pos ⟨rfl,hlt⟩]; rfl)
         simpa only [if_pos] using this
        ·cases hcj
       ·exact hc3.rep (hall.at_ j u c hu hcj)⟩⟩)
     exact ⟨_,⟨hrb2,hf.defers,hf.size,λu=>hc2.rep (hc.rep (hf.tmps u))⟩⟩
    ·cases h
   ·split at h
    ·split at h
     ·exact zN7 hcx r (k+1) _ st' h hR
     ·cases h
    ·cases h
   ·cases h
  ·cases h
theorem zbb9 (hcx:CxOK P cx) {t:Nat} {m:LMode} (h:zNi cx st t m=some st') (hR:R cx e st a w):R cx e st' a w:=by
 obtain ⟨κ,hf⟩:=hR;cases m with
 | keep=>simp only [zNi,q0] at h; subst h; exact ⟨κ,hf⟩
 | pure=>
  simp only [zNi,zEB,zIj] at h;split at h
  ·rename_i v ids hp;simp only [q0] at h; subst h;obtain ⟨hrb,hc⟩:=zyk hf.rb ids;refine ⟨κ,⟨hrb,hf.defers,by simp [hf.size],λu=> ?_⟩⟩
   show RepA cx (Fz e (FzB st ids) κ w) w (λi=>(FzB st ids i).kind cx) κ _ _
   have hget:(⟨st.tmps.set t v,zbY st.blks ids⟩:St ty).get u=if t=u/\t<st.tmps.length then v else st.get u:=zQX ..
   rw [hget];split
   ·rename_i htu;obtain ⟨rfl,_⟩:=htu;exact .rep (zSV hcx hf.rb (hf.tmps t) hp λid hid=>hid)
   ·exact hc.rep (hf.tmps u)
  ·cases h
 | sl el=>
  simp only [zNi,zEB,zIj] at h;split at h
  ·rename_i v ids hp;split at h
   ·rename_i l hl;simp only [q0] at h; subst h;obtain ⟨hrb,hc⟩:=zyk hf.rb ids;refine ⟨κ,⟨hrb,hf.defers,by simp [hf.size],λu=> ?_⟩⟩
    show RepA cx (Fz e (FzB st ids) κ w) w (λi=>(FzB st ids i).kind cx) κ _ _
    have hget:(⟨st.tmps.set t (.sl el l),zbY st.blks ids⟩:St ty).get u=if t=u/\t<st.tmps.length then .sl el l else st.get u:=zQX ..
    rw [hget];split
    ·rename_i htu;obtain ⟨rfl,_⟩:=htu;exact .rep (zLs (zSV hcx hf.rb (hf.tmps t) hp λid hid=>hid) hl)
    ·exact hc.rep (hf.tmps u)
   ·cases h
  ·cases h
 | own T=>
  simp only [zNi,zEB,zIj] at h;split at h
  ·rename_i hv;split at h
   ·rename_i hfree;simp only [q0] at h; subst h;obtain ⟨hn,hlt⟩:=znv hfree;have hrv:=hf.tmps t;rw [hv] at hrv;have hnil:=zco hrv
    obtain ⟨hrb,hc⟩:=zwX (B:=st.blks) (n:=zQ t+3) (nb:=.arr T [] false) (v:=.slice none 0 0) (w':=w) hf.rb hn hlt rfl rfl rfl (qn _) (λ_ _=>rfl) (λb hb=>by simp [zbj] at hb)
     (λ_=>⟨[],⟨by simp,.inl ⟨rfl,rfl⟩⟩,⟨by simp [zcP],λj u c hu=>by simp at hu⟩⟩)
    refine ⟨λi=>if i=zQ t+3 then .slice none 0 0 else κ i,⟨hrb,hf.defers,by simp [hf.size],λu=> ?_⟩⟩
    have hget:(⟨st.tmps.set t (.own (zQ t+3)),st.blks.set (zQ t+3) (.arr T [] false)⟩:St ty).get u=if t=u/\t<st.tmps.length then .own (zQ t+3) else st.get u:=zQX ..
    rw [hget];split
    ·rename_i htu;obtain ⟨rfl,_⟩:=htu
     have:=RepA.own (cx:=cx) (F:=Fz e (St.blk ⟨st.tmps.set t (.own (zQ t+3)),st.blks.set (zQ t+3) (.arr T [] false)⟩) (λi=>if i=zQ t+3 then .slice none 0 0 else κ i) w) (w:=w)
      (kd:=λi=>((gD .none (st.blks.set (zQ t+3) (.arr T [] false)) i)).kind cx) (κ:=λi=>if i=zQ t+3 then .slice none 0 0 else κ i) (zQ t+3) (zt cx T) 0 (by
       rw [zbI,if_pos ⟨rfl,hlt⟩]; rfl)
     simp only [if_pos] at this;rw [hnil]; exact this
    ·exact hc.rep (hf.tmps u)
   ·cases h
  ·split at h
   ·split at h
    ·simp only [q0] at h; subst h; exact ⟨κ,hf⟩
    ·cases h
   ·cases h
  ·cases h
 | boxOwn l=>
  simp only [zNi] at h;split at h
  ·exact zN7 hcx l 1 st st' h ⟨κ,hf⟩
  ·cases h
theorem zRm (hcx:CxOK P cx):∀ (l:List (Nat×LMode)) (st st':St ty),zMD cx l st=some st'->R cx e st a w->R cx e st' a w
 | [],st,st',h,hR=>by simp only [zMD,q0] at h; exact h ▸ hR
 | (t,m)::r,st,st',h,hR=>by
  simp only [zMD] at h;split at h
  ·rename_i s hs;exact zRm hcx r s st' h (zbb9 hcx hs hR)
  ·cases h
theorem z69:∀ (ids:List Nat) (n id j:Nat),(ids.zip (List.range' n ids.length)).lookup id=some j->∃ k,ids[k]? =some id/\j=n+k
 | [],n,id,j,h=>by simp at h
 | i::r,n,id,j,h=>by
  simp only [qc,List.range'_succ,List.zip_cons_cons,List.lookup_cons] at h;split at h
  ·rename_i hb;simp only [q0] at h;exact ⟨0,by simpa using (beq_iff_eq.1 hb).symm,by omega⟩
  ·obtain ⟨k,hk,rfl⟩:=z69 r (n+1) id j h;exact ⟨k+1,by simpa using hk,by omega⟩
theorem z5B:∀ {l:List Nat},zgB l=true->∀ (i j k:Nat),l[i]? =some k->l[j]? =some k->i=j
 | [],_,i,j,k,hi,_=>by simp at hi
 | x::r,h,i,j,k,hi,hj=>by
  simp only [zgB,qa,q17] at h
  have hx:∀ m,r[m]? =some x->False:=λm hm=>by
   have:=q1l hm;have h1:=h.1;rw [List.contains_iff_mem.2 this] at h1; cases h1
  cases i with
  | zero=>cases j with
   | zero=>rfl
   | succ j=>simp at hi hj; subst hi; exact (hx j hj).elim
  | succ i=>cases j with
   | zero=>simp at hi hj; subst hj; exact (hx i hi).elim
   | succ j=>simp at hi hj; rw [z5B h.2 i j k hi hj]
def zBH (st:St ty) (ren:List (Nat×Nat)) (N:Nat) (ids:List Nat):List (Blk ty):=List.replicate N .none++ids.map λi=>zMf ren (st.blk i)
def renκ (κ:Nat->Value) (N:Nat) (ids:List Nat) (j:Nat):Value:=κ (ids.getD (j - N) 0)
theorem zbeO {ren:List (Nat×Nat)} {b:Blk ty}:(zMf ren b).kind cx=b.kind cx:=by cases b <;>rfl
theorem zP0 {ren:List (Nat×Nat)} {b:Blk ty}:(zMf ren b).unfz↔b.unfz:=by cases b <;>rfl
theorem z2E {ren:List (Nat×Nat)} {b:Blk ty}:(zMf ren b).live↔b.live:=by cases b <;>rfl
theorem zG7 (st:St ty) (ren:List (Nat×Nat)) (N:Nat) (ids:List Nat) (j:Nat):
  (gD .none (zBH st ren N ids) j)=.none\/∃ k i,j=N+k/\ids[k]? =some i/\(gD .none (zBH st ren N ids) j)=zMf ren (st.blk i):=by
 unfold zBH;rw [zjB,qi];rcases Nat.lt_or_ge j N with h | h
 ·left; rw [q2a (by simpa using h)]; simp [List.getElem?_replicate,h]
 ·rw [q1u (by simpa using h)]
  simp only [q2n,q14];cases hi:ids[j - N]? with
  | none=>left; rfl
  | some i=>exact .inr ⟨j - N,i,by omega,hi,rfl⟩
theorem zbly (st:St ty) (ren:List (Nat×Nat)) (N:Nat) {ids:List Nat} {k i:Nat} (h:ids[k]? =some i):(gD .none (zBH st ren N ids) (N+k))=zMf ren (st.blk i):=by
 unfold zBH;rw [zjB,qi,q1u (by simp)]
 simp [h]
theorem renκ_at (κ:Nat->Value) (N:Nat) {ids:List Nat} {k i:Nat} (h:ids[k]? =some i):renκ κ N ids (N+k)=κ i:=by
 unfold renκ; simp [zjB,qi,h]
theorem z79 {F:Nat->Prop} {N:Nat} {ids:List Nat} {w:World}:
  ∀ (n:Nat) (v:Value) (av:AV ty),RepA cx F w (λi=>(st.blk i).kind cx) κ v av->
   RepA cx F w (λj=>((gD .none (zBH st (ids.zip (List.range' N ids.length)) N ids) j)).kind cx) (renκ κ N ids) v (zHY (ids.zip (List.range' N ids.length)) n av)
 | 0,v,av,h=>.dead v
 | n+1,v,av,h=>by
  have hid:∀ (id:Nat) (K:Nat->AV ty),(∀ k,ids[k]? =some id->RepA cx F w (λj=>((gD .none (zBH st (ids.zip (List.range' N ids.length)) N ids) j)).kind cx) (renκ κ N ids) v (K (N+k)))->
    RepA cx F w (λj=>((gD .none (zBH st (ids.zip (List.range' N ids.length)) N ids) j)).kind cx) (renκ κ N ids) v (zUp (ids.zip (List.range' N ids.length)) id K):=by
   intro id K hK;unfold zUp;split
   ·rename_i j hj;obtain ⟨k,hk,rfl⟩:=z69 ids N id j hj;exact hK k hk
   ·exact .dead v
  have hkd:∀ (k id:Nat),ids[k]? =some id->((gD .none (zBH st (ids.zip (List.range' N ids.length)) N ids) (N+k))).kind cx=(st.blk id).kind cx:=λk id hk=>by
   rw [zbly st _ N hk,zbeO]
  have hlist:∀ (us:List Value) (cs:List (AV ty)),us.length=cs.length->(∀ (j:Nat) u c,us[j]? =some u->cs[j]? =some c->RepA cx F w (λi=>(st.blk i).kind cx) κ u c)->
    us.length=(cs.map (zHY (ids.zip (List.range' N ids.length)) n)).length/\∀ (j:Nat) u c,us[j]? =some u->(cs.map (zHY (ids.zip (List.range' N ids.length)) n))[j]? =some c->
     RepA cx F w (λj=>((gD .none (zBH st (ids.zip (List.range' N ids.length)) N ids) j)).kind cx) (renκ κ N ids) u c:=by
   intro us cs hlen hr;refine ⟨by simp [hlen],λj u c hu hc=> ?_⟩
   rw [q14] at hc;cases hcj:cs[j]? with
   | none=>rw [hcj] at hc; cases hc
   | some c0=>rw [hcj] at hc; simp at hc; subst hc; exact z79 n u c0 (hr j u c0 hu hcj)
  cases h with
  | rep hr=>
   cases hr with
   | lit v=>exact .rep (.lit v)
   | slE a c T hn=>exact .rep (.slE a c T hn)
   | errN=>exact .rep .errN
   | errS t u=>exact .rep (.errS t u)
   | sl b off cap T l us hF hcap hlen hc hr=>exact .rep (.sl b off cap T l us hF hcap hlen hc hr)
   | fptr b off0 off T x us hF hlen hc hr=>exact .rep (.fptr b off0 off T x us hF hlen hc hr)
   | bptr b off cs us hF hlen hc hr=>exact .rep (.bptr b off cs us hF hlen hc hr)
   | agg vs cs hlen hr=>
    obtain ⟨h1,h2⟩:=hlist vs cs hlen λj u c hu hc=>.rep (hr j u c hu hc)
    exact .agg vs _ h1 h2
   | fn f vs cs hlen hr=>
    obtain ⟨h1,h2⟩:=hlist vs cs hlen λj u c hu hc=>.rep (hr j u c hu hc)
    exact .fn f vs _ h1 h2
  | own id k m hk=>
   refine hid id .own λj hj=> ?_
   have:=RepA.own (cx:=cx) (F:=F) (w:=w) (kd:=λj=>((gD .none (zBH st (ids.zip (List.range' N ids.length)) N ids) j)).kind cx) (κ:=renκ κ N ids) (N+j) k m ((hkd j id hj).trans hk)
   rwa [renκ_at κ N hj] at this
  | ownD v id hk=>exact hid id .own λj hj=>.ownD v _ ((hkd j id hj).trans hk)
  | sub v id lo m k q hk hl hv=>exact hid id (.sub · lo m) λj hj=>.sub v _ lo m k q ((hkd j id hj).trans hk) hl (by rw [renκ_at κ N hj]; exact hv)
  | subD v id lo m hk=>exact hid id (.sub · lo m) λj hj=>.subD v _ lo m ((hkd j id hj).trans hk)
  | ptr id off b hk hb=>exact hid id (.ptr · off) λj hj=>.ptr _ off b ((hkd j id hj).trans hk) (by rw [renκ_at κ N hj]; exact hb)
  | ptrD v id off hk=>exact hid id (.ptr · off) λj hj=>.ptrD v _ off ((hkd j id hj).trans hk)
  | eptr id ix off b k m q cap hk hi hb=>exact hid id (.eptr · ix off) λj hj=>.eptr _ ix off b k m q cap ((hkd j id hj).trans hk) hi (by rw [renκ_at κ N hj]; exact hb)
  | eptrD v id ix off hk=>exact hid id (.eptr · ix off) λj hj=>.eptrD v _ ix off ((hkd j id hj).trans hk)
  | agg vs cs hlen hr=>
   obtain ⟨h1,h2⟩:=hlist vs cs hlen hr;exact .agg vs _ h1 h2
  | tup vs cs hlen hr=>
   obtain ⟨h1,h2⟩:=hlist vs cs hlen hr;exact .tup vs _ h1 h2
  | fn f vs cs hlen hr=>
   obtain ⟨h1,h2⟩:=hlist vs cs hlen hr;exact .fn f vs _ h1 h2
  | mp id hk=>
   refine hid id .mp λj hj=> ?_
   have:=RepA.mp (cx:=cx) (F:=F) (w:=w) (kd:=λj=>((gD .none (zBH st (ids.zip (List.range' N ids.length)) N ids) j)).kind cx) (κ:=renκ κ N ids) (N+j) ((hkd j id hj).trans hk)
   rwa [renκ_at κ N hj] at this
  | mpD v id hk=>exact hid id .mp λj hj=>.mpD v _ ((hkd j id hj).trans hk)
  | dead v=>exact .dead v
theorem zdp.mono {F F':Nat->Prop} {v:Value} {T:Nat} {l:List (ty T)} (h:zdp cx F w v T l) (hF:∀ b,F b->F' b):zdp cx F' w v T l:=by
 obtain ⟨xs,ho,ha⟩:=h;exact ⟨xs,ho,ha.imp λu c hr=>hr.mono λb hb=>⟨hF b hb,rfl⟩⟩
theorem zblS (h:RB cx e st.blk κ w) {N:Nat} {ids:List Nat} (hd:zgB ids=true):
  RB cx e (λj=>(gD .none (zBH st (ids.zip (List.range' N ids.length)) N ids) j)) (renκ κ N ids) w/\
  ∀ b,Fz e st.blk κ w b->Fz e (λj=>(gD .none (zBH st (ids.zip (List.range' N ids.length)) N ids) j)) (renκ κ N ids) w b:=by
 have hfz:∀ b,Fz e st.blk κ w b->Fz e (λj=>(gD .none (zBH st (ids.zip (List.range' N ids.length)) N ids) j)) (renκ κ N ids) w b:=by
  intro b ⟨h1,h2,h3⟩;refine ⟨h1,h2,λj hj hb=> ?_⟩
  rcases zG7 st (ids.zip (List.range' N ids.length)) N ids j with hn | ⟨k,i,rfl,hk,hB⟩
  ·(try simp only at hj); rw [hn] at hj; exact hj
  ·(try simp only at hj); rw [hB,zP0] at hj
   rw [renκ_at κ N hk] at hb;exact h3 i hj hb
 refine ⟨⟨h.os,h.tape,h.output,h.drawn,h.size,h.keep,λj=> ?_,λi j b hi hj hbi hbj=> ?_,λj b hj hb=> ?_,λj b hj hb=> ?_,h.g⟩,hfz⟩
 ·rcases zG7 st (ids.zip (List.range' N ids.length)) N ids j with hn | ⟨k,i,rfl,hk,hB⟩
  ·(try simp only); rw [hn]; trivial
  ·(try simp only); rw [hB,renκ_at κ N hk]
   have hb:=h.blk i;cases hbi:st.blk i with
   | none=>trivial
   | dead=>trivial
   | box cs fz=>
    rw [hbi] at hb;obtain ⟨b,cur,t,hκ,hh,ha⟩:=hb;refine ⟨b,cur,t,hκ,hh,⟨by simp [ha.len],λm u c hu hc=> ?_⟩⟩
    rw [q14] at hc;cases hcm:cs[m]? with
    | none=>rw [hcm] at hc; cases hc
    | some c0=>
     rw [hcm] at hc; simp at hc; subst hc;exact (z79 (N:=N) (ids:=ids) zdh u c0 (ha.at_ m u c0 hu hcm)).mono (λb hb=>⟨hfz b hb,rfl⟩) λid hid=>.inl ⟨rfl,rfl⟩
   | arr T l fz=>
    rw [hbi] at hb;exact zdp.mono hb hfz
   | mp K V l fz=>
    rw [hbi] at hb;exact hb
 ·rcases zG7 st (ids.zip (List.range' N ids.length)) N ids i with hn | ⟨k,i',rfl,hk,hB⟩
  ·(try simp only at hi); rw [hn] at hi; exact hi.elim
  ·rcases zG7 st (ids.zip (List.range' N ids.length)) N ids j with hn | ⟨k',j',rfl,hk',hB'⟩
   ·(try simp only at hj); rw [hn] at hj; exact hj.elim
   ·(try simp only at hi hj)
    rw [hB,z2E] at hi; rw [hB',zP0] at hj;rw [renκ_at κ N hk] at hbi; rw [renκ_at κ N hk'] at hbj;have:=h.sep i' j' b hi hj hbi hbj;subst this;rw [z5B hd k k' i' hk hk']
 ·rcases zG7 st (ids.zip (List.range' N ids.length)) N ids j with hn | ⟨k,i,rfl,hk,hB⟩
  ·(try simp only at hj); rw [hn] at hj; exact hj.elim
  ·(try simp only at hj); rw [hB,zP0] at hj; rw [renκ_at κ N hk] at hb
   exact h.mine i b hj hb
 ·rcases zG7 st (ids.zip (List.range' N ids.length)) N ids j with hn | ⟨k,i,rfl,hk,hB⟩
  ·(try simp only at hj); rw [hn] at hj; exact hj.elim
  ·(try simp only at hj); rw [hB,z2E] at hj; rw [renκ_at κ N hk] at hb
   exact h.old i b hj hb
theorem zTW:∀ (n t:Nat) (l:List (Nat×AV ty)),(zvD t n l).length=n
 | 0,t,l=>by cases l <;>rfl
 | n+1,t,[]=>by simp only [zvD,qc,zTW n]
 | n+1,t,(u,v)::r=>by simp only [zvD]; split <;>simp only [qc,zTW n]
theorem zLf:∀ (n t:Nat) (l:List (Nat×AV ty)) (j:Nat),(gD .dead (zvD t n l) j)=.dead\/∃ v,(t+j,v)∈l/\(gD .dead (zvD t n l) j)=v
 | 0,t,l,j=>by left; cases l <;>rfl
 | n+1,t,[],j=>by
  left
  simp only [zvD];cases j with
  | zero=>rfl
  | succ j=>
   rcases zLf n (t+1) [] j with h | ⟨v,hv,_⟩
   ·simpa using h
   ·cases hv
 | n+1,t,(u,v)::r,j=>by
  simp only [zvD];split
  ·rename_i htu;have htu:=qx htu;subst htu;cases j with
   | zero=>exact .inr ⟨v,by simp,rfl⟩
   | succ j=>
    rcases zLf n (t+1) r j with h | ⟨v',hv',h⟩
    ·exact .inl (by simpa using h)
    ·exact .inr ⟨v',by rw [show t+(j+1)=t+1+j by omega]; exact q1y _ hv',by simpa using h⟩
  ·cases j with
   | zero=>exact .inl rfl
   | succ j=>
    rcases zLf n (t+1) ((u,v)::r) j with h | ⟨v',hv',h⟩
    ·exact .inl (by simpa using h)
    ·exact .inr ⟨v',by rw [show t+(j+1)=t+1+j by omega]; exact hv',by simpa using h⟩
theorem zut (hcx:CxOK P cx) {live:List (Nat×LMode)} {vals:List (AV ty)} {bs:List (Blk ty)} (h:canon cx live st=some (vals,bs)) (hR:R cx e st a w):R cx e (z0O cx.nt live vals bs) a w:=by
 unfold canon at h;split at h
 ·cases h
 ·rename_i s hs;split at h
  ·rename_i hok;simp only [q0,qe] at h;obtain ⟨rfl,rfl⟩:=h;simp only [qa] at hok;obtain ⟨κ,hf⟩:=zRm hcx live st s hs hR;obtain ⟨hrb,hfz⟩:=zblS (N:=4*cx.nt) hf.rb hok.1.1;refine ⟨renκ κ (4*cx.nt) (zvw s live),⟨hrb,hf.defers, ?_,λt=> ?_⟩⟩
   ·show a.tmps.size=(zvD 0 cx.nt _).length;rw [zTW,hf.size]; exact qx hok.2
   ·show RepA cx (Fz e (λj=>(gD .none (zBH s ((zvw s live).zip (List.range' (4*cx.nt) (zvw s live).length)) (4*cx.nt) (zvw s live)) j)) _ w) w _ _ _ (gD .dead (zvD 0 cx.nt _) t)
    rcases zLf cx.nt 0 ((live.map (·.1)).zip (live.map λt=>zHY (zbbu cx.nt (zvw s live)) zdh (s.get t.1))) t with h | ⟨v,hv,h⟩
    ·rw [h]; exact .dead _
    ·rw [h]
     have:v=zHY (zbbu cx.nt (zvw s live)) zdh (s.get t):=by
      obtain ⟨k,hk⟩:=q2i hv;rw [List.getElem?_zip_eq_some] at hk;simp only [q14,q1s] at hk;obtain ⟨h1,h2⟩:=hk;cases hl:live[k]? with
      | none=>rw [hl] at h1; cases h1
      | some p=>rw [hl] at h1 h2; simp at h1 h2; rw [<- h2,h1]
     rw [this];exact (z79 (N:=4*cx.nt) (ids:=zvw s live) zdh _ _ (hf.tmps t)).mono (λb hb=>⟨hfz b hb,rfl⟩) λid _=>.inl ⟨rfl,rfl⟩
  ·cases h
end
end
end Go.Ab
/- Code against the machine. -/
namespace Go.Ab
noncomputable section
variable {ty:Nat->Type}
section
variable {P:Program} {cx:Cx ty} {e:Env} {st st':St ty} {κ:Nat->Value} {a:Act} {w:World} {α:Type}
def Ex.to:Ex->Exit
 | .normal=>.normal
 | .exit id=>.exit id
 | .ret=>.ret
def ziV (cx:Cx ty):Code->Prop
 | .seq a b=>ziV cx a/\ziV cx b/\∀ sp,cx.joins (zcf b)=some sp->∀ vals bs t,sp vals bs=some (true,t)->zbhX cx b vals bs t
 | .cond _ a b=>ziV cx a/\ziV cx b
 | .block _ c=>ziV cx c
 | .scope c=>ziV cx c
 | .loop c=>ziV cx c/\∀ sp,cx.loops (zcf c)=some sp->∀ vals bs t,sp vals bs=some (true,t)->zEI cx c vals bs t
 | _=>True
def zbhq (cx:Cx ty) (e:Env) (K:Ex->St ty->Option α) (r:α) (ex:Exit) (a:Act) (w:World):Prop:=
 ∃ x st,Ex.to x=ex/\K x st=some r/\R cx e st a w
def zE7 (G:Act->Prop):Code->Prop
 | .region _ ops _=>∀ (i:Nat) o,ops[i]? =some o->∀ a v D,G a->G (({ a with defers:=D }:Act).put o.dst v)
 | .seq a b=>zE7 G a/\zE7 G b
 | .cond _ a b=>zE7 G a/\zE7 G b
 | .block _ c=>zE7 G c
 | .scope c=>zE7 G c
 | .loop c=>zE7 G c
 | _=>True
def zbfU (G:Act->Prop) (Q:Exit->Act->World->Prop):Exit->Act->World->Prop
 | .panic ch,a,w=>Q (.panic ch) a w
 | .outgrown,a,w=>Q .outgrown a w
 | ex,a,w=>Q ex a w/\G a
theorem zF3 {ops:Array Oper} {G:Act->Prop} {Q:Exit->Act->World->Prop} (hG:∀ (i:Nat) o,ops[i]? =some o->∀ a v D,G a->G (({ a with defers:=D }:Act).put o.dst v)):
  ∀ (l:List Nat) (a:Act) (w:World),wpOps P ops Q l a w->G a->wpOps P ops (zbfU G Q) l a w
 | [],a,w,h,hg=>⟨h,hg⟩
 | i::rest,a,w,h,hg=>by
  simp only [wpOps] at h ⊢;cases ho:ops[i]? with
  | none=>rw [ho] at h; exact zF3 hG rest a w h hg
  | some o=>
   rw [ho] at h;simp only at h ⊢;have nx:∀ v w',wpOps P ops Q rest (a.put o.dst v) w'->wpOps P ops (zbfU G Q) rest (a.put o.dst v) w':=λv w' h=>zF3 hG rest _ w' h (hG i o ho a v a.defers hg)
   split at h
   ·rename_i hw;rw [if_pos hw];rcases h with h | ⟨h1,a0,w0,h2⟩
    ·left
     unfold Oper.wp Oper.upon at h ⊢;split at h
     ·exact nx _ _ h
     ·exact nx _ _ h
     ·rename_i d w' hr;exact zF3 hG rest _ w' h (hG i o ho a undef (d::a.defers) hg)
     ·refine h.mono λen w'' hq=> ?_
      cases en with
      | returned v=>exact nx _ _ hq
      | panicked ch=>exact hq
      | outgrown=>
       obtain ⟨a0,w0,hq⟩:=hq;exact ⟨a0,w0,hq⟩
     ·exact h.mono λv w'' hq=>nx _ _ hq
     ·exact h
     ·exact h
    ·exact .inr ⟨h1,a0,w0,h2⟩
   ·rename_i hw;rw [if_neg hw];exact nx _ _ h
def z0J (cx:Cx ty) (e:Env) (K:Ex->St ty->Option α) (r:α) (G:Act->Prop) (ex:Exit) (a:Act) (w:World):Prop:=
 ∃ x st,Ex.to x=ex/\K x st=some r/\R cx e st a w/\G a
theorem z2q {K:Ex->St ty->Option α} {r:α} {G:Act->Prop} {ex:Exit} {a:Act} {w:World} (h:zbfU G (zbhq cx e K r) ex a w):z0J cx e K r G ex a w:=by
 cases ex with
 | panic ch=>
  obtain ⟨x,st,h,_⟩:=h;cases x <;>cases h
 | outgrown=>
  obtain ⟨x,st,h,_⟩:=h;cases x <;>cases h
 | normal=>obtain ⟨⟨x,st,h1,h2,h3⟩,hg⟩:=h; exact ⟨x,st,h1,h2,h3,hg⟩
 | exit id=>obtain ⟨⟨x,st,h1,h2,h3⟩,hg⟩:=h; exact ⟨x,st,h1,h2,h3,hg⟩
 | goto id=>obtain ⟨⟨x,st,h1,h2,h3⟩,hg⟩:=h; exact ⟨x,st,h1,h2,h3,hg⟩
 | ret=>obtain ⟨⟨x,st,h1,h2,h3⟩,hg⟩:=h; exact ⟨x,st,h1,h2,h3,hg⟩
theorem zpS (hm:P.follows .mixedOrders=true) (hcx:CxOK P cx) (hspec:∀ f s,cx.spec f=some s->Sound P cx f s) {r:α} {G:Act->Prop}:
  ∀ (c:Code),ziV cx c->zE7 G c->∀ (K:Ex->St ty->Option α) (st:St ty) (a:Act) (w:World),zw4 cx c st K=some r->R cx e st a w->G a->c.wp P (z0J cx e K r G) a w
 | .skip,_,_,K,st,a,w,h,hR,hg=>Go.wp_skip (Q:=z0J cx e K r G) ⟨.normal,st,rfl,h,hR,hg⟩
 | .label l,_,_,K,st,a,w,h,hR,hg=>wp_label ⟨.normal,st,rfl,h,hR,hg⟩
 | .region id ops draw,_,hk,K,st,a,w,h,hR,hg=>by
  cases draw with
  | false=>
   simp only [zw4] at h;refine wp_mono (wp_region (zF3 hk _ _ _ ?_ hg)) (λ_ _ _=>z2q)
   have:=zVF hcx hspec (Q:=zbhq cx e K r) (λst a w hk hR=>⟨.normal,st,rfl,hk,hR⟩) ops.toList 0 st a w (λj=>by simp) h hR
   rw [List.range_eq_range']
   simpa using this
  | true=>
   simp only [zw4] at h;split at h
   ·rename_i hb;simp only [qa] at hb;refine wp_mono (wp_region_draw λt=>zF3 hk _ _ _ ?_ hg) (λ_ _ _=>z2q)
    exact zbd9 hm hcx hspec hb.1 (λst a w hk hR=>⟨.normal,st,rfl,hk,hR⟩) (zKr ops.toList 0 [] [] st (λx hx=>by cases hx) hb.2.2 h) hR t
   ·cases h
 | .seq x y,hl,hk,K,st,a,w,h,hR,hg=>by
  simp only [zw4] at h;refine wp_seq (wp_mono (zpS hm hcx hspec x hl.1 hk.1 _ st a w h hR hg) ?_)
  rintro ex a w ⟨x',st',rfl,hq,hR',hg⟩
  cases x' with
  | normal=>
   simp only at hq;split at hq
   ·exact zpS hm hcx hspec y hl.2.1 hk.2 K st' a w hq hR' hg
   ·rename_i sp hsp;split at hq
    ·rename_i vals bs hcan;split at hq
     ·rename_i pre t hspt;cases pre with
      | false=>cases hq
      | true=>
       simp only [q7] at hq;have hj:=(hl.2.2 sp hsp vals bs t hspt α (z6e cx (zcf y) K)).trans hq;simp only [zE3] at hj;refine wp_mono (zpS hm hcx hspec y hl.2.1 hk.2 _ _ a w hj (zut hcx hcan hR') hg) ?_
       rintro ex a w ⟨x'',st'',rfl,hq,hR'',hg⟩
       cases x'' with
       | normal=>
        simp only [zTL] at hq;split at hq <;>cases hq
       | exit id=>
        simp only [zTL] at hq;split at hq
        ·rename_i vals' bs' hc;exact ⟨.exit id,_,rfl,hq,zut hcx hc hR'',hg⟩
        ·cases hq
       | ret=>
        simp only [zTL] at hq;split at hq
        ·rename_i vals' bs' hc;exact ⟨.ret,_,rfl,hq,zut hcx hc hR'',hg⟩
        ·cases hq
     ·cases hq
    ·cases hq
  | exit id=>exact ⟨.exit id,st',rfl,hq,hR',hg⟩
  | ret=>exact ⟨.ret,st',rfl,hq,hR',hg⟩
 | .cond c x y,hl,hk,K,st,a,w,h,hR,hg=>by
  simp only [zw4] at h;split at h
  ·rename_i t;split at h
   ·rename_i v hv
    have hb:a.eval (.tmp t)=.bool v:=by
     obtain ⟨κ,hf⟩:=hR;have:=hf.tmps t;rw [hv] at this;exact zco this
    cases v with
    | true=>
     simp only [q7] at h;rw [zPe hv (by simp)] at h
     exact wp_cond_true hb (zpS hm hcx hspec x hl.1 hk.1 K st a w h hR hg)
    | false=>
     simp only [q9] at h;rw [zPe hv (by simp)] at h
     exact wp_cond_false hb (zpS hm hcx hspec y hl.2 hk.2 K st a w h hR hg)
   ·cases h
  ·cases h
 | .block id c,hl,hk,K,st,a,w,h,hR,hg=>by
  simp only [zw4] at h;refine wp_block (wp_mono (zpS hm hcx hspec c hl hk _ st a w h hR hg) ?_)
  rintro ex a w ⟨x',st',rfl,hq,hR',hg⟩
  cases x' with
  | normal=>exact ⟨.normal,st',rfl,hq,hR',hg⟩
  | ret=>exact ⟨.ret,st',rfl,hq,hR',hg⟩
  | exit j=>
   simp only at hq;split at hq
   ·rename_i hj;have hj:=qx hj;show Exit.inBlock id _ (.exit j) a w;simp only [Exit.inBlock,hj,if_true];exact ⟨.normal,st',rfl,hq,hR',hg⟩
   ·rename_i hj;show Exit.inBlock id _ (.exit j) a w;have hne:j≠id:=λhe=>by rw [he,Nat.beq_refl] at hj; cases hj
    simp only [Exit.inBlock,hne,if_false];exact ⟨.exit j,st',rfl,hq,hR',hg⟩
 | .loop c,hl,hkp,K,st,a,w,h,hR,hg=>by
  simp only [zw4] at h;split at h
  ·rename_i sp vals bs hsp hcan;split at h
   ·rename_i pre t hspt;cases pre with
    | false=>cases h
    | true=>
     simp only [q7] at h;obtain ⟨n,hn⟩:=hl.2 sp hsp vals bs t hspt;have hi:=(hn α (z6e cx (zcf c) K)).trans h;refine wp_loop_rounds n ?_;have hR':=zut hcx hcan hR;clear hcan hspt hn hR h
     -- round by round
     have key:∀ (n:Nat) (vals:List (AV ty)) (bs:List (Blk ty)) (a:Act) (w:World),zUa cx c (z6e cx (zcf c) K) n vals bs=some r->(∀ (st:St ty),st=z0O cx.nt (cx.head (zcf c)) vals bs->R cx e st a w)->G a->Code.rounds P c (z0J cx e K r G) n a w:=by
      intro n;induction n with
      | zero=>intro vals bs a w h _; cases h
      | succ n ih=>
       intro vals bs a w h hR hg;simp only [zUa,zE3] at h;rw [rounds_succ];refine wp_mono (zpS hm hcx hspec c hl.1 hkp _ _ a w h (hR _ rfl) hg) ?_
       rintro ex a w ⟨x',st',rfl,hk,hR',hg⟩
       cases x' with
       | normal=>
        simp only [zTL] at hk;split at hk
        ·rename_i vals' bs' hc;exact ih vals' bs' a w hk (λst hst=>hst ▸ zut hcx hc hR') hg
        ·cases hk
       | exit id=>
        simp only [zTL] at hk;split at hk
        ·rename_i vals' bs' hc;exact ⟨.exit id,_,rfl,hk,zut hcx hc hR',hg⟩
        ·cases hk
       | ret=>
        simp only [zTL] at hk;split at hk
        ·rename_i vals' bs' hc;exact ⟨.ret,_,rfl,hk,zut hcx hc hR',hg⟩
        ·cases hk
     exact key n vals bs a w hi (λst hst=>hst ▸ hR') hg
   ·cases h
  ·cases h
 | .exit id,_,_,K,st,a,w,h,hR,hg=>wp_exit ⟨.exit id,st,rfl,h,hR,hg⟩
 | .ret,_,_,K,st,a,w,h,hR,hg=>wp_ret ⟨.ret,st,rfl,h,hR,hg⟩
 | .goto l,_,_,K,st,a,w,h,hR,hg=>by simp only [zw4] at h; cases h
 | .scope c,hl,hk,K,st,a,w,h,hR,hg=>by
  simp only [zw4] at h;refine wp_scope_straight (wp_mono (zpS hm hcx hspec c hl hk K st a w h hR hg) ?_)
  rintro ex a w ⟨x,st',rfl,hq,hR',hg⟩
  cases x with
  | normal=>exact ⟨.normal,st',rfl,hq,hR',hg⟩
  | exit id=>exact ⟨.exit id,st',rfl,hq,hR',hg⟩
  | ret=>exact ⟨.ret,st',rfl,hq,hR',hg⟩
 | .rangeFunc f ps x y,_,_,K,st,a,w,h,hR,hg=>by simp only [zw4] at h; cases h
 | .refuse s,_,_,K,st,a,w,h,hR,hg=>by simp only [zw4] at h; cases h
def zs7 (ts:List Nat):Code->Bool
 | .region _ ops _=>ops.toList.all λo=>match o.dst with
  | some d=> !ts.contains d
  | none=>true
 | .seq a b=>zs7 ts a&&zs7 ts b
 | .cond _ a b=>zs7 ts a&&zs7 ts b
 | .block _ c=>zs7 ts c
 | .scope c=>zs7 ts c
 | .loop c=>zs7 ts c
 | _=>true
theorem zzy {ts:List Nat} {val:Nat->Value}:∀ {c:Code},zs7 ts c=true->zE7 (λa=>∀ t∈ts,a.tmps.getD t undef=val t) c
 | .region _ ops _,h=>by
  intro i o ho a v D hg t ht;have:=(q1d.1 h) o (Array.mem_toList_iff.2 (Array.mem_of_getElem? ho));cases hd:o.dst with
  | none=>exact hg t ht
  | some d=>
   rw [hd] at this;simp only [q17,q2h,q1c] at this;have hne:d≠t:=λe=>this (e ▸ ht)
   simp only [Act.put];rw [<- hg t ht];simp only [q1i];rw [Array.getElem?_setIfInBounds_ne hne]
 | .seq a b,h=>by
  simp only [zs7,qa] at h;exact ⟨zzy h.1,zzy h.2⟩
 | .cond _ a b,h=>by
  simp only [zs7,qa] at h;exact ⟨zzy h.1,zzy h.2⟩
 | .block _ c,h=>zzy (c:=c) h
 | .scope c,h=>zzy (c:=c) h
 | .loop c,h=>zzy (c:=c) h
 | .skip,_=>trivial
 | .label _,_=>trivial
 | .exit _,_=>trivial
 | .ret,_=>trivial
 | .goto _,_=>trivial
 | .rangeFunc ..,_=>trivial
 | .refuse _,_=>trivial
theorem ztF:∀ {c:Code},zE7 (λ_=>True) c
 | .region _ ops _=>λ_ _ _ _ _ _ _=>trivial
 | .seq a b=>⟨ztF,ztF⟩
 | .cond _ a b=>⟨ztF,ztF⟩
 | .block _ c=>ztF (c:=c)
 | .scope c=>ztF (c:=c)
 | .loop c=>ztF (c:=c)
 | .skip=>trivial
 | .label _=>trivial
 | .exit _=>trivial
 | .ret=>trivial
 | .goto _=>trivial
 | .rangeFunc ..=>trivial
 | .refuse _=>trivial
end
end
end Go.Ab
/- A function against its contract. -/
namespace Go.Ab
noncomputable section
variable {ty:Nat->Type}
section
variable {P:Program} {cx:Cx ty} {e:Env} {st st':St ty} {κ:Nat->Value} {a:Act} {w:World} {α:Type}
theorem zbhN (hcx:CxOK P cx) (hf:RF cx e st κ a w) {r:ResultVar} {v:AV ty} (h:z5k cx st r=some v):
  ∃ u,(match r with | .tmp t=>(pure (a.tmps.getD t undef):Sem Value) | .cell b t=>do loadVar t (<- asAddr (a.tmps.getD b undef))).run P w=.ok u w/\ziB cx e st κ w u v:=by
 cases r with
 | tmp t=>
  simp only [z5k,q0] at h; subst h;exact ⟨_,rfl,hf.tmps t⟩
 | cell b t=>
  simp only [z5k] at h;split at h
  ·rename_i i cs off rd hi hc;have hr:=hf.tmps b;generalize hev:a.tmps.getD b undef=ve at hr;rcases zCv hcx hf.rb hr hc with ⟨b',o',us,rfl,hcell,ha⟩ | ⟨_,hn⟩
   ·obtain ⟨u,hrun,hu⟩:=z2I hcx hi hcell ha h (λ_ _=>zTD)
    exact ⟨u,by simp [hev,asAddr,hrun],hu⟩
   ·exact hn.elim
  ·cases h
theorem zbbN {f:ResultVar->Sem Value} (hf:∀ r v,z5k cx st r=some v->∃ u,(f r).run P w=.ok u w/\ziB cx e st κ w u v):∀ (rs:List ResultVar) (avs:List (AV ty)),zJB cx st rs=some avs->
  ∃ us,(rs.mapM f).run P w=.ok us w/\All2 (ziB cx e st κ w) us avs
 | [],avs,h=>by
  simp only [zJB,q0] at h; subst h;exact ⟨[],rfl,.nil⟩
 | r::rs,avs,h=>by
  simp only [zJB] at h;split at h
  ·rename_i v vs h1 h2;simp only [q0] at h; subst h;obtain ⟨u,hu,hr⟩:=hf r v h1;obtain ⟨us,hus,hrs⟩:=zbbN hf rs vs h2;refine ⟨u::us, ?_,.cons hr hrs⟩;rw [List.mapM_cons];simp [hu,hus]
  ·cases h
theorem zbeL (hcx:CxOK P cx) {fn:Func} {avs:List (AV ty)} (h:zJB cx st fn.results.toList=some avs) (hf:RF cx e st κ a w):
  ∃ us,(results fn a.tmps).run P w=.ok (zFh us) w/\All2 (ziB cx e st κ w) us avs:=by
 obtain ⟨us,hus,ha⟩:=zbbN (f:=λ| .tmp t=>pure (a.tmps.getD t undef) | .cell b t=>do loadVar t (<- asAddr (a.tmps.getD b undef))) (λr v hv=>by
  obtain ⟨u,hu,hr⟩:=zbhN hcx hf hv;refine ⟨u, ?_,hr⟩;cases r <;>exact hu) _ _ h
 refine ⟨us, ?_,ha⟩;unfold results;rw [Array.mapM_eq_mapM_toList];simp only [Sem.run_bind,Sem.run_map]
 erw [hus]
 simp only [Result.andThen_ok,Sem.run_pure];cases us with
 | nil=>rfl
 | cons t r=>cases r with
  | nil=>rfl
  | cons u r=>simp [zFh]
theorem zLd:∀ (as:List (Arg ty)) (top:Nat) (vs:List Value),vs.length=as.length->
  (Arg.av top as).1.length=as.length/\(zbo vs as).length=(Arg.av top as).2.length/\
  (∀ (t:Nat) a,as[t]? =some (Arg.pure a)->(Arg.av top as).1[t]? =some a)/\
  (∀ (t T:Nat) l,as[t]? =some (Arg.own T l)->∃ k:Nat,(Arg.av top as).1[t]? =some (AV.own (top+k))/\(Arg.av top as).2[k]? =some (Blk.arr T l false)/\(zbo vs as)[k]? =vs[t]?)/\
  (∀ (k:Nat) b,(Arg.av top as).2[k]? =some b->∃ (t T:Nat) (l:List (ty T)),as[t]? =some (Arg.own T l)/\b=Blk.arr T l false/\(zbo vs as)[k]? =vs[t]?)
 | [],top,vs,h=>by
  refine ⟨rfl, ?_,λt a h=>by simp at h,λt T l h=>by simp at h,λk b h=>by simp [Arg.av] at h⟩
  cases vs <;>rfl
 | .pure a::as,top,vs,h=>by
  cases vs with
  | nil=>simp at h
  | cons v vs=>
   obtain ⟨h1,h2,h3,h4,h5⟩:=zLd as top vs (by simpa using h)
   refine ⟨by simp [Arg.av,h1],by simpa [Arg.av,zbo] using h2,λt a' ht=> ?_,λt T l ht=> ?_,λk b hb=> ?_⟩
   ·cases t with
    | zero=>simp at ht; subst ht; rfl
    | succ t=>simpa [Arg.av] using h3 t a' (by simpa using ht)
   ·cases t with
    | zero=>simp at ht
    | succ t=>
     obtain ⟨k,k1,k2,k3⟩:=h4 t T l (by simpa using ht)
     exact ⟨k,by simpa [Arg.av] using k1,by simpa [Arg.av] using k2,by simpa [zbo] using k3⟩
   ·obtain ⟨t,T,l,k1,k2,k3⟩:=h5 k b (by simpa [Arg.av] using hb)
    exact ⟨t+1,T,l,by simpa using k1,k2,by simpa [zbo] using k3⟩
 | .own T0 l0::as,top,vs,h=>by
  cases vs with
  | nil=>simp at h
  | cons v vs=>
   obtain ⟨h1,h2,h3,h4,h5⟩:=zLd as (top+1) vs (by simpa using h)
   refine ⟨by simp [Arg.av,h1],by simpa [Arg.av,zbo] using h2,λt a' ht=> ?_,λt T l ht=> ?_,λk b hb=> ?_⟩
   ·cases t with
    | zero=>simp at ht
    | succ t=>simpa [Arg.av] using h3 t a' (by simpa using ht)
   ·cases t with
    | zero=>
     simp at ht;obtain ⟨rfl,rfl⟩:=ht;exact ⟨0,by simp [Arg.av],by simp [Arg.av],by simp [zbo]⟩
    | succ t=>
     obtain ⟨k,k1,k2,k3⟩:=h4 t T l (by simpa using ht)
     exact ⟨k+1,by simp only [Arg.av,q2r,k1]; congr 2; omega,by simpa [Arg.av] using k2,by simpa [zbo] using k3⟩
   ·cases k with
    | zero=>
     simp [Arg.av] at hb;exact ⟨0,T0,l0,rfl,hb.symm,by simp [zbo]⟩
    | succ k=>
     obtain ⟨t,T,l,k1,k2,k3⟩:=h5 k b (by simpa [Arg.av] using hb)
     exact ⟨t+1,T,l,by simpa using k1,k2,by simpa [zbo] using k3⟩
theorem zbis (nt:Nat) (as:List (Arg ty)) (j:Nat):(start nt as).blk j=Blk.none\/∃ k:Nat,j=4*nt+k/\(Arg.av (4*nt) as).2[k]? =some ((start nt as).blk j):=by
 show (gD Blk.none (List.replicate (4*nt) Blk.none++(Arg.av (4*nt) as).2) j)=Blk.none\/∃ k:Nat,j=4*nt+k/\(Arg.av (4*nt) as).2[k]? =some ((gD Blk.none (List.replicate (4*nt) Blk.none++(Arg.av (4*nt) as).2) j));rw [zjB,qi];rcases Nat.lt_or_ge j (4*nt) with h | h
 ·left; rw [q2a (by simpa using h)]; simp [List.getElem?_replicate,h]
 ·rw [q1u (by simpa using h)]
  simp only [q2n];cases hb:(Arg.av (4*nt) as).2[j - 4*nt]? with
  | none=>left; rfl
  | some b=>exact .inr ⟨j - 4*nt,by omega,by simp [hb]⟩
theorem zbeT {as:List (Arg ty)} {vs:List Value} {F:Nat->Prop} {nt:Nat} (hF:∀ b,F b->b<w.heap.size) (ha:All2 (zkc cx F w) vs as) (hs:SepW cx w (zbo vs as)) (hn:as.length<=nt):
  R cx ⟨w,F,znJ (zbo vs as)⟩ (start nt as) { tmps:=vs.toArray++Array.replicate (nt - vs.toArray.size) undef,defers:=[] } w:=by
 obtain ⟨h1,h2,h3,h4,h5⟩:=zLd as (4*nt) vs ha.len
 -- the values of the blocks
 have hκ:∀ k:Nat,k<(Arg.av (4*nt) as).2.length->∃ (t T:Nat) (l:List (ty T)) (v:Value),as[t]? =some (Arg.own T l)/\vs[t]? =some v/\(Arg.av (4*nt) as).2[k]? =some (Blk.arr T l false)/\(zbo vs as)[k]? =some v:=by
  intro k hk;obtain ⟨t,T,l,k1,k2,k3⟩:=h5 k _ (ql hk);obtain ⟨v,hv,_⟩:=ha.getR k1;exact ⟨t,T,l,v,k1,hv,by rw [ql hk,k2],k3.trans hv⟩
 have hblk:∀ j,(start nt as).blk j=Blk.none\/∃ (k t T:Nat) (l:List (ty T)) (v:Value),j=4*nt+k/\as[t]? =some (Arg.own T l)/\vs[t]? =some v/\(start nt as).blk j=Blk.arr T l false/\(zbo vs as)[k]? =some v:=by
  intro j;rcases zbis nt as j with h | ⟨k,rfl,hk⟩
  ·exact .inl h
  ·obtain ⟨t,T,l,v,k1,k2,k3,k4⟩:=hκ k (q1t.1 hk).1;rw [hk] at k3;exact .inr ⟨k,t,T,l,v,rfl,k1,k2,q26 k3,k4⟩
 let κ:Nat->Value:=λj=>(zbo vs as).getD (j - 4*nt) undef
 have hκv:∀ (k:Nat) v,(zbo vs as)[k]? =some v->κ (4*nt+k)=v:=λk v h=>by simp [κ,zjB,qi,h]
 have hmem:∀ (k:Nat) v b,(zbo vs as)[k]? =some v->zbj v=some b->znJ (zbo vs as) b:=λk v b h hb=>⟨v,q1l h,hb⟩
 have hfz:∀ b,F b->Fz ⟨w,F,znJ (zbo vs as)⟩ (start nt as).blk κ w b:=by
  intro b hb;refine ⟨.inl hb,hF b hb,λid hid hbid=> ?_⟩
  rcases hblk id with h | ⟨k,t,T,l,v,rfl,k1,k2,k3,k4⟩
  ·rw [h] at hid; exact hid
  ·rw [hκv k v k4] at hbid;exact (ha.at_ t v _ k2 k1).2 b hbid hb
 have hlt:∀ (t T:Nat) (l:List (ty T)) v b,as[t]? =some (Arg.own T l)->vs[t]? =some v->zbj v=some b->b<w.heap.size:=λt T l v b k1 k2 hb=>by
  obtain ⟨xs,ho,_⟩:=(ha.at_ t v _ k2 k1).1;exact zLM ho hb
 refine ⟨κ,⟨⟨rfl,rfl,rfl,λ_=>qn _,qn _,λb _ _=>rfl,λid=> ?_,λi j b hi hj hbi hbj=> ?_,λi b hi hb=> ?_,λi b hi hb=> ?_,hs.g⟩,rfl, ?_,λt=> ?_⟩⟩
 ·rcases hblk id with h | ⟨k,t,T,l,v,rfl,k1,k2,k3,k4⟩
  ·rw [h]; trivial
  ·rw [k3,hκv k v k4];exact zdp.mono (ha.at_ t v _ k2 k1).1 hfz
 ·rcases hblk i with h | ⟨k,t,T,l,v,rfl,k1,k2,k3,k4⟩
  ·rw [h] at hi; exact hi.elim
  ·rcases hblk j with h | ⟨k',t',T',l',v',rfl,k1',k2',k3',k4'⟩
   ·rw [h] at hj; exact hj.elim
   ·rw [hκv k v k4] at hbi; rw [hκv k' v' k4'] at hbj;rw [hs.sep k k' v v' b k4 k4' hbi hbj]
 ·rcases hblk i with h | ⟨k,t,T,l,v,rfl,k1,k2,k3,k4⟩
  ·rw [h] at hi; exact hi.elim
  ·rw [hκv k v k4] at hb; exact .inl (hmem k v b k4 hb)
 ·rcases hblk i with h | ⟨k,t,T,l,v,rfl,k1,k2,k3,k4⟩
  ·rw [h] at hi; exact hi.elim
  ·rw [hκv k v k4] at hb; exact ⟨.inl (hmem k v b k4 hb),hlt t T l v b k1 k2 hb⟩
 ·show (vs.toArray++Array.replicate (nt - vs.toArray.size) undef).size=((Arg.av (4*nt) as).1++List.replicate (nt - (Arg.av (4*nt) as).1.length) (AV.lit undef)).length;simp [h1,ha.len]
 ·show RepA cx _ w _ _ _ ((gD AV.dead ((Arg.av (4*nt) as).1++List.replicate (nt - (Arg.av (4*nt) as).1.length) (AV.lit undef)) t));rw [zjB,qi,q1i];rcases Nat.lt_or_ge t as.length with ht | ht
  ·rw [q2a (by omega)]
   have htv:t<vs.length:=by rw [ha.len]; exact ht
   rw [q2k (by simpa using htv)]
   simp only [List.getElem?_toArray];cases hat:as[t] with
   | pure av=>
    have hat':as[t]? =some (Arg.pure av):=by rw [ql ht,hat]
    rw [h3 t av hat'];obtain ⟨v,hv,hr⟩:=ha.getR hat';rw [hv];exact .rep (Rep.mono (λb hb=>⟨hfz b hb,rfl⟩) hr)
   | own T l=>
    have hat':as[t]? =some (Arg.own T l):=by rw [ql ht,hat]
    obtain ⟨k,k1,k2,k3⟩:=h4 t T l hat';obtain ⟨v,hv,hr⟩:=ha.getR hat';rw [k1,hv]
    have hb:(start nt as).blk (4*nt+k)=Blk.arr T l false:=by
     show (gD Blk.none (List.replicate (4*nt) Blk.none++(Arg.av (4*nt) as).2) (4*nt+k))=_;rw [zjB,qi,q1u (by simp)]; simp [k2]
    have:=RepA.own (cx:=cx) (F:=Fz ⟨w,F,znJ (zbo vs as)⟩ (start nt as).blk κ w) (w:=w) (kd:=λi=>((start nt as).blk i).kind cx) (κ:=κ) (4*nt+k) (zt cx T) l.length (by show ((start nt as).blk (4*nt+k)).kind cx=_; rw [hb]; rfl)
    rw [hκv k v (k3.trans hv)] at this;exact this
  ·rw [q1u (by omega),Array.getElem?_append_right (by simpa [ha.len] using ht)]
   rw [List.getElem?_replicate,Array.getElem?_replicate];have hvs:vs.length=as.length:=ha.len;split <;>split <;>first | exact .dead _ | exact .rep (.lit undef)
theorem zbls {F:Nat->Prop} {v u:Value} {T n:Nat} {l:List (ty T)} (hcx:CxOK P cx) (h:zdp cx F w v T l) (hs:zow (zt cx T) 0 n v u) (hl:n<=l.length):zdp cx F w u T (l.take n)/\zbj u=zbj v:=by
 obtain ⟨xs,ho,ha⟩:=h;have hlen:(l.take n).length=n:=by simp; omega
 rcases ho.2 with ⟨rfl,h0⟩ | ⟨g,cap,cur,rfl,h0g,hg,hnc,hcm,hcs,htake⟩
 ·-- the nil row
  obtain ⟨b,c,rfl,hn0,hv,_⟩:=hs;have hv:=hv rfl;subst hn0;refine ⟨⟨[],⟨by simp,.inl ⟨hv,by simp⟩⟩,⟨by simp [zcP],λj u c hu=>by simp at hu⟩⟩,by rw [hv]⟩
 ·rcases hs with rfl | ⟨_,h,_⟩
  ·simp only [Nat.zero_mul,zf5,Nat.add_zero,Nat.sub_zero];refine ⟨⟨xs.take (n*zt cx T),⟨?_,.inr ⟨g,cap,cur,by rw [hlen],h0g,hg,by rw [hlen]; omega,hcm,hcs, ?_⟩⟩, ?_⟩,rfl⟩
   ·have:=ho.1;rw [hlen,q15,this];exact Nat.min_eq_left (q1v _ hl)
   ·rw [hlen, <- htake,List.take_take,Nat.min_eq_left (q1v _ hl)]
   ·have:=ha.take (n*zt cx T);rw [show (zcP cx T l).take (n*zt cx T)=zcP cx T (l.take n) from (zDK _ _ (hcx.len T) l n).symm] at this
    exact this
  ·exact absurd h (qr 0)
theorem zHW (hcx:CxOK P cx) (hrb:RB cx e st.blk κ w) {fz:List Nat}:
  ∀ (ms:List RMode) (ts:List Nat) (avs:List (AV ty)) (vs:List Value) (rvs:List (RV ty)) (fz0 mv:List Nat),All2 (ziB cx e st κ w) vs avs->zTT cx st ms ts avs=some (rvs,fz0,mv)->
   (∀ id∈fz0,id∈fz)->(∀ id∈mv,id∉fz)->
   All2 (z8y cx (Fz e (FzB st fz) κ w) e.w0 w e.OP) vs rvs/\(∀ (i T:Nat) (l:List (ty T)) u b,rvs[i]? =some (.own T l)->vs[i]? =some u->zbj u=some b->∃ id∈mv,(st.blk id).unfz/\zbj (κ id)=some b)/\
   (zgB mv=true->∀ (i j T:Nat) (l:List (ty T)) (T':Nat) (l':List (ty T')) u v b,rvs[i]? =some (.own T l)->rvs[j]? =some (.own T' l')->vs[i]? =some u->vs[j]? =some v->zbj u=some b->zbj v=some b->i=j)
 | [],ts,avs,vs,rvs,fz0,mv,hv,h,hf,hm=>by
  cases avs with
  | nil=>
   simp only [zTT,q0,qe] at h;obtain ⟨rfl,rfl,rfl⟩:=h;rw [hv.nil_left.1];exact ⟨.nil,λi T l u b h=>by simp at h,λ_ i j T l T' l' u v b h=>by simp at h⟩
  | cons=>simp [zTT] at h
 | m::ms,ts,[],vs,rvs,fz0,mv,hv,h,hf,hm=>by simp [zTT] at h
 | m::ms,ts,av::avs,vs,rvs,fz0,mv,hv,h,hf,hm=>by
  obtain ⟨v,vs',rfl,hr,hv'⟩:=hv.inv;simp only [zTT] at h;split at h
  ·cases h
  ·rename_i rs fz' mv' hrest
   -- one that is no row of its own
   have plain:∀ (r:RV ty) (z:List Nat),(∀ T l,r≠.own T l)->z8y cx (Fz e (FzB st fz) κ w) e.w0 w e.OP v r->(∀ id∈fz',id∈fz)->rvs=r::rs->mv=mv'->
     All2 (z8y cx (Fz e (FzB st fz) κ w) e.w0 w e.OP) (v::vs') rvs/\(∀ (i T:Nat) (l:List (ty T)) u b,rvs[i]? =some (.own T l)->(v::vs')[i]? =some u->zbj u=some b->∃ id∈mv,(st.blk id).unfz/\zbj (κ id)=some b)/\
     (zgB mv=true->∀ (i j T:Nat) (l:List (ty T)) (T':Nat) (l':List (ty T')) u v2 b,rvs[i]? =some (.own T l)->rvs[j]? =some (.own T' l')->(v::vs')[i]? =some u->(v::vs')[j]? =some v2->zbj u=some b->zbj v2=some b->i=j):=by
    intro r z hno hrv hfz' e1 e2;subst e1 e2;obtain ⟨h1,h2,h3⟩:=zHW hcx hrb ms ts.tail avs vs' rs fz' mv hv' hrest hfz' hm;refine ⟨.cons hrv h1,λi T l u b hi hu hb=> ?_,λhn i j T l T' l' u v2 b hi hj hu hv2 hb hb2=> ?_⟩
    ·cases i with
     | zero=>simp at hi; exact absurd hi (hno T l)
     | succ i=>exact h2 i T l u b (by simpa using hi) (by simpa using hu) hb
    ·cases i with
     | zero=>simp at hi; exact absurd hi (hno T l)
     | succ i=>cases j with
      | zero=>simp at hj; exact absurd hj (hno T' l')
      | succ j=>rw [h3 hn i j T l T' l' u v2 b (by simpa using hi) (by simpa using hj) (by simpa using hu) (by simpa using hv2) hb hb2]
   -- one that is
   have own:∀ (id T:Nat) (l:List (ty T)),(st.blk id).unfz->zdp cx (Fz e (FzB st fz) κ w) w v T l->zbj v=zbj (κ id)->(∀ i∈fz',i∈fz)->rvs=.own T l::rs->mv=id::mv'->
     All2 (z8y cx (Fz e (FzB st fz) κ w) e.w0 w e.OP) (v::vs') rvs/\(∀ (i T:Nat) (l:List (ty T)) u b,rvs[i]? =some (.own T l)->(v::vs')[i]? =some u->zbj u=some b->∃ id∈mv,(st.blk id).unfz/\zbj (κ id)=some b)/\
     (zgB mv=true->∀ (i j T:Nat) (l:List (ty T)) (T':Nat) (l':List (ty T')) u v2 b,rvs[i]? =some (.own T l)->rvs[j]? =some (.own T' l')->(v::vs')[i]? =some u->(v::vs')[j]? =some v2->zbj u=some b->zbj v2=some b->i=j):=by
    intro id T l hu0 hrow hbv hfz' e1 e2;subst e1 e2;obtain ⟨h1,h2,h3⟩:=zHW hcx hrb ms ts.tail avs vs' rs fz' mv' hv' hrest hfz' (λi hi=>hm i (by simp [hi]))
    have hnf:∀ b,zbj v=some b->¬ Fz e (FzB st fz) κ w b:=λb hb hfb=>by
     refine hfb.2.2 id ?_ (hbv ▸ hb);simp only [FzB,zrw,if_neg (hm id (by simp))]
     exact hu0
    refine ⟨.cons ⟨hrow,λb hb=>⟨hnf b hb,hrb.mine id b hu0 (hbv ▸ hb)⟩⟩ h1,λi T2 l2 u b hi hu hb=> ?_,λhn i j T2 l2 T' l' u v2 b hi hj hu hv2 hb hb2=> ?_⟩
    ·cases i with
     | zero=>simp at hu; subst hu; exact ⟨id,by simp,hu0,hbv ▸ hb⟩
     | succ i=>
      obtain ⟨i',hi',h'⟩:=h2 i T2 l2 u b (by simpa using hi) (by simpa using hu) hb
      exact ⟨i',by simp [hi'],h'⟩
    ·simp only [zgB,qa,q17] at hn
     have clash:∀ (k T3:Nat) (l3:List (ty T3)) v3,rs[k]? =some (.own T3 l3)->vs'[k]? =some v3->zbj v=some b->zbj v3=some b->False:=λk T3 l3 v3 hk hv3 hbv' hb3=>by
      obtain ⟨i',hi',hu',hb'⟩:=h2 k T3 l3 v3 b hk hv3 hb3;have:=hrb.sep id i' b hu0.live hu' (hbv ▸ hbv') hb';subst this;rw [List.contains_iff_mem.2 hi'] at hn; cases hn.1
     cases i with
     | zero=>cases j with
      | zero=>rfl
      | succ j=>simp at hu; subst hu; exact (clash j T' l' v2 (by simpa using hj) (by simpa using hv2) hb hb2).elim
     | succ i=>cases j with
      | zero=>simp at hv2; subst hv2; exact (clash i T2 l2 u (by simpa using hi) (by simpa using hu) hb2 hb).elim
      | succ j=>rw [h3 hn.2 i j T2 l2 T' l' u v2 b (by simpa using hi) (by simpa using hj) (by simpa using hu) (by simpa using hv2) hb hb2]
   have hFF:∀ b,Fz e st.blk κ w b->Fz e (FzB st fz) κ w b:=λb hb=>((zyk hrb fz).2.fz b hb).1
   cases m with
   | pure=>
    simp only at h;split at h
    ·rename_i a' ids hp;split at h
     ·rename_i a2 hcan;simp only [q0,qe] at h;obtain ⟨rfl,rfl,rfl⟩:=h;exact plain (.pure a2) fz (λT l h=>by cases h) (zZn hcx (zSV hcx hrb hr hp λid hid=>hf id (by simp [hid])) hcan) (λid hid=>hf id (by simp [hid])) rfl rfl
     ·cases h
    ·cases h
   | raw=>
    simp only at h;split at h
    ·rename_i a' ids hp;simp only [q0,qe] at h;obtain ⟨rfl,rfl,rfl⟩:=h;exact plain (.pure a') fz (λT l h=>by cases h) (zSV hcx hrb hr hp λid hid=>hf id (by simp [hid])) (λid hid=>hf id (by simp [hid])) rfl rfl
    ·cases h
   | own T=>
    simp only at h;split at h
    ·-- nil
     simp only [q0,qe] at h;obtain ⟨rfl,rfl,rfl⟩:=h;have hv0:=zco hr;subst hv0;obtain ⟨h1,h2,h3⟩:=zHW hcx hrb ms ts.tail avs vs' rs fz' mv' hv' hrest hf hm;refine ⟨.cons ⟨⟨[],⟨by simp,.inl ⟨rfl,rfl⟩⟩,⟨by simp [zcP],λj u c hu=>by simp at hu⟩⟩,λb hb=>by simp [zbj] at hb⟩ h1,λi T2 l2 u b hi hu hb=> ?_,λhn i j T2 l2 T' l' u v2 b hi hj hu hv2 hb hb2=> ?_⟩
     ·cases i with
      | zero=>simp at hu; subst hu; simp [zbj] at hb
      | succ i=>exact h2 i T2 l2 u b (by simpa using hi) (by simpa using hu) hb
     ·cases i with
      | zero=>simp at hu; subst hu; simp [zbj] at hb
      | succ i=>cases j with
       | zero=>simp at hv2; subst hv2; simp [zbj] at hb2
       | succ j=>rw [h3 hn i j T2 l2 T' l' u v2 b (by simpa using hi) (by simpa using hj) (by simpa using hu) (by simpa using hv2) hb hb2]
    ·rename_i id;split at h
     ·rename_i T' l hb;split at h
      ·rename_i hTT;have hTT:=qx hTT;simp only [q0,qe] at h;obtain ⟨rfl,rfl,rfl⟩:=h;have hv0:=z7m hrb hr hb;subst hv0;exact own id T' l (by rw [hb]; rfl) (zdp.mono (hrb.row hb) hFF) rfl hf rfl rfl
      ·cases h
     ·cases h
    ·rename_i id n;split at h
     ·rename_i T' l hb;split at h
      ·simp only [q0,qe] at h;obtain ⟨rfl,rfl,rfl⟩:=h;cases hr with
       | rep hr=>cases hr
       | sub _ _ _ _ k m hk hl hs=>
        simp only [hb,Blk.kind,Kind.arr.injEq] at hk;obtain ⟨rfl,rfl⟩:=hk;obtain ⟨hrow,hbv⟩:=zbls hcx (hrb.row hb) hs (by omega)
        exact own id T' _ (by rw [hb]; rfl) (zdp.mono hrow hFF) hbv hf rfl rfl
       | subD _ _ _ _ hk=>simp [hb,Blk.kind] at hk
      ·cases h
     ·cases h
    ·cases h
theorem z5h:∀ (us:List Bool) (ts:List Nat) (r:List (Option ((T:Nat)×List (ty T)))) (mv:List Nat),z67 st ts us=some (r,mv)->r.length=us.length/\
  ∀ (m:Nat) (x:(T:Nat)×List (ty T)),r[m]? =some (some x)->us[m]? =some true/\∃ t id,ts[m]? =some t/\st.get t=.own id/\st.blk id=.arr x.1 x.2 false/\id∈mv
 | [],ts,r,mv,h=>by
  simp only [z67,q0,qe] at h;obtain ⟨rfl,rfl⟩:=h;exact ⟨rfl,λm x h=>by simp at h⟩
 | u::us,ts,r,mv,h=>by
  simp only [z67] at h;split at h
  ·cases h
  ·rename_i r' mv' hr;obtain ⟨h1,h2⟩:=z5h us ts.tail r' mv' hr
   have rest:∀ (m:Nat) (x:(T:Nat)×List (ty T)),r'[m]? =some (some x)->∃ t id,ts[m+1]? =some t/\st.get t=.own id/\st.blk id=.arr x.1 x.2 false/\id∈mv':=λm x hm=>by
    obtain ⟨_,t,id,k1,k2,k3,k4⟩:=h2 m x hm;refine ⟨t,id, ?_,k2,k3,k4⟩;cases ts with
    | nil=>simp at k1
    | cons t0 ts=>simpa using k1
   cases u with
   | false=>
    simp only [q0,qe] at h;obtain ⟨rfl,rfl⟩:=h;refine ⟨by simp [h1],λm x hm=> ?_⟩
    cases m with
    | zero=>simp at hm
    | succ m=>
     have hm:r'[m]? =some (some x):=by simpa using hm
     exact ⟨by simpa using (h2 m x hm).1,rest m x hm⟩
   | true=>
    simp only at h;split at h
    ·cases h
    ·rename_i t0 ts0;split at h
     ·rename_i id hget;split at h
      ·rename_i T l hb;simp only [q0,qe] at h;obtain ⟨rfl,rfl⟩:=h;refine ⟨by simp [h1],λm x hm=> ?_⟩
       cases m with
       | zero=>
        simp at hm; subst hm;exact ⟨rfl,t0,id,rfl,hget,hb,by simp⟩
       | succ m=>
        have hm:r'[m]? =some (some x):=by simpa using hm
        obtain ⟨t,id',k1,k2,k3,k4⟩:=rest m x hm;exact ⟨by simpa using (h2 m x hm).1,t,id',k1,k2,k3,by simp [k4]⟩
      ·cases h
     ·cases h
theorem zKS:∀ {l m:List Nat},zgB (l++m)=true->zgB l=true/\∀ i∈l,i∉m
 | [],m,_=>⟨rfl,λi h=>by cases h⟩
 | x::l,m,h=>by
  simp only [qo,zgB,qa,q17,q2h,q1c,q12,not_or] at h;obtain ⟨h1,h2⟩:=zKS h.2;refine ⟨by simp [zgB,h1,h.1.1],λi hi=> ?_⟩
  rcases q8.1 hi with rfl | hi
  ·exact h.1.2
  ·exact h2 i hi
theorem zbeu {l m n:List Nat} (h:zYD l (m++n)=true):(∀ i∈m,i∉l)/\∀ i∈n,i∉l:=by
 unfold zYD at h
 have key:∀ i∈l,i∉m++n:=λi hi hm=>by
  have:=(q1d.1 h) i hi;simp only [q17,q2h,q1c] at this;exact this hm
 exact ⟨λi hi hl=>key i hl (q12.2 (.inl hi)),λi hi hl=>key i hl (q12.2 (.inr hi))⟩
theorem zbb0 (hcx:CxOK P cx) {sg:Sig} {ots:List Nat} {ts:List Nat} {rs:List ResultVar} {avs:List (AV ty)} {us:List Value} {res:ARes ty} {owns:List Value} (hts:zJB cx st rs=some avs) (hul:sg.upd.length=owns.length)
  (hot:∀ (m t:Nat) v,sg.upd[m]? =some true->ots[m]? =some t->owns[m]? =some v->a.tmps.getD t undef=v) (heop:e.OP=znJ owns)
  (hF:∀ b,e.F b->b<e.w0.heap.size/\¬ znJ owns b) (h:zYH cx sg ots ts rs st=some res) (hf:RF cx e st κ a w) (hv:All2 (ziB cx e st κ w) us avs):Post cx e.F e.w0 owns res (zFh us) w:=by
 unfold zYH at h;rw [hts] at h;simp only at h;split at h
 ·rename_i vs fz mv us' mu hres hus;obtain ⟨hlen,hupd⟩:=z5h sg.upd ots us' mu hus;split at h
  ·rename_i hok;simp only [q0] at h; subst h;simp only [qa] at hok;obtain ⟨hnd,hmd⟩:=zKS hok.1;obtain ⟨hnf,hnu⟩:=zbeu hok.2;obtain ⟨h1,h2,h3⟩:=zHW hcx hf.rb (fz:=fz) sg.res ts _ _ vs fz mv hv hres (λid hid=>hid) hnf
   rw [heop] at h1;have hFF:∀ b,Fz e st.blk κ w b->Fz e (FzB st fz) κ w b:=λb hb=>((zyk hf.rb fz).2.fz b hb).1
   -- a row that is handed back
   have back:∀ (m:Nat) (x:(T:Nat)×List (ty T)) (v:Value),us'[m]? =some (some x)->owns[m]? =some v->∃ id∈mu,st.blk id=.arr x.1 x.2 false/\v=κ id:=λm x v hm ho=>by
    obtain ⟨hu,t,id,k1,k2,k3,k4⟩:=hupd m x hm;refine ⟨id,k4,k3, ?_⟩;have e1:=hot m t v hu k1 ho;have e2:=hf.tmps t;rw [k2] at e2;exact e1.symm.trans (z7m hf.rb e2 k3)
   refine ⟨Fz e (FzB st fz) κ w,_,rfl,⟨hf.rb.os,hf.rb.tape,hf.rb.output,hf.rb.drawn,hf.rb.size,λb hb hop=>hf.rb.keep b hb (by rw [heop]; exact hop)⟩,λb hb=> ?_,λb hb=>⟨hb.2.1,by have:=hb.1; rw [heop] at this; exact this⟩,h1,⟨by rw [hlen,hul],λj u c hu hc=> ?_⟩,λi j T l T' l' u v b=>h3 hnd i j T l T' l' u v b,λi m T l x u v b hi hm hiu hmo hbu hbv=> ?_⟩
   ·refine ⟨.inl hb,q2b (hF b hb).1 hf.rb.size,λid hid hbid=> ?_⟩
    have hid':(st.blk id).unfz:=by
     simp only [FzB,zrw] at hid;split at hid
     ·exact (Blk.freeze_unfz hid).elim
     ·exact hid
    rcases hf.rb.mine id b hid' hbid with h | h
    ·rw [heop] at h; exact (hF b hb).2 h
    ·have:=(hF b hb).1; omega
   ·cases c with
    | none=>trivial
    | some x=>
     obtain ⟨id,hid,hb,rfl⟩:=back j x u hc hu;refine ⟨zdp.mono (hf.rb.row hb) hFF,λb hbb hfb=> ?_⟩
     refine hfb.2.2 id ?_ hbb;simp only [FzB,zrw,if_neg (hnu id hid)];have:(gD .none st.blks id)=st.blk id:=rfl;rw [this,hb]; rfl
   ·obtain ⟨id,hid,hb,rfl⟩:=back m x v hm hmo;obtain ⟨id',hid',hu',hb'⟩:=h2 i T l u b hi hiu hbu;have:=hf.rb.sep id' id b hu'.live (by rw [hb]; rfl) hb' hbv
    subst this;exact hmd _ hid' hid
  ·cases h
 ·cases h
def zG1:List (Arg ty)->Nat
 | []=>0
 | .own _ _::r=>zG1 r+1
 | .pure _::r=>zG1 r
theorem zQW:∀ (as:List (Arg ty)) (vs:List Value),vs.length=as.length->(zbo vs as).length=zG1 as
 | [],vs,h=>by cases vs <;>rfl
 | .own T l::as,[],h=>by simp at h
 | .pure a::as,[],h=>by simp at h
 | .own T l::as,v::vs,h=>by simp only [zbo,zG1,qc,zQW as vs (by simpa using h)]
 | .pure a::as,v::vs,h=>by simp only [zbo,zG1,zQW as vs (by simpa using h)]
def zCb:List Nat->List Bool->List Nat
 | t::ts,u::us=>match u with
  | true=>t::zCb ts us
  | false=>zCb ts us
 | _,_=>[]
def zNg (c:Code) (as:List (Arg ty)) (us:List Bool):Bool:=Nat.beq us.length (zG1 as)&&(match zCb (zAx 0 as) us with
 | []=>true
 | ts=>zs7 ts c)
theorem z7d:∀ {ts:List Nat} {us:List Bool} {m t:Nat},ts[m]? =some t->us[m]? =some true->t∈zCb ts us
 | [],us,m,t,h,_=>by simp at h
 | _::_,[],m,t,_,h=>by simp at h
 | t0::ts,u::us,0,t,h,hu=>by
  simp at h hu; subst h hu;simp [zCb]
 | t0::ts,u::us,m+1,t,h,hu=>by
  have:=z7d (ts:=ts) (us:=us) (m:=m) (t:=t) (by simpa using h) (by simpa using hu)
  cases u with
  | true=>simp [zCb,this]
  | false=>simpa [zCb] using this
theorem zUy:∀ (as:List (Arg ty)) (vs:List Value) (k:Nat),vs.length=as.length->∀ (m t:Nat) v,(zAx k as)[m]? =some t->(zbo vs as)[m]? =some v->k<=t/\vs[t - k]? =some v
 | [],vs,k,h,m,t,v,ht,_=>by simp [zAx] at ht
 | .own T l::as,[],k,h,m,t,v,_,_=>by simp at h
 | .pure a::as,[],k,h,m,t,v,_,_=>by simp at h
 | .own T l::as,u::vs,k,h,m,t,v,ht,hv=>by
  cases m with
  | zero=>
   simp [zAx] at ht; simp [zbo] at hv; subst ht hv;exact ⟨qn _,by simp⟩
  | succ m=>
   obtain ⟨h1,h2⟩:=zUy as vs (k+1) (by simpa using h) m t v (by simpa [zAx] using ht) (by simpa [zbo] using hv)
   refine ⟨by omega, ?_⟩
   rw [show t - k=(t - (k+1))+1 by omega]; simpa using h2
 | .pure a::as,u::vs,k,h,m,t,v,ht,hv=>by
  obtain ⟨h1,h2⟩:=zUy as vs (k+1) (by simpa using h) m t v (by simpa [zAx] using ht) (by simpa [zbo] using hv)
  refine ⟨by omega, ?_⟩
  rw [show t - k=(t - (k+1))+1 by omega]; simpa using h2
theorem z2v (hm:P.follows .mixedOrders=true) (hcx:CxOK P cx) (hspec:∀ f s,cx.spec f=some s->Sound P cx f s) {f:Nat} {fn:Func} {c:Code} (hf:P.funcs[f]? =some fn) (hb:fn.body=some c) (hl:ziV cx c)
  {sg:Sig} {as:List (Arg ty)} {res:ARes ty} (hrun:zeQ cx fn c sg as=some res) (hn:Nat.ble as.length fn.ntmps=true) (hu:zNg c as sg.upd=true)
  (w:World) (F:Nat->Prop) (vs:List Value) (hF:∀ b,F b->b<w.heap.size) (ha:All2 (zkc cx F w) vs as) (hs:SepW cx w (zbo vs as)):
  Calls P f vs.toArray w λe w'=>∃ v,e=.returned v/\Post cx F w (zbo vs as) res v w':=by
 unfold zNg at hu;simp only [qa] at hu;obtain ⟨hul,hnw⟩:=hu
 have hnw:zs7 (zCb (zAx 0 as) sg.upd) c=true\/zCb (zAx 0 as) sg.upd=[]:=by
  split at hnw
  ·rename_i h; exact .inr h
  ·exact .inl hnw
 have hR:=zbeT (nt:=fn.ntmps) hF ha hs (q2p hn)
 have hkeep:zE7 (λa=>∀ t∈zCb (zAx 0 as) sg.upd,a.tmps.getD t undef=(vs.toArray++Array.replicate (fn.ntmps - vs.toArray.size) undef).getD t undef) c:=by
  rcases hnw with h | h
  ·exact zzy (val:=λt=>(vs.toArray++Array.replicate (fn.ntmps - vs.toArray.size) undef).getD t undef) h
  ·rw [h]
   have:(λa:Act=>∀ t∈([]:List Nat),a.tmps.getD t undef=(vs.toArray++Array.replicate (fn.ntmps - vs.toArray.size) undef).getD t undef)=λ_=>True:=by
    funext a; simp
   rw [this]; exact ztF
 refine calls_of_wp hf hb (wp_mono (zpS hm hcx hspec c hl hkeep _ _ _ w hrun hR (λt _=>rfl)) ?_)
 rintro ex a w' ⟨x,st,rfl,hk,hR',hg⟩
 have hFO:∀ b,F b->b<w.heap.size/\¬ znJ (zbo vs as) b:=by
  intro b hb;refine ⟨hF b hb,λ⟨v,hv,hvb⟩=> ?_⟩
  obtain ⟨k,hk⟩:=q2i hv;obtain ⟨_,h2,_,_,h5⟩:=zLd as 0 vs ha.len;have hlt:k<(Arg.av 0 as).2.length:=by rw [<- h2]; exact (q1t.1 hk).1
  obtain ⟨t,T,l,k1,_,k3⟩:=h5 k _ (ql hlt);obtain ⟨u,hu,hr⟩:=ha.getR k1;rw [hk,hu] at k3;have:=q26 k3;subst this;exact hr.2 b hvb hb
 have fin:zYH cx sg (zAx 0 as) fn.resultTypes.toList fn.results.toList st=some res->a.defers=[]/\∃ v,(results fn a.tmps).run P w'=.ok v w'/\∃ v',Ending.returned v=.returned v'/\Post cx F w (zbo vs as) res v' w':=by
  intro h;obtain ⟨κ,hf⟩:=hR';cases hav:zJB cx st fn.results.toList with
  | none=>simp [zYH,hav] at h
  | some avs=>
   obtain ⟨us,hrun,hv⟩:=zbeL hcx hav hf;refine ⟨hf.defers,_,hrun,_,rfl,zbb0 (e:=⟨w,F,znJ (zbo vs as)⟩) hcx hav (by rw [qx hul,zQW as vs ha.len]) (λm t v hm ht hv=> ?_) rfl hFO h hf hv⟩
   rw [hg t (z7d ht hm)];obtain ⟨_,h2⟩:=zUy as vs 0 ha.len m t v ht hv;rw [Nat.sub_zero] at h2;rw [q1i,q2k (by simpa using (q1t.1 h2).1)]
   simp [h2]
 cases x with
 | normal=>exact fin hk
 | ret=>exact fin hk
 | exit id=>cases hk
end
end
end Go.Ab
/- Contracts and loops out of printed equations. -/
namespace Go.Ab
noncomputable section
variable {ty:Nat->Type}
def out {A R:Type} (f:A->Option R) (p:Bool×A):Option R:=bif p.1 then f p.2 else none
def bn {A R:Type} (p:Bool×A) (k:A->R) (d:R):R:=bif p.1 then k p.2 else d
structure Cx.Same0 (cx cx':Cx ty):Prop where
 ti:cx'.ti=cx.ti
 enc:cx'.enc=cx.enc
 dec:cx'.dec=cx.dec
 eqs:cx'.eqs=cx.eqs
 ng:cx'.ng=cx.ng
 inv:cx'.inv=cx.inv
structure Cx.Same (cx cx':Cx ty):Prop where
 s:cx.Same0 cx'
 dr:cx'.dr=cx.dr
theorem Cx.Same0.symm {cx cx':Cx ty} (h:cx.Same0 cx'):cx'.Same0 cx:=⟨h.ti.symm,h.enc.symm,h.dec.symm,h.eqs.symm,h.ng.symm,h.inv.symm⟩
theorem Cx.Same.symm {cx cx':Cx ty} (h:cx.Same cx'):cx'.Same cx:=⟨h.s.symm,h.dr.symm⟩
section
variable {P:Program} {cx cx':Cx ty} {F:Nat->Prop} {w:World}
theorem Rep.cg (h:cx'.enc=cx.enc) {v:Value} {a:AV ty} (hr:Rep cx F w v a):Rep cx' F w v a:=by
 have he:∀ T (l:List (ty T)),zcP cx' T l=zcP cx T l:=λT l=>by unfold zcP; rw [h]
 induction hr with
 | lit v=>exact .lit v
 | slE a c T hn=>exact .slE a c T hn
 | errN=>exact .errN
 | errS t u=>exact .errS t u
 | sl b off cap T l us hF hcap hlen hc hr ih=>exact .sl b off cap T l us hF hcap (by rw [he]; exact hlen) hc (λj u c hu hcj=>ih j u c hu (by rw [<- he]; exact hcj))
 | fptr b off0 off T x us hF hlen hc hr ih=>exact .fptr b off0 off T x us hF (by rw [h]; exact hlen) hc (λj u c hu hcj=>ih j u c hu (by rw [<- h]; exact hcj))
 | bptr b off cs us hF hlen hc hr ih=>exact .bptr b off cs us hF hlen hc ih
 | agg vs cs hlen hr ih=>exact .agg vs cs hlen ih
 | fn f vs cs hlen hr ih=>exact .fn f vs cs hlen ih
theorem zbfu (h:cx'.ti=cx.ti) (T:Nat):zt cx' T=zt cx T:=by unfold zt; rw [h]
theorem zdp.cg (h:cx.Same0 cx') {v:Value} {T:Nat} {l:List (ty T)} (hr:zdp cx F w v T l):zdp cx' F w v T l:=by
 obtain ⟨xs,ho,ha⟩:=hr;refine ⟨xs,by rw [zbfu h.ti]; exact ho, ?_⟩
 have he:zcP cx' T l=zcP cx T l:=by unfold zcP; rw [h.enc]
 rw [he]; exact ha.imp λ_ _=>Rep.cg h.enc
theorem zkc.cg (h:cx.Same0 cx') {v:Value} {a:Arg ty} (hr:zkc cx F w v a):zkc cx' F w v a:=by
 cases a with
 | pure a=>exact Rep.cg h.enc hr
 | own T l=>exact ⟨zdp.cg h hr.1,hr.2⟩
theorem CxOK.cg (h:cx.Same0 cx') (hcx:CxOK P cx):CxOK P cx' where
 ti:=λT i hi=>hcx.ti T i (by rw [<- h.ti]; exact hi)
 len:=λT x=>by rw [h.enc,zbfu h.ti]; exact hcx.len T x
 cell:=λT x c hc=>hcx.cell T x c (by rw [<- h.enc]; exact hc)
 dec:=λT cs x hd F w us ha=>by
  have:=hcx.dec T cs x (by rw [<- h.dec]; exact hd) F w us (ha.imp λ_ _=>Rep.cg h.enc.symm)
  rw [h.enc]; exact this.imp λ_ _=>Rep.cg h.enc
 eqs:=λT xs ys r he=>hcx.eqs T xs ys r (by rw [<- h.eqs]; exact he)
 eqk:=λT us vs hu hv=>by rw [h.eqs] at hu hv ⊢; exact hcx.eqk T us vs hu hv
 eqr:=λT us b hu=>hcx.eqr T us b (by rw [<- h.eqs]; exact hu)
 stable:=λw w' hi hb=>by rw [h.inv] at hi ⊢; exact hcx.stable w w' hi (by rw [<- h.ng]; exact hb)
theorem SepW.cg {L:List Value} (h:cx.Same0 cx') (hs:SepW cx w L):SepW cx' w L:=⟨hs.sep,⟨by rw [h.inv]; exact hs.g.inv,by rw [h.ng]; exact hs.g.big,by rw [h.ng]; exact hs.g.size⟩⟩
theorem Post.cg (h:cx.Same0 cx') (hd:cx'.dr=true->cx.dr=true) {owns:List Value} {res:ARes ty} {v:Value} {w':World} (hp:Post cx F w owns res v w'):Post cx' F w owns res v w':=by
 obtain ⟨F',rs,h1,h2,h3,h4,h5,h6,h7,h8⟩:=hp.ok;refine ⟨F',rs,h1,{ h2 with drawn:=λe=>h2.drawn (hd e) },h3,h4,h5.imp λu c hr=> ?_,h6.imp λu c hr=> ?_,h7,h8⟩
 ·cases c with
  | pure a=>exact Rep.cg h.enc hr
  | own T l=>exact ⟨zdp.cg h hr.1,hr.2⟩
 ·cases c with
  | none=>trivial
  | some x=>exact ⟨zdp.cg h hr.1,hr.2⟩
theorem Sound.cg0 (h:cx.Same0 cx') (hd:cx'.dr=true->cx.dr=true) {f:Nat} {s:Spec ty} (hs:Sound P cx f s):Sound P cx' f s where
 enters:=hs.enters
 calls:=λas res hsp w F vs hF ha hsep=>(hs.calls as res hsp w F vs hF (ha.imp λ_ _=>zkc.cg h.symm) (hsep.cg h.symm)).mono λe w' ⟨v,he,hp⟩=>⟨v,he,hp.cg h hd⟩
theorem Sound.cg (h:cx.Same cx') {f:Nat} {s:Spec ty} (hs:Sound P cx f s):Sound P cx' f s:=hs.cg0 h.s λe=>h.dr ▸ e
theorem Sound.nodr {f:Nat} {s:Spec ty} (hs:Sound P cx f s):Sound P { cx with dr:=false } f s:=
 Sound.cg0 (cx:=cx) (cx':={ cx with dr:=false }) ⟨rfl,rfl,rfl,rfl,rfl,rfl⟩ (λe=>absurd e (by simp)) hs
end
structure VD (cx:Cx ty) (α:Type) where
 dec:AV ty->Option α
 enc:α->AV ty
 ok:∀ (P:Program),CxOK P cx->∀ (F:Nat->Prop) (w:World) (v:Value) (a:AV ty) (x:α),dec a=some x->Rep cx F w v a->Rep cx F w v (enc x)
structure VL (cx:Cx ty) (α:Type) where
 dec:List (AV ty)->Option α
 enc:α->List (AV ty)
 ok:∀ (P:Program),CxOK P cx->∀ (F:Nat->Prop) (w:World) (vs:List Value) (as:List (AV ty)) (x:α),dec as=some x->All2 (Rep cx F w) vs as->All2 (Rep cx F w) vs (enc x)
structure AD (cx:Cx ty) (α:Type) where
 dec:Arg ty->Option α
 enc:α->Arg ty
 ok:∀ (P:Program),CxOK P cx->∀ (F:Nat->Prop) (w:World) (v:Value) (a:Arg ty) (x:α),dec a=some x->zkc cx F w v a->zkc cx F w v (enc x)
 kind:∀ (vs:List Value) (a:Arg ty) (x:α) (r r':List (Arg ty)),dec a=some x->zbo vs.tail r=zbo vs.tail r'->zbo vs (a::r)=zbo vs (enc x::r')
structure AL (cx:Cx ty) (α:Type) where
 dec:List (Arg ty)->Option α
 enc:α->List (Arg ty)
 ok:∀ (P:Program),CxOK P cx->∀ (F:Nat->Prop) (w:World) (vs:List Value) (as:List (Arg ty)) (x:α),dec as=some x->All2 (zkc cx F w) vs as->All2 (zkc cx F w) vs (enc x)
 kind:∀ (vs:List Value) (as:List (Arg ty)) (x:α),dec as=some x->zbo vs as=zbo vs (enc x)
section
variable {cx:Cx ty} {α β:Type}
def zgS (k:IntKind):VD cx Int where
 dec:=λa=>match a with | .lit (.int k' n)=>if k'=k then some n else none | _=>none
 enc:=λn=>.lit (.int k n)
 ok:=λP hcx F w v a x h hr=>by
  split at h
  ·split at h
   ·rename_i hk; subst hk; simp only [q0] at h; subst h; exact hr
   ·cases h
  ·cases h
def zbnE:VD cx Bool where
 dec:=λa=>match a with | .lit (.bool b)=>some b | _=>none
 enc:=λb=>.lit (.bool b)
 ok:=λP hcx F w v a x h hr=>by
  split at h
  ·simp only [q0] at h; subst h; exact hr
  ·cases h
def zyP:VD cx ByteArray where
 dec:=λa=>match a with | .lit (.string s)=>some s | _=>none
 enc:=λs=>.lit (.string s)
 ok:=λP hcx F w v a x h hr=>by
  split at h
  ·simp only [q0] at h; subst h; exact hr
  ·cases h
def zbf1:VD cx Unit where
 dec:=λa=>match a with | .lit (.slice none 0 0)=>some () | _=>none
 enc:=λ_=>.lit (.slice none 0 0)
 ok:=λP hcx F w v a x h hr=>by
  split at h
  ·exact hr
  ·cases h
def vSl (T:Nat):VD cx (List (ty T)) where
 dec:=z7u T
 enc:=λl=>.sl T l
 ok:=λP hcx F w v a x h hr=>zLs hr h
def zb7 (T:Nat):VD cx (ty T) where
 dec:=λa=>match a with | .agg cs=>cx.dec T cs | _=>none
 enc:=λx=>.agg (cx.enc T x)
 ok:=λP hcx F w v a x h hr=>by
  split at h
  ·cases hr with
   | agg vs cs hlen hr=>
    have:=hcx.dec T _ x h F w vs ⟨hlen,hr⟩;exact .agg vs _ this.len this.at_
  ·cases h
def z8A (d:VL cx α):VD cx α where
 dec:=λa=>match a with | .bptr cs 0=>d.dec cs | _=>none
 enc:=λx=>.bptr (d.enc x) 0
 ok:=λP hcx F w v a x h hr=>by
  split at h
  ·cases hr with
   | bptr b off cs us hF hlen hc hr=>
    have:=d.ok P hcx F w us _ x h ⟨hlen,hr⟩;exact .bptr b 0 _ us hF this.len hc this.at_
  ·cases h
def z5q (T:Nat):VD cx (ty T) where
 dec:=λa=>match a with | .bptr cs 0=>cx.dec T cs | _=>none
 enc:=λx=>.bptr (cx.enc T x) 0
 ok:=λP hcx F w v a x h hr=>by
  split at h
  ·cases hr with
   | bptr b off cs us hF hlen hc hr=>
    have:=hcx.dec T _ x h F w us ⟨hlen,hr⟩;exact .bptr b 0 _ us hF this.len hc this.at_
  ·cases h
def vFn (f:Nat) (d:VL cx α):VD cx α where
 dec:=λa=>match a with | .fn g cs=>(match Nat.beq g f with | true=>d.dec cs | false=>none) | _=>none
 enc:=λx=>.fn f (d.enc x)
 ok:=λP hcx F w v a x h hr=>by
  split at h
  ·split at h
   ·rename_i hb;have hb:=qx hb;subst hb;cases hr with
    | fn f vs cs hlen hr=>
     have:=d.ok P hcx F w vs _ x h ⟨hlen,hr⟩;exact .fn _ vs _ this.len this.at_
   ·cases h
  ·cases h
def zdg:VL cx Unit where
 dec:=λas=>match as with | []=>some () | _=>none
 enc:=λ_=>[]
 ok:=λP hcx F w vs as x h hr=>by
  split at h
  ·exact hr
  ·cases h
def zAL (d:VD cx α) (r:VL cx β):VL cx (α×β) where
 dec:=λas=>match as with
  | a::as=>match d.dec a with
   | some x=>match r.dec as with
    | some y=>some (x,y)
    | none=>none
   | none=>none
  | _=>none
 enc:=λx=>d.enc x.1::r.enc x.2
 ok:=λP hcx F w vs as x h hr=>by
  split at h
  ·split at h
   ·rename_i x1 h1;split at h
    ·rename_i y h2;simp only [q0] at h; subst h;obtain ⟨u,us,rfl,hu,hus⟩:=hr.inv;exact .cons (d.ok P hcx F w u _ x1 h1 hu) (r.ok P hcx F w us _ y h2 hus)
    ·cases h
   ·cases h
  ·cases h
def ze (d:VD cx α):AD cx α where
 dec:=λa=>match a with | .pure a=>d.dec a | _=>none
 enc:=λx=>.pure (d.enc x)
 ok:=λP hcx F w v a x h hr=>by
  split at h
  ·exact d.ok P hcx F w v _ x h hr
  ·cases h
 kind:=λvs a x r r' h hr=>by
  split at h
  ·cases vs with
   | nil=>rfl
   | cons v vs=>simpa [zbo] using hr
  ·cases h
def zsC (T:Nat):AD cx (List (ty T)) where
 dec:=λa=>match a with | .own T' l=>zCD T' T l | _=>none
 enc:=λl=>.own T l
 ok:=λP hcx F w v a x h hr=>by
  split at h
  ·obtain ⟨rfl,rfl⟩:=zAP h;exact hr
  ·cases h
 kind:=λvs a x r r' h hr=>by
  split at h
  ·cases vs with
   | nil=>rfl
   | cons v vs=>simpa [zbo] using hr
  ·cases h
def zp:AL cx Unit where
 dec:=λas=>match as with | []=>some () | _=>none
 enc:=λ_=>[]
 ok:=λP hcx F w vs as x h hr=>by
  split at h
  ·exact hr
  ·cases h
 kind:=λvs as x h=>by
  split at h
  ·rfl
  ·cases h
def zd (d:AD cx α) (r:AL cx β):AL cx (α×β) where
 dec:=λas=>match as with
  | a::as=>match d.dec a with
   | some x=>match r.dec as with
    | some y=>some (x,y)
    | none=>none
   | none=>none
  | _=>none
 enc:=λx=>d.enc x.1::r.enc x.2
 ok:=λP hcx F w vs as x h hr=>by
  split at h
  ·split at h
   ·rename_i x1 h1;split at h
    ·rename_i y h2;simp only [q0] at h; subst h;obtain ⟨u,us,rfl,hu,hus⟩:=hr.inv;exact .cons (d.ok P hcx F w u _ x1 h1 hu) (r.ok P hcx F w us _ y h2 hus)
    ·cases h
   ·cases h
  ·cases h
 kind:=λvs as x h=>by
  split at h
  ·split at h
   ·rename_i x1 h1;split at h
    ·rename_i y h2;simp only [q0] at h; subst h;exact d.kind vs _ x1 _ _ h1 (r.kind vs.tail _ y h2)
    ·cases h
   ·cases h
  ·cases h
def zh (A:AL cx α) (G:α->Bool×ARes ty):Spec ty:=λas=>match A.dec as with
 | some x=>some (G x)
 | none=>none
theorem zbdm {P:Program} {cx':Cx ty} {ρ:Type} (hm:P.follows .mixedOrders=true) (hcx:CxOK P cx) (hsame:cx.Same cx') (hspec:∀ g s,cx'.spec g=some s->Sound P cx g s)
  {f:Nat} {fn:Func} {c:Code} (hent:∀ args w,(callFunc f args).run P w=.ok (.enter f args) w) (hf:P.funcs[f]? =some fn) (hb:fn.body=some c) (hl:ziV cx' c) {sg:Sig} {A:AL cx α} {res:ρ->ARes ty} {F:α->Bool×ρ}
  (hrun:∀ x,zeQ cx' fn c sg (A.enc x)=out (λr=>some (res r)) (F x))
  (hchk:∀ x,(Nat.ble (A.enc x).length fn.ntmps&&zNg c (A.enc x) sg.upd)=true):
  Sound P cx f (zh A λx=>((F x).1,res (F x).2)) where
 enters:=hent
 calls:=λas r hs w F' vs hF ha hsep=>by
  unfold zh at hs;split at hs
  ·rename_i x hx;simp only [q0,qe] at hs;obtain ⟨hpre,rfl⟩:=hs;have hk:=A.kind vs as x hx;have hr:zeQ cx' fn c sg (A.enc x)=some (res (F x).2):=by rw [hrun]; unfold out; rw [hpre]; rfl
   have hc:=hchk x;simp only [qa] at hc;have:=z2v hm (hcx.cg hsame.s) (λg s hg=>(hspec g s hg).cg hsame) hf hb hl hr hc.1 hc.2 w F' vs hF ((A.ok P hcx F' w vs as x hx ha).imp λ_ _=>zkc.cg hsame.s) ((hk ▸ hsep).cg hsame.s)
   refine this.mono λe w' ⟨v,he,hp⟩=>⟨v,he, ?_⟩
   rw [hk]; exact hp.cg hsame.s.symm λe=>hsame.dr ▸ e
  ·cases hs
end
structure LD (ty:Nat->Type) (α:Type) where
 dec:AV ty->Option α
 enc:α->AV ty
 ok:∀ a x,dec a=some x->a=enc x
structure LL (ty:Nat->Type) (α:Type) where
 dec:List (AV ty)->Option α
 enc:α->List (AV ty)
 ok:∀ a x,dec a=some x->a=enc x
structure BL (ty:Nat->Type) (α:Type) where
 dec:List (Blk ty)->Option α
 enc:α->List (Blk ty)
 ok:∀ a x,dec a=some x->a=enc x
section
variable {α β:Type}
def zL (k:IntKind):LD ty Int where
 dec:=λa=>match a with | .lit (.int k' n)=>if k'=k then some n else none | _=>none
 enc:=λn=>.lit (.int k n)
 ok:=λa x h=>by
  split at h
  ·split at h
   ·rename_i hk; subst hk; simp only [q0] at h; subst h; rfl
   ·cases h
  ·cases h
def zoZ:LD ty ByteArray where
 dec:=λa=>match a with | .lit (.string s)=>some s | _=>none
 enc:=λs=>.lit (.string s)
 ok:=λa x h=>by
  split at h
  ·simp only [q0] at h; subst h; rfl
  ·cases h
def zJF:LD ty Unit where
 dec:=λa=>match a with | .lit (.slice none 0 0)=>some () | _=>none
 enc:=λ_=>.lit (.slice none 0 0)
 ok:=λa x h=>by
  split at h
  ·rfl
  ·cases h
def lSl (T:Nat):LD ty (List (ty T)) where
 dec:=λa=>match a with | .sl T' l=>zCD T' T l | _=>none
 enc:=λl=>.sl T l
 ok:=λa x h=>by
  split at h
  ·obtain ⟨rfl,rfl⟩:=zAP h; rfl
  ·cases h
def zeD (id:Nat):LD ty Unit where
 dec:=λa=>match a with | .own j=>(match Nat.beq j id with | true=>some () | false=>none) | _=>none
 enc:=λ_=>.own id
 ok:=λa x h=>by
  split at h
  ·split at h
   ·rename_i hb; rw [qx hb]
   ·cases h
  ·cases h
def lMp (id:Nat):LD ty Unit where
 dec:=λa=>match a with | .mp j=>(match Nat.beq j id with | true=>some () | false=>none) | _=>none
 enc:=λ_=>.mp id
 ok:=λa x h=>by
  split at h
  ·split at h
   ·rename_i hb; rw [qx hb]
   ·cases h
  ·cases h
def zcm (id off:Nat):LD ty Unit where
 dec:=λa=>match a with | .ptr j o=>(match Nat.beq j id&&Nat.beq o off with | true=>some () | false=>none) | _=>none
 enc:=λ_=>.ptr id off
 ok:=λa x h=>by
  split at h
  ·split at h
   ·rename_i hb; rw [qa] at hb; rw [qx hb.1,qx hb.2]
   ·cases h
  ·cases h
def zIK (d:LL ty α) (off:Nat):LD ty α where
 dec:=λa=>match a with | .bptr cs o=>(match Nat.beq o off with | true=>d.dec cs | false=>none) | _=>none
 enc:=λx=>.bptr (d.enc x) off
 ok:=λa x h=>by
  split at h
  ·split at h
   ·rename_i hb; rw [qx hb,d.ok _ _ h]
   ·cases h
  ·cases h
def zdi (f:α->β) (g:β->α) (hgf:∀ x,g (f x)=x) (d:LL ty α):LL ty β where
 dec:=λas=>match d.dec as with
  | some x=>some (f x)
  | none=>none
 enc:=λy=>d.enc (g y)
 ok:=λa x h=>by
  split at h
  ·rename_i y hy;simp only [q0] at h; subst h;rw [hgf,d.ok _ _ hy]
  ·cases h
def isL {α β:Type}:α⊕β->Bool
 | .inl _=>true
 | .inr _=>false
def getL {α β:Type} [Inhabited α]:α⊕β->α
 | .inl a=>a
 | .inr _=>default
def getR {α β:Type} [Inhabited β]:α⊕β->β
 | .inl _=>default
 | .inr b=>b
def lFn (f:Nat) (d:LL ty α):LD ty α where
 dec:=λa=>match a with | .fn g cs=>(match Nat.beq g f with | true=>d.dec cs | false=>none) | _=>none
 enc:=λx=>.fn f (d.enc x)
 ok:=λa x h=>by
  split at h
  ·split at h
   ·rename_i hb; rw [qx hb,d.ok _ _ h]
   ·cases h
  ·cases h
def zk:LL ty Unit where
 dec:=λas=>match as with | []=>some () | _=>none
 enc:=λ_=>[]
 ok:=λa x h=>by
  split at h
  ·rfl
  ·cases h
def za (d:LD ty α) (r:LL ty β):LL ty (α×β) where
 dec:=λas=>match as with
  | a::as=>match d.dec a with
   | some x=>match r.dec as with
    | some y=>some (x,y)
    | none=>none
   | none=>none
  | _=>none
 enc:=λx=>d.enc x.1::r.enc x.2
 ok:=λa x h=>by
  split at h
  ·split at h
   ·rename_i x1 h1;split at h
    ·rename_i y h2;simp only [q0] at h; subst h;rw [d.ok _ _ h1,r.ok _ _ h2]
    ·cases h
   ·cases h
  ·cases h
def zY:BL ty Unit where
 dec:=λas=>match as with | []=>some () | _=>none
 enc:=λ_=>[]
 ok:=λa x h=>by
  split at h
  ·rfl
  ·cases h
def zbgc (V V':Nat) (l:List (Value×ty V)):Option (List (Value×ty V')):=if h:V=V' then some (h ▸ l) else none
theorem zbg3 {V V':Nat} {l:List (Value×ty V)} {l':List (Value×ty V')} (h:zbgc V V' l=some l'):∃ e:V=V',e ▸ l=l':=by
 unfold zbgc at h;split at h
 ·rename_i e; exact ⟨e,q26 h⟩
 ·cases h
def bMp (K V:Nat) (fz:Bool) (r:BL ty β):BL ty (List (Value×ty V)×β) where
 dec:=λas=>match as with
  | .mp K' V' l fz'::as=>match Nat.beq K' K,zbgc V' V l,r.dec as with
   | true,some l,some y=>if fz'=fz then some (l,y) else none
   | _,_,_=>none
  | _=>none
 enc:=λx=>.mp K V x.1 fz::r.enc x.2
 ok:=λa x h=>by
  split at h
  ·split at h
   ·rename_i hk hl h2;split at h
    ·rename_i hfz;simp only [q0] at h; subst h;obtain ⟨rfl,rfl⟩:=zbg3 hl;rw [qx hk,hfz,r.ok _ _ h2]
    ·cases h
   ·cases h
  ·cases h
def zeG (T:Nat) (fz:Bool) (r:BL ty β):BL ty (List (ty T)×β) where
 dec:=λas=>match as with
  | .arr T' l fz'::as=>match zCD T' T l with
   | some l=>match r.dec as with
    | some y=>if fz'=fz then some (l,y) else none
    | none=>none
   | none=>none
  | _=>none
 enc:=λx=>.arr T x.1 fz::r.enc x.2
 ok:=λa x h=>by
  split at h
  ·split at h
   ·rename_i l hl;split at h
    ·rename_i y h2;split at h
     ·rename_i hfz;simp only [q0] at h; subst h; subst hfz;obtain ⟨rfl,rfl⟩:=zAP hl;rw [r.ok _ _ h2]
     ·cases h
    ·cases h
   ·cases h
  ·cases h
def zdx (d:LL ty α) (fz:Bool) (r:BL ty β):BL ty (α×β) where
 dec:=λas=>match as with
  | .box cs fz'::as=>match d.dec cs with
   | some x=>match r.dec as with
    | some y=>if fz'=fz then some (x,y) else none
    | none=>none
   | none=>none
  | _=>none
 enc:=λx=>.box (d.enc x.1) fz::r.enc x.2
 ok:=λa x h=>by
  split at h
  ·split at h
   ·rename_i l hl;split at h
    ·rename_i y h2;split at h
     ·rename_i hfz;simp only [q0] at h; subst h; subst hfz;rw [r.ok _ _ h2,d.ok _ _ hl]
     ·cases h
    ·cases h
   ·cases h
  ·cases h
def z5u (V:LL ty α) (B:BL ty β) (G:α->β->Bool×LTree ty):zAR ty:=λvals bs=>match V.dec vals with
 | some x=>match B.dec bs with
  | some y=>some (G x y)
  | none=>none
 | none=>none
theorem zbhe {cx:Cx ty} {c:Code} {V:LL ty α} {B:BL ty β} {ρ:Type} {tr:ρ->LTree ty} {L:Nat->α->β->Bool×ρ} {m:α->β->Nat}
  (h:∀ (R:Type) (K:Ex->List (AV ty)->List (Blk ty)->Option R) n x y,zUa cx c K n (V.enc x) (B.enc y)=out (λr=>zy0 K (tr r)) (L n x y)):
  ∀ vals bs t,z5u V B (λx y=>((L (m x y) x y).1,tr (L (m x y) x y).2)) vals bs=some (true,t)->zEI cx c vals bs t:=by
 intro vals bs t ht;unfold z5u at ht;split at ht
 ·rename_i x hx;split at ht
  ·rename_i y hy;simp only [q0,qe] at ht;obtain ⟨h1,rfl⟩:=ht;rw [V.ok _ _ hx,B.ok _ _ hy];refine ⟨m x y,λR K=> ?_⟩
   rw [h R K]; unfold out; rw [h1]; rfl
  ·cases ht
 ·cases ht
end
def zbne:Ex->Nat
 | .ret=>0
 | .exit j=>j+1
 | .normal=>0
def zbj4:List (Nat×Nat×List (Nat×LMode))->Nat->Ex->List (Nat×LMode)
 | [],_,_=>[]
 | (i,k,l)::r,j,ex=>match Nat.beq i j&&Nat.beq k (zbne ex) with
  | true=>l
  | false=>zbj4 r j ex
def zh2:Code->List Code
 | .seq a b=>zh2 a++zh2 b
 | .cond _ a b=>zh2 a++zh2 b
 | .block _ c=>zh2 c
 | .loop c=>c::zh2 c
 | .scope c=>zh2 c
 | _=>[]
def All {α:Type} (Q:α->Prop):List α->Prop
 | []=>True
 | x::r=>Q x/\All Q r
def body (f:Func):Code:=f.body.getD .skip
def lp (c:Code) (i:Nat):Code:=(zh2 c).getD i .skip
def zC (cx:Cx ty) (c:Code):Prop:=∀ sp,cx.loops (zcf c)=some sp->∀ vals bs t,sp vals bs=some (true,t)->zEI cx c vals bs t
theorem All.mem {α:Type} {Q:α->Prop}:∀ {l:List α},All Q l->∀ x∈l,Q x
 | [],_,x,h=>by cases h
 | y::r,h,x,hx=>by
  rcases q8.1 hx with rfl | hx
  ·exact h.1
  ·exact All.mem h.2 x hx
def zjK:Code->List Code
 | .seq a b=>b::(zjK a++zjK b)
 | .cond _ a b=>zjK a++zjK b
 | .block _ c=>zjK c
 | .loop c=>zjK c
 | .scope c=>zjK c
 | _=>[]
def zM2 (cx:Cx ty) (c:Code):Prop:=∀ sp,cx.joins (zcf c)=some sp->∀ vals bs t,sp vals bs=some (true,t)->zbhX cx c vals bs t
theorem znk (cx:Cx ty):∀ (c:Code),(∀ x∈zh2 c,zC cx x)->(∀ x∈zjK c,zM2 cx x)->ziV cx c
 | .seq a b,h,g=>⟨znk cx a (λx hx=>h x (by simp [zh2,hx])) λx hx=>g x (by simp [zjK,hx]),znk cx b (λx hx=>h x (by simp [zh2,hx])) λx hx=>g x (by simp [zjK,hx]),g b (by simp [zjK])⟩
 | .cond _ a b,h,g=>⟨znk cx a (λx hx=>h x (by simp [zh2,hx])) λx hx=>g x (by simp [zjK,hx]),znk cx b (λx hx=>h x (by simp [zh2,hx])) λx hx=>g x (by simp [zjK,hx])⟩
 | .block _ c,h,g=>znk cx c (λx hx=>h x (by simpa [zh2] using hx)) λx hx=>g x (by simpa [zjK] using hx)
 | .loop c,h,g=>⟨znk cx c (λx hx=>h x (by simp [zh2,hx])) λx hx=>g x (by simpa [zjK] using hx),h c (by simp [zh2])⟩
 | .skip,_,_=>trivial
 | .region ..,_,_=>trivial
 | .exit _,_,_=>trivial
 | .ret,_,_=>trivial
 | .label _,_,_=>trivial
 | .goto _,_,_=>trivial
 | .scope c,h,g=>znk cx c (λx hx=>h x (by simpa [zh2] using hx)) λx hx=>g x (by simpa [zjK] using hx)
 | .rangeFunc ..,_,_=>trivial
 | .refuse _,_,_=>trivial
theorem ztx {cx:Cx ty} {c:Code} {l:List Code} (h:zh2 c=l) (ha:All (zC cx) l) (hj:∀ i,cx.joins i=none:=by intro _; rfl):ziV cx c:=znk cx c (λx hx=>All.mem ha x (h ▸ hx)) λx _ sp hs=>by rw [hj] at hs; cases hs
theorem zba4 {cx:Cx ty} {c:Code} {l js:List Code} (h:zh2 c=l) (ha:All (zC cx) l) (hj:(zjK c).filter (λx=>(cx.joins (zcf x)).isSome)=js) (hb:All (zM2 cx) js):ziV cx c:=
 znk cx c (λx hx=>All.mem ha x (h ▸ hx)) λx hx sp hs=>All.mem hb x (hj ▸ q2z.2 ⟨hx,by rw [hs]; rfl⟩) sp hs
def jn (c:Code) (i:Nat):Code:=((zjK c).filter λx=>Nat.beq (zcf x) i).getD 0 .skip
theorem zbhl {cx:Cx ty} {c:Code} {id:Nat} {sp:zAR ty} (hid:zcf c=id) (hl:cx.loops id=some sp) (h:∀ vals bs t,sp vals bs=some (true,t)->zEI cx c vals bs t):zC cx c:=by
 intro sp' hs;rw [hid,hl] at hs;obtain rfl:=q26 hs;exact h
theorem zbl {P:Program} {cx:Cx ty} {α:Type} {f:Nat} {A:AL cx α} {G:α->Bool×ARes ty} (hent:∀ args w,(callFunc f args).run P w=.ok (.enter f args) w) (h:∀ x,(G x).1=false):Sound P cx f (zh A G) where
 enters:=hent
 calls:=λas r hs=>by
  unfold zh at hs;split at hs
  ·rename_i x hx;simp only [q0] at hs;have:=h x;rw [hs] at this; cases this
  ·cases hs
theorem zbfi {P:Program} {cx:Cx ty} (l:List (Nat×Spec ty)) (h:All (λp=>Sound P cx p.1 p.2) l):∀ g s,l.lookup g=some s->Sound P cx g s:=by
 induction l with
 | nil=>intro g s h; simp at h
 | cons p r ih=>
  intro g s hg;obtain ⟨f0,s0⟩:=p;simp only [List.lookup_cons] at hg;split at hg
  ·rename_i hb;have:=beq_iff_eq.1 hb;simp only [q0] at hg;subst this hg;exact h.1
  ·exact ih h.2 g s hg
end
end Go.Ab
