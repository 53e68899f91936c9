/- Texts of this claim, joined (an interpreter of the code over typed data, and its soundness). -/
import Derived.Scope
import Derived.Laws.Sem
import Derived.Test.YtnolcogncjijpaaGreatDoorGA1
set_option autoImplicit false
set_option linter.unusedVariables false
set_option linter.unusedSectionVars false
set_option linter.unusedSimpArgs false
/- Contracts of functions over abstract values, and a call against the machine's. -/
namespace Go.Ab
noncomputable section
variable {ty:Nat->Type}
section
variable {P:Program} {cx:Cx ty} {e:Env} {st:St ty} {κ:Nat->Value} {a:Act} {w:World} {o:Oper} {d:Delta ty} {Q:Exit->Act->World->Prop}
theorem zWr {S:Value->AV ty->Prop} (hcx:CxOK P cx) {el lo n:Nat} {l:List (ty el)} {z:ty el} {xs zs:List Value} (h:All2 S xs (zcc cx el l)) (hz:All2 S zs (zcc cx el (List.replicate n z))) (hl:zs.length=n*zl cx el):
  All2 S (xs.take (lo*zl cx el)++zs++xs.drop (lo*zl cx el+zs.length)) (zcc cx el (l.take lo++List.replicate n z++l.drop (lo+n))):=by
 have m1:(lo+n)*zl cx el=lo*zl cx el+n*zl cx el:=Nat.add_mul _ _ _;unfold zcc;rw [List.flatMap_append,List.flatMap_append,zvF _ _ (hcx.len el),zqU _ _ (hcx.len el),hl, <- m1];exact ((h.take _).append hz).append (h.drop _)
theorem zYK {args:Array Operand} {ts:Array TypeId} (hcx:CxOK P cx) (ho:o.op=.call { callee:=.builtin .clear,args:=args,argTypes:=ts }) (h:aop cx o st=some d) (hf:RF cx e st κ a w):o.wp P a w (λa' w'=>R cx e (st.app o.dst d) a' w') Q:=by
 unfold aop zdW at h;simp only [ho] at h;have hall:=zrd hf args.toList;have hex:=zqj (a:=a) ho;unfold zgj at h;generalize hts:ts.toList=tl at h;generalize hvs:args.toList.map st.ev=vl at h hall
 match tl,vl,h,hall with
 | [T],[.sub id lo n],h,hall=>
  obtain ⟨u,us',hus,hu,h'⟩:=hall.inv;have h20:us'=[]:=h'.nil_left.1;subst h20;simp only at h;split at h
  ·rename_i el sz bz zz T' l hT hbl;have hund:=zhn hcx hT;split at h
   ·rename_i inf heT hinf;have heT:el=T':=Nat.eq_of_beq_eq_true heT;subst heT;split at h
    ·cases h
    ·rename_i z hdec;obtain ⟨hb,h⟩:=zdR h;simp only [qe] at hb;simp only [qa] at h; subst h;have hts':ts=#[T]:=by apply Array.ext'; exact hts
     have hargs:args.map a.eval=#[u]:=by apply Array.ext'; rw [Array.toList_map]; exact hus
     have run:∀ w',(Builtin.clear_ #[T] o.type #[u]).run P w=.ok (.tuple #[]) w'->(execOp a.eval o).run P w=.ok (.value (.tuple #[])) w':=by
      intro w' hv';rw [hex,hts',hargs];simp only [builtin,Sem.run_bind,hv',Result.andThen_ok,Sem.run_pure]
     have hbl0:(gD .none st.blks id)=.arr el l false:=hbl;obtain ⟨info,desc,zv,hi,hu2,hs,hbb,hz,hzc,hzl,hz1,hd⟩:=(hcx.ti el _ hinf).ok;have hk:zl cx el=inf.size:=by simp [zl,hinf]
     have hzs:zv.cells.size=inf.size:=by rw [<- Array.length_toList,hzc,hzl]
     have hll:(l.take lo++List.replicate n z++l.drop (lo+n)).length=l.length:=by simp; omega
     have hkd:(Blk.arr el (l.take lo++List.replicate n z++l.drop (lo+n)) false:Blk ty).kind cx=((gD .none st.blks id)).kind cx:=by rw [hbl0]; simp only [Blk.kind,hll]
     -- nothing is written
     have same:n=0->(Builtin.clear_ #[T] o.type #[u]).run P w=.ok (.tuple #[]) w->o.wp P a w (λa' w'=>R cx e (st.app o.dst { val:=.dead,wr:=[(id,.arr el (l.take lo++List.replicate n z++l.drop (lo+n)) false)] }) a' w') Q:=by
      intro hn hrun
      have hst:=zx8 (B:=st.blks) (κ:=κ) (w:=w) (w':=w) (nb:=.arr el (l.take lo++List.replicate n z++l.drop (lo+n)) false) hf.rb (n:=id) (by rw [hbl0]; rfl) hkd rfl rfl rfl rfl (λ_ _=>.inl rfl)
       (λhc=>by
        have e1:l.take lo++List.replicate n z++l.drop (lo+n)=l:=by rw [hn]; simp
        have h1:∀ F' w',zcn cx F' w' (κ id) el l->zcn cx F' w' (κ id) el (l.take lo++List.replicate n z++l.drop (lo+n)):=λF' w' h=>by rw [e1]; exact h
        obtain ⟨xs,hown,ha⟩:=hf.rb.row hbl;exact h1 _ _ ⟨xs,hown,ha.imp λ_ _ h=>(hc.rep' h)⟩)
      refine zW (run w hrun) ⟨κ,hf.put ?_ ?_ (λ_=>.dead _)⟩
      ·rw [zcP]; exact hst.1
      ·rw [zcP]; exact hst.2
     cases hu with
     | rep hu=>cases hu
     | sub _ _ _ _ k m hk' hlm hv=>
      rcases zvU (hf.rb.row hbl) with ⟨hκ,hl0⟩ | ⟨g,cap,hκ,hcap⟩
      ·rw [hκ] at hv;unfold zk1 at hv;obtain ⟨b,c,rfl,hn,_⟩:=hv;subst hn;refine same rfl ?_;cases b <;>simp [Builtin.clear_,zcR hund]
      ·rw [hκ] at hv;unfold zk1 at hv;rcases hv with rfl | ⟨hn,_,b,c,rfl,_⟩
       ·by_cases hn:n=0
        ·subst hn;exact same rfl (by simp [Builtin.clear_,zcR hund])
        ·have hrow:=hf.rb.row hbl;rw [hκ] at hrow;obtain ⟨xs,hown,ha⟩:=hrow;simp only [hbl,Blk.kind,Kind.arr.injEq] at hk';obtain ⟨rfl,rfl⟩:=hk';rcases hown.2 with ⟨hbad,_⟩ | ⟨g2,cap2,cur,hv2,_,hg,hnc,hcm,hcs,htake⟩
         ·simp at hbad
         ·simp only [Value.slice.injEq,qa,Addr.mk.injEq,and_true,true_and] at hv2;obtain ⟨rfl,rfl⟩:=hv2;have hxl:xs.length=l.length*zl cx el:=hown.1;have hmk:(Builtin.zeroCells zv.cells n)=madeCells zv.cells (n*zl cx el):=by rw [hk, <- hzs]; rfl
          have hms:(madeCells zv.cells (n*zl cx el)).toList.length=n*zl cx el:=size_madeCells _ _;have m1:(lo+n)*zl cx el=lo*zl cx el+n*zl cx el:=Nat.add_mul _ _ _;have m2:(lo+n)*zl cx el<=l.length*zl cx el:=Nat.mul_le_mul_right _ hb;have m3:l.length*zl cx el<=cap*zl cx el:=Nat.mul_le_mul_right _ hnc
          have hzr:All2 (Rep cx (Fz e st.blk κ w) w) (madeCells zv.cells (n*zl cx el)).toList (zcc cx el (List.replicate n z)):=by
           have:=zPE (n:=n) (c:=n) hcx hk hzs (zPU (F:=Fz e st.blk κ w) (w:=w) hcx hzc hdec) (Nat.le_refl _);rw [<- hk,List.take_of_length_le (by rw [hms]; exact Nat.le_refl _)] at this
           exact this
          have hcl:cur.toList.length=cur.size:=rfl;have hsto:=run_storeCells_at P g (lo*zl cx el) el (madeCells zv.cells (n*zl cx el)).toList 0 cur w hg (by omega) (zPL hcx hzr)
          simp only [Nat.add_zero] at hsto
          have hst:=zx8 (B:=st.blks) (κ:=κ) (w:=w) (w':=w.setRow g (cur.toList.take (lo*zl cx el)++(madeCells zv.cells (n*zl cx el)).toList++cur.toList.drop (lo*zl cx el+(madeCells zv.cells (n*zl cx el)).toList.length)).toArray)
           (nb:=.arr el (l.take lo++List.replicate n z++l.drop (lo+n)) false) hf.rb (n:=id) (by rw [hbl0]; rfl) hkd rfl rfl rfl (by simp)
           (λb2 _=>by
            rcases zuB (w:=w) g b2 (cur.toList.take (lo*zl cx el)++(madeCells zv.cells (n*zl cx el)).toList++cur.toList.drop (lo*zl cx el+(madeCells zv.cells (n*zl cx el)).toList.length)).toArray with h' | h'
            ·exact .inl h'
            ·subst h'; exact .inr (by rw [hκ]; rfl))
           (λhc=>by
            rw [hκ];refine ⟨xs.take (lo*zl cx el)++(madeCells zv.cells (n*zl cx el)).toList++xs.drop (lo*zl cx el+(madeCells zv.cells (n*zl cx el)).toList.length),⟨?_,.inr ⟨g,cap,_,by rw [hll],Nat.zero_le _,setRow_heap w g cur _ el _ hg,by rw [hll]; exact hnc,hcm, ?_, ?_⟩⟩, ?_⟩
            ·rw [hll,qg,qg,List.length_take,List.length_drop,hms]; omega
            ·simp only [List.size_toArray,qg,List.length_take,List.length_drop,hms]; omega
            ·have ht:=zO1 cur.toList (madeCells zv.cells (n*zl cx el)).toList (lo*zl cx el) (l.length*zl cx el) (by omega) (by omega)
             rw [htake] at ht;rw [hll]
             simpa only [List.toList_toArray] using ht
            ·exact zWr hcx (ha.imp λ_ _ h=>hc.rep' h) (hzr.imp λ_ _ h=>hc.rep' h) hms)
          refine zW (run (w.setRow g (cur.toList.take (lo*zl cx el)++(madeCells zv.cells (n*zl cx el)).toList++cur.toList.drop (lo*zl cx el+(madeCells zv.cells (n*zl cx el)).toList.length)).toArray) ?_) ⟨κ,hf.put ?_ ?_ (λ_=>.dead _)⟩
          ·rw [zer,Nat.zero_add];obtain ⟨n',rfl⟩:∃ n',n=n'+1:=⟨n - 1,by omega⟩
           simp only [Builtin.clear_,List.getElem?_toArray,List.getElem?_cons_zero,Sem.run_bind,zcR hund,Result.andThen_ok,zDB hi hz,hmk,hsto,Sem.run_pure]
          ·rw [zcP]; exact hst.1
          ·rw [zcP]; exact hst.2
       ·subst hn;refine same rfl ?_;cases b <;>simp [Builtin.clear_,zcR hund]
     | subD _ _ _ _ hk'=>simp [hbl,Blk.kind] at hk'
   ·cases h
  ·cases h
end
def zw1:List Value->Value
 | [v]=>v
 | vs=>.tuple vs.toArray
def zim (cx:Cx ty) (F:Nat->Prop) (w:World) (v:Value):Arg ty->Prop
 | .pure a=>Rep cx F w v a
 | .own T l=>zcn cx F w v T l/\∀ b,zS v=some b->¬ F b
def zbc:List Value->List (Arg ty)->List Value
 | v::vs,.own _ _::as=>v::zbc vs as
 | _::vs,.pure _::as=>zbc vs as
 | _,_=>[]
def zZd (L:List Value):Prop:=∀ (i j:Nat) u v b,L[i]? =some u->L[j]? =some v->zS u=some b->zS v=some b->i=j
def zRO (cx:Cx ty) (F:Nat->Prop) (w w':World) (OP:Nat->Prop) (v:Value):RV ty->Prop
 | .pure a=>Rep cx F w' v a
 | .own T l=>zcn cx F w' v T l/\∀ b,zS v=some b->¬ F b/\(OP b\/w.heap.size<=b)
def zZe (cx:Cx ty) (F:Nat->Prop) (w':World) (v:Value):Option ((T:Nat)×List (ty T))->Prop
 | none=>True
 | some x=>zcn cx F w' v x.1 x.2/\∀ b,zS v=some b->¬ F b
def zkl (L:List Value) (b:Nat):Prop:=∃ v∈L,zS v=some b
structure SepW (cx:Cx ty) (w:World) (L:List Value):Prop where
 sep:zZd L
 g:GOK cx w (zkl L)
structure Post (cx:Cx ty) (F:Nat->Prop) (w:World) (owns:List Value) (res:ARes ty) (v:Value) (w':World):Prop where
 ok:∃ (F':Nat->Prop) (rs:List Value),v=zw1 rs/\Kept cx.dr (zkl owns) w w'/\(∀ b,F b->F' b)/\(∀ b,F' b->b<w'.heap.size/\(F b\/zkl owns b\/w.heap.size<=b))/\
  All2 (zRO cx F' w w' (zkl owns)) rs res.vals/\All2 (zZe cx F' w') owns res.upd/\
  (∀ (i j:Nat) T l T' l' u v b,res.vals[i]? =some (.own T l)->res.vals[j]? =some (.own T' l')->rs[i]? =some u->rs[j]? =some v->zS u=some b->zS v=some b->i=j)/\
  (∀ (i m:Nat) T l x u v b,res.vals[i]? =some (.own T l)->res.upd[m]? =some (some x)->rs[i]? =some u->owns[m]? =some v->zS u=some b->zS v≠some b)
structure Sound (P:Program) (cx:Cx ty) (f:Nat) (s:Spec ty):Prop where
 enters:∀ args w,(callFunc f args).run P w=.ok (.enter f args) w
 calls:∀ as res,s as=some (true,res)->∀ (w:World) (F:Nat->Prop) (vs:List Value),(∀ b,F b->b<w.heap.size)->All2 (zim cx F w) vs as->SepW cx w (zbc vs as)->
  Calls P f vs.toArray w λe w'=>∃ v,e=.returned v/\Post cx F w (zbc vs as) res v w'
section
variable {P:Program} {cx:Cx ty} {e:Env} {st:St ty} {κ:Nat->Value} {a:Act} {w:World} {o:Oper} {d:Delta ty} {Q:Exit->Act->World->Prop}
theorem zBY {F:Nat->Prop} {T:Nat} {v:Value} {av:AV ty} {l:List (ty T)} (hr:Rep cx F w v av) (h:zSi T av=some l):Rep cx F w v (.sl T l):=by
 unfold zSi at h;split at h
 ·rename_i T' l';obtain ⟨rfl,rfl⟩:=zrA h;exact hr
 ·simp only [qa] at h; subst h;cases hr;exact .slE none 0 T (λ_=>rfl)
 ·cases h
theorem zVf (hcx:CxOK P cx) {F:Nat->Prop} {T:Nat} {v:Value} {av av':AV ty} (hr:Rep cx F w v av) (h:zUs cx T av=some av'):Rep cx F w v av':=by
 unfold zUs at h;split at h
 ·split at h
  ·rename_i l hl;simp only [qa] at h; subst h;exact zBY hr hl
  ·cases h
 ·split at h
  ·rename_i cs;split at h
   ·rename_i x hx;simp only [qa] at h; subst h;cases hr with
    | agg vs _ hlen hr=>
     have:=hcx.dec T cs x hx F w vs ⟨hlen,hr⟩;exact .agg vs _ this.len this.at_
   ·cases h
  ·cases h
 ·simp only [qa] at h; subst h; exact hr
theorem zNl (hcx:CxOK P cx) {F:Nat->Prop} {T:Option Nat} {v:Value} {av av':AV ty} (hr:Rep cx F w v av) (h:zQN cx T av=some av'):Rep cx F w v av':=by
 cases T with
 | none=>simp only [zQN,qa] at h; subst h; exact hr
 | some T=>exact zVf hcx hr h
theorem zNK (hrb:RB cx e st.blk κ w) {v:Value} {id T:Nat} {l:List (ty T)} {fz:Bool} (hr:zeE cx e st κ w v (.own id)) (hb:st.blk id=.arr T l fz):v=κ id:=by
 cases hr with
 | rep hr=>cases hr
 | own=>rfl
 | ownD _ _ hk=>simp [hb,Blk.kind] at hk
theorem zva (hcx:CxOK P cx) (hrb:RB cx e st.blk κ w) {F1:Nat->Prop}:
  ∀ (avs:List (AV ty)) (io:List Bool) (ts:List Nat) (vs:List Value) (as:List (Arg ty)) (fz mv:List Nat),All2 (zeE cx e st κ w) vs avs->zgM cx st io ts avs=some (as,fz,mv)->
   (∀ v av a' ids,zeE cx e st κ w v av->zbn cx st zcD av=some (a',ids)->(∀ id∈ids,id∈fz)->Rep cx F1 w v a')->
   (∀ id T l,id∈mv->st.blk id=.arr T l false->zcn cx F1 w (κ id) T l/\∀ b,zS (κ id)=some b->¬ F1 b)->
   All2 (zim cx F1 w) vs as/\zbc vs as=mv.map κ/\∀ id∈mv,(st.blk id).unfz
 | [],io,ts,vs,as,fz,mv,hv,h,_,_=>by
  rw [hv.nil_left.1];simp only [zgM,qa,qb] at h;obtain ⟨rfl,rfl,rfl⟩:=h;exact ⟨.nil,rfl,by simp⟩
 | av::avs,io,ts,vs,as,fz,mv,hv,h,hp,ho=>by
  obtain ⟨v,vs',rfl,hr,hv'⟩:=hv.inv;simp only [zgM] at h;split at h
  ·cases h
  ·rename_i as' fz' mv' hrest;split at h
   ·-- handed over
    split at h
    ·rename_i id;split at h
     ·rename_i T l hb;simp only [qa,qb] at h;obtain ⟨rfl,rfl,rfl⟩:=h;obtain ⟨h1,h2,h3⟩:=zva hcx hrb avs _ _ vs' as' fz' mv' hv' hrest hp (λi T l hi=>ho i T l (by simp [hi]))
      have hv0:=zNK hrb hr hb;subst hv0
      exact ⟨.cons (ho id T l (by simp) hb) h1,by simp [zbc,h2],λi hi=>by
       rcases qd.1 hi with rfl | hi
       ·rw [hb]; rfl
       ·exact h3 i hi⟩
     ·cases h
    ·cases h
   ·split at h
    ·cases h
    ·rename_i a1 ids hpure;split at h
     ·cases h
     ·rename_i a2 hcan;simp only [qa,qb] at h;obtain ⟨rfl,rfl,rfl⟩:=h;obtain ⟨h1,h2,h3⟩:=zva hcx hrb avs _ _ vs' as' fz' mv' hv' hrest (λv av a' ids hr hpp hi=>hp v av a' ids hr hpp (λid hid=>by simp [hi id hid])) ho
      exact ⟨.cons (zNl hcx (hp v av a1 ids hr hpure (λid hid=>by simp [hid])) hcan) h1,by simpa [zbc] using h2,h3⟩
theorem zSJ:∀ {l:List Nat},zdH l=true->∀ (i j:Nat) x,l[i]? =some x->l[j]? =some x->i=j
 | [],_,i,j,x,hi,_=>by simp at hi
 | y::r,h,i,j,x,hi,hj=>by
  simp only [zdH,qc,Bool.not_eq_true'] at h;obtain ⟨h1,h2⟩:=h
  have hny:∀ (k:Nat),r[k]? ≠some y:=λk hk=>by
   have:r.contains y=true:=by simpa using List.mem_of_getElem? hk
   rw [this] at h1; cases h1
  cases i with
  | zero=>
   cases j with
   | zero=>rfl
   | succ j=>simp at hi hj; subst hi; exact absurd hj (hny j)
  | succ i=>
   cases j with
   | zero=>simp at hi hj; subst hj; exact absurd hi (hny i)
   | succ j=>simp at hi hj; rw [zSJ h2 i j x hi hj]
theorem zR0:∀ (wr:List (Nat×Blk ty)) (b:List (Blk ty)) (j:Nat),zdH (wr.map (·.1))=true->(∀ p∈wr,p.1<b.length)->(gD .none (zbE b wr) j)=(wr.lookup j).getD ((gD .none b j))
 | [],b,j,_,_=>by simp [zbE]
 | (i,x)::r,b,j,hn,hl=>by
  simp only [List.map_cons,zdH,qc,Bool.not_eq_true'] at hn;obtain ⟨h1,h2⟩:=hn;simp only [zbE];rw [zR0 r (b.set i x) j h2 (λp hp=>by rw [List.length_set]; exact hl p (by simp [hp])),zbr]
  by_cases hij:i=j
  ·subst hij
   have hno:r.lookup i=none:=by
    rw [List.lookup_eq_none_iff];intro p hp;have:¬ (r.map (·.1)).contains i=true:=by rw [h1]; simp
    simp only [List.contains_eq_mem,qe] at this;simp only [beq_eq_false_iff_ne,ne_eq,bne_iff_ne];intro he;exact this (List.mem_map.2 ⟨p,hp,he.symm⟩)
   have hlt:=hl (i,x) (by simp)
   simp [hno,hlt,List.lookup]
  ·have:(j==i)=false:=by simp; exact λh=>hij h.symm
   simp [List.lookup,this,hij]
end
end
end Go.Ab
/- A call that is handed a box of one cell with a row of its own. -/
namespace Go.Ab
noncomputable section
variable {ty:Nat->Type}
section
variable {P:Program} {cx:Cx ty} {e:Env} {st:St ty} {κ:Nat->Value} {a:Act} {w:World} {o:Oper} {d:Delta ty} {Q:Exit->Act->World->Prop}
theorem zDL:∀ {l m:List Nat},zdH l=true->zdH m=true->(∀ i∈l,i∉m)->zdH (l++m)=true
 | [],m,_,h,_=>h
 | x::l,m,h,hm,hd=>by
  simp only [zdH,qc,Bool.not_eq_true',List.contains_eq_mem,decide_eq_false_iff_not] at h;simp only [List.cons_append,zdH,qc,Bool.not_eq_true',List.contains_eq_mem,decide_eq_false_iff_not,List.mem_append,not_or];exact ⟨⟨h.1,hd x (by simp)⟩,zDL h.2 hm (λi hi=>hd i (by simp [hi]))⟩
theorem zos:∀ {r:List (Nat×Blk ty)} {i:Nat} {x:Blk ty},zdH (r.map (·.1))=true->(i,x)∈r->r.lookup i=some x
 | [],i,x,_,h=>by simp at h
 | (k,y)::r,i,x,hn,h=>by
  simp only [List.map_cons,zdH,qc,Bool.not_eq_true',List.contains_eq_mem,decide_eq_false_iff_not] at hn;rcases qd.1 h with he | h2
  ·simp only [qb] at he;obtain ⟨rfl,rfl⟩:=he;simp [List.lookup]
  ·have:(i==k)=false:=by
    simp only [beq_eq_false_iff_ne,ne_eq];intro he; subst he;exact hn.1 (List.mem_map.2 ⟨(i,x),h2,rfl⟩)
   simp [List.lookup,this,zos hn.2 h2]
theorem zGZ {r:List (Nat×Blk ty)} {i:Nat} (h:i∉r.map (·.1)):r.lookup i=none:=by
 rw [List.lookup_eq_none_iff];intro p hp;simp only [beq_eq_false_iff_ne,ne_eq,bne_iff_ne];intro he;exact h (List.mem_map.2 ⟨p,hp,he.symm⟩)
theorem zL6 {α:Type _}:∀ {l i:List α} {x:α},ztk l=some (i,x)->l=i++[x]
 | [],i,x,h=>by simp [ztk] at h
 | [a],i,x,h=>by
  simp only [ztk,qa,qb] at h;obtain ⟨rfl,rfl⟩:=h; rfl
 | a::b::r,i,x,h=>by
  simp only [ztk] at h;split at h
  ·rename_i l y hl;simp only [qa,qb] at h;obtain ⟨rfl,rfl⟩:=h
   have hl':ztk (b::r)=some (l,y):=by
    rw [<- hl]; rfl
   rw [zL6 hl']; rfl
  ·cases h
theorem All2.last {α β:Type} {R:α->β->Prop} {us:List α} {cs:List β} {c:β} (h:All2 R us (cs++[c])):∃ us' u,us=us'++[u]/\All2 R us' cs/\R u c:=by
 have hl:=h.len;rw [qg,List.length_singleton] at hl;have hlt:cs.length<us.length:=by omega
 refine ⟨us.take cs.length,us[cs.length], ?_,⟨by simp; omega,λj u x hu hx=> ?_⟩,h.at_ cs.length _ _ (List.getElem?_eq_getElem hlt) (by simp)⟩
 ·have:us=us.take cs.length++us.drop cs.length:=(List.take_append_drop _ _).symm
  conv=>lhs; rw [this]
  congr 1;rw [List.drop_eq_getElem_cons hlt,List.drop_eq_nil_of_le (by omega)]
 ·have hj:j<cs.length:=(List.getElem?_eq_some_iff.1 hx).1;rw [List.getElem?_take_of_lt hj] at hu;exact h.at_ j u x hu (by rw [List.getElem?_append_left hj]; exact hx)
theorem zMl {F:Nat->Prop}:∀ {as:List (Arg ty)} {avs:List (AV ty)} {vs:List Value},zH0 as=some avs->All2 (zim cx F w) vs as->All2 (Rep cx F w) vs avs
 | [],avs,vs,h,ha=>by
  simp only [zH0,qa] at h; subst h;rw [ha.nil_left.1]; exact .nil
 | .pure a::as,avs,vs,h,ha=>by
  obtain ⟨v,vs',rfl,hr,ha'⟩:=ha.inv;simp only [zH0] at h;split at h
  ·rename_i l hl;simp only [qa] at h; subst h;exact .cons hr (zMl hl ha')
  ·cases h
 | .own T l::as,avs,vs,h,ha=>by simp [zH0] at h
theorem argList_io':∀ {vs:List (AV ty)} {ts:List Nat} {as:List (Arg ty)} {fz mv:List Nat},zgM cx st [] ts vs=some (as,fz,mv)->mv=[]
 | [],ts,as,fz,mv,h=>by simp [zgM] at h; exact h.2.2
 | v::vs,ts,as,fz,mv,h=>by
  simp only [zgM,List.tail_nil,List.head?_nil] at h;split at h
  ·cases h
  ·rename_i as' fz' mv' hr;split at h
   ·cases h
   ·split at h
    ·cases h
    ·simp only [qa,qb] at h;obtain ⟨_,_,rfl⟩:=h;exact argList_io' hr
theorem zVP {id:Nat} {u:Value} (hb:(st.blk id).kind cx=.box) (hr:zeE cx e st κ w u (.ptr id 0)):∃ b,κ id=.pointer (some ⟨b,0,none⟩)/\u=.pointer (some ⟨b,0,none⟩):=by
 cases hr with
 | rep h=>cases h
 | ptr _ _ b hk hκ=>exact ⟨b,hκ,rfl⟩
 | ptrD _ _ _ hk=>rw [hb] at hk; cases hk
theorem zPh {c:AV ty} {g:Option Nat} {id:Nat} {u:Value} (h:zNz c=some (g,id)) (hb:(st.blk id).kind cx=.box) (hr:zeE cx e st κ w u c):
  ∃ b,κ id=.pointer (some ⟨b,0,none⟩)/\u=zfT g b:=by
 unfold zNz at h;split at h
 ·simp only [qa,qb] at h;obtain ⟨rfl,rfl⟩:=h;exact zVP hb hr
 ·simp only [qa,qb] at h;obtain ⟨rfl,rfl⟩:=h;rename_i g0 id0
  have key:∀ vs:List Value,All2 (zeE cx e st κ w) vs [.ptr id0 0]->∃ b,κ id0=.pointer (some ⟨b,0,none⟩)/\(Value.func (.func g0) #[] vs.toArray)=zfT (some g0) b:=λvs ha=>by
   obtain ⟨v,vs',rfl,hv,hn⟩:=ha.inv;rw [hn.nil_left.1];obtain ⟨b,h1,rfl⟩:=zVP hb hv;exact ⟨b,h1,rfl⟩
  cases hr with
  | rep h=>cases h with | fn _ vs _ hlen hr=>exact key vs (zs6 hlen hr)
  | fn _ vs _ hlen hr=>exact key vs ⟨hlen,hr⟩
 ·cases h
theorem zOL (hrb:RB cx e st.blk κ w) {T id b:Nat} {ks:List Nat} {l:List (ty T)} (h:zot st T id=some (ks,l)) (hκ:κ id=.pointer (some ⟨b,0,none⟩)):
  (st.blk id).unfz/\(st.blk id).kind cx=.box/\(∀ k∈ks,(st.blk k).unfz/\k≠id)/\zdH ks=true/\∃ u t,w.heap[b]? =some (.cells #[u] t (0,0))/\zcn cx (Fz e st.blk κ w) w u T l/\∀ c,zS u=some c->∃ k∈ks,zS (κ k)=some c:=by
 have one:∀ {cs:AV ty},st.blk id=.box [cs] false->∃ u t,w.heap[b]? =some (.cells #[u] t (0,0))/\zeE cx e st κ w u cs:=λ{cs} hb=>by
  obtain ⟨b',cur,t,h1,h2,h3⟩:=hrb.box hb;rw [hκ] at h1;simp only [Value.pointer.injEq,qa,Addr.mk.injEq,and_true] at h1;subst h1;obtain ⟨u,us,hu,hr,hn⟩:=h3.inv;rw [hn.nil_left.1] at hu;have:cur=#[u]:=by apply Array.ext'; exact hu
  subst this;exact ⟨u,t,h2,hr⟩
 unfold zot at h;split at h
 ·rename_i hb;simp only [qa,qb] at h;obtain ⟨rfl,rfl⟩:=h;obtain ⟨u,t,h1,h2⟩:=one hb;have hu:u=.slice none 0 0:=zbW h2;subst hu;refine ⟨by rw [hb]; rfl,by rw [hb]; rfl,by simp,rfl,_,t,h1,⟨[],⟨by simp,.inl ⟨rfl,by simp⟩⟩,⟨by simp [zcc],λj u c hu=>by simp at hu⟩⟩,λc hc=>by simp [zS] at hc⟩
 ·rename_i k hb;split at h
  ·rename_i T' l0 hk;split at h
   ·rename_i l1 hc;simp only [qa,qb] at h;obtain ⟨rfl,rfl⟩:=h;obtain ⟨rfl,rfl⟩:=zrA hc;obtain ⟨u,t,h1,h2⟩:=one hb;have hu:=zNK hrb h2 hk;subst hu;refine ⟨by rw [hb]; rfl,by rw [hb]; rfl,λi hi=> ?_,by simp [zdH],_,t,h1,hrb.row hk,λc hc=>⟨k,by simp,hc⟩⟩
    rw [qh] at hi; subst hi;refine ⟨by rw [hk]; rfl,λhe=> ?_⟩
    subst he; rw [hb] at hk; cases hk
   ·cases h
  ·cases h
 ·cases h
theorem zXQ {B:List (Blk ty)} {κ:Nat->Value} {w w':World} (hrb:RB cx e (λj=>(gD .none B j)) κ w) {F1 F':Nat->Prop} {ks:List Nat} {id T b:Nat} {l':List (ty T)} {u u':Value}
  (hid:((gD .none B id)).unfz) (hkb:((gD .none B id)).kind cx=.box) (hκ:κ id=.pointer (some ⟨b,0,none⟩))
  (hks:∀ k∈ks,((gD .none B k)).unfz/\k≠id) (hnd:zdH ks=true) (hu:∀ c,zS u=some c->∃ k∈ks,zS (κ k)=some c)
  (h0:(gD .none B 0)=.none) (h0l:0<B.length) (hkept:Kept cx.dr (OPc b u) w w')
  (hF'2:∀ c,F' c->c<w'.heap.size/\(F1 c\/OPc b u c\/w.heap.size<=c)) (hF:∀ c,F1 c->Fz e (λj=>(gD .none B j)) κ w c)
  (hc:CellOK cx F' w' T l' b u') (hn:∀ c,zS u'=some c->OPc b u c\/w.heap.size<=c):
  ∃ κ',RB cx e (λj=>(gD .none (zbE B (zjC ks id T l')) j)) κ' w'/\
   Compat cx e (λj=>(gD .none B j)) κ w (λj=>(gD .none (zbE B (zjC ks id T l')) j)) κ' w':=by
 have hid0:id≠0:=λh=>by subst h; rw [h0] at hid; exact hid
 have hk0:∀ k∈ks,k≠0:=λk hk h=>by subst h; have:=(hks _ hk).1; rw [h0] at this; exact this
 have hlt:∀ {i:Nat},((gD .none B i)).unfz->i<B.length:=λ{i} hi=>by
  rcases Nat.lt_or_ge i B.length with h | h
  ·exact h
  ·rw [show (gD .none B i)=.none by simp [zfF,List.getD_eq_getElem?_getD,List.getElem?_eq_none h]] at hi
   exact hi.elim
 have hkeys:((zjC ks id T l').map (·.1))=ks++[id,0]:=by
  unfold zjC;rw [List.map_append,List.map_map];have:((λp:Nat×Blk ty=>p.1) ∘ λk=>(k,(Blk.dead:Blk ty)))=_root_.id:=rfl
  rw [this,List.map_id]; rfl
 have hnodup:zdH ((zjC ks id T l').map (·.1))=true:=by
  rw [hkeys];refine zDL hnd (by simp [zdH,hid0]) λi hi=> ?_
  simp only [qd,List.not_mem_nil,or_false,not_or];exact ⟨(hks i hi).2,hk0 i hi⟩
 have hget:∀ j,(gD .none (zbE B (zjC ks id T l')) j)=((zjC ks id T l').lookup j).getD ((gD .none B j)):=λj=>
  zR0 _ _ _ hnodup (λp hp=>by
   unfold zjC at hp;rcases List.mem_append.1 hp with h | h
   ·obtain ⟨k,hk,rfl⟩:=List.mem_map.1 h;exact hlt (hks k hk).1
   ·simp only [qd,List.not_mem_nil,or_false] at h;rcases h with rfl | rfl
    ·exact hlt hid
    ·exact h0l)
 have gid:(gD .none (zbE B (zjC ks id T l')) id)=.box [.own 0] false:=by
  rw [hget,zos hnodup (x:=.box [.own 0] false) (List.mem_append.2 (.inr (by simp)))]; rfl
 have g0:(gD .none (zbE B (zjC ks id T l')) 0)=.arr T l' false:=by
  rw [hget,zos hnodup (x:=.arr T l' false) (List.mem_append.2 (.inr (by simp)))]; rfl
 have gk:∀ k∈ks,(gD .none (zbE B (zjC ks id T l')) k)=.dead:=λk hk=>by
  rw [hget,zos hnodup (x:=.dead) (List.mem_append.2 (.inl (List.mem_map.2 ⟨k,hk,rfl⟩)))]; rfl
 have gold:∀ j,¬ (j∈ks\/j=id\/j=0)->(gD .none (zbE B (zjC ks id T l')) j)=(gD .none B j):=λj hj=>by
  rw [hget,zGZ (by rw [hkeys]; simp only [List.mem_append,qd,List.not_mem_nil,or_false]; exact hj)]; rfl
 generalize hB':zbE B (zjC ks id T l')=B' at *
 let κ':Nat->Value:=λi=>if i=0 then u' else κ i
 have k0:κ' 0=u':=rfl;have kold:∀ i,i≠0->κ' i=κ i:=λi hi=>by simp only [κ',if_neg hi]
 have kid:κ' id=.pointer (some ⟨b,0,none⟩):=(kold id hid0).trans hκ;have hbid:zS (κ id)=some b:=by rw [hκ]; rfl
 -- what the callee may have written
 have hOP:∀ c,OPc b u c->∃ i,(i∈ks\/i=id)/\((gD .none B i)).unfz/\zS (κ i)=some c:=λc h=>by
  rcases h with rfl | h
  ·exact ⟨id,.inr rfl,hid,hbid⟩
  ·obtain ⟨k,hk,hkc⟩:=hu c h;exact ⟨k,.inl hk,(hks k hk).1,hkc⟩
 have hfin:∀ c,F' c->Fz e (λj=>(gD .none B' j)) κ' w' c:=by
  intro c hcF;obtain ⟨hltc,hor⟩:=hF'2 c hcF;refine ⟨?_,hltc,λi hiu hbi=> ?_⟩
  ·rcases hor with h | h | h
   ·exact (hF c h).1
   ·obtain ⟨i,_,hi,hb⟩:=hOP c h;exact .inr (hrb.mine i c hi hb)
   ·exact .inr (.inr (Nat.le_trans hrb.size h))
  ·replace hiu:((gD .none B' i)).unfz:=hiu;by_cases hi0:i=0
   ·subst hi0;rw [k0] at hbi;exact hc.out c (.inr hbi) hcF
   ·rw [kold i hi0] at hbi;by_cases hii:i=id
    ·subst hii;rw [hbid] at hbi;simp only [qa] at hbi; subst hbi;exact hc.out _ (.inl rfl) hcF
    ·by_cases hik:i∈ks
     ·rw [gk i hik] at hiu; exact hiu
     ·rw [gold i (by simp [hik,hii,hi0])] at hiu
      rcases hor with h | h | h
      ·exact (hF c h).2.2 i hiu hbi
      ·obtain ⟨j,hj,hju,hjb⟩:=hOP c h;have:=hrb.sep i j c hiu.live hju hbi hjb;subst this;exact hj.elim hik hii
      ·have:=(hrb.old i c hiu.live hbi).2; omega
 have hdr:cx.dr=true->w.drawn<=w'.drawn:=hkept.drawn
 have hstep:=hrb.step (B':=λj=>(gD .none B' j)) (κ':=κ') (w':=w') (λi=>i∈ks\/i=id\/i=0) hkept.os hkept.tape hkept.output hkept.size
  (λc hcl=>by
   by_cases hop:OPc b u c
   ·obtain ⟨i,hi,hiu,hib⟩:=hOP c hop;exact .inr ⟨i,hi.elim .inl λh=>.inr (.inl h),hiu,hib⟩
   ·exact .inl (hkept.keep c hcl hop))
  (λi hi=>⟨gold i hi,kold i (λh=>hi (.inr (.inr h)))⟩)
  (λi hi hk=>by
   rcases hi with hi | rfl | rfl
   ·right; show ((gD .none B' i)).kind cx=_; rw [gk i hi]; rfl
   ·left
    refine ⟨?_,kold i hid0⟩;show ((gD .none B' i)).kind cx=_;rw [gid]; exact hkb.symm
   ·exact absurd (by show ((gD .none B 0)).kind cx=_; rw [h0]; rfl) hk)
  (λi c hi hl hb=>by
   replace hl:((gD .none B' i)).live:=hl;rcases hi with hi | rfl | rfl
   ·rw [gk i hi] at hl; exact hl.elim
   ·rw [kold i hid0] at hb;exact ⟨Nat.lt_of_lt_of_le (hrb.old i c hid.live hb).2 hkept.size,.inl ⟨i,.inr (.inl rfl),hid,hb⟩⟩
   ·rw [k0] at hb;obtain ⟨xs,ho,_⟩:=hc.row;refine ⟨ztR ho hb, ?_⟩;rcases hn c hb with h | h
    ·obtain ⟨j,hj,hju,hjb⟩:=hOP c h;exact .inl ⟨j,hj.elim .inl λh=>.inr (.inl h),hju,hjb⟩
    ·exact .inr h)
  (λi j c hi hj hl hu' hbi hbj=>by
   replace hl:((gD .none B' i)).live:=hl;replace hu':((gD .none B' j)).unfz:=hu';rcases hi with hi | hi | hi
   ·rw [gk i hi] at hl; exact hl.elim
   ·rcases hj with hj | hj | hj
    ·rw [gk j hj] at hu'; exact hu'.elim
    ·rw [hi,hj]
    ·subst hi; subst hj;rw [k0] at hbj;rw [kid] at hbi;simp only [zS,qa] at hbi; subst hbi;exact absurd hbj hc.ne
   ·rcases hj with hj | hj | hj
    ·rw [gk j hj] at hu'; exact hu'.elim
    ·subst hi; subst hj;rw [k0] at hbi;rw [kid] at hbj;simp only [zS,qa] at hbj; subst hbj;exact absurd hbi hc.ne
    ·rw [hi,hj])
  (λi hi hcm=>by
   have row:zcn cx (Fz e (λj=>(gD .none B' j)) κ' w') w' u' T l':=by
    obtain ⟨xs,ho,ha⟩:=hc.row;exact ⟨xs,ho,ha.imp λ_ _ h=>h.mono λb hb=>⟨hfin b hb,rfl⟩⟩
   rcases hi with hi | hi | hi
   ·rw [gk i hi]; trivial
   ·subst hi;rw [gid,kid];obtain ⟨t,ht⟩:=hc.at_;refine ⟨b,#[u'],t,rfl,ht, ?_⟩;have hown:=RepA.own (cx:=cx) (F:=Fz e (λj=>(gD .none B' j)) κ' w') (w:=w') (kd:=λi=>((gD .none B' i)).kind cx) (κ:=κ') 0 (zl cx T) l'.length (by show ((gD .none B' 0)).kind cx=_; rw [g0]; rfl)
    rw [k0] at hown;exact .cons hown .nil
   ·subst hi;rw [g0,k0];exact row)
 exact ⟨κ',hstep.1,hstep.2⟩
theorem zZD {f:Operand} {args:Array Operand} {ts:Array TypeId} {g:Nat} {caps:List (AV ty)} {s:CSpec ty} (hcx:CxOK P cx)
  (ho:o.op=.call { callee:=.value f,args:=args,argTypes:=ts }) {vc:List Value} (hve:a.eval f=.func (.func g) #[] vc.toArray) (hcr:All2 (zeE cx e st κ w) vc caps)
  (hs:cx.cells g=some s) (h:zsL cx st s ts.toList (args.toList.map st.ev++caps) some=some d) (hf:RF cx e st κ a w):o.wp P a w (λa' w'=>R cx e (st.app o.dst d) a' w') Q:=by
 have hsnd:=hcx.cells g s hs;have hall:=(zrd hf args.toList).append hcr;unfold zsL at h;split at h
 ·cases h
 ·rename_i as c hsl;rw [zL6 hsl] at hall;obtain ⟨us,uc,hus,hua,huc⟩:=hall.last;split at h
  ·cases h
  ·rename_i g' id hca;split at h
   ·cases h
   ·rename_i ks l hrow;split at h
    ·cases h
    ·rename_i as' fz mv hal;split at h
     ·cases h
     ·rename_i avs hpu;split at h
      ·cases h
      ·rename_i hnd;obtain ⟨hdj,hfree⟩:=zhm hnd;split at h
       ·cases h
       ·rename_i pre l' hrun;obtain ⟨hpre,h⟩:=zdR h;subst hpre;obtain rfl:=Option.some.inj h
        -- the box
        have hkb:(st.blk id).kind cx=.box:=by
         unfold zot at hrow;split at hrow
         ·rename_i hb; rw [hb]; rfl
         ·rename_i hb; rw [hb]; rfl
         ·cases hrow
        obtain ⟨b,hκ,rfl⟩:=zPh hca hkb huc;obtain ⟨hidu,_,hks,hkn,u,t,hat,hrowok,hub⟩:=zOL hf.rb hrow hκ;have hF1le:∀ b,Fz e st.blk κ w b->Fz e (FzB st fz) κ w b:=λb hb=>((zom hf.rb fz).2.fz b hb).1
        have hnf:∀ i,i=id\/i∈ks->i∉fz:=λi hi hm=>by
         have:(!(id::ks).contains i)=true:=(List.all_eq_true.1 hdj) i hm;simp only [Bool.not_eq_true',List.contains_eq_mem,decide_eq_false_iff_not,qd,not_or] at this;exact hi.elim this.1 this.2
        have hunf:∀ i,i=id\/i∈ks->(st.blk i).unfz:=λi hi=>hi.elim (λh=>h ▸ hidu) λh=>(hks i h).1
        have hB1:∀ i,i=id\/i∈ks->(gD .none (zbA st.blks fz) i)=st.blk i:=λi hi=>by rw [zkv,if_neg (hnf i hi)]; rfl
        have notF:∀ i c,(i=id\/i∈ks)->zS (κ i)=some c->¬ Fz e (FzB st fz) κ w c:=λi c hi hb hfb=>by
         refine hfb.2.2 i ?_ hb;simp only [FzB];rw [hB1 i hi]; exact hunf i hi
        have hbid:zS (κ id)=some b:=by rw [hκ]; rfl
        -- the arguments
        obtain ⟨harg,_,_⟩:=zva (F1:=Fz e (FzB st fz) κ w) hcx hf.rb _ _ _ _ as' fz mv hua hal (λv av a' ids hr hp hi=>zCp hcx hf.rb hr hp hi)
         (λi T l hi _=>by rw [argList_io' hal] at hi; cases hi)
        have hrep:=zMl hpu harg
        have hcell:CellOK cx (Fz e (FzB st fz) κ w) w s.T l b u:=by
         refine ⟨⟨t,hat⟩, ?_,λc hc=> ?_,λhub'=> ?_⟩
         ·obtain ⟨xs,ho,ha⟩:=hrowok;exact ⟨xs,ho,ha.imp λ_ _ h=>h.mono λb hb=>⟨hF1le b hb,rfl⟩⟩
         ·rcases hc with rfl | hc
          ·exact notF id _ (.inl rfl) hbid
          ·obtain ⟨k,hk,hkc⟩:=hub c hc;exact notF k _ (.inr hk) hkc
         ·obtain ⟨k,hk,hkc⟩:=hub b hub';exact (hks k hk).2 (hf.rb.sep k id b (hks k hk).1.live hidu hkc hbid)
        have hmine:∀ c,OPc b u c->e.OP c\/e.w0.heap.size<=c:=λc hc=>by
         rcases hc with rfl | hc
         ·exact hf.rb.mine id _ hidu hbid
         ·obtain ⟨k,hk,hkc⟩:=hub c hc;exact hf.rb.mine k c (hks k hk).1 hkc
        have hg:GOK cx w (OPc b u):=by
         refine ⟨hcx.stable _ _ hf.rb.g.inv λb hb=>hf.rb.keep b (Nat.lt_of_lt_of_le hb hf.rb.g.size) λhop=> ?_,λc hc=> ?_,Nat.le_trans hf.rb.g.size hf.rb.size⟩
         ·have:=hf.rb.g.big b hop; omega
         ·rcases hmine c hc with h' | h'
          ·exact hf.rb.g.big c h'
          ·exact Nat.le_trans hf.rb.g.size h'
        have hcalls:=hsnd.calls g' avs l l' hrun w (Fz e (FzB st fz) κ w) us b u (λb hb=>hb.2.1) hrep hcell hg
        -- the machine's side
        have hrunM:(execOp a.eval o).run P w=.ok (.enter g (us++[zfT g' b]).toArray) w:=by
         have e1:(args.map a.eval++vc.toArray)=(us++[zfT g' b]).toArray:=by
          apply Array.ext'; rw [<- hus]; simp
         simp only [execOp,ho,resolve,hve,Deferred.ofValue,Sem.run_bind,Sem.run_pure,Result.andThen_ok,invoke];rw [show (#[]++args.map a.eval:Array Value)=args.map a.eval by simp,e1]
         exact hsnd.enters _ _
        unfold Oper.wp;rw [hrunM,Oper.upon_enter];refine hcalls.mono λen w' hpost=> ?_
        obtain ⟨v,rfl,F',u',hkept,hF'1,hF'2,hcell',hn⟩:=hpost;obtain ⟨hrb1,hc1⟩:=zom hf.rb fz;obtain ⟨h01,h02⟩:=zje hfree
        have h0:(gD .none (zbA st.blks fz) 0)=.none:=by
         rw [zkv];have:(gD .none st.blks 0)=.none:=h01;rw [this]; split <;>rfl
        obtain ⟨κ',h1,h2⟩:=zXQ (F1:=Fz e (FzB st fz) κ w) (F':=F') (w':=w') hrb1 (ks:=ks) (id:=id) (T:=s.T) (b:=b) (l':=l') (u:=u) (u':=u') (by rw [hB1 id (.inl rfl)]; exact hidu) (by rw [hB1 id (.inl rfl)]; exact hkb) hκ
         (λk hk=>by rw [hB1 k (.inr hk)]; exact hks k hk) hkn hub h0 (by rw [zgh]; exact h02) hkept hF'2 (λc hc=>hc) hcell' hn
        exact ⟨κ',hf.put (by rw [zv1]; exact h1) (by rw [zv1]; exact hc1.trans h2) (λ_=>.dead _)⟩
end
end
end Go.Ab
/- A call against the machine's. -/
namespace Go.Ab
noncomputable section
variable {ty:Nat->Type}
section
variable {P:Program} {cx:Cx ty} {e:Env} {st:St ty} {κ:Nat->Value} {a:Act} {w:World} {o:Oper} {d:Delta ty} {Q:Exit->Act->World->Prop}
theorem zM8:∀ {mv:List Nat} {us:List (Option ((T:Nat)×List (ty T)))} {r:List (Nat×Blk ty)},zeV st mv us=some r->r=(mv.zip us).map (λp=>(p.1,ztp p.2))/\mv.length=us.length/\
  ∀ (m i:Nat) (x:(T:Nat)×List (ty T)),mv[m]? =some i->us[m]? =some (some x)->∃ l0 f0,st.blk i=.arr x.1 l0 f0
 | [],[],r,h=>by simp only [zeV,qa] at h; subst h; exact ⟨rfl,rfl,λm i x h=>by simp at h⟩
 | [],u::us,r,h=>by simp [zeV] at h
 | i::mv,[],r,h=>by simp [zeV] at h
 | i::mv,u::us,r,h=>by
  simp only [zeV] at h;split at h
  ·cases h
  ·rename_i r' hr;obtain ⟨h1,h2,h3⟩:=zM8 hr;split at h
   ·simp only [qa] at h; subst h;refine ⟨by rw [h1]; rfl,by simp [h2],λm j x hm hx=> ?_⟩
    cases m with
    | zero=>simp at hx
    | succ m=>exact h3 m j x (by simpa using hm) (by simpa using hx)
   ·rename_i T l;split at h
    ·rename_i T0 l0 f0 hb;split at h
     ·rename_i hT;have hT:T=T0:=Nat.eq_of_beq_eq_true hT;subst hT;simp only [qa] at h; subst h;refine ⟨by rw [h1]; rfl,by simp [h2],λm j x hm hx=> ?_⟩
      cases m with
      | zero=>simp at hm hx; subst hm; subst hx; exact ⟨l0,f0,hb⟩
      | succ m=>exact h3 m j x (by simpa using hm) (by simpa using hx)
     ·cases h
    ·cases h
theorem zGh:∀ (id:Nat) (vals:List (RV ty)),(z6 id vals).1.length=vals.length
 | _,[]=>rfl
 | id,.pure a::r=>by simp [z6,zGh (id+1) r]
 | id,.own T l::r=>by simp [z6,zGh (id+1) r]
theorem zC0:∀ (id:Nat) (vals:List (RV ty)) (j:Nat) (av:AV ty),vals[j]? =some (.pure av)->(z6 id vals).1[j]? =some av
 | id,v::r,0,av,h=>by simp at h; subst h; simp [z6]
 | id,.pure b::r,j+1,av,h=>by simpa [z6] using zC0 (id+1) r j av (by simpa using h)
 | id,.own T l::r,j+1,av,h=>by simpa [z6] using zC0 (id+1) r j av (by simpa using h)
theorem zuL:∀ (id:Nat) (vals:List (RV ty)) (j:Nat) (T:Nat) (l:List (ty T)),vals[j]? =some (.own T l)->(z6 id vals).1[j]? =some (.own (id+j))/\(id+j,Blk.arr T l false)∈(z6 id vals).2
 | id,v::r,0,T,l,h=>by simp at h; subst h; simp [z6]
 | id,.pure b::r,j+1,T,l,h=>by
  have:=zuL (id+1) r j T l (by simpa using h)
  rw [show id+(j+1)=id+1+j by omega]
  simpa [z6] using this
 | id,.own T' l'::r,j+1,T,l,h=>by
  have:=zuL (id+1) r j T l (by simpa using h)
  rw [show id+(j+1)=id+1+j by omega]
  refine ⟨by simpa [z6] using this.1, ?_⟩
  simp only [z6];exact List.mem_cons_of_mem _ this.2
theorem zFx:∀ (id:Nat) (vals:List (RV ty)) (p:Nat×Blk ty),p∈(z6 id vals).2->∃ j T l,vals[j]? =some (.own T l)/\p=(id+j,.arr T l false)
 | id,[],p,h=>by simp [z6] at h
 | id,.pure b::r,p,h=>by
  obtain ⟨j,T,l,h1,h2⟩:=zFx (id+1) r p (by simpa [z6] using h)
  exact ⟨j+1,T,l,by simpa using h1,by rw [h2,show id+(j+1)=id+1+j by omega]⟩
 | id,.own T' l'::r,p,h=>by
  simp only [z6] at h;rcases qd.1 h with rfl | h
  ·exact ⟨0,T',l',rfl,rfl⟩
  ·obtain ⟨j,T,l,h1,h2⟩:=zFx (id+1) r p h;exact ⟨j+1,T,l,by simpa using h1,by rw [h2,show id+(j+1)=id+1+j by omega]⟩
theorem zAC:∀ (id:Nat) (vals:List (RV ty)),zdH ((z6 id vals).2.map (·.1))=true/\∀ i∈(z6 id vals).2.map (·.1),id<=i
 | id,[]=>by simp [z6,zdH]
 | id,.pure b::r=>by
  obtain ⟨h1,h2⟩:=zAC (id+1) r;exact ⟨by simpa [z6] using h1,λi hi=>by have:=h2 i (by simpa [z6] using hi); omega⟩
 | id,.own T l::r=>by
  obtain ⟨h1,h2⟩:=zAC (id+1) r;refine ⟨?_,λi hi=> ?_⟩
  ·simp only [z6,List.map_cons,zdH,h1,Bool.and_true,Bool.not_eq_true',List.contains_eq_mem,decide_eq_false_iff_not];intro hm;have:=h2 id hm;omega
  ·simp only [z6,List.map_cons,qd] at hi;rcases hi with rfl | hi
   ·exact Nat.le_refl _
   ·have:=h2 i hi; omega
theorem zMI:∀ {l:List (Nat×Blk ty)},zi9 st l=true->∀ p∈l,zdG st p.1=true
 | [],_,p,hp=>by simp at hp
 | (i,x)::r,h,p,hp=>by
  simp only [zi9,qc] at h;rcases qd.1 hp with rfl | hp
  ·exact h.1
  ·exact zMI h.2 p hp
theorem zZN {F F':Nat->Prop} {w w':World} {v:Value} {av:AV ty} (h:av.flat=true) (hr:Rep cx F w v av):Rep cx F' w' v av:=by
 cases av with
 | lit x=>cases hr; exact .lit _
 | err x=>cases hr with
  | errN=>exact .errN
  | errS=>exact .errS _ _
 | agg cs=>
  cases hr with
  | agg vs _ hlen hr=>
   refine .agg vs cs hlen λj u c hu hc=> ?_
   have hm:=(List.all_eq_true.1 h) c (List.mem_of_getElem? hc);cases c with
   | lit x=>have:=hr j u _ hu hc; cases this; exact .lit _
   | _=>simp at hm
 | _=>simp [AV.flat] at h
theorem zX4 (hcx:CxOK P cx) {B:List (Blk ty)} {κ:Nat->Value} {w w':World} (hrb:RB cx e (λj=>(gD .none B j)) κ w) {F1 F':Nat->Prop} {mv:List Nat} {res:ARes ty} {rs:List Value} {us:List (Nat×Blk ty)} {id:Nat}
  (hmu:∀ i∈mv,((gD .none B i)).unfz) (hmn:zdH mv=true) (hus':us=(mv.zip res.upd).map (λp=>(p.1,ztp p.2))) (hlen:mv.length=res.upd.length) (hty:∀ (m i:Nat) (x:(T:Nat)×List (ty T)),mv[m]? =some i->res.upd[m]? =some (some x)->∃ l0 f0,(gD .none B i)=.arr x.1 l0 f0) (hfree:∀ p∈(z6 id res.vals).2,(gD .none B p.1)=.none/\p.1<B.length)
  (hkept:Kept cx.dr (zkl (mv.map κ)) w w') (hF1:∀ b,Fz e (λj=>(gD .none B j)) κ w b->F1 b)
  (hF'2:∀ b,F' b->b<w'.heap.size/\(F1 b\/zkl (mv.map κ) b\/w.heap.size<=b))
  (hvals:All2 (zRO cx F' w w' (zkl (mv.map κ))) rs res.vals) (hupd:All2 (zZe cx F' w') (mv.map κ) res.upd)
  (hs1:∀ (i j:Nat) T l T' l' u v b,res.vals[i]? =some (.own T l)->res.vals[j]? =some (.own T' l')->rs[i]? =some u->rs[j]? =some v->zS u=some b->zS v=some b->i=j)
  (hs2:∀ (i m:Nat) T l x u v b,res.vals[i]? =some (.own T l)->res.upd[m]? =some (some x)->rs[i]? =some u->(mv.map κ)[m]? =some v->zS u=some b->zS v≠some b)
  (hF:res.flat=false->∀ b,F1 b->Fz e (λj=>(gD .none B j)) κ w b):
  ∃ κ',RB cx e (λj=>(gD .none (zbE B (us++(z6 id res.vals).2)) j)) κ' w'/\Compat cx e (λj=>(gD .none B j)) κ w (λj=>(gD .none (zbE B (us++(z6 id res.vals).2)) j)) κ' w'/\
   All2 (RepA cx (Fz e (λj=>(gD .none (zbE B (us++(z6 id res.vals).2)) j)) κ' w') w' (λi=>((gD .none (zbE B (us++(z6 id res.vals).2)) i)).kind cx) κ') rs (z6 id res.vals).1:=by
 have hkeys:us.map (·.1)=mv:=by
  rw [hus',List.map_map];have:((λp:Nat×Blk ty=>p.1) ∘ λp:Nat×Option ((T:Nat)×List (ty T))=>(p.1,ztp p.2))=λp=>p.1:=rfl
  rw [this,List.map_fst_zip (Nat.le_of_eq hlen)]
 have hnew:∀ i∈(z6 id res.vals).2.map (·.1),(gD .none B i)=.none/\i<B.length:=by
  intro i hi;obtain ⟨p,hp,rfl⟩:=List.mem_map.1 hi;exact hfree p hp
 have hmlive:∀ i∈mv,i<B.length:=by
  intro i hi;rcases Nat.lt_or_ge i B.length with h | h
  ·exact h
  ·have:=hmu i hi;rw [show (gD .none B i)=.none by simp [zfF,List.getD_eq_getElem?_getD,List.getElem?_eq_none h]] at this
   exact this.elim
 have hdisj:∀ i∈mv,i∉(z6 id res.vals).2.map (·.1):=by
  intro i hi hn;have h1:=hmu i hi;rw [(hnew i hn).1] at h1;exact h1
 have hnd:zdH ((us++(z6 id res.vals).2).map (·.1))=true:=by
  rw [List.map_append,hkeys];exact zDL hmn (zAC id res.vals).1 hdisj
 have hget:∀ j,(gD .none (zbE B (us++(z6 id res.vals).2)) j)=((us++(z6 id res.vals).2).lookup j).getD ((gD .none B j)):=λj=>
  zR0 _ _ _ hnd (λp hp=>by
   rcases List.mem_append.1 hp with h | h
   ·exact hmlive p.1 (by rw [<- hkeys]; exact List.mem_map.2 ⟨p,h,rfl⟩)
   ·exact (hfree p h).2)
 -- what each block is now
 have hold:∀ j,j∉mv->j∉(z6 id res.vals).2.map (·.1)->(gD .none (zbE B (us++(z6 id res.vals).2)) j)=(gD .none B j):=by
  intro j h1 h2;rw [hget,zGZ (by rw [List.map_append,hkeys,List.mem_append]; exact λh=>h.elim h1 h2)]
  rfl
 have hmv:∀ (m i:Nat) u,mv[m]? =some i->res.upd[m]? =some u->(gD .none (zbE B (us++(z6 id res.vals).2)) i)=ztp u:=by
  intro m i u h1 h2
  rw [hget,zos hnd (x:=ztp u) (List.mem_append.2 (.inl (by
   rw [hus'];refine List.mem_map.2 ⟨(i,u), ?_,rfl⟩;refine List.mem_of_getElem? (i:=m) ?_;rw [List.getElem?_zip_eq_some];exact ⟨h1,h2⟩)))]
  rfl
 have hown:∀ (j T:Nat) (l:List (ty T)),res.vals[j]? =some (.own T l)->(gD .none (zbE B (us++(z6 id res.vals).2)) (id+j))=.arr T l false:=by
  intro j T l h;rw [hget,zos hnd (List.mem_append.2 (.inr (zuL id res.vals j T l h).2))];rfl
 have hmvu:∀ i∈mv,∃ (m:Nat) (u:Option ((T:Nat)×List (ty T))),mv[m]? =some i/\res.upd[m]? =some u:=by
  intro i hi;obtain ⟨m,hm⟩:=List.getElem?_of_mem hi;have:m<res.upd.length:=by rw [<- hlen]; exact (List.getElem?_eq_some_iff.1 hm).1
  exact ⟨m,_,hm,List.getElem?_eq_getElem this⟩
 have hnewj:∀ i∈(z6 id res.vals).2.map (·.1),∃ j T l,res.vals[j]? =some (.own T l)/\i=id+j:=by
  intro i hi;obtain ⟨p,hp,rfl⟩:=List.mem_map.1 hi;obtain ⟨j,T,l,h1,h2⟩:=zFx id res.vals p hp;exact ⟨j,T,l,h1,by rw [h2]⟩
 have hOP:∀ b,zkl (mv.map κ) b↔∃ i∈mv,zS (κ i)=some b:=by
  intro b;constructor
  ·rintro ⟨v,hv,hb⟩
   obtain ⟨i,hi,rfl⟩:=List.mem_map.1 hv;exact ⟨i,hi,hb⟩
  ·rintro ⟨i,hi,hb⟩
   exact ⟨κ i,List.mem_map.2 ⟨i,hi,rfl⟩,hb⟩
 -- the values of the new numbers
 let κ':Nat->Value:=λi=>if i∈(z6 id res.vals).2.map (·.1) then rs.getD (i - id) undef else κ i
 have hκnew:∀ (j T:Nat) (l:List (ty T)) u,res.vals[j]? =some (.own T l)->rs[j]? =some u->κ' (id+j)=u:=by
  intro j T l u h hu;have hm:id+j∈(z6 id res.vals).2.map (·.1):=List.mem_map.2 ⟨_,(zuL id res.vals j T l h).2,rfl⟩;simp only [κ',if_pos hm,Nat.add_sub_cancel_left,zfF,List.getD_eq_getElem?_getD,hu,Option.getD_some]
 have hκold:∀ i,i∉(z6 id res.vals).2.map (·.1)->κ' i=κ i:=λi hi=>by simp only [κ',if_neg hi]
 -- what may be read by the results may be read now
 have hfin:res.flat=false->∀ b,F' b->Fz e (λj=>(gD .none (zbE B (us++(z6 id res.vals).2)) j)) κ' w' b:=by
  intro hflat b hb;obtain ⟨hlt,hor⟩:=hF'2 b hb;refine ⟨?_,hlt,λi hiu hbi=> ?_⟩
  ·rcases hor with h | h | h
   ·exact (hF hflat b h).1
   ·obtain ⟨i,hi,hbi⟩:=(hOP b).1 h;exact .inr (hrb.mine i b (hmu i hi) hbi)
   ·exact .inr (.inr (Nat.le_trans hrb.size h))
  ·replace hiu:((gD .none (zbE B (us++(z6 id res.vals).2)) i)).unfz:=hiu;by_cases him:i∈mv
   ·obtain ⟨m,u,hm,hu⟩:=hmvu i him;have e1:(gD .none (zbE B (us++(z6 id res.vals).2)) i)=ztp u:=hmv m i u hm hu;rw [hκold i (hdisj i him)] at hbi;cases u with
    | none=>rw [e1] at hiu; exact hiu
    | some x=>exact (hupd.at_ m (κ i) (some x) (by rw [List.getElem?_map,hm]; rfl) hu).2 b hbi hb
   ·by_cases hin:i∈(z6 id res.vals).2.map (·.1)
    ·obtain ⟨j,T,l,hj,rfl⟩:=hnewj i hin;obtain ⟨v,hv,hr⟩:=hvals.getR hj;rw [hκnew j T l v hj hv] at hbi;exact (hr.2 b hbi).1 hb
    ·have e1:(gD .none (zbE B (us++(z6 id res.vals).2)) i)=(gD .none B i):=hold i him hin;rw [hκold i hin] at hbi;rw [e1] at hiu;rcases hor with h | h | h
     ·exact (hF hflat b h).2.2 i hiu hbi
     ·obtain ⟨i0,hi0,hbi0⟩:=(hOP b).1 h;exact him ((hrb.sep i i0 b hiu.live (hmu i0 hi0) hbi hbi0) ▸ hi0)
     ·have:=(hrb.old i b hiu.live hbi).2; omega
 have hdr:cx.dr=true->w.drawn<=w'.drawn:=hkept.drawn
 have hstep:=hrb.step (B':=λj=>(gD .none (zbE B (us++(z6 id res.vals).2)) j)) (κ':=κ') (w':=w') (λi=>i∈mv\/i∈(z6 id res.vals).2.map (·.1)) hkept.os hkept.tape hkept.output hkept.size
  (λb hb=>by
   by_cases hop:zkl (mv.map κ) b
   ·obtain ⟨i,hi,hbi⟩:=(hOP b).1 hop;exact .inr ⟨i,.inl hi,hmu i hi,hbi⟩
   ·exact .inl (hkept.keep b hb hop))
  (λi hi=>⟨hold i (λh=>hi (.inl h)) (λh=>hi (.inr h)),hκold i (λh=>hi (.inr h))⟩)
  (λi hi hk=>by
   rcases hi with hi | hi
   ·obtain ⟨m,u,hm,hu⟩:=hmvu i hi;have e1:(gD .none (zbE B (us++(z6 id res.vals).2)) i)=ztp u:=hmv m i u hm hu;cases u with
    | none=>right; simp only [e1,ztp,Blk.kind]
    | some x=>
     left
     refine ⟨?_,hκold i (hdisj i hi)⟩;obtain ⟨T,l⟩:=x;simp only [e1,ztp,Blk.kind];have hup:=hupd.at_ m (κ i) (some ⟨T,l⟩) (by rw [List.getElem?_map,hm]; rfl) hu
     obtain ⟨l0,f0,hb⟩:=hty m i ⟨T,l⟩ hm hu
     have hrow:zcn cx (Fz e (λj=>(gD .none B j)) κ w) w (κ i) T l0:=by
      have:=hrb.blk i;simp only [hb] at this;exact this
     simp only [hb,Kind.arr.injEq,true_and];rcases zvU hrow with ⟨hv,hl0⟩ | ⟨g,cap,hv,_⟩
     ·rcases zvU hup.1 with ⟨hv2,hl⟩ | ⟨g2,cap2,hv2,_⟩
      ·simp only at hl; rw [hl,hl0]
      ·rw [hv] at hv2; simp at hv2
     ·rcases zvU hup.1 with ⟨hv2,hl⟩ | ⟨g2,cap2,hv2,_⟩
      ·rw [hv] at hv2; simp at hv2
      ·rw [hv] at hv2; simp only [Value.slice.injEq] at hv2; exact hv2.2.1.symm
   ·exact absurd (by simp only [(hnew i hi).1,Blk.kind]) hk)
  (λi b hi hl hb=>by
   rcases hi with hi | hi
   ·rw [hκold i (hdisj i hi)] at hb;exact ⟨Nat.lt_of_lt_of_le (hrb.old i b (hmu i hi).live hb).2 hkept.size,.inl ⟨i,.inl hi,hmu i hi,hb⟩⟩
   ·obtain ⟨j,T,l,hj,rfl⟩:=hnewj i hi;obtain ⟨u,hu,hr⟩:=hvals.getR hj;rw [hκnew j T l u hj hu] at hb;obtain ⟨⟨xs,ho,_⟩,hblk⟩:=hr;refine ⟨ztR ho hb, ?_⟩;rcases (hblk b hb).2 with hop | hge
    ·obtain ⟨i0,hi0,hb0⟩:=(hOP b).1 hop;exact .inl ⟨i0,.inl hi0,hmu i0 hi0,hb0⟩
    ·exact .inr hge)
  (λi j b hi hj hl hu hbi hbj=>by
   have mvlive:∀ i∈mv,((gD .none (zbE B (us++(z6 id res.vals).2)) i)).live->∃ (m:Nat) (x:(T:Nat)×List (ty T)),mv[m]? =some i/\res.upd[m]? =some (some x):=by
    intro i hi hl;obtain ⟨m,u,hm,hu⟩:=hmvu i hi;have e1:(gD .none (zbE B (us++(z6 id res.vals).2)) i)=ztp u:=hmv m i u hm hu;cases u with
    | none=>rw [e1] at hl; exact hl.elim
    | some x=>exact ⟨m,x,hm,hu⟩
   rcases hi with hi | hi
   ·rcases hj with hj | hj
    ·rw [hκold i (hdisj i hi)] at hbi;rw [hκold j (hdisj j hj)] at hbj;exact hrb.sep i j b (hmu i hi).live (hmu j hj) hbi hbj
    ·obtain ⟨m,x,hm,hx⟩:=mvlive i hi hl;obtain ⟨j',T,l,hj',rfl⟩:=hnewj j hj;obtain ⟨v,hv,_⟩:=hvals.getR hj';rw [hκold i (hdisj i hi)] at hbi;rw [hκnew j' T l v hj' hv] at hbj;exact absurd hbi (hs2 j' m T l x v (κ i) b hj' hx hv (by rw [List.getElem?_map,hm]; rfl) hbj)
   ·obtain ⟨i',T,l,hi',rfl⟩:=hnewj i hi;obtain ⟨v,hv,_⟩:=hvals.getR hi';rw [hκnew i' T l v hi' hv] at hbi;rcases hj with hj | hj
    ·obtain ⟨m,x,hm,hx⟩:=mvlive j hj hu.live;rw [hκold j (hdisj j hj)] at hbj;exact absurd hbj (hs2 i' m T l x v (κ j) b hi' hx hv (by rw [List.getElem?_map,hm]; rfl) hbi)
    ·obtain ⟨j',T2,l2,hj',rfl⟩:=hnewj j hj;obtain ⟨v2,hv2,_⟩:=hvals.getR hj';rw [hκnew j' T2 l2 v2 hj' hv2] at hbj;rw [hs1 i' j' T l T2 l2 v v2 b hi' hj' hv hv2 hbi hbj])
  (λi hi hc=>by
   rcases hi with hi | hi
   ·obtain ⟨m,u,hm,hu⟩:=hmvu i hi;have e1:(gD .none (zbE B (us++(z6 id res.vals).2)) i)=ztp u:=hmv m i u hm hu;rw [hκold i (hdisj i hi)];cases u with
    | none=>rw [e1]; trivial
    | some x=>
     have hup:=hupd.at_ m (κ i) (some x) (by rw [List.getElem?_map,hm]; rfl) hu
     have hnf:res.flat=false:=by
      unfold ARes.flat;rw [Bool.and_eq_false_iff]
      right
      rw [List.all_eq_false];exact ⟨some x,List.mem_of_getElem? hu,by simp⟩
     rw [e1];obtain ⟨T,l⟩:=x;obtain ⟨⟨xs,ho,ha⟩,_⟩:=hup;exact ⟨xs,ho,ha.imp λ_ _ h=>h.mono λb hb=>⟨hfin hnf b hb,rfl⟩⟩
   ·obtain ⟨j,T,l,hj,rfl⟩:=hnewj i hi;obtain ⟨v,hv,hr⟩:=hvals.getR hj
    have hnf:res.flat=false:=by
     unfold ARes.flat;rw [Bool.and_eq_false_iff]
     left
     rw [List.all_eq_false];exact ⟨_,List.mem_of_getElem? hj,by simp [RV.flat]⟩
    have e1:(gD .none (zbE B (us++(z6 id res.vals).2)) (id+j))=.arr T l false:=hown j T l hj;rw [e1,hκnew j T l v hj hv];obtain ⟨⟨xs,ho,ha⟩,_⟩:=hr;exact ⟨xs,ho,ha.imp λ_ _ h=>h.mono λb hb=>⟨hfin hnf b hb,rfl⟩⟩)
 refine ⟨κ',hstep.1,hstep.2,by rw [hvals.len,zGh],λj v av hv hav=> ?_⟩
 obtain ⟨rv,hrv,hr⟩:=hvals.getL hv;cases rv with
 | pure av'=>
  rw [zC0 id res.vals j av' hrv] at hav;simp only [qa] at hav; subst hav;cases hfl:res.flat with
  | true=>
   unfold ARes.flat at hfl;rw [qc] at hfl;have:=(List.all_eq_true.1 hfl.1) _ (List.mem_of_getElem? hrv);exact .rep (zZN (by simpa [RV.flat] using this) hr)
  | false=>exact .rep (hr.mono λb hb=>⟨hfin hfl b hb,rfl⟩)
 | own T l=>
  rw [(zuL id res.vals j T l hrv).1] at hav;simp only [qa] at hav; subst hav;have e1:=hκnew j T l v hrv hv
  have:=RepA.own (cx:=cx) (F:=Fz e (λj=>(gD .none (zbE B (us++(z6 id res.vals).2)) j)) κ' w') (w:=w') (kd:=λi=>((gD .none (zbE B (us++(z6 id res.vals).2)) i)).kind cx) (κ:=κ') (id+j) (zl cx T) l.length (by
   have e2:(gD .none (zbE B (us++(z6 id res.vals).2)) (id+j))=.arr T l false:=hown j T l hrv;simp only [e2,Blk.kind])
  rwa [e1] at this
theorem zXK {F:Nat->Prop} {kd:Nat->Kind} {rs:List Value} {avs:List (AV ty)} (h:All2 (RepA cx F w kd κ) rs avs):RepA cx F w kd κ (zw1 rs) (z0d avs):=by
 cases avs with
 | nil=>rw [h.nil_left.1]; exact .tup [] [] rfl (λj u c hu=>by simp at hu)
 | cons c cs=>
  obtain ⟨u,us,rfl,hu,h'⟩:=h.inv;cases cs with
  | nil=>rw [h'.nil_left.1]; exact hu
  | cons c2 cs2=>
   obtain ⟨u2,us2,rfl,hu2,h2⟩:=h'.inv;exact .tup _ _ h.len h.at_
theorem zZ1 {f:Operand} {args:Array Operand} {ts:Array TypeId} (hcx:CxOK P cx) (hspec:∀ f s,cx.spec f=some s->Sound P cx f s)
  (ho:o.op=.call { callee:=.value f,args:=args,argTypes:=ts }) (h:aop cx o st=some d) (hf:RF cx e st κ a w):o.wp P a w (λa' w'=>R cx e (st.app o.dst d) a' w') Q:=by
 unfold aop zdW at h;simp only [ho] at h;have hfr:=zbY hf f;split at h
 ·rename_i g caps hfe;rw [hfe] at hfr
  obtain ⟨vc,hve,hcr⟩:∃ vc:List Value,a.eval f=.func (.func g) #[] vc.toArray/\All2 (zeE cx e st κ w) vc caps:=by
   generalize a.eval f=ve at hfr;cases hfr with
   | rep hr=>cases hr with | fn _ vs _ hlen hr=>exact ⟨vs,rfl,zs6 hlen hr⟩
   | fn _ vs _ hlen hr=>exact ⟨vs,rfl,hlen,hr⟩
  split at h
  case h_2=>
   rename_i s hs;exact zZD hcx ho hve hcr hs h hf
  have hall:=(zrd hf args.toList).append hcr;unfold zsV at h;split at h
  ·cases h
  ·rename_i s hs;have hsnd:=hspec g s hs;split at h
   ·cases h
   ·rename_i as fz mv hargs;split at h
    ·cases h
    ·rename_i hnd;obtain ⟨hnd,hdj⟩:=zhm hnd;split at h
     ·cases h
     ·rename_i pre res hres;obtain ⟨hpre,h⟩:=zdR h;subst hpre;split at h
      ·cases h
      ·rename_i us hus
       -- the arguments, read with what they freeze
       have hF1le:∀ b,Fz e st.blk κ w b->Fz e (FzB st fz) κ w b:=λb hb=>((zom hf.rb fz).2.fz b hb).1
       obtain ⟨harg,hown,hmu⟩:=zva (F1:=Fz e (FzB st fz) κ w) hcx hf.rb _ _ _ _ as fz mv hall hargs (λv av a' ids hr hp hi=>zCp hcx hf.rb hr hp hi)
        (λid T l hid hb=>by
         have hnf:id∉fz:=by
          intro hm;have:(!mv.contains id)=true:=(List.all_eq_true.1 hdj) id hm;simp at this;exact this hid
         obtain ⟨xs,hx1,hx2⟩:=hf.rb.row hb;refine ⟨⟨xs,hx1,hx2.imp λ_ _ h=>h.mono λb hb=>⟨hF1le b hb,rfl⟩⟩,λb hbb hfb=> ?_⟩
         refine hfb.2.2 id ?_ hbb;simp only [FzB,zkv,if_neg hnf];have:(gD .none st.blks id)=st.blk id:=rfl;rw [this,hb]; rfl)
       have hsep:zZd (zbc (args.toList.map a.eval++vc) as):=by
        rw [hown];intro i j u v b hi hj hbi hbj;rw [List.getElem?_map] at hi hj;cases hmi:mv[i]? with
        | none=>rw [hmi] at hi; cases hi
        | some x=>
         cases hmj:mv[j]? with
         | none=>rw [hmj] at hj; cases hj
         | some y=>
          rw [hmi] at hi; rw [hmj] at hj;simp only [Option.map_some,qa] at hi hj;subst hi; subst hj;have hxy:=hf.rb.sep x y b (hmu x (List.mem_of_getElem? hmi)).live (hmu y (List.mem_of_getElem? hmj)) hbi hbj;exact zSJ hnd i j x hmi (hxy ▸ hmj)
       have hgb:∀ i b,i∈mv->zS (κ i)=some b->cx.ng<=b:=λi b hi hb=>by
        rcases hf.rb.mine i b (hmu i hi) hb with h' | h'
        ·exact hf.rb.g.big b h'
        ·exact Nat.le_trans hf.rb.g.size h'
       have hsepw:SepW cx w (zbc (args.toList.map a.eval++vc) as):=by
        refine ⟨hsep,⟨hcx.stable _ _ hf.rb.g.inv λb hb=>hf.rb.keep b (Nat.lt_of_lt_of_le hb hf.rb.g.size) λhop=> ?_,λb ⟨v,hv,hb⟩=> ?_,Nat.le_trans hf.rb.g.size hf.rb.size⟩⟩
        ·have:=hf.rb.g.big b hop; omega
        ·rw [hown] at hv;obtain ⟨i,hi,rfl⟩:=List.mem_map.1 hv;exact hgb i b hi hb
       have hcalls:=hsnd.calls as res hres w (Fz e (FzB st fz) κ w) _ (λb hb=>hb.2.1) harg hsepw
       -- the machine's side
       have hrun:(execOp a.eval o).run P w=.ok (.enter g (args.toList.map a.eval++vc).toArray) w:=by
        have:(args.map a.eval++vc.toArray)=(args.toList.map a.eval++vc).toArray:=by
         apply Array.ext'; simp
        simp only [execOp,ho,resolve,hve,Deferred.ofValue,Sem.run_bind,Sem.run_pure,Result.andThen_ok,invoke];rw [show (#[]++args.map a.eval:Array Value)=args.map a.eval by simp,this]
        exact hsnd.enters _ _
       unfold Oper.wp;rw [hrun,Oper.upon_enter];refine hcalls.mono λen w' hpost=> ?_
       obtain ⟨v,rfl,⟨F',rs,rfl,hkept,hF'1,hF'2,hvals,hupd,hs1,hs2⟩⟩:=hpost;rw [hown] at hkept hF'2 hvals hupd hs2
       -- what is frozen for good
       obtain ⟨hu1,hu2,hu3⟩:=zM8 hus;obtain ⟨hrb1,hc1⟩:=zom hf.rb (bif res.flat then [] else fz)
       have hmnf:∀ i∈mv,i∉(bif res.flat then [] else fz):=by
        intro i hi hm;cases hfl:res.flat with
        | true=>rw [hfl] at hm; simp at hm
        | false=>
         rw [hfl] at hm;have:(!mv.contains i)=true:=(List.all_eq_true.1 hdj) i hm;simp at this;exact this hi
       have hB1:∀ i∈mv,(gD .none (zbA st.blks (bif res.flat then [] else fz)) i)=st.blk i:=λi hi=>by
        rw [zkv,if_neg (hmnf i hi)]; rfl
       have step:∀ (id:Nat),(∀ p∈(z6 id res.vals).2,zdG st p.1=true)->_:=λid hfree=>
        zX4 (id:=id) (w':=w') (rs:=rs) (F1:=Fz e (FzB st fz) κ w) (F':=F') (mv:=mv) (us:=us) hcx hrb1 (λi hi=>by rw [hB1 i hi]; exact hmu i hi) hnd hu1 hu2
         (λm i x hm hx=>by
          obtain ⟨l0,f0,hb⟩:=hu3 m i x hm hx;exact ⟨l0,f0,by rw [hB1 i (List.mem_of_getElem? hm)]; exact hb⟩)
         (λp hp=>by
          obtain ⟨h1,h2⟩:=zje (hfree p hp);refine ⟨?_,by rw [zgh]; exact h2⟩
          rw [zkv];have:(gD .none st.blks p.1)=.none:=h1;rw [this]; split <;>rfl)
         hkept (λb hb=>by
          cases hfl:res.flat with
          | true=>rw [hfl] at hb; exact hF1le b hb
          | false=>rw [hfl] at hb; exact hb) hF'2 hvals hupd hs1 hs2 (λhfl b hb=>by rw [hfl]; exact hb)
       split at h
       ·rename_i dd hdst;split at h
        ·rename_i hfl;obtain ⟨hfree,_⟩:=zhm hfl;obtain rfl:=Option.some.inj h;obtain ⟨κ',h1,h2,h3⟩:=step (zK dd) (zMI hfree);refine ⟨κ',hf.put (by rw [zv1]; exact h1) (by rw [zv1]; exact hc1.trans h2) (λ_=>by rw [zv1]; exact zXK h3)⟩
        ·cases h
       ·rename_i hdst;split at h
        ·rename_i hnil;obtain rfl:=Option.some.inj h;obtain ⟨κ',h1,h2,h3⟩:=step 0 (λp hp=>by rw [hnil] at hp; simp at hp)
         rw [hnil,List.append_nil] at h1 h2;exact ⟨κ',hf.put (by rw [zv1]; exact h1) (by rw [zv1]; exact hc1.trans h2) (λ_=>.dead _)⟩
        ·cases h
 ·cases h
end
end
end Go.Ab
/- Maps of the call's own, against the machine's. -/
namespace Go.Ab
noncomputable section
open Go.MapKept
variable {ty:Nat->Type}
section
variable {P:Program} {cx:Cx ty} {e:Env} {st:St ty} {κ:Nat->Value} {a:Act} {w:World} {o:Oper} {d:Delta ty} {Q:Exit->Act->World->Prop}
theorem zTm {α β:Type} {S:α->β->Prop} {l:List β} (h:All2 S [] l):l=[]:=List.eq_nil_of_length_eq_zero h.len.symm
theorem zSE {α β:Type} {S:α->β->Prop} {x:α} {r:List α} {l:List β} (h:All2 S (x::r) l):∃ y l',l=y::l'/\S x y/\All2 S r l':=by
 cases l with
 | nil=>have:=h.len; simp at this
 | cons y l'=>exact ⟨y,l',rfl,h.at_ 0 x y rfl rfl,⟨by simpa using h.len,λj u c hu hc=>h.at_ (j+1) u c (by simpa using hu) (by simpa using hc)⟩⟩
theorem zOR {P:Program} (hcx:CxOK P cx) {v:Value} {av:AV ty} {K:Nat} {key:Value} (hr:zeE cx e st κ w v av) (h:zTI cx K av=some key):v=key/\zpR cx K key:=by
 unfold zTI at h;split at h
 ·rename_i s;split at h
  ·rename_i sz b z hK;simp only [qa] at h; subst h;exact ⟨zbW hr,⟨_,_,_,hK⟩⟩
  ·cases h
 ·rename_i k n;split at h
  ·rename_i k' sz b z hK;split at h
   ·rename_i hk; subst hk;simp only [qa] at h; subst h;exact ⟨zbW hr,⟨_,_,_,hK⟩⟩
   ·cases h
  ·cases h
 ·rename_i cs;split at h
  ·rename_i us hus;split at h
   ·rename_i q hq;simp only [qa] at h; subst h;obtain ⟨vs,rfl,ha⟩:=zGI hr;obtain rfl:=zNx _ _ _ ha hus;obtain rfl:=hcx.eqr _ _ _ hq;exact ⟨rfl,hq⟩
   ·cases h
  ·cases h
 ·cases h
def ztP (key:Value):List MapEntry->Nat->Option (Nat×Value)
 | [],_=>none
 | e::es,i=>bif znn key e.key then some (i,e.val) else ztP key es (i+1)
theorem zL4 {dk:TypeDesc} {key:Value}:∀ (es:List MapEntry) (i:Nat),(∀ en∈es,Instr.sameNow dk key en.key=some (znn key en.key))->Instr.findNow dk key es i=some (ztP key es i)
 | [],i,_=>rfl
 | en::es,i,h=>by
  have h0:=h en (by simp)
  have:=zL4 es (i+1) λx hx=>h x (by simp [hx])
  cases hb:znn key en.key <;>simp [Instr.findNow,h0,hb,ztP,this]
theorem zSR {K:Nat} {key:Value}:∀ (es:List MapEntry) (i:Nat),(∀ en∈es,(Op.equal K key en.key).run P w=.ok (znn key en.key) w)->(Instr.findAsking K key es i).run P w=.ok (ztP key es i) w
 | [],i,_=>rfl
 | en::es,i,h=>by
  have h0:=h en (by simp)
  have:=zSR es (i+1) λx hx=>h x (by simp [hx])
  cases hb:znn key en.key <;>simp [Instr.findAsking,h0,hb,ztP,this]
theorem zPb (hcx:CxOK P cx) {K:Nat} {key:Value} (h:zpR cx K key):(∀ e,(Instr.checkKey e 10000 K key).run P w=.ok () w)/\∀ es:List MapEntry,(∀ en∈es,zpR cx K en.key)->(Instr.findKey K key es).run P w=.ok (ztP key es 0) w:=by
 cases key with
 | string s=>
  obtain ⟨sz,b,z,hK⟩:=h;refine ⟨λe=>Go.MapKept.run_checkKey (zsf hcx hK) (by simp [IsKey]) e 9999,λes hes=>Go.MapKept.run_findKey (zsf hcx hK) (zL4 es 0 λen hen=> ?_)⟩
  have h2:=hes en hen;revert h2;generalize en.key=k2;intro h2;cases k2 with
  | string t=>rfl
  | int k n=>
   obtain ⟨_,_,_,hK2⟩:=h2;rw [hK] at hK2; cases hK2
  | agg a=>
   obtain ⟨_,_,_,_,_,fs,hfs⟩:=hcx.eqs K _ _ _ h2 w;rw [zsf hcx hK] at hfs; cases hfs
  | _=>exact h2.elim
 | int k n=>
  obtain ⟨sz,b,z,hK⟩:=h;refine ⟨λe=>Go.MapKept.run_checkKey (zvL hcx hK) (by simp [IsKey]) e 9999,λes hes=>Go.MapKept.run_findKey (zvL hcx hK) (zL4 es 0 λen hen=> ?_)⟩
  have h2:=hes en hen;revert h2;generalize en.key=k2;intro h2;cases k2 with
  | string t=>
   obtain ⟨_,_,_,hK2⟩:=h2;rw [hK] at hK2; cases hK2
  | int k' n'=>
   obtain ⟨_,_,_,hK2⟩:=h2;rw [hK] at hK2;simp only [qa,TInfo.mk.injEq,TD.int.injEq] at hK2;obtain ⟨rfl,_⟩:=hK2;simp [Instr.sameNow,znn]
  | agg a=>
   obtain ⟨_,_,_,_,_,fs,hfs⟩:=hcx.eqs K _ _ _ h2 w;rw [zvL hcx hK] at hfs; cases hfs
  | _=>exact h2.elim
 | agg a=>
  have h:cx.eqs K a.toList a.toList=some true:=h;obtain ⟨_,_,_,_,hck,fs,hfs⟩:=hcx.eqs K _ _ _ h w;refine ⟨λe=>by simpa using hck e 9998,λes hes=> ?_⟩
  have hq:∀ en∈es,(Op.equal K (.agg a) en.key).run P w=.ok (znn (.agg a) en.key) w:=by
   intro en hen;have h2:=hes en hen;revert h2;generalize en.key=k2;intro h2;cases k2 with
   | string t=>
    obtain ⟨_,_,_,hK2⟩:=h2;rw [zsf hcx hK2] at hfs; cases hfs
   | int k' n'=>
    obtain ⟨_,_,_,hK2⟩:=h2;rw [zvL hcx hK2] at hfs; cases hfs
   | agg c=>
    have h2:cx.eqs K c.toList c.toList=some true:=h2;obtain ⟨_,_,_,hr,_,_⟩:=hcx.eqs K _ _ _ (hcx.eqk K _ _ h h2).1 w
    simpa [znn] using hr
   | _=>exact h2.elim
  cases es with
  | nil=>simp [Instr.findKey,run_underlying hfs,Instr.findNow,ztP]
  | cons en es=>
   have hno:Instr.findNow (.struct fs) (.agg a) (en::es) 0=none:=by simp [Instr.findNow,Instr.sameNow]
   simp only [Instr.findKey,Sem.run_bind,run_underlying hfs,Result.andThen_ok,hno,zSR _ _ hq]
 | _=>exact h.elim
theorem zVd {K V:Nat} {es:List MapEntry} {l:List (Value×ty V)} (ha:All2 (zE5 cx V) es l) (hk:∀ p∈l,zpR cx K p.1):∀ en∈es,zpR cx K en.key:=by
 intro en hen;obtain ⟨j,hj⟩:=List.getElem?_of_mem hen;obtain ⟨p,hp,hpe⟩:=ha.getL hj;rw [hpe.1]; exact hk p (List.mem_of_getElem? hp)
theorem zLW {V:Nat} {key:Value}:
  ∀ (es:List MapEntry) (l:List (Value×ty V)) (i:Nat),All2 (zE5 cx V) es l->
   (ztP key es i=none/\zJy key l=none/\zBc key l=false/\∀ x,zyf key x l=l++[(key,x)])\/
   (∃ (j:Nat) (en:MapEntry) (x0:ty V),es[j]? =some en/\znn key en.key=true/\ztP key es i=some (i+j,en.val)/\zJy key l=some x0/\zBc key l=true/\cx.enc V x0=[.lit en.val]/\∀ x,zyf key x l=l.set j (key,x))
 | [],l,i,ha=>by
  obtain rfl:=zTm ha;exact .inl ⟨rfl,rfl,rfl,λx=>rfl⟩
 | en::es,l,i,ha=>by
  obtain ⟨p,l',rfl,hp,ha'⟩:=zSE ha;cases hb:znn key en.key with
  | true=>
   refine .inr ⟨0,en,p.2,rfl,hb, ?_, ?_, ?_,hp.2,λx=> ?_⟩
   ·simp [ztP,hb]
   ·simp [zJy, <- hp.1,hb]
   ·simp [zBc, <- hp.1,hb]
   ·simp [zyf, <- hp.1,hb]
  | false=>
   have h0:ztP key (en::es) i=ztP key es (i+1):=by simp [ztP,hb]
   have h1:zJy key (p::l')=zJy key l':=by simp [zJy, <- hp.1,hb]
   have h2:zBc key (p::l')=zBc key l':=by simp [zBc, <- hp.1,hb]
   have h3:∀ x,zyf key x (p::l')=p::zyf key x l':=λx=>by simp [zyf, <- hp.1,hb]
   rw [h0,h1,h2];rcases zLW es l' (i+1) ha' with ⟨a1,a2,a3,a4⟩ | ⟨j,en',x0,a1,a2,a3,a4,a5,a6,a7⟩
   ·exact .inl ⟨a1,a2,a3,λx=>by rw [h3,a4]; rfl⟩
   ·exact .inr ⟨j+1,en',x0,by simpa using a1,a2,by rw [a3,show i+1+j=i+(j+1) by omega],a4,a5,a6,λx=>by rw [h3,a7]; rfl⟩
theorem zUB (hrb:RB cx e st.blk κ w) {id K V:Nat} {l:List (Value×ty V)} {fz:Bool} (hb:st.blk id=.mp K V l fz):
  ∃ b es clock,κ id=.map (some b)/\w.heap[b]? =some (.map es clock)/\All2 (zE5 cx V) es.toList l/\∀ p∈l,zpR cx K p.1:=by
 have:=hrb.blk id;rw [hb] at this;exact this
theorem zXj {T:Nat} (hcx:CxOK P cx) (ho:o.op=.makeMap T none) (h:aop cx o st=some d) (hf:RF cx e st κ a w):o.wp P a w (λa' w'=>R cx e (st.app o.dst d) a' w') Q:=by
 unfold aop zdW at h;simp only [ho] at h;split at h
 ·rename_i kt vt s1 b1 z1 dd hT hdst;obtain ⟨hfree,h⟩:=zdR h;simp only [qa] at h; subst h;obtain ⟨hn,hlt⟩:=zje hfree
  have hst:=zrz (w':=w.alloc (.map #[] 0)) (nb:=.mp kt vt [] false) (v:=.map (some w.heap.size)) hf.rb hn hlt rfl rfl rfl (by simp) (λb hb=>heap_alloc_old w _ b hb)
   (λb hb=>by simp [zS] at hb; subst hb; simp)
   (λhc=>⟨w.heap.size,#[],0,rfl,heap_alloc_new w _,.nil,λp hp=>by simp at hp⟩)
  refine zW (v:=.map (some w.heap.size)) (w':=w.alloc (.map #[] 0)) ?_ ⟨_,hf.put (κ':=λi=>if i=zK dd then .map (some w.heap.size) else κ i) ?_ ?_ (λ_=> ?_)⟩
  ·simp [execOp,ho,Instr.makeMap]
  ·rw [zcP]; exact hst.1
  ·rw [zcP]; exact hst.2
  ·rw [zcP]
   have:=RepA.mp (cx:=cx) (F:=Fz e (λj=>(gD .none ((zbA st.blks []).set (zK dd) (.mp kt vt [] false)) j)) (λi=>if i=zK dd then .map (some w.heap.size) else κ i) (w.alloc (.map #[] 0))) (w:=w.alloc (.map #[] 0))
    (kd:=λi=>((gD .none ((zbA st.blks []).set (zK dd) (.mp kt vt [] false)) i)).kind cx) (κ:=λi=>if i=zK dd then .map (some w.heap.size) else κ i) (zK dd) (by
     rw [zbr,if_pos ⟨rfl,by rw [zgh]; exact hlt⟩]; rfl)
   simpa using this
 ·cases h
theorem zX0 (hrb:RB cx e st.blk κ w) {F:Nat->Prop} {v:Value} {id K V:Nat} {l:List (Value×ty V)} {fz:Bool} (hb:st.blk id=.mp K V l fz) (hr:RepA cx F w (λi=>(st.blk i).kind cx) κ v (.mp id)):v=κ id:=by
 cases hr with
 | rep hr=>cases hr
 | mp _ h=>rfl
 | mpD _ _ h=>simp [hb,Blk.kind] at h
theorem zYG (hcx:CxOK P cx) {V:Nat} {inf:TInfo} (hV:cx.ti V=some inf) (hns:zrj inf=false) {c:AV ty} {F:Nat->Prop} {z:ty V} (hdec:cx.dec V (inf.zero.map .lit)=some z) (hc:cx.enc V z=[c]):
  ∃ u,(zeroValue V).run P w=.ok u w/\Rep cx F w u c:=by
 obtain ⟨info,desc,zv,hi,hu,hs,hb,hz,hzc,hzl,hz1,hd⟩:=(hcx.ti V _ hV).ok;have h1:=hz1.2 hns;have hcell:inf.zero=[zv]:=by rw [<- hzc,zSQ h1]
 refine ⟨zv,zDB hi hz, ?_⟩;have:=hcx.dec V _ z hdec F w inf.zero (zDk inf.zero);rw [hc,hcell] at this;exact this.head.1
theorem zXW {T:Nat} {m k:Operand} {ok:Bool} (hcx:CxOK P cx) (ho:o.op=.lookup T m k ok) (h:aop cx o st=some d) (hf:RF cx e st κ a w):o.wp P a w (λa' w'=>R cx e (st.app o.dst d) a' w') Q:=by
 unfold aop zdW at h;simp only [ho] at h;unfold zye at h;have hm:=zbY hf m;have hk:=zbY hf k;generalize hme:a.eval m=vm at hm;generalize hke:a.eval k=vk at hk;split at h
 ·rename_i kt vt s1 b1 z1 id hT hmv;rw [hmv] at hm;split at h
  ·rename_i kt' vt' l fz inf hb hV;split at h
   ·rename_i key z hbeq hkey hdec;simp only [qc,Bool.not_eq_true'] at hbeq;obtain ⟨⟨e1,e2⟩,hns⟩:=hbeq;have e1:=Nat.eq_of_beq_eq_true e1;have e2:=Nat.eq_of_beq_eq_true e2;subst e1 e2;obtain ⟨rfl,hfit⟩:=zOR hcx hk hkey;obtain ⟨bl,es,clock,hκ,hg,hent,hkeys⟩:=zUB hf.rb hb;obtain ⟨hck,hfind⟩:=zPb (w:=w) hcx hfit;have hfind:=hfind _ (zVd hent hkeys);have hvm:vm=.map (some bl):=(zX0 hf.rb hb hm).trans hκ;subst hvm;split at h
    ·rename_i c hc
     have hres:∃ u,(Instr.lookup T (.map (some bl)) vk ok).run P w=.ok (bif ok then .tuple #[u,.bool (zBc vk l)] else u) w/\Rep cx (Fz e st.blk κ w) w u c:=by
      rcases zLW (key:=vk) es.toList l 0 hent with ⟨a1,a2,a3,_⟩ | ⟨j,en,x0,_,_,a3,a4,a5,a6,_⟩
      ·rw [a2] at hc;obtain ⟨u,hu,hr⟩:=zYG (w:=w) (F:=Fz e st.blk κ w) hcx hV hns hdec hc;refine ⟨u, ?_,hr⟩;rw [a3];simp only [Instr.lookup,Sem.run_bind,zcR (zHM hcx hT),Result.andThen_ok,Go.MapKept.run_getObj_map hg,Sem.run_pure,hck,hfind,a1,hu];cases ok <;>rfl
      ·rw [a4] at hc;have hc:cx.enc vt x0=[c]:=hc;rw [a6] at hc;obtain rfl:AV.lit en.val=c:=by simpa using hc
       refine ⟨en.val, ?_,.lit _⟩;rw [a5];simp only [Instr.lookup,Sem.run_bind,zcR (zHM hcx hT),Result.andThen_ok,Go.MapKept.run_getObj_map hg,Sem.run_pure,hck,hfind,a3];cases ok <;>rfl
     obtain ⟨u,hrun,hu⟩:=hres;cases ok with
     | true=>
      simp only [qa] at h; subst h;refine zW (v:=.tuple #[u,.bool (zBc vk l)]) (w':=w) (by simp only [execOp,ho,hme,hke,hrun,Sem.run_bind,Result.andThen_ok,Sem.run_pure,cond_true]) (hf.val ?_)
      exact .tup [u,.bool (zBc vk l)] _ rfl λj u2 c2 hu2 hc2=>by
       match j with
       | 0=>simp at hu2 hc2; subst hu2 hc2; exact .rep hu
       | 1=>simp at hu2 hc2; subst hu2 hc2; exact .rep (.lit _)
       | j+2=>simp at hu2
     | false=>
      simp only [qa] at h; subst h;exact zW (v:=u) (w':=w) (by simp only [execOp,ho,hme,hke,hrun,Sem.run_bind,Result.andThen_ok,Sem.run_pure,cond_false]) (hf.val (.rep hu))
    ·cases h
   ·cases h
  ·cases h
 ·cases h
theorem zRz {s t:ByteArray} (h:(s==t)=true):s=t:=by
 obtain ⟨⟨s⟩⟩:=s;obtain ⟨⟨t⟩⟩:=t;have h:((⟨s⟩:Array UInt8)==⟨t⟩)=true:=h;rw [beq_iff_eq.1 h]
theorem zSu (s:ByteArray):(s==s)=true:=by
 obtain ⟨s⟩:=s;show (s==s)=true;simp
theorem zXD (hcx:CxOK P cx) {a b:Value} (h:znn a b=true) (K:Nat) (hk:zpR cx K a) (hk2:zpR cx K b):Instr.sameBits 10000 b a=true:=by
 cases a with
 | string s=>cases b with
  | string t=>
   have:(s==t)=true:=h;have:=zRz this;subst this;simp only [Instr.sameBits,zSu]
  | _=>simp [znn] at h
 | int k n=>cases b with
  | int k' n'=>
   have:(n==n')=true:=h;have:n=n':=by simpa using this
   subst this;obtain ⟨_,_,_,h1⟩:=hk;obtain ⟨_,_,_,h2⟩:=hk2;rw [h1] at h2;simp only [qa,TInfo.mk.injEq,TD.int.injEq] at h2;obtain ⟨rfl,_⟩:=h2;simp [Instr.sameBits]
  | _=>simp [znn] at h
 | agg c=>cases b with
  | agg d=>
   have h1:=hcx.eqk K _ _ hk hk2;have h3:=h1.2.1 h
   have h4:c=d:=by
    obtain ⟨c⟩:=c; obtain ⟨d⟩:=d;exact congrArg _ h3
   subst h4;have h5:=h1.2.2;show (c.size==c.size&&(c.toList.zip c.toList).all λ(x,y)=>Instr.sameBits 9999 x y)=true
   simp only [beq_self_eq_true,Bool.true_and,List.all_eq_true]
   rintro ⟨x,y⟩ hxy
   obtain ⟨j,hj⟩:=List.getElem?_of_mem hxy;rw [List.getElem?_zip_eq_some] at hj;have:x=y:=Option.some.inj (hj.1.symm.trans hj.2);subst this;exact h5 x (List.mem_of_getElem? hj.1) 9999
  | _=>simp [znn] at h
 | _=>simp [znn] at h
theorem zZ7 {V:Nat} {es:List MapEntry} {l:List (Value×ty V)} (ha:All2 (zE5 cx V) es l) {j:Nat} {f:MapEntry->MapEntry} {p:Value×ty V} (hf:∀ en,es[j]? =some en->zE5 cx V (f en) p):All2 (zE5 cx V) (es.modify j f) (l.set j p):=by
 refine ⟨by simp [ha.len],λi u c hu hc=> ?_⟩
 rw [List.getElem?_modify] at hu;rw [List.getElem?_set] at hc;by_cases hij:j=i
 ·subst hij;cases he:es[j]? with
  | none=>rw [he] at hu; simp at hu
  | some en=>
   rw [he] at hu;simp at hu;subst hu;split at hc
   ·simp at hc; obtain ⟨_,rfl⟩:=hc; exact hf en he
   ·exact absurd rfl ‹_›
 ·rw [if_neg hij] at hc;simp [hij] at hu;exact ha.at_ i u c hu hc
theorem zLx {T:Nat} {m k v:Operand} (hcx:CxOK P cx) (ho:o.op=.mapUpdate T m k v\/o.op=.insert T m k v) (h:aop cx o st=some d) (hf:RF cx e st κ a w):o.wp P a w (λa' w'=>R cx e (st.app o.dst d) a' w') Q:=by
 have h:zp1 cx st T (st.ev m) (st.ev k) (st.ev v) some=some d:=by
  unfold aop zdW at h;rcases ho with ho | ho <;>simp only [ho] at h <;>exact h
 unfold zp1 at h;have hm:=zbY hf m;have hk:=zbY hf k;have hv:=zbY hf v;generalize hme:a.eval m=vm at hm;generalize hke:a.eval k=vk at hk;generalize hve:a.eval v=vv at hv;split at h
 ·rename_i kt vt s1 b1 z1 id hT hmv;rw [hmv] at hm;split at h
  ·rename_i kt' vt' l hb;split at h
   ·rename_i key u hbeq hkey hvu;simp only [qc] at hbeq;obtain ⟨e1,e2⟩:=hbeq;have e1:=Nat.eq_of_beq_eq_true e1;have e2:=Nat.eq_of_beq_eq_true e2;subst e1 e2;rw [hvu] at hv;obtain rfl:=zbW hv;obtain ⟨rfl,hfit⟩:=zOR hcx hk hkey;obtain ⟨bl,es,clock,hκ,hg,hent,hkeys⟩:=zUB hf.rb hb;obtain ⟨hck,hfind⟩:=zPb (w:=w) hcx hfit;have hfind:=hfind _ (zVd hent hkeys);have hvm:vm=.map (some bl):=(zX0 hf.rb hb hm).trans hκ;subst hvm;split at h
    ·rename_i x hdec;split at h
     ·rename_i u' henc;simp only [qa] at h; subst h
      have hu':cx.enc vt x=[.lit vv]:=by
       have:=hcx.dec vt _ x hdec (λ_=>True) w [vv] (zDk [vv])
       rw [henc] at this ⊢;have:=this.head.1;cases this; rfl
      have hbl':(gD .none st.blks id)=.mp kt vt l false:=hb
      have step:∀ (es':Array MapEntry) (clock':Nat),(Instr.mapUpdate T (.map (some bl)) vk vv).run P w=.ok () { w with heap:=w.heap.setIfInBounds bl (.map es' clock') }->All2 (zE5 cx vt) es'.toList (zyf vk x l)->(∀ p∈zyf vk x l,zpR cx kt p.1)->
        o.wp P a w (λa' w'=>R cx e (st.app o.dst { val:=.dead,wr:=[(id,.mp kt vt (zyf vk x l) false)] }) a' w') Q:=by
       intro es' clock' hrun hent' hkeys'
       have hst:=zx8 (w':={ w with heap:=w.heap.setIfInBounds bl (.map es' clock') }) (nb:=.mp kt vt (zyf vk x l) false) hf.rb (n:=id) (by rw [hbl']; rfl) (by rw [hbl']; rfl) rfl rfl rfl (by simp)
        (λb2 _=>by
         by_cases h2:b2=bl
         ·subst h2; exact .inr (by rw [hκ]; rfl)
         ·exact .inl ((Go.MapKept.heap_set hg).2 b2 h2))
        (λhc=>⟨bl,es',clock',hκ,(Go.MapKept.heap_set hg).1,hent',hkeys'⟩)
       refine wp_skip (w':={ w with heap:=w.heap.setIfInBounds bl (.map es' clock') }) ?_ ⟨κ,hf.put ?_ ?_ (λ_=>.dead _)⟩
       ·rcases ho with ho | ho <;>simp only [execOp,ho,hme,hke,hve,Sem.run_bind,hrun,Result.andThen_ok,Sem.run_pure]
       ·rw [zcP]; exact hst.1
       ·rw [zcP]; exact hst.2
      rcases zLW (key:=vk) es.toList l 0 hent with ⟨a1,_,_,a4⟩ | ⟨j,en,x0,b1,b2,b3,_,_,_,b7⟩
      ·refine step (es.push { key:=vk,val:=vv,born:=clock }) (clock+1) ?_ ?_ ?_
       ·simp only [Instr.mapUpdate,Sem.run_bind,zcR (zHM hcx hT),Result.andThen_ok,Go.MapKept.run_getObj_map hg,hck,hfind,a1,Go.MapKept.run_setObj_map _ hg]
       ·rw [a4,Array.toList_push];exact hent.append (.cons ⟨rfl,hu'⟩ .nil)
       ·rw [a4];intro p hp;rcases List.mem_append.1 hp with hp | hp
        ·exact hkeys p hp
        ·simp at hp; subst hp; exact hfit
      ·have hen:es[j]? =some en:=by simpa using b1
       have hfen:zpR cx kt en.key:=by
        obtain ⟨p,hp,hpe⟩:=hent.getL b1;rw [hpe.1]; exact hkeys p (List.mem_of_getElem? hp)
       have hst:(Instr.keyThatStays (((es[j]?).map (·.key)).getD vk) vk).run P w=.ok vk w:=by
        rw [hen];simp only [Instr.keyThatStays,Option.map_some,Option.getD_some,zXD hcx b2 kt hfit hfen,if_true,Sem.run_pure]
       refine step (es.modify j λe=>{ e with key:=vk,val:=vv }) clock ?_ ?_ ?_
       ·simp only [Instr.mapUpdate,Sem.run_bind,zcR (zHM hcx hT),Result.andThen_ok,Go.MapKept.run_getObj_map hg,hck,hfind,b3,Nat.zero_add,hst,Go.MapKept.run_setObj_map _ hg]
       ·rw [b7,Array.toList_modify];exact zZ7 hent λen' _=>⟨rfl,hu'⟩
       ·rw [b7];intro p hp;rcases List.mem_or_eq_of_mem_set hp with hp | hp
        ·exact hkeys p hp
        ·subst hp; exact hfit
     ·cases h
    ·cases h
   ·cases h
  ·cases h
 ·cases h
end
end
end Go.Ab
/- Every operation, and regions, against the machine's. -/
namespace Go.Ab
noncomputable section
variable {ty:Nat->Type}
section
variable {P:Program} {cx:Cx ty} {e:Env} {st:St ty} {κ:Nat->Value} {a:Act} {w:World} {o:Oper} {d:Delta ty} {Q:Exit->Act->World->Prop} {α:Type}
theorem ztn {b:Bool} {x:Option (Delta ty)} {K:Delta ty->Option α}:(bif b then x else none).bind K=bif b then x.bind K else none:=by cases b <;>rfl
theorem zW7 (dst:Option Tmp) (f:Nat) (ts:List Nat) (vs:List (AV ty)) (K:Delta ty->Option α):zsV cx st dst f ts vs K=(zsV cx st dst f ts vs some).bind K:=by
 unfold zsV
 repeat' (split <;>try rfl)
 all_goals (rw [ztn]; congr 1)
 all_goals (repeat' (split <;>try rfl))
theorem zWG (s:CSpec ty) (ts:List Nat) (vs:List (AV ty)) (K:Delta ty->Option α):zsL cx st s ts vs K=(zsL cx st s ts vs some).bind K:=by
 unfold zsL
 repeat' (split <;>try rfl)
 all_goals (rw [ztn]; rfl)
theorem zVw (T:Nat) (x:AV ty) (lo hi:Option Int) (K:Delta ty->Option α):zoz cx T st x lo hi K=(zoz cx T st x lo hi some).bind K:=by
 unfold zoz
 repeat' (split <;>try rfl)
 all_goals (rw [ztn]; first | rfl | (congr 1; repeat' (split <;>try rfl)))
theorem zUg (dst:Option Tmp) (T:Nat) (s x:AV ty) (K:Delta ty->Option α):zon cx st dst T s x K=(zon cx st dst T s x some).bind K:=by
 unfold zon
 repeat' (split <;>try rfl)
 all_goals (rw [ztn]; rfl)
theorem zUq (dst:Option Tmp) (T T':Nat) (s x:AV ty) (K:Delta ty->Option α):zp7 cx st dst T T' s x K=(zp7 cx st dst T T' s x some).bind K:=by
 unfold zp7
 repeat' (split <;>try rfl)
 all_goals (rw [ztn]; rfl)
theorem zTo (dst:Option Tmp) (b:Builtin) (ts:List Nat) (vs:List (AV ty)) (K:Delta ty->Option α):zgj cx st dst b ts vs K=(zgj cx st dst b ts vs some).bind K:=by
 unfold zgj
 repeat' (split <;>try rfl)
 all_goals first | exact zUg .. | exact zUq .. | (rw [ztn]; rfl)
theorem zUW (T:Nat) (m k:AV ty) (ok:Bool) (K:Delta ty->Option α):zye cx st T m k ok K=(zye cx st T m k ok some).bind K:=by
 unfold zye
 repeat' (split <;>try rfl)
theorem zVk (T:Nat) (m k v:AV ty) (K:Delta ty->Option α):zp1 cx st T m k v K=(zp1 cx st T m k v some).bind K:=by
 unfold zp1
 repeat' (split <;>try rfl)
theorem zSG (K:Delta ty->Option α):zdW cx o st K=(aop cx o st).bind K:=by
 unfold aop zdW
 repeat' (split <;>try rfl)
 all_goals first | exact zW7 .. | exact zWG .. | exact zVw .. | exact zTo .. | exact zUW .. | exact zVk .. | (rw [ztn]; rfl)
theorem zS4 (hcx:CxOK P cx) (hspec:∀ f s,cx.spec f=some s->Sound P cx f s) (h:aop cx o st=some d) (hf:RF cx e st κ a w):o.wp P a w (λa' w'=>R cx e (st.app o.dst d) a' w') Q:=by
 cases ho:o.op with
 | move x=>exact zV2 (.inl ho) h hf
 | assign x=>exact zV2 (.inr ho) h hf
 | pick c x y=>exact zZQ ho h hf
 | alloc T=>exact zYy hcx ho h hf
 | box T x=>exact z0i hcx ho h hf
 | build T ps=>exact zYw hcx ho h hf
 | buildSlice T n ps=>exact zTy hcx ho h hf
 | load T x=>exact zZ0 hcx ho h hf
 | store T x y=>exact zYp hcx ho h hf
 | nilCheck x=>exact zVI hcx ho h hf
 | binOp b T x y T'=>exact zYR hcx ho h hf
 | unOp u T x=>exact zZr ho h hf
 | convert S D x=>exact zXe hcx ho h hf
 | makeFunc fn first caps=>
  cases fn with
  | func g=>exact zVx ho h hf
  | _=>unfold aop zdW at h; simp only [ho] at h; cases h
 | makeSlice T x y=>exact zUT hcx ho h hf
 | makeMap T r=>
  cases r with
  | none=>exact zXj hcx ho h hf
  | some m=>unfold aop zdW at h; simp only [ho] at h; cases h
 | lookup T m k ok=>exact zXW hcx ho h hf
 | mapUpdate T m k v=>exact zLx hcx (.inl ho) h hf
 | insert T m k v=>exact zLx hcx (.inr ho) h hf
 | slice T x lo hi mx=>
  cases mx with
  | none=>exact zYs hcx ho h hf
  | some m=>unfold aop zdW at h; simp only [ho] at h; cases h
 | fieldAddr S x f=>exact zVb hcx ho h hf
 | field S x f=>exact zY5 hcx ho h hf
 | indexAddr T x i=>exact zUP hcx ho h hf
 | index T x i=>exact zYA hcx ho h hf
 | extract x i=>exact zWP ho h hf
 | call c=>
  obtain ⟨callee,args,ts⟩:=c;cases callee with
  | value f=>exact zZ1 hcx hspec ho h hf
  | invoke r m=>unfold aop zdW at h; simp only [ho] at h; cases h
  | builtin b=>
   cases b with
   | len=>exact z0u hcx ho h hf
   | append=>exact zXL hcx ho h hf
   | cap=>exact z0Q hcx ho h hf
   | min=>exact zS1 (.inl rfl) ho h hf
   | max=>exact zS1 (.inr rfl) ho h hf
   | clear=>exact zYK hcx ho h hf
   | _=>unfold aop zdW zgj at h; simp only [ho] at h; cases h
 | _=>unfold aop zdW at h; simp only [ho] at h; cases h
def zfN (cx:Cx ty) (ops:Array Oper) (o:Oper) (st:St ty):Option (Delta ty):=
 match o.guard with
 | none=>aop cx o st
 | some (g,want)=>match (ops[g]?).bind (·.dst) with
  | none=>none
  | some t=>match st.get t with
   | .lit (.bool b)=>bif (b==want) then aop cx o st else some zH8
   | .lit (.tuple _)=>some zH8
   | _=>none
theorem zEW {t:Nat} {v:AV ty} (h:st.get t=v) (hne:v≠.dead):st.setT t v=st:=by
 rw [St.setT_def]
 have:st.tmps.set t v=st.tmps:=by
  apply List.ext_getElem?;intro j;rw [List.getElem?_set];split
  ·rename_i hj; subst hj;split
   ·rename_i hl;rw [St.get_def] at h;rw [List.getD_eq_getElem?_getD,List.getElem?_eq_getElem hl] at h;rw [List.getElem?_eq_getElem hl]
    simpa using h.symm
   ·rename_i hl;rw [List.getElem?_eq_none (by omega)]
  ·rfl
 rw [this]
theorem zSN {t:Tmp} {K:St ty->Option α}:zRD st t K=K st:=by
 unfold zRD;split
 ·rename_i b hb;cases b with
  | true=>simp only [cond_true]; rw [zEW hb (by simp)]
  | false=>simp only [cond_false]; rw [zEW hb (by simp)]
 ·rfl
theorem zUI {K:Delta ty->St ty->Option α}:zTJ cx o st K=(aop cx o st).bind λd=>K d st:=by
 unfold zTJ;split
 ·rw [zSN,zSG]
 ·rw [zSG]
theorem zIh {ops:Array Oper} {K:Delta ty->St ty->Option α}:zQz cx ops o st K=(zfN cx ops o st).bind λd=>K d st:=by
 unfold zQz zfN;cases hg:o.guard with
 | none=>exact zUI
 | some gw=>
  obtain ⟨g,want⟩:=gw
  dsimp only
  rw [zW0,Array.getElem?_toList];cases ht:(ops[g]?).bind (·.dst) with
  | none=>rfl
  | some t=>
   dsimp only
   rw [zSN];cases hv:st.get t with
   | lit v=>
    cases v with
    | bool b=>
     dsimp only
     cases (b==want) with
     | true=>simp only [cond_true]; exact zUI
     | false=>rfl
    | _=>rfl
   | _=>rfl
theorem RF.skip (hf:RF cx e st κ a w) (dst:Option Tmp):R cx e (st.app dst zH8) (a.put dst undef) w:=hf.val (rd:=[]) (.rep (.lit undef))
theorem zOH (hcx:CxOK P cx) (hspec:∀ f s,cx.spec f=some s->Sound P cx f s) {ops:Array Oper} {i:Nat} (hi:ops[i]? =some o) (h:zfN cx ops o st=some d) (hf:RF cx e st κ a w):
  wpOp P ops Q i (λa' w'=>R cx e (st.app o.dst d) a' w') a w:=by
 unfold wpOp;simp only [hi];unfold zfN at h;split at h
 ·rename_i hg;have:Region.wanted o (yielded ops a.tmps)=true:=by simp [Region.wanted,hg]
  rw [if_pos this];exact .inl (zS4 hcx hspec h hf)
 ·rename_i g want hg;split at h
  ·cases h
  ·rename_i t ht;have hr:=hf.tmps t;split at h
   ·rename_i b hb;rw [hb] at hr;have hv:=zbW hr
    have hget:a.tmps[t]? =some (.bool b):=by
     rw [Array.getD_eq_getD_getElem?] at hv;cases hx:a.tmps[t]? with
     | none=>rw [hx] at hv; simp [undef] at hv
     | some x=>rw [hx] at hv; simp at hv; rw [hv]
    have hy:yielded ops a.tmps g=some b:=by unfold yielded; rw [ht]; simp only [Option.bind_some,hget]
    have hw:Region.wanted o (yielded ops a.tmps)=(b==want):=by
     unfold Region.wanted; rw [hg]; simp only [hy]; cases b <;>cases want <;>rfl
    rw [hw];cases hbw:(b==want) with
    | true=>
     rw [hbw] at h;simp only [cond_true] at h;simp only [if_true];exact .inl (zS4 hcx hspec h hf)
    | false=>
     rw [hbw] at h;simp only [cond_false,qa] at h; subst h;simp only [Bool.false_eq_true,if_false];exact hf.skip o.dst
   ·rename_i vs hb;rw [hb] at hr;have hv:=zbW hr
    have hy:yielded ops a.tmps g=none:=by
     unfold yielded; rw [ht]; simp only [Option.bind_some];rw [Array.getD_eq_getD_getElem?] at hv;cases hx:a.tmps[t]? with
     | none=>rfl
     | some x=>rw [hx] at hv; simp at hv; rw [hv]
    have hw:Region.wanted o (yielded ops a.tmps)=false:=by
     unfold Region.wanted; rw [hg]; simp only [hy]; rfl
    rw [hw];simp only [qa] at h; subst h;simp only [Bool.false_eq_true,if_false];exact hf.skip o.dst
   ·cases h
theorem zKc (hcx:CxOK P cx) (hspec:∀ f s,cx.spec f=some s->Sound P cx f s) {ops:Array Oper} {K:St ty->Option α} {r:α} (hQ:∀ st a w,K st=some r->R cx e st a w->Q .normal a w):
  ∀ (l:List Oper) (off:Nat) (st:St ty) (a:Act) (w:World),(∀ j:Nat,l[j]? =ops[off+j]?)->zNI cx ops l st K=some r->R cx e st a w->wpOps P ops Q (List.range' off l.length) a w
 | [],off,st,a,w,_,h,hR=>hQ st a w h hR
 | o::l,off,st,a,w,hl,h,hR=>by
  obtain ⟨κ,hf⟩:=hR;simp only [zNI,zIh] at h;cases hd:zfN cx ops o st with
  | none=>rw [hd] at h; cases h
  | some d=>
   rw [hd] at h;simp only [Option.bind_some] at h;have h0:ops[off]? =some o:=by simpa using (hl 0).symm
   simp only [qf,List.range'_succ,wpOps_cons];refine wpOp_mono (λa' w' hR'=> ?_) (zOH hcx hspec h0 hd hf)
   exact zKc hcx hspec hQ l (off+1) _ a' w' (λj=>by have:=hl (j+1); simpa [Nat.add_assoc,Nat.add_comm 1 j] using this) h hR'
end
end
end Go.Ab
/- What an operation looks at: its operands, and the blocks that it says it reads. -/
namespace Go.Ab
noncomputable section
variable {ty:Nat->Type}
section
variable {cx:Cx ty} {st st':St ty} {o:Oper} {d:Delta ty} {α:Type}
theorem zoU (h:st'.blks=st.blks) (i:Nat):st'.blk i=st.blk i:=by unfold St.blk; rw [h]
theorem zoR (h:st'.blks=st.blks) (i:Nat):zdG st' i=zdG st i:=by unfold zdG; rw [h]
theorem zXY (h:st'.blks=st.blks) (i:Nat):zo3 st' i=zo3 st i:=by unfold zo3; rw [zoU h]
theorem zYg (h:st'.blks=st.blks):AV.isCell st'=AV.isCell st:=by funext v; cases v <;>simp only [AV.isCell,zXY h]
theorem zIz (h:st'.blks=st.blks) (v:AV ty):v.cells st'=v.cells st:=by unfold AV.cells; simp only [zYg h]
theorem zFa (h:st'.blks=st.blks):∀ n,zbn cx st' n=zbn cx st n
 | 0=>rfl
 | n+1=>by funext v; cases v <;>simp only [zbn,zoU h,zFa h n]
theorem zIg (h:st'.blks=st.blks) (v:AV ty):zdN cx st' v=zdN cx st v:=by cases v <;>simp only [zdN,zoU h]
theorem zE3 (h:st'.blks=st.blks) (v:AV ty):zc9 st' v=zc9 st v:=by cases v <;>simp only [zc9,zoU h]
theorem zLF (h:st'.blks=st.blks) (fs:List (Nat×Nat)):∀ (l:List (Nat×AV ty)) (cs:List (AV ty)),zhy cx st' fs cs l=zhy cx st fs cs l
 | [],cs=>rfl
 | (i,v)::r,cs=>by simp only [zhy,zIz h,zLF h fs r]
theorem zMJ (h:st'.blks=st.blks) (e:Nat):∀ (l:List (Nat×AV ty)) (n:Nat),zkc cx st' e n l=zkc cx st e n l
 | [],n=>rfl
 | (i,v)::r,n=>by simp only [zkc,zIz h,zFa h,zMJ h e r]
theorem zIo (h:st'.blks=st.blks):∀ (vs:List (AV ty)) (io:List Bool) (ts:List Nat),zgM cx st' io ts vs=zgM cx st io ts vs
 | [],io,ts=>rfl
 | v::vs,io,ts=>by simp only [zgM,zIo h vs,zoU h,zFa h]
theorem zQV (h:st'.blks=st.blks):∀ (ids:List Nat) (us:List (Option ((T:Nat)×List (ty T)))),zeV st' ids us=zeV st ids us
 | [],[]=>rfl
 | [],_::_=>rfl
 | _::_,[]=>rfl
 | id::ids,u::us=>by simp only [zeV,zQV h ids,zoU h]
theorem zIt (h:st'.blks=st.blks):∀ (l:List (Nat×Blk ty)),zi9 st' l=zi9 st l
 | []=>rfl
 | (i,b)::r=>by simp only [zi9,zoR h,zIt h r]
theorem zY8 (h:st'.blks=st.blks) (dst:Option Tmp) (f:Nat) (ts:List Nat) (vs:List (AV ty)) (K:Delta ty->Option α):zsV cx st' dst f ts vs K=zsV cx st dst f ts vs K:=by
 unfold zsV; simp only [zIo h,zQV h,zIt h]
theorem zW8 (h:st'.blks=st.blks) (T id:Nat):zot st' T id=zot st T id:=by unfold zot; simp only [zoU h]
theorem zYO (h:st'.blks=st.blks) (s:CSpec ty) (ts:List Nat) (vs:List (AV ty)) (K:Delta ty->Option α):zsL cx st' s ts vs K=zsL cx st s ts vs K:=by
 unfold zsL; simp only [zIo h,zW8 h,zoR h]
theorem zXp (h:st'.blks=st.blks) (T:Nat) (x:AV ty) (lo hi:Option Int) (K:Delta ty->Option α):zoz cx T st' x lo hi K=zoz cx T st x lo hi K:=by
 unfold zoz; simp only [zE3 h]
theorem zWk (h:st'.blks=st.blks) (dst:Option Tmp) (T:Nat) (s x:AV ty) (K:Delta ty->Option α):zon cx st' dst T s x K=zon cx st dst T s x K:=by
 unfold zon; simp only [zE3 h,zoR h,zoU h]
theorem zWD (h:st'.blks=st.blks) (dst:Option Tmp) (T T':Nat) (s x:AV ty) (K:Delta ty->Option α):zp7 cx st' dst T T' s x K=zp7 cx st dst T T' s x K:=by
 unfold zp7; simp only [zoR h]
theorem zVu (h:st'.blks=st.blks) (dst:Option Tmp) (b:Builtin) (ts:List Nat) (vs:List (AV ty)) (K:Delta ty->Option α):zgj cx st' dst b ts vs K=zgj cx st dst b ts vs K:=by
 unfold zgj; simp only [zE3 h,zWk h,zWD h,zoU h]
theorem zSL {x:Option Operand} (h:∀ y∈x.toArray,st'.ev y=st.ev y):ztF st' x=ztF st x:=by
 cases x with
 | none=>rfl
 | some y=>unfold ztF; simp only [h y (by simp)]
theorem zU8 {ps:List (Nat×Operand)} (h:∀ y∈ps.map (·.2),st'.ev y=st.ev y):(ps.map λ(i,x)=>(i,st'.ev x))=ps.map λ(i,x)=>(i,st.ev x):=by
 apply List.map_congr_left;intro p hp;simp only [h p.2 (List.mem_map.2 ⟨p,hp,rfl⟩)]
theorem z0x {ps:List (Nat×Operand)} (h:∀ y∈ps.map (·.2),st'.ev y=st.ev y):(ps.flatMap λp=>(st'.ev p.2).ids1)=ps.flatMap λp=>(st.ev p.2).ids1:=by
 rw [List.flatMap_def,List.flatMap_def];congr 1;apply List.map_congr_left;intro p hp;rw [h p.2 (List.mem_map.2 ⟨p,hp,rfl⟩)]
theorem z0E (hb:st'.blks=st.blks) (hev:∀ x∈o.op.operands,st'.ev x=st.ev x):aop cx o st'=aop cx o st:=by
 unfold aop zdW;cases ho:o.op <;>rw [ho] at hev <;>simp only [Op.operands] at hev
 case buildSlice T n ps=>simp only [zU8 (ps:=ps.toList) (λy hy=>hev y (by simpa using hy)),zMJ hb,zoR hb]
 case build T ps=>simp only [zU8 (ps:=ps.toList) (λy hy=>hev y (by simpa using hy)),z0x (ps:=ps.toList) (λy hy=>hev y (by simpa using hy)),zLF hb]
 case slice T x lo hi mx=>
  cases mx with
  | some _=>rfl
  | none=>simp only [hev x (by simp),zSL (x:=lo) (λy hy=>hev y (by simp at hy ⊢; simp [hy])),zSL (x:=hi) (λy hy=>hev y (by simp at hy ⊢; simp [hy])),zXp hb]
 case makeFunc fn first caps=>
  cases fn with
  | func g=>
   have:caps.toList.map st'.ev=caps.toList.map st.ev:=List.map_congr_left λx hx=>hev x (by simp at hx ⊢; exact .inr hx)
   simp only [this]
  | _=>rfl
 case call c=>
  obtain ⟨callee,args,ts⟩:=c;simp only [Call.operands] at hev;have hargs:args.toList.map st'.ev=args.toList.map st.ev:=List.map_congr_left λx hx=>hev x (by cases callee <;>simp at hx ⊢ <;>simp [hx])
  cases callee with
  | value f=>simp only [hev f (by simp),hargs,zY8 hb,zYO hb]
  | invoke r m=>rfl
  | builtin b=>simp only [hargs,zVu hb]
 case pick c a b=>simp only [hev c (by simp),hev a (by simp),hev b (by simp)]
 case binOp b T x y u=>simp only [hev x (by simp),hev y (by simp)]
 case store T x y=>simp only [hev x (by simp),hev y (by simp),zIz hb,zoU hb,zFa hb]
 case makeSlice T x y=>simp only [hev x (by simp),hev y (by simp),zoR hb]
 case makeMap T r=>
  cases r with
  | none=>simp only [zoR hb]
  | some m=>rfl
 case lookup T m k ok=>simp only [hev m (by simp),hev k (by simp),zye,zoU hb]
 case mapUpdate T m k v=>simp only [hev m (by simp),hev k (by simp),hev v (by simp),zp1,zoU hb]
 case insert T m k v=>simp only [hev m (by simp),hev k (by simp),hev v (by simp),zp1,zoU hb]
 case indexAddr T x y=>simp only [hev x (by simp),hev y (by simp),zoU hb]
 case index T x y=>simp only [hev x (by simp),hev y (by simp)]
 case alloc T=>simp only [zoR hb]
 case box T x=>simp only [hev x (by simp),zoR hb,zIz hb]
 case load T x=>simp only [hev x (by simp),zIg hb]
 case nilCheck x=>simp only [hev x (by simp),zIg hb]
 case unOp u T x=>simp only [hev x (by simp)]
 case convert S D x=>simp only [hev x (by simp),zE3 hb]
 case fieldAddr S x f=>simp only [hev x (by simp),zIg hb]
 case field S x f=>simp only [hev x (by simp)]
 case extract x i=>simp only [hev x (by simp)]
 case move x=>simp only [hev x (by simp)]
 case assign x=>simp only [hev x (by simp)]
theorem zJR {f g:AV ty->Option (AV ty×List Nat)} (h:∀ v v',f v=some (v',[])->g v=some (v',[])):∀ (l l':List (AV ty)),zes f l=some (l',[])->zes g l=some (l',[])
 | [],l',hl=>hl
 | c::cs,l',hl=>by
  simp only [zes] at hl ⊢;split at hl
  ·cases hl
  ·rename_i c' i hc;split at hl
   ·cases hl
   ·rename_i cs' is hcs;simp only [qa,qb,List.append_eq_nil_iff] at hl;obtain ⟨rfl,rfl,rfl⟩:=hl;rw [h c c' hc,zJR h cs cs' hcs];rfl
theorem zMq (st':St ty):∀ (n:Nat) (v v':AV ty),zbn cx st n v=some (v',[])->zbn cx st' n v=some (v',[])
 | 0,v,v',h=>by simp [zbn] at h
 | n+1,v,v',h=>by
  cases v with
  | own id=>simp only [zbn] at h; split at h <;>simp at h
  | sub id lo k=>simp only [zbn] at h; split at h <;>simp at h
  | ptr id off=>simp only [zbn] at h; split at h <;>(try split at h) <;>simp at h
  | eptr id ix off=>simp only [zbn] at h; split at h <;>simp at h
  | agg cs=>
   simp only [zbn] at h ⊢;split at h
   ·rename_i cs' is hcs;simp only [qa,qb] at h;obtain ⟨rfl,rfl⟩:=h;rw [zJR (zMq st' n) cs cs' hcs]
   ·cases h
  | fn f cs=>
   simp only [zbn] at h ⊢;split at h
   ·rename_i cs' is hcs;simp only [qa,qb] at h;obtain ⟨rfl,rfl⟩:=h;rw [zJR (zMq st' n) cs cs' hcs]
   ·cases h
  | _=>exact h
theorem zMR (st st':St ty) {v:AV ty} (h:v.cellId=[]):v.isCell st'=v.isCell st:=by
 cases v <;>simp only [AV.cellId] at h <;>first | rfl | cases h
theorem zYV (st st':St ty) {v:AV ty} (h:v.ids1=[]):v.cells st'=v.cells st:=by
 cases v with
 | agg cs=>
  simp only [AV.ids1,List.flatMap_eq_nil_iff] at h
  have:cs.all (AV.isCell st')=cs.all (AV.isCell st):=by
   rw [Bool.eq_iff_iff,List.all_eq_true,List.all_eq_true];exact ⟨λhh x hx=>(zMR st st' (h x hx)) ▸ hh x hx,λhh x hx=>(zMR st st' (h x hx)).symm ▸ hh x hx⟩
  simp only [AV.cells,this]
 | _=>simp only [AV.ids1] at h; simp only [AV.cells,zMR st st' h]
theorem zM6 (st st':St ty) (fs:List (Nat×Nat)):∀ (l:List (Nat×AV ty)) (cs:List (AV ty)),(∀ p∈l,p.2.ids1=[])->zhy cx st' fs cs l=zhy cx st fs cs l
 | [],cs,_=>rfl
 | (i,v)::r,cs,h=>by
  simp only [zhy,zYV st st' (h (i,v) (by simp)),λcs=>zM6 st st' fs r cs λp hp=>h p (by simp [hp])]
theorem zIJ (st':St ty) {v:AV ty} {cs:List (AV ty)} {off:Nat} (h:zdN cx st v=some (cs,off,[])):zdN cx st' v=some (cs,off,[]):=by
 cases v with
 | ptr id o=>simp only [zdN] at h; split at h <;>simp at h
 | eptr id ix o=>simp only [zdN] at h; split at h <;>simp at h
 | _=>exact h
theorem zLC (st':St ty) {v:AV ty} {l:(T:Nat)×List (ty T)} (h:zc9 st v=some (l,[])):zc9 st' v=some (l,[]):=by
 cases v with
 | own id=>simp only [zc9] at h; split at h <;>simp at h
 | sub id lo n=>simp only [zc9] at h; split at h <;>simp at h
 | _=>exact h
theorem zJu (st':St ty):∀ (vs:List (AV ty)) (io:List Bool) (ts:List Nat) (as:List (Arg ty)),zgM cx st io ts vs=some (as,[],[])->zgM cx st' io ts vs=some (as,[],[])
 | [],io,ts,as,h=>h
 | v::vs,io,ts,as,h=>by
  simp only [zgM] at h ⊢;split at h
  ·cases h
  ·rename_i as' fz mv has;split at h
   ·split at h
    ·split at h
     ·simp at h
     ·cases h
    ·cases h
   ·rename_i hio;split at h
    ·cases h
    ·rename_i a ids ha;split at h
     ·cases h
     ·rename_i a' ha';simp only [qa,qb,List.append_eq_nil_iff] at h;obtain ⟨rfl,⟨rfl,rfl⟩,rfl⟩:=h;rw [zJu st' vs _ _ as' has];have hp:=zMq (cx:=cx) st' zcD v a ha
      dsimp only
      simp only [hp,ha']; rfl
theorem zOZ {ids:List Nat} {us:List (Option ((T:Nat)×List (ty T)))} (h:zeV st ids us=some []):ids=[]/\us=[]:=by
 cases ids with
 | nil=>cases us with
  | nil=>exact ⟨rfl,rfl⟩
  | cons u us=>simp [zeV] at h
 | cons id ids=>cases us with
  | nil=>simp [zeV] at h
  | cons u us=>
   simp only [zeV] at h
   repeat' (split at h)
   all_goals simp at h
theorem zYT (st':St ty) {dst:Option Tmp} {f:Nat} {ts:List Nat} {vs:List (AV ty)} (h:zsV cx st dst f ts vs some=some d) (hw:d.wr=[]) (hr:d.rd=[]):zsV cx st' dst f ts vs some=some d:=by
 unfold zsV at h ⊢;split at h
 ·cases h
 ·rename_i s hs;split at h
  ·cases h
  ·rename_i as fz mv has;split at h
   ·cases h
   ·rename_i hd;split at h
    ·cases h
    ·rename_i pre res hres;cases pre with
     | false=>cases h
     | true=>
      simp only [cond_true] at h;split at h
      ·cases h
      ·rename_i us hus;split at h
       ·rename_i t;split at h
        ·rename_i hal;simp only [qa] at h;subst h;simp only [List.append_eq_nil_iff] at hw hr;obtain ⟨rfl,hws⟩:=hw;obtain ⟨rfl,hup⟩:=zOZ hus;subst hr;rw [zJu st' vs _ _ as has];simp only [hd,hres,cond_true,hup,zeV,hws,zi9,Bool.true_and] at hal ⊢;rw [hal]
        ·cases h
       ·split at h
        ·rename_i hrv;simp only [qa] at h;subst h;simp only at hw hr;subst hw hr;obtain ⟨rfl,hup⟩:=zOZ hus;rw [zJu st' vs _ _ as has];simp only [hd,hres,cond_true,hup,zeV,hrv]
        ·cases h
theorem zez {β:Type} {c:Bool} {x:Option β} {d:β} (h:(bif c then x else none)=some d):x=some d:=by cases c with | true=>exact h | false=>cases h
theorem zYa (st':St ty) {T:Nat} {x:AV ty} {lo hi:Option Int} (h:zoz cx T st x lo hi some=some d) (hr:d.rd=[]):zoz cx T st' x lo hi some=some d:=by
 unfold zoz at h ⊢;split at h
 ·exact h
 ·exact h
 ·rename_i hns hns2;split at h
  ·rename_i e sz bt z T' xs rd hti hl;split at h
   ·cases h
   ·rename_i hb;generalize hcnd:(decide (0<=lo.getD 0)&&decide (lo.getD 0<=hi.getD xs.length)&&decide (hi.getD xs.length<=xs.length))=cnd at h;cases cnd with
    | false=>cases h
    | true=>
     simp only [cond_true] at h
     have hrd:rd=[]:=by
      split at h
      ·simp only [zc9,qa,qb] at hl; exact hl.2.symm
      ·simp only [qa] at h; subst h; exact hr
      ·simp only [qa] at h; subst h; exact hr
      ·cases h
     subst hrd;simp only [hti,zLC st' hl,hb,hcnd,cond_true];exact h
  ·cases h
theorem zVC (st':St ty) {dst:Option Tmp} {b:Builtin} {ts:List Nat} {vs:List (AV ty)} (h:zgj cx st dst b ts vs some=some d) (hw:d.wr=[]) (hr:d.rd=[]):zgj cx st' dst b ts vs some=some d:=by
 unfold zgj at h ⊢;split at h
 ·split at h
  ·exact h
  ·rename_i hti;split at h
   ·exact h
   ·split at h
    ·simp only [qa] at h; subst h; simp at hr
    ·cases h
   ·rename_i v h1 h2;split at h
    ·rename_i T' l rd hl;simp only [qa] at h; subst h;simp only at hr; subst hr;simp only [hti,zLC st' hl]
    ·cases h
  ·split at h
   ·split at h
    ·simp only [qa] at h; subst h; simp at hr
    ·cases h
   ·cases h
  ·cases h
 ·split at h
  ·unfold zon at h
   repeat' (split at h)
   all_goals first
    | (cases h; done)
    | (have h:=zez h; simp only [qa] at h; subst h; simp at hw; done)
    | (have h:=zez h; simp only [qa] at h; subst h; simp at hw; done)
  ·unfold zp7 at h
   repeat' (split at h)
   all_goals first
    | (cases h; done)
    | (have h:=zez h; simp only [qa] at h; subst h; simp at hw; done)
 ·exact h
 ·exact h
 ·exact h
 ·repeat' (split at h)
  all_goals first
   | (cases h; done)
   | (have h:=zez h; simp only [qa] at h; subst h; simp at hw; done)
 ·cases h
theorem zQA {st st':St ty} (ht:st'.tmps=st.tmps):st'.ev=st.ev:=by
 funext x; cases x <;>simp only [St.ev,St.get,ht]
theorem zZc {s:CSpec ty} {ts:List Nat} {vs:List (AV ty)} (h:zsL cx st s ts vs some=some d):d.wr≠[]:=by
 unfold zsL at h
 repeat' (split at h)
 all_goals first
  | (cases h; done)
  | (rename_i pre l' _
     cases pre with
     | false=>cases h
     | true=>
      simp only [cond_true,qa] at h;subst h;simp [zjC])
theorem zSW {st st':St ty} (ht:st'.tmps=st.tmps) (x:Option Operand):ztF st' x=ztF st x:=by
 cases x <;>simp only [ztF,zQA ht]
theorem zXC (st':St ty) (ht:st'.tmps=st.tmps) (h:aop cx o st=some d) (he:d.foot.empty=true):aop cx o st'=some d:=by
 have hw:d.wr=[]:=by simp [Delta.foot,Foot.empty] at he; exact he.1.1
 have hf:d.fz=[]:=by simp [Delta.foot,Foot.empty] at he; exact he.1.2
 have hr:d.rd=[]:=by simp [Delta.foot,Foot.empty] at he; exact he.2
 unfold aop zdW at h ⊢;cases ho:o.op <;>simp only [ho] at h ⊢ <;>(try simp only [zQA ht,zSW ht]) <;>first | exact h | skip
 case convert S D x=>
  split at h
  ·exact h
  ·exact h
  ·rename_i hS hD;split at h
   ·rename_i he' hl;split at h
    ·rename_i hk hns;simp only [qa] at h; subst h;simp only at hr; subst hr;simp only [hS,hD,he',zLC st' hl,hk,hns]
    ·cases h
   ·cases h
  ·cases h
 case makeFunc fn first caps=>
  cases fn <;>first | exact h | (simp only [zQA ht]; exact h)
 case alloc T=>
  repeat' (split at h)
  all_goals first
   | (cases h; done)
   | (have h:=zez h; simp only [qa] at h; subst h; simp at hw; done)
 case box T x=>
  repeat' (split at h)
  all_goals first
   | (cases h; done)
   | (have h:=zez h; simp only [qa] at h; subst h; simp at hw; done)
 case build T ps=>
  split at h
  ·rename_i fs sz bt z hti;split at h
   ·rename_i cs hcs;simp only [qa] at h; subst h;simp only [List.flatMap_eq_nil_iff] at hr
    rw [zM6 st st' fs _ _ (λp hp=>by
     obtain ⟨q,hq,rfl⟩:=List.mem_map.1 hp;exact hr q hq),hcs]
   ·cases h
  ·cases h
 case buildSlice T n ps=>
  repeat' (split at h)
  all_goals first
   | (cases h; done)
   | (simp only [qa] at h; subst h; simp at hw)
 case load T x=>
  split at h
  ·rename_i i cs off rd hti hc;split at h
   ·rename_i v hv;simp only [qa] at h; subst h; simp only at hr; subst hr;simp only [hti,zIJ st' hc,hv]
   ·cases h
  ·cases h
 case store T x y=>
  repeat' (split at h)
  all_goals first
   | (cases h; done)
   | (simp only [qa] at h; subst h; simp at hw; done)
   | (have h:=zez h; simp only [qa] at h; subst h; simp at hw; done)
 case nilCheck x=>
  split at h
  ·exact h
  ·split at h
   ·rename_i cs off rd hc;simp only [qa] at h; subst h; simp only at hr; subst hr;simp only [zIJ st' hc]
   ·cases h
 case makeMap T r=>
  cases r with
  | some m=>exact h
  | none=>
   simp only at h ⊢
   repeat' (split at h)
   all_goals first
    | (cases h; done)
    | (have h:=zez h; simp only [qa] at h; subst h; simp at hw; done)
 case lookup T m k ok=>
  unfold zye at h
  repeat' (split at h)
  all_goals first
   | (cases h; done)
   | (simp only [qa] at h; subst h; simp at hr; done)
 case mapUpdate T m k v=>
  unfold zp1 at h
  repeat' (split at h)
  all_goals first
   | (cases h; done)
   | (simp only [qa] at h; subst h; simp at hw; done)
 case insert T m k v=>
  unfold zp1 at h
  repeat' (split at h)
  all_goals first
   | (cases h; done)
   | (simp only [qa] at h; subst h; simp at hw; done)
 case makeSlice T x y=>
  repeat' (split at h)
  all_goals first
   | (cases h; done)
   | (have h:=zez h; simp only [qa] at h; subst h; simp at hw; done)
 case slice T x lo hi mx=>
  cases mx with
  | some m=>exact h
  | none=>
   simp only at h ⊢;split at h
   ·rename_i lo' hi' h1 h2;exact zYa st' h hr
   ·cases h
 case fieldAddr S x f=>
  split at h
  ·rename_i fs sz bt z hti;split at h
   ·rename_i p hp;split at h
    ·rename_i i v cs off rd hi hs hc;cases hz:Nat.beq i.size 0 with
     | true=>rw [hz] at h; cases h
     | false=>
      rw [hz] at h;simp only [qa] at h; subst h; simp only at hr; subst hr;simp only [zIJ st' hc,hs,hi,hz]
    ·cases h
   ·cases h
  ·cases h
 case indexAddr T x y=>
  split at h
  ·rename_i e sz bt z i hti hi;split at h
   ·exact h
   all_goals first
    | (repeat' (split at h)
       all_goals first
        | (cases h; done)
        | (have h:=zez h; simp only [qa] at h; subst h; simp at hr; done))
  ·cases h
 case call c=>
  obtain ⟨callee,args,ts⟩:=c;cases callee with
  | invoke r m=>exact h
  | builtin b=>exact zVC st' h hw hr
  | value f=>
   simp only at h ⊢;split at h
   ·split at h
    ·exact zYT st' h hw hr
    ·exact absurd hw (zZc h)
   ·cases h
end
end
end Go.Ab
/- Operations see the blocks of their footprint alone. -/
namespace Go.Ab
noncomputable section
variable {ty:Nat->Type}
section
variable {cx:Cx ty} {st st':St ty} {o:Oper} {d:Delta ty} {S T:List Nat}
def Agr (S:List Nat) (st st':St ty):Prop:=∀ id∈S,st'.blks[id]? =st.blks[id]?
theorem Agr.blk (h:Agr S st st') {id:Nat} (hi:id∈S):st'.blk id=st.blk id:=by
 rw [St.blk_def,St.blk_def,List.getD_eq_getElem?_getD,List.getD_eq_getElem?_getD,h id hi]
theorem Agr.free (h:Agr S st st') {id:Nat} (hi:id∈S):zdG st' id=zdG st id:=by rw [zBW,zBW,h id hi]
theorem Agr.mono (h:Agr S st st') (hs:∀ id∈T,id∈S):Agr T st st':=λid hi=>h id (hs id hi)
theorem ztL {f f':AV ty->Option (AV ty×List Nat)}:∀ (cs:List (AV ty)) {r:List (AV ty)} {ids:List Nat},(∀ c∈cs,∀ r i,f c=some (r,i)->Agr i st st'->f' c=some (r,i))->zes f cs=some (r,ids)->Agr ids st st'->zes f' cs=some (r,ids)
 | [],r,ids,hf,h,ha=>h
 | c::cs,r,ids,hf,h,ha=>by
  simp only [zes] at h ⊢;split at h
  ·cases h
  ·rename_i c' i hc;split at h
   ·cases h
   ·rename_i cs' is hcs;simp only [qa,qb] at h;obtain ⟨rfl,rfl⟩:=h;rw [hf c (by simp) _ _ hc (ha.mono λid hi=>by simp [hi]),ztL cs (λx hx=>hf x (by simp [hx])) hcs (ha.mono λid hi=>by simp [hi])]
theorem zOI {f:AV ty->Option (AV ty×List Nat)}:∀ (cs:List (AV ty)) {r:List (AV ty)} {ids:List Nat},zes f cs=some (r,ids)->∀ c∈cs,∃ r' i,f c=some (r',i)/\∀ id∈i,id∈ids
 | [],r,ids,h,c,hc=>by cases hc
 | x::cs,r,ids,h,c,hc=>by
  simp only [zes] at h;split at h
  ·cases h
  ·rename_i c' i hx;split at h
   ·cases h
   ·rename_i cs' is hcs;simp only [qa,qb] at h;obtain ⟨rfl,rfl⟩:=h;rcases qd.1 hc with rfl | hc
    ·exact ⟨_,_,hx,λid hi=>by simp [hi]⟩
    ·obtain ⟨r',i',h1,h2⟩:=zOI cs hcs c hc;exact ⟨r',i',h1,λid hi=>by simp [h2 id hi]⟩
theorem zE7:∀ (n:Nat) (v:AV ty) {r:AV ty} {ids:List Nat},zbn cx st n v=some (r,ids)->Agr ids st st'->zbn cx st' n v=some (r,ids)
 | 0,v,r,ids,h,ha=>by simp [zbn] at h
 | n+1,v,r,ids,h,ha=>by
  have ih:=λv r i (h:zbn cx st n v=some (r,i)) ha=>zE7 n v h ha
  cases v with
  | own id=>
   simp only [zbn] at h ⊢;split at h
   ·rename_i hb;simp only [qa,qb] at h;obtain ⟨rfl,rfl⟩:=h;rw [ha.blk (by simp),hb]
   ·cases h
  | sub id lo k=>
   simp only [zbn] at h ⊢;split at h
   ·rename_i hb;simp only [qa,qb] at h;obtain ⟨rfl,rfl⟩:=h;rw [ha.blk (by simp),hb]
   ·cases h
  | eptr id ix off=>
   simp only [zbn] at h ⊢;split at h
   ·rename_i hb;simp only [qa,qb] at h;obtain ⟨rfl,rfl⟩:=h;rw [ha.blk (by simp),hb]
   ·cases h
  | ptr id off=>
   simp only [zbn] at h ⊢;split at h
   ·rename_i hb;split at h
    ·rename_i cs' is hm;simp only [qa,qb] at h;obtain ⟨rfl,rfl⟩:=h;rw [ha.blk (by simp),hb]
     simp only [ztL _ (λc _ r i hc hi=>ih c r i hc hi) hm (ha.mono λid hi=>by simp [hi])]
    ·cases h
   ·cases h
  | agg cs=>
   simp only [zbn] at h ⊢;split at h
   ·rename_i cs' is hm;simp only [qa,qb] at h;obtain ⟨rfl,rfl⟩:=h;simp only [ztL _ (λc _ r i hc hi=>ih c r i hc hi) hm ha]
   ·cases h
  | fn f cs=>
   simp only [zbn] at h ⊢;split at h
   ·rename_i cs' is hm;simp only [qa,qb] at h;obtain ⟨rfl,rfl⟩:=h;simp only [ztL _ (λc _ r i hc hi=>ih c r i hc hi) hm ha]
   ·cases h
  | _=>exact h
theorem zXE {n:Nat} {v r:AV ty} {ids:List Nat} (h:zbn cx st n v=some (r,ids)) (ha:Agr ids st st'):v.isCell st'=v.isCell st:=by
 cases n with
 | zero=>simp [zbn] at h
 | succ n=>
 cases v with
 | own id=>
  simp only [zbn] at h;split at h
  ·simp only [qa,qb] at h;obtain ⟨rfl,rfl⟩:=h;simp only [AV.isCell,zo3,ha.blk (id:=id) (by simp)]
  ·cases h
 | sub id lo k=>
  simp only [zbn] at h;split at h
  ·simp only [qa,qb] at h;obtain ⟨rfl,rfl⟩:=h;simp only [AV.isCell,zo3,ha.blk (id:=id) (by simp)]
  ·cases h
 | eptr id ix off=>
  simp only [zbn] at h;split at h
  ·simp only [qa,qb] at h;obtain ⟨rfl,rfl⟩:=h;simp only [AV.isCell,zo3,ha.blk (id:=id) (by simp)]
  ·cases h
 | ptr id off=>
  simp only [zbn] at h;split at h
  ·split at h
   ·simp only [qa,qb] at h;obtain ⟨rfl,rfl⟩:=h;simp only [AV.isCell,zo3,ha.blk (id:=id) (by simp)]
   ·cases h
  ·cases h
 | _=>rfl
theorem zVa {p q:AV ty->Bool}:∀ {l:List (AV ty)},(∀ x∈l,p x=q x)->l.all p=l.all q
 | [],h=>rfl
 | x::r,h=>by rw [List.all_cons,List.all_cons,h x (by simp),zVa λy hy=>h y (by simp [hy])]
theorem zUN {v:AV ty} {c c':List (AV ty)} {n:Nat} {ids:List Nat} (h:v.cells st=some c) (hp:zes (zbn cx st n) c=some (c',ids)) (ha:Agr ids st st'):v.cells st'=some c:=by
 have key:∀ x∈c,x.isCell st'=x.isCell st:=λx hx=>by
  obtain ⟨r',i,h1,h2⟩:=zOI c hp x hx;exact zXE h1 (ha.mono h2)
 unfold AV.cells at h ⊢;split at h
 ·rename_i cs;split at h
  ·rename_i hc;simp only [qa] at h; subst h;rw [zVa key,hc]
  ·cases h
 ·split at h
  ·rename_i hc;simp only [qa] at h; subst h;rw [key v (by simp),hc]
  ·cases h
theorem zWY {v:AV ty} (ha:Agr v.cellId st st'):v.isCell st'=v.isCell st:=by
 cases v with
 | own id=>simp only [AV.isCell,zo3,ha.blk (id:=id) (by simp [AV.cellId])]
 | sub id lo k=>simp only [AV.isCell,zo3,ha.blk (id:=id) (by simp [AV.cellId])]
 | eptr id ix off=>simp only [AV.isCell,zo3,ha.blk (id:=id) (by simp [AV.cellId])]
 | ptr id off=>simp only [AV.isCell,zo3,ha.blk (id:=id) (by simp [AV.cellId])]
 | _=>rfl
theorem zLX {v:AV ty} {c:List (AV ty)} (h:v.cells st=some c) (ha:Agr (zNF c) st st'):v.cells st'=some c:=by
 have key:∀ x∈c,x.isCell st'=x.isCell st:=λx hx=>zWY (ha.mono λi hi=>List.mem_flatMap.2 ⟨x,hx,hi⟩)
 unfold AV.cells at h ⊢;split at h
 ·rename_i cs;split at h
  ·rename_i hc;simp only [qa] at h; subst h;rw [zVa key,hc]
  ·cases h
 ·split at h
  ·rename_i hc;simp only [qa] at h; subst h;rw [key v (by simp),hc]
  ·cases h
theorem zXt {v:AV ty} {c:List (AV ty)} (h:v.cells st=some c) (ha:Agr v.ids1 st st'):v.cells st'=some c:=by
 refine zLX h (ha.mono λi hi=> ?_)
 unfold AV.cells at h;split at h
 ·rename_i cs;split at h
  ·simp only [qa] at h; subst h; exact hi
  ·cases h
 ·rename_i hne;split at h
  ·simp only [qa] at h; subst h;simp only [zNF,List.flatMap_cons,List.flatMap_nil,List.append_nil] at hi;cases v with
   | agg cs=>exact absurd rfl (hne cs)
   | _=>exact hi
  ·cases h
theorem zMT {fs:List (Nat×Nat)}:∀ (ps:List (Nat×AV ty)) (cs:List (AV ty)) {r:List (AV ty)},zhy cx st fs cs ps=some r->Agr (ps.flatMap λp=>p.2.ids1) st st'->zhy cx st' fs cs ps=some r
 | [],cs,r,h,_=>h
 | (i,v)::ps,cs,r,h,ha=>by
  unfold zhy at h ⊢;split at h
  ·cases h
  ·rename_i off T hf;split at h
   ·cases h
   ·rename_i inf hti;split at h
    ·cases h
    ·rename_i c hc;have hc':=zXt hc (ha.mono λi hi=>by simp [hi])
     split at h
     ·cases h
     ·rename_i hb;split at h
      ·cases h
      ·rename_i cs' hs;simp only [hf,hti,hc',hb,hs];exact zMT ps cs' h (ha.mono λi hi=>by simp only [List.flatMap_cons,List.mem_append]; exact .inr hi)
theorem zM4 {e:Nat}:∀ (ps:List (Nat×AV ty)) (n:Nat) {l:List (ty e)} {ids:List Nat},zkc cx st e n ps=some (l,ids)->Agr ids st st'->zkc cx st' e n ps=some (l,ids)
 | [],n,l,ids,h,ha=>h
 | (i,v)::r,n,l,ids,h,ha=>by
  simp only [zkc] at h ⊢;split at h
  ·cases h
  ·rename_i hb;split at h
   ·cases h
   ·rename_i c hc;split at h
    ·cases h
    ·rename_i c' is hm;split at h
     ·cases h
     ·rename_i x hx;split at h
      ·cases h
      ·rename_i xs is' hr;simp only [qa,qb] at h;obtain ⟨rfl,rfl⟩:=h;have a1:Agr is st st':=ha.mono λid hi=>by simp [hi]
       simp only [hb,zUN hc hm a1,ztL c (λc _ r i hc hi=>zE7 zcD c hc hi) hm a1,hx,zM4 r (n+1) hr (ha.mono λid hi=>by simp [hi])]
theorem zNv {v:AV ty} {x:(T:Nat)×List (ty T)} {rd:List Nat} (h:zc9 st v=some (x,rd)) (ha:Agr rd st st'):zc9 st' v=some (x,rd):=by
 unfold zc9 at h ⊢;split at h
 ·exact h
 ·split at h
  ·rename_i hb;simp only [qa,qb] at h;obtain ⟨rfl,rfl⟩:=h;simp only [ha.blk (qh.2 rfl),hb]
  ·cases h
 ·split at h
  ·rename_i hb;simp only [qa,qb] at h;obtain ⟨rfl,rfl⟩:=h;simp only [ha.blk (qh.2 rfl),hb]
  ·cases h
 ·cases h
theorem zQo {v:AV ty} {cs:List (AV ty)} {off:Nat} {rd:List Nat} (h:zdN cx st v=some (cs,off,rd)) (ha:Agr rd st st'):zdN cx st' v=some (cs,off,rd):=by
 cases v with
 | ptr id o=>
  simp only [zdN] at h ⊢;split at h
  ·rename_i hb;simp only [qa,qb] at h;obtain ⟨rfl,rfl,rfl⟩:=h;simp only [ha.blk (qh.2 rfl),hb]
  ·cases h
 | eptr id ix o=>
  simp only [zdN] at h ⊢;split at h
  ·rename_i hb;simp only [qa,qb] at h;obtain ⟨rfl,rfl,rfl⟩:=h;simp only [ha.blk (qh.2 rfl),hb]
  ·cases h
 | _=>exact h
theorem zXr {T:Nat} {x:AV ty} {lo hi:Option Int} (h:zoz cx T st x lo hi some=some d) (ha:Agr d.rd st st'):zoz cx T st' x lo hi some=some d:=by
 unfold zoz at h ⊢;split at h
 ·exact h
 ·exact h
 ·rename_i hns hns2;split at h
  ·rename_i e sz bt z T' xs rd hti hl;split at h
   ·cases h
   ·rename_i hb;generalize hcnd:(decide (0<=lo.getD 0)&&decide (lo.getD 0<=hi.getD xs.length)&&decide (hi.getD xs.length<=xs.length))=cnd at h;cases cnd with
    | false=>cases h
    | true=>
     simp only [cond_true] at h
     have hrd:Agr rd st st':=by
      split at h
      ·simp only [zc9,qa,qb] at hl; rw [<- hl.2]; exact λid hi=>by cases hi
      ·simp only [qa] at h; subst h; exact ha
      ·simp only [qa] at h; subst h; exact ha
      ·cases h
     simp only [hti,zNv hl hrd,hb,hcnd,cond_true];exact h
  ·cases h
def zQD (st:St ty) (e:Nat) (x:AV ty):Option (List (ty e)×List Nat):=match x with
  | .lit (.slice none 0 0)=>some ([],[]) | .lit (.slice (some _) 0 _)=>some ([],[]) | x=>match zc9 st x with | some (⟨T',ys⟩,rd)=>(ztZ T' e ys).map (·,rd) | none=>none
theorem zXB {e:Nat} {x:AV ty} {r:List (ty e)×List Nat} (h:zQD st e x=some r) (ha:Agr r.2 st st'):zQD st' e x=some r:=by
 unfold zQD at h ⊢;split at h
 ·exact h
 ·exact h
 ·cases hl:zc9 st x with
  | none=>rw [hl] at h; cases h
  | some q=>
   obtain ⟨⟨T',ys⟩,rd⟩:=q;rw [hl] at h;simp only at h
   have:rd=r.2:=by
    cases hc:ztZ T' e ys with
    | none=>rw [hc] at h; cases h
    | some q=>rw [hc] at h; simp only [Option.map_some,qa] at h; rw [<- h]
   rw [zNv hl (this ▸ ha)];exact h
theorem zWF {R:Type} {dst:Option Tmp} {T:Nat} {s x:AV ty} {K:Delta ty->Option R}:zon cx st dst T s x K=
 (match cx.ti T,dst with
 | some ⟨.slice e,_,_,_⟩,some d=>match cx.ti e with
  | none=>none
  | some inf=>match Nat.beq inf.size 0||Nat.beq inf.bytes 0 with
   | true=>none
   | false=>
       match zQD st e x with
    | none=>none
    | some (ys,rd)=>
     match s with
     | .lit (.slice none 0 0)=>
      bif zdG st (zK d)&&decide (ys.length*inf.bytes<=zbO) then K { val:=.own (zK d),wr:=[(zK d,.arr e ys false)],rd:=rd } else none
     | .own id=>match st.blk id, !rd.contains id&&zdG st (zK d) with
      | .arr T' l false,true=>match ztZ T' e l with
       | none=>none
       | some l=>bif decide ((l.length+ys.length)*inf.bytes<=zbO) then K { val:=.own (zK d),wr:=[(id,.dead),(zK d,.arr e (l++ys) false)],rd:=rd } else none
      | _,_=>none
     | _=>none
 | _,_=>none):=rfl
theorem zW2 {dst:Option Tmp} {T:Nat} {s x:AV ty} (h:zon cx st dst T s x some=some d) (ha:Agr (d.wr.map (·.1)++d.rd) st st'):zon cx st' dst T s x some=some d:=by
 rw [zWF] at h ⊢;split at h
 ·rename_i e sz bt z d0 hti
  try simp only [hti]
  split at h
  ·cases h
  ·rename_i inf hi
   try simp only [hi]
   cases hn:(Nat.beq inf.size 0||Nat.beq inf.bytes 0) with
   | true=>rw [hn] at h; cases h
   | false=>
    rw [hn] at h;simp only at h ⊢;split at h
    ·cases h
    ·rename_i ys rd hx
     have hrd:Agr rd st st':=ha.mono λid hid=>by
      refine List.mem_append_right _ ?_;split at h
      ·have h:=zez h; simp only [qa] at h; subst h; exact hid
      ·split at h
       ·split at h
        ·cases h
        ·have h:=zez h; simp only [qa] at h; subst h; exact hid
       ·cases h
      ·cases h
     have hx':=zXB hx hrd;rw [hx'];simp only;split at h
     ·have hfr:zdG st' (zK d0)=zdG st (zK d0):=ha.free (by
       have h:=zez h; simp only [qa] at h; subst h; simp)
      rw [hfr]; exact h
     ·rename_i id;split at h
      ·rename_i T' l hb hc;split at h
       ·cases h
       ·rename_i l' hcast;have hd:=zez h;simp only [qa] at hd;have m1:id∈d.wr.map (·.1)++d.rd:=by rw [<- hd]; simp
        have m2:zK d0∈d.wr.map (·.1)++d.rd:=by rw [<- hd]; simp
        simp only [ha.blk m1,ha.free m2,hb,hc,hcast];exact h
      ·cases h
     ·cases h
 ·cases h
theorem zCg:∀ (vs:List (AV ty)) (io:List Bool) (ts:List Nat) {as:List (Arg ty)} {fz mv:List Nat},zgM cx st io ts vs=some (as,fz,mv)->Agr (fz++mv) st st'->zgM cx st' io ts vs=some (as,fz,mv)
 | [],io,ts,as,fz,mv,h,ha=>by simpa [zgM] using h
 | v::vs,io,ts,as,fz,mv,h,ha=>by
  simp only [zgM] at h ⊢;split at h
  ·cases h
  ·rename_i as' fz' mv' hr;split at h
   ·rename_i hio;split at h
    ·rename_i id;split at h
     ·rename_i hb;simp only [qa,qb] at h;obtain ⟨rfl,rfl,rfl⟩:=h;simp only [zCg vs io.tail ts.tail hr (ha.mono λid hi=>by simp at hi ⊢; rcases hi with hi | hi <;>simp [hi]),hio,ha.blk (id:=id) (by simp),hb]
     ·cases h
    ·cases h
   ·rename_i hio;split at h
    ·cases h
    ·rename_i a ids hp;split at h
     ·cases h
     ·rename_i a' hc;simp only [qa,qb] at h;obtain ⟨rfl,rfl,rfl⟩:=h;have e:=zCg vs io.tail ts.tail hr (ha.mono λid hi=>by simp at hi ⊢; rcases hi with hi | hi <;>simp [hi])
      have e2:=zE7 zcD v hp (ha.mono λid hi=>by simp [hi])
      rw [e];simp only [e2,hc]
theorem zIS:∀ (mv:List Nat) (us:List (Option ((T:Nat)×List (ty T)))) {w:List (Nat×Blk ty)},zeV st mv us=some w->Agr mv st st'->zeV st' mv us=some w/\w.map (·.1)=mv
 | [],[],w,h,ha=>by simp only [zeV,qa] at h ⊢; subst h; exact ⟨rfl,rfl⟩
 | [],_::_,w,h,ha=>by simp [zeV] at h
 | _::_,[],w,h,ha=>by simp [zeV] at h
 | id::ids,u::us,w,h,ha=>by
  simp only [zeV] at h ⊢;split at h
  ·cases h
  ·rename_i r hr;obtain ⟨e1,e2⟩:=zIS ids us hr (ha.mono λid hi=>by simp [hi])
   rw [e1];split at h
   ·simp only [qa] at h; subst h;exact ⟨rfl,by simp [e2]⟩
   ·rename_i T l;simp only;rw [ha.blk (by simp)]
    split at h
    ·rename_i T' l' f hb
     try rw [hb]
     split at h
     ·rename_i hbq;simp only [qa] at h; subst h;exact ⟨by first | rfl | rw [hbq],by simp [e2]⟩
     ·cases h
    ·cases h
theorem zBF:∀ {w:List (Nat×Blk ty)},Agr (w.map (·.1)) st st'->zi9 st' w=zi9 st w
 | [],_=>rfl
 | (i,b)::r,ha=>by
  simp only [zi9];rw [ha.free (by simp),zBF (w:=r) (ha.mono λid hi=>by simp at hi ⊢; simp [hi])]
theorem zYt {dst:Option Tmp} {f:Nat} {ts:List Nat} {vs:List (AV ty)} (h:zsV cx st dst f ts vs some=some d) (ha:Agr (d.wr.map (·.1)++d.rd) st st'):zsV cx st' dst f ts vs some=some d:=by
 unfold zsV at h ⊢;split at h
 ·cases h
 ·rename_i s hs
  try simp only [hs]
  split at h
  ·cases h
  ·rename_i as fz mv hal;split at h
   ·cases h
   ·rename_i hnd;cases hsa:s as with
    | none=>rw [hsa] at h; cases h
    | some pr=>
     obtain ⟨pre,res⟩:=pr;rw [hsa] at h;simp only at h;cases pre with
     | false=>cases h
     | true=>
      simp only [cond_true] at h;split at h
      ·cases h
      ·rename_i us hus;have hmv:us.map (·.1)=mv:=(zIS (st':=st) mv res.upd hus λ_ _=>rfl).2
       have hfz:d.rd=fz/\∀ id∈mv,id∈d.wr.map (·.1):=by
        split at h
        ·split at h
         ·simp only [qa] at h; subst h;exact ⟨rfl,λid hi=>by rw [<- hmv] at hi; simp only [List.map_append,List.mem_append]; exact .inl hi⟩
         ·cases h
        ·split at h
         ·simp only [qa] at h; subst h;exact ⟨rfl,λid hi=>by rw [<- hmv] at hi; exact hi⟩
         ·cases h
       have a1:Agr (fz++mv) st st':=ha.mono λid hi=>by
        rcases List.mem_append.1 hi with hi | hi
        ·rw [<- hfz.1] at hi; simp [hi]
        ·exact List.mem_append_left _ (hfz.2 id hi)
       rw [zCg _ _ _ hal a1];simp only [hnd,hsa,cond_true];rw [(zIS mv res.upd hus (a1.mono λid hi=>by simp [hi])).1]
       simp only;split at h
       ·rename_i d0;split at h
        ·rename_i hfr
         try simp only
         have:zi9 st' (z6 (zK d0) res.vals).2=zi9 st (z6 (zK d0) res.vals).2:=zBF (ha.mono λid hi=>by
          simp only [qa] at h; subst h;simp only [List.map_append,List.mem_append]; exact .inl (.inr hi))
         rw [this,hfr];exact h
        ·cases h
       ·exact h
theorem zYX {s:CSpec ty} {ts:List Nat} {vs:List (AV ty)} (h:zsL cx st s ts vs some=some d) (ha:Agr (d.wr.map (·.1)++d.rd) st st'):zsL cx st' s ts vs some=some d:=by
 unfold zsL at h ⊢;split at h
 ·cases h
 ·rename_i as c hsl
  try simp only [hsl]
  split at h
  ·cases h
  ·rename_i g id hca
   try simp only [hca]
   split at h
   ·cases h
   ·rename_i ks l hrow;split at h
    ·cases h
    ·rename_i as' fz mv hal;split at h
     ·cases h
     ·rename_i as'' hpu;split at h
      ·cases h
      ·rename_i hnd;split at h
       ·cases h
       ·rename_i pre l' hrun;cases pre with
        | false=>cases h
        | true=>
         simp only [cond_true,qa] at h;subst h
         have a1:Agr (fz++mv) st st':=by
          have hmv:mv=[]:=argList_io' hal;subst hmv;exact ha.mono λi hi=>by simp at hi ⊢; simp [hi]
         have aid:st'.blk id=st.blk id:=ha.blk (by simp [zjC])
         have e1:zot st' s.T id=some (ks,l):=by
          rw [<- hrow];unfold zot;rw [aid];unfold zot at hrow;split at hrow
          ·rfl
          ·rename_i k hk;split at hrow
           ·rename_i T' l0 hb;split at hrow
            ·rename_i l1 hc;simp only [qa,qb] at hrow;have:st'.blk k=st.blk k:=ha.blk (by rw [<- hrow.1]; simp [zjC])
             simp only [this,hb,hc]
            ·cases hrow
           ·cases hrow
          ·cases hrow
         have e2:zdG st' 0=zdG st 0:=ha.free (by simp [zjC])
         simp only [e1,zCg _ _ _ hal a1,hpu,e2,hnd,hrun,cond_true]
theorem zYh (ht:st'.tmps=st.tmps) (hl:zvn o=true) (h:aop cx o st=some d) (ha:Agr (d.wr.map (·.1)++(d.fz++d.rd)) st st'):aop cx o st'=some d:=by
 have hev:=zQA ht;unfold aop zdW at h ⊢;unfold zvn at hl;cases ho:o.op <;>simp only [ho] at h hl ⊢ <;>(try simp only [hev,zSW ht]) <;>first | (cases hl; done) | skip
 case load T x=>
  split at h
  ·rename_i i cs off rd hti hc;split at h
   ·rename_i v hv;simp only [qa] at h; subst h;simp only [hti,zQo hc (ha.mono λid hi=>by simp [hi]),hv]
   ·cases h
  ·cases h
 case alloc T=>
  split at h
  ·rename_i i d0 hti hdst;have hd:=zez h;simp only [qa] at hd;simp only [hti,hdst,ha.free (id:=zK d0) (by rw [<- hd]; simp)]
   exact h
  ·cases h
 case box T x=>
  split at h
  ·rename_i i d0 cs hti hdst hcl;have hd:=zez h;simp only [qa] at hd;have hcl':=zLX hcl (ha.mono λi hi=>by rw [<- hd]; simp [hi])
   simp only [hti,hdst,hcl',ha.free (id:=zK d0) (by rw [<- hd]; simp)]
   exact h
  ·cases h
 case store T x y=>
  split at h
  ·rename_i i new hti hcl;split at h
   ·cases h
   ·rename_i hlen;split at h
    ·rename_i id off hx;split at h
     ·rename_i cs hb;split at h
      ·rename_i cs' hsp;simp only [qa] at h; subst h;have hcl':=zLX hcl (ha.mono λi hi=>by simp [hi])
       simp only [hti,hcl',hlen,ha.blk (id:=id) (by simp),hb,hsp]
      ·cases h
     ·cases h
    ·rename_i id ix off hx;split at h
     ·rename_i T' l new' fz hb hmp;split at h
      ·rename_i cs' hsp hcn;split at h
       ·rename_i x' hdec;have hd:=zez h;simp only [qa] at hd;have hfz:Agr fz st st':=ha.mono λi hi=>by rw [<- hd]; simp [hi]
        have hcl':=zUN hcl hmp hfz;have hmp':=ztL (f':=zbn cx st' zcD) _ (λc _ r i hc hi=>zE7 zcD c hc hi) hmp hfz
        simp only [hti,hcl',hlen,ha.blk (id:=id) (by rw [<- hd]; simp),hb,hmp',hsp,hcn,hdec]
        exact h
       ·cases h
      ·cases h
     ·cases h
    ·cases h
  ·cases h
 case fieldAddr S x f=>
  split at h
  ·rename_i fs sz bt z hti;split at h
   ·rename_i p hp;split at h
    ·rename_i i v cs off rd hi hs hc;cases hz:Nat.beq i.size 0 with
     | true=>rw [hz] at h; cases h
     | false=>
      rw [hz] at h;simp only [qa] at h; subst h;simp only [zQo hc (ha.mono λid hi=>by simp [hi]),hs,hi,hz]
    ·cases h
   ·cases h
  ·cases h
 case indexAddr T x y=>
  split at h
  ·rename_i e sz bt z i hti hi;split at h
   ·exact h
   ·rename_i id hx;split at h
    ·rename_i T' l f hb;split at h
     ·rename_i hq;have hd:=zez h;simp only [qa] at hd;rw [ha.blk (id:=id) (by rw [<- hd]; simp),hb]
      simp only [hq];exact h
     ·cases h
    ·cases h
   ·rename_i id lo n hx;split at h
    ·rename_i T' l f hb;split at h
     ·rename_i hq;have hd:=zez h;simp only [qa] at hd;rw [ha.blk (id:=id) (by rw [<- hd]; simp),hb]
      simp only [hq];exact h
     ·cases h
    ·cases h
   ·cases h
  ·cases h
 case build T ps=>
  split at h
  ·rename_i fs sz bt z hti;split at h
   ·rename_i cs hfp;simp only [qa] at h
    have hfp':=zMT (st':=st') _ _ hfp (ha.mono λid hi=>by
     rw [<- h];simp only [List.mem_append];refine .inr (.inr ?_);rw [List.flatMap_map] at hi;exact hi)
    simp only [hti,hfp'];rw [h]
   ·cases h
  ·cases h
 case buildSlice T n ps=>
  split at h
  ·rename_i e sz bt z d0 hti hdst;split at h
   ·rename_i l fz inf hfe hn hie;split at h
    ·rename_i hg;simp only [qa] at h;have hfr:zdG st' (zK d0)=zdG st (zK d0):=ha.free (by rw [<- h]; simp)
     have hfz:Agr fz st st':=ha.mono λid hi=>by rw [<- h]; simp [hi]
     simp only [zM4 _ _ hfe hfz,hn,hie,hfr,hg];rw [h]
    ·cases h
   ·cases h
  ·cases h
 case slice T x lo hi mx=>
  cases mx with
  | some m=>cases hl
  | none=>
   simp only at h ⊢;split at h
   ·rename_i lo' hi' h1 h2;exact zXr h (ha.mono λid hi=>by simp [hi])
   ·cases h
 case call c=>
  obtain ⟨callee,args,ts⟩:=c;cases callee with
  | invoke r m=>cases hl
  | builtin b=>
   simp only at h hl ⊢;unfold zgj at h ⊢;cases b <;>first | (cases hl; done) | skip
   case len=>
    split at h
    ·split at h
     ·exact h
     ·rename_i hti;split at h
      ·exact h
      ·split at h
       ·rename_i hb;simp only [qa] at h;rw [ha.blk (by rw [<- h]; simp)]
        simp only [hb,h]
       ·cases h
      ·rename_i v h1 h2;split at h
       ·rename_i T' l rd hl';simp only [qa] at h;simp only [zNv hl' (ha.mono λid hi=>by rw [<- h]; simp [hi]),h]
       ·cases h
     ·split at h
      ·split at h
       ·rename_i hb;simp only [qa] at h;rw [ha.blk (by rw [<- h]; simp)]
        simp only [hb,h]
       ·cases h
      ·cases h
     ·cases h
    all_goals first | exact h | (exfalso; simp_all; done)
   case append=>
    split at h
    any_goals first | (exact h; done) | (exfalso; simp_all; done)
    split at h
    ·rename_i hq;exact zW2 h (ha.mono λid hi=>by simp at hi ⊢; rcases hi with hi | hi <;>simp [hi])
    ·rename_i hq;unfold zp7 at h ⊢
     repeat' (split at h)
     all_goals first
      | (cases h; done)
      | (have hd:=zez h
         simp only [qa] at hd;rw [ha.free (by rw [<- hd]; simp)]
         exact h)
  | value f=>
   simp only at h ⊢;split at h
   ·split at h
    ·exact zYt h (ha.mono λid hi=>by simp at hi ⊢; rcases hi with hi | hi <;>simp [hi])
    ·exact zYX h (ha.mono λid hi=>by simp at hi ⊢; rcases hi with hi | hi <;>simp [hi])
   ·cases h
end
end
end Go.Ab
/- Regions whose order is drawn: one walk in the order of the text serves every order. -/
namespace Go.Ab
noncomputable section
variable {ty:Nat->Type}
section
variable {P:Program} {cx:Cx ty} {e:Env} {st st':St ty} {κ:Nat->Value} {a:Act} {w:World} {o:Oper} {d:Delta ty} {Q:Exit->Act->World->Prop} {α:Type} {ops:Array Oper}
theorem R.drew (h:R cx e st a w) (n:Nat) (hn:w.drawn<=n):R cx e st a { w with drawn:=n }:=by
 obtain ⟨κ,hf⟩:=h
 obtain ⟨hrb,hc⟩:=hf.rb.step (w':={ w with drawn:=n }) (B':=st.blk) (κ':=κ) (λ_=>False) rfl rfl rfl (Nat.le_refl _) (λb _=>.inl rfl) (λid _=>⟨rfl,rfl⟩)
  (λid h=>h.elim) (λid b h=>h.elim) (λi j b h=>h.elim) (λid h=>h.elim) (λ_=>hn)
 exact ⟨κ,⟨hrb,hf.defers,hf.size,λt=>hc.rep (hf.tmps t)⟩⟩
theorem zQM {st:St ty} {t u:Nat} {v:AV ty} {b:List (Blk ty)} (h:t≠u):St.get (ty:=ty) ⟨st.tmps.set t v,b⟩ u=st.get u:=by
 unfold St.get;simp only [zfF,List.getD_eq_getElem?_getD,List.getElem?_set_ne h]
theorem ev_app {d:Delta ty} {dst:Option Tmp} {x:Operand} (h:∀ t,dst=some t->x≠.tmp t):(st.app dst d).ev x=st.ev x:=by
 cases dst with
 | none=>cases x <;>rfl
 | some t=>
  cases x with
  | tmp u=>
   show (st.app (some t) d).get u=st.get u;rw [St.app_def]; exact zQM λe=>h t rfl (e ▸ rfl)
  | _=>rfl
theorem zJL {st:St ty} {dst:Option Tmp} {d:Delta ty}:(st.app dst d).tmps=match dst with | some t=>st.tmps.set t d.val | none=>st.tmps:=by rw [St.app_def]; rfl
theorem zjd {d:Delta ty} (h:d.foot.eff=false) (dst:Option Tmp):(st.app dst d).blks=st.blks:=by
 simp only [Delta.foot,Foot.eff,Bool.not_eq_false',qc,List.isEmpty_iff,List.map_eq_nil_iff] at h;rw [St.app_blks];simp only [h.1,h.2,zbE,zbA]
theorem Foot.empty_eff {f:Foot} (h:f.empty=true):f.eff=false:=by
 simp only [Foot.empty,qc] at h;simp [Foot.eff,h.1.1,h.1.2]
theorem zpm (hb:st'.blks=st.blks) (hev:∀ t,t∈o.looksAt ops->st'.get t=st.get t):zfN cx ops o st'=zfN cx ops o st:=by
 have hop:aop cx o st'=aop cx o st:=z0E hb λx hx=>by
  cases x with
  | tmp t=>exact hev t (List.mem_append_left _ (List.mem_filterMap.2 ⟨.tmp t,by simpa using hx,rfl⟩))
  | _=>rfl
 unfold zfN;cases hg:o.guard with
 | none=>exact hop
 | some gw=>
  obtain ⟨g,want⟩:=gw
  dsimp only
  cases ht:(ops[g]?).bind (·.dst) with
  | none=>rfl
  | some t=>
   dsimp only
   rw [hev t (List.mem_append_right _ (by simp [hg,ht])),hop]
theorem zTV (st':St ty) (ht:st'.tmps=st.tmps) (h:zfN cx ops o st=some d) (he:d.foot.empty=true):zfN cx ops o st'=some d:=by
 unfold zfN at h ⊢;cases hg:o.guard with
 | none=>rw [hg] at h; exact zXC st' ht h he
 | some gw=>
  obtain ⟨g,want⟩:=gw;rw [hg] at h
  dsimp only at h ⊢
  cases hd:(ops[g]?).bind (·.dst) with
  | none=>rw [hd] at h; cases h
  | some t=>
   rw [hd] at h
   dsimp only at h ⊢
   have:st'.get t=st.get t:=by unfold St.get; rw [ht]
   rw [this];cases hv:st.get t with
   | lit v=>
    rw [hv] at h;cases v with
    | bool b=>
     dsimp only at h ⊢
     cases hbw:(b==want) with
     | true=>rw [hbw] at h; exact zXC st' ht h he
     | false=>rw [hbw] at h; exact h
    | tuple vs=>exact h
    | _=>cases h
   | _=>rw [hv] at h; cases h
theorem zWc {dst:Option Tmp} {t:Nat} (h:dst≠some t):(st.app dst d).get t=st.get t:=by
 cases dst with
 | none=>rfl
 | some u=>rw [St.app_def]; exact zQM λe=>h (e ▸ rfl)
theorem zQj:∀ (wr:List (Nat×Blk ty)) (b:List (Blk ty)) (id:Nat),(∀ p∈wr,p.1≠id)->(gD .none (zbE b wr) id)=(gD .none b id)
 | [],b,id,h=>rfl
 | (i,x)::r,b,id,h=>by
  simp only [zbE];rw [zQj r _ id λp hp=>h p (by simp [hp])]
  have hne:i≠id:=h (i,x) (by simp)
  simp only [zfF,List.getD_eq_getElem?_getD,List.getElem?_set_ne hne]
theorem zOQ:∀ {wr:List (Nat×Blk ty)},zi9 st wr=true->∀ p∈wr,st.blk p.1=.none
 | [],_,p,hp=>by cases hp
 | (i,x)::r,h,p,hp=>by
  simp only [zi9,qc] at h;rcases qd.1 hp with rfl | hp
  ·have h1:=h.1;rw [zBW] at h1;rw [St.blk_def];rw [List.getD_eq_getElem?_getD];split at h1
   ·rename_i hb; rw [hb]; rfl
   ·cases h1
  ·exact zOQ h.2 p hp
theorem zZx {dst:Option Tmp} (hn:(d.footN st).nw=true) {id:Nat} (h:st.blk id≠.none):(st.app dst d).blk id=st.blk id:=by
 simp only [Delta.footN,qc,List.isEmpty_iff] at hn;rw [zv1];unfold St.blk;simp only [hn.2,zbA];exact zQj _ _ _ λp hp e=>h (by rw [<- e]; exact zOQ hn.1 p hp)
theorem zO2 {st st':St ty} (hm:∀ id,st.blk id≠.none->st'.blk id=st.blk id) {v:AV ty} {r:List (AV ty)×Nat×List Nat} (h:zdN cx st v=some r):zdN cx st' v=some r:=by
 cases v with
 | ptr id o=>
  simp only [zdN] at h ⊢;rw [hm id λe=>by rw [e] at h; cases h]; exact h
 | eptr id ix o=>
  simp only [zdN] at h ⊢;rw [hm id λe=>by rw [e] at h; cases h]; exact h
 | _=>exact h
theorem zV4 {st st':St ty} (ht:st'.tmps=st.tmps) (hm:∀ id,st.blk id≠.none->st'.blk id=st.blk id) (hr:zJF o=true) (h:aop cx o st=some d):aop cx o st'=some d:=by
 unfold aop zdW at h ⊢;unfold zJF at hr;cases ho:o.op <;>simp only [ho,Bool.false_eq_true] at h hr ⊢ <;>(try simp only [zQA ht]) <;>first | (cases hr; done) | skip
 case load T x=>
  split at h
  ·rename_i i cs off rd hti hc;split at h
   ·rename_i v hv;simp only [hti,zO2 hm hc,hv]; exact h
   ·cases h
  ·cases h
 case fieldAddr S x f=>
  split at h
  ·rename_i fs sz bt z hti;split at h
   ·rename_i p hp;split at h
    ·rename_i i v cs off rd hi hs hc;simp only [zO2 hm hc,hs,hi]; exact h
    ·cases h
   ·cases h
  ·cases h
theorem zXH {st st':St ty} (ht:st'.tmps=st.tmps) (hm:∀ id,st.blk id≠.none->st'.blk id=st.blk id) (hr:zJF o=true) (h:zfN cx ops o st=some d):zfN cx ops o st'=some d:=by
 unfold zfN at h ⊢;cases hg:o.guard with
 | none=>rw [hg] at h; exact zV4 ht hm hr h
 | some gw=>
  obtain ⟨g,want⟩:=gw;rw [hg] at h
  dsimp only at h ⊢
  cases hd:(ops[g]?).bind (·.dst) with
  | none=>rw [hd] at h; cases h
  | some t=>
   rw [hd] at h
   dsimp only at h ⊢
   have:st'.get t=st.get t:=by unfold St.get; rw [ht]
   rw [this];cases hv:st.get t with
   | lit v=>
    rw [hv] at h;cases v with
    | bool b=>
     dsimp only at h ⊢
     cases hbw:(b==want) with
     | true=>rw [hbw] at h; exact zV4 ht hm hr h
     | false=>rw [hbw] at h; exact h
    | tuple vs=>exact h
    | _=>cases h
   | _=>rw [hv] at h; cases h
theorem zyv {st st':St ty} (hb:st'.blks=st.blks):d.footN st'=d.footN st:=by unfold Delta.footN; rw [zIt hb]
theorem zNd {st st':St ty} (h:d.foot.eff=false):d.footN st'=d.footN st:=by
 simp only [Delta.foot,Foot.eff,Bool.not_eq_false',qc,List.isEmpty_iff,List.map_eq_nil_iff] at h;unfold Delta.footN; rw [h.1]; rfl
theorem zKm:∀ (wr:List (Nat×Blk ty)) (b:List (Blk ty)) (id:Nat),id∉wr.map (·.1)->(zbE b wr)[id]? =b[id]?
 | [],b,id,h=>rfl
 | (i,x)::r,b,id,h=>by
  simp only [zbE];rw [zKm r _ id λhh=>h (by simp only [List.map_cons,qd]; exact .inr hh),List.getElem?_set_ne λe=>h (by simp [e])]
theorem zMA:∀ (fz:List Nat) (b:List (Blk ty)) (id:Nat),id∉fz->(zbA b fz)[id]? =b[id]?
 | [],b,id,h=>rfl
 | i::r,b,id,h=>by
  simp only [zbA];rw [zMA r _ id λhh=>h (by simp [hh]),List.getElem?_set_ne λe=>h (by simp [e])]
theorem zEU {st:St ty} {dst:Option Tmp} {d:Delta ty} {id:Nat} (h1:id∉d.wr.map (·.1)) (h2:id∉d.fz):(st.app dst d).blks[id]? =st.blks[id]? :=by
 rw [St.app_blks,zKm _ _ _ h1,zMA _ _ _ h2]
theorem zVY {b b':List (Blk ty)} {i id:Nat} {x x':Blk ty} (h:b[id]? =b'[id]?) (hx:i=id->x=x'):(b.set i x)[id]? =(b'.set i x')[id]? :=by
 rw [List.getElem?_set',List.getElem?_set',h];by_cases e:i=id
 ·simp only [e,if_true,hx e]
 ·simp only [e,if_false]
theorem zOP:∀ (wr:List (Nat×Blk ty)) {b b':List (Blk ty)} {id:Nat},b[id]? =b'[id]? ->(zbE b wr)[id]? =(zbE b' wr)[id]?
 | [],b,b',id,h=>h
 | (i,x)::r,b,b',id,h=>zOP r (zVY h λ_=>rfl)
theorem zRB:∀ (fz:List Nat) {b b':List (Blk ty)} {id:Nat},b[id]? =b'[id]? ->(zbA b fz)[id]? =(zbA b' fz)[id]?
 | [],b,b',id,h=>h
 | i::r,b,b',id,h=>zRB r (zVY h λe=>by
   subst e;rw [zfF,zfF,List.getD_eq_getElem?_getD,List.getD_eq_getElem?_getD,h])
theorem zSH (wr:List (Nat×Blk ty)) (fz:List Nat) {b b':List (Blk ty)} {id:Nat} (h:b[id]? =b'[id]?):(zbE (zbA b fz) wr)[id]? =(zbE (zbA b' fz) wr)[id]? :=zOP wr (zRB fz h)
theorem zSV {a b:List Nat} (h:zIN a b=true):∀ id∈a,id∉b:=λid hi hb=>by
 unfold zIN at h;have:=List.all_eq_true.1 h id hi;simp [hb] at this
theorem zY7 {dx dy:Delta ty} (h:dx.foot.sep dy.foot=true):(∀ id,id∈dx.wr.map (·.1)\/id∈dx.fz->id∉dy.wr.map (·.1)++(dy.fz++dy.rd))/\(∀ id,id∈dy.wr.map (·.1)\/id∈dy.fz->id∉dx.wr.map (·.1)++(dx.fz++dx.rd))/\True:=by
 unfold Foot.sep Delta.foot at h;simp only [qc] at h;exact ⟨λid hi=>zSV h.1 id (List.mem_append.2 hi),λid hi=>zSV h.2 id (List.mem_append.2 hi),trivial⟩
theorem zT4 {st st':St ty} (ht:st'.tmps=st.tmps) (hl:zvn o=true) (h:zfN cx ops o st=some d) (ha:Agr (d.wr.map (·.1)++(d.fz++d.rd)) st st'):zfN cx ops o st'=some d:=by
 unfold zfN at h ⊢;cases hg:o.guard with
 | none=>rw [hg] at h; exact zYh ht hl h ha
 | some gw=>
  obtain ⟨g,want⟩:=gw;rw [hg] at h
  dsimp only at h ⊢
  cases hd:(ops[g]?).bind (·.dst) with
  | none=>rw [hd] at h; cases h
  | some t=>
   rw [hd] at h
   dsimp only at h ⊢
   have:st'.get t=st.get t:=by unfold St.get; rw [ht]
   rw [this];cases hv:st.get t with
   | lit v=>
    rw [hv] at h;cases v with
    | bool b=>
     dsimp only at h ⊢
     cases hbw:(b==want) with
     | true=>rw [hbw] at h; exact zYh ht hl h ha
     | false=>rw [hbw] at h; exact h
    | tuple vs=>exact h
    | _=>cases h
   | _=>rw [hv] at h; cases h
theorem zWz {ox oy:Oper} {dx dy:Delta ty} (hap:ox.apart ops oy=true) (hfr:dx.foot.free dy.foot=true\/(zJF ox=true/\dx.foot.eff=false/\(dy.footN (st.app ox.dst dx)).nw=true)\/(zvn ox=true/\zvn oy=true/\dx.foot.sep dy.foot=true))
  (hx:zfN cx ops ox st=some dx) (hy:zfN cx ops oy (st.app ox.dst dx)=some dy):
  zfN cx ops oy st=some dy/\zfN cx ops ox (st.app oy.dst dy)=some dx/\(st.app oy.dst dy).app ox.dst dx=(st.app ox.dst dx).app oy.dst dy/\dy.footN st=dy.footN (st.app ox.dst dx)/\dx.footN (st.app oy.dst dy)=dx.footN st:=by
 obtain ⟨h1,h2,h3⟩:=Oper.apart_spec hap;have gx:∀ t,t∈oy.looksAt ops->(st.app ox.dst dx).get t=st.get t:=λt ht=>zWc λe=>h1 t e ht
 have gy:∀ t,t∈ox.looksAt ops->(st.app oy.dst dy).get t=st.get t:=λt ht=>zWc λe=>h3 t e ht
 have htm:((st.app oy.dst dy).app ox.dst dx).tmps=((st.app ox.dst dx).app oy.dst dy).tmps:=by
  rw [zJL,zJL,zJL,zJL];cases hdx:ox.dst with
  | none=>rfl
  | some t=>
   cases hdy:oy.dst with
   | none=>rfl
   | some u=>
    have hne:t≠u:=λe=>h2 t hdx (e ▸ hdy)
    exact (List.set_comm _ _ hne.symm)
 have ext:∀ s s':St ty,s.tmps=s'.tmps->s.blks=s'.blks->s=s':=λs s' h h'=>by cases s; cases s'; simp_all
 simp only [Foot.free,Bool.or_eq_true,qc,Bool.not_eq_true'] at hfr;rcases hfr with ((⟨hnx,hny⟩ | hex) | hey) | ⟨hrd,hnx,hnw⟩ | ⟨hlx,hly,hsep⟩
 ·have hbx:=zjd (st:=st) hnx ox.dst;have hby:=zjd (st:=st) hny oy.dst;have y1:zfN cx ops oy st=some dy:=by rw [<- zpm (st':=st.app ox.dst dx) hbx gx]; exact hy
  refine ⟨y1, ?_,ext _ _ htm ?_,(zyv hbx).symm,zyv hby⟩
  ·rw [zpm (st:=st) hby gy]; exact hx
  ·rw [zjd hnx,zjd hny,zjd hny,zjd hnx]
 ·have hnx:=Foot.empty_eff hex;have hbx:=zjd (st:=st) hnx ox.dst;have y1:zfN cx ops oy st=some dy:=by rw [<- zpm (st':=st.app ox.dst dx) hbx gx]; exact hy
  refine ⟨y1, ?_,ext _ _ htm ?_,(zyv hbx).symm,zNd hnx⟩
  ·-- over other blocks first, then other temporaries
   have:=zTV (st:=st) (⟨st.tmps,(st.app oy.dst dy).blks⟩:St ty) rfl hx hex;rw [zpm (st:=(⟨st.tmps,(st.app oy.dst dy).blks⟩:St ty)) (st':=st.app oy.dst dy) rfl gy]; exact this
  ·rw [zjd hnx];rw [St.app_blks (st.app ox.dst dx),hbx,St.app_blks]
 ·have hny:=Foot.empty_eff hey;have hby:=zjd (st:=st) hny oy.dst
  have y1:zfN cx ops oy st=some dy:=by
   have:=zTV (st:=st.app ox.dst dx) (⟨(st.app ox.dst dx).tmps,st.blks⟩:St ty) rfl hy hey;rw [<- zpm (st:=st) (st':=(⟨(st.app ox.dst dx).tmps,st.blks⟩:St ty)) rfl gx]; exact this
  refine ⟨y1, ?_,ext _ _ htm ?_,zNd hny,zyv hby⟩
  ·rw [zpm (st:=st) hby gy]; exact hx
  ·rw [zjd hny];rw [St.app_blks (st.app oy.dst dy),hby,St.app_blks]
 ·have hbx:=zjd (st:=st) hnx ox.dst;have y1:zfN cx ops oy st=some dy:=by rw [<- zpm (st':=st.app ox.dst dx) hbx gx]; exact hy
  rw [zyv hbx] at hnw;refine ⟨y1, ?_,ext _ _ htm ?_,(zyv hbx).symm,zNd hnx⟩
  ·have:=zXH (st:=st) (st':=(⟨st.tmps,(st.app oy.dst dy).blks⟩:St ty)) rfl (λid hid=>zZx (dst:=oy.dst) hnw hid) hrd hx
   rw [zpm (st:=(⟨st.tmps,(st.app oy.dst dy).blks⟩:St ty)) (st':=st.app oy.dst dy) rfl gy]; exact this
  ·rw [zjd hnx];rw [St.app_blks (st.app ox.dst dx),hbx,St.app_blks]
 ·obtain ⟨s1,s2,s3⟩:=zY7 hsep;have ax:∀ id,id∉dx.wr.map (·.1)->id∉dx.fz->(st.app ox.dst dx).blks[id]? =st.blks[id]? :=λid h1 h2=>zEU h1 h2
  have ay:∀ id,id∉dy.wr.map (·.1)->id∉dy.fz->(st.app oy.dst dy).blks[id]? =st.blks[id]? :=λid h1 h2=>zEU h1 h2
  have y1:zfN cx ops oy st=some dy:=by
   have:=zT4 (st:=st.app ox.dst dx) (st':=(⟨(st.app ox.dst dx).tmps,st.blks⟩:St ty)) rfl hly hy λid hi=>(ax id (λh=>s1 id (.inl h) hi) (λh=>s1 id (.inr h) hi)).symm
   rw [<- zpm (st:=st) (st':=(⟨(st.app ox.dst dx).tmps,st.blks⟩:St ty)) rfl gx]; exact this
  refine ⟨y1, ?_,ext _ _ htm ?_, ?_, ?_⟩
  ·have:=zT4 (st:=st) (st':=(⟨st.tmps,(st.app oy.dst dy).blks⟩:St ty)) rfl hlx hx λid hi=>ay id (λh=>s2 id (.inl h) hi) (λh=>s2 id (.inr h) hi)
   rw [zpm (st:=(⟨st.tmps,(st.app oy.dst dy).blks⟩:St ty)) (st':=st.app oy.dst dy) rfl gy]; exact this
  ·apply List.ext_getElem?;intro id;by_cases hid:id∈dx.wr.map (·.1)\/id∈dx.fz
   ·have h1:id∉dy.wr.map (·.1):=λh=>s1 id hid (by simp only [List.mem_append]; exact .inl h)
    have h2:id∉dy.fz:=λh=>s1 id hid (by simp only [List.mem_append]; exact .inr (.inl h))
    rw [zEU (st:=st.app ox.dst dx) h1 h2];exact ((congrArg (·[id]?) (St.app_blks (st.app oy.dst dy) ox.dst dx)).trans (zSH dx.wr dx.fz (ay id h1 h2))).trans (congrArg (·[id]?) (St.app_blks st ox.dst dx)).symm
   ·have h1:id∉dx.wr.map (·.1):=λh=>hid (.inl h)
    have h2:id∉dx.fz:=λh=>hid (.inr h)
    rw [zEU (st:=st.app oy.dst dy) h1 h2];exact ((congrArg (·[id]?) (St.app_blks (st.app ox.dst dx) oy.dst dy)).trans (zSH dy.wr dy.fz (ax id h1 h2))).symm.symm.trans (congrArg (·[id]?) (St.app_blks st oy.dst dy)).symm |>.symm
  ·unfold Delta.footN;rw [zBF (st:=st) (st':=st.app ox.dst dx) λid hi=>ax id (λh=>s1 id (.inl h) (List.mem_append_left _ hi)) (λh=>s1 id (.inr h) (List.mem_append_left _ hi))]
  ·unfold Delta.footN;rw [zBF (st:=st) (st':=st.app oy.dst dy) λid hi=>ay id (λh=>s2 id (.inl h) (List.mem_append_left _ hi)) (λh=>s2 id (.inr h) (List.mem_append_left _ hi))]
def Tr (cx:Cx ty) (ops:Array Oper):List (Nat×Foot)->St ty->St ty->Prop
 | [],st,sf=>st=sf
 | (i,f)::r,st,sf=>∃ o d,ops[i]? =some o/\zfN cx ops o st=some d/\d.footN st=f/\Tr cx ops r (st.app o.dst d) sf
def May (ops:Array Oper) (x y:Nat×Foot):Prop:=∀ ox oy,ops[x.1]? =some ox->ops[y.1]? =some oy->ox.apart ops oy=true/\(x.2.free y.2=true\/(zJF ox=true/\x.2.eff=false/\y.2.nw=true)\/(zvn ox=true/\zvn oy=true/\x.2.sep y.2=true))
theorem Tr.swap {x y:Nat×Foot} {r:List (Nat×Foot)} {sf:St ty} (hm:May ops x y) (h:Tr cx ops (x::y::r) st sf):Tr cx ops (y::x::r) st sf:=by
 obtain ⟨i,f⟩:=x; obtain ⟨j,g⟩:=y;obtain ⟨ox,dx,hox,hx,hfx,oy,dy,hoy,hy,hfy,hr⟩:=h;obtain ⟨hap,hfr⟩:=hm ox oy hox hoy;obtain ⟨y1,x1,hs,fy,fx⟩:=zWz hap (by subst hfx hfy; exact hfr) hx hy
 exact ⟨oy,dy,hoy,y1,fy.trans hfy,ox,dx,hox,x1,fx.trans hfx,hs ▸ hr⟩
theorem Tr.front {y:Nat×Foot}:∀ {p q:List (Nat×Foot)} {st sf:St ty},(∀ x∈p,May ops x y)->Tr cx ops (p++y::q) st sf->Tr cx ops (y::(p++q)) st sf
 | [],q,st,sf,_,h=>h
 | (i,f)::p,q,st,sf,hm,h=>by
  obtain ⟨o,d,ho,hd,hf,h⟩:=h;have:=Tr.front (λx hx=>hm x (by simp [hx])) h
  exact Tr.swap (hm (i,f) (by simp)) ⟨o,d,ho,hd,hf,this⟩
theorem zx2:∀ (l:List Oper) (ps:List (List Nat)) (i:Nat),i<ps.length->(ztb ps l).getD i []=ps.getD i []
 | [],ps,i,h=>rfl
 | o::r,ps,i,h=>by
  simp only [ztb];rw [zx2 r _ i (by simp; omega)]
  simp only [zfF,List.getD_eq_getElem?_getD,List.getElem?_append_left h]
theorem zWX {ps qs:List (List Nat)} {o:Oper} (h:∀ e∈o.after.toList,Region.binds .any e=true->ps.getD e.on []=qs.getD e.on []):zvS ps o=zvS qs o:=by
 unfold zvS;rw [List.flatMap_def,List.flatMap_def];congr 1;apply List.map_congr_left;intro e he;cases hb:Region.binds .any e with
 | true=>simp only [cond_true,h e he hb]
 | false=>rfl
theorem zQs:∀ (l:List Oper) (ps:List (List Nat)) (n:Nat),ps.length=n->zCs n l=true->∀ (i:Nat) (o:Oper),n<=i->l[i - n]? =some o->
  (∀ e∈o.after,Region.binds .any e=true->e.on<i)/\(ztb ps l).getD i []=(zvS (ztb ps l) o).eraseDups
 | [],ps,n,hn,hb,i,o,hi,ho=>by simp at ho
 | o'::r,ps,n,hn,hb,i,o,hi,ho=>by
  simp only [zCs,qc] at hb;by_cases h:i=n
  ·subst h;simp only [Nat.sub_self,List.getElem?_cons_zero,qa] at ho;subst ho
   have hlt:∀ e∈o'.after,Region.binds .any e=true->e.on<i:=λe he hbi=>by
    have:=(Array.all_eq_true_iff_forall_mem.1 hb.1) e he;simp only [hbi,Bool.not_true,Bool.false_or] at this;exact Nat.le_of_ble_eq_true this
   refine ⟨hlt, ?_⟩;simp only [ztb];rw [zx2 r _ i (by simp; omega)]
   rw [List.getD_eq_getElem?_getD, <- hn,List.getElem?_append_right (Nat.le_refl _)];simp only [Nat.sub_self,List.getElem?_cons_zero,Option.getD_some];congr 1;apply zWX;intro e he hbi;have:=hlt e (by simpa using he) hbi
   rw [zx2 r _ e.on (by simp; omega),List.getD_eq_getElem?_getD,List.getD_eq_getElem?_getD,List.getElem?_append_left (by omega)]
  ·have hs:i - n=(i - (n+1))+1:=by omega
   rw [hs,List.getElem?_cons_succ] at ho;exact zQs r _ (n+1) (by simp [hn]) hb.2 i o (by omega) ho
def z0m (ops:Array Oper) (ps:List (List Nat)) (listed:Array Bool):Prop:=∀ i,i<ops.size->listed.getD i false=true->∀ j∈ps.getD i [],listed.getD j false=true
theorem zVH {ps:List (List Nat)} {listed:Array Bool} {i:Nat} (hps:∀ (i:Nat) (o:Oper),ops[i]? =some o->(∀ e∈o.after,Region.binds .any e=true->e.on<i)/\ps.getD i []=(zvS ps o).eraseDups)
  (hd:z0m ops ps listed) (hr:i∈Region.ready .any ops listed):∀ j∈ps.getD i [],listed.getD j false=true:=by
 obtain ⟨_,o,ho,hall⟩:=mem_ready.1 hr;obtain ⟨hlt,hpi⟩:=hps i o ho;intro j hj;rw [hpi,List.mem_eraseDups] at hj;unfold zvS at hj;obtain ⟨e,he,hje⟩:=List.mem_flatMap.1 hj;have he':e∈o.after:=by simpa using he
 cases hb:Region.binds .any e with
 | false=>rw [hb] at hje; cases hje
 | true=>
  rw [hb] at hje;have hle:=hall e he' hb;rcases qd.1 hje with rfl | hj'
  ·exact hle
  ·have hs:e.on<ops.size:=Nat.lt_trans (hlt e he' hb) (Array.getElem?_eq_some_iff.1 ho).1;exact hd e.on hs hle j hj'
theorem zSM (hcx:CxOK P cx) (hspec:∀ f s,cx.spec f=some s->Sound P cx f s) {ps:List (List Nat)}
  (hps:∀ (i:Nat) (o:Oper),ops[i]? =some o->(∀ e∈o.after,Region.binds .any e=true->e.on<i)/\ps.getD i []=(zvS ps o).eraseDups) {sf:St ty} (hQ:∀ a w,R cx e sf a w->Q .normal a w):
  ∀ (n:Nat) (rem:List (Nat×Foot)) (listed:Array Bool) (st:St ty) (a:Act) (w:World),rem.length=n->Tr cx ops rem st sf->
   rem.Pairwise (λx y=>x.1<y.1/\((ps.getD y.1 []).contains x.1=true\/May ops x y))->listed.size=ops.size->(∀ i,i<ops.size->(listed.getD i false=false↔i∈rem.map (·.1)))->z0m ops ps listed->
   R cx e st a w->wpAny P .any ops Q n listed a w
 | 0,rem,listed,st,a,w,hn,ht,hp,hsz,hl,hd,hR=>by
  obtain rfl:rem=[]:=by simpa using hn
  obtain rfl:st=sf:=ht;refine wpAny_done ?_ (hQ a w hR) 0;rw [List.eq_nil_iff_forall_not_mem];intro i hi;obtain ⟨h0,o,ho,_⟩:=mem_ready.1 hi;have hlt:=(Array.getElem?_eq_some_iff.1 ho).1;have:=(hl i hlt).1 (by simp only [Array.getD_eq_getD_getElem?] at h0 ⊢; cases hx:listed[i]? with | none=>rfl | some b=>rw [hx] at h0; exact h0)
  simp at this
 | n+1,rem,listed,st,a,w,hn,ht,hp,hsz,hl,hd,hR=>by
  refine ⟨λh0=> ?_,λi hi=> ?_⟩
  ·-- the first of those that are left is ready
   cases rem with
   | nil=>simp at hn
   | cons x r=>
    obtain ⟨i,f⟩:=x;obtain ⟨o,d,ho,_,_,_⟩:=ht;have hlt:=(Array.getElem?_eq_some_iff.1 ho).1;have hiu:listed.getD i false=false:=(hl i hlt).2 (by simp)
    have:i∈Region.ready .any ops listed:=by
     refine mem_ready.2 ⟨?_,o,ho,λed he hb=> ?_⟩
     ·have hls:i<listed.size:=by omega
      simp only [Array.getD_eq_getD_getElem?,Array.getElem?_eq_getElem hls,Option.getD_some] at hiu ⊢; exact hiu
     ·have hon:=(hps i o ho).1 ed he hb;cases hlo:listed.getD ed.on false with
      | true=>rfl
      | false=>
       have:=(hl ed.on (by omega)).1 hlo
       rcases qd.1 this with h | h
       ·simp at h; omega
       ·obtain ⟨y,hy,hyi⟩:=List.mem_map.1 h;have:=((qi.1 hp).1 y hy).1;simp only at this hyi; omega
    rw [h0] at this; cases this
  ·obtain ⟨h0,o,ho,hall⟩:=mem_ready.1 hi;have hlt:=(Array.getElem?_eq_some_iff.1 ho).1;have hls:i<listed.size:=by omega
   have hiu:listed.getD i false=false:=by
    simp only [Array.getD_eq_getD_getElem?,Array.getElem?_eq_getElem hls,Option.getD_some] at h0 ⊢; exact h0
   obtain ⟨y,hy,hyi⟩:=List.mem_map.1 ((hl i hlt).1 hiu);obtain ⟨p,q,rfl⟩:=List.append_of_mem hy;obtain ⟨i',f⟩:=y;obtain rfl:i'=i:=hyi;have hpre:=zVH hps hd hi;rw [List.pairwise_append] at hp;obtain ⟨hpp,hpq,hpc⟩:=hp
   have hmay:∀ x∈p,May ops x (i',f):=λx hx=>by
    rcases (hpc x hx (i',f) (by simp)).2 with h | h
    ·have h1:=hpre x.1 (by simpa using h)
     have hx':x.1<ops.size:=by have:=(hpc x hx (i',f) (by simp)).1; simp only at this; omega
     have:=(hl x.1 hx').2 (by simp; exact .inl ⟨x.2,hx⟩)
     rw [h1] at this; cases this
    ·exact h
   obtain ⟨o',d,ho',hst,hf,ht'⟩:=Tr.front hmay ht;obtain rfl:o=o':=by rw [ho] at ho'; exact Option.some.inj ho'
   obtain ⟨κ,hrf⟩:=hR;refine wpOp_mono (λa' w' hR'=> ?_) (zOH hcx hspec ho hst hrf)
   have hpq':=qi.1 hpq;refine zSM hcx hspec hps hQ n (p++q) _ _ a' w' (by simp at hn ⊢; omega) ht' ?_ (by simp [hsz]) (λk hk=> ?_) (λk hk hlk j hj=> ?_) hR'
   ·rw [List.pairwise_append];exact ⟨hpp,hpq'.2,λx hx y hy=>hpc x hx y (by simp [hy])⟩
   ·by_cases hki:i'=k
    ·subst hki;have hset:(listed.setIfInBounds i' true).getD i' false=true:=by simp [Array.getD_eq_getD_getElem?,hls]
     rw [hset];constructor
     ·intro h; cases h
     ·intro h;rw [List.map_append,List.mem_append] at h;rcases h with h | h
      ·obtain ⟨y,hy,hyi⟩:=List.mem_map.1 h;have:=(hpc y hy (i',f) (by simp)).1; simp only at this; omega
      ·obtain ⟨y,hy,hyi⟩:=List.mem_map.1 h;have:=(hpq'.1 y hy).1; simp only at this; omega
    ·rw [getD_set_ne false hki,hl k hk];simp only [List.map_append,List.map_cons,List.mem_append,qd];constructor
     ·rintro (h | h | h)
      ·exact .inl h
      ·exact absurd h.symm hki
      ·exact .inr h
     ·rintro (h | h)
      ·exact .inl h
      ·exact .inr (.inr h)
   ·by_cases hki:i'=k
    ·subst hki; exact getD_set_true (hpre j hj)
    ·rw [getD_set_ne false hki] at hlk;exact getD_set_true (hd k hk hlk j hj)
theorem zOM {o:Oper} {pre:List Nat} {f:Foot}:∀ {tr:List (Nat×Oper×Foot)},zG7 ops o pre f tr=true->∀ x∈tr,pre.contains x.1=true\/(x.2.1.apart ops o=true/\(x.2.2.free f=true\/(zJF x.2.1=true/\x.2.2.eff=false/\f.nw=true)\/(zvn x.2.1=true/\zvn o=true/\x.2.2.sep f=true)))
 | [],h,x,hx=>by cases hx
 | (j,oj,fj)::r,h,x,hx=>by
  simp only [zG7,qc,Bool.or_eq_true,Bool.not_eq_true'] at h;rcases qd.1 hx with rfl | hx
  ·exact h.1
  ·exact zOM h.2 x hx
theorem zOS {ps:List (List Nat)} {K:St ty->Option α} {r:α}:∀ (l:List Oper) (i:Nat) (tr:List (Nat×Oper×Foot)) (st:St ty),(∀ j:Nat,l[j]? =ops[i+j]?)->(∀ x∈tr,ops[x.1]? =some x.2.1/\x.1<i)->
  zyF cx ops ps i l tr st K=some r->∃ (rem:List (Nat×Foot)) (sf:St ty),rem.map (·.1)=List.range' i l.length/\Tr cx ops rem st sf/\K sf=some r/\
   rem.Pairwise (λx y=>x.1<y.1/\((ps.getD y.1 []).contains x.1=true\/May ops x y))/\
   ∀ x∈tr,∀ y∈rem,(ps.getD y.1 []).contains x.1=true\/May ops (x.1,x.2.2) y
 | [],i,tr,st,hl,htr,h=>⟨[],st,rfl,rfl,h,List.Pairwise.nil,λ_ _ _ hy=>by cases hy⟩
 | o::l,i,tr,st,hl,htr,h=>by
  have h0:ops[i]? =some o:=by simpa using (hl 0).symm
  simp only [zyF,zIh] at h;cases hd:zfN cx ops o st with
  | none=>rw [hd] at h; cases h
  | some d=>
   rw [hd] at h;simp only [Option.bind_some] at h;split at h
   ·rename_i hok
    obtain ⟨rem,sf,hm,ht,hK,hp,hc⟩:=zOS l (i+1) ((i,o,d.footN st)::tr) _ (λj=>by have:=hl (j+1); simpa [Nat.add_assoc,Nat.add_comm 1 j] using this)
     (λx hx=>by
      rcases qd.1 hx with rfl | hx
      ·exact ⟨h0,by simp⟩
      ·exact ⟨(htr x hx).1,by have:=(htr x hx).2; omega⟩) h
    have hge:∀ y∈rem,i<y.1:=λy hy=>by
     have:y.1∈rem.map (·.1):=List.mem_map.2 ⟨y,hy,rfl⟩;rw [hm,List.mem_range'] at this;obtain ⟨k,_,hk⟩:=this; omega
    refine ⟨(i,d.footN st)::rem,sf, ?_,⟨o,d,h0,hd,rfl,ht⟩,hK, ?_,λx hx y hy=> ?_⟩
    ·simp only [List.map_cons,qf,List.range'_succ,hm]
    ·rw [qi];exact ⟨λy hy=>⟨hge y hy,hc (i,o,d.footN st) (by simp) y hy⟩,hp⟩
    ·rcases qd.1 hy with rfl | hy
     ·rcases zOM hok x hx with h | h
      ·exact .inl h
      ·refine .inr λox oy hox hoy=> ?_
       have hox':x.2.1=ox:=by rw [(htr x hx).1] at hox; exact Option.some.inj hox
       have hoy':o=oy:=by rw [h0] at hoy; exact Option.some.inj hoy
       subst hox' hoy'; exact h
     ·exact hc x (by simp [hx]) y hy
   ·cases h
theorem zMD {o:Oper} {pre:List Nat} {f:Foot} {tr:List (Nat×Oper×Foot)}:∀ {T:List (Nat×Oper×Foot)},(∀ x∈T,x.2.2.empty=true\/x∈tr)->zTS ops o pre (T.map λx=>(x.1,x.2.1))=true->(f.empty=true\/zUx o pre f tr=true)->zG7 ops o pre f T=true
 | [],_,_,_=>rfl
 | (j,oj,fj)::r,hT,hs,hf=>by
  simp only [List.map_cons,zTS,qc] at hs;have hr:=zMD (T:=r) (λx hx=>hT x (by simp [hx])) hs.2 hf
  simp only [zG7,qc];refine ⟨?_,hr⟩;rw [Bool.or_eq_true];rcases Bool.or_eq_true _ _ ▸ hs.1 with h1 | h1
  ·exact .inl h1
  ·by_cases hp:pre.contains j=true
   ·exact .inl hp
   ·refine .inr ?_;rw [qc];refine ⟨h1, ?_⟩;rw [Bool.or_eq_true];rcases hf with hf | hf
    ·exact .inl (by simp [Foot.free,hf])
    ·rcases hT (j,oj,fj) (by simp) with he | he
     ·have he:fj.empty=true:=he;exact .inl (by simp [Foot.free,he])
     ·have key:∀ {tr:List (Nat×Oper×Foot)},zUx o pre f tr=true->(j,oj,fj)∈tr->((fj.free f||((zJF oj&&(!fj.eff&&f.nw))||(zvn oj&&(zvn o&&fj.sep f))))||pre.contains j)=true:=by
       intro tr;induction tr with
       | nil=>intro _ h; cases h
       | cons y r ih=>
        intro h hm;obtain ⟨k,ok,fk⟩:=y;simp only [zUx,qc] at h;rcases qd.1 hm with e | hm
        ·cases e; exact h.1
        ·exact ih h.2 hm
      have:=key hf he;rw [Bool.or_eq_true,Bool.or_eq_true] at this;rcases this with h | h
      ·exact h
      ·exact absurd h hp
theorem zA8 {ps:List (List Nat)} {K:St ty->Option α} {r:α}:∀ (l:List Oper) (i:Nat) (tr T:List (Nat×Oper×Foot)) (st:St ty),(∀ x∈T,x.2.2.empty=true\/x∈tr)->zNA ops ps i l (T.map λx=>(x.1,x.2.1))=true->
  zzZ cx ops ps i l tr st K=some r->zyF cx ops ps i l T st K=some r
 | [],i,tr,T,st,_,_,h=>h
 | o::l,i,tr,T,st,hT,hs,h=>by
  simp only [zNA,qc] at hs;simp only [zzZ,zIh] at h;simp only [zyF,zIh];simp only [zfF] at hs h;cases hd:zfN cx ops o st with
  | none=>rw [hd] at h; cases h
  | some d=>
   rw [hd] at h;simp only [Option.bind_some] at h ⊢;split at h
   ·rename_i he;rw [zMD hT hs.1 (.inl he)]
    exact zA8 l (i+1) tr ((i,o,d.footN st)::T) _ (λx hx=>by
     rcases qd.1 hx with rfl | hx
     ·exact .inl he
     ·exact hT x hx) hs.2 h
   ·split at h
    ·rename_i hdy;rw [zMD hT hs.1 (.inr hdy)]
     exact zA8 l (i+1) ((i,o,d.footN st)::tr) ((i,o,d.footN st)::T) _ (λx hx=>by
      rcases qd.1 hx with rfl | hx
      ·exact .inr (by simp)
      ·rcases hT x hx with h | h
       ·exact .inl h
       ·exact .inr (by simp [h])) hs.2 h
    ·cases h
theorem zVn (hm:P.follows .mixedOrders=true) (hcx:CxOK P cx) (hspec:∀ f s,cx.spec f=some s->Sound P cx f s) {K:St ty->Option α} {r:α} (hb:zCs 0 ops.toList=true)
  (hQ:∀ st a w,K st=some r->R cx e st a w->Q .normal a w) (h:zyF cx ops (zTO ops.toList) 0 ops.toList [] st K=some r) (hR:R cx e st a w) (t:Nat):wpOps P ops Q (Region.schedule (P.follows .mixedOrders) ops t) a { w with drawn:=w.drawn+1 }:=by
 obtain ⟨rem,sf,hmm,ht,hK,hp,_⟩:=zOS ops.toList 0 [] st (λj=>by simp) (λx hx=>by cases hx) h
 simp only [Region.schedule,hm,Bool.true_or,if_true];refine wpAny_sound ops.size t _ a _ (zSM hcx hspec (ps:=zTO ops.toList) (λi o ho=> ?_) (λa w=>hQ sf a w hK) ops.size rem _ st a _ ?_ ht hp (by simp) (λi hi=> ?_) (λi hi hl=> ?_) (hR.drew _ (Nat.le_succ _)))
 ·exact zQs ops.toList [] 0 rfl hb i o (Nat.zero_le _) (by simpa using ho)
 ·have:=congrArg List.length hmm; simpa using this
 ·rw [hmm];simp [List.mem_range',Array.getD_eq_getD_getElem?,hi]
 ·simp [Array.getD_eq_getD_getElem?,hi] at hl
end
end
end Go.Ab
/- Loop heads: the shape of what is alive, and its rows and boxes numbered anew. -/
namespace Go.Ab
noncomputable section
variable {ty:Nat->Type}
section
variable {P:Program} {cx:Cx ty} {e:Env} {st st':St ty} {κ:Nat->Value} {a:Act} {w:World} {Q:Exit->Act->World->Prop} {α:Type}
theorem zF0 (l:List (AV ty)) (t u:Nat) (v:AV ty):(gD .dead (l.set t v) u)=if t=u/\t<l.length then v else (gD .dead l u):=by
 simp only [zfF,List.getD_eq_getElem?_getD,List.getElem?_set];by_cases h:t=u
 ·subst h;by_cases h':t<l.length <;>simp [h']
 ·simp [h]
theorem zDP (hcx:CxOK P cx) {t id:Nat}:∀ (l:List (Nat×Nat)) (k:Nat) (st st':St ty),zG8 t id k l st=some st'->R cx e st a w->R cx e st' a w
 | [],k,st,st',h,hR=>by simp only [zG8,qa] at h; exact h ▸ hR
 | (off,T)::r,k,st,st',h,hR=>by
  simp only [zG8,zwv] at h;split at h
  ·rename_i cs hb;split at h
   ·rename_i hv;split at h
    ·rename_i hfree;refine zDP hcx r (k+1) _ st' h ?_;obtain ⟨κ,hf⟩:=hR;obtain ⟨hn,hlt⟩:=zje hfree;have hne:zK t+k≠id:=λhe=>by rw [he,hb] at hn; cases hn
     obtain ⟨hrb,hc⟩:=zrz (B:=st.blks) (n:=zK t+k) (nb:=.arr T [] false) (v:=.slice none 0 0) (w':=w) hf.rb hn hlt rfl rfl rfl (Nat.le_refl _) (λ_ _=>rfl) (λb hb=>by simp [zS] at hb)
      (λ_=>⟨[],⟨by simp,.inl ⟨rfl,rfl⟩⟩,⟨by simp [zcc],λj u c hu=>by simp at hu⟩⟩)
     have hid:gD .none (st.blks.set (zK t+k) (.arr T [] false)) id=.box cs false:=by
      rw [zbr,if_neg (λh=>hne h.1)]; exact hb
     have hbk:=hrb.blk id;simp only [hid] at hbk;obtain ⟨b,cur,ty',hκ,hg,hall⟩:=hbk
     obtain ⟨hrb2,hc2⟩:=zx8 (B:=st.blks.set (zK t+k) (.arr T [] false)) (n:=id) (nb:=.box (cs.set off (.own (zK t+k))) false) (w':=w) hrb (by rw [hid]; rfl) (by rw [hid]; rfl) rfl rfl rfl rfl (λ_ _=>.inl rfl)
      (λhc3=>⟨b,cur,ty',hκ,hg,⟨by simpa using hall.len,λj u c hu hcj=>by
       rw [List.getElem?_set] at hcj;split at hcj
       ·rename_i hj;subst hj;split at hcj
        ·rename_i hlt2;simp only [qa] at hcj; subst hcj
         have hvo:cs[off]? =some (.lit (.slice none 0 0)):=by
          rw [zfF,List.getD_eq_getElem?_getD] at hv;rw [List.getElem?_eq_getElem (by simpa using hlt2)] at hv ⊢
          simpa using hv
         have hun:=zbW (hall.at_ off u _ hu hvo);subst hun
         have:=RepA.own (cx:=cx) (F:=Fz e (λj=>gD .none ((st.blks.set (zK t+k) (.arr T [] false)).set id (.box (cs.set off (.own (zK t+k))) false)) j) (λi=>if i=zK t+k then .slice none 0 0 else κ i) w) (w:=w)
          (kd:=λi=>(gD .none ((st.blks.set (zK t+k) (.arr T [] false)).set id (.box (cs.set off (.own (zK t+k))) false)) i).kind cx) (κ:=λi=>if i=zK t+k then .slice none 0 0 else κ i) (zK t+k) (zl cx T) 0 (by
           rw [zbr,if_neg (λh=>hne h.1.symm),zbr,if_pos ⟨rfl,hlt⟩]; rfl)
         simpa only [if_pos] using this
        ·cases hcj
       ·exact hc3.rep (hall.at_ j u c hu hcj)⟩⟩)
     exact ⟨_,⟨hrb2,hf.defers,hf.size,λu=>hc2.rep (hc.rep (hf.tmps u))⟩⟩
    ·cases h
   ·split at h
    ·split at h
     ·exact zDP hcx r (k+1) _ st' h hR
     ·cases h
    ·cases h
   ·cases h
  ·cases h
theorem zUO (hcx:CxOK P cx) {t:Nat} {m:LMode} (h:zC8 cx st t m=some st') (hR:R cx e st a w):R cx e st' a w:=by
 obtain ⟨κ,hf⟩:=hR;cases m with
 | keep=>simp only [zC8,qa] at h; subst h; exact ⟨κ,hf⟩
 | pure=>
  simp only [zC8,zwv,zAa] at h;split at h
  ·rename_i v ids hp;simp only [qa] at h; subst h;obtain ⟨hrb,hc⟩:=zom hf.rb ids;refine ⟨κ,⟨hrb,hf.defers,by simp [hf.size],λu=> ?_⟩⟩
   show RepA cx (Fz e (FzB st ids) κ w) w (λi=>(FzB st ids i).kind cx) κ _ _
   have hget:(⟨st.tmps.set t v,zbA st.blks ids⟩:St ty).get u=if t=u/\t<st.tmps.length then v else st.get u:=zF0 ..
   rw [hget];split
   ·rename_i htu;obtain ⟨rfl,_⟩:=htu;exact .rep (zCp hcx hf.rb (hf.tmps t) hp λid hid=>hid)
   ·exact hc.rep (hf.tmps u)
  ·cases h
 | sl el=>
  simp only [zC8,zwv,zAa] at h;split at h
  ·rename_i v ids hp;split at h
   ·rename_i l hl;simp only [qa] at h; subst h;obtain ⟨hrb,hc⟩:=zom hf.rb ids;refine ⟨κ,⟨hrb,hf.defers,by simp [hf.size],λu=> ?_⟩⟩
    show RepA cx (Fz e (FzB st ids) κ w) w (λi=>(FzB st ids i).kind cx) κ _ _
    have hget:(⟨st.tmps.set t (.sl el l),zbA st.blks ids⟩:St ty).get u=if t=u/\t<st.tmps.length then .sl el l else st.get u:=zF0 ..
    rw [hget];split
    ·rename_i htu;obtain ⟨rfl,_⟩:=htu;exact .rep (zBY (zCp hcx hf.rb (hf.tmps t) hp λid hid=>hid) hl)
    ·exact hc.rep (hf.tmps u)
   ·cases h
  ·cases h
 | own T=>
  simp only [zC8,zwv,zAa] at h;split at h
  ·rename_i hv;split at h
   ·rename_i hfree;simp only [qa] at h; subst h;obtain ⟨hn,hlt⟩:=zje hfree;have hrv:=hf.tmps t;rw [hv] at hrv;have hnil:=zbW hrv
    obtain ⟨hrb,hc⟩:=zrz (B:=st.blks) (n:=zK t+3) (nb:=.arr T [] false) (v:=.slice none 0 0) (w':=w) hf.rb hn hlt rfl rfl rfl (Nat.le_refl _) (λ_ _=>rfl) (λb hb=>by simp [zS] at hb)
     (λ_=>⟨[],⟨by simp,.inl ⟨rfl,rfl⟩⟩,⟨by simp [zcc],λj u c hu=>by simp at hu⟩⟩)
    refine ⟨λi=>if i=zK t+3 then .slice none 0 0 else κ i,⟨hrb,hf.defers,by simp [hf.size],λu=> ?_⟩⟩
    have hget:(⟨st.tmps.set t (.own (zK t+3)),st.blks.set (zK t+3) (.arr T [] false)⟩:St ty).get u=if t=u/\t<st.tmps.length then .own (zK t+3) else st.get u:=zF0 ..
    rw [hget];split
    ·rename_i htu;obtain ⟨rfl,_⟩:=htu
     have:=RepA.own (cx:=cx) (F:=Fz e (St.blk ⟨st.tmps.set t (.own (zK t+3)),st.blks.set (zK t+3) (.arr T [] false)⟩) (λi=>if i=zK t+3 then .slice none 0 0 else κ i) w) (w:=w)
      (kd:=λi=>((gD .none (st.blks.set (zK t+3) (.arr T [] false)) i)).kind cx) (κ:=λi=>if i=zK t+3 then .slice none 0 0 else κ i) (zK t+3) (zl cx T) 0 (by
       rw [zbr,if_pos ⟨rfl,hlt⟩]; rfl)
     simp only [if_pos] at this;rw [hnil]; exact this
    ·exact hc.rep (hf.tmps u)
   ·cases h
  ·split at h
   ·split at h
    ·simp only [qa] at h; subst h; exact ⟨κ,hf⟩
    ·cases h
   ·cases h
  ·cases h
 | boxOwn l=>
  simp only [zC8] at h;split at h
  ·exact zDP hcx l 1 st st' h ⟨κ,hf⟩
  ·cases h
theorem zHs (hcx:CxOK P cx):∀ (l:List (Nat×LMode)) (st st':St ty),zDd cx l st=some st'->R cx e st a w->R cx e st' a w
 | [],st,st',h,hR=>by simp only [zDd,qa] at h; exact h ▸ hR
 | (t,m)::r,st,st',h,hR=>by
  simp only [zDd] at h;split at h
  ·rename_i s hs;exact zHs hcx r s st' h (zUO hcx hs hR)
  ·cases h
theorem zQI:∀ (ids:List Nat) (n id j:Nat),(ids.zip (List.range' n ids.length)).lookup id=some j->∃ k,ids[k]? =some id/\j=n+k
 | [],n,id,j,h=>by simp at h
 | i::r,n,id,j,h=>by
  simp only [qf,List.range'_succ,List.zip_cons_cons,List.lookup_cons] at h;split at h
  ·rename_i hb;simp only [qa] at h;exact ⟨0,by simpa using (beq_iff_eq.1 hb).symm,by omega⟩
  ·obtain ⟨k,hk,rfl⟩:=zQI r (n+1) id j h;exact ⟨k+1,by simpa using hk,by omega⟩
theorem zQC:∀ {l:List Nat},zdH l=true->∀ (i j k:Nat),l[i]? =some k->l[j]? =some k->i=j
 | [],_,i,j,k,hi,_=>by simp at hi
 | x::r,h,i,j,k,hi,hj=>by
  simp only [zdH,qc,Bool.not_eq_true'] at h
  have hx:∀ m,r[m]? =some x->False:=λm hm=>by
   have:=List.mem_of_getElem? hm;have h1:=h.1;rw [List.contains_iff_mem.2 this] at h1; cases h1
  cases i with
  | zero=>cases j with
   | zero=>rfl
   | succ j=>simp at hi hj; subst hi; exact (hx j hj).elim
  | succ i=>cases j with
   | zero=>simp at hi hj; subst hj; exact (hx i hi).elim
   | succ j=>simp at hi hj; rw [zQC h.2 i j k hi hj]
def zup (st:St ty) (ren:List (Nat×Nat)) (N:Nat) (ids:List Nat):List (Blk ty):=List.replicate N .none++ids.map λi=>zC3 ren (st.blk i)
def renκ (κ:Nat->Value) (N:Nat) (ids:List Nat) (j:Nat):Value:=κ (ids.getD (j - N) 0)
theorem zVo {ren:List (Nat×Nat)} {b:Blk ty}:(zC3 ren b).kind cx=b.kind cx:=by cases b <;>rfl
theorem zGE {ren:List (Nat×Nat)} {b:Blk ty}:(zC3 ren b).unfz↔b.unfz:=by cases b <;>rfl
theorem zO0 {ren:List (Nat×Nat)} {b:Blk ty}:(zC3 ren b).live↔b.live:=by cases b <;>rfl
theorem zyk (st:St ty) (ren:List (Nat×Nat)) (N:Nat) (ids:List Nat) (j:Nat):
  (gD .none (zup st ren N ids) j)=.none\/∃ k i,j=N+k/\ids[k]? =some i/\(gD .none (zup st ren N ids) j)=zC3 ren (st.blk i):=by
 unfold zup;rw [zfF,List.getD_eq_getElem?_getD];rcases Nat.lt_or_ge j N with h | h
 ·left; rw [List.getElem?_append_left (by simpa using h)]; simp [List.getElem?_replicate,h]
 ·rw [List.getElem?_append_right (by simpa using h)]
  simp only [List.length_replicate,List.getElem?_map];cases hi:ids[j - N]? with
  | none=>left; rfl
  | some i=>exact .inr ⟨j - N,i,by omega,hi,rfl⟩
theorem zZw (st:St ty) (ren:List (Nat×Nat)) (N:Nat) {ids:List Nat} {k i:Nat} (h:ids[k]? =some i):(gD .none (zup st ren N ids) (N+k))=zC3 ren (st.blk i):=by
 unfold zup;rw [zfF,List.getD_eq_getElem?_getD,List.getElem?_append_right (by simp)]
 simp [h]
theorem renκ_at (κ:Nat->Value) (N:Nat) {ids:List Nat} {k i:Nat} (h:ids[k]? =some i):renκ κ N ids (N+k)=κ i:=by
 unfold renκ; simp [zfF,List.getD_eq_getElem?_getD,h]
theorem zSm {F:Nat->Prop} {N:Nat} {ids:List Nat} {w:World}:
  ∀ (n:Nat) (v:Value) (av:AV ty),RepA cx F w (λi=>(st.blk i).kind cx) κ v av->
   RepA cx F w (λj=>((gD .none (zup st (ids.zip (List.range' N ids.length)) N ids) j)).kind cx) (renκ κ N ids) v (zyV (ids.zip (List.range' N ids.length)) n av)
 | 0,v,av,h=>.dead v
 | n+1,v,av,h=>by
  have hid:∀ (id:Nat) (K:Nat->AV ty),(∀ k,ids[k]? =some id->RepA cx F w (λj=>((gD .none (zup st (ids.zip (List.range' N ids.length)) N ids) j)).kind cx) (renκ κ N ids) v (K (N+k)))->
    RepA cx F w (λj=>((gD .none (zup st (ids.zip (List.range' N ids.length)) N ids) j)).kind cx) (renκ κ N ids) v (zJU (ids.zip (List.range' N ids.length)) id K):=by
   intro id K hK;unfold zJU;split
   ·rename_i j hj;obtain ⟨k,hk,rfl⟩:=zQI ids N id j hj;exact hK k hk
   ·exact .dead v
  have hkd:∀ (k id:Nat),ids[k]? =some id->((gD .none (zup st (ids.zip (List.range' N ids.length)) N ids) (N+k))).kind cx=(st.blk id).kind cx:=λk id hk=>by
   rw [zZw st _ N hk,zVo]
  have hlist:∀ (us:List Value) (cs:List (AV ty)),us.length=cs.length->(∀ (j:Nat) u c,us[j]? =some u->cs[j]? =some c->RepA cx F w (λi=>(st.blk i).kind cx) κ u c)->
    us.length=(cs.map (zyV (ids.zip (List.range' N ids.length)) n)).length/\∀ (j:Nat) u c,us[j]? =some u->(cs.map (zyV (ids.zip (List.range' N ids.length)) n))[j]? =some c->
     RepA cx F w (λj=>((gD .none (zup st (ids.zip (List.range' N ids.length)) N ids) j)).kind cx) (renκ κ N ids) u c:=by
   intro us cs hlen hr;refine ⟨by simp [hlen],λj u c hu hc=> ?_⟩
   rw [List.getElem?_map] at hc;cases hcj:cs[j]? with
   | none=>rw [hcj] at hc; cases hc
   | some c0=>rw [hcj] at hc; simp at hc; subst hc; exact zSm n u c0 (hr j u c0 hu hcj)
  cases h with
  | rep hr=>
   cases hr with
   | lit v=>exact .rep (.lit v)
   | slE a c T hn=>exact .rep (.slE a c T hn)
   | errN=>exact .rep .errN
   | errS t u=>exact .rep (.errS t u)
   | sl b off cap T l us hF hcap hlen hc hr=>exact .rep (.sl b off cap T l us hF hcap hlen hc hr)
   | fptr b off0 off T x us hF hlen hc hr=>exact .rep (.fptr b off0 off T x us hF hlen hc hr)
   | bptr b off cs us hF hlen hc hr=>exact .rep (.bptr b off cs us hF hlen hc hr)
   | agg vs cs hlen hr=>
    obtain ⟨h1,h2⟩:=hlist vs cs hlen λj u c hu hc=>.rep (hr j u c hu hc)
    exact .agg vs _ h1 h2
   | fn f vs cs hlen hr=>
    obtain ⟨h1,h2⟩:=hlist vs cs hlen λj u c hu hc=>.rep (hr j u c hu hc)
    exact .fn f vs _ h1 h2
  | own id k m hk=>
   refine hid id .own λj hj=> ?_
   have:=RepA.own (cx:=cx) (F:=F) (w:=w) (kd:=λj=>((gD .none (zup st (ids.zip (List.range' N ids.length)) N ids) j)).kind cx) (κ:=renκ κ N ids) (N+j) k m ((hkd j id hj).trans hk)
   rwa [renκ_at κ N hj] at this
  | ownD v id hk=>exact hid id .own λj hj=>.ownD v _ ((hkd j id hj).trans hk)
  | sub v id lo m k q hk hl hv=>exact hid id (.sub · lo m) λj hj=>.sub v _ lo m k q ((hkd j id hj).trans hk) hl (by rw [renκ_at κ N hj]; exact hv)
  | subD v id lo m hk=>exact hid id (.sub · lo m) λj hj=>.subD v _ lo m ((hkd j id hj).trans hk)
  | ptr id off b hk hb=>exact hid id (.ptr · off) λj hj=>.ptr _ off b ((hkd j id hj).trans hk) (by rw [renκ_at κ N hj]; exact hb)
  | ptrD v id off hk=>exact hid id (.ptr · off) λj hj=>.ptrD v _ off ((hkd j id hj).trans hk)
  | eptr id ix off b k m q cap hk hi hb=>exact hid id (.eptr · ix off) λj hj=>.eptr _ ix off b k m q cap ((hkd j id hj).trans hk) hi (by rw [renκ_at κ N hj]; exact hb)
  | eptrD v id ix off hk=>exact hid id (.eptr · ix off) λj hj=>.eptrD v _ ix off ((hkd j id hj).trans hk)
  | agg vs cs hlen hr=>
   obtain ⟨h1,h2⟩:=hlist vs cs hlen hr;exact .agg vs _ h1 h2
  | tup vs cs hlen hr=>
   obtain ⟨h1,h2⟩:=hlist vs cs hlen hr;exact .tup vs _ h1 h2
  | fn f vs cs hlen hr=>
   obtain ⟨h1,h2⟩:=hlist vs cs hlen hr;exact .fn f vs _ h1 h2
  | mp id hk=>
   refine hid id .mp λj hj=> ?_
   have:=RepA.mp (cx:=cx) (F:=F) (w:=w) (kd:=λj=>((gD .none (zup st (ids.zip (List.range' N ids.length)) N ids) j)).kind cx) (κ:=renκ κ N ids) (N+j) ((hkd j id hj).trans hk)
   rwa [renκ_at κ N hj] at this
  | mpD v id hk=>exact hid id .mp λj hj=>.mpD v _ ((hkd j id hj).trans hk)
  | dead v=>exact .dead v
theorem zcn.mono {F F':Nat->Prop} {v:Value} {T:Nat} {l:List (ty T)} (h:zcn cx F w v T l) (hF:∀ b,F b->F' b):zcn cx F' w v T l:=by
 obtain ⟨xs,ho,ha⟩:=h;exact ⟨xs,ho,ha.imp λu c hr=>hr.mono λb hb=>⟨hF b hb,rfl⟩⟩
theorem z0G (h:RB cx e st.blk κ w) {N:Nat} {ids:List Nat} (hd:zdH ids=true):
  RB cx e (λj=>(gD .none (zup st (ids.zip (List.range' N ids.length)) N ids) j)) (renκ κ N ids) w/\
  ∀ b,Fz e st.blk κ w b->Fz e (λj=>(gD .none (zup st (ids.zip (List.range' N ids.length)) N ids) j)) (renκ κ N ids) w b:=by
 have hfz:∀ b,Fz e st.blk κ w b->Fz e (λj=>(gD .none (zup st (ids.zip (List.range' N ids.length)) N ids) j)) (renκ κ N ids) w b:=by
  intro b ⟨h1,h2,h3⟩;refine ⟨h1,h2,λj hj hb=> ?_⟩
  rcases zyk st (ids.zip (List.range' N ids.length)) N ids j with hn | ⟨k,i,rfl,hk,hB⟩
  ·(try simp only at hj); rw [hn] at hj; exact hj
  ·(try simp only at hj); rw [hB,zGE] at hj
   rw [renκ_at κ N hk] at hb;exact h3 i hj hb
 refine ⟨⟨h.os,h.tape,h.output,h.drawn,h.size,h.keep,λj=> ?_,λi j b hi hj hbi hbj=> ?_,λj b hj hb=> ?_,λj b hj hb=> ?_,h.g⟩,hfz⟩
 ·rcases zyk st (ids.zip (List.range' N ids.length)) N ids j with hn | ⟨k,i,rfl,hk,hB⟩
  ·(try simp only); rw [hn]; trivial
  ·(try simp only); rw [hB,renκ_at κ N hk]
   have hb:=h.blk i;cases hbi:st.blk i with
   | none=>trivial
   | dead=>trivial
   | box cs fz=>
    rw [hbi] at hb;obtain ⟨b,cur,t,hκ,hh,ha⟩:=hb;refine ⟨b,cur,t,hκ,hh,⟨by simp [ha.len],λm u c hu hc=> ?_⟩⟩
    rw [List.getElem?_map] at hc;cases hcm:cs[m]? with
    | none=>rw [hcm] at hc; cases hc
    | some c0=>
     rw [hcm] at hc; simp at hc; subst hc;exact (zSm (N:=N) (ids:=ids) zcD u c0 (ha.at_ m u c0 hu hcm)).mono (λb hb=>⟨hfz b hb,rfl⟩) λid hid=>.inl ⟨rfl,rfl⟩
   | arr T l fz=>
    rw [hbi] at hb;exact zcn.mono hb hfz
   | mp K V l fz=>
    rw [hbi] at hb;exact hb
 ·rcases zyk st (ids.zip (List.range' N ids.length)) N ids i with hn | ⟨k,i',rfl,hk,hB⟩
  ·(try simp only at hi); rw [hn] at hi; exact hi.elim
  ·rcases zyk st (ids.zip (List.range' N ids.length)) N ids j with hn | ⟨k',j',rfl,hk',hB'⟩
   ·(try simp only at hj); rw [hn] at hj; exact hj.elim
   ·(try simp only at hi hj)
    rw [hB,zO0] at hi; rw [hB',zGE] at hj;rw [renκ_at κ N hk] at hbi; rw [renκ_at κ N hk'] at hbj;have:=h.sep i' j' b hi hj hbi hbj;subst this;rw [zQC hd k k' i' hk hk']
 ·rcases zyk st (ids.zip (List.range' N ids.length)) N ids j with hn | ⟨k,i,rfl,hk,hB⟩
  ·(try simp only at hj); rw [hn] at hj; exact hj.elim
  ·(try simp only at hj); rw [hB,zGE] at hj; rw [renκ_at κ N hk] at hb
   exact h.mine i b hj hb
 ·rcases zyk st (ids.zip (List.range' N ids.length)) N ids j with hn | ⟨k,i,rfl,hk,hB⟩
  ·(try simp only at hj); rw [hn] at hj; exact hj.elim
  ·(try simp only at hj); rw [hB,zO0] at hj; rw [renκ_at κ N hk] at hb
   exact h.old i b hj hb
theorem zIe:∀ (n t:Nat) (l:List (Nat×AV ty)),(zp5 t n l).length=n
 | 0,t,l=>by cases l <;>rfl
 | n+1,t,[]=>by simp only [zp5,qf,zIe n]
 | n+1,t,(u,v)::r=>by simp only [zp5]; split <;>simp only [qf,zIe n]
theorem zCc:∀ (n t:Nat) (l:List (Nat×AV ty)) (j:Nat),(gD .dead (zp5 t n l) j)=.dead\/∃ v,(t+j,v)∈l/\(gD .dead (zp5 t n l) j)=v
 | 0,t,l,j=>by left; cases l <;>rfl
 | n+1,t,[],j=>by
  left
  simp only [zp5];cases j with
  | zero=>rfl
  | succ j=>
   rcases zCc n (t+1) [] j with h | ⟨v,hv,_⟩
   ·simpa using h
   ·cases hv
 | n+1,t,(u,v)::r,j=>by
  simp only [zp5];split
  ·rename_i htu;have htu:=Nat.eq_of_beq_eq_true htu;subst htu;cases j with
   | zero=>exact .inr ⟨v,by simp,rfl⟩
   | succ j=>
    rcases zCc n (t+1) r j with h | ⟨v',hv',h⟩
    ·exact .inl (by simpa using h)
    ·exact .inr ⟨v',by rw [show t+(j+1)=t+1+j by omega]; exact List.mem_cons_of_mem _ hv',by simpa using h⟩
  ·cases j with
   | zero=>exact .inl rfl
   | succ j=>
    rcases zCc n (t+1) ((u,v)::r) j with h | ⟨v',hv',h⟩
    ·exact .inl (by simpa using h)
    ·exact .inr ⟨v',by rw [show t+(j+1)=t+1+j by omega]; exact hv',by simpa using h⟩
theorem zpp (hcx:CxOK P cx) {live:List (Nat×LMode)} {vals:List (AV ty)} {bs:List (Blk ty)} (h:zNM cx live st=some (vals,bs)) (hR:R cx e st a w):R cx e (zNL cx.nt live vals bs) a w:=by
 unfold zNM at h;split at h
 ·cases h
 ·rename_i s hs;split at h
  ·rename_i hok;simp only [qa,qb] at h;obtain ⟨rfl,rfl⟩:=h;simp only [qc] at hok;obtain ⟨κ,hf⟩:=zHs hcx live st s hs hR;obtain ⟨hrb,hfz⟩:=z0G (N:=4*cx.nt) hf.rb hok.1.1;refine ⟨renκ κ (4*cx.nt) (zqd s live),⟨hrb,hf.defers, ?_,λt=> ?_⟩⟩
   ·show a.tmps.size=(zp5 0 cx.nt _).length;rw [zIe,hf.size]; exact Nat.eq_of_beq_eq_true hok.2
   ·show RepA cx (Fz e (λj=>(gD .none (zup s ((zqd s live).zip (List.range' (4*cx.nt) (zqd s live).length)) (4*cx.nt) (zqd s live)) j)) _ w) w _ _ _ (gD .dead (zp5 0 cx.nt _) t)
    rcases zCc cx.nt 0 ((live.map (·.1)).zip (live.map λt=>zyV (zTR cx.nt (zqd s live)) zcD (s.get t.1))) t with h | ⟨v,hv,h⟩
    ·rw [h]; exact .dead _
    ·rw [h]
     have:v=zyV (zTR cx.nt (zqd s live)) zcD (s.get t):=by
      obtain ⟨k,hk⟩:=List.getElem?_of_mem hv;rw [List.getElem?_zip_eq_some] at hk;simp only [List.getElem?_map,Nat.zero_add] at hk;obtain ⟨h1,h2⟩:=hk;cases hl:live[k]? with
      | none=>rw [hl] at h1; cases h1
      | some p=>rw [hl] at h1 h2; simp at h1 h2; rw [<- h2,h1]
     rw [this];exact (zSm (N:=4*cx.nt) (ids:=zqd s live) zcD _ _ (hf.tmps t)).mono (λb hb=>⟨hfz b hb,rfl⟩) λid _=>.inl ⟨rfl,rfl⟩
  ·cases h
end
end
end Go.Ab
/- Code against the machine. -/
namespace Go.Ab
noncomputable section
variable {ty:Nat->Type}
section
variable {P:Program} {cx:Cx ty} {e:Env} {st st':St ty} {κ:Nat->Value} {a:Act} {w:World} {α:Type}
def Ex.to:Ex->Exit
 | .normal=>.normal
 | .exit id=>.exit id
 | .ret=>.ret
def zfn (cx:Cx ty):Code->Prop
 | .seq a b=>zfn cx a/\zfn cx b/\∀ sp,cx.joins (zbT b)=some sp->∀ vals bs t,sp vals bs=some (true,t)->zXV cx b vals bs t
 | .cond _ a b=>zfn cx a/\zfn cx b
 | .block _ c=>zfn cx c
 | .scope c=>zfn cx c
 | .loop c=>zfn cx c/\∀ sp,cx.loops (zbT c)=some sp->∀ vals bs t,sp vals bs=some (true,t)->zwz cx c vals bs t
 | _=>True
def zYf (cx:Cx ty) (e:Env) (K:Ex->St ty->Option α) (r:α) (ex:Exit) (a:Act) (w:World):Prop:=
 ∃ x st,Ex.to x=ex/\K x st=some r/\R cx e st a w
def zve (G:Act->Prop):Code->Prop
 | .region _ ops _=>∀ (i:Nat) o,ops[i]? =some o->∀ a v D,G a->G (({ a with defers:=D }:Act).put o.dst v)
 | .seq a b=>zve G a/\zve G b
 | .cond _ a b=>zve G a/\zve G b
 | .block _ c=>zve G c
 | .scope c=>zve G c
 | .loop c=>zve G c
 | _=>True
def zWx (G:Act->Prop) (Q:Exit->Act->World->Prop):Exit->Act->World->Prop
 | .panic ch,a,w=>Q (.panic ch) a w
 | .outgrown,a,w=>Q .outgrown a w
 | ex,a,w=>Q ex a w/\G a
theorem zw5 {ops:Array Oper} {G:Act->Prop} {Q:Exit->Act->World->Prop} (hG:∀ (i:Nat) o,ops[i]? =some o->∀ a v D,G a->G (({ a with defers:=D }:Act).put o.dst v)):
  ∀ (l:List Nat) (a:Act) (w:World),wpOps P ops Q l a w->G a->wpOps P ops (zWx G Q) l a w
 | [],a,w,h,hg=>⟨h,hg⟩
 | i::rest,a,w,h,hg=>by
  simp only [wpOps] at h ⊢;cases ho:ops[i]? with
  | none=>rw [ho] at h; exact zw5 hG rest a w h hg
  | some o=>
   rw [ho] at h;simp only at h ⊢;have nx:∀ v w',wpOps P ops Q rest (a.put o.dst v) w'->wpOps P ops (zWx G Q) rest (a.put o.dst v) w':=λv w' h=>zw5 hG rest _ w' h (hG i o ho a v a.defers hg)
   split at h
   ·rename_i hw;rw [if_pos hw];rcases h with h | ⟨h1,a0,w0,h2⟩
    ·left
     unfold Oper.wp Oper.upon at h ⊢;split at h
     ·exact nx _ _ h
     ·exact nx _ _ h
     ·rename_i d w' hr;exact zw5 hG rest _ w' h (hG i o ho a undef (d::a.defers) hg)
     ·refine h.mono λen w'' hq=> ?_
      cases en with
      | returned v=>exact nx _ _ hq
      | panicked ch=>exact hq
      | outgrown=>
       obtain ⟨a0,w0,hq⟩:=hq;exact ⟨a0,w0,hq⟩
     ·exact h.mono λv w'' hq=>nx _ _ hq
     ·exact h
     ·exact h
    ·exact .inr ⟨h1,a0,w0,h2⟩
   ·rename_i hw;rw [if_neg hw];exact nx _ _ h
def zNE (cx:Cx ty) (e:Env) (K:Ex->St ty->Option α) (r:α) (G:Act->Prop) (ex:Exit) (a:Act) (w:World):Prop:=
 ∃ x st,Ex.to x=ex/\K x st=some r/\R cx e st a w/\G a
theorem zOK {K:Ex->St ty->Option α} {r:α} {G:Act->Prop} {ex:Exit} {a:Act} {w:World} (h:zWx G (zYf cx e K r) ex a w):zNE cx e K r G ex a w:=by
 cases ex with
 | panic ch=>
  obtain ⟨x,st,h,_⟩:=h;cases x <;>cases h
 | outgrown=>
  obtain ⟨x,st,h,_⟩:=h;cases x <;>cases h
 | normal=>obtain ⟨⟨x,st,h1,h2,h3⟩,hg⟩:=h; exact ⟨x,st,h1,h2,h3,hg⟩
 | exit id=>obtain ⟨⟨x,st,h1,h2,h3⟩,hg⟩:=h; exact ⟨x,st,h1,h2,h3,hg⟩
 | goto id=>obtain ⟨⟨x,st,h1,h2,h3⟩,hg⟩:=h; exact ⟨x,st,h1,h2,h3,hg⟩
 | ret=>obtain ⟨⟨x,st,h1,h2,h3⟩,hg⟩:=h; exact ⟨x,st,h1,h2,h3,hg⟩
theorem zjS (hm:P.follows .mixedOrders=true) (hcx:CxOK P cx) (hspec:∀ f s,cx.spec f=some s->Sound P cx f s) {r:α} {G:Act->Prop}:
  ∀ (c:Code),zfn cx c->zve G c->∀ (K:Ex->St ty->Option α) (st:St ty) (a:Act) (w:World),zpQ cx c st K=some r->R cx e st a w->G a->c.wp P (zNE cx e K r G) a w
 | .skip,_,_,K,st,a,w,h,hR,hg=>Go.wp_skip (Q:=zNE cx e K r G) ⟨.normal,st,rfl,h,hR,hg⟩
 | .label l,_,_,K,st,a,w,h,hR,hg=>wp_label ⟨.normal,st,rfl,h,hR,hg⟩
 | .region id ops draw,_,hk,K,st,a,w,h,hR,hg=>by
  cases draw with
  | false=>
   simp only [zpQ] at h;refine wp_mono (wp_region (zw5 hk _ _ _ ?_ hg)) (λ_ _ _=>zOK)
   have:=zKc hcx hspec (Q:=zYf cx e K r) (λst a w hk hR=>⟨.normal,st,rfl,hk,hR⟩) ops.toList 0 st a w (λj=>by simp) h hR
   rw [List.range_eq_range']
   simpa using this
  | true=>
   simp only [zpQ] at h;split at h
   ·rename_i hb;simp only [qc] at hb;refine wp_mono (wp_region_draw λt=>zw5 hk _ _ _ ?_ hg) (λ_ _ _=>zOK)
    exact zVn hm hcx hspec hb.1 (λst a w hk hR=>⟨.normal,st,rfl,hk,hR⟩) (zA8 ops.toList 0 [] [] st (λx hx=>by cases hx) hb.2.2 h) hR t
   ·cases h
 | .seq x y,hl,hk,K,st,a,w,h,hR,hg=>by
  simp only [zpQ] at h;refine wp_seq (wp_mono (zjS hm hcx hspec x hl.1 hk.1 _ st a w h hR hg) ?_)
  rintro ex a w ⟨x',st',rfl,hq,hR',hg⟩
  cases x' with
  | normal=>
   simp only at hq;split at hq
   ·exact zjS hm hcx hspec y hl.2.1 hk.2 K st' a w hq hR' hg
   ·rename_i sp hsp;split at hq
    ·rename_i vals bs hcan;split at hq
     ·rename_i pre t hspt;cases pre with
      | false=>cases hq
      | true=>
       simp only [cond_true] at hq;have hj:=(hl.2.2 sp hsp vals bs t hspt α (zRw cx (zbT y) K)).trans hq;simp only [zxa] at hj;refine wp_mono (zjS hm hcx hspec y hl.2.1 hk.2 _ _ a w hj (zpp hcx hcan hR') hg) ?_
       rintro ex a w ⟨x'',st'',rfl,hq,hR'',hg⟩
       cases x'' with
       | normal=>
        simp only [zIU] at hq;split at hq <;>cases hq
       | exit id=>
        simp only [zIU] at hq;split at hq
        ·rename_i vals' bs' hc;exact ⟨.exit id,_,rfl,hq,zpp hcx hc hR'',hg⟩
        ·cases hq
       | ret=>
        simp only [zIU] at hq;split at hq
        ·rename_i vals' bs' hc;exact ⟨.ret,_,rfl,hq,zpp hcx hc hR'',hg⟩
        ·cases hq
     ·cases hq
    ·cases hq
  | exit id=>exact ⟨.exit id,st',rfl,hq,hR',hg⟩
  | ret=>exact ⟨.ret,st',rfl,hq,hR',hg⟩
 | .cond c x y,hl,hk,K,st,a,w,h,hR,hg=>by
  simp only [zpQ] at h;split at h
  ·rename_i t;split at h
   ·rename_i v hv
    have hb:a.eval (.tmp t)=.bool v:=by
     obtain ⟨κ,hf⟩:=hR;have:=hf.tmps t;rw [hv] at this;exact zbW this
    cases v with
    | true=>
     simp only [cond_true] at h;rw [zEW hv (by simp)] at h
     exact wp_cond_true hb (zjS hm hcx hspec x hl.1 hk.1 K st a w h hR hg)
    | false=>
     simp only [cond_false] at h;rw [zEW hv (by simp)] at h
     exact wp_cond_false hb (zjS hm hcx hspec y hl.2 hk.2 K st a w h hR hg)
   ·cases h
  ·cases h
 | .block id c,hl,hk,K,st,a,w,h,hR,hg=>by
  simp only [zpQ] at h;refine wp_block (wp_mono (zjS hm hcx hspec c hl hk _ st a w h hR hg) ?_)
  rintro ex a w ⟨x',st',rfl,hq,hR',hg⟩
  cases x' with
  | normal=>exact ⟨.normal,st',rfl,hq,hR',hg⟩
  | ret=>exact ⟨.ret,st',rfl,hq,hR',hg⟩
  | exit j=>
   simp only at hq;split at hq
   ·rename_i hj;have hj:=Nat.eq_of_beq_eq_true hj;show Exit.inBlock id _ (.exit j) a w;simp only [Exit.inBlock,hj,if_true];exact ⟨.normal,st',rfl,hq,hR',hg⟩
   ·rename_i hj;show Exit.inBlock id _ (.exit j) a w;have hne:j≠id:=λhe=>by rw [he,Nat.beq_refl] at hj; cases hj
    simp only [Exit.inBlock,hne,if_false];exact ⟨.exit j,st',rfl,hq,hR',hg⟩
 | .loop c,hl,hkp,K,st,a,w,h,hR,hg=>by
  simp only [zpQ] at h;split at h
  ·rename_i sp vals bs hsp hcan;split at h
   ·rename_i pre t hspt;cases pre with
    | false=>cases h
    | true=>
     simp only [cond_true] at h;obtain ⟨n,hn⟩:=hl.2 sp hsp vals bs t hspt;have hi:=(hn α (zRw cx (zbT c) K)).trans h;refine wp_loop_rounds n ?_;have hR':=zpp hcx hcan hR;clear hcan hspt hn hR h
     -- round by round
     have key:∀ (n:Nat) (vals:List (AV ty)) (bs:List (Blk ty)) (a:Act) (w:World),zIx cx c (zRw cx (zbT c) K) n vals bs=some r->(∀ (st:St ty),st=zNL cx.nt (cx.head (zbT c)) vals bs->R cx e st a w)->G a->Code.rounds P c (zNE cx e K r G) n a w:=by
      intro n;induction n with
      | zero=>intro vals bs a w h _; cases h
      | succ n ih=>
       intro vals bs a w h hR hg;simp only [zIx,zxa] at h;rw [rounds_succ];refine wp_mono (zjS hm hcx hspec c hl.1 hkp _ _ a w h (hR _ rfl) hg) ?_
       rintro ex a w ⟨x',st',rfl,hk,hR',hg⟩
       cases x' with
       | normal=>
        simp only [zIU] at hk;split at hk
        ·rename_i vals' bs' hc;exact ih vals' bs' a w hk (λst hst=>hst ▸ zpp hcx hc hR') hg
        ·cases hk
       | exit id=>
        simp only [zIU] at hk;split at hk
        ·rename_i vals' bs' hc;exact ⟨.exit id,_,rfl,hk,zpp hcx hc hR',hg⟩
        ·cases hk
       | ret=>
        simp only [zIU] at hk;split at hk
        ·rename_i vals' bs' hc;exact ⟨.ret,_,rfl,hk,zpp hcx hc hR',hg⟩
        ·cases hk
     exact key n vals bs a w hi (λst hst=>hst ▸ hR') hg
   ·cases h
  ·cases h
 | .exit id,_,_,K,st,a,w,h,hR,hg=>wp_exit ⟨.exit id,st,rfl,h,hR,hg⟩
 | .ret,_,_,K,st,a,w,h,hR,hg=>wp_ret ⟨.ret,st,rfl,h,hR,hg⟩
 | .goto l,_,_,K,st,a,w,h,hR,hg=>by simp only [zpQ] at h; cases h
 | .scope c,hl,hk,K,st,a,w,h,hR,hg=>by
  simp only [zpQ] at h;refine wp_scope_straight (wp_mono (zjS hm hcx hspec c hl hk K st a w h hR hg) ?_)
  rintro ex a w ⟨x,st',rfl,hq,hR',hg⟩
  cases x with
  | normal=>exact ⟨.normal,st',rfl,hq,hR',hg⟩
  | exit id=>exact ⟨.exit id,st',rfl,hq,hR',hg⟩
  | ret=>exact ⟨.ret,st',rfl,hq,hR',hg⟩
 | .rangeFunc f ps x y,_,_,K,st,a,w,h,hR,hg=>by simp only [zpQ] at h; cases h
 | .refuse s,_,_,K,st,a,w,h,hR,hg=>by simp only [zpQ] at h; cases h
def zkY (ts:List Nat):Code->Bool
 | .region _ ops _=>ops.toList.all λo=>match o.dst with
  | some d=> !ts.contains d
  | none=>true
 | .seq a b=>zkY ts a&&zkY ts b
 | .cond _ a b=>zkY ts a&&zkY ts b
 | .block _ c=>zkY ts c
 | .scope c=>zkY ts c
 | .loop c=>zkY ts c
 | _=>true
theorem zrs {ts:List Nat} {val:Nat->Value}:∀ {c:Code},zkY ts c=true->zve (λa=>∀ t∈ts,a.tmps.getD t undef=val t) c
 | .region _ ops _,h=>by
  intro i o ho a v D hg t ht;have:=(List.all_eq_true.1 h) o (Array.mem_toList_iff.2 (Array.mem_of_getElem? ho));cases hd:o.dst with
  | none=>exact hg t ht
  | some d=>
   rw [hd] at this;simp only [Bool.not_eq_true',List.contains_eq_mem,decide_eq_false_iff_not] at this;have hne:d≠t:=λe=>this (e ▸ ht)
   simp only [Act.put];rw [<- hg t ht];simp only [Array.getD_eq_getD_getElem?];rw [Array.getElem?_setIfInBounds_ne hne]
 | .seq a b,h=>by
  simp only [zkY,qc] at h;exact ⟨zrs h.1,zrs h.2⟩
 | .cond _ a b,h=>by
  simp only [zkY,qc] at h;exact ⟨zrs h.1,zrs h.2⟩
 | .block _ c,h=>zrs (c:=c) h
 | .scope c,h=>zrs (c:=c) h
 | .loop c,h=>zrs (c:=c) h
 | .skip,_=>trivial
 | .label _,_=>trivial
 | .exit _,_=>trivial
 | .ret,_=>trivial
 | .goto _,_=>trivial
 | .rangeFunc ..,_=>trivial
 | .refuse _,_=>trivial
theorem zoW:∀ {c:Code},zve (λ_=>True) c
 | .region _ ops _=>λ_ _ _ _ _ _ _=>trivial
 | .seq a b=>⟨zoW,zoW⟩
 | .cond _ a b=>⟨zoW,zoW⟩
 | .block _ c=>zoW (c:=c)
 | .scope c=>zoW (c:=c)
 | .loop c=>zoW (c:=c)
 | .skip=>trivial
 | .label _=>trivial
 | .exit _=>trivial
 | .ret=>trivial
 | .goto _=>trivial
 | .rangeFunc ..=>trivial
 | .refuse _=>trivial
end
end
end Go.Ab
/- A function against its contract. -/
namespace Go.Ab
noncomputable section
variable {ty:Nat->Type}
section
variable {P:Program} {cx:Cx ty} {e:Env} {st st':St ty} {κ:Nat->Value} {a:Act} {w:World} {α:Type}
theorem zXP (hcx:CxOK P cx) (hf:RF cx e st κ a w) {r:ResultVar} {v:AV ty} (h:zQ2 cx st r=some v):
  ∃ u,(match r with | .tmp t=>(pure (a.tmps.getD t undef):Sem Value) | .cell b t=>do loadVar t (<- asAddr (a.tmps.getD b undef))).run P w=.ok u w/\zeE cx e st κ w u v:=by
 cases r with
 | tmp t=>
  simp only [zQ2,qa] at h; subst h;exact ⟨_,rfl,hf.tmps t⟩
 | cell b t=>
  simp only [zQ2] at h;split at h
  ·rename_i i cs off rd hi hc;have hr:=hf.tmps b;generalize hev:a.tmps.getD b undef=ve at hr;rcases zvc hcx hf.rb hr hc with ⟨b',o',us,rfl,hcell,ha⟩ | ⟨_,hn⟩
   ·obtain ⟨u,hrun,hu⟩:=zPe hcx hi hcell ha h (λ_ _=>zIu)
    exact ⟨u,by simp [hev,asAddr,hrun],hu⟩
   ·exact hn.elim
  ·cases h
theorem zUF {f:ResultVar->Sem Value} (hf:∀ r v,zQ2 cx st r=some v->∃ u,(f r).run P w=.ok u w/\zeE cx e st κ w u v):∀ (rs:List ResultVar) (avs:List (AV ty)),zz7 cx st rs=some avs->
  ∃ us,(rs.mapM f).run P w=.ok us w/\All2 (zeE cx e st κ w) us avs
 | [],avs,h=>by
  simp only [zz7,qa] at h; subst h;exact ⟨[],rfl,.nil⟩
 | r::rs,avs,h=>by
  simp only [zz7] at h;split at h
  ·rename_i v vs h1 h2;simp only [qa] at h; subst h;obtain ⟨u,hu,hr⟩:=hf r v h1;obtain ⟨us,hus,hrs⟩:=zUF hf rs vs h2;refine ⟨u::us, ?_,.cons hr hrs⟩;rw [List.mapM_cons];simp [hu,hus]
  ·cases h
theorem zOW (hcx:CxOK P cx) {fn:Func} {avs:List (AV ty)} (h:zz7 cx st fn.results.toList=some avs) (hf:RF cx e st κ a w):
  ∃ us,(results fn a.tmps).run P w=.ok (zw1 us) w/\All2 (zeE cx e st κ w) us avs:=by
 obtain ⟨us,hus,ha⟩:=zUF (f:=λ| .tmp t=>pure (a.tmps.getD t undef) | .cell b t=>do loadVar t (<- asAddr (a.tmps.getD b undef))) (λr v hv=>by
  obtain ⟨u,hu,hr⟩:=zXP hcx hf hv;refine ⟨u, ?_,hr⟩;cases r <;>exact hu) _ _ h
 refine ⟨us, ?_,ha⟩;unfold results;rw [Array.mapM_eq_mapM_toList];simp only [Sem.run_bind,Sem.run_map]
 erw [hus]
 simp only [Result.andThen_ok,Sem.run_pure];cases us with
 | nil=>rfl
 | cons t r=>cases r with
  | nil=>rfl
  | cons u r=>simp [zw1]
theorem zCl:∀ (as:List (Arg ty)) (top:Nat) (vs:List Value),vs.length=as.length->
  (Arg.av top as).1.length=as.length/\(zbc vs as).length=(Arg.av top as).2.length/\
  (∀ (t:Nat) a,as[t]? =some (Arg.pure a)->(Arg.av top as).1[t]? =some a)/\
  (∀ (t T:Nat) l,as[t]? =some (Arg.own T l)->∃ k:Nat,(Arg.av top as).1[t]? =some (AV.own (top+k))/\(Arg.av top as).2[k]? =some (Blk.arr T l false)/\(zbc vs as)[k]? =vs[t]?)/\
  (∀ (k:Nat) b,(Arg.av top as).2[k]? =some b->∃ (t T:Nat) (l:List (ty T)),as[t]? =some (Arg.own T l)/\b=Blk.arr T l false/\(zbc vs as)[k]? =vs[t]?)
 | [],top,vs,h=>by
  refine ⟨rfl, ?_,λt a h=>by simp at h,λt T l h=>by simp at h,λk b h=>by simp [Arg.av] at h⟩
  cases vs <;>rfl
 | .pure a::as,top,vs,h=>by
  cases vs with
  | nil=>simp at h
  | cons v vs=>
   obtain ⟨h1,h2,h3,h4,h5⟩:=zCl as top vs (by simpa using h)
   refine ⟨by simp [Arg.av,h1],by simpa [Arg.av,zbc] using h2,λt a' ht=> ?_,λt T l ht=> ?_,λk b hb=> ?_⟩
   ·cases t with
    | zero=>simp at ht; subst ht; rfl
    | succ t=>simpa [Arg.av] using h3 t a' (by simpa using ht)
   ·cases t with
    | zero=>simp at ht
    | succ t=>
     obtain ⟨k,k1,k2,k3⟩:=h4 t T l (by simpa using ht)
     exact ⟨k,by simpa [Arg.av] using k1,by simpa [Arg.av] using k2,by simpa [zbc] using k3⟩
   ·obtain ⟨t,T,l,k1,k2,k3⟩:=h5 k b (by simpa [Arg.av] using hb)
    exact ⟨t+1,T,l,by simpa using k1,k2,by simpa [zbc] using k3⟩
 | .own T0 l0::as,top,vs,h=>by
  cases vs with
  | nil=>simp at h
  | cons v vs=>
   obtain ⟨h1,h2,h3,h4,h5⟩:=zCl as (top+1) vs (by simpa using h)
   refine ⟨by simp [Arg.av,h1],by simpa [Arg.av,zbc] using h2,λt a' ht=> ?_,λt T l ht=> ?_,λk b hb=> ?_⟩
   ·cases t with
    | zero=>simp at ht
    | succ t=>simpa [Arg.av] using h3 t a' (by simpa using ht)
   ·cases t with
    | zero=>
     simp at ht;obtain ⟨rfl,rfl⟩:=ht;exact ⟨0,by simp [Arg.av],by simp [Arg.av],by simp [zbc]⟩
    | succ t=>
     obtain ⟨k,k1,k2,k3⟩:=h4 t T l (by simpa using ht)
     exact ⟨k+1,by simp only [Arg.av,List.getElem?_cons_succ,k1]; congr 2; omega,by simpa [Arg.av] using k2,by simpa [zbc] using k3⟩
   ·cases k with
    | zero=>
     simp [Arg.av] at hb;exact ⟨0,T0,l0,rfl,hb.symm,by simp [zbc]⟩
    | succ k=>
     obtain ⟨t,T,l,k1,k2,k3⟩:=h5 k b (by simpa [Arg.av] using hb)
     exact ⟨t+1,T,l,by simpa using k1,k2,by simpa [zbc] using k3⟩
theorem zXz (nt:Nat) (as:List (Arg ty)) (j:Nat):(start nt as).blk j=Blk.none\/∃ k:Nat,j=4*nt+k/\(Arg.av (4*nt) as).2[k]? =some ((start nt as).blk j):=by
 show (gD Blk.none (List.replicate (4*nt) Blk.none++(Arg.av (4*nt) as).2) j)=Blk.none\/∃ k:Nat,j=4*nt+k/\(Arg.av (4*nt) as).2[k]? =some ((gD Blk.none (List.replicate (4*nt) Blk.none++(Arg.av (4*nt) as).2) j));rw [zfF,List.getD_eq_getElem?_getD];rcases Nat.lt_or_ge j (4*nt) with h | h
 ·left; rw [List.getElem?_append_left (by simpa using h)]; simp [List.getElem?_replicate,h]
 ·rw [List.getElem?_append_right (by simpa using h)]
  simp only [List.length_replicate];cases hb:(Arg.av (4*nt) as).2[j - 4*nt]? with
  | none=>left; rfl
  | some b=>exact .inr ⟨j - 4*nt,by omega,by simp [hb]⟩
theorem zVJ {as:List (Arg ty)} {vs:List Value} {F:Nat->Prop} {nt:Nat} (hF:∀ b,F b->b<w.heap.size) (ha:All2 (zim cx F w) vs as) (hs:SepW cx w (zbc vs as)) (hn:as.length<=nt):
  R cx ⟨w,F,zkl (zbc vs as)⟩ (start nt as) { tmps:=vs.toArray++Array.replicate (nt - vs.toArray.size) undef,defers:=[] } w:=by
 obtain ⟨h1,h2,h3,h4,h5⟩:=zCl as (4*nt) vs ha.len
 -- the values of the blocks
 have hκ:∀ k:Nat,k<(Arg.av (4*nt) as).2.length->∃ (t T:Nat) (l:List (ty T)) (v:Value),as[t]? =some (Arg.own T l)/\vs[t]? =some v/\(Arg.av (4*nt) as).2[k]? =some (Blk.arr T l false)/\(zbc vs as)[k]? =some v:=by
  intro k hk;obtain ⟨t,T,l,k1,k2,k3⟩:=h5 k _ (List.getElem?_eq_getElem hk);obtain ⟨v,hv,_⟩:=ha.getR k1;exact ⟨t,T,l,v,k1,hv,by rw [List.getElem?_eq_getElem hk,k2],k3.trans hv⟩
 have hblk:∀ j,(start nt as).blk j=Blk.none\/∃ (k t T:Nat) (l:List (ty T)) (v:Value),j=4*nt+k/\as[t]? =some (Arg.own T l)/\vs[t]? =some v/\(start nt as).blk j=Blk.arr T l false/\(zbc vs as)[k]? =some v:=by
  intro j;rcases zXz nt as j with h | ⟨k,rfl,hk⟩
  ·exact .inl h
  ·obtain ⟨t,T,l,v,k1,k2,k3,k4⟩:=hκ k (List.getElem?_eq_some_iff.1 hk).1;rw [hk] at k3;exact .inr ⟨k,t,T,l,v,rfl,k1,k2,Option.some.inj k3,k4⟩
 let κ:Nat->Value:=λj=>(zbc vs as).getD (j - 4*nt) undef
 have hκv:∀ (k:Nat) v,(zbc vs as)[k]? =some v->κ (4*nt+k)=v:=λk v h=>by simp [κ,zfF,List.getD_eq_getElem?_getD,h]
 have hmem:∀ (k:Nat) v b,(zbc vs as)[k]? =some v->zS v=some b->zkl (zbc vs as) b:=λk v b h hb=>⟨v,List.mem_of_getElem? h,hb⟩
 have hfz:∀ b,F b->Fz ⟨w,F,zkl (zbc vs as)⟩ (start nt as).blk κ w b:=by
  intro b hb;refine ⟨.inl hb,hF b hb,λid hid hbid=> ?_⟩
  rcases hblk id with h | ⟨k,t,T,l,v,rfl,k1,k2,k3,k4⟩
  ·rw [h] at hid; exact hid
  ·rw [hκv k v k4] at hbid;exact (ha.at_ t v _ k2 k1).2 b hbid hb
 have hlt:∀ (t T:Nat) (l:List (ty T)) v b,as[t]? =some (Arg.own T l)->vs[t]? =some v->zS v=some b->b<w.heap.size:=λt T l v b k1 k2 hb=>by
  obtain ⟨xs,ho,_⟩:=(ha.at_ t v _ k2 k1).1;exact ztR ho hb
 refine ⟨κ,⟨⟨rfl,rfl,rfl,λ_=>Nat.le_refl _,Nat.le_refl _,λb _ _=>rfl,λid=> ?_,λi j b hi hj hbi hbj=> ?_,λi b hi hb=> ?_,λi b hi hb=> ?_,hs.g⟩,rfl, ?_,λt=> ?_⟩⟩
 ·rcases hblk id with h | ⟨k,t,T,l,v,rfl,k1,k2,k3,k4⟩
  ·rw [h]; trivial
  ·rw [k3,hκv k v k4];exact zcn.mono (ha.at_ t v _ k2 k1).1 hfz
 ·rcases hblk i with h | ⟨k,t,T,l,v,rfl,k1,k2,k3,k4⟩
  ·rw [h] at hi; exact hi.elim
  ·rcases hblk j with h | ⟨k',t',T',l',v',rfl,k1',k2',k3',k4'⟩
   ·rw [h] at hj; exact hj.elim
   ·rw [hκv k v k4] at hbi; rw [hκv k' v' k4'] at hbj;rw [hs.sep k k' v v' b k4 k4' hbi hbj]
 ·rcases hblk i with h | ⟨k,t,T,l,v,rfl,k1,k2,k3,k4⟩
  ·rw [h] at hi; exact hi.elim
  ·rw [hκv k v k4] at hb; exact .inl (hmem k v b k4 hb)
 ·rcases hblk i with h | ⟨k,t,T,l,v,rfl,k1,k2,k3,k4⟩
  ·rw [h] at hi; exact hi.elim
  ·rw [hκv k v k4] at hb; exact ⟨.inl (hmem k v b k4 hb),hlt t T l v b k1 k2 hb⟩
 ·show (vs.toArray++Array.replicate (nt - vs.toArray.size) undef).size=((Arg.av (4*nt) as).1++List.replicate (nt - (Arg.av (4*nt) as).1.length) (AV.lit undef)).length;simp [h1,ha.len]
 ·show RepA cx _ w _ _ _ ((gD AV.dead ((Arg.av (4*nt) as).1++List.replicate (nt - (Arg.av (4*nt) as).1.length) (AV.lit undef)) t));rw [zfF,List.getD_eq_getElem?_getD,Array.getD_eq_getD_getElem?];rcases Nat.lt_or_ge t as.length with ht | ht
  ·rw [List.getElem?_append_left (by omega)]
   have htv:t<vs.length:=by rw [ha.len]; exact ht
   rw [Array.getElem?_append_left (by simpa using htv)]
   simp only [List.getElem?_toArray];cases hat:as[t] with
   | pure av=>
    have hat':as[t]? =some (Arg.pure av):=by rw [List.getElem?_eq_getElem ht,hat]
    rw [h3 t av hat'];obtain ⟨v,hv,hr⟩:=ha.getR hat';rw [hv];exact .rep (Rep.mono (λb hb=>⟨hfz b hb,rfl⟩) hr)
   | own T l=>
    have hat':as[t]? =some (Arg.own T l):=by rw [List.getElem?_eq_getElem ht,hat]
    obtain ⟨k,k1,k2,k3⟩:=h4 t T l hat';obtain ⟨v,hv,hr⟩:=ha.getR hat';rw [k1,hv]
    have hb:(start nt as).blk (4*nt+k)=Blk.arr T l false:=by
     show (gD Blk.none (List.replicate (4*nt) Blk.none++(Arg.av (4*nt) as).2) (4*nt+k))=_;rw [zfF,List.getD_eq_getElem?_getD,List.getElem?_append_right (by simp)]; simp [k2]
    have:=RepA.own (cx:=cx) (F:=Fz ⟨w,F,zkl (zbc vs as)⟩ (start nt as).blk κ w) (w:=w) (kd:=λi=>((start nt as).blk i).kind cx) (κ:=κ) (4*nt+k) (zl cx T) l.length (by show ((start nt as).blk (4*nt+k)).kind cx=_; rw [hb]; rfl)
    rw [hκv k v (k3.trans hv)] at this;exact this
  ·rw [List.getElem?_append_right (by omega),Array.getElem?_append_right (by simpa [ha.len] using ht)]
   rw [List.getElem?_replicate,Array.getElem?_replicate];have hvs:vs.length=as.length:=ha.len;split <;>split <;>first | exact .dead _ | exact .rep (.lit undef)
theorem zZs {F:Nat->Prop} {v u:Value} {T n:Nat} {l:List (ty T)} (hcx:CxOK P cx) (h:zcn cx F w v T l) (hs:zk1 (zl cx T) 0 n v u) (hl:n<=l.length):zcn cx F w u T (l.take n)/\zS u=zS v:=by
 obtain ⟨xs,ho,ha⟩:=h;have hlen:(l.take n).length=n:=by simp; omega
 rcases ho.2 with ⟨rfl,h0⟩ | ⟨g,cap,cur,rfl,h0g,hg,hnc,hcm,hcs,htake⟩
 ·-- the nil row
  obtain ⟨b,c,rfl,hn0,hv,_⟩:=hs;have hv:=hv rfl;subst hn0;refine ⟨⟨[],⟨by simp,.inl ⟨hv,by simp⟩⟩,⟨by simp [zcc],λj u c hu=>by simp at hu⟩⟩,by rw [hv]⟩
 ·rcases hs with rfl | ⟨_,h,_⟩
  ·simp only [Nat.zero_mul,zer,Nat.add_zero,Nat.sub_zero];refine ⟨⟨xs.take (n*zl cx T),⟨?_,.inr ⟨g,cap,cur,by rw [hlen],h0g,hg,by rw [hlen]; omega,hcm,hcs, ?_⟩⟩, ?_⟩,rfl⟩
   ·have:=ho.1;rw [hlen,List.length_take,this];exact Nat.min_eq_left (Nat.mul_le_mul_right _ hl)
   ·rw [hlen, <- htake,List.take_take,Nat.min_eq_left (Nat.mul_le_mul_right _ hl)]
   ·have:=ha.take (n*zl cx T);rw [show (zcc cx T l).take (n*zl cx T)=zcc cx T (l.take n) from (zvF _ _ (hcx.len T) l n).symm] at this
    exact this
  ·exact absurd h (Nat.lt_irrefl 0)
theorem zyX (hcx:CxOK P cx) (hrb:RB cx e st.blk κ w) {fz:List Nat}:
  ∀ (ms:List RMode) (ts:List Nat) (avs:List (AV ty)) (vs:List Value) (rvs:List (RV ty)) (fz0 mv:List Nat),All2 (zeE cx e st κ w) vs avs->zJv cx st ms ts avs=some (rvs,fz0,mv)->
   (∀ id∈fz0,id∈fz)->(∀ id∈mv,id∉fz)->
   All2 (zRO cx (Fz e (FzB st fz) κ w) e.w0 w e.OP) vs rvs/\(∀ (i T:Nat) (l:List (ty T)) u b,rvs[i]? =some (.own T l)->vs[i]? =some u->zS u=some b->∃ id∈mv,(st.blk id).unfz/\zS (κ id)=some b)/\
   (zdH mv=true->∀ (i j T:Nat) (l:List (ty T)) (T':Nat) (l':List (ty T')) u v b,rvs[i]? =some (.own T l)->rvs[j]? =some (.own T' l')->vs[i]? =some u->vs[j]? =some v->zS u=some b->zS v=some b->i=j)
 | [],ts,avs,vs,rvs,fz0,mv,hv,h,hf,hm=>by
  cases avs with
  | nil=>
   simp only [zJv,qa,qb] at h;obtain ⟨rfl,rfl,rfl⟩:=h;rw [hv.nil_left.1];exact ⟨.nil,λi T l u b h=>by simp at h,λ_ i j T l T' l' u v b h=>by simp at h⟩
  | cons=>simp [zJv] at h
 | m::ms,ts,[],vs,rvs,fz0,mv,hv,h,hf,hm=>by simp [zJv] at h
 | m::ms,ts,av::avs,vs,rvs,fz0,mv,hv,h,hf,hm=>by
  obtain ⟨v,vs',rfl,hr,hv'⟩:=hv.inv;simp only [zJv] at h;split at h
  ·cases h
  ·rename_i rs fz' mv' hrest
   -- one that is no row of its own
   have plain:∀ (r:RV ty) (z:List Nat),(∀ T l,r≠.own T l)->zRO cx (Fz e (FzB st fz) κ w) e.w0 w e.OP v r->(∀ id∈fz',id∈fz)->rvs=r::rs->mv=mv'->
     All2 (zRO cx (Fz e (FzB st fz) κ w) e.w0 w e.OP) (v::vs') rvs/\(∀ (i T:Nat) (l:List (ty T)) u b,rvs[i]? =some (.own T l)->(v::vs')[i]? =some u->zS u=some b->∃ id∈mv,(st.blk id).unfz/\zS (κ id)=some b)/\
     (zdH mv=true->∀ (i j T:Nat) (l:List (ty T)) (T':Nat) (l':List (ty T')) u v2 b,rvs[i]? =some (.own T l)->rvs[j]? =some (.own T' l')->(v::vs')[i]? =some u->(v::vs')[j]? =some v2->zS u=some b->zS v2=some b->i=j):=by
    intro r z hno hrv hfz' e1 e2;subst e1 e2;obtain ⟨h1,h2,h3⟩:=zyX hcx hrb ms ts.tail avs vs' rs fz' mv hv' hrest hfz' hm;refine ⟨.cons hrv h1,λi T l u b hi hu hb=> ?_,λhn i j T l T' l' u v2 b hi hj hu hv2 hb hb2=> ?_⟩
    ·cases i with
     | zero=>simp at hi; exact absurd hi (hno T l)
     | succ i=>exact h2 i T l u b (by simpa using hi) (by simpa using hu) hb
    ·cases i with
     | zero=>simp at hi; exact absurd hi (hno T l)
     | succ i=>cases j with
      | zero=>simp at hj; exact absurd hj (hno T' l')
      | succ j=>rw [h3 hn i j T l T' l' u v2 b (by simpa using hi) (by simpa using hj) (by simpa using hu) (by simpa using hv2) hb hb2]
   -- one that is
   have own:∀ (id T:Nat) (l:List (ty T)),(st.blk id).unfz->zcn cx (Fz e (FzB st fz) κ w) w v T l->zS v=zS (κ id)->(∀ i∈fz',i∈fz)->rvs=.own T l::rs->mv=id::mv'->
     All2 (zRO cx (Fz e (FzB st fz) κ w) e.w0 w e.OP) (v::vs') rvs/\(∀ (i T:Nat) (l:List (ty T)) u b,rvs[i]? =some (.own T l)->(v::vs')[i]? =some u->zS u=some b->∃ id∈mv,(st.blk id).unfz/\zS (κ id)=some b)/\
     (zdH mv=true->∀ (i j T:Nat) (l:List (ty T)) (T':Nat) (l':List (ty T')) u v2 b,rvs[i]? =some (.own T l)->rvs[j]? =some (.own T' l')->(v::vs')[i]? =some u->(v::vs')[j]? =some v2->zS u=some b->zS v2=some b->i=j):=by
    intro id T l hu0 hrow hbv hfz' e1 e2;subst e1 e2;obtain ⟨h1,h2,h3⟩:=zyX hcx hrb ms ts.tail avs vs' rs fz' mv' hv' hrest hfz' (λi hi=>hm i (by simp [hi]))
    have hnf:∀ b,zS v=some b->¬ Fz e (FzB st fz) κ w b:=λb hb hfb=>by
     refine hfb.2.2 id ?_ (hbv ▸ hb);simp only [FzB,zkv,if_neg (hm id (by simp))]
     exact hu0
    refine ⟨.cons ⟨hrow,λb hb=>⟨hnf b hb,hrb.mine id b hu0 (hbv ▸ hb)⟩⟩ h1,λi T2 l2 u b hi hu hb=> ?_,λhn i j T2 l2 T' l' u v2 b hi hj hu hv2 hb hb2=> ?_⟩
    ·cases i with
     | zero=>simp at hu; subst hu; exact ⟨id,by simp,hu0,hbv ▸ hb⟩
     | succ i=>
      obtain ⟨i',hi',h'⟩:=h2 i T2 l2 u b (by simpa using hi) (by simpa using hu) hb
      exact ⟨i',by simp [hi'],h'⟩
    ·simp only [zdH,qc,Bool.not_eq_true'] at hn
     have clash:∀ (k T3:Nat) (l3:List (ty T3)) v3,rs[k]? =some (.own T3 l3)->vs'[k]? =some v3->zS v=some b->zS v3=some b->False:=λk T3 l3 v3 hk hv3 hbv' hb3=>by
      obtain ⟨i',hi',hu',hb'⟩:=h2 k T3 l3 v3 b hk hv3 hb3;have:=hrb.sep id i' b hu0.live hu' (hbv ▸ hbv') hb';subst this;rw [List.contains_iff_mem.2 hi'] at hn; cases hn.1
     cases i with
     | zero=>cases j with
      | zero=>rfl
      | succ j=>simp at hu; subst hu; exact (clash j T' l' v2 (by simpa using hj) (by simpa using hv2) hb hb2).elim
     | succ i=>cases j with
      | zero=>simp at hv2; subst hv2; exact (clash i T2 l2 u (by simpa using hi) (by simpa using hu) hb2 hb).elim
      | succ j=>rw [h3 hn.2 i j T2 l2 T' l' u v2 b (by simpa using hi) (by simpa using hj) (by simpa using hu) (by simpa using hv2) hb hb2]
   have hFF:∀ b,Fz e st.blk κ w b->Fz e (FzB st fz) κ w b:=λb hb=>((zom hrb fz).2.fz b hb).1
   cases m with
   | pure=>
    simp only at h;split at h
    ·rename_i a' ids hp;split at h
     ·rename_i a2 hcan;simp only [qa,qb] at h;obtain ⟨rfl,rfl,rfl⟩:=h;exact plain (.pure a2) fz (λT l h=>by cases h) (zNl hcx (zCp hcx hrb hr hp λid hid=>hf id (by simp [hid])) hcan) (λid hid=>hf id (by simp [hid])) rfl rfl
     ·cases h
    ·cases h
   | raw=>
    simp only at h;split at h
    ·rename_i a' ids hp;simp only [qa,qb] at h;obtain ⟨rfl,rfl,rfl⟩:=h;exact plain (.pure a') fz (λT l h=>by cases h) (zCp hcx hrb hr hp λid hid=>hf id (by simp [hid])) (λid hid=>hf id (by simp [hid])) rfl rfl
    ·cases h
   | own T=>
    simp only at h;split at h
    ·-- nil
     simp only [qa,qb] at h;obtain ⟨rfl,rfl,rfl⟩:=h;have hv0:=zbW hr;subst hv0;obtain ⟨h1,h2,h3⟩:=zyX hcx hrb ms ts.tail avs vs' rs fz' mv' hv' hrest hf hm;refine ⟨.cons ⟨⟨[],⟨by simp,.inl ⟨rfl,rfl⟩⟩,⟨by simp [zcc],λj u c hu=>by simp at hu⟩⟩,λb hb=>by simp [zS] at hb⟩ h1,λi T2 l2 u b hi hu hb=> ?_,λhn i j T2 l2 T' l' u v2 b hi hj hu hv2 hb hb2=> ?_⟩
     ·cases i with
      | zero=>simp at hu; subst hu; simp [zS] at hb
      | succ i=>exact h2 i T2 l2 u b (by simpa using hi) (by simpa using hu) hb
     ·cases i with
      | zero=>simp at hu; subst hu; simp [zS] at hb
      | succ i=>cases j with
       | zero=>simp at hv2; subst hv2; simp [zS] at hb2
       | succ j=>rw [h3 hn i j T2 l2 T' l' u v2 b (by simpa using hi) (by simpa using hj) (by simpa using hu) (by simpa using hv2) hb hb2]
    ·rename_i id;split at h
     ·rename_i T' l hb;split at h
      ·rename_i hTT;have hTT:=Nat.eq_of_beq_eq_true hTT;simp only [qa,qb] at h;obtain ⟨rfl,rfl,rfl⟩:=h;have hv0:=zNK hrb hr hb;subst hv0;exact own id T' l (by rw [hb]; rfl) (zcn.mono (hrb.row hb) hFF) rfl hf rfl rfl
      ·cases h
     ·cases h
    ·rename_i id n;split at h
     ·rename_i T' l hb;split at h
      ·simp only [qa,qb] at h;obtain ⟨rfl,rfl,rfl⟩:=h;cases hr with
       | rep hr=>cases hr
       | sub _ _ _ _ k m hk hl hs=>
        simp only [hb,Blk.kind,Kind.arr.injEq] at hk;obtain ⟨rfl,rfl⟩:=hk;obtain ⟨hrow,hbv⟩:=zZs hcx (hrb.row hb) hs (by omega)
        exact own id T' _ (by rw [hb]; rfl) (zcn.mono hrow hFF) hbv hf rfl rfl
       | subD _ _ _ _ hk=>simp [hb,Blk.kind] at hk
      ·cases h
     ·cases h
    ·cases h
theorem zRt:∀ (us:List Bool) (ts:List Nat) (r:List (Option ((T:Nat)×List (ty T)))) (mv:List Nat),zRk st ts us=some (r,mv)->r.length=us.length/\
  ∀ (m:Nat) (x:(T:Nat)×List (ty T)),r[m]? =some (some x)->us[m]? =some true/\∃ t id,ts[m]? =some t/\st.get t=.own id/\st.blk id=.arr x.1 x.2 false/\id∈mv
 | [],ts,r,mv,h=>by
  simp only [zRk,qa,qb] at h;obtain ⟨rfl,rfl⟩:=h;exact ⟨rfl,λm x h=>by simp at h⟩
 | u::us,ts,r,mv,h=>by
  simp only [zRk] at h;split at h
  ·cases h
  ·rename_i r' mv' hr;obtain ⟨h1,h2⟩:=zRt us ts.tail r' mv' hr
   have rest:∀ (m:Nat) (x:(T:Nat)×List (ty T)),r'[m]? =some (some x)->∃ t id,ts[m+1]? =some t/\st.get t=.own id/\st.blk id=.arr x.1 x.2 false/\id∈mv':=λm x hm=>by
    obtain ⟨_,t,id,k1,k2,k3,k4⟩:=h2 m x hm;refine ⟨t,id, ?_,k2,k3,k4⟩;cases ts with
    | nil=>simp at k1
    | cons t0 ts=>simpa using k1
   cases u with
   | false=>
    simp only [qa,qb] at h;obtain ⟨rfl,rfl⟩:=h;refine ⟨by simp [h1],λm x hm=> ?_⟩
    cases m with
    | zero=>simp at hm
    | succ m=>
     have hm:r'[m]? =some (some x):=by simpa using hm
     exact ⟨by simpa using (h2 m x hm).1,rest m x hm⟩
   | true=>
    simp only at h;split at h
    ·cases h
    ·rename_i t0 ts0;split at h
     ·rename_i id hget;split at h
      ·rename_i T l hb;simp only [qa,qb] at h;obtain ⟨rfl,rfl⟩:=h;refine ⟨by simp [h1],λm x hm=> ?_⟩
       cases m with
       | zero=>
        simp at hm; subst hm;exact ⟨rfl,t0,id,rfl,hget,hb,by simp⟩
       | succ m=>
        have hm:r'[m]? =some (some x):=by simpa using hm
        obtain ⟨t,id',k1,k2,k3,k4⟩:=rest m x hm;exact ⟨by simpa using (h2 m x hm).1,t,id',k1,k2,k3,by simp [k4]⟩
      ·cases h
     ·cases h
theorem zBy:∀ {l m:List Nat},zdH (l++m)=true->zdH l=true/\∀ i∈l,i∉m
 | [],m,_=>⟨rfl,λi h=>by cases h⟩
 | x::l,m,h=>by
  simp only [List.cons_append,zdH,qc,Bool.not_eq_true',List.contains_eq_mem,decide_eq_false_iff_not,List.mem_append,not_or] at h;obtain ⟨h1,h2⟩:=zBy h.2;refine ⟨by simp [zdH,h1,h.1.1],λi hi=> ?_⟩
  rcases qd.1 hi with rfl | hi
  ·exact h.1.2
  ·exact h2 i hi
theorem zVr {l m n:List Nat} (h:zIN l (m++n)=true):(∀ i∈m,i∉l)/\∀ i∈n,i∉l:=by
 unfold zIN at h
 have key:∀ i∈l,i∉m++n:=λi hi hm=>by
  have:=(List.all_eq_true.1 h) i hi;simp only [Bool.not_eq_true',List.contains_eq_mem,decide_eq_false_iff_not] at this;exact this hm
 exact ⟨λi hi hl=>key i hl (List.mem_append.2 (.inl hi)),λi hi hl=>key i hl (List.mem_append.2 (.inr hi))⟩
theorem zUM (hcx:CxOK P cx) {sg:Sig} {ots:List Nat} {ts:List Nat} {rs:List ResultVar} {avs:List (AV ty)} {us:List Value} {res:ARes ty} {owns:List Value} (hts:zz7 cx st rs=some avs) (hul:sg.upd.length=owns.length)
  (hot:∀ (m t:Nat) v,sg.upd[m]? =some true->ots[m]? =some t->owns[m]? =some v->a.tmps.getD t undef=v) (heop:e.OP=zkl owns)
  (hF:∀ b,e.F b->b<e.w0.heap.size/\¬ zkl owns b) (h:zLY cx sg ots ts rs st=some res) (hf:RF cx e st κ a w) (hv:All2 (zeE cx e st κ w) us avs):Post cx e.F e.w0 owns res (zw1 us) w:=by
 unfold zLY at h;rw [hts] at h;simp only at h;split at h
 ·rename_i vs fz mv us' mu hres hus;obtain ⟨hlen,hupd⟩:=zRt sg.upd ots us' mu hus;split at h
  ·rename_i hok;simp only [qa] at h; subst h;simp only [qc] at hok;obtain ⟨hnd,hmd⟩:=zBy hok.1;obtain ⟨hnf,hnu⟩:=zVr hok.2;obtain ⟨h1,h2,h3⟩:=zyX hcx hf.rb (fz:=fz) sg.res ts _ _ vs fz mv hv hres (λid hid=>hid) hnf
   rw [heop] at h1;have hFF:∀ b,Fz e st.blk κ w b->Fz e (FzB st fz) κ w b:=λb hb=>((zom hf.rb fz).2.fz b hb).1
   -- a row that is handed back
   have back:∀ (m:Nat) (x:(T:Nat)×List (ty T)) (v:Value),us'[m]? =some (some x)->owns[m]? =some v->∃ id∈mu,st.blk id=.arr x.1 x.2 false/\v=κ id:=λm x v hm ho=>by
    obtain ⟨hu,t,id,k1,k2,k3,k4⟩:=hupd m x hm;refine ⟨id,k4,k3, ?_⟩;have e1:=hot m t v hu k1 ho;have e2:=hf.tmps t;rw [k2] at e2;exact e1.symm.trans (zNK hf.rb e2 k3)
   refine ⟨Fz e (FzB st fz) κ w,_,rfl,⟨hf.rb.os,hf.rb.tape,hf.rb.output,hf.rb.drawn,hf.rb.size,λb hb hop=>hf.rb.keep b hb (by rw [heop]; exact hop)⟩,λb hb=> ?_,λb hb=>⟨hb.2.1,by have:=hb.1; rw [heop] at this; exact this⟩,h1,⟨by rw [hlen,hul],λj u c hu hc=> ?_⟩,λi j T l T' l' u v b=>h3 hnd i j T l T' l' u v b,λi m T l x u v b hi hm hiu hmo hbu hbv=> ?_⟩
   ·refine ⟨.inl hb,Nat.lt_of_lt_of_le (hF b hb).1 hf.rb.size,λid hid hbid=> ?_⟩
    have hid':(st.blk id).unfz:=by
     simp only [FzB,zkv] at hid;split at hid
     ·exact (Blk.freeze_unfz hid).elim
     ·exact hid
    rcases hf.rb.mine id b hid' hbid with h | h
    ·rw [heop] at h; exact (hF b hb).2 h
    ·have:=(hF b hb).1; omega
   ·cases c with
    | none=>trivial
    | some x=>
     obtain ⟨id,hid,hb,rfl⟩:=back j x u hc hu;refine ⟨zcn.mono (hf.rb.row hb) hFF,λb hbb hfb=> ?_⟩
     refine hfb.2.2 id ?_ hbb;simp only [FzB,zkv,if_neg (hnu id hid)];have:(gD .none st.blks id)=st.blk id:=rfl;rw [this,hb]; rfl
   ·obtain ⟨id,hid,hb,rfl⟩:=back m x v hm hmo;obtain ⟨id',hid',hu',hb'⟩:=h2 i T l u b hi hiu hbu;have:=hf.rb.sep id' id b hu'.live (by rw [hb]; rfl) hb' hbv
    subst this;exact hmd _ hid' hid
  ·cases h
 ·cases h
def zyy:List (Arg ty)->Nat
 | []=>0
 | .own _ _::r=>zyy r+1
 | .pure _::r=>zyy r
theorem zFw:∀ (as:List (Arg ty)) (vs:List Value),vs.length=as.length->(zbc vs as).length=zyy as
 | [],vs,h=>by cases vs <;>rfl
 | .own T l::as,[],h=>by simp at h
 | .pure a::as,[],h=>by simp at h
 | .own T l::as,v::vs,h=>by simp only [zbc,zyy,qf,zFw as vs (by simpa using h)]
 | .pure a::as,v::vs,h=>by simp only [zbc,zyy,zFw as vs (by simpa using h)]
def zu4:List Nat->List Bool->List Nat
 | t::ts,u::us=>match u with
  | true=>t::zu4 ts us
  | false=>zu4 ts us
 | _,_=>[]
def zDh (c:Code) (as:List (Arg ty)) (us:List Bool):Bool:=Nat.beq us.length (zyy as)&&(match zu4 (ztO 0 as) us with
 | []=>true
 | ts=>zkY ts c)
theorem zQJ:∀ {ts:List Nat} {us:List Bool} {m t:Nat},ts[m]? =some t->us[m]? =some true->t∈zu4 ts us
 | [],us,m,t,h,_=>by simp at h
 | _::_,[],m,t,_,h=>by simp at h
 | t0::ts,u::us,0,t,h,hu=>by
  simp at h hu; subst h hu;simp [zu4]
 | t0::ts,u::us,m+1,t,h,hu=>by
  have:=zQJ (ts:=ts) (us:=us) (m:=m) (t:=t) (by simpa using h) (by simpa using hu)
  cases u with
  | true=>simp [zu4,this]
  | false=>simpa [zu4] using this
theorem zIB:∀ (as:List (Arg ty)) (vs:List Value) (k:Nat),vs.length=as.length->∀ (m t:Nat) v,(ztO k as)[m]? =some t->(zbc vs as)[m]? =some v->k<=t/\vs[t - k]? =some v
 | [],vs,k,h,m,t,v,ht,_=>by simp [ztO] at ht
 | .own T l::as,[],k,h,m,t,v,_,_=>by simp at h
 | .pure a::as,[],k,h,m,t,v,_,_=>by simp at h
 | .own T l::as,u::vs,k,h,m,t,v,ht,hv=>by
  cases m with
  | zero=>
   simp [ztO] at ht; simp [zbc] at hv; subst ht hv;exact ⟨Nat.le_refl _,by simp⟩
  | succ m=>
   obtain ⟨h1,h2⟩:=zIB as vs (k+1) (by simpa using h) m t v (by simpa [ztO] using ht) (by simpa [zbc] using hv)
   refine ⟨by omega, ?_⟩
   rw [show t - k=(t - (k+1))+1 by omega]; simpa using h2
 | .pure a::as,u::vs,k,h,m,t,v,ht,hv=>by
  obtain ⟨h1,h2⟩:=zIB as vs (k+1) (by simpa using h) m t v (by simpa [ztO] using ht) (by simpa [zbc] using hv)
  refine ⟨by omega, ?_⟩
  rw [show t - k=(t - (k+1))+1 by omega]; simpa using h2
theorem zPg (hm:P.follows .mixedOrders=true) (hcx:CxOK P cx) (hspec:∀ f s,cx.spec f=some s->Sound P cx f s) {f:Nat} {fn:Func} {c:Code} (hf:P.funcs[f]? =some fn) (hb:fn.body=some c) (hl:zfn cx c)
  {sg:Sig} {as:List (Arg ty)} {res:ARes ty} (hrun:ze0 cx fn c sg as=some res) (hn:Nat.ble as.length fn.ntmps=true) (hu:zDh c as sg.upd=true)
  (w:World) (F:Nat->Prop) (vs:List Value) (hF:∀ b,F b->b<w.heap.size) (ha:All2 (zim cx F w) vs as) (hs:SepW cx w (zbc vs as)):
  Calls P f vs.toArray w λe w'=>∃ v,e=.returned v/\Post cx F w (zbc vs as) res v w':=by
 unfold zDh at hu;simp only [qc] at hu;obtain ⟨hul,hnw⟩:=hu
 have hnw:zkY (zu4 (ztO 0 as) sg.upd) c=true\/zu4 (ztO 0 as) sg.upd=[]:=by
  split at hnw
  ·rename_i h; exact .inr h
  ·exact .inl hnw
 have hR:=zVJ (nt:=fn.ntmps) hF ha hs (Nat.le_of_ble_eq_true hn)
 have hkeep:zve (λa=>∀ t∈zu4 (ztO 0 as) sg.upd,a.tmps.getD t undef=(vs.toArray++Array.replicate (fn.ntmps - vs.toArray.size) undef).getD t undef) c:=by
  rcases hnw with h | h
  ·exact zrs (val:=λt=>(vs.toArray++Array.replicate (fn.ntmps - vs.toArray.size) undef).getD t undef) h
  ·rw [h]
   have:(λa:Act=>∀ t∈([]:List Nat),a.tmps.getD t undef=(vs.toArray++Array.replicate (fn.ntmps - vs.toArray.size) undef).getD t undef)=λ_=>True:=by
    funext a; simp
   rw [this]; exact zoW
 refine calls_of_wp hf hb (wp_mono (zjS hm hcx hspec c hl hkeep _ _ _ w hrun hR (λt _=>rfl)) ?_)
 rintro ex a w' ⟨x,st,rfl,hk,hR',hg⟩
 have hFO:∀ b,F b->b<w.heap.size/\¬ zkl (zbc vs as) b:=by
  intro b hb;refine ⟨hF b hb,λ⟨v,hv,hvb⟩=> ?_⟩
  obtain ⟨k,hk⟩:=List.getElem?_of_mem hv;obtain ⟨_,h2,_,_,h5⟩:=zCl as 0 vs ha.len;have hlt:k<(Arg.av 0 as).2.length:=by rw [<- h2]; exact (List.getElem?_eq_some_iff.1 hk).1
  obtain ⟨t,T,l,k1,_,k3⟩:=h5 k _ (List.getElem?_eq_getElem hlt);obtain ⟨u,hu,hr⟩:=ha.getR k1;rw [hk,hu] at k3;have:=Option.some.inj k3;subst this;exact hr.2 b hvb hb
 have fin:zLY cx sg (ztO 0 as) fn.resultTypes.toList fn.results.toList st=some res->a.defers=[]/\∃ v,(results fn a.tmps).run P w'=.ok v w'/\∃ v',Ending.returned v=.returned v'/\Post cx F w (zbc vs as) res v' w':=by
  intro h;obtain ⟨κ,hf⟩:=hR';cases hav:zz7 cx st fn.results.toList with
  | none=>simp [zLY,hav] at h
  | some avs=>
   obtain ⟨us,hrun,hv⟩:=zOW hcx hav hf;refine ⟨hf.defers,_,hrun,_,rfl,zUM (e:=⟨w,F,zkl (zbc vs as)⟩) hcx hav (by rw [Nat.eq_of_beq_eq_true hul,zFw as vs ha.len]) (λm t v hm ht hv=> ?_) rfl hFO h hf hv⟩
   rw [hg t (zQJ ht hm)];obtain ⟨_,h2⟩:=zIB as vs 0 ha.len m t v ht hv;rw [Nat.sub_zero] at h2;rw [Array.getD_eq_getD_getElem?,Array.getElem?_append_left (by simpa using (List.getElem?_eq_some_iff.1 h2).1)]
   simp [h2]
 cases x with
 | normal=>exact fin hk
 | ret=>exact fin hk
 | exit id=>cases hk
end
end
end Go.Ab
