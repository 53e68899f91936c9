/- Texts of this claim, joined (an interpreter of the code over typed data, and its soundness). -/
import Derived.MapKept
import Derived.Laws.Sem
import Derived.Laws.StructEq
import Derived.ProofKit
import Derived.Test.YtddkaehkimnklaaGreatDoorGA1
set_option autoImplicit false
set_option linter.unusedVariables false
set_option linter.unusedSectionVars false
set_option linter.unusedSimpArgs false
/- A call against the machine's. -/
namespace Go.Ab
noncomputable section
variable {ty:Nat→Type}
section
variable {P:Program} {cx:Cx ty} {e:Env} {st:St ty} {κ:Nat→Value} {a:Act} {w:World} {o:Oper} {d:Delta ty} {Q:Exit→Act→World→Prop}
theorem zA8:∀ {mv:List Nat} {us:List (Option ((T:Nat)×List (ty T)))} {r:List (Nat×Blk ty)},zd0 st mv us=some r→r=(mv.zip us).map (fun p=>(p.1,zn3 p.2))∧mv.length=us.length∧
  ∀ (m i:Nat) (x:(T:Nat)×List (ty T)),mv[m]? =some i→us[m]? =some (some x)→∃ l0 f0,st.blk i=.arr x.1 l0 f0
 | [],[],r,h=>by simp only [zd0,Option.some.injEq] at h; subst h; exact ⟨rfl,rfl,fun m i x h=>by simp at h⟩
 | [],u::us,r,h=>by simp [zd0] at h
 | i::mv,[],r,h=>by simp [zd0] at h
 | i::mv,u::us,r,h=>by
  simp only [zd0] at h
  split at h
  ·cases h
  ·rename_i r' hr
   obtain ⟨h1,h2,h3⟩:=zA8 hr
   split at h
   ·simp only [Option.some.injEq] at h; subst h
    refine ⟨by rw [h1]; rfl,by simp [h2],fun m j x hm hx=> ?_⟩
    cases m with
    | zero=>simp at hx
    | succ m=>exact h3 m j x (by simpa using hm) (by simpa using hx)
   ·rename_i T l
    split at h
    ·rename_i T0 l0 f0 hb
     split at h
     ·rename_i hT
      have hT:T=T0:=Nat.eq_of_beq_eq_true hT
      subst hT
      simp only [Option.some.injEq] at h; subst h
      refine ⟨by rw [h1]; rfl,by simp [h2],fun m j x hm hx=> ?_⟩
      cases m with
      | zero=>simp at hm hx; subst hm; subst hx; exact ⟨l0,f0,hb⟩
      | succ m=>exact h3 m j x (by simpa using hm) (by simpa using hx)
     ·cases h
    ·cases h
theorem zxI:∀ (id:Nat) (vals:List (RV ty)),(zJ id vals).1.length=vals.length
 | _,[]=>rfl
 | id,.pure a::r=>by simp [zJ,zxI (id+1) r]
 | id,.own T l::r=>by simp [zJ,zxI (id+1) r]
theorem zv0:∀ (id:Nat) (vals:List (RV ty)) (j:Nat) (av:AV ty),vals[j]? =some (.pure av)→(zJ id vals).1[j]? =some av
 | id,v::r,0,av,h=>by simp at h; subst h; simp [zJ]
 | id,.pure b::r,j+1,av,h=>by simpa [zJ] using zv0 (id+1) r j av (by simpa using h)
 | id,.own T l::r,j+1,av,h=>by simpa [zJ] using zv0 (id+1) r j av (by simpa using h)
theorem zpn:∀ (id:Nat) (vals:List (RV ty)) (j:Nat) (T:Nat) (l:List (ty T)),vals[j]? =some (.own T l)→(zJ id vals).1[j]? =some (.own (id+j))∧(id+j,Blk.arr T l false)∈(zJ id vals).2
 | id,v::r,0,T,l,h=>by simp at h; subst h; simp [zJ]
 | id,.pure b::r,j+1,T,l,h=>by
  have:=zpn (id+1) r j T l (by simpa using h)
  rw [show id+(j+1)=id+1+j by omega]
  simpa [zJ] using this
 | id,.own T' l'::r,j+1,T,l,h=>by
  have:=zpn (id+1) r j T l (by simpa using h)
  rw [show id+(j+1)=id+1+j by omega]
  refine ⟨by simpa [zJ] using this.1, ?_⟩
  simp only [zJ]
  exact List.mem_cons_of_mem _ this.2
theorem zxS:∀ (id:Nat) (vals:List (RV ty)) (p:Nat×Blk ty),p∈(zJ id vals).2→∃ j T l,vals[j]? =some (.own T l)∧p=(id+j,.arr T l false)
 | id,[],p,h=>by simp [zJ] at h
 | id,.pure b::r,p,h=>by
  obtain ⟨j,T,l,h1,h2⟩:=zxS (id+1) r p (by simpa [zJ] using h)
  exact ⟨j+1,T,l,by simpa using h1,by rw [h2,show id+(j+1)=id+1+j by omega]⟩
 | id,.own T' l'::r,p,h=>by
  simp only [zJ] at h
  rcases List.mem_cons.1 h with rfl | h
  ·exact ⟨0,T',l',rfl,rfl⟩
  ·obtain ⟨j,T,l,h1,h2⟩:=zxS (id+1) r p h
   exact ⟨j+1,T,l,by simpa using h1,by rw [h2,show id+(j+1)=id+1+j by omega]⟩
theorem zuy:∀ (id:Nat) (vals:List (RV ty)),zfL ((zJ id vals).2.map (·.1))=true∧∀ i∈(zJ id vals).2.map (·.1),id≤i
 | id,[]=>by simp [zJ,zfL]
 | id,.pure b::r=>by
  obtain ⟨h1,h2⟩:=zuy (id+1) r
  exact ⟨by simpa [zJ] using h1,fun i hi=>by have:=h2 i (by simpa [zJ] using hi); omega⟩
 | id,.own T l::r=>by
  obtain ⟨h1,h2⟩:=zuy (id+1) r
  refine ⟨?_,fun i hi=> ?_⟩
  ·simp only [zJ,List.map_cons,zfL,h1,Bool.and_true,Bool.not_eq_true',List.contains_eq_mem,decide_eq_false_iff_not]
   intro hm
   have:=h2 id hm
   omega
  ·simp only [zJ,List.map_cons,List.mem_cons] at hi
   rcases hi with rfl | hi
   ·exact Nat.le_refl _
   ·have:=h2 i hi; omega
theorem zBd:∀ {l m:List Nat},zfL l=true→zfL m=true→(∀ i∈l,i∉m)→zfL (l++m)=true
 | [],m,_,h,_=>h
 | x::l,m,h,hm,hd=>by
  simp only [zfL,Bool.and_eq_true,Bool.not_eq_true',List.contains_eq_mem,decide_eq_false_iff_not] at h
  simp only [List.cons_append,zfL,Bool.and_eq_true,Bool.not_eq_true',List.contains_eq_mem,decide_eq_false_iff_not,List.mem_append,not_or]
  exact ⟨⟨h.1,hd x (by simp)⟩,zBd h.2 hm (fun i hi=>hd i (by simp [hi]))⟩
theorem zut:∀ {r:List (Nat×Blk ty)} {i:Nat} {x:Blk ty},zfL (r.map (·.1))=true→(i,x)∈r→r.lookup i=some x
 | [],i,x,_,h=>by simp at h
 | (k,y)::r,i,x,hn,h=>by
  simp only [List.map_cons,zfL,Bool.and_eq_true,Bool.not_eq_true',List.contains_eq_mem,decide_eq_false_iff_not] at hn
  rcases List.mem_cons.1 h with he | h2
  ·simp only [Prod.mk.injEq] at he
   obtain ⟨rfl,rfl⟩:=he
   simp [List.lookup]
  ·have:(i==k)=false:=by
    simp only [beq_eq_false_iff_ne,ne_eq]
    intro he; subst he
    exact hn.1 (List.mem_map.2 ⟨(i,x),h2,rfl⟩)
   simp [List.lookup,this,zut hn.2 h2]
theorem zEl {r:List (Nat×Blk ty)} {i:Nat} (h:i∉r.map (·.1)):r.lookup i=none:=by
 rw [List.lookup_eq_none_iff]
 intro p hp
 simp only [beq_eq_false_iff_ne,ne_eq,bne_iff_ne]
 intro he
 exact h (List.mem_map.2 ⟨p,hp,he.symm⟩)
theorem zBq:∀ {l:List (Nat×Blk ty)},zhu st l=true→∀ p∈l,zdC st p.1=true
 | [],_,p,hp=>by simp at hp
 | (i,x)::r,h,p,hp=>by
  simp only [zhu,Bool.and_eq_true] at h
  rcases List.mem_cons.1 hp with rfl | hp
  ·exact h.1
  ·exact zBq h.2 p hp
theorem zJ6 {F F':Nat→Prop} {w w':World} {v:Value} {av:AV ty} (h:av.flat=true) (hr:Rep cx F w v av):Rep cx F' w' v av:=by
 cases av with
 | lit x=>cases hr; exact .lit _
 | err x=>cases hr with
  | errN=>exact .errN
  | errS=>exact .errS _ _
 | agg cs=>
  cases hr with
  | agg vs _ hlen hr=>
   refine .agg vs cs hlen fun j u c hu hc=> ?_
   have hm:=(List.all_eq_true.1 h) c (List.mem_of_getElem? hc)
   cases c with
   | lit x=>have:=hr j u _ hu hc; cases this; exact .lit _
   | _=>simp at hm
 | _=>simp [AV.flat] at h
theorem zId (hcx:CxOK P cx) {B:List (Blk ty)} {κ:Nat→Value} {w w':World} (hrb:RB cx e (fun j=>(gD .none B j)) κ w) {F1 F':Nat→Prop} {mv:List Nat} {res:ARes ty} {rs:List Value} {us:List (Nat×Blk ty)} {id:Nat}
  (hmu:∀ i∈mv,((gD .none B i)).unfz) (hmn:zfL mv=true) (hus':us=(mv.zip res.upd).map (fun p=>(p.1,zn3 p.2))) (hlen:mv.length=res.upd.length) (hty:∀ (m i:Nat) (x:(T:Nat)×List (ty T)),mv[m]? =some i→res.upd[m]? =some (some x)→∃ l0 f0,(gD .none B i)=.arr x.1 l0 f0) (hfree:∀ p∈(zJ id res.vals).2,(gD .none B p.1)=.none∧p.1<B.length)
  (hkept:Kept cx.dr (OPof (mv.map κ)) w w') (hF1:∀ b,Fz e (fun j=>(gD .none B j)) κ w b→F1 b)
  (hF'2:∀ b,F' b→b<w'.heap.size∧(F1 b∨OPof (mv.map κ) b∨w.heap.size≤b))
  (hvals:All2 (ResV cx F' w w' (OPof (mv.map κ))) rs res.vals) (hupd:All2 (zJp cx F' w') (mv.map κ) res.upd)
  (hs1:∀ (i j:Nat) T l T' l' u v b,res.vals[i]? =some (.own T l)→res.vals[j]? =some (.own T' l')→rs[i]? =some u→rs[j]? =some v→zL u=some b→zL v=some b→i=j)
  (hs2:∀ (i m:Nat) T l x u v b,res.vals[i]? =some (.own T l)→res.upd[m]? =some (some x)→rs[i]? =some u→(mv.map κ)[m]? =some v→zL u=some b→zL v≠some b)
  (hF:res.flat=false→∀ b,F1 b→Fz e (fun j=>(gD .none B j)) κ w b):
  ∃ κ',RB cx e (fun j=>(gD .none (zbi B (us++(zJ id res.vals).2)) j)) κ' w'∧Compat cx e (fun j=>(gD .none B j)) κ w (fun j=>(gD .none (zbi B (us++(zJ id res.vals).2)) j)) κ' w'∧
   All2 (RepA cx (Fz e (fun j=>(gD .none (zbi B (us++(zJ id res.vals).2)) j)) κ' w') w' (fun i=>((gD .none (zbi B (us++(zJ id res.vals).2)) i)).kind cx) κ') rs (zJ id res.vals).1:=by
 have hkeys:us.map (·.1)=mv:=by
  rw [hus',List.map_map]
  have:((fun p:Nat×Blk ty=>p.1) ∘ fun p:Nat×Option ((T:Nat)×List (ty T))=>(p.1,zn3 p.2))=fun p=>p.1:=rfl
  rw [this,List.map_fst_zip (Nat.le_of_eq hlen)]
 have hnew:∀ i∈(zJ id res.vals).2.map (·.1),(gD .none B i)=.none∧i<B.length:=by
  intro i hi
  obtain ⟨p,hp,rfl⟩:=List.mem_map.1 hi
  exact hfree p hp
 have hmlive:∀ i∈mv,i<B.length:=by
  intro i hi
  rcases Nat.lt_or_ge i B.length with h | h
  ·exact h
  ·have:=hmu i hi
   rw [show (gD .none B i)=.none by simp [zge,List.getD_eq_getElem?_getD,List.getElem?_eq_none h]] at this
   exact this.elim
 have hdisj:∀ i∈mv,i∉(zJ id res.vals).2.map (·.1):=by
  intro i hi hn
  have h1:=hmu i hi
  rw [(hnew i hn).1] at h1
  exact h1
 have hnd:zfL ((us++(zJ id res.vals).2).map (·.1))=true:=by
  rw [List.map_append,hkeys]
  exact zBd hmn (zuy id res.vals).1 hdisj
 have hget:∀ j,(gD .none (zbi B (us++(zJ id res.vals).2)) j)=((us++(zJ id res.vals).2).lookup j).getD ((gD .none B j)):=fun j=>
  zGJ _ _ _ hnd (fun p hp=>by
   rcases List.mem_append.1 hp with h | h
   ·exact hmlive p.1 (by rw [← hkeys]; exact List.mem_map.2 ⟨p,h,rfl⟩)
   ·exact (hfree p h).2)
 -- what each block is now
 have hold:∀ j,j∉mv→j∉(zJ id res.vals).2.map (·.1)→(gD .none (zbi B (us++(zJ id res.vals).2)) j)=(gD .none B j):=by
  intro j h1 h2
  rw [hget,zEl (by rw [List.map_append,hkeys,List.mem_append]; exact fun h=>h.elim h1 h2)]
  rfl
 have hmv:∀ (m i:Nat) u,mv[m]? =some i→res.upd[m]? =some u→(gD .none (zbi B (us++(zJ id res.vals).2)) i)=zn3 u:=by
  intro m i u h1 h2
  rw [hget,zut hnd (x:=zn3 u) (List.mem_append.2 (.inl (by
   rw [hus']
   refine List.mem_map.2 ⟨(i,u), ?_,rfl⟩
   refine List.mem_of_getElem? (i:=m) ?_
   rw [List.getElem?_zip_eq_some]
   exact ⟨h1,h2⟩)))]
  rfl
 have hown:∀ (j T:Nat) (l:List (ty T)),res.vals[j]? =some (.own T l)→(gD .none (zbi B (us++(zJ id res.vals).2)) (id+j))=.arr T l false:=by
  intro j T l h
  rw [hget,zut hnd (List.mem_append.2 (.inr (zpn id res.vals j T l h).2))]
  rfl
 have hmvu:∀ i∈mv,∃ (m:Nat) (u:Option ((T:Nat)×List (ty T))),mv[m]? =some i∧res.upd[m]? =some u:=by
  intro i hi
  obtain ⟨m,hm⟩:=List.getElem?_of_mem hi
  have:m<res.upd.length:=by rw [← hlen]; exact (List.getElem?_eq_some_iff.1 hm).1
  exact ⟨m,_,hm,List.getElem?_eq_getElem this⟩
 have hnewj:∀ i∈(zJ id res.vals).2.map (·.1),∃ j T l,res.vals[j]? =some (.own T l)∧i=id+j:=by
  intro i hi
  obtain ⟨p,hp,rfl⟩:=List.mem_map.1 hi
  obtain ⟨j,T,l,h1,h2⟩:=zxS id res.vals p hp
  exact ⟨j,T,l,h1,by rw [h2]⟩
 have hOP:∀ b,OPof (mv.map κ) b↔∃ i∈mv,zL (κ i)=some b:=by
  intro b
  constructor
  ·rintro ⟨v,hv,hb⟩
   obtain ⟨i,hi,rfl⟩:=List.mem_map.1 hv
   exact ⟨i,hi,hb⟩
  ·rintro ⟨i,hi,hb⟩
   exact ⟨κ i,List.mem_map.2 ⟨i,hi,rfl⟩,hb⟩
 -- the values of the new numbers
 let κ':Nat→Value:=fun i=>if i∈(zJ id res.vals).2.map (·.1) then rs.getD (i - id) undef else κ i
 have hκnew:∀ (j T:Nat) (l:List (ty T)) u,res.vals[j]? =some (.own T l)→rs[j]? =some u→κ' (id+j)=u:=by
  intro j T l u h hu
  have hm:id+j∈(zJ id res.vals).2.map (·.1):=List.mem_map.2 ⟨_,(zpn id res.vals j T l h).2,rfl⟩
  simp only [κ',if_pos hm,Nat.add_sub_cancel_left,zge,List.getD_eq_getElem?_getD,hu,Option.getD_some]
 have hκold:∀ i,i∉(zJ id res.vals).2.map (·.1)→κ' i=κ i:=fun i hi=>by simp only [κ',if_neg hi]
 -- what may be read by the results may be read now
 have hfin:res.flat=false→∀ b,F' b→Fz e (fun j=>(gD .none (zbi B (us++(zJ id res.vals).2)) j)) κ' w' b:=by
  intro hflat b hb
  obtain ⟨hlt,hor⟩:=hF'2 b hb
  refine ⟨?_,hlt,fun i hiu hbi=> ?_⟩
  ·rcases hor with h | h | h
   ·exact (hF hflat b h).1
   ·obtain ⟨i,hi,hbi⟩:=(hOP b).1 h
    exact .inr (hrb.mine i b (hmu i hi) hbi)
   ·exact .inr (.inr (Nat.le_trans hrb.size h))
  ·replace hiu:((gD .none (zbi B (us++(zJ id res.vals).2)) i)).unfz:=hiu
   by_cases him:i∈mv
   ·obtain ⟨m,u,hm,hu⟩:=hmvu i him
    have e1:(gD .none (zbi B (us++(zJ id res.vals).2)) i)=zn3 u:=hmv m i u hm hu
    rw [hκold i (hdisj i him)] at hbi
    cases u with
    | none=>rw [e1] at hiu; exact hiu
    | some x=>exact (hupd.at_ m (κ i) (some x) (by rw [List.getElem?_map,hm]; rfl) hu).2 b hbi hb
   ·by_cases hin:i∈(zJ id res.vals).2.map (·.1)
    ·obtain ⟨j,T,l,hj,rfl⟩:=hnewj i hin
     obtain ⟨v,hv,hr⟩:=hvals.getR hj
     rw [hκnew j T l v hj hv] at hbi
     exact (hr.2 b hbi).1 hb
    ·have e1:(gD .none (zbi B (us++(zJ id res.vals).2)) i)=(gD .none B i):=hold i him hin
     rw [hκold i hin] at hbi
     rw [e1] at hiu
     rcases hor with h | h | h
     ·exact (hF hflat b h).2.2 i hiu hbi
     ·obtain ⟨i0,hi0,hbi0⟩:=(hOP b).1 h
      exact him ((hrb.sep i i0 b hiu.live (hmu i0 hi0) hbi hbi0) ▸ hi0)
     ·have:=(hrb.old i b hiu.live hbi).2; omega
 have hdr:cx.dr=true→w.drawn≤w'.drawn:=hkept.drawn
 have hstep:=hrb.step (B':=fun j=>(gD .none (zbi B (us++(zJ id res.vals).2)) j)) (κ':=κ') (w':=w') (fun i=>i∈mv∨i∈(zJ id res.vals).2.map (·.1)) hkept.os hkept.tape hkept.output hkept.size
  (fun b hb=>by
   by_cases hop:OPof (mv.map κ) b
   ·obtain ⟨i,hi,hbi⟩:=(hOP b).1 hop
    exact .inr ⟨i,.inl hi,hmu i hi,hbi⟩
   ·exact .inl (hkept.keep b hb hop))
  (fun i hi=>⟨hold i (fun h=>hi (.inl h)) (fun h=>hi (.inr h)),hκold i (fun h=>hi (.inr h))⟩)
  (fun i hi hk=>by
   rcases hi with hi | hi
   ·obtain ⟨m,u,hm,hu⟩:=hmvu i hi
    have e1:(gD .none (zbi B (us++(zJ id res.vals).2)) i)=zn3 u:=hmv m i u hm hu
    cases u with
    | none=>right; simp only [e1,zn3,Blk.kind]
    | some x=>
     left
     refine ⟨?_,hκold i (hdisj i hi)⟩
     obtain ⟨T,l⟩:=x
     simp only [e1,zn3,Blk.kind]
     have hup:=hupd.at_ m (κ i) (some ⟨T,l⟩) (by rw [List.getElem?_map,hm]; rfl) hu
     obtain ⟨l0,f0,hb⟩:=hty m i ⟨T,l⟩ hm hu
     have hrow:zb4 cx (Fz e (fun j=>(gD .none B j)) κ w) w (κ i) T l0:=by
      have:=hrb.blk i
      simp only [hb] at this
      exact this
     simp only [hb,Kind.arr.injEq,true_and]
     rcases zql hrow with ⟨hv,hl0⟩ | ⟨g,cap,hv,_⟩
     ·rcases zql hup.1 with ⟨hv2,hl⟩ | ⟨g2,cap2,hv2,_⟩
      ·simp only at hl; rw [hl,hl0]
      ·rw [hv] at hv2; simp at hv2
     ·rcases zql hup.1 with ⟨hv2,hl⟩ | ⟨g2,cap2,hv2,_⟩
      ·rw [hv] at hv2; simp at hv2
      ·rw [hv] at hv2; simp only [Value.slice.injEq] at hv2; exact hv2.2.1.symm
   ·exact absurd (by simp only [(hnew i hi).1,Blk.kind]) hk)
  (fun i b hi hl hb=>by
   rcases hi with hi | hi
   ·rw [hκold i (hdisj i hi)] at hb
    exact ⟨Nat.lt_of_lt_of_le (hrb.old i b (hmu i hi).live hb).2 hkept.size,.inl ⟨i,.inl hi,hmu i hi,hb⟩⟩
   ·obtain ⟨j,T,l,hj,rfl⟩:=hnewj i hi
    obtain ⟨u,hu,hr⟩:=hvals.getR hj
    rw [hκnew j T l u hj hu] at hb
    obtain ⟨⟨xs,ho,_⟩,hblk⟩:=hr
    refine ⟨zvh ho hb, ?_⟩
    rcases (hblk b hb).2 with hop | hge
    ·obtain ⟨i0,hi0,hb0⟩:=(hOP b).1 hop
     exact .inl ⟨i0,.inl hi0,hmu i0 hi0,hb0⟩
    ·exact .inr hge)
  (fun i j b hi hj hl hu hbi hbj=>by
   have mvlive:∀ i∈mv,((gD .none (zbi B (us++(zJ id res.vals).2)) i)).live→∃ (m:Nat) (x:(T:Nat)×List (ty T)),mv[m]? =some i∧res.upd[m]? =some (some x):=by
    intro i hi hl
    obtain ⟨m,u,hm,hu⟩:=hmvu i hi
    have e1:(gD .none (zbi B (us++(zJ id res.vals).2)) i)=zn3 u:=hmv m i u hm hu
    cases u with
    | none=>rw [e1] at hl; exact hl.elim
    | some x=>exact ⟨m,x,hm,hu⟩
   rcases hi with hi | hi
   ·rcases hj with hj | hj
    ·rw [hκold i (hdisj i hi)] at hbi
     rw [hκold j (hdisj j hj)] at hbj
     exact hrb.sep i j b (hmu i hi).live (hmu j hj) hbi hbj
    ·obtain ⟨m,x,hm,hx⟩:=mvlive i hi hl
     obtain ⟨j',T,l,hj',rfl⟩:=hnewj j hj
     obtain ⟨v,hv,_⟩:=hvals.getR hj'
     rw [hκold i (hdisj i hi)] at hbi
     rw [hκnew j' T l v hj' hv] at hbj
     exact absurd hbi (hs2 j' m T l x v (κ i) b hj' hx hv (by rw [List.getElem?_map,hm]; rfl) hbj)
   ·obtain ⟨i',T,l,hi',rfl⟩:=hnewj i hi
    obtain ⟨v,hv,_⟩:=hvals.getR hi'
    rw [hκnew i' T l v hi' hv] at hbi
    rcases hj with hj | hj
    ·obtain ⟨m,x,hm,hx⟩:=mvlive j hj hu.live
     rw [hκold j (hdisj j hj)] at hbj
     exact absurd hbj (hs2 i' m T l x v (κ j) b hi' hx hv (by rw [List.getElem?_map,hm]; rfl) hbi)
    ·obtain ⟨j',T2,l2,hj',rfl⟩:=hnewj j hj
     obtain ⟨v2,hv2,_⟩:=hvals.getR hj'
     rw [hκnew j' T2 l2 v2 hj' hv2] at hbj
     rw [hs1 i' j' T l T2 l2 v v2 b hi' hj' hv hv2 hbi hbj])
  (fun i hi hc=>by
   rcases hi with hi | hi
   ·obtain ⟨m,u,hm,hu⟩:=hmvu i hi
    have e1:(gD .none (zbi B (us++(zJ id res.vals).2)) i)=zn3 u:=hmv m i u hm hu
    rw [hκold i (hdisj i hi)]
    cases u with
    | none=>rw [e1]; trivial
    | some x=>
     have hup:=hupd.at_ m (κ i) (some x) (by rw [List.getElem?_map,hm]; rfl) hu
     have hnf:res.flat=false:=by
      unfold ARes.flat
      rw [Bool.and_eq_false_iff]
      right
      rw [List.all_eq_false]
      exact ⟨some x,List.mem_of_getElem? hu,by simp⟩
     rw [e1]
     obtain ⟨T,l⟩:=x
     obtain ⟨⟨xs,ho,ha⟩,_⟩:=hup
     exact ⟨xs,ho,ha.imp fun _ _ h=>h.mono fun b hb=>⟨hfin hnf b hb,rfl⟩⟩
   ·obtain ⟨j,T,l,hj,rfl⟩:=hnewj i hi
    obtain ⟨v,hv,hr⟩:=hvals.getR hj
    have hnf:res.flat=false:=by
     unfold ARes.flat
     rw [Bool.and_eq_false_iff]
     left
     rw [List.all_eq_false]
     exact ⟨_,List.mem_of_getElem? hj,by simp [RV.flat]⟩
    have e1:(gD .none (zbi B (us++(zJ id res.vals).2)) (id+j))=.arr T l false:=hown j T l hj
    rw [e1,hκnew j T l v hj hv]
    obtain ⟨⟨xs,ho,ha⟩,_⟩:=hr
    exact ⟨xs,ho,ha.imp fun _ _ h=>h.mono fun b hb=>⟨hfin hnf b hb,rfl⟩⟩)
 refine ⟨κ',hstep.1,hstep.2,by rw [hvals.len,zxI],fun j v av hv hav=> ?_⟩
 obtain ⟨rv,hrv,hr⟩:=hvals.getL hv
 cases rv with
 | pure av'=>
  rw [zv0 id res.vals j av' hrv] at hav
  simp only [Option.some.injEq] at hav; subst hav
  cases hfl:res.flat with
  | true=>
   unfold ARes.flat at hfl
   rw [Bool.and_eq_true] at hfl
   have:=(List.all_eq_true.1 hfl.1) _ (List.mem_of_getElem? hrv)
   exact .rep (zJ6 (by simpa [RV.flat] using this) hr)
  | false=>exact .rep (hr.mono fun b hb=>⟨hfin hfl b hb,rfl⟩)
 | own T l=>
  rw [(zpn id res.vals j T l hrv).1] at hav
  simp only [Option.some.injEq] at hav; subst hav
  have e1:=hκnew j T l v hrv hv
  have:=RepA.own (cx:=cx) (F:=Fz e (fun j=>(gD .none (zbi B (us++(zJ id res.vals).2)) j)) κ' w') (w:=w') (kd:=fun i=>((gD .none (zbi B (us++(zJ id res.vals).2)) i)).kind cx) (κ:=κ') (id+j) (szOf cx T) l.length (by
   have e2:(gD .none (zbi B (us++(zJ id res.vals).2)) (id+j))=.arr T l false:=hown j T l hrv
   simp only [e2,Blk.kind])
  rwa [e1] at this
theorem zIn {F:Nat→Prop} {kd:Nat→Kind} {rs:List Value} {avs:List (AV ty)} (h:All2 (RepA cx F w kd κ) rs avs):RepA cx F w kd κ (zrX rs) (tupV avs):=by
 cases avs with
 | nil=>rw [h.nil_left.1]; exact .tup [] [] rfl (fun j u c hu=>by simp at hu)
 | cons c cs=>
  obtain ⟨u,us,rfl,hu,h'⟩:=h.inv
  cases cs with
  | nil=>rw [h'.nil_left.1]; exact hu
  | cons c2 cs2=>
   obtain ⟨u2,us2,rfl,hu2,h2⟩:=h'.inv
   exact .tup _ _ h.len h.at_
theorem zJG {f:Operand} {args:Array Operand} {ts:Array TypeId} (hcx:CxOK P cx) (hspec:∀ f s,cx.spec f=some s→Sound P cx f s)
  (ho:o.op=.call { callee:=.value f,args:=args,argTypes:=ts }) (h:aop cx o st=some d) (hf:RF cx e st κ a w):o.wp P a w (fun a' w'=>R cx e (st.app o.dst d) a' w') Q:=by
 unfold aop aopK at h
 simp only [ho] at h
 have hfr:=zbj hf f
 split at h
 ·rename_i g caps hfe
  rw [hfe] at hfr
  obtain ⟨vc,hve,hcr⟩:∃ vc:List Value,a.eval f=.func (.func g) #[] vc.toArray∧All2 (RepS cx e st κ w) vc caps:=by
   generalize a.eval f=ve at hfr
   cases hfr with
   | rep hr=>cases hr with | fn _ vs _ hlen hr=>exact ⟨vs,rfl,zqL hlen hr⟩
   | fn _ vs _ hlen hr=>exact ⟨vs,rfl,hlen,hr⟩
  have hall:=(zoy hf args.toList).append hcr
  unfold znJ at h
  split at h
  ·cases h
  ·rename_i s hs
   have hsnd:=hspec g s hs
   split at h
   ·cases h
   ·rename_i as fz mv hargs
    split at h
    ·cases h
    ·rename_i hnd
     obtain ⟨hnd,hdj⟩:=zgX hnd
     split at h
     ·cases h
     ·rename_i pre res hres
      obtain ⟨hpre,h⟩:=zdl h
      subst hpre
      split at h
      ·cases h
      ·rename_i us hus
       -- the arguments, read with what they freeze
       have hF1le:∀ b,Fz e st.blk κ w b→Fz e (FzB st fz) κ w b:=fun b hb=>((zor hf.rb fz).2.fz b hb).1
       obtain ⟨harg,hown,hmu⟩:=zur (F1:=Fz e (FzB st fz) κ w) hcx hf.rb _ _ _ _ as fz mv hall hargs (fun v av a' ids hr hp hi=>zBX hcx hf.rb hr hp hi)
        (fun id T l hid hb=>by
         have hnf:id∉fz:=by
          intro hm
          have:(!mv.contains id)=true:=(List.all_eq_true.1 hdj) id hm
          simp at this
          exact this hid
         obtain ⟨xs,hx1,hx2⟩:=hf.rb.row hb
         refine ⟨⟨xs,hx1,hx2.imp fun _ _ h=>h.mono fun b hb=>⟨hF1le b hb,rfl⟩⟩,fun b hbb hfb=> ?_⟩
         refine hfb.2.2 id ?_ hbb
         simp only [FzB,zkv,if_neg hnf]
         have:(gD .none st.blks id)=st.blk id:=rfl
         rw [this,hb]; rfl)
       have hsep:SepL (zQ (args.toList.map a.eval++vc) as):=by
        rw [hown]
        intro i j u v b hi hj hbi hbj
        rw [List.getElem?_map] at hi hj
        cases hmi:mv[i]? with
        | none=>rw [hmi] at hi; cases hi
        | some x=>
         cases hmj:mv[j]? with
         | none=>rw [hmj] at hj; cases hj
         | some y=>
          rw [hmi] at hi; rw [hmj] at hj
          simp only [Option.map_some,Option.some.injEq] at hi hj
          subst hi; subst hj
          have hxy:=hf.rb.sep x y b (hmu x (List.mem_of_getElem? hmi)).live (hmu y (List.mem_of_getElem? hmj)) hbi hbj
          exact zEt hnd i j x hmi (hxy ▸ hmj)
       have hgb:∀ i b,i∈mv→zL (κ i)=some b→cx.ng≤b:=fun i b hi hb=>by
        rcases hf.rb.mine i b (hmu i hi) hb with h' | h'
        ·exact hf.rb.g.big b h'
        ·exact Nat.le_trans hf.rb.g.size h'
       have hsepw:SepW cx w (zQ (args.toList.map a.eval++vc) as):=by
        refine ⟨hsep,⟨hcx.stable _ _ hf.rb.g.inv fun b hb=>hf.rb.keep b (Nat.lt_of_lt_of_le hb hf.rb.g.size) fun hop=> ?_,fun b ⟨v,hv,hb⟩=> ?_,Nat.le_trans hf.rb.g.size hf.rb.size⟩⟩
        ·have:=hf.rb.g.big b hop; omega
        ·rw [hown] at hv
         obtain ⟨i,hi,rfl⟩:=List.mem_map.1 hv
         exact hgb i b hi hb
       have hcalls:=hsnd.calls as res hres w (Fz e (FzB st fz) κ w) _ (fun b hb=>hb.2.1) harg hsepw
       -- the machine's side
       have hrun:(execOp a.eval o).run P w=.ok (.enter g (args.toList.map a.eval++vc).toArray) w:=by
        have:(args.map a.eval++vc.toArray)=(args.toList.map a.eval++vc).toArray:=by
         apply Array.ext'; simp
        simp only [execOp,ho,resolve,hve,Deferred.ofValue,Sem.run_bind,Sem.run_pure,Result.andThen_ok,invoke]
        rw [show (#[]++args.map a.eval:Array Value)=args.map a.eval by simp,this]
        exact hsnd.enters _ _
       unfold Oper.wp
       rw [hrun,Oper.upon_enter]
       refine hcalls.mono fun en w' hpost=> ?_
       obtain ⟨v,rfl,⟨F',rs,rfl,hkept,hF'1,hF'2,hvals,hupd,hs1,hs2⟩⟩:=hpost
       rw [hown] at hkept hF'2 hvals hupd hs2
       -- what is frozen for good
       obtain ⟨hu1,hu2,hu3⟩:=zA8 hus
       obtain ⟨hrb1,hc1⟩:=zor hf.rb (bif res.flat then [] else fz)
       have hmnf:∀ i∈mv,i∉(bif res.flat then [] else fz):=by
        intro i hi hm
        cases hfl:res.flat with
        | true=>rw [hfl] at hm; simp at hm
        | false=>
         rw [hfl] at hm
         have:(!mv.contains i)=true:=(List.all_eq_true.1 hdj) i hm
         simp at this
         exact this hi
       have hB1:∀ i∈mv,(gD .none (zba st.blks (bif res.flat then [] else fz)) i)=st.blk i:=fun i hi=>by
        rw [zkv,if_neg (hmnf i hi)]; rfl
       have step:∀ (id:Nat),(∀ p∈(zJ id res.vals).2,zdC st p.1=true)→_:=fun id hfree=>
        zId (id:=id) (w':=w') (rs:=rs) (F1:=Fz e (FzB st fz) κ w) (F':=F') (mv:=mv) (us:=us) hcx hrb1 (fun i hi=>by rw [hB1 i hi]; exact hmu i hi) hnd hu1 hu2
         (fun m i x hm hx=>by
          obtain ⟨l0,f0,hb⟩:=hu3 m i x hm hx
          exact ⟨l0,f0,by rw [hB1 i (List.mem_of_getElem? hm)]; exact hb⟩)
         (fun p hp=>by
          obtain ⟨h1,h2⟩:=zim (hfree p hp)
          refine ⟨?_,by rw [zga]; exact h2⟩
          rw [zkv]
          have:(gD .none st.blks p.1)=.none:=h1
          rw [this]; split <;>rfl)
         hkept (fun b hb=>by
          cases hfl:res.flat with
          | true=>rw [hfl] at hb; exact hF1le b hb
          | false=>rw [hfl] at hb; exact hb) hF'2 hvals hupd hs1 hs2 (fun hfl b hb=>by rw [hfl]; exact hb)
       split at h
       ·rename_i dd hdst
        split at h
        ·rename_i hfl
         obtain ⟨hfree,_⟩:=zgX hfl
         obtain rfl:=Option.some.inj h
         obtain ⟨κ',h1,h2,h3⟩:=step (zC dd) (zBq hfree)
         refine ⟨κ',hf.put (by rw [zvv]; exact h1) (by rw [zvv]; exact hc1.trans h2) (fun _=>by rw [zvv]; exact zIn h3)⟩
        ·cases h
       ·rename_i hdst
        split at h
        ·rename_i hnil
         obtain rfl:=Option.some.inj h
         obtain ⟨κ',h1,h2,h3⟩:=step 0 (fun p hp=>by rw [hnil] at hp; simp at hp)
         rw [hnil,List.append_nil] at h1 h2
         exact ⟨κ',hf.put (by rw [zvv]; exact h1) (by rw [zvv]; exact hc1.trans h2) (fun _=>.dead _)⟩
        ·cases h
 ·cases h
end
end
end Go.Ab
/- Maps of the call's own, against the machine's. -/
namespace Go.Ab
noncomputable section
open Go.MapKept
variable {ty:Nat→Type}
section
variable {P:Program} {cx:Cx ty} {e:Env} {st:St ty} {κ:Nat→Value} {a:Act} {w:World} {o:Oper} {d:Delta ty} {Q:Exit→Act→World→Prop}
theorem zE3 {α β:Type} {S:α→β→Prop} {l:List β} (h:All2 S [] l):l=[]:=List.eq_nil_of_length_eq_zero h.len.symm
theorem zEf {α β:Type} {S:α→β→Prop} {x:α} {r:List α} {l:List β} (h:All2 S (x::r) l):∃ y l',l=y::l'∧S x y∧All2 S r l':=by
 cases l with
 | nil=>have:=h.len; simp at this
 | cons y l'=>exact ⟨y,l',rfl,h.at_ 0 x y rfl rfl,⟨by simpa using h.len,fun j u c hu hc=>h.at_ (j+1) u c (by simpa using hu) (by simpa using hc)⟩⟩
theorem zCe {P:Program} (hcx:CxOK P cx) {v:Value} {av:AV ty} {K:Nat} {key:Value} (hr:RepS cx e st κ w v av) (h:zFb cx K av=some key):v=key∧zlq cx K key:=by
 unfold zFb at h
 split at h
 ·rename_i s
  split at h
  ·rename_i sz b z hK
   simp only [Option.some.injEq] at h; subst h
   exact ⟨zbh hr,⟨_,_,_,hK⟩⟩
  ·cases h
 ·rename_i k n
  split at h
  ·rename_i k' sz b z hK
   split at h
   ·rename_i hk; subst hk
    simp only [Option.some.injEq] at h; subst h
    exact ⟨zbh hr,⟨_,_,_,hK⟩⟩
   ·cases h
  ·cases h
 ·rename_i cs
  split at h
  ·rename_i us hus
   split at h
   ·rename_i q hq
    simp only [Option.some.injEq] at h; subst h
    obtain ⟨vs,rfl,ha⟩:=zy2 hr
    obtain rfl:=zBQ _ _ _ ha hus
    obtain rfl:=hcx.eqr _ _ _ hq
    exact ⟨rfl,hq⟩
   ·cases h
  ·cases h
 ·cases h
def zot (key:Value):List MapEntry→Nat→Option (Nat×Value)
 | [],_=>none
 | e::es,i=>bif zjX key e.key then some (i,e.val) else zot key es (i+1)
theorem zAZ {dk:TypeDesc} {key:Value}:∀ (es:List MapEntry) (i:Nat),(∀ en∈es,Instr.sameNow dk key en.key=some (zjX key en.key))→Instr.findNow dk key es i=some (zot key es i)
 | [],i,_=>rfl
 | en::es,i,h=>by
  have h0:=h en (by simp)
  have:=zAZ es (i+1) fun x hx=>h x (by simp [hx])
  cases hb:zjX key en.key <;>simp [Instr.findNow,h0,hb,zot,this]
theorem zEI {K:Nat} {key:Value}:∀ (es:List MapEntry) (i:Nat),(∀ en∈es,(Op.equal K key en.key).run P w=.ok (zjX key en.key) w)→(Instr.findAsking K key es i).run P w=.ok (zot key es i) w
 | [],i,_=>rfl
 | en::es,i,h=>by
  have h0:=h en (by simp)
  have:=zEI es (i+1) fun x hx=>h x (by simp [hx])
  cases hb:zjX key en.key <;>simp [Instr.findAsking,h0,hb,zot,this]
theorem zCg (hcx:CxOK P cx) {K:Nat} {key:Value} (h:zlq cx K key):(∀ e,(Instr.checkKey e 10000 K key).run P w=.ok () w)∧∀ es:List MapEntry,(∀ en∈es,zlq cx K en.key)→(Instr.findKey K key es).run P w=.ok (zot key es 0) w:=by
 cases key with
 | string s=>
  obtain ⟨sz,b,z,hK⟩:=h
  refine ⟨fun e=>Go.MapKept.run_checkKey (zm5 hcx hK) (by simp [IsKey]) e 9999,fun es hes=>Go.MapKept.run_findKey (zm5 hcx hK) (zAZ es 0 fun en hen=> ?_)⟩
  have h2:=hes en hen
  revert h2
  generalize en.key=k2
  intro h2
  cases k2 with
  | string t=>rfl
  | int k n=>
   obtain ⟨_,_,_,hK2⟩:=h2
   rw [hK] at hK2; cases hK2
  | agg a=>
   obtain ⟨_,_,_,_,_,fs,hfs⟩:=hcx.eqs K _ _ _ h2 w
   rw [zm5 hcx hK] at hfs; cases hfs
  | _=>exact h2.elim
 | int k n=>
  obtain ⟨sz,b,z,hK⟩:=h
  refine ⟨fun e=>Go.MapKept.run_checkKey (zqR hcx hK) (by simp [IsKey]) e 9999,fun es hes=>Go.MapKept.run_findKey (zqR hcx hK) (zAZ es 0 fun en hen=> ?_)⟩
  have h2:=hes en hen
  revert h2
  generalize en.key=k2
  intro h2
  cases k2 with
  | string t=>
   obtain ⟨_,_,_,hK2⟩:=h2
   rw [hK] at hK2; cases hK2
  | int k' n'=>
   obtain ⟨_,_,_,hK2⟩:=h2
   rw [hK] at hK2
   simp only [Option.some.injEq,TInfo.mk.injEq,TD.int.injEq] at hK2
   obtain ⟨rfl,_⟩:=hK2
   simp [Instr.sameNow,zjX]
  | agg a=>
   obtain ⟨_,_,_,_,_,fs,hfs⟩:=hcx.eqs K _ _ _ h2 w
   rw [zqR hcx hK] at hfs; cases hfs
  | _=>exact h2.elim
 | agg a=>
  have h:cx.eqs K a.toList a.toList=some true:=h
  obtain ⟨_,_,_,_,hck,fs,hfs⟩:=hcx.eqs K _ _ _ h w
  refine ⟨fun e=>by simpa using hck e 9998,fun es hes=> ?_⟩
  have hq:∀ en∈es,(Op.equal K (.agg a) en.key).run P w=.ok (zjX (.agg a) en.key) w:=by
   intro en hen
   have h2:=hes en hen
   revert h2
   generalize en.key=k2
   intro h2
   cases k2 with
   | string t=>
    obtain ⟨_,_,_,hK2⟩:=h2
    rw [zm5 hcx hK2] at hfs; cases hfs
   | int k' n'=>
    obtain ⟨_,_,_,hK2⟩:=h2
    rw [zqR hcx hK2] at hfs; cases hfs
   | agg c=>
    have h2:cx.eqs K c.toList c.toList=some true:=h2
    obtain ⟨_,_,_,hr,_,_⟩:=hcx.eqs K _ _ _ (hcx.eqk K _ _ h h2).1 w
    simpa [zjX] using hr
   | _=>exact h2.elim
  cases es with
  | nil=>simp [Instr.findKey,run_underlying hfs,Instr.findNow,zot]
  | cons en es=>
   have hno:Instr.findNow (.struct fs) (.agg a) (en::es) 0=none:=by simp [Instr.findNow,Instr.sameNow]
   simp only [Instr.findKey,Sem.run_bind,run_underlying hfs,Result.andThen_ok,hno,zEI _ _ hq]
 | _=>exact h.elim
theorem zF9 {K V:Nat} {es:List MapEntry} {l:List (Value×ty V)} (ha:All2 (zxg cx V) es l) (hk:∀ p∈l,zlq cx K p.1):∀ en∈es,zlq cx K en.key:=by
 intro en hen
 obtain ⟨j,hj⟩:=List.getElem?_of_mem hen
 obtain ⟨p,hp,hpe⟩:=ha.getL hj
 rw [hpe.1]; exact hk p (List.mem_of_getElem? hp)
theorem zAR {V:Nat} {key:Value}:
  ∀ (es:List MapEntry) (l:List (Value×ty V)) (i:Nat),All2 (zxg cx V) es l→
   (zot key es i=none∧mget key l=none∧mhas key l=false∧∀ x,mset key x l=l++[(key,x)])∨
   (∃ (j:Nat) (en:MapEntry) (x0:ty V),es[j]? =some en∧zjX key en.key=true∧zot key es i=some (i+j,en.val)∧mget key l=some x0∧mhas key l=true∧cx.enc V x0=[.lit en.val]∧∀ x,mset key x l=l.set j (key,x))
 | [],l,i,ha=>by
  obtain rfl:=zE3 ha
  exact .inl ⟨rfl,rfl,rfl,fun x=>rfl⟩
 | en::es,l,i,ha=>by
  obtain ⟨p,l',rfl,hp,ha'⟩:=zEf ha
  cases hb:zjX key en.key with
  | true=>
   refine .inr ⟨0,en,p.2,rfl,hb, ?_, ?_, ?_,hp.2,fun x=> ?_⟩
   ·simp [zot,hb]
   ·simp [mget, ← hp.1,hb]
   ·simp [mhas, ← hp.1,hb]
   ·simp [mset, ← hp.1,hb]
  | false=>
   have h0:zot key (en::es) i=zot key es (i+1):=by simp [zot,hb]
   have h1:mget key (p::l')=mget key l':=by simp [mget, ← hp.1,hb]
   have h2:mhas key (p::l')=mhas key l':=by simp [mhas, ← hp.1,hb]
   have h3:∀ x,mset key x (p::l')=p::mset key x l':=fun x=>by simp [mset, ← hp.1,hb]
   rw [h0,h1,h2]
   rcases zAR es l' (i+1) ha' with ⟨a1,a2,a3,a4⟩ | ⟨j,en',x0,a1,a2,a3,a4,a5,a6,a7⟩
   ·exact .inl ⟨a1,a2,a3,fun x=>by rw [h3,a4]; rfl⟩
   ·exact .inr ⟨j+1,en',x0,by simpa using a1,a2,by rw [a3,show i+1+j=i+(j+1) by omega],a4,a5,a6,fun x=>by rw [h3,a7]; rfl⟩
theorem zFR (hrb:RB cx e st.blk κ w) {id K V:Nat} {l:List (Value×ty V)} {fz:Bool} (hb:st.blk id=.mp K V l fz):
  ∃ b es clock,κ id=.map (some b)∧w.heap[b]? =some (.map es clock)∧All2 (zxg cx V) es.toList l∧∀ p∈l,zlq cx K p.1:=by
 have:=hrb.blk id
 rw [hb] at this
 exact this
theorem zHo {T:Nat} (hcx:CxOK P cx) (ho:o.op=.makeMap T none) (h:aop cx o st=some d) (hf:RF cx e st κ a w):o.wp P a w (fun a' w'=>R cx e (st.app o.dst d) a' w') Q:=by
 unfold aop aopK at h
 simp only [ho] at h
 split at h
 ·rename_i kt vt s1 b1 z1 dd hT hdst
  obtain ⟨hfree,h⟩:=zdl h
  simp only [Option.some.injEq] at h; subst h
  obtain ⟨hn,hlt⟩:=zim hfree
  have hst:=zmp (w':=w.alloc (.map #[] 0)) (nb:=.mp kt vt [] false) (v:=.map (some w.heap.size)) hf.rb hn hlt rfl rfl rfl (by simp) (fun b hb=>heap_alloc_old w _ b hb)
   (fun b hb=>by simp [zL] at hb; subst hb; simp)
   (fun hc=>⟨w.heap.size,#[],0,rfl,heap_alloc_new w _,.nil,fun p hp=>by simp at hp⟩)
  refine zI (v:=.map (some w.heap.size)) (w':=w.alloc (.map #[] 0)) ?_ ⟨_,hf.put (κ':=fun i=>if i=zC dd then .map (some w.heap.size) else κ i) ?_ ?_ (fun _=> ?_)⟩
  ·simp [execOp,ho,Instr.makeMap]
  ·rw [zbZ]; exact hst.1
  ·rw [zbZ]; exact hst.2
  ·rw [zbZ]
   have:=RepA.mp (cx:=cx) (F:=Fz e (fun j=>(gD .none ((zba st.blks []).set (zC dd) (.mp kt vt [] false)) j)) (fun i=>if i=zC dd then .map (some w.heap.size) else κ i) (w.alloc (.map #[] 0))) (w:=w.alloc (.map #[] 0))
    (kd:=fun i=>((gD .none ((zba st.blks []).set (zC dd) (.mp kt vt [] false)) i)).kind cx) (κ:=fun i=>if i=zC dd then .map (some w.heap.size) else κ i) (zC dd) (by
     rw [zT,if_pos ⟨rfl,by rw [zga]; exact hlt⟩]; rfl)
   simpa using this
 ·cases h
theorem zH7 (hrb:RB cx e st.blk κ w) {F:Nat→Prop} {v:Value} {id K V:Nat} {l:List (Value×ty V)} {fz:Bool} (hb:st.blk id=.mp K V l fz) (hr:RepA cx F w (fun i=>(st.blk i).kind cx) κ v (.mp id)):v=κ id:=by
 cases hr with
 | rep hr=>cases hr
 | mp _ h=>rfl
 | mpD _ _ h=>simp [hb,Blk.kind] at h
theorem zIP (hcx:CxOK P cx) {V:Nat} {inf:TInfo} (hV:cx.ti V=some inf) (hns:zmn inf=false) {c:AV ty} {F:Nat→Prop} {z:ty V} (hdec:cx.dec V (inf.zero.map .lit)=some z) (hc:cx.enc V z=[c]):
  ∃ u,(zeroValue V).run P w=.ok u w∧Rep cx F w u c:=by
 obtain ⟨info,desc,zv,hi,hu,hs,hb,hz,hzc,hzl,hz1,hd⟩:=(hcx.ti V _ hV).ok
 have h1:=hz1.2 hns
 have hcell:inf.zero=[zv]:=by rw [← hzc,zEy h1]
 refine ⟨zv,zwv hi hz, ?_⟩
 have:=hcx.dec V _ z hdec F w inf.zero (zwz inf.zero)
 rw [hc,hcell] at this
 exact this.head.1
theorem zIm {T:Nat} {m k:Operand} {ok:Bool} (hcx:CxOK P cx) (ho:o.op=.lookup T m k ok) (h:aop cx o st=some d) (hf:RF cx e st κ a w):o.wp P a w (fun a' w'=>R cx e (st.app o.dst d) a' w') Q:=by
 unfold aop aopK at h
 simp only [ho] at h
 unfold ztc at h
 have hm:=zbj hf m
 have hk:=zbj hf k
 generalize hme:a.eval m=vm at hm
 generalize hke:a.eval k=vk at hk
 split at h
 ·rename_i kt vt s1 b1 z1 id hT hmv
  rw [hmv] at hm
  split at h
  ·rename_i kt' vt' l fz inf hb hV
   split at h
   ·rename_i key z hbeq hkey hdec
    simp only [Bool.and_eq_true,Bool.not_eq_true'] at hbeq
    obtain ⟨⟨e1,e2⟩,hns⟩:=hbeq
    have e1:=Nat.eq_of_beq_eq_true e1
    have e2:=Nat.eq_of_beq_eq_true e2
    subst e1 e2
    obtain ⟨rfl,hfit⟩:=zCe hcx hk hkey
    obtain ⟨bl,es,clock,hκ,hg,hent,hkeys⟩:=zFR hf.rb hb
    obtain ⟨hck,hfind⟩:=zCg (w:=w) hcx hfit
    have hfind:=hfind _ (zF9 hent hkeys)
    have hvm:vm=.map (some bl):=(zH7 hf.rb hb hm).trans hκ
    subst hvm
    split at h
    ·rename_i c hc
     have hres:∃ u,(Instr.lookup T (.map (some bl)) vk ok).run P w=.ok (bif ok then .tuple #[u,.bool (mhas vk l)] else u) w∧Rep cx (Fz e st.blk κ w) w u c:=by
      rcases zAR (key:=vk) es.toList l 0 hent with ⟨a1,a2,a3,_⟩ | ⟨j,en,x0,_,_,a3,a4,a5,a6,_⟩
      ·rw [a2] at hc
       obtain ⟨u,hu,hr⟩:=zIP (w:=w) (F:=Fz e st.blk κ w) hcx hV hns hdec hc
       refine ⟨u, ?_,hr⟩
       rw [a3]
       simp only [Instr.lookup,Sem.run_bind,zb1 (zyw hcx hT),Result.andThen_ok,Go.MapKept.run_getObj_map hg,Sem.run_pure,hck,hfind,a1,hu]
       cases ok <;>rfl
      ·rw [a4] at hc
       have hc:cx.enc vt x0=[c]:=hc
       rw [a6] at hc
       obtain rfl:AV.lit en.val=c:=by simpa using hc
       refine ⟨en.val, ?_,.lit _⟩
       rw [a5]
       simp only [Instr.lookup,Sem.run_bind,zb1 (zyw hcx hT),Result.andThen_ok,Go.MapKept.run_getObj_map hg,Sem.run_pure,hck,hfind,a3]
       cases ok <;>rfl
     obtain ⟨u,hrun,hu⟩:=hres
     cases ok with
     | true=>
      simp only [Option.some.injEq] at h; subst h
      refine zI (v:=.tuple #[u,.bool (mhas vk l)]) (w':=w) (by simp only [execOp,ho,hme,hke,hrun,Sem.run_bind,Result.andThen_ok,Sem.run_pure,cond_true]) (hf.val ?_)
      exact .tup [u,.bool (mhas vk l)] _ rfl fun j u2 c2 hu2 hc2=>by
       match j with
       | 0=>simp at hu2 hc2; subst hu2 hc2; exact .rep hu
       | 1=>simp at hu2 hc2; subst hu2 hc2; exact .rep (.lit _)
       | j+2=>simp at hu2
     | false=>
      simp only [Option.some.injEq] at h; subst h
      exact zI (v:=u) (w':=w) (by simp only [execOp,ho,hme,hke,hrun,Sem.run_bind,Result.andThen_ok,Sem.run_pure,cond_false]) (hf.val (.rep hu))
    ·cases h
   ·cases h
  ·cases h
 ·cases h
theorem zDA {s t:ByteArray} (h:(s==t)=true):s=t:=by
 obtain ⟨⟨s⟩⟩:=s
 obtain ⟨⟨t⟩⟩:=t
 have h:((⟨s⟩:Array UInt8)==⟨t⟩)=true:=h
 rw [beq_iff_eq.1 h]
theorem zEh (s:ByteArray):(s==s)=true:=by
 obtain ⟨s⟩:=s
 show (s==s)=true
 simp
theorem zHU (hcx:CxOK P cx) {a b:Value} (h:zjX a b=true) (K:Nat) (hk:zlq cx K a) (hk2:zlq cx K b):Instr.sameBits 10000 b a=true:=by
 cases a with
 | string s=>cases b with
  | string t=>
   have:(s==t)=true:=h
   have:=zDA this
   subst this
   simp only [Instr.sameBits,zEh]
  | _=>simp [zjX] at h
 | int k n=>cases b with
  | int k' n'=>
   have:(n==n')=true:=h
   have:n=n':=by simpa using this
   subst this
   obtain ⟨_,_,_,h1⟩:=hk
   obtain ⟨_,_,_,h2⟩:=hk2
   rw [h1] at h2
   simp only [Option.some.injEq,TInfo.mk.injEq,TD.int.injEq] at h2
   obtain ⟨rfl,_⟩:=h2
   simp [Instr.sameBits]
  | _=>simp [zjX] at h
 | agg c=>cases b with
  | agg d=>
   have h1:=hcx.eqk K _ _ hk hk2
   have h3:=h1.2.1 h
   have h4:c=d:=by
    obtain ⟨c⟩:=c; obtain ⟨d⟩:=d
    exact congrArg _ h3
   subst h4
   have h5:=h1.2.2
   show (c.size==c.size&&(c.toList.zip c.toList).all fun (x,y)=>Instr.sameBits 9999 x y)=true
   simp only [beq_self_eq_true,Bool.true_and,List.all_eq_true]
   rintro ⟨x,y⟩ hxy
   obtain ⟨j,hj⟩:=List.getElem?_of_mem hxy
   rw [List.getElem?_zip_eq_some] at hj
   have:x=y:=Option.some.inj (hj.1.symm.trans hj.2)
   subst this
   exact h5 x (List.mem_of_getElem? hj.1) 9999
  | _=>simp [zjX] at h
 | _=>simp [zjX] at h
theorem zJ3 {V:Nat} {es:List MapEntry} {l:List (Value×ty V)} (ha:All2 (zxg cx V) es l) {j:Nat} {f:MapEntry→MapEntry} {p:Value×ty V} (hf:∀ en,es[j]? =some en→zxg cx V (f en) p):All2 (zxg cx V) (es.modify j f) (l.set j p):=by
 refine ⟨by simp [ha.len],fun i u c hu hc=> ?_⟩
 rw [List.getElem?_modify] at hu
 rw [List.getElem?_set] at hc
 by_cases hij:j=i
 ·subst hij
  cases he:es[j]? with
  | none=>rw [he] at hu; simp at hu
  | some en=>
   rw [he] at hu
   simp at hu
   subst hu
   split at hc
   ·simp at hc; obtain ⟨_,rfl⟩:=hc; exact hf en he
   ·exact absurd rfl ‹_›
 ·rw [if_neg hij] at hc
  simp [hij] at hu
  exact ha.at_ i u c hu hc
theorem zBx {T:Nat} {m k v:Operand} (hcx:CxOK P cx) (ho:o.op=.mapUpdate T m k v∨o.op=.insert T m k v) (h:aop cx o st=some d) (hf:RF cx e st κ a w):o.wp P a w (fun a' w'=>R cx e (st.app o.dst d) a' w') Q:=by
 have h:zlv cx st T (st.ev m) (st.ev k) (st.ev v) some=some d:=by
  unfold aop aopK at h
  rcases ho with ho | ho <;>simp only [ho] at h <;>exact h
 unfold zlv at h
 have hm:=zbj hf m
 have hk:=zbj hf k
 have hv:=zbj hf v
 generalize hme:a.eval m=vm at hm
 generalize hke:a.eval k=vk at hk
 generalize hve:a.eval v=vv at hv
 split at h
 ·rename_i kt vt s1 b1 z1 id hT hmv
  rw [hmv] at hm
  split at h
  ·rename_i kt' vt' l hb
   split at h
   ·rename_i key u hbeq hkey hvu
    simp only [Bool.and_eq_true] at hbeq
    obtain ⟨e1,e2⟩:=hbeq
    have e1:=Nat.eq_of_beq_eq_true e1
    have e2:=Nat.eq_of_beq_eq_true e2
    subst e1 e2
    rw [hvu] at hv
    obtain rfl:=zbh hv
    obtain ⟨rfl,hfit⟩:=zCe hcx hk hkey
    obtain ⟨bl,es,clock,hκ,hg,hent,hkeys⟩:=zFR hf.rb hb
    obtain ⟨hck,hfind⟩:=zCg (w:=w) hcx hfit
    have hfind:=hfind _ (zF9 hent hkeys)
    have hvm:vm=.map (some bl):=(zH7 hf.rb hb hm).trans hκ
    subst hvm
    split at h
    ·rename_i x hdec
     split at h
     ·rename_i u' henc
      simp only [Option.some.injEq] at h; subst h
      have hu':cx.enc vt x=[.lit vv]:=by
       have:=hcx.dec vt _ x hdec (fun _=>True) w [vv] (zwz [vv])
       rw [henc] at this ⊢
       have:=this.head.1
       cases this; rfl
      have hbl':(gD .none st.blks id)=.mp kt vt l false:=hb
      have step:∀ (es':Array MapEntry) (clock':Nat),(Instr.mapUpdate T (.map (some bl)) vk vv).run P w=.ok () { w with heap:=w.heap.setIfInBounds bl (.map es' clock') }→All2 (zxg cx vt) es'.toList (mset vk x l)→(∀ p∈mset vk x l,zlq cx kt p.1)→
        o.wp P a w (fun a' w'=>R cx e (st.app o.dst { val:=.dead,wr:=[(id,.mp kt vt (mset vk x l) false)] }) a' w') Q:=by
       intro es' clock' hrun hent' hkeys'
       have hst:=ztf (w':={ w with heap:=w.heap.setIfInBounds bl (.map es' clock') }) (nb:=.mp kt vt (mset vk x l) false) hf.rb (n:=id) (by rw [hbl']; rfl) (by rw [hbl']; rfl) rfl rfl rfl (by simp)
        (fun b2 _=>by
         by_cases h2:b2=bl
         ·subst h2; exact .inr (by rw [hκ]; rfl)
         ·exact .inl ((Go.MapKept.heap_set hg).2 b2 h2))
        (fun hc=>⟨bl,es',clock',hκ,(Go.MapKept.heap_set hg).1,hent',hkeys'⟩)
       refine wp_skip (w':={ w with heap:=w.heap.setIfInBounds bl (.map es' clock') }) ?_ ⟨κ,hf.put ?_ ?_ (fun _=>.dead _)⟩
       ·rcases ho with ho | ho <;>simp only [execOp,ho,hme,hke,hve,Sem.run_bind,hrun,Result.andThen_ok,Sem.run_pure]
       ·rw [zbZ]; exact hst.1
       ·rw [zbZ]; exact hst.2
      rcases zAR (key:=vk) es.toList l 0 hent with ⟨a1,_,_,a4⟩ | ⟨j,en,x0,b1,b2,b3,_,_,_,b7⟩
      ·refine step (es.push { key:=vk,val:=vv,born:=clock }) (clock+1) ?_ ?_ ?_
       ·simp only [Instr.mapUpdate,Sem.run_bind,zb1 (zyw hcx hT),Result.andThen_ok,Go.MapKept.run_getObj_map hg,hck,hfind,a1,Go.MapKept.run_setObj_map _ hg]
       ·rw [a4,Array.toList_push]
        exact hent.append (.cons ⟨rfl,hu'⟩ .nil)
       ·rw [a4]
        intro p hp
        rcases List.mem_append.1 hp with hp | hp
        ·exact hkeys p hp
        ·simp at hp; subst hp; exact hfit
      ·have hen:es[j]? =some en:=by simpa using b1
       have hfen:zlq cx kt en.key:=by
        obtain ⟨p,hp,hpe⟩:=hent.getL b1
        rw [hpe.1]; exact hkeys p (List.mem_of_getElem? hp)
       have hst:(Instr.keyThatStays (((es[j]?).map (·.key)).getD vk) vk).run P w=.ok vk w:=by
        rw [hen]
        simp only [Instr.keyThatStays,Option.map_some,Option.getD_some,zHU hcx b2 kt hfit hfen,if_true,Sem.run_pure]
       refine step (es.modify j fun e=>{ e with key:=vk,val:=vv }) clock ?_ ?_ ?_
       ·simp only [Instr.mapUpdate,Sem.run_bind,zb1 (zyw hcx hT),Result.andThen_ok,Go.MapKept.run_getObj_map hg,hck,hfind,b3,Nat.zero_add,hst,Go.MapKept.run_setObj_map _ hg]
       ·rw [b7,Array.toList_modify]
        exact zJ3 hent fun en' _=>⟨rfl,hu'⟩
       ·rw [b7]
        intro p hp
        rcases List.mem_or_eq_of_mem_set hp with hp | hp
        ·exact hkeys p hp
        ·subst hp; exact hfit
     ·cases h
    ·cases h
   ·cases h
  ·cases h
 ·cases h
end
end
end Go.Ab
/- Every operation, and regions, against the machine's. -/
namespace Go.Ab
noncomputable section
variable {ty:Nat→Type}
section
variable {P:Program} {cx:Cx ty} {e:Env} {st:St ty} {κ:Nat→Value} {a:Act} {w:World} {o:Oper} {d:Delta ty} {Q:Exit→Act→World→Prop} {α:Type}
theorem zqU {b:Bool} {x:Option (Delta ty)} {K:Delta ty→Option α}:(bif b then x else none).bind K=bif b then x.bind K else none:=by cases b <;>rfl
theorem zHA (dst:Option Tmp) (f:Nat) (ts:List Nat) (vs:List (AV ty)) (K:Delta ty→Option α):znJ cx st dst f ts vs K=(znJ cx st dst f ts vs some).bind K:=by
 unfold znJ
 repeat' (split <;>try rfl)
 all_goals (rw [zqU]; congr 1)
 all_goals (repeat' (split <;>try rfl))
theorem zGs (T:Nat) (x:AV ty) (lo hi:Option Int) (K:Delta ty→Option α):zkx cx T st x lo hi K=(zkx cx T st x lo hi some).bind K:=by
 unfold zkx
 repeat' (split <;>try rfl)
 all_goals (rw [zqU]; first | rfl | (congr 1; repeat' (split <;>try rfl)))
theorem zFV (dst:Option Tmp) (T:Nat) (s x:AV ty) (K:Delta ty→Option α):zke cx st dst T s x K=(zke cx st dst T s x some).bind K:=by
 unfold zke
 repeat' (split <;>try rfl)
 all_goals (rw [zqU]; rfl)
theorem zFD (dst:Option Tmp) (T T':Nat) (s x:AV ty) (K:Delta ty→Option α):zlC cx st dst T T' s x K=(zlC cx st dst T T' s x some).bind K:=by
 unfold zlC
 repeat' (split <;>try rfl)
 all_goals (rw [zqU]; rfl)
theorem zEV (dst:Option Tmp) (b:Builtin) (ts:List Nat) (vs:List (AV ty)) (K:Delta ty→Option α):zfd cx st dst b ts vs K=(zfd cx st dst b ts vs some).bind K:=by
 unfold zfd
 repeat' (split <;>try rfl)
 all_goals first | exact zFV .. | exact zFD .. | (rw [zqU]; rfl)
theorem zFz (T:Nat) (m k:AV ty) (ok:Bool) (K:Delta ty→Option α):ztc cx st T m k ok K=(ztc cx st T m k ok some).bind K:=by
 unfold ztc
 repeat' (split <;>try rfl)
theorem zGc (T:Nat) (m k v:AV ty) (K:Delta ty→Option α):zlv cx st T m k v K=(zlv cx st T m k v some).bind K:=by
 unfold zlv
 repeat' (split <;>try rfl)
theorem zEz (K:Delta ty→Option α):aopK cx o st K=(aop cx o st).bind K:=by
 unfold aop aopK
 repeat' (split <;>try rfl)
 all_goals first | exact zHA .. | exact zGs .. | exact zEV .. | exact zFz .. | exact zGc .. | (rw [zqU]; rfl)
theorem zEU (hcx:CxOK P cx) (hspec:∀ f s,cx.spec f=some s→Sound P cx f s) (h:aop cx o st=some d) (hf:RF cx e st κ a w):o.wp P a w (fun a' w'=>R cx e (st.app o.dst d) a' w') Q:=by
 cases ho:o.op with
 | move x=>exact zGY (.inl ho) h hf
 | assign x=>exact zGY (.inr ho) h hf
 | pick c x y=>exact zJy ho h hf
 | alloc T=>exact zJd hcx ho h hf
 | box T x=>exact zKj hcx ho h hf
 | build T ps=>exact zJa hcx ho h hf
 | buildSlice T n ps=>exact zE1 hcx ho h hf
 | load T x=>exact zJ0 hcx ho h hf
 | store T x y=>exact zJe hcx ho h hf
 | nilCheck x=>exact zGy hcx ho h hf
 | binOp b T x y T'=>exact zJc hcx ho h hf
 | unOp u T x=>exact zJO ho h hf
 | convert S D x=>exact zHS hcx ho h hf
 | makeFunc fn first caps=>
  cases fn with
  | func g=>exact zGq ho h hf
  | _=>unfold aop aopK at h; simp only [ho] at h; cases h
 | makeSlice T x y=>exact zFl hcx ho h hf
 | makeMap T r=>
  cases r with
  | none=>exact zHo hcx ho h hf
  | some m=>unfold aop aopK at h; simp only [ho] at h; cases h
 | lookup T m k ok=>exact zIm hcx ho h hf
 | mapUpdate T m k v=>exact zBx hcx (.inl ho) h hf
 | insert T m k v=>exact zBx hcx (.inr ho) h hf
 | slice T x lo hi mx=>
  cases mx with
  | none=>exact zIK hcx ho h hf
  | some m=>unfold aop aopK at h; simp only [ho] at h; cases h
 | fieldAddr S x f=>exact zFS hcx ho h hf
 | field S x f=>exact zJf hcx ho h hf
 | indexAddr T x i=>exact zFv hcx ho h hf
 | index T x i=>exact zI7 hcx ho h hf
 | extract x i=>exact zHr ho h hf
 | call c=>
  obtain ⟨callee,args,ts⟩:=c
  cases callee with
  | value f=>exact zJG hcx hspec ho h hf
  | invoke r m=>unfold aop aopK at h; simp only [ho] at h; cases h
  | builtin b=>
   cases b with
   | len=>exact zKf hcx ho h hf
   | append=>exact zHY hcx ho h hf
   | cap=>exact zKz hcx ho h hf
   | min=>exact zET (.inl rfl) ho h hf
   | max=>exact zET (.inr rfl) ho h hf
   | clear=>exact zJb hcx ho h hf
   | _=>unfold aop aopK zfd at h; simp only [ho] at h; cases h
 | _=>unfold aop aopK at h; simp only [ho] at h; cases h
def zeE (cx:Cx ty) (ops:Array Oper) (o:Oper) (st:St ty):Option (Delta ty):=
 match o.guard with
 | none=>aop cx o st
 | some (g,want)=>match (ops[g]?).bind (·.dst) with
  | none=>none
  | some t=>match st.get t with
   | .lit (.bool b)=>bif (b==want) then aop cx o st else some zyY
   | .lit (.tuple _)=>some zyY
   | _=>none
theorem zw4 {t:Nat} {v:AV ty} (h:st.get t=v) (hne:v≠.dead):st.setT t v=st:=by
 rw [St.setT_def]
 have:st.tmps.set t v=st.tmps:=by
  apply List.ext_getElem?
  intro j
  rw [List.getElem?_set]
  split
  ·rename_i hj; subst hj
   split
   ·rename_i hl
    rw [St.get_def] at h
    rw [List.getD_eq_getElem?_getD,List.getElem?_eq_getElem hl] at h
    rw [List.getElem?_eq_getElem hl]
    simpa using h.symm
   ·rename_i hl
    rw [List.getElem?_eq_none (by omega)]
  ·rfl
 rw [this]
theorem zEq {t:Tmp} {K:St ty→Option α}:zC9 st t K=K st:=by
 unfold zC9
 split
 ·rename_i b hb
  cases b with
  | true=>simp only [cond_true]; rw [zw4 hb (by simp)]
  | false=>simp only [cond_false]; rw [zw4 hb (by simp)]
 ·rfl
theorem zFC {K:Delta ty→St ty→Option α}:zFh cx o st K=(aop cx o st).bind fun d=>K d st:=by
 unfold zFh
 split
 ·rw [zEq,zEz]
 ·rw [zEz]
theorem zzC {ops:Array Oper} {K:Delta ty→St ty→Option α}:zDj cx ops o st K=(zeE cx ops o st).bind fun d=>K d st:=by
 unfold zDj zeE
 cases hg:o.guard with
 | none=>exact zFC
 | some gw=>
  obtain ⟨g,want⟩:=gw
  dsimp only
  rw [zHK,Array.getElem?_toList]
  cases ht:(ops[g]?).bind (·.dst) with
  | none=>rfl
  | some t=>
   dsimp only
   rw [zEq]
   cases hv:st.get t with
   | lit v=>
    cases v with
    | bool b=>
     dsimp only
     cases (b==want) with
     | true=>simp only [cond_true]; exact zFC
     | false=>rfl
    | _=>rfl
   | _=>rfl
theorem RF.skip (hf:RF cx e st κ a w) (dst:Option Tmp):R cx e (st.app dst zyY) (a.put dst undef) w:=hf.val (rd:=[]) (.rep (.lit undef))
theorem zCl (hcx:CxOK P cx) (hspec:∀ f s,cx.spec f=some s→Sound P cx f s) {ops:Array Oper} {i:Nat} (hi:ops[i]? =some o) (h:zeE cx ops o st=some d) (hf:RF cx e st κ a w):
  wpOp P ops Q i (fun a' w'=>R cx e (st.app o.dst d) a' w') a w:=by
 unfold wpOp
 simp only [hi]
 unfold zeE at h
 split at h
 ·rename_i hg
  have:Region.wanted o (yielded ops a.tmps)=true:=by simp [Region.wanted,hg]
  rw [if_pos this]
  exact .inl (zEU hcx hspec h hf)
 ·rename_i g want hg
  split at h
  ·cases h
  ·rename_i t ht
   have hr:=hf.tmps t
   split at h
   ·rename_i b hb
    rw [hb] at hr
    have hv:=zbh hr
    have hget:a.tmps[t]? =some (.bool b):=by
     rw [Array.getD_eq_getD_getElem?] at hv
     cases hx:a.tmps[t]? with
     | none=>rw [hx] at hv; simp [undef] at hv
     | some x=>rw [hx] at hv; simp at hv; rw [hv]
    have hy:yielded ops a.tmps g=some b:=by unfold yielded; rw [ht]; simp only [Option.bind_some,hget]
    have hw:Region.wanted o (yielded ops a.tmps)=(b==want):=by
     unfold Region.wanted; rw [hg]; simp only [hy]; cases b <;>cases want <;>rfl
    rw [hw]
    cases hbw:(b==want) with
    | true=>
     rw [hbw] at h
     simp only [cond_true] at h
     simp only [if_true]
     exact .inl (zEU hcx hspec h hf)
    | false=>
     rw [hbw] at h
     simp only [cond_false,Option.some.injEq] at h; subst h
     simp only [Bool.false_eq_true,if_false]
     exact hf.skip o.dst
   ·rename_i vs hb
    rw [hb] at hr
    have hv:=zbh hr
    have hy:yielded ops a.tmps g=none:=by
     unfold yielded; rw [ht]; simp only [Option.bind_some]
     rw [Array.getD_eq_getD_getElem?] at hv
     cases hx:a.tmps[t]? with
     | none=>rfl
     | some x=>rw [hx] at hv; simp at hv; rw [hv]
    have hw:Region.wanted o (yielded ops a.tmps)=false:=by
     unfold Region.wanted; rw [hg]; simp only [hy]; rfl
    rw [hw]
    simp only [Option.some.injEq] at h; subst h
    simp only [Bool.false_eq_true,if_false]
    exact hf.skip o.dst
   ·cases h
theorem zAw (hcx:CxOK P cx) (hspec:∀ f s,cx.spec f=some s→Sound P cx f s) {ops:Array Oper} {K:St ty→Option α} {r:α} (hQ:∀ st a w,K st=some r→R cx e st a w→Q .normal a w):
  ∀ (l:List Oper) (off:Nat) (st:St ty) (a:Act) (w:World),(∀ j:Nat,l[j]? =ops[off+j]?)→zBV cx ops l st K=some r→R cx e st a w→wpOps P ops Q (List.range' off l.length) a w
 | [],off,st,a,w,_,h,hR=>hQ st a w h hR
 | o::l,off,st,a,w,hl,h,hR=>by
  obtain ⟨κ,hf⟩:=hR
  simp only [zBV,zzC] at h
  cases hd:zeE cx ops o st with
  | none=>rw [hd] at h; cases h
  | some d=>
   rw [hd] at h
   simp only [Option.bind_some] at h
   have h0:ops[off]? =some o:=by simpa using (hl 0).symm
   simp only [List.length_cons,List.range'_succ,wpOps_cons]
   refine wpOp_mono (fun a' w' hR'=> ?_) (zCl hcx hspec h0 hd hf)
   exact zAw hcx hspec hQ l (off+1) _ a' w' (fun j=>by have:=hl (j+1); simpa [Nat.add_assoc,Nat.add_comm 1 j] using this) h hR'
end
end
end Go.Ab
/- What an operation looks at: its operands, and the blocks that it says it reads. -/
namespace Go.Ab
noncomputable section
variable {ty:Nat→Type}
section
variable {cx:Cx ty} {st st':St ty} {o:Oper} {d:Delta ty} {α:Type}
theorem zlf (h:st'.blks=st.blks) (i:Nat):st'.blk i=st.blk i:=by unfold St.blk; rw [h]
theorem zma (h:st'.blks=st.blks) (i:Nat):zdC st' i=zdC st i:=by unfold zdC; rw [h]
theorem zIc (h:st'.blks=st.blks) (i:Nat):zkh st' i=zkh st i:=by unfold zkh; rw [zlf h]
theorem zIv (h:st'.blks=st.blks):AV.isCell st'=AV.isCell st:=by funext v; cases v <;>simp only [AV.isCell,zIc h]
theorem zzn (h:st'.blks=st.blks) (v:AV ty):v.cells st'=v.cells st:=by unfold AV.cells; simp only [zIv h]
theorem zxC (h:st'.blks=st.blks):∀ n,zS cx st' n=zS cx st n
 | 0=>rfl
 | n+1=>by funext v; cases v <;>simp only [zS,zlf h,zxC h n]
theorem zzP (h:st'.blks=st.blks) (v:AV ty):zcX cx st' v=zcX cx st v:=by cases v <;>simp only [zcX,zlf h]
theorem zxm (h:st'.blks=st.blks) (v:AV ty):zce st' v=zce st v:=by cases v <;>simp only [zce,zlf h]
theorem zBv (h:st'.blks=st.blks) (fs:List (Nat×Nat)):∀ (l:List (Nat×AV ty)) (cs:List (AV ty)),zgm cx st' fs cs l=zgm cx st fs cs l
 | [],cs=>rfl
 | (i,v)::r,cs=>by simp only [zgm,zzn h,zBv h fs r]
theorem zBD (h:st'.blks=st.blks) (e:Nat):∀ (l:List (Nat×AV ty)) (n:Nat),ziy cx st' e n l=ziy cx st e n l
 | [],n=>rfl
 | (i,v)::r,n=>by simp only [ziy,zzn h,zxC h,zBD h e r]
theorem zDY (h:st'.blks=st.blks):∀ (vs:List (AV ty)) (io:List Bool) (ts:List Nat),zhY cx st' io ts vs=zhY cx st io ts vs
 | [],io,ts=>rfl
 | v::vs,io,ts=>by simp only [zhY,zDY h vs,zlf h,zxC h]
theorem zDt (h:st'.blks=st.blks):∀ (ids:List Nat) (us:List (Option ((T:Nat)×List (ty T)))),zd0 st' ids us=zd0 st ids us
 | [],[]=>rfl
 | [],_::_=>rfl
 | _::_,[]=>rfl
 | id::ids,u::us=>by simp only [zd0,zDt h ids,zlf h]
theorem zzT (h:st'.blks=st.blks):∀ (l:List (Nat×Blk ty)),zhu st' l=zhu st l
 | []=>rfl
 | (i,b)::r=>by simp only [zhu,zma h,zzT h r]
theorem zIS (h:st'.blks=st.blks) (dst:Option Tmp) (f:Nat) (ts:List Nat) (vs:List (AV ty)) (K:Delta ty→Option α):znJ cx st' dst f ts vs K=znJ cx st dst f ts vs K:=by
 unfold znJ; simp only [zDY h,zDt h,zzT h]
theorem zIz (h:st'.blks=st.blks) (T:Nat) (x:AV ty) (lo hi:Option Int) (K:Delta ty→Option α):zkx cx T st' x lo hi K=zkx cx T st x lo hi K:=by
 unfold zkx; simp only [zxm h]
theorem zHn (h:st'.blks=st.blks) (dst:Option Tmp) (T:Nat) (s x:AV ty) (K:Delta ty→Option α):zke cx st' dst T s x K=zke cx st dst T s x K:=by
 unfold zke; simp only [zxm h,zma h,zlf h]
theorem zHl (h:st'.blks=st.blks) (dst:Option Tmp) (T T':Nat) (s x:AV ty) (K:Delta ty→Option α):zlC cx st' dst T T' s x K=zlC cx st dst T T' s x K:=by
 unfold zlC; simp only [zma h]
theorem zGw (h:st'.blks=st.blks) (dst:Option Tmp) (b:Builtin) (ts:List Nat) (vs:List (AV ty)) (K:Delta ty→Option α):zfd cx st' dst b ts vs K=zfd cx st dst b ts vs K:=by
 unfold zfd; simp only [zxm h,zHn h,zHl h,zlf h]
theorem zEM {x:Option Operand} (h:∀ y∈x.toArray,st'.ev y=st.ev y):zog st' x=zog st x:=by
 cases x with
 | none=>rfl
 | some y=>unfold zog; simp only [h y (by simp)]
theorem zFY {ps:List (Nat×Operand)} (h:∀ y∈ps.map (·.2),st'.ev y=st.ev y):(ps.map fun (i,x)=>(i,st'.ev x))=ps.map fun (i,x)=>(i,st.ev x):=by
 apply List.map_congr_left
 intro p hp
 simp only [h p.2 (List.mem_map.2 ⟨p,hp,rfl⟩)]
theorem zJ8 {ps:List (Nat×Operand)} (h:∀ y∈ps.map (·.2),st'.ev y=st.ev y):(ps.flatMap fun p=>(st'.ev p.2).ids1)=ps.flatMap fun p=>(st.ev p.2).ids1:=by
 rw [List.flatMap_def,List.flatMap_def]
 congr 1
 apply List.map_congr_left
 intro p hp
 rw [h p.2 (List.mem_map.2 ⟨p,hp,rfl⟩)]
theorem zKl (hb:st'.blks=st.blks) (hev:∀ x∈o.op.operands,st'.ev x=st.ev x):aop cx o st'=aop cx o st:=by
 unfold aop aopK
 cases ho:o.op <;>rw [ho] at hev <;>simp only [Op.operands] at hev
 case buildSlice T n ps=>simp only [zFY (ps:=ps.toList) (fun y hy=>hev y (by simpa using hy)),zBD hb,zma hb]
 case build T ps=>simp only [zFY (ps:=ps.toList) (fun y hy=>hev y (by simpa using hy)),zJ8 (ps:=ps.toList) (fun y hy=>hev y (by simpa using hy)),zBv hb]
 case slice T x lo hi mx=>
  cases mx with
  | some _=>rfl
  | none=>simp only [hev x (by simp),zEM (x:=lo) (fun y hy=>hev y (by simp at hy ⊢; simp [hy])),zEM (x:=hi) (fun y hy=>hev y (by simp at hy ⊢; simp [hy])),zIz hb]
 case makeFunc fn first caps=>
  cases fn with
  | func g=>
   have:caps.toList.map st'.ev=caps.toList.map st.ev:=List.map_congr_left fun x hx=>hev x (by simp at hx ⊢; exact .inr hx)
   simp only [this]
  | _=>rfl
 case call c=>
  obtain ⟨callee,args,ts⟩:=c
  simp only [Call.operands] at hev
  have hargs:args.toList.map st'.ev=args.toList.map st.ev:=List.map_congr_left fun x hx=>hev x (by cases callee <;>simp at hx ⊢ <;>simp [hx])
  cases callee with
  | value f=>simp only [hev f (by simp),hargs,zIS hb]
  | invoke r m=>rfl
  | builtin b=>simp only [hargs,zGw hb]
 case pick c a b=>simp only [hev c (by simp),hev a (by simp),hev b (by simp)]
 case binOp b T x y u=>simp only [hev x (by simp),hev y (by simp)]
 case store T x y=>simp only [hev x (by simp),hev y (by simp),zzn hb,zlf hb,zxC hb]
 case makeSlice T x y=>simp only [hev x (by simp),hev y (by simp),zma hb]
 case makeMap T r=>
  cases r with
  | none=>simp only [zma hb]
  | some m=>rfl
 case lookup T m k ok=>simp only [hev m (by simp),hev k (by simp),ztc,zlf hb]
 case mapUpdate T m k v=>simp only [hev m (by simp),hev k (by simp),hev v (by simp),zlv,zlf hb]
 case insert T m k v=>simp only [hev m (by simp),hev k (by simp),hev v (by simp),zlv,zlf hb]
 case indexAddr T x y=>simp only [hev x (by simp),hev y (by simp),zlf hb]
 case index T x y=>simp only [hev x (by simp),hev y (by simp)]
 case alloc T=>simp only [zma hb]
 case box T x=>simp only [hev x (by simp),zma hb,zzn hb]
 case load T x=>simp only [hev x (by simp),zzP hb]
 case nilCheck x=>simp only [hev x (by simp),zzP hb]
 case unOp u T x=>simp only [hev x (by simp)]
 case convert S D x=>simp only [hev x (by simp),zxm hb]
 case fieldAddr S x f=>simp only [hev x (by simp),zzP hb]
 case field S x f=>simp only [hev x (by simp)]
 case extract x i=>simp only [hev x (by simp)]
 case move x=>simp only [hev x (by simp)]
 case assign x=>simp only [hev x (by simp)]
theorem zzX {f g:AV ty→Option (AV ty×List Nat)} (h:∀ v v',f v=some (v',[])→g v=some (v',[])):∀ (l l':List (AV ty)),zdB f l=some (l',[])→zdB g l=some (l',[])
 | [],l',hl=>hl
 | c::cs,l',hl=>by
  simp only [zdB] at hl ⊢
  split at hl
  ·cases hl
  ·rename_i c' i hc
   split at hl
   ·cases hl
   ·rename_i cs' is hcs
    simp only [Option.some.injEq,Prod.mk.injEq,List.append_eq_nil_iff] at hl
    obtain ⟨rfl,rfl,rfl⟩:=hl
    rw [h c c' hc,zzX h cs cs' hcs]
    rfl
theorem zBy (st':St ty):∀ (n:Nat) (v v':AV ty),zS cx st n v=some (v',[])→zS cx st' n v=some (v',[])
 | 0,v,v',h=>by simp [zS] at h
 | n+1,v,v',h=>by
  cases v with
  | own id=>simp only [zS] at h; split at h <;>simp at h
  | sub id lo k=>simp only [zS] at h; split at h <;>simp at h
  | ptr id off=>simp only [zS] at h; split at h <;>(try split at h) <;>simp at h
  | eptr id ix off=>simp only [zS] at h; split at h <;>simp at h
  | agg cs=>
   simp only [zS] at h ⊢
   split at h
   ·rename_i cs' is hcs
    simp only [Option.some.injEq,Prod.mk.injEq] at h
    obtain ⟨rfl,rfl⟩:=h
    rw [zzX (zBy st' n) cs cs' hcs]
   ·cases h
  | fn f cs=>
   simp only [zS] at h ⊢
   split at h
   ·rename_i cs' is hcs
    simp only [Option.some.injEq,Prod.mk.injEq] at h
    obtain ⟨rfl,rfl⟩:=h
    rw [zzX (zBy st' n) cs cs' hcs]
   ·cases h
  | _=>exact h
theorem zA4 (st st':St ty) {v:AV ty} (h:v.cellId=[]):v.isCell st'=v.isCell st:=by
 cases v <;>simp only [AV.cellId] at h <;>first | rfl | cases h
theorem zIT (st st':St ty) {v:AV ty} (h:v.ids1=[]):v.cells st'=v.cells st:=by
 cases v with
 | agg cs=>
  simp only [AV.ids1,List.flatMap_eq_nil_iff] at h
  have:cs.all (AV.isCell st')=cs.all (AV.isCell st):=by
   rw [Bool.eq_iff_iff,List.all_eq_true,List.all_eq_true]
   exact ⟨fun hh x hx=>(zA4 st st' (h x hx)) ▸ hh x hx,fun hh x hx=>(zA4 st st' (h x hx)).symm ▸ hh x hx⟩
  simp only [AV.cells,this]
 | _=>simp only [AV.ids1] at h; simp only [AV.cells,zA4 st st' h]
theorem zBC (st st':St ty) (fs:List (Nat×Nat)):∀ (l:List (Nat×AV ty)) (cs:List (AV ty)),(∀ p∈l,p.2.ids1=[])→zgm cx st' fs cs l=zgm cx st fs cs l
 | [],cs,_=>rfl
 | (i,v)::r,cs,h=>by
  simp only [zgm,zIT st st' (h (i,v) (by simp)),fun cs=>zBC st st' fs r cs fun p hp=>h p (by simp [hp])]
theorem zzJ (st':St ty) {v:AV ty} {cs:List (AV ty)} {off:Nat} (h:zcX cx st v=some (cs,off,[])):zcX cx st' v=some (cs,off,[]):=by
 cases v with
 | ptr id o=>simp only [zcX] at h; split at h <;>simp at h
 | eptr id ix o=>simp only [zcX] at h; split at h <;>simp at h
 | _=>exact h
theorem zBG (st':St ty) {v:AV ty} {l:(T:Nat)×List (ty T)} (h:zce st v=some (l,[])):zce st' v=some (l,[]):=by
 cases v with
 | own id=>simp only [zce] at h; split at h <;>simp at h
 | sub id lo n=>simp only [zce] at h; split at h <;>simp at h
 | _=>exact h
theorem zzQ (st':St ty):∀ (vs:List (AV ty)) (io:List Bool) (ts:List Nat) (as:List (Arg ty)),zhY cx st io ts vs=some (as,[],[])→zhY cx st' io ts vs=some (as,[],[])
 | [],io,ts,as,h=>h
 | v::vs,io,ts,as,h=>by
  simp only [zhY] at h ⊢
  split at h
  ·cases h
  ·rename_i as' fz mv has
   split at h
   ·split at h
    ·split at h
     ·simp at h
     ·cases h
    ·cases h
   ·rename_i hio
    split at h
    ·cases h
    ·rename_i a ids ha
     split at h
     ·cases h
     ·rename_i a' ha'
      simp only [Option.some.injEq,Prod.mk.injEq,List.append_eq_nil_iff] at h
      obtain ⟨rfl,⟨rfl,rfl⟩,rfl⟩:=h
      rw [zzQ st' vs _ _ as' has]
      have hp:=zBy (cx:=cx) st' deep v a ha
      dsimp only
      simp only [hp,ha']; rfl
theorem zCr {ids:List Nat} {us:List (Option ((T:Nat)×List (ty T)))} (h:zd0 st ids us=some []):ids=[]∧us=[]:=by
 cases ids with
 | nil=>cases us with
  | nil=>exact ⟨rfl,rfl⟩
  | cons u us=>simp [zd0] at h
 | cons id ids=>cases us with
  | nil=>simp [zd0] at h
  | cons u us=>
   simp only [zd0] at h
   repeat' (split at h)
   all_goals simp at h
theorem zI6 (st':St ty) {dst:Option Tmp} {f:Nat} {ts:List Nat} {vs:List (AV ty)} (h:znJ cx st dst f ts vs some=some d) (hw:d.wr=[]) (hr:d.rd=[]):znJ cx st' dst f ts vs some=some d:=by
 unfold znJ at h ⊢
 split at h
 ·cases h
 ·rename_i s hs
  split at h
  ·cases h
  ·rename_i as fz mv has
   split at h
   ·cases h
   ·rename_i hd
    split at h
    ·cases h
    ·rename_i pre res hres
     cases pre with
     | false=>cases h
     | true=>
      simp only [cond_true] at h
      split at h
      ·cases h
      ·rename_i us hus
       split at h
       ·rename_i t
        split at h
        ·rename_i hal
         simp only [Option.some.injEq] at h
         subst h
         simp only [List.append_eq_nil_iff] at hw hr
         obtain ⟨rfl,hws⟩:=hw
         obtain ⟨rfl,hup⟩:=zCr hus
         subst hr
         rw [zzQ st' vs _ _ as has]
         simp only [hd,hres,cond_true,hup,zd0,hws,zhu,Bool.true_and] at hal ⊢
         rw [hal]
        ·cases h
       ·split at h
        ·rename_i hrv
         simp only [Option.some.injEq] at h
         subst h
         simp only at hw hr
         subst hw hr
         obtain ⟨rfl,hup⟩:=zCr hus
         rw [zzQ st' vs _ _ as has]
         simp only [hd,hres,cond_true,hup,zd0,hrv]
        ·cases h
theorem zdz {β:Type} {c:Bool} {x:Option β} {d:β} (h:(bif c then x else none)=some d):x=some d:=by cases c with | true=>exact h | false=>cases h
theorem zIg (st':St ty) {T:Nat} {x:AV ty} {lo hi:Option Int} (h:zkx cx T st x lo hi some=some d) (hr:d.rd=[]):zkx cx T st' x lo hi some=some d:=by
 unfold zkx at h ⊢
 split at h
 ·exact h
 ·exact h
 ·rename_i hns hns2
  split at h
  ·rename_i e sz bt z T' xs rd hti hl
   split at h
   ·cases h
   ·rename_i hb
    generalize hcnd:(decide (0≤lo.getD 0)&&decide (lo.getD 0≤hi.getD xs.length)&&decide (hi.getD xs.length≤xs.length))=cnd at h
    cases cnd with
    | false=>cases h
    | true=>
     simp only [cond_true] at h
     have hrd:rd=[]:=by
      split at h
      ·simp only [zce,Option.some.injEq,Prod.mk.injEq] at hl; exact hl.2.symm
      ·simp only [Option.some.injEq] at h; subst h; exact hr
      ·simp only [Option.some.injEq] at h; subst h; exact hr
      ·cases h
     subst hrd
     simp only [hti,zBG st' hl,hb,hcnd,cond_true]
     exact h
  ·cases h
theorem zGC (st':St ty) {dst:Option Tmp} {b:Builtin} {ts:List Nat} {vs:List (AV ty)} (h:zfd cx st dst b ts vs some=some d) (hw:d.wr=[]) (hr:d.rd=[]):zfd cx st' dst b ts vs some=some d:=by
 unfold zfd at h ⊢
 split at h
 ·split at h
  ·exact h
  ·rename_i hti
   split at h
   ·exact h
   ·split at h
    ·simp only [Option.some.injEq] at h; subst h; simp at hr
    ·cases h
   ·rename_i v h1 h2
    split at h
    ·rename_i T' l rd hl
     simp only [Option.some.injEq] at h; subst h
     simp only at hr; subst hr
     simp only [hti,zBG st' hl]
    ·cases h
  ·split at h
   ·split at h
    ·simp only [Option.some.injEq] at h; subst h; simp at hr
    ·cases h
   ·cases h
  ·cases h
 ·split at h
  ·unfold zke at h
   repeat' (split at h)
   all_goals first
    | (cases h; done)
    | (have h:=zdz h; simp only [Option.some.injEq] at h; subst h; simp at hw; done)
    | (have h:=zdz h; simp only [Option.some.injEq] at h; subst h; simp at hw; done)
  ·unfold zlC at h
   repeat' (split at h)
   all_goals first
    | (cases h; done)
    | (have h:=zdz h; simp only [Option.some.injEq] at h; subst h; simp at hw; done)
 ·exact h
 ·exact h
 ·exact h
 ·repeat' (split at h)
  all_goals first
   | (cases h; done)
   | (have h:=zdz h; simp only [Option.some.injEq] at h; subst h; simp at hw; done)
 ·cases h
theorem zDz {st st':St ty} (ht:st'.tmps=st.tmps):st'.ev=st.ev:=by
 funext x; cases x <;>simp only [St.ev,St.get,ht]
theorem zEK {st st':St ty} (ht:st'.tmps=st.tmps) (x:Option Operand):zog st' x=zog st x:=by
 cases x <;>simp only [zog,zDz ht]
theorem zHZ (st':St ty) (ht:st'.tmps=st.tmps) (h:aop cx o st=some d) (he:d.foot.empty=true):aop cx o st'=some d:=by
 have hw:d.wr=[]:=by simp [Delta.foot,Foot.empty] at he; exact he.1.1
 have hf:d.fz=[]:=by simp [Delta.foot,Foot.empty] at he; exact he.1.2
 have hr:d.rd=[]:=by simp [Delta.foot,Foot.empty] at he; exact he.2
 unfold aop aopK at h ⊢
 cases ho:o.op <;>simp only [ho] at h ⊢ <;>(try simp only [zDz ht,zEK ht]) <;>first | exact h | skip
 case convert S D x=>
  split at h
  ·exact h
  ·exact h
  ·rename_i hS hD
   split at h
   ·rename_i he' hl
    split at h
    ·rename_i hk hns
     simp only [Option.some.injEq] at h; subst h
     simp only at hr; subst hr
     simp only [hS,hD,he',zBG st' hl,hk,hns]
    ·cases h
   ·cases h
  ·cases h
 case makeFunc fn first caps=>
  cases fn <;>first | exact h | (simp only [zDz ht]; exact h)
 case alloc T=>
  repeat' (split at h)
  all_goals first
   | (cases h; done)
   | (have h:=zdz h; simp only [Option.some.injEq] at h; subst h; simp at hw; done)
 case box T x=>
  repeat' (split at h)
  all_goals first
   | (cases h; done)
   | (have h:=zdz h; simp only [Option.some.injEq] at h; subst h; simp at hw; done)
 case build T ps=>
  split at h
  ·rename_i fs sz bt z hti
   split at h
   ·rename_i cs hcs
    simp only [Option.some.injEq] at h; subst h
    simp only [List.flatMap_eq_nil_iff] at hr
    rw [zBC st st' fs _ _ (fun p hp=>by
     obtain ⟨q,hq,rfl⟩:=List.mem_map.1 hp
     exact hr q hq),hcs]
   ·cases h
  ·cases h
 case buildSlice T n ps=>
  repeat' (split at h)
  all_goals first
   | (cases h; done)
   | (simp only [Option.some.injEq] at h; subst h; simp at hw)
 case load T x=>
  split at h
  ·rename_i i cs off rd hti hc
   split at h
   ·rename_i v hv
    simp only [Option.some.injEq] at h; subst h; simp only at hr; subst hr
    simp only [hti,zzJ st' hc,hv]
   ·cases h
  ·cases h
 case store T x y=>
  repeat' (split at h)
  all_goals first
   | (cases h; done)
   | (simp only [Option.some.injEq] at h; subst h; simp at hw; done)
   | (have h:=zdz h; simp only [Option.some.injEq] at h; subst h; simp at hw; done)
 case nilCheck x=>
  split at h
  ·exact h
  ·split at h
   ·rename_i cs off rd hc
    simp only [Option.some.injEq] at h; subst h; simp only at hr; subst hr
    simp only [zzJ st' hc]
   ·cases h
 case makeMap T r=>
  cases r with
  | some m=>exact h
  | none=>
   simp only at h ⊢
   repeat' (split at h)
   all_goals first
    | (cases h; done)
    | (have h:=zdz h; simp only [Option.some.injEq] at h; subst h; simp at hw; done)
 case lookup T m k ok=>
  unfold ztc at h
  repeat' (split at h)
  all_goals first
   | (cases h; done)
   | (simp only [Option.some.injEq] at h; subst h; simp at hr; done)
 case mapUpdate T m k v=>
  unfold zlv at h
  repeat' (split at h)
  all_goals first
   | (cases h; done)
   | (simp only [Option.some.injEq] at h; subst h; simp at hw; done)
 case insert T m k v=>
  unfold zlv at h
  repeat' (split at h)
  all_goals first
   | (cases h; done)
   | (simp only [Option.some.injEq] at h; subst h; simp at hw; done)
 case makeSlice T x y=>
  repeat' (split at h)
  all_goals first
   | (cases h; done)
   | (have h:=zdz h; simp only [Option.some.injEq] at h; subst h; simp at hw; done)
 case slice T x lo hi mx=>
  cases mx with
  | some m=>exact h
  | none=>
   simp only at h ⊢
   split at h
   ·rename_i lo' hi' h1 h2
    exact zIg st' h hr
   ·cases h
 case fieldAddr S x f=>
  split at h
  ·rename_i fs sz bt z hti
   split at h
   ·rename_i p hp
    split at h
    ·rename_i i v cs off rd hi hs hc
     cases hz:Nat.beq i.size 0 with
     | true=>rw [hz] at h; cases h
     | false=>
      rw [hz] at h
      simp only [Option.some.injEq] at h; subst h; simp only at hr; subst hr
      simp only [zzJ st' hc,hs,hi,hz]
    ·cases h
   ·cases h
  ·cases h
 case indexAddr T x y=>
  split at h
  ·rename_i e sz bt z i hti hi
   split at h
   ·exact h
   all_goals first
    | (repeat' (split at h)
       all_goals first
        | (cases h; done)
        | (have h:=zdz h; simp only [Option.some.injEq] at h; subst h; simp at hr; done))
  ·cases h
 case call c=>
  obtain ⟨callee,args,ts⟩:=c
  cases callee with
  | invoke r m=>exact h
  | builtin b=>exact zGC st' h hw hr
  | value f=>
   simp only at h ⊢
   split at h
   ·exact zI6 st' h hw hr
   ·cases h
end
end
end Go.Ab
/- Operations see the blocks of their footprint alone. -/
namespace Go.Ab
noncomputable section
variable {ty:Nat→Type}
section
variable {cx:Cx ty} {st st':St ty} {o:Oper} {d:Delta ty} {S T:List Nat}
def Agr (S:List Nat) (st st':St ty):Prop:=∀ id∈S,st'.blks[id]? =st.blks[id]?
theorem Agr.blk (h:Agr S st st') {id:Nat} (hi:id∈S):st'.blk id=st.blk id:=by
 rw [St.blk_def,St.blk_def,List.getD_eq_getElem?_getD,List.getD_eq_getElem?_getD,h id hi]
theorem Agr.free (h:Agr S st st') {id:Nat} (hi:id∈S):zdC st' id=zdC st id:=by rw [zvc,zvc,h id hi]
theorem Agr.mono (h:Agr S st st') (hs:∀ id∈T,id∈S):Agr T st st':=fun id hi=>h id (hs id hi)
theorem zoC {f f':AV ty→Option (AV ty×List Nat)}:∀ (cs:List (AV ty)) {r:List (AV ty)} {ids:List Nat},(∀ c∈cs,∀ r i,f c=some (r,i)→Agr i st st'→f' c=some (r,i))→zdB f cs=some (r,ids)→Agr ids st st'→zdB f' cs=some (r,ids)
 | [],r,ids,hf,h,ha=>h
 | c::cs,r,ids,hf,h,ha=>by
  simp only [zdB] at h ⊢
  split at h
  ·cases h
  ·rename_i c' i hc
   split at h
   ·cases h
   ·rename_i cs' is hcs
    simp only [Option.some.injEq,Prod.mk.injEq] at h
    obtain ⟨rfl,rfl⟩:=h
    rw [hf c (by simp) _ _ hc (ha.mono fun id hi=>by simp [hi]),zoC cs (fun x hx=>hf x (by simp [hx])) hcs (ha.mono fun id hi=>by simp [hi])]
theorem zCc {f:AV ty→Option (AV ty×List Nat)}:∀ (cs:List (AV ty)) {r:List (AV ty)} {ids:List Nat},zdB f cs=some (r,ids)→∀ c∈cs,∃ r' i,f c=some (r',i)∧∀ id∈i,id∈ids
 | [],r,ids,h,c,hc=>by cases hc
 | x::cs,r,ids,h,c,hc=>by
  simp only [zdB] at h
  split at h
  ·cases h
  ·rename_i c' i hx
   split at h
   ·cases h
   ·rename_i cs' is hcs
    simp only [Option.some.injEq,Prod.mk.injEq] at h
    obtain ⟨rfl,rfl⟩:=h
    rcases List.mem_cons.1 hc with rfl | hc
    ·exact ⟨_,_,hx,fun id hi=>by simp [hi]⟩
    ·obtain ⟨r',i',h1,h2⟩:=zCc cs hcs c hc
     exact ⟨r',i',h1,fun id hi=>by simp [h2 id hi]⟩
theorem zwX:∀ (n:Nat) (v:AV ty) {r:AV ty} {ids:List Nat},zS cx st n v=some (r,ids)→Agr ids st st'→zS cx st' n v=some (r,ids)
 | 0,v,r,ids,h,ha=>by simp [zS] at h
 | n+1,v,r,ids,h,ha=>by
  have ih:=fun v r i (h:zS cx st n v=some (r,i)) ha=>zwX n v h ha
  cases v with
  | own id=>
   simp only [zS] at h ⊢
   split at h
   ·rename_i hb
    simp only [Option.some.injEq,Prod.mk.injEq] at h
    obtain ⟨rfl,rfl⟩:=h
    rw [ha.blk (by simp),hb]
   ·cases h
  | sub id lo k=>
   simp only [zS] at h ⊢
   split at h
   ·rename_i hb
    simp only [Option.some.injEq,Prod.mk.injEq] at h
    obtain ⟨rfl,rfl⟩:=h
    rw [ha.blk (by simp),hb]
   ·cases h
  | eptr id ix off=>
   simp only [zS] at h ⊢
   split at h
   ·rename_i hb
    simp only [Option.some.injEq,Prod.mk.injEq] at h
    obtain ⟨rfl,rfl⟩:=h
    rw [ha.blk (by simp),hb]
   ·cases h
  | ptr id off=>
   simp only [zS] at h ⊢
   split at h
   ·rename_i hb
    split at h
    ·rename_i cs' is hm
     simp only [Option.some.injEq,Prod.mk.injEq] at h
     obtain ⟨rfl,rfl⟩:=h
     rw [ha.blk (by simp),hb]
     simp only [zoC _ (fun c _ r i hc hi=>ih c r i hc hi) hm (ha.mono fun id hi=>by simp [hi])]
    ·cases h
   ·cases h
  | agg cs=>
   simp only [zS] at h ⊢
   split at h
   ·rename_i cs' is hm
    simp only [Option.some.injEq,Prod.mk.injEq] at h
    obtain ⟨rfl,rfl⟩:=h
    simp only [zoC _ (fun c _ r i hc hi=>ih c r i hc hi) hm ha]
   ·cases h
  | fn f cs=>
   simp only [zS] at h ⊢
   split at h
   ·rename_i cs' is hm
    simp only [Option.some.injEq,Prod.mk.injEq] at h
    obtain ⟨rfl,rfl⟩:=h
    simp only [zoC _ (fun c _ r i hc hi=>ih c r i hc hi) hm ha]
   ·cases h
  | _=>exact h
theorem zIs {n:Nat} {v r:AV ty} {ids:List Nat} (h:zS cx st n v=some (r,ids)) (ha:Agr ids st st'):v.isCell st'=v.isCell st:=by
 cases n with
 | zero=>simp [zS] at h
 | succ n=>
 cases v with
 | own id=>
  simp only [zS] at h
  split at h
  ·simp only [Option.some.injEq,Prod.mk.injEq] at h
   obtain ⟨rfl,rfl⟩:=h
   simp only [AV.isCell,zkh,ha.blk (id:=id) (by simp)]
  ·cases h
 | sub id lo k=>
  simp only [zS] at h
  split at h
  ·simp only [Option.some.injEq,Prod.mk.injEq] at h
   obtain ⟨rfl,rfl⟩:=h
   simp only [AV.isCell,zkh,ha.blk (id:=id) (by simp)]
  ·cases h
 | eptr id ix off=>
  simp only [zS] at h
  split at h
  ·simp only [Option.some.injEq,Prod.mk.injEq] at h
   obtain ⟨rfl,rfl⟩:=h
   simp only [AV.isCell,zkh,ha.blk (id:=id) (by simp)]
  ·cases h
 | ptr id off=>
  simp only [zS] at h
  split at h
  ·split at h
   ·simp only [Option.some.injEq,Prod.mk.injEq] at h
    obtain ⟨rfl,rfl⟩:=h
    simp only [AV.isCell,zkh,ha.blk (id:=id) (by simp)]
   ·cases h
  ·cases h
 | _=>rfl
theorem zGl {p q:AV ty→Bool}:∀ {l:List (AV ty)},(∀ x∈l,p x=q x)→l.all p=l.all q
 | [],h=>rfl
 | x::r,h=>by rw [List.all_cons,List.all_cons,h x (by simp),zGl fun y hy=>h y (by simp [hy])]
theorem zFn {v:AV ty} {c c':List (AV ty)} {n:Nat} {ids:List Nat} (h:v.cells st=some c) (hp:zdB (zS cx st n) c=some (c',ids)) (ha:Agr ids st st'):v.cells st'=some c:=by
 have key:∀ x∈c,x.isCell st'=x.isCell st:=fun x hx=>by
  obtain ⟨r',i,h1,h2⟩:=zCc c hp x hx
  exact zIs h1 (ha.mono h2)
 unfold AV.cells at h ⊢
 split at h
 ·rename_i cs
  split at h
  ·rename_i hc
   simp only [Option.some.injEq] at h; subst h
   rw [zGl key,hc]
  ·cases h
 ·split at h
  ·rename_i hc
   simp only [Option.some.injEq] at h; subst h
   rw [key v (by simp),hc]
  ·cases h
theorem zHf {v:AV ty} (ha:Agr v.cellId st st'):v.isCell st'=v.isCell st:=by
 cases v with
 | own id=>simp only [AV.isCell,zkh,ha.blk (id:=id) (by simp [AV.cellId])]
 | sub id lo k=>simp only [AV.isCell,zkh,ha.blk (id:=id) (by simp [AV.cellId])]
 | eptr id ix off=>simp only [AV.isCell,zkh,ha.blk (id:=id) (by simp [AV.cellId])]
 | ptr id off=>simp only [AV.isCell,zkh,ha.blk (id:=id) (by simp [AV.cellId])]
 | _=>rfl
theorem zBc {v:AV ty} {c:List (AV ty)} (h:v.cells st=some c) (ha:Agr (zBU c) st st'):v.cells st'=some c:=by
 have key:∀ x∈c,x.isCell st'=x.isCell st:=fun x hx=>zHf (ha.mono fun i hi=>List.mem_flatMap.2 ⟨x,hx,hi⟩)
 unfold AV.cells at h ⊢
 split at h
 ·rename_i cs
  split at h
  ·rename_i hc
   simp only [Option.some.injEq] at h; subst h
   rw [zGl key,hc]
  ·cases h
 ·split at h
  ·rename_i hc
   simp only [Option.some.injEq] at h; subst h
   rw [key v (by simp),hc]
  ·cases h
theorem zH6 {v:AV ty} {c:List (AV ty)} (h:v.cells st=some c) (ha:Agr v.ids1 st st'):v.cells st'=some c:=by
 refine zBc h (ha.mono fun i hi=> ?_)
 unfold AV.cells at h
 split at h
 ·rename_i cs
  split at h
  ·simp only [Option.some.injEq] at h; subst h; exact hi
  ·cases h
 ·rename_i hne
  split at h
  ·simp only [Option.some.injEq] at h; subst h
   simp only [zBU,List.flatMap_cons,List.flatMap_nil,List.append_nil] at hi
   cases v with
   | agg cs=>exact absurd rfl (hne cs)
   | _=>exact hi
  ·cases h
theorem zA7 {fs:List (Nat×Nat)}:∀ (ps:List (Nat×AV ty)) (cs:List (AV ty)) {r:List (AV ty)},zgm cx st fs cs ps=some r→Agr (ps.flatMap fun p=>p.2.ids1) st st'→zgm cx st' fs cs ps=some r
 | [],cs,r,h,_=>h
 | (i,v)::ps,cs,r,h,ha=>by
  unfold zgm at h ⊢
  split at h
  ·cases h
  ·rename_i off T hf
   split at h
   ·cases h
   ·rename_i inf hti
    split at h
    ·cases h
    ·rename_i c hc
     have hc':=zH6 hc (ha.mono fun i hi=>by simp [hi])
     split at h
     ·cases h
     ·rename_i hb
      split at h
      ·cases h
      ·rename_i cs' hs
       simp only [hf,hti,hc',hb,hs]
       exact zA7 ps cs' h (ha.mono fun i hi=>by simp only [List.flatMap_cons,List.mem_append]; exact .inr hi)
theorem zA1 {e:Nat}:∀ (ps:List (Nat×AV ty)) (n:Nat) {l:List (ty e)} {ids:List Nat},ziy cx st e n ps=some (l,ids)→Agr ids st st'→ziy cx st' e n ps=some (l,ids)
 | [],n,l,ids,h,ha=>h
 | (i,v)::r,n,l,ids,h,ha=>by
  simp only [ziy] at h ⊢
  split at h
  ·cases h
  ·rename_i hb
   split at h
   ·cases h
   ·rename_i c hc
    split at h
    ·cases h
    ·rename_i c' is hm
     split at h
     ·cases h
     ·rename_i x hx
      split at h
      ·cases h
      ·rename_i xs is' hr
       simp only [Option.some.injEq,Prod.mk.injEq] at h
       obtain ⟨rfl,rfl⟩:=h
       have a1:Agr is st st':=ha.mono fun id hi=>by simp [hi]
       simp only [hb,zFn hc hm a1,zoC c (fun c _ r i hc hi=>zwX deep c hc hi) hm a1,hx,zA1 r (n+1) hr (ha.mono fun id hi=>by simp [hi])]
theorem zAX {v:AV ty} {x:(T:Nat)×List (ty T)} {rd:List Nat} (h:zce st v=some (x,rd)) (ha:Agr rd st st'):zce st' v=some (x,rd):=by
 unfold zce at h ⊢
 split at h
 ·exact h
 ·split at h
  ·rename_i hb
   simp only [Option.some.injEq,Prod.mk.injEq] at h
   obtain ⟨rfl,rfl⟩:=h
   simp only [ha.blk (List.mem_singleton.2 rfl),hb]
  ·cases h
 ·split at h
  ·rename_i hb
   simp only [Option.some.injEq,Prod.mk.injEq] at h
   obtain ⟨rfl,rfl⟩:=h
   simp only [ha.blk (List.mem_singleton.2 rfl),hb]
  ·cases h
 ·cases h
theorem zDn {v:AV ty} {cs:List (AV ty)} {off:Nat} {rd:List Nat} (h:zcX cx st v=some (cs,off,rd)) (ha:Agr rd st st'):zcX cx st' v=some (cs,off,rd):=by
 cases v with
 | ptr id o=>
  simp only [zcX] at h ⊢
  split at h
  ·rename_i hb
   simp only [Option.some.injEq,Prod.mk.injEq] at h
   obtain ⟨rfl,rfl,rfl⟩:=h
   simp only [ha.blk (List.mem_singleton.2 rfl),hb]
  ·cases h
 | eptr id ix o=>
  simp only [zcX] at h ⊢
  split at h
  ·rename_i hb
   simp only [Option.some.injEq,Prod.mk.injEq] at h
   obtain ⟨rfl,rfl,rfl⟩:=h
   simp only [ha.blk (List.mem_singleton.2 rfl),hb]
  ·cases h
 | _=>exact h
theorem zIA {T:Nat} {x:AV ty} {lo hi:Option Int} (h:zkx cx T st x lo hi some=some d) (ha:Agr d.rd st st'):zkx cx T st' x lo hi some=some d:=by
 unfold zkx at h ⊢
 split at h
 ·exact h
 ·exact h
 ·rename_i hns hns2
  split at h
  ·rename_i e sz bt z T' xs rd hti hl
   split at h
   ·cases h
   ·rename_i hb
    generalize hcnd:(decide (0≤lo.getD 0)&&decide (lo.getD 0≤hi.getD xs.length)&&decide (hi.getD xs.length≤xs.length))=cnd at h
    cases cnd with
    | false=>cases h
    | true=>
     simp only [cond_true] at h
     have hrd:Agr rd st st':=by
      split at h
      ·simp only [zce,Option.some.injEq,Prod.mk.injEq] at hl; rw [← hl.2]; exact fun id hi=>by cases hi
      ·simp only [Option.some.injEq] at h; subst h; exact ha
      ·simp only [Option.some.injEq] at h; subst h; exact ha
      ·cases h
     simp only [hti,zAX hl hrd,hb,hcnd,cond_true]
     exact h
  ·cases h
def zDP (st:St ty) (e:Nat) (x:AV ty):Option (List (ty e)×List Nat):=match x with
  | .lit (.slice none 0 0)=>some ([],[]) | .lit (.slice (some _) 0 _)=>some ([],[]) | x=>match zce st x with | some (⟨T',ys⟩,rd)=>(zp0 T' e ys).map (·,rd) | none=>none
theorem zIf {e:Nat} {x:AV ty} {r:List (ty e)×List Nat} (h:zDP st e x=some r) (ha:Agr r.2 st st'):zDP st' e x=some r:=by
 unfold zDP at h ⊢
 split at h
 ·exact h
 ·exact h
 ·cases hl:zce st x with
  | none=>rw [hl] at h; cases h
  | some q=>
   obtain ⟨⟨T',ys⟩,rd⟩:=q
   rw [hl] at h
   simp only at h
   have:rd=r.2:=by
    cases hc:zp0 T' e ys with
    | none=>rw [hc] at h; cases h
    | some q=>rw [hc] at h; simp only [Option.map_some,Option.some.injEq] at h; rw [← h]
   rw [zAX hl (this ▸ ha)]
   exact h
theorem zHz {R:Type} {dst:Option Tmp} {T:Nat} {s x:AV ty} {K:Delta ty→Option R}:zke cx st dst T s x K=
 (match cx.ti T,dst with
 | some ⟨.slice e,_,_,_⟩,some d=>match cx.ti e with
  | none=>none
  | some inf=>match Nat.beq inf.size 0||Nat.beq inf.bytes 0 with
   | true=>none
   | false=>
       match zDP st e x with
    | none=>none
    | some (ys,rd)=>
     match s with
     | .lit (.slice none 0 0)=>
      bif zdC st (zC d)&&decide (ys.length*inf.bytes≤reach) then K { val:=.own (zC d),wr:=[(zC d,.arr e ys false)],rd:=rd } else none
     | .own id=>match st.blk id, !rd.contains id&&zdC st (zC d) with
      | .arr T' l false,true=>match zp0 T' e l with
       | none=>none
       | some l=>bif decide ((l.length+ys.length)*inf.bytes≤reach) then K { val:=.own (zC d),wr:=[(id,.dead),(zC d,.arr e (l++ys) false)],rd:=rd } else none
      | _,_=>none
     | _=>none
 | _,_=>none):=rfl
theorem zHh {dst:Option Tmp} {T:Nat} {s x:AV ty} (h:zke cx st dst T s x some=some d) (ha:Agr (d.wr.map (·.1)++d.rd) st st'):zke cx st' dst T s x some=some d:=by
 rw [zHz] at h ⊢
 split at h
 ·rename_i e sz bt z d0 hti
  try simp only [hti]
  split at h
  ·cases h
  ·rename_i inf hi
   try simp only [hi]
   cases hn:(Nat.beq inf.size 0||Nat.beq inf.bytes 0) with
   | true=>rw [hn] at h; cases h
   | false=>
    rw [hn] at h
    simp only at h ⊢
    split at h
    ·cases h
    ·rename_i ys rd hx
     have hrd:Agr rd st st':=ha.mono fun id hid=>by
      refine List.mem_append_right _ ?_
      split at h
      ·have h:=zdz h; simp only [Option.some.injEq] at h; subst h; exact hid
      ·split at h
       ·split at h
        ·cases h
        ·have h:=zdz h; simp only [Option.some.injEq] at h; subst h; exact hid
       ·cases h
      ·cases h
     have hx':=zIf hx hrd
     rw [hx']
     simp only
     split at h
     ·have hfr:zdC st' (zC d0)=zdC st (zC d0):=ha.free (by
       have h:=zdz h; simp only [Option.some.injEq] at h; subst h; simp)
      rw [hfr]; exact h
     ·rename_i id
      split at h
      ·rename_i T' l hb hc
       split at h
       ·cases h
       ·rename_i l' hcast
        have hd:=zdz h
        simp only [Option.some.injEq] at hd
        have m1:id∈d.wr.map (·.1)++d.rd:=by rw [← hd]; simp
        have m2:zC d0∈d.wr.map (·.1)++d.rd:=by rw [← hd]; simp
        simp only [ha.blk m1,ha.free m2,hb,hc,hcast]
        exact h
      ·cases h
     ·cases h
 ·cases h
theorem zzt:∀ (vs:List (AV ty)) (io:List Bool) (ts:List Nat) {as:List (Arg ty)} {fz mv:List Nat},zhY cx st io ts vs=some (as,fz,mv)→Agr (fz++mv) st st'→zhY cx st' io ts vs=some (as,fz,mv)
 | [],io,ts,as,fz,mv,h,ha=>by simpa [zhY] using h
 | v::vs,io,ts,as,fz,mv,h,ha=>by
  simp only [zhY] at h ⊢
  split at h
  ·cases h
  ·rename_i as' fz' mv' hr
   split at h
   ·rename_i hio
    split at h
    ·rename_i id
     split at h
     ·rename_i hb
      simp only [Option.some.injEq,Prod.mk.injEq] at h
      obtain ⟨rfl,rfl,rfl⟩:=h
      simp only [zzt vs io.tail ts.tail hr (ha.mono fun id hi=>by simp at hi ⊢; rcases hi with hi | hi <;>simp [hi]),hio,ha.blk (id:=id) (by simp),hb]
     ·cases h
    ·cases h
   ·rename_i hio
    split at h
    ·cases h
    ·rename_i a ids hp
     split at h
     ·cases h
     ·rename_i a' hc
      simp only [Option.some.injEq,Prod.mk.injEq] at h
      obtain ⟨rfl,rfl,rfl⟩:=h
      have e:=zzt vs io.tail ts.tail hr (ha.mono fun id hi=>by simp at hi ⊢; rcases hi with hi | hi <;>simp [hi])
      have e2:=zwX deep v hp (ha.mono fun id hi=>by simp [hi])
      rw [e]
      simp only [e2,hc]
theorem zzH:∀ (mv:List Nat) (us:List (Option ((T:Nat)×List (ty T)))) {w:List (Nat×Blk ty)},zd0 st mv us=some w→Agr mv st st'→zd0 st' mv us=some w∧w.map (·.1)=mv
 | [],[],w,h,ha=>by simp only [zd0,Option.some.injEq] at h ⊢; subst h; exact ⟨rfl,rfl⟩
 | [],_::_,w,h,ha=>by simp [zd0] at h
 | _::_,[],w,h,ha=>by simp [zd0] at h
 | id::ids,u::us,w,h,ha=>by
  simp only [zd0] at h ⊢
  split at h
  ·cases h
  ·rename_i r hr
   obtain ⟨e1,e2⟩:=zzH ids us hr (ha.mono fun id hi=>by simp [hi])
   rw [e1]
   split at h
   ·simp only [Option.some.injEq] at h; subst h
    exact ⟨rfl,by simp [e2]⟩
   ·rename_i T l
    simp only
    rw [ha.blk (by simp)]
    split at h
    ·rename_i T' l' f hb
     try rw [hb]
     split at h
     ·rename_i hbq
      simp only [Option.some.injEq] at h; subst h
      exact ⟨by first | rfl | rw [hbq],by simp [e2]⟩
     ·cases h
    ·cases h
theorem zvk:∀ {w:List (Nat×Blk ty)},Agr (w.map (·.1)) st st'→zhu st' w=zhu st w
 | [],_=>rfl
 | (i,b)::r,ha=>by
  simp only [zhu]
  rw [ha.free (by simp),zvk (w:=r) (ha.mono fun id hi=>by simp at hi ⊢; simp [hi])]
theorem zI9 {dst:Option Tmp} {f:Nat} {ts:List Nat} {vs:List (AV ty)} (h:znJ cx st dst f ts vs some=some d) (ha:Agr (d.wr.map (·.1)++d.rd) st st'):znJ cx st' dst f ts vs some=some d:=by
 unfold znJ at h ⊢
 split at h
 ·cases h
 ·rename_i s hs
  try simp only [hs]
  split at h
  ·cases h
  ·rename_i as fz mv hal
   split at h
   ·cases h
   ·rename_i hnd
    cases hsa:s as with
    | none=>rw [hsa] at h; cases h
    | some pr=>
     obtain ⟨pre,res⟩:=pr
     rw [hsa] at h
     simp only at h
     cases pre with
     | false=>cases h
     | true=>
      simp only [cond_true] at h
      split at h
      ·cases h
      ·rename_i us hus
       have hmv:us.map (·.1)=mv:=(zzH (st':=st) mv res.upd hus fun _ _=>rfl).2
       have hfz:d.rd=fz∧∀ id∈mv,id∈d.wr.map (·.1):=by
        split at h
        ·split at h
         ·simp only [Option.some.injEq] at h; subst h
          exact ⟨rfl,fun id hi=>by rw [← hmv] at hi; simp only [List.map_append,List.mem_append]; exact .inl hi⟩
         ·cases h
        ·split at h
         ·simp only [Option.some.injEq] at h; subst h
          exact ⟨rfl,fun id hi=>by rw [← hmv] at hi; exact hi⟩
         ·cases h
       have a1:Agr (fz++mv) st st':=ha.mono fun id hi=>by
        rcases List.mem_append.1 hi with hi | hi
        ·rw [← hfz.1] at hi; simp [hi]
        ·exact List.mem_append_left _ (hfz.2 id hi)
       rw [zzt _ _ _ hal a1]
       simp only [hnd,hsa,cond_true]
       rw [(zzH mv res.upd hus (a1.mono fun id hi=>by simp [hi])).1]
       simp only
       split at h
       ·rename_i d0
        split at h
        ·rename_i hfr
         try simp only
         have:zhu st' (zJ (zC d0) res.vals).2=zhu st (zJ (zC d0) res.vals).2:=zvk (ha.mono fun id hi=>by
          simp only [Option.some.injEq] at h; subst h
          simp only [List.map_append,List.mem_append]; exact .inl (.inr hi))
         rw [this,hfr]
         exact h
        ·cases h
       ·exact h
theorem zIh (ht:st'.tmps=st.tmps) (hl:lcOp o=true) (h:aop cx o st=some d) (ha:Agr (d.wr.map (·.1)++(d.fz++d.rd)) st st'):aop cx o st'=some d:=by
 have hev:=zDz ht
 unfold aop aopK at h ⊢
 unfold lcOp at hl
 cases ho:o.op <;>simp only [ho] at h hl ⊢ <;>(try simp only [hev,zEK ht]) <;>first | (cases hl; done) | skip
 case load T x=>
  split at h
  ·rename_i i cs off rd hti hc
   split at h
   ·rename_i v hv
    simp only [Option.some.injEq] at h; subst h
    simp only [hti,zDn hc (ha.mono fun id hi=>by simp [hi]),hv]
   ·cases h
  ·cases h
 case alloc T=>
  split at h
  ·rename_i i d0 hti hdst
   have hd:=zdz h
   simp only [Option.some.injEq] at hd
   simp only [hti,hdst,ha.free (id:=zC d0) (by rw [← hd]; simp)]
   exact h
  ·cases h
 case box T x=>
  split at h
  ·rename_i i d0 cs hti hdst hcl
   have hd:=zdz h
   simp only [Option.some.injEq] at hd
   have hcl':=zBc hcl (ha.mono fun i hi=>by rw [← hd]; simp [hi])
   simp only [hti,hdst,hcl',ha.free (id:=zC d0) (by rw [← hd]; simp)]
   exact h
  ·cases h
 case store T x y=>
  split at h
  ·rename_i i new hti hcl
   split at h
   ·cases h
   ·rename_i hlen
    split at h
    ·rename_i id off hx
     split at h
     ·rename_i cs hb
      split at h
      ·rename_i cs' hsp
       simp only [Option.some.injEq] at h; subst h
       have hcl':=zBc hcl (ha.mono fun i hi=>by simp [hi])
       simp only [hti,hcl',hlen,ha.blk (id:=id) (by simp),hb,hsp]
      ·cases h
     ·cases h
    ·rename_i id ix off hx
     split at h
     ·rename_i T' l new' fz hb hmp
      split at h
      ·rename_i cs' hsp hcn
       split at h
       ·rename_i x' hdec
        have hd:=zdz h
        simp only [Option.some.injEq] at hd
        have hfz:Agr fz st st':=ha.mono fun i hi=>by rw [← hd]; simp [hi]
        have hcl':=zFn hcl hmp hfz
        have hmp':=zoC (f':=zS cx st' deep) _ (fun c _ r i hc hi=>zwX deep c hc hi) hmp hfz
        simp only [hti,hcl',hlen,ha.blk (id:=id) (by rw [← hd]; simp),hb,hmp',hsp,hcn,hdec]
        exact h
       ·cases h
      ·cases h
     ·cases h
    ·cases h
  ·cases h
 case fieldAddr S x f=>
  split at h
  ·rename_i fs sz bt z hti
   split at h
   ·rename_i p hp
    split at h
    ·rename_i i v cs off rd hi hs hc
     cases hz:Nat.beq i.size 0 with
     | true=>rw [hz] at h; cases h
     | false=>
      rw [hz] at h
      simp only [Option.some.injEq] at h; subst h
      simp only [zDn hc (ha.mono fun id hi=>by simp [hi]),hs,hi,hz]
    ·cases h
   ·cases h
  ·cases h
 case indexAddr T x y=>
  split at h
  ·rename_i e sz bt z i hti hi
   split at h
   ·exact h
   ·rename_i id hx
    split at h
    ·rename_i T' l f hb
     split at h
     ·rename_i hq
      have hd:=zdz h
      simp only [Option.some.injEq] at hd
      rw [ha.blk (id:=id) (by rw [← hd]; simp),hb]
      simp only [hq]
      exact h
     ·cases h
    ·cases h
   ·rename_i id lo n hx
    split at h
    ·rename_i T' l f hb
     split at h
     ·rename_i hq
      have hd:=zdz h
      simp only [Option.some.injEq] at hd
      rw [ha.blk (id:=id) (by rw [← hd]; simp),hb]
      simp only [hq]
      exact h
     ·cases h
    ·cases h
   ·cases h
  ·cases h
 case build T ps=>
  split at h
  ·rename_i fs sz bt z hti
   split at h
   ·rename_i cs hfp
    simp only [Option.some.injEq] at h
    have hfp':=zA7 (st':=st') _ _ hfp (ha.mono fun id hi=>by
     rw [← h]
     simp only [List.mem_append]
     refine .inr (.inr ?_)
     rw [List.flatMap_map] at hi
     exact hi)
    simp only [hti,hfp']
    rw [h]
   ·cases h
  ·cases h
 case buildSlice T n ps=>
  split at h
  ·rename_i e sz bt z d0 hti hdst
   split at h
   ·rename_i l fz inf hfe hn hie
    split at h
    ·rename_i hg
     simp only [Option.some.injEq] at h
     have hfr:zdC st' (zC d0)=zdC st (zC d0):=ha.free (by rw [← h]; simp)
     have hfz:Agr fz st st':=ha.mono fun id hi=>by rw [← h]; simp [hi]
     simp only [zA1 _ _ hfe hfz,hn,hie,hfr,hg]
     rw [h]
    ·cases h
   ·cases h
  ·cases h
 case slice T x lo hi mx=>
  cases mx with
  | some m=>cases hl
  | none=>
   simp only at h ⊢
   split at h
   ·rename_i lo' hi' h1 h2
    exact zIA h (ha.mono fun id hi=>by simp [hi])
   ·cases h
 case call c=>
  obtain ⟨callee,args,ts⟩:=c
  cases callee with
  | invoke r m=>cases hl
  | builtin b=>
   simp only at h hl ⊢
   unfold zfd at h ⊢
   cases b <;>first | (cases hl; done) | skip
   case len=>
    split at h
    ·split at h
     ·exact h
     ·rename_i hti
      split at h
      ·exact h
      ·split at h
       ·rename_i hb
        simp only [Option.some.injEq] at h
        rw [ha.blk (by rw [← h]; simp)]
        simp only [hb,h]
       ·cases h
      ·rename_i v h1 h2
       split at h
       ·rename_i T' l rd hl'
        simp only [Option.some.injEq] at h
        simp only [zAX hl' (ha.mono fun id hi=>by rw [← h]; simp [hi]),h]
       ·cases h
     ·split at h
      ·split at h
       ·rename_i hb
        simp only [Option.some.injEq] at h
        rw [ha.blk (by rw [← h]; simp)]
        simp only [hb,h]
       ·cases h
      ·cases h
     ·cases h
    all_goals first | exact h | (exfalso; simp_all; done)
   case append=>
    split at h
    any_goals first | (exact h; done) | (exfalso; simp_all; done)
    split at h
    ·rename_i hq
     exact zHh h (ha.mono fun id hi=>by simp at hi ⊢; rcases hi with hi | hi <;>simp [hi])
    ·rename_i hq
     unfold zlC at h ⊢
     repeat' (split at h)
     all_goals first
      | (cases h; done)
      | (have hd:=zdz h
         simp only [Option.some.injEq] at hd
         rw [ha.free (by rw [← hd]; simp)]
         exact h)
  | value f=>
   simp only at h ⊢
   split at h
   ·exact zI9 h (ha.mono fun id hi=>by simp at hi ⊢; rcases hi with hi | hi <;>simp [hi])
   ·cases h
end
end
end Go.Ab
/- Regions whose order is drawn: one walk in the order of the text serves every order. -/
namespace Go.Ab
noncomputable section
variable {ty:Nat→Type}
section
variable {P:Program} {cx:Cx ty} {e:Env} {st st':St ty} {κ:Nat→Value} {a:Act} {w:World} {o:Oper} {d:Delta ty} {Q:Exit→Act→World→Prop} {α:Type} {ops:Array Oper}
theorem R.drew (h:R cx e st a w) (n:Nat) (hn:w.drawn≤n):R cx e st a { w with drawn:=n }:=by
 obtain ⟨κ,hf⟩:=h
 obtain ⟨hrb,hc⟩:=hf.rb.step (w':={ w with drawn:=n }) (B':=st.blk) (κ':=κ) (fun _=>False) rfl rfl rfl (Nat.le_refl _) (fun b _=>.inl rfl) (fun id _=>⟨rfl,rfl⟩)
  (fun id h=>h.elim) (fun id b h=>h.elim) (fun i j b h=>h.elim) (fun id h=>h.elim) (fun _=>hn)
 exact ⟨κ,⟨hrb,hf.defers,hf.size,fun t=>hc.rep (hf.tmps t)⟩⟩
theorem zDD {st:St ty} {t u:Nat} {v:AV ty} {b:List (Blk ty)} (h:t≠u):St.get (ty:=ty) ⟨st.tmps.set t v,b⟩ u=st.get u:=by
 unfold St.get
 simp only [zge,List.getD_eq_getElem?_getD,List.getElem?_set_ne h]
theorem ev_app {d:Delta ty} {dst:Option Tmp} {x:Operand} (h:∀ t,dst=some t→x≠.tmp t):(st.app dst d).ev x=st.ev x:=by
 cases dst with
 | none=>cases x <;>rfl
 | some t=>
  cases x with
  | tmp u=>
   show (st.app (some t) d).get u=st.get u
   rw [St.app_def]; exact zDD fun e=>h t rfl (e ▸ rfl)
  | _=>rfl
theorem zzz {st:St ty} {dst:Option Tmp} {d:Delta ty}:(st.app dst d).tmps=match dst with | some t=>st.tmps.set t d.val | none=>st.tmps:=by rw [St.app_def]; rfl
theorem zhy {d:Delta ty} (h:d.foot.eff=false) (dst:Option Tmp):(st.app dst d).blks=st.blks:=by
 simp only [Delta.foot,Foot.eff,Bool.not_eq_false',Bool.and_eq_true,List.isEmpty_iff,List.map_eq_nil_iff] at h
 rw [St.app_blks]
 simp only [h.1,h.2,zbi,zba]
theorem Foot.empty_eff {f:Foot} (h:f.empty=true):f.eff=false:=by
 simp only [Foot.empty,Bool.and_eq_true] at h
 simp [Foot.eff,h.1.1,h.1.2]
theorem zkE (hb:st'.blks=st.blks) (hev:∀ t,t∈o.looksAt ops→st'.get t=st.get t):zeE cx ops o st'=zeE cx ops o st:=by
 have hop:aop cx o st'=aop cx o st:=zKl hb fun x hx=>by
  cases x with
  | tmp t=>exact hev t (List.mem_append_left _ (List.mem_filterMap.2 ⟨.tmp t,by simpa using hx,rfl⟩))
  | _=>rfl
 unfold zeE
 cases hg:o.guard with
 | none=>exact hop
 | some gw=>
  obtain ⟨g,want⟩:=gw
  dsimp only
  cases ht:(ops[g]?).bind (·.dst) with
  | none=>rfl
  | some t=>
   dsimp only
   rw [hev t (List.mem_append_right _ (by simp [hg,ht])),hop]
theorem zF6 (st':St ty) (ht:st'.tmps=st.tmps) (h:zeE cx ops o st=some d) (he:d.foot.empty=true):zeE cx ops o st'=some d:=by
 unfold zeE at h ⊢
 cases hg:o.guard with
 | none=>rw [hg] at h; exact zHZ st' ht h he
 | some gw=>
  obtain ⟨g,want⟩:=gw
  rw [hg] at h
  dsimp only at h ⊢
  cases hd:(ops[g]?).bind (·.dst) with
  | none=>rw [hd] at h; cases h
  | some t=>
   rw [hd] at h
   dsimp only at h ⊢
   have:st'.get t=st.get t:=by unfold St.get; rw [ht]
   rw [this]
   cases hv:st.get t with
   | lit v=>
    rw [hv] at h
    cases v with
    | bool b=>
     dsimp only at h ⊢
     cases hbw:(b==want) with
     | true=>rw [hbw] at h; exact zHZ st' ht h he
     | false=>rw [hbw] at h; exact h
    | tuple vs=>exact h
    | _=>cases h
   | _=>rw [hv] at h; cases h
theorem zG8 {dst:Option Tmp} {t:Nat} (h:dst≠some t):(st.app dst d).get t=st.get t:=by
 cases dst with
 | none=>rfl
 | some u=>rw [St.app_def]; exact zDD fun e=>h (e ▸ rfl)
theorem zDp:∀ (wr:List (Nat×Blk ty)) (b:List (Blk ty)) (id:Nat),(∀ p∈wr,p.1≠id)→(gD .none (zbi b wr) id)=(gD .none b id)
 | [],b,id,h=>rfl
 | (i,x)::r,b,id,h=>by
  simp only [zbi]
  rw [zDp r _ id fun p hp=>h p (by simp [hp])]
  have hne:i≠id:=h (i,x) (by simp)
  simp only [zge,List.getD_eq_getElem?_getD,List.getElem?_set_ne hne]
theorem zCn:∀ {wr:List (Nat×Blk ty)},zhu st wr=true→∀ p∈wr,st.blk p.1=.none
 | [],_,p,hp=>by cases hp
 | (i,x)::r,h,p,hp=>by
  simp only [zhu,Bool.and_eq_true] at h
  rcases List.mem_cons.1 hp with rfl | hp
  ·have h1:=h.1
   rw [zvc] at h1
   rw [St.blk_def]
   rw [List.getD_eq_getElem?_getD]
   split at h1
   ·rename_i hb; rw [hb]; rfl
   ·cases h1
  ·exact zCn h.2 p hp
theorem zJW {dst:Option Tmp} (hn:(d.footN st).nw=true) {id:Nat} (h:st.blk id≠.none):(st.app dst d).blk id=st.blk id:=by
 simp only [Delta.footN,Bool.and_eq_true,List.isEmpty_iff] at hn
 rw [zvv]
 unfold St.blk
 simp only [hn.2,zba]
 exact zDp _ _ _ fun p hp e=>h (by rw [← e]; exact zCn hn.1 p hp)
theorem zCp {st st':St ty} (hm:∀ id,st.blk id≠.none→st'.blk id=st.blk id) {v:AV ty} {r:List (AV ty)×Nat×List Nat} (h:zcX cx st v=some r):zcX cx st' v=some r:=by
 cases v with
 | ptr id o=>
  simp only [zcX] at h ⊢
  rw [hm id fun e=>by rw [e] at h; cases h]; exact h
 | eptr id ix o=>
  simp only [zcX] at h ⊢
  rw [hm id fun e=>by rw [e] at h; cases h]; exact h
 | _=>exact h
theorem zG3 {st st':St ty} (ht:st'.tmps=st.tmps) (hm:∀ id,st.blk id≠.none→st'.blk id=st.blk id) (hr:rdOp o=true) (h:aop cx o st=some d):aop cx o st'=some d:=by
 unfold aop aopK at h ⊢
 unfold rdOp at hr
 cases ho:o.op <;>simp only [ho,Bool.false_eq_true] at h hr ⊢ <;>(try simp only [zDz ht]) <;>first | (cases hr; done) | skip
 case load T x=>
  split at h
  ·rename_i i cs off rd hti hc
   split at h
   ·rename_i v hv
    simp only [hti,zCp hm hc,hv]; exact h
   ·cases h
  ·cases h
 case fieldAddr S x f=>
  split at h
  ·rename_i fs sz bt z hti
   split at h
   ·rename_i p hp
    split at h
    ·rename_i i v cs off rd hi hs hc
     simp only [zCp hm hc,hs,hi]; exact h
    ·cases h
   ·cases h
  ·cases h
theorem zIw {st st':St ty} (ht:st'.tmps=st.tmps) (hm:∀ id,st.blk id≠.none→st'.blk id=st.blk id) (hr:rdOp o=true) (h:zeE cx ops o st=some d):zeE cx ops o st'=some d:=by
 unfold zeE at h ⊢
 cases hg:o.guard with
 | none=>rw [hg] at h; exact zG3 ht hm hr h
 | some gw=>
  obtain ⟨g,want⟩:=gw
  rw [hg] at h
  dsimp only at h ⊢
  cases hd:(ops[g]?).bind (·.dst) with
  | none=>rw [hd] at h; cases h
  | some t=>
   rw [hd] at h
   dsimp only at h ⊢
   have:st'.get t=st.get t:=by unfold St.get; rw [ht]
   rw [this]
   cases hv:st.get t with
   | lit v=>
    rw [hv] at h
    cases v with
    | bool b=>
     dsimp only at h ⊢
     cases hbw:(b==want) with
     | true=>rw [hbw] at h; exact zG3 ht hm hr h
     | false=>rw [hbw] at h; exact h
    | tuple vs=>exact h
    | _=>cases h
   | _=>rw [hv] at h; cases h
theorem ztd {st st':St ty} (hb:st'.blks=st.blks):d.footN st'=d.footN st:=by unfold Delta.footN; rw [zzT hb]
theorem zBM {st st':St ty} (h:d.foot.eff=false):d.footN st'=d.footN st:=by
 simp only [Delta.foot,Foot.eff,Bool.not_eq_false',Bool.and_eq_true,List.isEmpty_iff,List.map_eq_nil_iff] at h
 unfold Delta.footN; rw [h.1]; rfl
theorem zAz:∀ (wr:List (Nat×Blk ty)) (b:List (Blk ty)) (id:Nat),id∉wr.map (·.1)→(zbi b wr)[id]? =b[id]?
 | [],b,id,h=>rfl
 | (i,x)::r,b,id,h=>by
  simp only [zbi]
  rw [zAz r _ id fun hh=>h (by simp only [List.map_cons,List.mem_cons]; exact .inr hh),List.getElem?_set_ne fun e=>h (by simp [e])]
theorem zA0:∀ (fz:List Nat) (b:List (Blk ty)) (id:Nat),id∉fz→(zba b fz)[id]? =b[id]?
 | [],b,id,h=>rfl
 | i::r,b,id,h=>by
  simp only [zba]
  rw [zA0 r _ id fun hh=>h (by simp [hh]),List.getElem?_set_ne fun e=>h (by simp [e])]
theorem zwY {st:St ty} {dst:Option Tmp} {d:Delta ty} {id:Nat} (h1:id∉d.wr.map (·.1)) (h2:id∉d.fz):(st.app dst d).blks[id]? =st.blks[id]? :=by
 rw [St.app_blks,zAz _ _ _ h1,zA0 _ _ _ h2]
theorem zHb {b b':List (Blk ty)} {i id:Nat} {x x':Blk ty} (h:b[id]? =b'[id]?) (hx:i=id→x=x'):(b.set i x)[id]? =(b'.set i x')[id]? :=by
 rw [List.getElem?_set',List.getElem?_set',h]
 by_cases e:i=id
 ·simp only [e,if_true,hx e]
 ·simp only [e,if_false]
theorem zCh:∀ (wr:List (Nat×Blk ty)) {b b':List (Blk ty)} {id:Nat},b[id]? =b'[id]? →(zbi b wr)[id]? =(zbi b' wr)[id]?
 | [],b,b',id,h=>h
 | (i,x)::r,b,b',id,h=>zCh r (zHb h fun _=>rfl)
theorem zDX:∀ (fz:List Nat) {b b':List (Blk ty)} {id:Nat},b[id]? =b'[id]? →(zba b fz)[id]? =(zba b' fz)[id]?
 | [],b,b',id,h=>h
 | i::r,b,b',id,h=>zDX r (zHb h fun e=>by
   subst e
   rw [zge,zge,List.getD_eq_getElem?_getD,List.getD_eq_getElem?_getD,h])
theorem zEF (wr:List (Nat×Blk ty)) (fz:List Nat) {b b':List (Blk ty)} {id:Nat} (h:b[id]? =b'[id]?):(zbi (zba b fz) wr)[id]? =(zbi (zba b' fz) wr)[id]? :=zCh wr (zDX fz h)
theorem zEJ {a b:List Nat} (h:disj a b=true):∀ id∈a,id∉b:=fun id hi hb=>by
 unfold disj at h
 have:=List.all_eq_true.1 h id hi
 simp [hb] at this
theorem zII {dx dy:Delta ty} (h:dx.foot.sep dy.foot=true):(∀ id,id∈dx.wr.map (·.1)∨id∈dx.fz→id∉dy.wr.map (·.1)++(dy.fz++dy.rd))∧(∀ id,id∈dy.wr.map (·.1)∨id∈dy.fz→id∉dx.wr.map (·.1)++(dx.fz++dx.rd))∧True:=by
 unfold Foot.sep Delta.foot at h
 simp only [Bool.and_eq_true] at h
 exact ⟨fun id hi=>zEJ h.1 id (List.mem_append.2 hi),fun id hi=>zEJ h.2 id (List.mem_append.2 hi),trivial⟩
theorem zF0 {st st':St ty} (ht:st'.tmps=st.tmps) (hl:lcOp o=true) (h:zeE cx ops o st=some d) (ha:Agr (d.wr.map (·.1)++(d.fz++d.rd)) st st'):zeE cx ops o st'=some d:=by
 unfold zeE at h ⊢
 cases hg:o.guard with
 | none=>rw [hg] at h; exact zIh ht hl h ha
 | some gw=>
  obtain ⟨g,want⟩:=gw
  rw [hg] at h
  dsimp only at h ⊢
  cases hd:(ops[g]?).bind (·.dst) with
  | none=>rw [hd] at h; cases h
  | some t=>
   rw [hd] at h
   dsimp only at h ⊢
   have:st'.get t=st.get t:=by unfold St.get; rw [ht]
   rw [this]
   cases hv:st.get t with
   | lit v=>
    rw [hv] at h
    cases v with
    | bool b=>
     dsimp only at h ⊢
     cases hbw:(b==want) with
     | true=>rw [hbw] at h; exact zIh ht hl h ha
     | false=>rw [hbw] at h; exact h
    | tuple vs=>exact h
    | _=>cases h
   | _=>rw [hv] at h; cases h
theorem zHF {ox oy:Oper} {dx dy:Delta ty} (hap:ox.apart ops oy=true) (hfr:dx.foot.free dy.foot=true∨(rdOp ox=true∧dx.foot.eff=false∧(dy.footN (st.app ox.dst dx)).nw=true)∨(lcOp ox=true∧lcOp oy=true∧dx.foot.sep dy.foot=true))
  (hx:zeE cx ops ox st=some dx) (hy:zeE cx ops oy (st.app ox.dst dx)=some dy):
  zeE cx ops oy st=some dy∧zeE cx ops ox (st.app oy.dst dy)=some dx∧(st.app oy.dst dy).app ox.dst dx=(st.app ox.dst dx).app oy.dst dy∧dy.footN st=dy.footN (st.app ox.dst dx)∧dx.footN (st.app oy.dst dy)=dx.footN st:=by
 obtain ⟨h1,h2,h3⟩:=Oper.apart_spec hap
 have gx:∀ t,t∈oy.looksAt ops→(st.app ox.dst dx).get t=st.get t:=fun t ht=>zG8 fun e=>h1 t e ht
 have gy:∀ t,t∈ox.looksAt ops→(st.app oy.dst dy).get t=st.get t:=fun t ht=>zG8 fun e=>h3 t e ht
 have htm:((st.app oy.dst dy).app ox.dst dx).tmps=((st.app ox.dst dx).app oy.dst dy).tmps:=by
  rw [zzz,zzz,zzz,zzz]
  cases hdx:ox.dst with
  | none=>rfl
  | some t=>
   cases hdy:oy.dst with
   | none=>rfl
   | some u=>
    have hne:t≠u:=fun e=>h2 t hdx (e ▸ hdy)
    exact (List.set_comm _ _ hne.symm)
 have ext:∀ s s':St ty,s.tmps=s'.tmps→s.blks=s'.blks→s=s':=fun s s' h h'=>by cases s; cases s'; simp_all
 simp only [Foot.free,Bool.or_eq_true,Bool.and_eq_true,Bool.not_eq_true'] at hfr
 rcases hfr with ((⟨hnx,hny⟩ | hex) | hey) | ⟨hrd,hnx,hnw⟩ | ⟨hlx,hly,hsep⟩
 ·have hbx:=zhy (st:=st) hnx ox.dst
  have hby:=zhy (st:=st) hny oy.dst
  have y1:zeE cx ops oy st=some dy:=by rw [← zkE (st':=st.app ox.dst dx) hbx gx]; exact hy
  refine ⟨y1, ?_,ext _ _ htm ?_,(ztd hbx).symm,ztd hby⟩
  ·rw [zkE (st:=st) hby gy]; exact hx
  ·rw [zhy hnx,zhy hny,zhy hny,zhy hnx]
 ·have hnx:=Foot.empty_eff hex
  have hbx:=zhy (st:=st) hnx ox.dst
  have y1:zeE cx ops oy st=some dy:=by rw [← zkE (st':=st.app ox.dst dx) hbx gx]; exact hy
  refine ⟨y1, ?_,ext _ _ htm ?_,(ztd hbx).symm,zBM hnx⟩
  ·-- over other blocks first, then other temporaries
   have:=zF6 (st:=st) (⟨st.tmps,(st.app oy.dst dy).blks⟩:St ty) rfl hx hex
   rw [zkE (st:=(⟨st.tmps,(st.app oy.dst dy).blks⟩:St ty)) (st':=st.app oy.dst dy) rfl gy]; exact this
  ·rw [zhy hnx]
   rw [St.app_blks (st.app ox.dst dx),hbx,St.app_blks]
 ·have hny:=Foot.empty_eff hey
  have hby:=zhy (st:=st) hny oy.dst
  have y1:zeE cx ops oy st=some dy:=by
   have:=zF6 (st:=st.app ox.dst dx) (⟨(st.app ox.dst dx).tmps,st.blks⟩:St ty) rfl hy hey
   rw [← zkE (st:=st) (st':=(⟨(st.app ox.dst dx).tmps,st.blks⟩:St ty)) rfl gx]; exact this
  refine ⟨y1, ?_,ext _ _ htm ?_,zBM hny,ztd hby⟩
  ·rw [zkE (st:=st) hby gy]; exact hx
  ·rw [zhy hny]
   rw [St.app_blks (st.app oy.dst dy),hby,St.app_blks]
 ·have hbx:=zhy (st:=st) hnx ox.dst
  have y1:zeE cx ops oy st=some dy:=by rw [← zkE (st':=st.app ox.dst dx) hbx gx]; exact hy
  rw [ztd hbx] at hnw
  refine ⟨y1, ?_,ext _ _ htm ?_,(ztd hbx).symm,zBM hnx⟩
  ·have:=zIw (st:=st) (st':=(⟨st.tmps,(st.app oy.dst dy).blks⟩:St ty)) rfl (fun id hid=>zJW (dst:=oy.dst) hnw hid) hrd hx
   rw [zkE (st:=(⟨st.tmps,(st.app oy.dst dy).blks⟩:St ty)) (st':=st.app oy.dst dy) rfl gy]; exact this
  ·rw [zhy hnx]
   rw [St.app_blks (st.app ox.dst dx),hbx,St.app_blks]
 ·obtain ⟨s1,s2,s3⟩:=zII hsep
  have ax:∀ id,id∉dx.wr.map (·.1)→id∉dx.fz→(st.app ox.dst dx).blks[id]? =st.blks[id]? :=fun id h1 h2=>zwY h1 h2
  have ay:∀ id,id∉dy.wr.map (·.1)→id∉dy.fz→(st.app oy.dst dy).blks[id]? =st.blks[id]? :=fun id h1 h2=>zwY h1 h2
  have y1:zeE cx ops oy st=some dy:=by
   have:=zF0 (st:=st.app ox.dst dx) (st':=(⟨(st.app ox.dst dx).tmps,st.blks⟩:St ty)) rfl hly hy fun id hi=>(ax id (fun h=>s1 id (.inl h) hi) (fun h=>s1 id (.inr h) hi)).symm
   rw [← zkE (st:=st) (st':=(⟨(st.app ox.dst dx).tmps,st.blks⟩:St ty)) rfl gx]; exact this
  refine ⟨y1, ?_,ext _ _ htm ?_, ?_, ?_⟩
  ·have:=zF0 (st:=st) (st':=(⟨st.tmps,(st.app oy.dst dy).blks⟩:St ty)) rfl hlx hx fun id hi=>ay id (fun h=>s2 id (.inl h) hi) (fun h=>s2 id (.inr h) hi)
   rw [zkE (st:=(⟨st.tmps,(st.app oy.dst dy).blks⟩:St ty)) (st':=st.app oy.dst dy) rfl gy]; exact this
  ·apply List.ext_getElem?
   intro id
   by_cases hid:id∈dx.wr.map (·.1)∨id∈dx.fz
   ·have h1:id∉dy.wr.map (·.1):=fun h=>s1 id hid (by simp only [List.mem_append]; exact .inl h)
    have h2:id∉dy.fz:=fun h=>s1 id hid (by simp only [List.mem_append]; exact .inr (.inl h))
    rw [zwY (st:=st.app ox.dst dx) h1 h2]
    exact ((congrArg (·[id]?) (St.app_blks (st.app oy.dst dy) ox.dst dx)).trans (zEF dx.wr dx.fz (ay id h1 h2))).trans (congrArg (·[id]?) (St.app_blks st ox.dst dx)).symm
   ·have h1:id∉dx.wr.map (·.1):=fun h=>hid (.inl h)
    have h2:id∉dx.fz:=fun h=>hid (.inr h)
    rw [zwY (st:=st.app oy.dst dy) h1 h2]
    exact ((congrArg (·[id]?) (St.app_blks (st.app ox.dst dx) oy.dst dy)).trans (zEF dy.wr dy.fz (ax id h1 h2))).symm.symm.trans (congrArg (·[id]?) (St.app_blks st oy.dst dy)).symm |>.symm
  ·unfold Delta.footN
   rw [zvk (st:=st) (st':=st.app ox.dst dx) fun id hi=>ax id (fun h=>s1 id (.inl h) (List.mem_append_left _ hi)) (fun h=>s1 id (.inr h) (List.mem_append_left _ hi))]
  ·unfold Delta.footN
   rw [zvk (st:=st) (st':=st.app oy.dst dy) fun id hi=>ay id (fun h=>s2 id (.inl h) (List.mem_append_left _ hi)) (fun h=>s2 id (.inr h) (List.mem_append_left _ hi))]
def Tr (cx:Cx ty) (ops:Array Oper):List (Nat×Foot)→St ty→St ty→Prop
 | [],st,sf=>st=sf
 | (i,f)::r,st,sf=>∃ o d,ops[i]? =some o∧zeE cx ops o st=some d∧d.footN st=f∧Tr cx ops r (st.app o.dst d) sf
def May (ops:Array Oper) (x y:Nat×Foot):Prop:=∀ ox oy,ops[x.1]? =some ox→ops[y.1]? =some oy→ox.apart ops oy=true∧(x.2.free y.2=true∨(rdOp ox=true∧x.2.eff=false∧y.2.nw=true)∨(lcOp ox=true∧lcOp oy=true∧x.2.sep y.2=true))
theorem Tr.swap {x y:Nat×Foot} {r:List (Nat×Foot)} {sf:St ty} (hm:May ops x y) (h:Tr cx ops (x::y::r) st sf):Tr cx ops (y::x::r) st sf:=by
 obtain ⟨i,f⟩:=x; obtain ⟨j,g⟩:=y
 obtain ⟨ox,dx,hox,hx,hfx,oy,dy,hoy,hy,hfy,hr⟩:=h
 obtain ⟨hap,hfr⟩:=hm ox oy hox hoy
 obtain ⟨y1,x1,hs,fy,fx⟩:=zHF hap (by subst hfx hfy; exact hfr) hx hy
 exact ⟨oy,dy,hoy,y1,fy.trans hfy,ox,dx,hox,x1,fx.trans hfx,hs ▸ hr⟩
theorem Tr.front {y:Nat×Foot}:∀ {p q:List (Nat×Foot)} {st sf:St ty},(∀ x∈p,May ops x y)→Tr cx ops (p++y::q) st sf→Tr cx ops (y::(p++q)) st sf
 | [],q,st,sf,_,h=>h
 | (i,f)::p,q,st,sf,hm,h=>by
  obtain ⟨o,d,ho,hd,hf,h⟩:=h
  have:=Tr.front (fun x hx=>hm x (by simp [hx])) h
  exact Tr.swap (hm (i,f) (by simp)) ⟨o,d,ho,hd,hf,this⟩
theorem zsU:∀ (l:List Oper) (ps:List (List Nat)) (i:Nat),i<ps.length→(zoh ps l).getD i []=ps.getD i []
 | [],ps,i,h=>rfl
 | o::r,ps,i,h=>by
  simp only [zoh]
  rw [zsU r _ i (by simp; omega)]
  simp only [zge,List.getD_eq_getElem?_getD,List.getElem?_append_left h]
theorem zHw {ps qs:List (List Nat)} {o:Oper} (h:∀ e∈o.after.toList,Region.binds .any e=true→ps.getD e.on []=qs.getD e.on []):zq5 ps o=zq5 qs o:=by
 unfold zq5
 rw [List.flatMap_def,List.flatMap_def]
 congr 1
 apply List.map_congr_left
 intro e he
 cases hb:Region.binds .any e with
 | true=>simp only [cond_true,h e he hb]
 | false=>rfl
theorem zDh:∀ (l:List Oper) (ps:List (List Nat)) (n:Nat),ps.length=n→zwg n l=true→∀ (i:Nat) (o:Oper),n≤i→l[i - n]? =some o→
  (∀ e∈o.after,Region.binds .any e=true→e.on<i)∧(zoh ps l).getD i []=(zq5 (zoh ps l) o).eraseDups
 | [],ps,n,hn,hb,i,o,hi,ho=>by simp at ho
 | o'::r,ps,n,hn,hb,i,o,hi,ho=>by
  simp only [zwg,Bool.and_eq_true] at hb
  by_cases h:i=n
  ·subst h
   simp only [Nat.sub_self,List.getElem?_cons_zero,Option.some.injEq] at ho
   subst ho
   have hlt:∀ e∈o'.after,Region.binds .any e=true→e.on<i:=fun e he hbi=>by
    have:=(Array.all_eq_true_iff_forall_mem.1 hb.1) e he
    simp only [hbi,Bool.not_true,Bool.false_or] at this
    exact Nat.le_of_ble_eq_true this
   refine ⟨hlt, ?_⟩
   simp only [zoh]
   rw [zsU r _ i (by simp; omega)]
   rw [List.getD_eq_getElem?_getD, ← hn,List.getElem?_append_right (Nat.le_refl _)]
   simp only [Nat.sub_self,List.getElem?_cons_zero,Option.getD_some]
   congr 1
   apply zHw
   intro e he hbi
   have:=hlt e (by simpa using he) hbi
   rw [zsU r _ e.on (by simp; omega),List.getD_eq_getElem?_getD,List.getD_eq_getElem?_getD,List.getElem?_append_left (by omega)]
  ·have hs:i - n=(i - (n+1))+1:=by omega
   rw [hs,List.getElem?_cons_succ] at ho
   exact zDh r _ (n+1) (by simp [hn]) hb.2 i o (by omega) ho
def Down (ops:Array Oper) (ps:List (List Nat)) (listed:Array Bool):Prop:=∀ i,i<ops.size→listed.getD i false=true→∀ j∈ps.getD i [],listed.getD j false=true
theorem zGz {ps:List (List Nat)} {listed:Array Bool} {i:Nat} (hps:∀ (i:Nat) (o:Oper),ops[i]? =some o→(∀ e∈o.after,Region.binds .any e=true→e.on<i)∧ps.getD i []=(zq5 ps o).eraseDups)
  (hd:Down ops ps listed) (hr:i∈Region.ready .any ops listed):∀ j∈ps.getD i [],listed.getD j false=true:=by
 obtain ⟨_,o,ho,hall⟩:=mem_ready.1 hr
 obtain ⟨hlt,hpi⟩:=hps i o ho
 intro j hj
 rw [hpi,List.mem_eraseDups] at hj
 unfold zq5 at hj
 obtain ⟨e,he,hje⟩:=List.mem_flatMap.1 hj
 have he':e∈o.after:=by simpa using he
 cases hb:Region.binds .any e with
 | false=>rw [hb] at hje; cases hje
 | true=>
  rw [hb] at hje
  have hle:=hall e he' hb
  rcases List.mem_cons.1 hje with rfl | hj'
  ·exact hle
  ·have hs:e.on<ops.size:=Nat.lt_trans (hlt e he' hb) (Array.getElem?_eq_some_iff.1 ho).1
   exact hd e.on hs hle j hj'
theorem zEO (hcx:CxOK P cx) (hspec:∀ f s,cx.spec f=some s→Sound P cx f s) {ps:List (List Nat)}
  (hps:∀ (i:Nat) (o:Oper),ops[i]? =some o→(∀ e∈o.after,Region.binds .any e=true→e.on<i)∧ps.getD i []=(zq5 ps o).eraseDups) {sf:St ty} (hQ:∀ a w,R cx e sf a w→Q .normal a w):
  ∀ (n:Nat) (rem:List (Nat×Foot)) (listed:Array Bool) (st:St ty) (a:Act) (w:World),rem.length=n→Tr cx ops rem st sf→
   rem.Pairwise (fun x y=>x.1<y.1∧((ps.getD y.1 []).contains x.1=true∨May ops x y))→listed.size=ops.size→(∀ i,i<ops.size→(listed.getD i false=false↔i∈rem.map (·.1)))→Down ops ps listed→
   R cx e st a w→wpAny P .any ops Q n listed a w
 | 0,rem,listed,st,a,w,hn,ht,hp,hsz,hl,hd,hR=>by
  obtain rfl:rem=[]:=by simpa using hn
  obtain rfl:st=sf:=ht
  refine wpAny_done ?_ (hQ a w hR) 0
  rw [List.eq_nil_iff_forall_not_mem]
  intro i hi
  obtain ⟨h0,o,ho,_⟩:=mem_ready.1 hi
  have hlt:=(Array.getElem?_eq_some_iff.1 ho).1
  have:=(hl i hlt).1 (by simp only [Array.getD_eq_getD_getElem?] at h0 ⊢; cases hx:listed[i]? with | none=>rfl | some b=>rw [hx] at h0; exact h0)
  simp at this
 | n+1,rem,listed,st,a,w,hn,ht,hp,hsz,hl,hd,hR=>by
  refine ⟨fun h0=> ?_,fun i hi=> ?_⟩
  ·-- the first of those that are left is ready
   cases rem with
   | nil=>simp at hn
   | cons x r=>
    obtain ⟨i,f⟩:=x
    obtain ⟨o,d,ho,_,_,_⟩:=ht
    have hlt:=(Array.getElem?_eq_some_iff.1 ho).1
    have hiu:listed.getD i false=false:=(hl i hlt).2 (by simp)
    have:i∈Region.ready .any ops listed:=by
     refine mem_ready.2 ⟨?_,o,ho,fun ed he hb=> ?_⟩
     ·have hls:i<listed.size:=by omega
      simp only [Array.getD_eq_getD_getElem?,Array.getElem?_eq_getElem hls,Option.getD_some] at hiu ⊢; exact hiu
     ·have hon:=(hps i o ho).1 ed he hb
      cases hlo:listed.getD ed.on false with
      | true=>rfl
      | false=>
       have:=(hl ed.on (by omega)).1 hlo
       rcases List.mem_cons.1 this with h | h
       ·simp at h; omega
       ·obtain ⟨y,hy,hyi⟩:=List.mem_map.1 h
        have:=((List.pairwise_cons.1 hp).1 y hy).1
        simp only at this hyi; omega
    rw [h0] at this; cases this
  ·obtain ⟨h0,o,ho,hall⟩:=mem_ready.1 hi
   have hlt:=(Array.getElem?_eq_some_iff.1 ho).1
   have hls:i<listed.size:=by omega
   have hiu:listed.getD i false=false:=by
    simp only [Array.getD_eq_getD_getElem?,Array.getElem?_eq_getElem hls,Option.getD_some] at h0 ⊢; exact h0
   obtain ⟨y,hy,hyi⟩:=List.mem_map.1 ((hl i hlt).1 hiu)
   obtain ⟨p,q,rfl⟩:=List.append_of_mem hy
   obtain ⟨i',f⟩:=y
   obtain rfl:i'=i:=hyi
   have hpre:=zGz hps hd hi
   rw [List.pairwise_append] at hp
   obtain ⟨hpp,hpq,hpc⟩:=hp
   have hmay:∀ x∈p,May ops x (i',f):=fun x hx=>by
    rcases (hpc x hx (i',f) (by simp)).2 with h | h
    ·have h1:=hpre x.1 (by simpa using h)
     have hx':x.1<ops.size:=by have:=(hpc x hx (i',f) (by simp)).1; simp only at this; omega
     have:=(hl x.1 hx').2 (by simp; exact .inl ⟨x.2,hx⟩)
     rw [h1] at this; cases this
    ·exact h
   obtain ⟨o',d,ho',hst,hf,ht'⟩:=Tr.front hmay ht
   obtain rfl:o=o':=by rw [ho] at ho'; exact Option.some.inj ho'
   obtain ⟨κ,hrf⟩:=hR
   refine wpOp_mono (fun a' w' hR'=> ?_) (zCl hcx hspec ho hst hrf)
   have hpq':=List.pairwise_cons.1 hpq
   refine zEO hcx hspec hps hQ n (p++q) _ _ a' w' (by simp at hn ⊢; omega) ht' ?_ (by simp [hsz]) (fun k hk=> ?_) (fun k hk hlk j hj=> ?_) hR'
   ·rw [List.pairwise_append]
    exact ⟨hpp,hpq'.2,fun x hx y hy=>hpc x hx y (by simp [hy])⟩
   ·by_cases hki:i'=k
    ·subst hki
     have hset:(listed.setIfInBounds i' true).getD i' false=true:=by simp [Array.getD_eq_getD_getElem?,hls]
     rw [hset]
     constructor
     ·intro h; cases h
     ·intro h
      rw [List.map_append,List.mem_append] at h
      rcases h with h | h
      ·obtain ⟨y,hy,hyi⟩:=List.mem_map.1 h
       have:=(hpc y hy (i',f) (by simp)).1; simp only at this; omega
      ·obtain ⟨y,hy,hyi⟩:=List.mem_map.1 h
       have:=(hpq'.1 y hy).1; simp only at this; omega
    ·rw [getD_set_ne false hki,hl k hk]
     simp only [List.map_append,List.map_cons,List.mem_append,List.mem_cons]
     constructor
     ·rintro (h | h | h)
      ·exact .inl h
      ·exact absurd h.symm hki
      ·exact .inr h
     ·rintro (h | h)
      ·exact .inl h
      ·exact .inr (.inr h)
   ·by_cases hki:i'=k
    ·subst hki; exact getD_set_true (hpre j hj)
    ·rw [getD_set_ne false hki] at hlk
     exact getD_set_true (hd k hk hlk j hj)
theorem zCj {o:Oper} {pre:List Nat} {f:Foot}:∀ {tr:List (Nat×Oper×Foot)},zyr ops o pre f tr=true→∀ x∈tr,pre.contains x.1=true∨(x.2.1.apart ops o=true∧(x.2.2.free f=true∨(rdOp x.2.1=true∧x.2.2.eff=false∧f.nw=true)∨(lcOp x.2.1=true∧lcOp o=true∧x.2.2.sep f=true)))
 | [],h,x,hx=>by cases hx
 | (j,oj,fj)::r,h,x,hx=>by
  simp only [zyr,Bool.and_eq_true,Bool.or_eq_true,Bool.not_eq_true'] at h
  rcases List.mem_cons.1 hx with rfl | hx
  ·exact h.1
  ·exact zCj h.2 x hx
theorem zCa {ps:List (List Nat)} {K:St ty→Option α} {r:α}:∀ (l:List Oper) (i:Nat) (tr:List (Nat×Oper×Foot)) (st:St ty),(∀ j:Nat,l[j]? =ops[i+j]?)→(∀ x∈tr,ops[x.1]? =some x.2.1∧x.1<i)→
  zte cx ops ps i l tr st K=some r→∃ (rem:List (Nat×Foot)) (sf:St ty),rem.map (·.1)=List.range' i l.length∧Tr cx ops rem st sf∧K sf=some r∧
   rem.Pairwise (fun x y=>x.1<y.1∧((ps.getD y.1 []).contains x.1=true∨May ops x y))∧
   ∀ x∈tr,∀ y∈rem,(ps.getD y.1 []).contains x.1=true∨May ops (x.1,x.2.2) y
 | [],i,tr,st,hl,htr,h=>⟨[],st,rfl,rfl,h,List.Pairwise.nil,fun _ _ _ hy=>by cases hy⟩
 | o::l,i,tr,st,hl,htr,h=>by
  have h0:ops[i]? =some o:=by simpa using (hl 0).symm
  simp only [zte,zzC] at h
  cases hd:zeE cx ops o st with
  | none=>rw [hd] at h; cases h
  | some d=>
   rw [hd] at h
   simp only [Option.bind_some] at h
   split at h
   ·rename_i hok
    obtain ⟨rem,sf,hm,ht,hK,hp,hc⟩:=zCa l (i+1) ((i,o,d.footN st)::tr) _ (fun j=>by have:=hl (j+1); simpa [Nat.add_assoc,Nat.add_comm 1 j] using this)
     (fun x hx=>by
      rcases List.mem_cons.1 hx with rfl | hx
      ·exact ⟨h0,by simp⟩
      ·exact ⟨(htr x hx).1,by have:=(htr x hx).2; omega⟩) h
    have hge:∀ y∈rem,i<y.1:=fun y hy=>by
     have:y.1∈rem.map (·.1):=List.mem_map.2 ⟨y,hy,rfl⟩
     rw [hm,List.mem_range'] at this
     obtain ⟨k,_,hk⟩:=this; omega
    refine ⟨(i,d.footN st)::rem,sf, ?_,⟨o,d,h0,hd,rfl,ht⟩,hK, ?_,fun x hx y hy=> ?_⟩
    ·simp only [List.map_cons,List.length_cons,List.range'_succ,hm]
    ·rw [List.pairwise_cons]
     exact ⟨fun y hy=>⟨hge y hy,hc (i,o,d.footN st) (by simp) y hy⟩,hp⟩
    ·rcases List.mem_cons.1 hy with rfl | hy
     ·rcases zCj hok x hx with h | h
      ·exact .inl h
      ·refine .inr fun ox oy hox hoy=> ?_
       have hox':x.2.1=ox:=by rw [(htr x hx).1] at hox; exact Option.some.inj hox
       have hoy':o=oy:=by rw [h0] at hoy; exact Option.some.inj hoy
       subst hox' hoy'; exact h
     ·exact hc x (by simp [hx]) y hy
   ·cases h
theorem zBF {o:Oper} {pre:List Nat} {f:Foot} {tr:List (Nat×Oper×Foot)}:∀ {T:List (Nat×Oper×Foot)},(∀ x∈T,x.2.2.empty=true∨x∈tr)→zFd ops o pre (T.map fun x=>(x.1,x.2.1))=true→(f.empty=true∨dynW o pre f tr=true)→zyr ops o pre f T=true
 | [],_,_,_=>rfl
 | (j,oj,fj)::r,hT,hs,hf=>by
  simp only [List.map_cons,zFd,Bool.and_eq_true] at hs
  have hr:=zBF (T:=r) (fun x hx=>hT x (by simp [hx])) hs.2 hf
  simp only [zyr,Bool.and_eq_true]
  refine ⟨?_,hr⟩
  rw [Bool.or_eq_true]
  rcases Bool.or_eq_true _ _ ▸ hs.1 with h1 | h1
  ·exact .inl h1
  ·by_cases hp:pre.contains j=true
   ·exact .inl hp
   ·refine .inr ?_
    rw [Bool.and_eq_true]
    refine ⟨h1, ?_⟩
    rw [Bool.or_eq_true]
    rcases hf with hf | hf
    ·exact .inl (by simp [Foot.free,hf])
    ·rcases hT (j,oj,fj) (by simp) with he | he
     ·have he:fj.empty=true:=he
      exact .inl (by simp [Foot.free,he])
     ·have key:∀ {tr:List (Nat×Oper×Foot)},dynW o pre f tr=true→(j,oj,fj)∈tr→((fj.free f||((rdOp oj&&(!fj.eff&&f.nw))||(lcOp oj&&(lcOp o&&fj.sep f))))||pre.contains j)=true:=by
       intro tr
       induction tr with
       | nil=>intro _ h; cases h
       | cons y r ih=>
        intro h hm
        obtain ⟨k,ok,fk⟩:=y
        simp only [dynW,Bool.and_eq_true] at h
        rcases List.mem_cons.1 hm with e | hm
        ·cases e; exact h.1
        ·exact ih h.2 hm
      have:=key hf he
      rw [Bool.or_eq_true,Bool.or_eq_true] at this
      rcases this with h | h
      ·exact h
      ·exact absurd h hp
theorem zuh {ps:List (List Nat)} {K:St ty→Option α} {r:α}:∀ (l:List Oper) (i:Nat) (tr T:List (Nat×Oper×Foot)) (st:St ty),(∀ x∈T,x.2.2.empty=true∨x∈tr)→zBN ops ps i l (T.map fun x=>(x.1,x.2.1))=true→
  ztV cx ops ps i l tr st K=some r→zte cx ops ps i l T st K=some r
 | [],i,tr,T,st,_,_,h=>h
 | o::l,i,tr,T,st,hT,hs,h=>by
  simp only [zBN,Bool.and_eq_true] at hs
  simp only [ztV,zzC] at h
  simp only [zte,zzC]
  simp only [zge] at hs h
  cases hd:zeE cx ops o st with
  | none=>rw [hd] at h; cases h
  | some d=>
   rw [hd] at h
   simp only [Option.bind_some] at h ⊢
   split at h
   ·rename_i he
    rw [zBF hT hs.1 (.inl he)]
    exact zuh l (i+1) tr ((i,o,d.footN st)::T) _ (fun x hx=>by
     rcases List.mem_cons.1 hx with rfl | hx
     ·exact .inl he
     ·exact hT x hx) hs.2 h
   ·split at h
    ·rename_i hdy
     rw [zBF hT hs.1 (.inr hdy)]
     exact zuh l (i+1) ((i,o,d.footN st)::tr) ((i,o,d.footN st)::T) _ (fun x hx=>by
      rcases List.mem_cons.1 hx with rfl | hx
      ·exact .inr (by simp)
      ·rcases hT x hx with h | h
       ·exact .inl h
       ·exact .inr (by simp [h])) hs.2 h
    ·cases h
theorem zD2 (hm:P.follows .mixedOrders=true) (hcx:CxOK P cx) (hspec:∀ f s,cx.spec f=some s→Sound P cx f s) {K:St ty→Option α} {r:α} (hb:zwg 0 ops.toList=true)
  (hQ:∀ st a w,K st=some r→R cx e st a w→Q .normal a w) (h:zte cx ops (zE9 ops.toList) 0 ops.toList [] st K=some r) (hR:R cx e st a w) (id:Nat):(Code.region id ops true).wp P Q a w:=by
 obtain ⟨rem,sf,hmm,ht,hK,hp,_⟩:=zCa ops.toList 0 [] st (fun j=>by simp) (fun x hx=>by cases hx) h
 refine wp_region_any hm (zEO hcx hspec (ps:=zE9 ops.toList) (fun i o ho=> ?_) (fun a w=>hQ sf a w hK) ops.size rem _ st a _ ?_ ht hp (by simp) (fun i hi=> ?_) (fun i hi hl=> ?_) (hR.drew _ (Nat.le_succ _)))
 ·exact zDh ops.toList [] 0 rfl hb i o (Nat.zero_le _) (by simpa using ho)
 ·have:=congrArg List.length hmm; simpa using this
 ·rw [hmm]
  simp [List.mem_range',Array.getD_eq_getD_getElem?,hi]
 ·simp [Array.getD_eq_getD_getElem?,hi] at hl
end
end
end Go.Ab
/- Loop heads: the shape of what is alive, and its rows and boxes numbered anew. -/
namespace Go.Ab
noncomputable section
variable {ty:Nat→Type}
section
variable {P:Program} {cx:Cx ty} {e:Env} {st st':St ty} {κ:Nat→Value} {a:Act} {w:World} {Q:Exit→Act→World→Prop} {α:Type}
theorem zxR (l:List (AV ty)) (t u:Nat) (v:AV ty):(gD .dead (l.set t v) u)=if t=u∧t<l.length then v else (gD .dead l u):=by
 simp only [zge,List.getD_eq_getElem?_getD,List.getElem?_set]
 by_cases h:t=u
 ·subst h
  by_cases h':t<l.length <;>simp [h']
 ·simp [h]
theorem zvG (hcx:CxOK P cx) {t id:Nat}:∀ (l:List (Nat×Nat)) (k:Nat) (st st':St ty),zyd t id k l st=some st'→R cx e st a w→R cx e st' a w
 | [],k,st,st',h,hR=>by simp only [zyd,Option.some.injEq] at h; exact h ▸ hR
 | (off,T)::r,k,st,st',h,hR=>by
  simp only [zyd,zr2] at h
  split at h
  ·rename_i cs hb
   split at h
   ·rename_i hv
    split at h
    ·rename_i hfree
     refine zvG hcx r (k+1) _ st' h ?_
     obtain ⟨κ,hf⟩:=hR
     obtain ⟨hn,hlt⟩:=zim hfree
     have hne:zC t+k≠id:=fun he=>by rw [he,hb] at hn; cases hn
     obtain ⟨hrb,hc⟩:=zmp (B:=st.blks) (n:=zC t+k) (nb:=.arr T [] false) (v:=.slice none 0 0) (w':=w) hf.rb hn hlt rfl rfl rfl (Nat.le_refl _) (fun _ _=>rfl) (fun b hb=>by simp [zL] at hb)
      (fun _=>⟨[],⟨by simp,.inl ⟨rfl,rfl⟩⟩,⟨by simp [encL],fun j u c hu=>by simp at hu⟩⟩)
     have hid:gD .none (st.blks.set (zC t+k) (.arr T [] false)) id=.box cs false:=by
      rw [zT,if_neg (fun h=>hne h.1)]; exact hb
     have hbk:=hrb.blk id
     simp only [hid] at hbk
     obtain ⟨b,cur,ty',hκ,hg,hall⟩:=hbk
     obtain ⟨hrb2,hc2⟩:=ztf (B:=st.blks.set (zC t+k) (.arr T [] false)) (n:=id) (nb:=.box (cs.set off (.own (zC t+k))) false) (w':=w) hrb (by rw [hid]; rfl) (by rw [hid]; rfl) rfl rfl rfl rfl (fun _ _=>.inl rfl)
      (fun hc3=>⟨b,cur,ty',hκ,hg,⟨by simpa using hall.len,fun j u c hu hcj=>by
       rw [List.getElem?_set] at hcj
       split at hcj
       ·rename_i hj
        subst hj
        split at hcj
        ·rename_i hlt2
         simp only [Option.some.injEq] at hcj; subst hcj
         have hvo:cs[off]? =some (.lit (.slice none 0 0)):=by
          rw [zge,List.getD_eq_getElem?_getD] at hv
          rw [List.getElem?_eq_getElem (by simpa using hlt2)] at hv ⊢
          simpa using hv
         have hun:=zbh (hall.at_ off u _ hu hvo)
         subst hun
         have:=RepA.own (cx:=cx) (F:=Fz e (fun j=>gD .none ((st.blks.set (zC t+k) (.arr T [] false)).set id (.box (cs.set off (.own (zC t+k))) false)) j) (fun i=>if i=zC t+k then .slice none 0 0 else κ i) w) (w:=w)
          (kd:=fun i=>(gD .none ((st.blks.set (zC t+k) (.arr T [] false)).set id (.box (cs.set off (.own (zC t+k))) false)) i).kind cx) (κ:=fun i=>if i=zC t+k then .slice none 0 0 else κ i) (zC t+k) (szOf cx T) 0 (by
           rw [zT,if_neg (fun h=>hne h.1.symm),zT,if_pos ⟨rfl,hlt⟩]; rfl)
         simpa only [if_pos] using this
        ·cases hcj
       ·exact hc3.rep (hall.at_ j u c hu hcj)⟩⟩)
     exact ⟨_,⟨hrb2,hf.defers,hf.size,fun u=>hc2.rep (hc.rep (hf.tmps u))⟩⟩
    ·cases h
   ·split at h
    ·split at h
     ·exact zvG hcx r (k+1) _ st' h hR
     ·cases h
    ·cases h
   ·cases h
  ·cases h
theorem zFT (hcx:CxOK P cx) {t:Nat} {m:LMode} (h:zwp cx st t m=some st') (hR:R cx e st a w):R cx e st' a w:=by
 obtain ⟨κ,hf⟩:=hR
 cases m with
 | keep=>simp only [zwp,Option.some.injEq] at h; subst h; exact ⟨κ,hf⟩
 | pure=>
  simp only [zwp,zr2,ztU] at h
  split at h
  ·rename_i v ids hp
   simp only [Option.some.injEq] at h; subst h
   obtain ⟨hrb,hc⟩:=zor hf.rb ids
   refine ⟨κ,⟨hrb,hf.defers,by simp [hf.size],fun u=> ?_⟩⟩
   show RepA cx (Fz e (FzB st ids) κ w) w (fun i=>(FzB st ids i).kind cx) κ _ _
   have hget:(⟨st.tmps.set t v,zba st.blks ids⟩:St ty).get u=if t=u∧t<st.tmps.length then v else st.get u:=zxR ..
   rw [hget]
   split
   ·rename_i htu
    obtain ⟨rfl,_⟩:=htu
    exact .rep (zBX hcx hf.rb (hf.tmps t) hp fun id hid=>hid)
   ·exact hc.rep (hf.tmps u)
  ·cases h
 | sl el=>
  simp only [zwp,zr2,ztU] at h
  split at h
  ·rename_i v ids hp
   split at h
   ·rename_i l hl
    simp only [Option.some.injEq] at h; subst h
    obtain ⟨hrb,hc⟩:=zor hf.rb ids
    refine ⟨κ,⟨hrb,hf.defers,by simp [hf.size],fun u=> ?_⟩⟩
    show RepA cx (Fz e (FzB st ids) κ w) w (fun i=>(FzB st ids i).kind cx) κ _ _
    have hget:(⟨st.tmps.set t (.sl el l),zba st.blks ids⟩:St ty).get u=if t=u∧t<st.tmps.length then .sl el l else st.get u:=zxR ..
    rw [hget]
    split
    ·rename_i htu
     obtain ⟨rfl,_⟩:=htu
     exact .rep (zvg (zBX hcx hf.rb (hf.tmps t) hp fun id hid=>hid) hl)
    ·exact hc.rep (hf.tmps u)
   ·cases h
  ·cases h
 | own T=>
  simp only [zwp,zr2,ztU] at h
  split at h
  ·rename_i hv
   split at h
   ·rename_i hfree
    simp only [Option.some.injEq] at h; subst h
    obtain ⟨hn,hlt⟩:=zim hfree
    have hrv:=hf.tmps t
    rw [hv] at hrv
    have hnil:=zbh hrv
    obtain ⟨hrb,hc⟩:=zmp (B:=st.blks) (n:=zC t+3) (nb:=.arr T [] false) (v:=.slice none 0 0) (w':=w) hf.rb hn hlt rfl rfl rfl (Nat.le_refl _) (fun _ _=>rfl) (fun b hb=>by simp [zL] at hb)
     (fun _=>⟨[],⟨by simp,.inl ⟨rfl,rfl⟩⟩,⟨by simp [encL],fun j u c hu=>by simp at hu⟩⟩)
    refine ⟨fun i=>if i=zC t+3 then .slice none 0 0 else κ i,⟨hrb,hf.defers,by simp [hf.size],fun u=> ?_⟩⟩
    have hget:(⟨st.tmps.set t (.own (zC t+3)),st.blks.set (zC t+3) (.arr T [] false)⟩:St ty).get u=if t=u∧t<st.tmps.length then .own (zC t+3) else st.get u:=zxR ..
    rw [hget]
    split
    ·rename_i htu
     obtain ⟨rfl,_⟩:=htu
     have:=RepA.own (cx:=cx) (F:=Fz e (St.blk ⟨st.tmps.set t (.own (zC t+3)),st.blks.set (zC t+3) (.arr T [] false)⟩) (fun i=>if i=zC t+3 then .slice none 0 0 else κ i) w) (w:=w)
      (kd:=fun i=>((gD .none (st.blks.set (zC t+3) (.arr T [] false)) i)).kind cx) (κ:=fun i=>if i=zC t+3 then .slice none 0 0 else κ i) (zC t+3) (szOf cx T) 0 (by
       rw [zT,if_pos ⟨rfl,hlt⟩]; rfl)
     simp only [if_pos] at this
     rw [hnil]; exact this
    ·exact hc.rep (hf.tmps u)
   ·cases h
  ·split at h
   ·split at h
    ·simp only [Option.some.injEq] at h; subst h; exact ⟨κ,hf⟩
    ·cases h
   ·cases h
  ·cases h
 | boxOwn l=>
  simp only [zwp] at h
  split at h
  ·exact zvG hcx l 1 st st' h ⟨κ,hf⟩
  ·cases h
theorem zyK (hcx:CxOK P cx):∀ (l:List (Nat×LMode)) (st st':St ty),zwc cx l st=some st'→R cx e st a w→R cx e st' a w
 | [],st,st',h,hR=>by simp only [zwc,Option.some.injEq] at h; exact h ▸ hR
 | (t,m)::r,st,st',h,hR=>by
  simp only [zwc] at h
  split at h
  ·rename_i s hs
   exact zyK hcx r s st' h (zFT hcx hs hR)
  ·cases h
theorem zDk:∀ (ids:List Nat) (n id j:Nat),(ids.zip (List.range' n ids.length)).lookup id=some j→∃ k,ids[k]? =some id∧j=n+k
 | [],n,id,j,h=>by simp at h
 | i::r,n,id,j,h=>by
  simp only [List.length_cons,List.range'_succ,List.zip_cons_cons,List.lookup_cons] at h
  split at h
  ·rename_i hb
   simp only [Option.some.injEq] at h
   exact ⟨0,by simpa using (beq_iff_eq.1 hb).symm,by omega⟩
  ·obtain ⟨k,hk,rfl⟩:=zDk r (n+1) id j h
   exact ⟨k+1,by simpa using hk,by omega⟩
theorem zC3:∀ {l:List Nat},zfL l=true→∀ (i j k:Nat),l[i]? =some k→l[j]? =some k→i=j
 | [],_,i,j,k,hi,_=>by simp at hi
 | x::r,h,i,j,k,hi,hj=>by
  simp only [zfL,Bool.and_eq_true,Bool.not_eq_true'] at h
  have hx:∀ m,r[m]? =some x→False:=fun m hm=>by
   have:=List.mem_of_getElem? hm
   have h1:=h.1
   rw [List.contains_iff_mem.2 this] at h1; cases h1
  cases i with
  | zero=>cases j with
   | zero=>rfl
   | succ j=>simp at hi hj; subst hi; exact (hx j hj).elim
  | succ i=>cases j with
   | zero=>simp at hi hj; subst hj; exact (hx i hi).elim
   | succ j=>simp at hi hj; rw [zC3 h.2 i j k hi hj]
def renB (st:St ty) (ren:List (Nat×Nat)) (N:Nat) (ids:List Nat):List (Blk ty):=List.replicate N .none++ids.map fun i=>zvD ren (st.blk i)
def renκ (κ:Nat→Value) (N:Nat) (ids:List Nat) (j:Nat):Value:=κ (ids.getD (j - N) 0)
theorem zGv {ren:List (Nat×Nat)} {b:Blk ty}:(zvD ren b).kind cx=b.kind cx:=by cases b <;>rfl
theorem zx7 {ren:List (Nat×Nat)} {b:Blk ty}:(zvD ren b).unfz↔b.unfz:=by cases b <;>rfl
theorem zCf {ren:List (Nat×Nat)} {b:Blk ty}:(zvD ren b).live↔b.live:=by cases b <;>rfl
theorem zsX (st:St ty) (ren:List (Nat×Nat)) (N:Nat) (ids:List Nat) (j:Nat):
  (gD .none (renB st ren N ids) j)=.none∨∃ k i,j=N+k∧ids[k]? =some i∧(gD .none (renB st ren N ids) j)=zvD ren (st.blk i):=by
 unfold renB
 rw [zge,List.getD_eq_getElem?_getD]
 rcases Nat.lt_or_ge j N with h | h
 ·left; rw [List.getElem?_append_left (by simpa using h)]; simp [List.getElem?_replicate,h]
 ·rw [List.getElem?_append_right (by simpa using h)]
  simp only [List.length_replicate,List.getElem?_map]
  cases hi:ids[j - N]? with
  | none=>left; rfl
  | some i=>exact .inr ⟨j - N,i,by omega,hi,rfl⟩
theorem zJK (st:St ty) (ren:List (Nat×Nat)) (N:Nat) {ids:List Nat} {k i:Nat} (h:ids[k]? =some i):(gD .none (renB st ren N ids) (N+k))=zvD ren (st.blk i):=by
 unfold renB
 rw [zge,List.getD_eq_getElem?_getD,List.getElem?_append_right (by simp)]
 simp [h]
theorem renκ_at (κ:Nat→Value) (N:Nat) {ids:List Nat} {k i:Nat} (h:ids[k]? =some i):renκ κ N ids (N+k)=κ i:=by
 unfold renκ; simp [zge,List.getD_eq_getElem?_getD,h]
theorem zEa {F:Nat→Prop} {N:Nat} {ids:List Nat} {w:World}:
  ∀ (n:Nat) (v:Value) (av:AV ty),RepA cx F w (fun i=>(st.blk i).kind cx) κ v av→
   RepA cx F w (fun j=>((gD .none (renB st (ids.zip (List.range' N ids.length)) N ids) j)).kind cx) (renκ κ N ids) v (ztu (ids.zip (List.range' N ids.length)) n av)
 | 0,v,av,h=>.dead v
 | n+1,v,av,h=>by
  have hid:∀ (id:Nat) (K:Nat→AV ty),(∀ k,ids[k]? =some id→RepA cx F w (fun j=>((gD .none (renB st (ids.zip (List.range' N ids.length)) N ids) j)).kind cx) (renκ κ N ids) v (K (N+k)))→
    RepA cx F w (fun j=>((gD .none (renB st (ids.zip (List.range' N ids.length)) N ids) j)).kind cx) (renκ κ N ids) v (zz3 (ids.zip (List.range' N ids.length)) id K):=by
   intro id K hK
   unfold zz3
   split
   ·rename_i j hj
    obtain ⟨k,hk,rfl⟩:=zDk ids N id j hj
    exact hK k hk
   ·exact .dead v
  have hkd:∀ (k id:Nat),ids[k]? =some id→((gD .none (renB st (ids.zip (List.range' N ids.length)) N ids) (N+k))).kind cx=(st.blk id).kind cx:=fun k id hk=>by
   rw [zJK st _ N hk,zGv]
  have hlist:∀ (us:List Value) (cs:List (AV ty)),us.length=cs.length→(∀ (j:Nat) u c,us[j]? =some u→cs[j]? =some c→RepA cx F w (fun i=>(st.blk i).kind cx) κ u c)→
    us.length=(cs.map (ztu (ids.zip (List.range' N ids.length)) n)).length∧∀ (j:Nat) u c,us[j]? =some u→(cs.map (ztu (ids.zip (List.range' N ids.length)) n))[j]? =some c→
     RepA cx F w (fun j=>((gD .none (renB st (ids.zip (List.range' N ids.length)) N ids) j)).kind cx) (renκ κ N ids) u c:=by
   intro us cs hlen hr
   refine ⟨by simp [hlen],fun j u c hu hc=> ?_⟩
   rw [List.getElem?_map] at hc
   cases hcj:cs[j]? with
   | none=>rw [hcj] at hc; cases hc
   | some c0=>rw [hcj] at hc; simp at hc; subst hc; exact zEa n u c0 (hr j u c0 hu hcj)
  cases h with
  | rep hr=>
   cases hr with
   | lit v=>exact .rep (.lit v)
   | slE a c T hn=>exact .rep (.slE a c T hn)
   | errN=>exact .rep .errN
   | errS t u=>exact .rep (.errS t u)
   | sl b off cap T l us hF hcap hlen hc hr=>exact .rep (.sl b off cap T l us hF hcap hlen hc hr)
   | fptr b off0 off T x us hF hlen hc hr=>exact .rep (.fptr b off0 off T x us hF hlen hc hr)
   | bptr b off cs us hF hlen hc hr=>exact .rep (.bptr b off cs us hF hlen hc hr)
   | agg vs cs hlen hr=>
    obtain ⟨h1,h2⟩:=hlist vs cs hlen fun j u c hu hc=>.rep (hr j u c hu hc)
    exact .agg vs _ h1 h2
   | fn f vs cs hlen hr=>
    obtain ⟨h1,h2⟩:=hlist vs cs hlen fun j u c hu hc=>.rep (hr j u c hu hc)
    exact .fn f vs _ h1 h2
  | own id k m hk=>
   refine hid id .own fun j hj=> ?_
   have:=RepA.own (cx:=cx) (F:=F) (w:=w) (kd:=fun j=>((gD .none (renB st (ids.zip (List.range' N ids.length)) N ids) j)).kind cx) (κ:=renκ κ N ids) (N+j) k m ((hkd j id hj).trans hk)
   rwa [renκ_at κ N hj] at this
  | ownD v id hk=>exact hid id .own fun j hj=>.ownD v _ ((hkd j id hj).trans hk)
  | sub v id lo m k q hk hl hv=>exact hid id (.sub · lo m) fun j hj=>.sub v _ lo m k q ((hkd j id hj).trans hk) hl (by rw [renκ_at κ N hj]; exact hv)
  | subD v id lo m hk=>exact hid id (.sub · lo m) fun j hj=>.subD v _ lo m ((hkd j id hj).trans hk)
  | ptr id off b hk hb=>exact hid id (.ptr · off) fun j hj=>.ptr _ off b ((hkd j id hj).trans hk) (by rw [renκ_at κ N hj]; exact hb)
  | ptrD v id off hk=>exact hid id (.ptr · off) fun j hj=>.ptrD v _ off ((hkd j id hj).trans hk)
  | eptr id ix off b k m q cap hk hi hb=>exact hid id (.eptr · ix off) fun j hj=>.eptr _ ix off b k m q cap ((hkd j id hj).trans hk) hi (by rw [renκ_at κ N hj]; exact hb)
  | eptrD v id ix off hk=>exact hid id (.eptr · ix off) fun j hj=>.eptrD v _ ix off ((hkd j id hj).trans hk)
  | agg vs cs hlen hr=>
   obtain ⟨h1,h2⟩:=hlist vs cs hlen hr
   exact .agg vs _ h1 h2
  | tup vs cs hlen hr=>
   obtain ⟨h1,h2⟩:=hlist vs cs hlen hr
   exact .tup vs _ h1 h2
  | fn f vs cs hlen hr=>
   obtain ⟨h1,h2⟩:=hlist vs cs hlen hr
   exact .fn f vs _ h1 h2
  | mp id hk=>
   refine hid id .mp fun j hj=> ?_
   have:=RepA.mp (cx:=cx) (F:=F) (w:=w) (kd:=fun j=>((gD .none (renB st (ids.zip (List.range' N ids.length)) N ids) j)).kind cx) (κ:=renκ κ N ids) (N+j) ((hkd j id hj).trans hk)
   rwa [renκ_at κ N hj] at this
  | mpD v id hk=>exact hid id .mp fun j hj=>.mpD v _ ((hkd j id hj).trans hk)
  | dead v=>exact .dead v
theorem zb4.mono {F F':Nat→Prop} {v:Value} {T:Nat} {l:List (ty T)} (h:zb4 cx F w v T l) (hF:∀ b,F b→F' b):zb4 cx F' w v T l:=by
 obtain ⟨xs,ho,ha⟩:=h
 exact ⟨xs,ho,ha.imp fun u c hr=>hr.mono fun b hb=>⟨hF b hb,rfl⟩⟩
theorem zKg (h:RB cx e st.blk κ w) {N:Nat} {ids:List Nat} (hd:zfL ids=true):
  RB cx e (fun j=>(gD .none (renB st (ids.zip (List.range' N ids.length)) N ids) j)) (renκ κ N ids) w∧
  ∀ b,Fz e st.blk κ w b→Fz e (fun j=>(gD .none (renB st (ids.zip (List.range' N ids.length)) N ids) j)) (renκ κ N ids) w b:=by
 have hfz:∀ b,Fz e st.blk κ w b→Fz e (fun j=>(gD .none (renB st (ids.zip (List.range' N ids.length)) N ids) j)) (renκ κ N ids) w b:=by
  intro b ⟨h1,h2,h3⟩
  refine ⟨h1,h2,fun j hj hb=> ?_⟩
  rcases zsX st (ids.zip (List.range' N ids.length)) N ids j with hn | ⟨k,i,rfl,hk,hB⟩
  ·(try simp only at hj); rw [hn] at hj; exact hj
  ·(try simp only at hj); rw [hB,zx7] at hj
   rw [renκ_at κ N hk] at hb
   exact h3 i hj hb
 refine ⟨⟨h.os,h.tape,h.output,h.drawn,h.size,h.keep,fun j=> ?_,fun i j b hi hj hbi hbj=> ?_,fun j b hj hb=> ?_,fun j b hj hb=> ?_,h.g⟩,hfz⟩
 ·rcases zsX st (ids.zip (List.range' N ids.length)) N ids j with hn | ⟨k,i,rfl,hk,hB⟩
  ·(try simp only); rw [hn]; trivial
  ·(try simp only); rw [hB,renκ_at κ N hk]
   have hb:=h.blk i
   cases hbi:st.blk i with
   | none=>trivial
   | dead=>trivial
   | box cs fz=>
    rw [hbi] at hb
    obtain ⟨b,cur,t,hκ,hh,ha⟩:=hb
    refine ⟨b,cur,t,hκ,hh,⟨by simp [ha.len],fun m u c hu hc=> ?_⟩⟩
    rw [List.getElem?_map] at hc
    cases hcm:cs[m]? with
    | none=>rw [hcm] at hc; cases hc
    | some c0=>
     rw [hcm] at hc; simp at hc; subst hc
     exact (zEa (N:=N) (ids:=ids) deep u c0 (ha.at_ m u c0 hu hcm)).mono (fun b hb=>⟨hfz b hb,rfl⟩) fun id hid=>.inl ⟨rfl,rfl⟩
   | arr T l fz=>
    rw [hbi] at hb
    exact zb4.mono hb hfz
   | mp K V l fz=>
    rw [hbi] at hb
    exact hb
 ·rcases zsX st (ids.zip (List.range' N ids.length)) N ids i with hn | ⟨k,i',rfl,hk,hB⟩
  ·(try simp only at hi); rw [hn] at hi; exact hi.elim
  ·rcases zsX st (ids.zip (List.range' N ids.length)) N ids j with hn | ⟨k',j',rfl,hk',hB'⟩
   ·(try simp only at hj); rw [hn] at hj; exact hj.elim
   ·(try simp only at hi hj)
    rw [hB,zCf] at hi; rw [hB',zx7] at hj
    rw [renκ_at κ N hk] at hbi; rw [renκ_at κ N hk'] at hbj
    have:=h.sep i' j' b hi hj hbi hbj
    subst this
    rw [zC3 hd k k' i' hk hk']
 ·rcases zsX st (ids.zip (List.range' N ids.length)) N ids j with hn | ⟨k,i,rfl,hk,hB⟩
  ·(try simp only at hj); rw [hn] at hj; exact hj.elim
  ·(try simp only at hj); rw [hB,zx7] at hj; rw [renκ_at κ N hk] at hb
   exact h.mine i b hj hb
 ·rcases zsX st (ids.zip (List.range' N ids.length)) N ids j with hn | ⟨k,i,rfl,hk,hB⟩
  ·(try simp only at hj); rw [hn] at hj; exact hj.elim
  ·(try simp only at hj); rw [hB,zCf] at hj; rw [renκ_at κ N hk] at hb
   exact h.old i b hj hb
theorem zzS:∀ (n t:Nat) (l:List (Nat×AV ty)),(zlh t n l).length=n
 | 0,t,l=>by cases l <;>rfl
 | n+1,t,[]=>by simp only [zlh,List.length_cons,zzS n]
 | n+1,t,(u,v)::r=>by simp only [zlh]; split <;>simp only [List.length_cons,zzS n]
theorem zvp:∀ (n t:Nat) (l:List (Nat×AV ty)) (j:Nat),(gD .dead (zlh t n l) j)=.dead∨∃ v,(t+j,v)∈l∧(gD .dead (zlh t n l) j)=v
 | 0,t,l,j=>by left; cases l <;>rfl
 | n+1,t,[],j=>by
  left
  simp only [zlh]
  cases j with
  | zero=>rfl
  | succ j=>
   rcases zvp n (t+1) [] j with h | ⟨v,hv,_⟩
   ·simpa using h
   ·cases hv
 | n+1,t,(u,v)::r,j=>by
  simp only [zlh]
  split
  ·rename_i htu
   have htu:=Nat.eq_of_beq_eq_true htu
   subst htu
   cases j with
   | zero=>exact .inr ⟨v,by simp,rfl⟩
   | succ j=>
    rcases zvp n (t+1) r j with h | ⟨v',hv',h⟩
    ·exact .inl (by simpa using h)
    ·exact .inr ⟨v',by rw [show t+(j+1)=t+1+j by omega]; exact List.mem_cons_of_mem _ hv',by simpa using h⟩
  ·cases j with
   | zero=>exact .inl rfl
   | succ j=>
    rcases zvp n (t+1) ((u,v)::r) j with h | ⟨v',hv',h⟩
    ·exact .inl (by simpa using h)
    ·exact .inr ⟨v',by rw [show t+(j+1)=t+1+j by omega]; exact hv',by simpa using h⟩
theorem zkB (hcx:CxOK P cx) {live:List (Nat×LMode)} {vals:List (AV ty)} {bs:List (Blk ty)} (h:zBT cx live st=some (vals,bs)) (hR:R cx e st a w):R cx e (zBR cx.nt live vals bs) a w:=by
 unfold zBT at h
 split at h
 ·cases h
 ·rename_i s hs
  split at h
  ·rename_i hok
   simp only [Option.some.injEq,Prod.mk.injEq] at h
   obtain ⟨rfl,rfl⟩:=h
   simp only [Bool.and_eq_true] at hok
   obtain ⟨κ,hf⟩:=zyK hcx live st s hs hR
   obtain ⟨hrb,hfz⟩:=zKg (N:=4*cx.nt) hf.rb hok.1.1
   refine ⟨renκ κ (4*cx.nt) (zlB s live),⟨hrb,hf.defers, ?_,fun t=> ?_⟩⟩
   ·show a.tmps.size=(zlh 0 cx.nt _).length
    rw [zzS,hf.size]; exact Nat.eq_of_beq_eq_true hok.2
   ·show RepA cx (Fz e (fun j=>(gD .none (renB s ((zlB s live).zip (List.range' (4*cx.nt) (zlB s live).length)) (4*cx.nt) (zlB s live)) j)) _ w) w _ _ _ (gD .dead (zlh 0 cx.nt _) t)
    rcases zvp cx.nt 0 ((live.map (·.1)).zip (live.map fun t=>ztu (zFi cx.nt (zlB s live)) deep (s.get t.1))) t with h | ⟨v,hv,h⟩
    ·rw [h]; exact .dead _
    ·rw [h]
     have:v=ztu (zFi cx.nt (zlB s live)) deep (s.get t):=by
      obtain ⟨k,hk⟩:=List.getElem?_of_mem hv
      rw [List.getElem?_zip_eq_some] at hk
      simp only [List.getElem?_map,Nat.zero_add] at hk
      obtain ⟨h1,h2⟩:=hk
      cases hl:live[k]? with
      | none=>rw [hl] at h1; cases h1
      | some p=>rw [hl] at h1 h2; simp at h1 h2; rw [← h2,h1]
     rw [this]
     exact (zEa (N:=4*cx.nt) (ids:=zlB s live) deep _ _ (hf.tmps t)).mono (fun b hb=>⟨hfz b hb,rfl⟩) fun id _=>.inl ⟨rfl,rfl⟩
  ·cases h
end
end
end Go.Ab
/- Code against the machine. -/
namespace Go.Ab
noncomputable section
variable {ty:Nat→Type}
section
variable {P:Program} {cx:Cx ty} {e:Env} {st st':St ty} {κ:Nat→Value} {a:Act} {w:World} {α:Type}
def Ex.to:Ex→Exit
 | .normal=>.normal
 | .exit id=>.exit id
 | .ret=>.ret
def ziJ (cx:Cx ty):Code→Prop
 | .seq a b=>ziJ cx a∧ziJ cx b∧∀ sp,cx.joins (zbd b)=some sp→∀ vals bs t,sp vals bs=some (true,t)→zIe cx b vals bs t
 | .cond _ a b=>ziJ cx a∧ziJ cx b
 | .block _ c=>ziJ cx c
 | .loop c=>ziJ cx c∧∀ sp,cx.loops (zbd c)=some sp→∀ vals bs t,sp vals bs=some (true,t)→zrw cx c vals bs t
 | _=>True
def zDc (cx:Cx ty) (e:Env) (K:Ex→St ty→Option α) (r:α) (ex:Exit) (a:Act) (w:World):Prop:=
 ∃ x st,Ex.to x=ex∧K x st=some r∧R cx e st a w
theorem zkp (hm:P.follows .mixedOrders=true) (hcx:CxOK P cx) (hspec:∀ f s,cx.spec f=some s→Sound P cx f s) {r:α}:
  ∀ (c:Code),ziJ cx c→∀ (K:Ex→St ty→Option α) (st:St ty) (a:Act) (w:World),exec cx c st K=some r→R cx e st a w→c.wp P (zDc cx e K r) a w
 | .skip,_,K,st,a,w,h,hR=>Go.wp_skip (Q:=zDc cx e K r) ⟨.normal,st,rfl,h,hR⟩
 | .label l,_,K,st,a,w,h,hR=>wp_label ⟨.normal,st,rfl,h,hR⟩
 | .region id ops draw,_,K,st,a,w,h,hR=>by
  cases draw with
  | false=>
   simp only [exec] at h
   refine wp_region ?_
   have:=zAw hcx hspec (Q:=zDc cx e K r) (fun st a w hk hR=>⟨.normal,st,rfl,hk,hR⟩) ops.toList 0 st a w (fun j=>by simp) h hR
   rw [List.range_eq_range']
   simpa using this
  | true=>
   simp only [exec] at h
   split at h
   ·rename_i hb
    simp only [Bool.and_eq_true] at hb
    exact zD2 hm hcx hspec hb.1 (fun st a w hk hR=>⟨.normal,st,rfl,hk,hR⟩) (zuh ops.toList 0 [] [] st (fun x hx=>by cases hx) hb.2.2 h) hR id
   ·cases h
 | .seq x y,hl,K,st,a,w,h,hR=>by
  simp only [exec] at h
  refine wp_seq (wp_mono (zkp hm hcx hspec x hl.1 _ st a w h hR) ?_)
  rintro ex a w ⟨x',st',rfl,hk,hR'⟩
  cases x' with
  | normal=>
   simp only at hk
   split at hk
   ·exact zkp hm hcx hspec y hl.2.1 K st' a w hk hR'
   ·rename_i sp hsp
    split at hk
    ·rename_i vals bs hcan
     split at hk
     ·rename_i pre t hspt
      cases pre with
      | false=>cases hk
      | true=>
       simp only [cond_true] at hk
       have hj:=(hl.2.2 sp hsp vals bs t hspt α (zDI cx (zbd y) K)).trans hk
       simp only [zrO] at hj
       refine wp_mono (zkp hm hcx hspec y hl.2.1 _ _ a w hj (zkB hcx hcan hR')) ?_
       rintro ex a w ⟨x'',st'',rfl,hk,hR''⟩
       cases x'' with
       | normal=>
        simp only [zzy] at hk
        split at hk <;>cases hk
       | exit id=>
        simp only [zzy] at hk
        split at hk
        ·rename_i vals' bs' hc
         exact ⟨.exit id,_,rfl,hk,zkB hcx hc hR''⟩
        ·cases hk
       | ret=>
        simp only [zzy] at hk
        split at hk
        ·rename_i vals' bs' hc
         exact ⟨.ret,_,rfl,hk,zkB hcx hc hR''⟩
        ·cases hk
     ·cases hk
    ·cases hk
  | exit id=>exact ⟨.exit id,st',rfl,hk,hR'⟩
  | ret=>exact ⟨.ret,st',rfl,hk,hR'⟩
 | .cond c x y,hl,K,st,a,w,h,hR=>by
  simp only [exec] at h
  split at h
  ·rename_i t
   split at h
   ·rename_i v hv
    have hb:a.eval (.tmp t)=.bool v:=by
     obtain ⟨κ,hf⟩:=hR
     have:=hf.tmps t
     rw [hv] at this
     exact zbh this
    cases v with
    | true=>
     simp only [cond_true] at h
     rw [zw4 hv (by simp)] at h
     exact wp_cond_true hb (zkp hm hcx hspec x hl.1 K st a w h hR)
    | false=>
     simp only [cond_false] at h
     rw [zw4 hv (by simp)] at h
     exact wp_cond_false hb (zkp hm hcx hspec y hl.2 K st a w h hR)
   ·cases h
  ·cases h
 | .block id c,hl,K,st,a,w,h,hR=>by
  simp only [exec] at h
  refine wp_block (wp_mono (zkp hm hcx hspec c hl _ st a w h hR) ?_)
  rintro ex a w ⟨x',st',rfl,hk,hR'⟩
  cases x' with
  | normal=>exact ⟨.normal,st',rfl,hk,hR'⟩
  | ret=>exact ⟨.ret,st',rfl,hk,hR'⟩
  | exit j=>
   simp only at hk
   split at hk
   ·rename_i hj
    have hj:=Nat.eq_of_beq_eq_true hj
    show Exit.inBlock id _ (.exit j) a w
    simp only [Exit.inBlock,hj,if_true]
    exact ⟨.normal,st',rfl,hk,hR'⟩
   ·rename_i hj
    show Exit.inBlock id _ (.exit j) a w
    have hne:j≠id:=fun he=>by rw [he,Nat.beq_refl] at hj; cases hj
    simp only [Exit.inBlock,hne,if_false]
    exact ⟨.exit j,st',rfl,hk,hR'⟩
 | .loop c,hl,K,st,a,w,h,hR=>by
  simp only [exec] at h
  split at h
  ·rename_i sp vals bs hsp hcan
   split at h
   ·rename_i pre t hspt
    cases pre with
    | false=>cases h
    | true=>
     simp only [cond_true] at h
     obtain ⟨n,hn⟩:=hl.2 sp hsp vals bs t hspt
     have hi:=(hn α (zDI cx (zbd c) K)).trans h
     refine wp_loop_rounds n ?_
     have hR':=zkB hcx hcan hR
     clear hcan hspt hn hR h
     -- round by round
     have key:∀ (n:Nat) (vals:List (AV ty)) (bs:List (Blk ty)) (a:Act) (w:World),zzG cx c (zDI cx (zbd c) K) n vals bs=some r→(∀ (st:St ty),st=zBR cx.nt (cx.head (zbd c)) vals bs→R cx e st a w)→Code.rounds P c (zDc cx e K r) n a w:=by
      intro n
      induction n with
      | zero=>intro vals bs a w h _; cases h
      | succ n ih=>
       intro vals bs a w h hR
       simp only [zzG,zrO] at h
       rw [rounds_succ]
       refine wp_mono (zkp hm hcx hspec c hl.1 _ _ a w h (hR _ rfl)) ?_
       rintro ex a w ⟨x',st',rfl,hk,hR'⟩
       cases x' with
       | normal=>
        simp only [zzy] at hk
        split at hk
        ·rename_i vals' bs' hc
         exact ih vals' bs' a w hk fun st hst=>hst ▸ zkB hcx hc hR'
        ·cases hk
       | exit id=>
        simp only [zzy] at hk
        split at hk
        ·rename_i vals' bs' hc
         exact ⟨.exit id,_,rfl,hk,zkB hcx hc hR'⟩
        ·cases hk
       | ret=>
        simp only [zzy] at hk
        split at hk
        ·rename_i vals' bs' hc
         exact ⟨.ret,_,rfl,hk,zkB hcx hc hR'⟩
        ·cases hk
     exact key n vals bs a w hi fun st hst=>hst ▸ hR'
   ·cases h
  ·cases h
 | .exit id,_,K,st,a,w,h,hR=>wp_exit ⟨.exit id,st,rfl,h,hR⟩
 | .ret,_,K,st,a,w,h,hR=>wp_ret ⟨.ret,st,rfl,h,hR⟩
 | .goto l,_,K,st,a,w,h,hR=>by simp only [exec] at h; cases h
 | .scope c,_,K,st,a,w,h,hR=>by simp only [exec] at h; cases h
 | .rangeFunc f ps x y,_,K,st,a,w,h,hR=>by simp only [exec] at h; cases h
 | .refuse s,_,K,st,a,w,h,hR=>by simp only [exec] at h; cases h
end
end
end Go.Ab
/- A function against its contract. -/
namespace Go.Ab
noncomputable section
variable {ty:Nat→Type}
section
variable {P:Program} {cx:Cx ty} {e:Env} {st st':St ty} {κ:Nat→Value} {a:Act} {w:World} {α:Type}
theorem zH2 (hcx:CxOK P cx) (hf:RF cx e st κ a w) {r:ResultVar} {v:AV ty} (h:zDG cx st r=some v):
  ∃ u,(match r with | .tmp t=>(pure (a.tmps.getD t undef):Sem Value) | .cell b t=>do loadVar t (← asAddr (a.tmps.getD b undef))).run P w=.ok u w∧RepS cx e st κ w u v:=by
 cases r with
 | tmp t=>
  simp only [zDG,Option.some.injEq] at h; subst h
  exact ⟨_,rfl,hf.tmps t⟩
 | cell b t=>
  simp only [zDG] at h
  split at h
  ·rename_i i cs off rd hi hc
   have hr:=hf.tmps b
   generalize hev:a.tmps.getD b undef=ve at hr
   rcases zp3 hcx hf.rb hr hc with ⟨b',o',us,rfl,hcell,ha⟩ | ⟨_,hn⟩
   ·obtain ⟨u,hrun,hu⟩:=zCs hcx hi hcell ha h (fun _ _=>zz7)
    exact ⟨u,by simp [hev,asAddr,hrun],hu⟩
   ·exact hn.elim
  ·cases h
theorem zFs {f:ResultVar→Sem Value} (hf:∀ r v,zDG cx st r=some v→∃ u,(f r).run P w=.ok u w∧RepS cx e st κ w u v):∀ (rs:List ResultVar) (avs:List (AV ty)),ztG cx st rs=some avs→
  ∃ us,(rs.mapM f).run P w=.ok us w∧All2 (RepS cx e st κ w) us avs
 | [],avs,h=>by
  simp only [ztG,Option.some.injEq] at h; subst h
  exact ⟨[],rfl,.nil⟩
 | r::rs,avs,h=>by
  simp only [ztG] at h
  split at h
  ·rename_i v vs h1 h2
   simp only [Option.some.injEq] at h; subst h
   obtain ⟨u,hu,hr⟩:=hf r v h1
   obtain ⟨us,hus,hrs⟩:=zFs hf rs vs h2
   refine ⟨u::us, ?_,.cons hr hrs⟩
   rw [List.mapM_cons]
   simp [hu,hus]
  ·cases h
theorem zGu (hcx:CxOK P cx) {fn:Func} {avs:List (AV ty)} (h:ztG cx st fn.results.toList=some avs) (hf:RF cx e st κ a w):
  ∃ us,(results fn a.tmps).run P w=.ok (zrX us) w∧All2 (RepS cx e st κ w) us avs:=by
 obtain ⟨us,hus,ha⟩:=zFs (f:=fun | .tmp t=>pure (a.tmps.getD t undef) | .cell b t=>do loadVar t (← asAddr (a.tmps.getD b undef))) (fun r v hv=>by
  obtain ⟨u,hu,hr⟩:=zH2 hcx hf hv
  refine ⟨u, ?_,hr⟩
  cases r <;>exact hu) _ _ h
 refine ⟨us, ?_,ha⟩
 unfold results
 rw [Array.mapM_eq_mapM_toList]
 simp only [Sem.run_bind,Sem.run_map]
 erw [hus]
 simp only [Result.andThen_ok,Sem.run_pure]
 cases us with
 | nil=>rfl
 | cons t r=>cases r with
  | nil=>rfl
  | cons u r=>simp [zrX]
theorem zvb:∀ (as:List (Arg ty)) (top:Nat) (vs:List Value),vs.length=as.length→
  (Arg.av top as).1.length=as.length∧(zQ vs as).length=(Arg.av top as).2.length∧
  (∀ (t:Nat) a,as[t]? =some (Arg.pure a)→(Arg.av top as).1[t]? =some a)∧
  (∀ (t T:Nat) l,as[t]? =some (Arg.own T l)→∃ k:Nat,(Arg.av top as).1[t]? =some (AV.own (top+k))∧(Arg.av top as).2[k]? =some (Blk.arr T l false)∧(zQ vs as)[k]? =vs[t]?)∧
  (∀ (k:Nat) b,(Arg.av top as).2[k]? =some b→∃ (t T:Nat) (l:List (ty T)),as[t]? =some (Arg.own T l)∧b=Blk.arr T l false∧(zQ vs as)[k]? =vs[t]?)
 | [],top,vs,h=>by
  refine ⟨rfl, ?_,fun t a h=>by simp at h,fun t T l h=>by simp at h,fun k b h=>by simp [Arg.av] at h⟩
  cases vs <;>rfl
 | .pure a::as,top,vs,h=>by
  cases vs with
  | nil=>simp at h
  | cons v vs=>
   obtain ⟨h1,h2,h3,h4,h5⟩:=zvb as top vs (by simpa using h)
   refine ⟨by simp [Arg.av,h1],by simpa [Arg.av,zQ] using h2,fun t a' ht=> ?_,fun t T l ht=> ?_,fun k b hb=> ?_⟩
   ·cases t with
    | zero=>simp at ht; subst ht; rfl
    | succ t=>simpa [Arg.av] using h3 t a' (by simpa using ht)
   ·cases t with
    | zero=>simp at ht
    | succ t=>
     obtain ⟨k,k1,k2,k3⟩:=h4 t T l (by simpa using ht)
     exact ⟨k,by simpa [Arg.av] using k1,by simpa [Arg.av] using k2,by simpa [zQ] using k3⟩
   ·obtain ⟨t,T,l,k1,k2,k3⟩:=h5 k b (by simpa [Arg.av] using hb)
    exact ⟨t+1,T,l,by simpa using k1,k2,by simpa [zQ] using k3⟩
 | .own T0 l0::as,top,vs,h=>by
  cases vs with
  | nil=>simp at h
  | cons v vs=>
   obtain ⟨h1,h2,h3,h4,h5⟩:=zvb as (top+1) vs (by simpa using h)
   refine ⟨by simp [Arg.av,h1],by simpa [Arg.av,zQ] using h2,fun t a' ht=> ?_,fun t T l ht=> ?_,fun k b hb=> ?_⟩
   ·cases t with
    | zero=>simp at ht
    | succ t=>simpa [Arg.av] using h3 t a' (by simpa using ht)
   ·cases t with
    | zero=>
     simp at ht
     obtain ⟨rfl,rfl⟩:=ht
     exact ⟨0,by simp [Arg.av],by simp [Arg.av],by simp [zQ]⟩
    | succ t=>
     obtain ⟨k,k1,k2,k3⟩:=h4 t T l (by simpa using ht)
     exact ⟨k+1,by simp only [Arg.av,List.getElem?_cons_succ,k1]; congr 2; omega,by simpa [Arg.av] using k2,by simpa [zQ] using k3⟩
   ·cases k with
    | zero=>
     simp [Arg.av] at hb
     exact ⟨0,T0,l0,rfl,hb.symm,by simp [zQ]⟩
    | succ k=>
     obtain ⟨t,T,l,k1,k2,k3⟩:=h5 k b (by simpa [Arg.av] using hb)
     exact ⟨t+1,T,l,by simpa using k1,k2,by simpa [zQ] using k3⟩
theorem zH4 (nt:Nat) (as:List (Arg ty)) (j:Nat):(zru nt as).blk j=Blk.none∨∃ k:Nat,j=4*nt+k∧(Arg.av (4*nt) as).2[k]? =some ((zru nt as).blk j):=by
 show (gD Blk.none (List.replicate (4*nt) Blk.none++(Arg.av (4*nt) as).2) j)=Blk.none∨∃ k:Nat,j=4*nt+k∧(Arg.av (4*nt) as).2[k]? =some ((gD Blk.none (List.replicate (4*nt) Blk.none++(Arg.av (4*nt) as).2) j))
 rw [zge,List.getD_eq_getElem?_getD]
 rcases Nat.lt_or_ge j (4*nt) with h | h
 ·left; rw [List.getElem?_append_left (by simpa using h)]; simp [List.getElem?_replicate,h]
 ·rw [List.getElem?_append_right (by simpa using h)]
  simp only [List.length_replicate]
  cases hb:(Arg.av (4*nt) as).2[j - 4*nt]? with
  | none=>left; rfl
  | some b=>exact .inr ⟨j - 4*nt,by omega,by simp [hb]⟩
theorem zGp {as:List (Arg ty)} {vs:List Value} {F:Nat→Prop} {nt:Nat} (hF:∀ b,F b→b<w.heap.size) (ha:All2 (zgJ cx F w) vs as) (hs:SepW cx w (zQ vs as)) (hn:as.length≤nt):
  R cx ⟨w,F,OPof (zQ vs as)⟩ (zru nt as) { tmps:=vs.toArray++Array.replicate (nt - vs.toArray.size) undef,defers:=[] } w:=by
 obtain ⟨h1,h2,h3,h4,h5⟩:=zvb as (4*nt) vs ha.len
 -- the values of the blocks
 have hκ:∀ k:Nat,k<(Arg.av (4*nt) as).2.length→∃ (t T:Nat) (l:List (ty T)) (v:Value),as[t]? =some (Arg.own T l)∧vs[t]? =some v∧(Arg.av (4*nt) as).2[k]? =some (Blk.arr T l false)∧(zQ vs as)[k]? =some v:=by
  intro k hk
  obtain ⟨t,T,l,k1,k2,k3⟩:=h5 k _ (List.getElem?_eq_getElem hk)
  obtain ⟨v,hv,_⟩:=ha.getR k1
  exact ⟨t,T,l,v,k1,hv,by rw [List.getElem?_eq_getElem hk,k2],k3.trans hv⟩
 have hblk:∀ j,(zru nt as).blk j=Blk.none∨∃ (k t T:Nat) (l:List (ty T)) (v:Value),j=4*nt+k∧as[t]? =some (Arg.own T l)∧vs[t]? =some v∧(zru nt as).blk j=Blk.arr T l false∧(zQ vs as)[k]? =some v:=by
  intro j
  rcases zH4 nt as j with h | ⟨k,rfl,hk⟩
  ·exact .inl h
  ·obtain ⟨t,T,l,v,k1,k2,k3,k4⟩:=hκ k (List.getElem?_eq_some_iff.1 hk).1
   rw [hk] at k3
   exact .inr ⟨k,t,T,l,v,rfl,k1,k2,Option.some.inj k3,k4⟩
 let κ:Nat→Value:=fun j=>(zQ vs as).getD (j - 4*nt) undef
 have hκv:∀ (k:Nat) v,(zQ vs as)[k]? =some v→κ (4*nt+k)=v:=fun k v h=>by simp [κ,zge,List.getD_eq_getElem?_getD,h]
 have hmem:∀ (k:Nat) v b,(zQ vs as)[k]? =some v→zL v=some b→OPof (zQ vs as) b:=fun k v b h hb=>⟨v,List.mem_of_getElem? h,hb⟩
 have hfz:∀ b,F b→Fz ⟨w,F,OPof (zQ vs as)⟩ (zru nt as).blk κ w b:=by
  intro b hb
  refine ⟨.inl hb,hF b hb,fun id hid hbid=> ?_⟩
  rcases hblk id with h | ⟨k,t,T,l,v,rfl,k1,k2,k3,k4⟩
  ·rw [h] at hid; exact hid
  ·rw [hκv k v k4] at hbid
   exact (ha.at_ t v _ k2 k1).2 b hbid hb
 have hlt:∀ (t T:Nat) (l:List (ty T)) v b,as[t]? =some (Arg.own T l)→vs[t]? =some v→zL v=some b→b<w.heap.size:=fun t T l v b k1 k2 hb=>by
  obtain ⟨xs,ho,_⟩:=(ha.at_ t v _ k2 k1).1
  exact zvh ho hb
 refine ⟨κ,⟨⟨rfl,rfl,rfl,fun _=>Nat.le_refl _,Nat.le_refl _,fun b _ _=>rfl,fun id=> ?_,fun i j b hi hj hbi hbj=> ?_,fun i b hi hb=> ?_,fun i b hi hb=> ?_,hs.g⟩,rfl, ?_,fun t=> ?_⟩⟩
 ·rcases hblk id with h | ⟨k,t,T,l,v,rfl,k1,k2,k3,k4⟩
  ·rw [h]; trivial
  ·rw [k3,hκv k v k4]
   exact zb4.mono (ha.at_ t v _ k2 k1).1 hfz
 ·rcases hblk i with h | ⟨k,t,T,l,v,rfl,k1,k2,k3,k4⟩
  ·rw [h] at hi; exact hi.elim
  ·rcases hblk j with h | ⟨k',t',T',l',v',rfl,k1',k2',k3',k4'⟩
   ·rw [h] at hj; exact hj.elim
   ·rw [hκv k v k4] at hbi; rw [hκv k' v' k4'] at hbj
    rw [hs.sep k k' v v' b k4 k4' hbi hbj]
 ·rcases hblk i with h | ⟨k,t,T,l,v,rfl,k1,k2,k3,k4⟩
  ·rw [h] at hi; exact hi.elim
  ·rw [hκv k v k4] at hb; exact .inl (hmem k v b k4 hb)
 ·rcases hblk i with h | ⟨k,t,T,l,v,rfl,k1,k2,k3,k4⟩
  ·rw [h] at hi; exact hi.elim
  ·rw [hκv k v k4] at hb; exact ⟨.inl (hmem k v b k4 hb),hlt t T l v b k1 k2 hb⟩
 ·show (vs.toArray++Array.replicate (nt - vs.toArray.size) undef).size=((Arg.av (4*nt) as).1++List.replicate (nt - (Arg.av (4*nt) as).1.length) (AV.lit undef)).length
  simp [h1,ha.len]
 ·show RepA cx _ w _ _ _ ((gD AV.dead ((Arg.av (4*nt) as).1++List.replicate (nt - (Arg.av (4*nt) as).1.length) (AV.lit undef)) t))
  rw [zge,List.getD_eq_getElem?_getD,Array.getD_eq_getD_getElem?]
  rcases Nat.lt_or_ge t as.length with ht | ht
  ·rw [List.getElem?_append_left (by omega)]
   have htv:t<vs.length:=by rw [ha.len]; exact ht
   rw [Array.getElem?_append_left (by simpa using htv)]
   simp only [List.getElem?_toArray]
   cases hat:as[t] with
   | pure av=>
    have hat':as[t]? =some (Arg.pure av):=by rw [List.getElem?_eq_getElem ht,hat]
    rw [h3 t av hat']
    obtain ⟨v,hv,hr⟩:=ha.getR hat'
    rw [hv]
    exact .rep (Rep.mono (fun b hb=>⟨hfz b hb,rfl⟩) hr)
   | own T l=>
    have hat':as[t]? =some (Arg.own T l):=by rw [List.getElem?_eq_getElem ht,hat]
    obtain ⟨k,k1,k2,k3⟩:=h4 t T l hat'
    obtain ⟨v,hv,hr⟩:=ha.getR hat'
    rw [k1,hv]
    have hb:(zru nt as).blk (4*nt+k)=Blk.arr T l false:=by
     show (gD Blk.none (List.replicate (4*nt) Blk.none++(Arg.av (4*nt) as).2) (4*nt+k))=_
     rw [zge,List.getD_eq_getElem?_getD,List.getElem?_append_right (by simp)]; simp [k2]
    have:=RepA.own (cx:=cx) (F:=Fz ⟨w,F,OPof (zQ vs as)⟩ (zru nt as).blk κ w) (w:=w) (kd:=fun i=>((zru nt as).blk i).kind cx) (κ:=κ) (4*nt+k) (szOf cx T) l.length (by show ((zru nt as).blk (4*nt+k)).kind cx=_; rw [hb]; rfl)
    rw [hκv k v (k3.trans hv)] at this
    exact this
  ·rw [List.getElem?_append_right (by omega),Array.getElem?_append_right (by simpa [ha.len] using ht)]
   rw [List.getElem?_replicate,Array.getElem?_replicate]
   have hvs:vs.length=as.length:=ha.len
   split <;>split <;>first | exact .dead _ | exact .rep (.lit undef)
theorem zJv {F:Nat→Prop} {v u:Value} {T n:Nat} {l:List (ty T)} (hcx:CxOK P cx) (h:zb4 cx F w v T l) (hs:ziG (szOf cx T) 0 n v u) (hl:n≤l.length):zb4 cx F w u T (l.take n)∧zL u=zL v:=by
 obtain ⟨xs,ho,ha⟩:=h
 have hlen:(l.take n).length=n:=by simp; omega
 rcases ho.2 with ⟨rfl,h0⟩ | ⟨g,cap,cur,rfl,h0g,hg,hnc,hcm,hcs,htake⟩
 ·-- the nil row
  obtain ⟨b,c,rfl,hn0,hv,_⟩:=hs
  have hv:=hv rfl
  subst hn0
  refine ⟨⟨[],⟨by simp,.inl ⟨hv,by simp⟩⟩,⟨by simp [encL],fun j u c hu=>by simp at hu⟩⟩,by rw [hv]⟩
 ·rcases hs with rfl | ⟨_,h,_⟩
  ·simp only [Nat.zero_mul,zdE,Nat.add_zero,Nat.sub_zero]
   refine ⟨⟨xs.take (n*szOf cx T),⟨?_,.inr ⟨g,cap,cur,by rw [hlen],h0g,hg,by rw [hlen]; omega,hcm,hcs, ?_⟩⟩, ?_⟩,rfl⟩
   ·have:=ho.1
    rw [hlen,List.length_take,this]
    exact Nat.min_eq_left (Nat.mul_le_mul_right _ hl)
   ·rw [hlen, ← htake,List.take_take,Nat.min_eq_left (Nat.mul_le_mul_right _ hl)]
   ·have:=ha.take (n*szOf cx T)
    rw [show (encL cx T l).take (n*szOf cx T)=encL cx T (l.take n) from (zq8 _ _ (hcx.len T) l n).symm] at this
    exact this
  ·exact absurd h (Nat.lt_irrefl 0)
theorem ztv (hcx:CxOK P cx) (hrb:RB cx e st.blk κ w) {fz:List Nat}:
  ∀ (ms:List RMode) (ts:List Nat) (avs:List (AV ty)) (vs:List Value) (rvs:List (RV ty)) (fz0 mv:List Nat),All2 (RepS cx e st κ w) vs avs→zzq cx st ms ts avs=some (rvs,fz0,mv)→
   (∀ id∈fz0,id∈fz)→(∀ id∈mv,id∉fz)→
   All2 (ResV cx (Fz e (FzB st fz) κ w) e.w0 w e.OP) vs rvs∧(∀ (i T:Nat) (l:List (ty T)) u b,rvs[i]? =some (.own T l)→vs[i]? =some u→zL u=some b→∃ id∈mv,(st.blk id).unfz∧zL (κ id)=some b)∧
   (zfL mv=true→∀ (i j T:Nat) (l:List (ty T)) (T':Nat) (l':List (ty T')) u v b,rvs[i]? =some (.own T l)→rvs[j]? =some (.own T' l')→vs[i]? =some u→vs[j]? =some v→zL u=some b→zL v=some b→i=j)
 | [],ts,avs,vs,rvs,fz0,mv,hv,h,hf,hm=>by
  cases avs with
  | nil=>
   simp only [zzq,Option.some.injEq,Prod.mk.injEq] at h
   obtain ⟨rfl,rfl,rfl⟩:=h
   rw [hv.nil_left.1]
   exact ⟨.nil,fun i T l u b h=>by simp at h,fun _ i j T l T' l' u v b h=>by simp at h⟩
  | cons=>simp [zzq] at h
 | m::ms,ts,[],vs,rvs,fz0,mv,hv,h,hf,hm=>by simp [zzq] at h
 | m::ms,ts,av::avs,vs,rvs,fz0,mv,hv,h,hf,hm=>by
  obtain ⟨v,vs',rfl,hr,hv'⟩:=hv.inv
  simp only [zzq] at h
  split at h
  ·cases h
  ·rename_i rs fz' mv' hrest
   -- one that is no row of its own
   have plain:∀ (r:RV ty) (z:List Nat),(∀ T l,r≠.own T l)→ResV cx (Fz e (FzB st fz) κ w) e.w0 w e.OP v r→(∀ id∈fz',id∈fz)→rvs=r::rs→mv=mv'→
     All2 (ResV cx (Fz e (FzB st fz) κ w) e.w0 w e.OP) (v::vs') rvs∧(∀ (i T:Nat) (l:List (ty T)) u b,rvs[i]? =some (.own T l)→(v::vs')[i]? =some u→zL u=some b→∃ id∈mv,(st.blk id).unfz∧zL (κ id)=some b)∧
     (zfL mv=true→∀ (i j T:Nat) (l:List (ty T)) (T':Nat) (l':List (ty T')) u v2 b,rvs[i]? =some (.own T l)→rvs[j]? =some (.own T' l')→(v::vs')[i]? =some u→(v::vs')[j]? =some v2→zL u=some b→zL v2=some b→i=j):=by
    intro r z hno hrv hfz' e1 e2
    subst e1 e2
    obtain ⟨h1,h2,h3⟩:=ztv hcx hrb ms ts.tail avs vs' rs fz' mv hv' hrest hfz' hm
    refine ⟨.cons hrv h1,fun i T l u b hi hu hb=> ?_,fun hn i j T l T' l' u v2 b hi hj hu hv2 hb hb2=> ?_⟩
    ·cases i with
     | zero=>simp at hi; exact absurd hi (hno T l)
     | succ i=>exact h2 i T l u b (by simpa using hi) (by simpa using hu) hb
    ·cases i with
     | zero=>simp at hi; exact absurd hi (hno T l)
     | succ i=>cases j with
      | zero=>simp at hj; exact absurd hj (hno T' l')
      | succ j=>rw [h3 hn i j T l T' l' u v2 b (by simpa using hi) (by simpa using hj) (by simpa using hu) (by simpa using hv2) hb hb2]
   -- one that is
   have own:∀ (id T:Nat) (l:List (ty T)),(st.blk id).unfz→zb4 cx (Fz e (FzB st fz) κ w) w v T l→zL v=zL (κ id)→(∀ i∈fz',i∈fz)→rvs=.own T l::rs→mv=id::mv'→
     All2 (ResV cx (Fz e (FzB st fz) κ w) e.w0 w e.OP) (v::vs') rvs∧(∀ (i T:Nat) (l:List (ty T)) u b,rvs[i]? =some (.own T l)→(v::vs')[i]? =some u→zL u=some b→∃ id∈mv,(st.blk id).unfz∧zL (κ id)=some b)∧
     (zfL mv=true→∀ (i j T:Nat) (l:List (ty T)) (T':Nat) (l':List (ty T')) u v2 b,rvs[i]? =some (.own T l)→rvs[j]? =some (.own T' l')→(v::vs')[i]? =some u→(v::vs')[j]? =some v2→zL u=some b→zL v2=some b→i=j):=by
    intro id T l hu0 hrow hbv hfz' e1 e2
    subst e1 e2
    obtain ⟨h1,h2,h3⟩:=ztv hcx hrb ms ts.tail avs vs' rs fz' mv' hv' hrest hfz' (fun i hi=>hm i (by simp [hi]))
    have hnf:∀ b,zL v=some b→¬ Fz e (FzB st fz) κ w b:=fun b hb hfb=>by
     refine hfb.2.2 id ?_ (hbv ▸ hb)
     simp only [FzB,zkv,if_neg (hm id (by simp))]
     exact hu0
    refine ⟨.cons ⟨hrow,fun b hb=>⟨hnf b hb,hrb.mine id b hu0 (hbv ▸ hb)⟩⟩ h1,fun i T2 l2 u b hi hu hb=> ?_,fun hn i j T2 l2 T' l' u v2 b hi hj hu hv2 hb hb2=> ?_⟩
    ·cases i with
     | zero=>simp at hu; subst hu; exact ⟨id,by simp,hu0,hbv ▸ hb⟩
     | succ i=>
      obtain ⟨i',hi',h'⟩:=h2 i T2 l2 u b (by simpa using hi) (by simpa using hu) hb
      exact ⟨i',by simp [hi'],h'⟩
    ·simp only [zfL,Bool.and_eq_true,Bool.not_eq_true'] at hn
     have clash:∀ (k T3:Nat) (l3:List (ty T3)) v3,rs[k]? =some (.own T3 l3)→vs'[k]? =some v3→zL v=some b→zL v3=some b→False:=fun k T3 l3 v3 hk hv3 hbv' hb3=>by
      obtain ⟨i',hi',hu',hb'⟩:=h2 k T3 l3 v3 b hk hv3 hb3
      have:=hrb.sep id i' b hu0.live hu' (hbv ▸ hbv') hb'
      subst this
      rw [List.contains_iff_mem.2 hi'] at hn; cases hn.1
     cases i with
     | zero=>cases j with
      | zero=>rfl
      | succ j=>simp at hu; subst hu; exact (clash j T' l' v2 (by simpa using hj) (by simpa using hv2) hb hb2).elim
     | succ i=>cases j with
      | zero=>simp at hv2; subst hv2; exact (clash i T2 l2 u (by simpa using hi) (by simpa using hu) hb2 hb).elim
      | succ j=>rw [h3 hn.2 i j T2 l2 T' l' u v2 b (by simpa using hi) (by simpa using hj) (by simpa using hu) (by simpa using hv2) hb hb2]
   have hFF:∀ b,Fz e st.blk κ w b→Fz e (FzB st fz) κ w b:=fun b hb=>((zor hrb fz).2.fz b hb).1
   cases m with
   | pure=>
    simp only at h
    split at h
    ·rename_i a' ids hp
     split at h
     ·rename_i a2 hcan
      simp only [Option.some.injEq,Prod.mk.injEq] at h
      obtain ⟨rfl,rfl,rfl⟩:=h
      exact plain (.pure a2) fz (fun T l h=>by cases h) (zBk hcx (zBX hcx hrb hr hp fun id hid=>hf id (by simp [hid])) hcan) (fun id hid=>hf id (by simp [hid])) rfl rfl
     ·cases h
    ·cases h
   | own T=>
    simp only at h
    split at h
    ·-- nil
     simp only [Option.some.injEq,Prod.mk.injEq] at h
     obtain ⟨rfl,rfl,rfl⟩:=h
     have hv0:=zbh hr
     subst hv0
     obtain ⟨h1,h2,h3⟩:=ztv hcx hrb ms ts.tail avs vs' rs fz' mv' hv' hrest hf hm
     refine ⟨.cons ⟨⟨[],⟨by simp,.inl ⟨rfl,rfl⟩⟩,⟨by simp [encL],fun j u c hu=>by simp at hu⟩⟩,fun b hb=>by simp [zL] at hb⟩ h1,fun i T2 l2 u b hi hu hb=> ?_,fun hn i j T2 l2 T' l' u v2 b hi hj hu hv2 hb hb2=> ?_⟩
     ·cases i with
      | zero=>simp at hu; subst hu; simp [zL] at hb
      | succ i=>exact h2 i T2 l2 u b (by simpa using hi) (by simpa using hu) hb
     ·cases i with
      | zero=>simp at hu; subst hu; simp [zL] at hb
      | succ i=>cases j with
       | zero=>simp at hv2; subst hv2; simp [zL] at hb2
       | succ j=>rw [h3 hn i j T2 l2 T' l' u v2 b (by simpa using hi) (by simpa using hj) (by simpa using hu) (by simpa using hv2) hb hb2]
    ·rename_i id
     split at h
     ·rename_i T' l hb
      split at h
      ·rename_i hTT
       have hTT:=Nat.eq_of_beq_eq_true hTT
       simp only [Option.some.injEq,Prod.mk.injEq] at h
       obtain ⟨rfl,rfl,rfl⟩:=h
       have hv0:=zGN hrb hr hb
       subst hv0
       exact own id T' l (by rw [hb]; rfl) (zb4.mono (hrb.row hb) hFF) rfl hf rfl rfl
      ·cases h
     ·cases h
    ·rename_i id n
     split at h
     ·rename_i T' l hb
      split at h
      ·simp only [Option.some.injEq,Prod.mk.injEq] at h
       obtain ⟨rfl,rfl,rfl⟩:=h
       cases hr with
       | rep hr=>cases hr
       | sub _ _ _ _ k m hk hl hs=>
        simp only [hb,Blk.kind,Kind.arr.injEq] at hk
        obtain ⟨rfl,rfl⟩:=hk
        obtain ⟨hrow,hbv⟩:=zJv hcx (hrb.row hb) hs (by omega)
        exact own id T' _ (by rw [hb]; rfl) (zb4.mono hrow hFF) hbv hf rfl rfl
       | subD _ _ _ _ hk=>simp [hb,Blk.kind] at hk
      ·cases h
     ·cases h
    ·cases h
theorem zDU:∀ (us:List Bool) (id:Nat),(us.all fun u=> !u)=true→zFf st id us=some (us.map fun _=>(none:Option ((T:Nat)×List (ty T))),[])
 | [],id,_=>rfl
 | true::us,id,h=>by simp at h
 | false::us,id,h=>by simp only [zFf,zDU us (id+1) (by simpa using h)]; rfl
theorem zFJ (hcx:CxOK P cx) {sg:Sig} {nt:Nat} {ts:List Nat} {rs:List ResultVar} {avs:List (AV ty)} {us:List Value} {res:ARes ty} {owns:List Value} (hts:ztG cx st rs=some avs) (hu:(sg.upd.all fun u=> !u)=true) (hul:sg.upd.length=owns.length) (heop:e.OP=OPof owns)
  (hF:∀ b,e.F b→b<e.w0.heap.size∧¬ OPof owns b) (h:zA6 cx sg nt ts rs st=some res) (hf:RF cx e st κ a w) (hv:All2 (RepS cx e st κ w) us avs):Post cx e.F e.w0 owns res (zrX us) w:=by
 unfold zA6 at h
 rw [hts,zDU _ _ hu] at h
 simp only at h
 split at h
 ·rename_i vs fz mv us mu hres hus
  simp only [Option.some.injEq,Prod.mk.injEq] at hus
  obtain ⟨rfl,rfl⟩:=hus
  split at h
  ·rename_i hok
   simp only [Option.some.injEq] at h; subst h
   simp only [List.append_nil,Bool.and_eq_true] at hok
   have hnf:∀ id∈mv,id∉fz:=fun id hid hfz=>by
    have:=(List.all_eq_true.1 hok.2) id hfz
    simp only [Bool.not_eq_true'] at this
    rw [List.contains_iff_mem.2 hid] at this; cases this
   obtain ⟨h1,h2,h3⟩:=ztv hcx hf.rb (fz:=fz) sg.res ts _ _ vs fz mv hv hres (fun id hid=>hid) hnf
   rw [heop] at h1
   refine ⟨Fz e (FzB st fz) κ w,_,rfl,⟨hf.rb.os,hf.rb.tape,hf.rb.output,hf.rb.drawn,hf.rb.size,fun b hb hop=>hf.rb.keep b hb (by rw [heop]; exact hop)⟩,fun b hb=> ?_,fun b hb=>⟨hb.2.1,by have:=hb.1; rw [heop] at this; exact this⟩,h1,⟨by simp [hul],fun j u c hu hc=> ?_⟩,fun i j T l T' l' u v b=>h3 hok.1 i j T l T' l' u v b,fun i m T l x u v b hi hm=> ?_⟩
   ·refine ⟨.inl hb,Nat.lt_of_lt_of_le (hF b hb).1 hf.rb.size,fun id hid hbid=> ?_⟩
    have hid':(st.blk id).unfz:=by
     simp only [FzB,zkv] at hid
     split at hid
     ·exact (Blk.freeze_unfz hid).elim
     ·exact hid
    rcases hf.rb.mine id b hid' hbid with h | h
    ·rw [heop] at h; exact (hF b hb).2 h
    ·have:=(hF b hb).1; omega
   ·rw [List.getElem?_map] at hc
    cases hj:sg.upd[j]? with
    | none=>rw [hj] at hc; cases hc
    | some b=>rw [hj] at hc; simp at hc; subst hc; trivial
   ·rw [List.getElem?_map] at hm
    cases hj:sg.upd[m]? with
    | none=>rw [hj] at hm; cases hm
    | some b=>rw [hj] at hm; simp at hm
  ·cases h
 ·cases h
def znY:List (Arg ty)→Nat
 | []=>0
 | .own _ _::r=>znY r+1
 | .pure _::r=>znY r
theorem zx8:∀ (as:List (Arg ty)) (vs:List Value),vs.length=as.length→(zQ vs as).length=znY as
 | [],vs,h=>by cases vs <;>rfl
 | .own T l::as,[],h=>by simp at h
 | .pure a::as,[],h=>by simp at h
 | .own T l::as,v::vs,h=>by simp only [zQ,znY,List.length_cons,zx8 as vs (by simpa using h)]
 | .pure a::as,v::vs,h=>by simp only [zQ,znY,zx8 as vs (by simpa using h)]
theorem zCt (hm:P.follows .mixedOrders=true) (hcx:CxOK P cx) (hspec:∀ f s,cx.spec f=some s→Sound P cx f s) {f:Nat} {fn:Func} {c:Code} (hf:P.funcs[f]? =some fn) (hb:fn.body=some c) (hl:ziJ cx c)
  {sg:Sig} {as:List (Arg ty)} {res:ARes ty} (hrun:ze9 cx fn c sg as=some res) (hn:Nat.ble as.length fn.ntmps=true) (hu:((sg.upd.all fun u=> !u)&&Nat.beq sg.upd.length (znY as))=true)
  (w:World) (F:Nat→Prop) (vs:List Value) (hF:∀ b,F b→b<w.heap.size) (ha:All2 (zgJ cx F w) vs as) (hs:SepW cx w (zQ vs as)):
  Calls P f vs.toArray w fun e w'=>∃ v,e=.returned v∧Post cx F w (zQ vs as) res v w':=by
 simp only [Bool.and_eq_true] at hu
 have hR:=zGp (nt:=fn.ntmps) hF ha hs (Nat.le_of_ble_eq_true hn)
 refine calls_of_wp hf hb (wp_mono (zkp hm hcx hspec c hl _ _ _ w hrun hR) ?_)
 rintro ex a w' ⟨x,st,rfl,hk,hR'⟩
 have hFO:∀ b,F b→b<w.heap.size∧¬ OPof (zQ vs as) b:=by
  intro b hb
  refine ⟨hF b hb,fun ⟨v,hv,hvb⟩=> ?_⟩
  obtain ⟨k,hk⟩:=List.getElem?_of_mem hv
  obtain ⟨_,h2,_,_,h5⟩:=zvb as 0 vs ha.len
  have hlt:k<(Arg.av 0 as).2.length:=by rw [← h2]; exact (List.getElem?_eq_some_iff.1 hk).1
  obtain ⟨t,T,l,k1,_,k3⟩:=h5 k _ (List.getElem?_eq_getElem hlt)
  obtain ⟨u,hu,hr⟩:=ha.getR k1
  rw [hk,hu] at k3
  have:=Option.some.inj k3
  subst this
  exact hr.2 b hvb hb
 have fin:zA6 cx sg fn.ntmps fn.resultTypes.toList fn.results.toList st=some res→a.defers=[]∧∃ v,(results fn a.tmps).run P w'=.ok v w'∧∃ v',Ending.returned v=.returned v'∧Post cx F w (zQ vs as) res v' w':=by
  intro h
  obtain ⟨κ,hf⟩:=hR'
  cases hav:ztG cx st fn.results.toList with
  | none=>simp [zA6,hav] at h
  | some avs=>
   obtain ⟨us,hrun,hv⟩:=zGu hcx hav hf
   exact ⟨hf.defers,_,hrun,_,rfl,zFJ (e:=⟨w,F,OPof (zQ vs as)⟩) hcx hav hu.1 (by rw [Nat.eq_of_beq_eq_true hu.2,zx8 as vs ha.len]) rfl hFO h hf hv⟩
 cases x with
 | normal=>exact fin hk
 | ret=>exact fin hk
 | exit id=>cases hk
end
end
end Go.Ab
/- Contracts and loops out of printed equations. -/
namespace Go.Ab
noncomputable section
variable {ty:Nat→Type}
def out {A R:Type} (f:A→Option R) (p:Bool×A):Option R:=bif p.1 then f p.2 else none
def bn {A R:Type} (p:Bool×A) (k:A→R) (d:R):R:=bif p.1 then k p.2 else d
structure Cx.Same0 (cx cx':Cx ty):Prop where
 ti:cx'.ti=cx.ti
 enc:cx'.enc=cx.enc
 dec:cx'.dec=cx.dec
 eqs:cx'.eqs=cx.eqs
 ng:cx'.ng=cx.ng
 inv:cx'.inv=cx.inv
structure Cx.Same (cx cx':Cx ty):Prop where
 s:cx.Same0 cx'
 dr:cx'.dr=cx.dr
theorem Cx.Same0.symm {cx cx':Cx ty} (h:cx.Same0 cx'):cx'.Same0 cx:=⟨h.ti.symm,h.enc.symm,h.dec.symm,h.eqs.symm,h.ng.symm,h.inv.symm⟩
theorem Cx.Same.symm {cx cx':Cx ty} (h:cx.Same cx'):cx'.Same cx:=⟨h.s.symm,h.dr.symm⟩
section
variable {P:Program} {cx cx':Cx ty} {F:Nat→Prop} {w:World}
theorem Rep.cg (h:cx'.enc=cx.enc) {v:Value} {a:AV ty} (hr:Rep cx F w v a):Rep cx' F w v a:=by
 have he:∀ T (l:List (ty T)),encL cx' T l=encL cx T l:=fun T l=>by unfold encL; rw [h]
 induction hr with
 | lit v=>exact .lit v
 | slE a c T hn=>exact .slE a c T hn
 | errN=>exact .errN
 | errS t u=>exact .errS t u
 | sl b off cap T l us hF hcap hlen hc hr ih=>exact .sl b off cap T l us hF hcap (by rw [he]; exact hlen) hc (fun j u c hu hcj=>ih j u c hu (by rw [← he]; exact hcj))
 | fptr b off0 off T x us hF hlen hc hr ih=>exact .fptr b off0 off T x us hF (by rw [h]; exact hlen) hc (fun j u c hu hcj=>ih j u c hu (by rw [← h]; exact hcj))
 | bptr b off cs us hF hlen hc hr ih=>exact .bptr b off cs us hF hlen hc ih
 | agg vs cs hlen hr ih=>exact .agg vs cs hlen ih
 | fn f vs cs hlen hr ih=>exact .fn f vs cs hlen ih
theorem zGF (h:cx'.ti=cx.ti) (T:Nat):szOf cx' T=szOf cx T:=by unfold szOf; rw [h]
theorem zb4.cg (h:cx.Same0 cx') {v:Value} {T:Nat} {l:List (ty T)} (hr:zb4 cx F w v T l):zb4 cx' F w v T l:=by
 obtain ⟨xs,ho,ha⟩:=hr
 refine ⟨xs,by rw [zGF h.ti]; exact ho, ?_⟩
 have he:encL cx' T l=encL cx T l:=by unfold encL; rw [h.enc]
 rw [he]; exact ha.imp fun _ _=>Rep.cg h.enc
theorem zgJ.cg (h:cx.Same0 cx') {v:Value} {a:Arg ty} (hr:zgJ cx F w v a):zgJ cx' F w v a:=by
 cases a with
 | pure a=>exact Rep.cg h.enc hr
 | own T l=>exact ⟨zb4.cg h hr.1,hr.2⟩
theorem CxOK.cg (h:cx.Same0 cx') (hcx:CxOK P cx):CxOK P cx' where
 ti:=fun T i hi=>hcx.ti T i (by rw [← h.ti]; exact hi)
 len:=fun T x=>by rw [h.enc,zGF h.ti]; exact hcx.len T x
 cell:=fun T x c hc=>hcx.cell T x c (by rw [← h.enc]; exact hc)
 dec:=fun T cs x hd F w us ha=>by
  have:=hcx.dec T cs x (by rw [← h.dec]; exact hd) F w us (ha.imp fun _ _=>Rep.cg h.enc.symm)
  rw [h.enc]; exact this.imp fun _ _=>Rep.cg h.enc
 eqs:=fun T xs ys r he=>hcx.eqs T xs ys r (by rw [← h.eqs]; exact he)
 eqk:=fun T us vs hu hv=>by rw [h.eqs] at hu hv ⊢; exact hcx.eqk T us vs hu hv
 eqr:=fun T us b hu=>hcx.eqr T us b (by rw [← h.eqs]; exact hu)
 stable:=fun w w' hi hb=>by rw [h.inv] at hi ⊢; exact hcx.stable w w' hi (by rw [← h.ng]; exact hb)
theorem SepW.cg {L:List Value} (h:cx.Same0 cx') (hs:SepW cx w L):SepW cx' w L:=⟨hs.sep,⟨by rw [h.inv]; exact hs.g.inv,by rw [h.ng]; exact hs.g.big,by rw [h.ng]; exact hs.g.size⟩⟩
theorem Post.cg (h:cx.Same0 cx') (hd:cx'.dr=true→cx.dr=true) {owns:List Value} {res:ARes ty} {v:Value} {w':World} (hp:Post cx F w owns res v w'):Post cx' F w owns res v w':=by
 obtain ⟨F',rs,h1,h2,h3,h4,h5,h6,h7,h8⟩:=hp.ok
 refine ⟨F',rs,h1,{ h2 with drawn:=fun e=>h2.drawn (hd e) },h3,h4,h5.imp fun u c hr=> ?_,h6.imp fun u c hr=> ?_,h7,h8⟩
 ·cases c with
  | pure a=>exact Rep.cg h.enc hr
  | own T l=>exact ⟨zb4.cg h hr.1,hr.2⟩
 ·cases c with
  | none=>trivial
  | some x=>exact ⟨zb4.cg h hr.1,hr.2⟩
theorem Sound.cg0 (h:cx.Same0 cx') (hd:cx'.dr=true→cx.dr=true) {f:Nat} {s:Spec ty} (hs:Sound P cx f s):Sound P cx' f s where
 enters:=hs.enters
 calls:=fun as res hsp w F vs hF ha hsep=>(hs.calls as res hsp w F vs hF (ha.imp fun _ _=>zgJ.cg h.symm) (hsep.cg h.symm)).mono fun e w' ⟨v,he,hp⟩=>⟨v,he,hp.cg h hd⟩
theorem Sound.cg (h:cx.Same cx') {f:Nat} {s:Spec ty} (hs:Sound P cx f s):Sound P cx' f s:=hs.cg0 h.s fun e=>h.dr ▸ e
theorem Sound.nodr {f:Nat} {s:Spec ty} (hs:Sound P cx f s):Sound P { cx with dr:=false } f s:=
 Sound.cg0 (cx:=cx) (cx':={ cx with dr:=false }) ⟨rfl,rfl,rfl,rfl,rfl,rfl⟩ (fun e=>absurd e (by simp)) hs
end
structure VD (cx:Cx ty) (α:Type) where
 dec:AV ty→Option α
 enc:α→AV ty
 ok:∀ (P:Program),CxOK P cx→∀ (F:Nat→Prop) (w:World) (v:Value) (a:AV ty) (x:α),dec a=some x→Rep cx F w v a→Rep cx F w v (enc x)
structure VL (cx:Cx ty) (α:Type) where
 dec:List (AV ty)→Option α
 enc:α→List (AV ty)
 ok:∀ (P:Program),CxOK P cx→∀ (F:Nat→Prop) (w:World) (vs:List Value) (as:List (AV ty)) (x:α),dec as=some x→All2 (Rep cx F w) vs as→All2 (Rep cx F w) vs (enc x)
structure AD (cx:Cx ty) (α:Type) where
 dec:Arg ty→Option α
 enc:α→Arg ty
 ok:∀ (P:Program),CxOK P cx→∀ (F:Nat→Prop) (w:World) (v:Value) (a:Arg ty) (x:α),dec a=some x→zgJ cx F w v a→zgJ cx F w v (enc x)
 kind:∀ (vs:List Value) (a:Arg ty) (x:α) (r r':List (Arg ty)),dec a=some x→zQ vs.tail r=zQ vs.tail r'→zQ vs (a::r)=zQ vs (enc x::r')
structure AL (cx:Cx ty) (α:Type) where
 dec:List (Arg ty)→Option α
 enc:α→List (Arg ty)
 ok:∀ (P:Program),CxOK P cx→∀ (F:Nat→Prop) (w:World) (vs:List Value) (as:List (Arg ty)) (x:α),dec as=some x→All2 (zgJ cx F w) vs as→All2 (zgJ cx F w) vs (enc x)
 kind:∀ (vs:List Value) (as:List (Arg ty)) (x:α),dec as=some x→zQ vs as=zQ vs (enc x)
section
variable {cx:Cx ty} {α β:Type}
def vInt (k:IntKind):VD cx Int where
 dec:=fun a=>match a with | .lit (.int k' n)=>if k'=k then some n else none | _=>none
 enc:=fun n=>.lit (.int k n)
 ok:=fun P hcx F w v a x h hr=>by
  split at h
  ·split at h
   ·rename_i hk; subst hk; simp only [Option.some.injEq] at h; subst h; exact hr
   ·cases h
  ·cases h
def zKN:VD cx Bool where
 dec:=fun a=>match a with | .lit (.bool b)=>some b | _=>none
 enc:=fun b=>.lit (.bool b)
 ok:=fun P hcx F w v a x h hr=>by
  split at h
  ·simp only [Option.some.injEq] at h; subst h; exact hr
  ·cases h
def vStr:VD cx ByteArray where
 dec:=fun a=>match a with | .lit (.string s)=>some s | _=>none
 enc:=fun s=>.lit (.string s)
 ok:=fun P hcx F w v a x h hr=>by
  split at h
  ·simp only [Option.some.injEq] at h; subst h; exact hr
  ·cases h
def vSl (T:Nat):VD cx (List (ty T)) where
 dec:=toSl T
 enc:=fun l=>.sl T l
 ok:=fun P hcx F w v a x h hr=>zvg hr h
def vAgg (T:Nat):VD cx (ty T) where
 dec:=fun a=>match a with | .agg cs=>cx.dec T cs | _=>none
 enc:=fun x=>.agg (cx.enc T x)
 ok:=fun P hcx F w v a x h hr=>by
  split at h
  ·cases hr with
   | agg vs cs hlen hr=>
    have:=hcx.dec T _ x h F w vs ⟨hlen,hr⟩
    exact .agg vs _ this.len this.at_
  ·cases h
def vBox (d:VL cx α):VD cx α where
 dec:=fun a=>match a with | .bptr cs 0=>d.dec cs | _=>none
 enc:=fun x=>.bptr (d.enc x) 0
 ok:=fun P hcx F w v a x h hr=>by
  split at h
  ·cases hr with
   | bptr b off cs us hF hlen hc hr=>
    have:=d.ok P hcx F w us _ x h ⟨hlen,hr⟩
    exact .bptr b 0 _ us hF this.len hc this.at_
  ·cases h
def zvr (T:Nat):VD cx (ty T) where
 dec:=fun a=>match a with | .bptr cs 0=>cx.dec T cs | _=>none
 enc:=fun x=>.bptr (cx.enc T x) 0
 ok:=fun P hcx F w v a x h hr=>by
  split at h
  ·cases hr with
   | bptr b off cs us hF hlen hc hr=>
    have:=hcx.dec T _ x h F w us ⟨hlen,hr⟩
    exact .bptr b 0 _ us hF this.len hc this.at_
  ·cases h
def vFn (f:Nat) (d:VL cx α):VD cx α where
 dec:=fun a=>match a with | .fn g cs=>(match Nat.beq g f with | true=>d.dec cs | false=>none) | _=>none
 enc:=fun x=>.fn f (d.enc x)
 ok:=fun P hcx F w v a x h hr=>by
  split at h
  ·split at h
   ·rename_i hb
    have hb:=Nat.eq_of_beq_eq_true hb
    subst hb
    cases hr with
    | fn f vs cs hlen hr=>
     have:=d.ok P hcx F w vs _ x h ⟨hlen,hr⟩
     exact .fn _ vs _ this.len this.at_
   ·cases h
  ·cases h
def vNil:VL cx Unit where
 dec:=fun as=>match as with | []=>some () | _=>none
 enc:=fun _=>[]
 ok:=fun P hcx F w vs as x h hr=>by
  split at h
  ·exact hr
  ·cases h
def zno (d:VD cx α) (r:VL cx β):VL cx (α×β) where
 dec:=fun as=>match as with
  | a::as=>match d.dec a with
   | some x=>match r.dec as with
    | some y=>some (x,y)
    | none=>none
   | none=>none
  | _=>none
 enc:=fun x=>d.enc x.1::r.enc x.2
 ok:=fun P hcx F w vs as x h hr=>by
  split at h
  ·split at h
   ·rename_i x1 h1
    split at h
    ·rename_i y h2
     simp only [Option.some.injEq] at h; subst h
     obtain ⟨u,us,rfl,hu,hus⟩:=hr.inv
     exact .cons (d.ok P hcx F w u _ x1 h1 hu) (r.ok P hcx F w us _ y h2 hus)
    ·cases h
   ·cases h
  ·cases h
def zg (d:VD cx α):AD cx α where
 dec:=fun a=>match a with | .pure a=>d.dec a | _=>none
 enc:=fun x=>.pure (d.enc x)
 ok:=fun P hcx F w v a x h hr=>by
  split at h
  ·exact d.ok P hcx F w v _ x h hr
  ·cases h
 kind:=fun vs a x r r' h hr=>by
  split at h
  ·cases vs with
   | nil=>rfl
   | cons v vs=>simpa [zQ] using hr
  ·cases h
def aOwn (T:Nat):AD cx (List (ty T)) where
 dec:=fun a=>match a with | .own T' l=>zp0 T' T l | _=>none
 enc:=fun l=>.own T l
 ok:=fun P hcx F w v a x h hr=>by
  split at h
  ·obtain ⟨rfl,rfl⟩:=zos h
   exact hr
  ·cases h
 kind:=fun vs a x r r' h hr=>by
  split at h
  ·cases vs with
   | nil=>rfl
   | cons v vs=>simpa [zQ] using hr
  ·cases h
def aNil:AL cx Unit where
 dec:=fun as=>match as with | []=>some () | _=>none
 enc:=fun _=>[]
 ok:=fun P hcx F w vs as x h hr=>by
  split at h
  ·exact hr
  ·cases h
 kind:=fun vs as x h=>by
  split at h
  ·rfl
  ·cases h
def zf (d:AD cx α) (r:AL cx β):AL cx (α×β) where
 dec:=fun as=>match as with
  | a::as=>match d.dec a with
   | some x=>match r.dec as with
    | some y=>some (x,y)
    | none=>none
   | none=>none
  | _=>none
 enc:=fun x=>d.enc x.1::r.enc x.2
 ok:=fun P hcx F w vs as x h hr=>by
  split at h
  ·split at h
   ·rename_i x1 h1
    split at h
    ·rename_i y h2
     simp only [Option.some.injEq] at h; subst h
     obtain ⟨u,us,rfl,hu,hus⟩:=hr.inv
     exact .cons (d.ok P hcx F w u _ x1 h1 hu) (r.ok P hcx F w us _ y h2 hus)
    ·cases h
   ·cases h
  ·cases h
 kind:=fun vs as x h=>by
  split at h
  ·split at h
   ·rename_i x1 h1
    split at h
    ·rename_i y h2
     simp only [Option.some.injEq] at h; subst h
     exact d.kind vs _ x1 _ _ h1 (r.kind vs.tail _ y h2)
    ·cases h
   ·cases h
  ·cases h
def zk (A:AL cx α) (G:α→Bool×ARes ty):Spec ty:=fun as=>match A.dec as with
 | some x=>some (G x)
 | none=>none
theorem zFH {P:Program} {cx':Cx ty} {ρ:Type} (hm:P.follows .mixedOrders=true) (hcx:CxOK P cx) (hsame:cx.Same cx') (hspec:∀ g s,cx'.spec g=some s→Sound P cx g s)
  {f:Nat} {fn:Func} {c:Code} (hent:∀ args w,(callFunc f args).run P w=.ok (.enter f args) w) (hf:P.funcs[f]? =some fn) (hb:fn.body=some c) (hl:ziJ cx' c) {sg:Sig} {A:AL cx α} {res:ρ→ARes ty} {F:α→Bool×ρ}
  (hrun:∀ x,ze9 cx' fn c sg (A.enc x)=out (fun r=>some (res r)) (F x))
  (hchk:∀ x,(Nat.ble (A.enc x).length fn.ntmps&&((sg.upd.all fun u=> !u)&&Nat.beq sg.upd.length (znY (A.enc x))))=true):
  Sound P cx f (zk A fun x=>((F x).1,res (F x).2)) where
 enters:=hent
 calls:=fun as r hs w F' vs hF ha hsep=>by
  unfold zk at hs
  split at hs
  ·rename_i x hx
   simp only [Option.some.injEq,Prod.mk.injEq] at hs
   obtain ⟨hpre,rfl⟩:=hs
   have hk:=A.kind vs as x hx
   have hr:ze9 cx' fn c sg (A.enc x)=some (res (F x).2):=by rw [hrun]; unfold out; rw [hpre]; rfl
   have hc:=hchk x
   simp only [Bool.and_eq_true] at hc
   have:=zCt hm (hcx.cg hsame.s) (fun g s hg=>(hspec g s hg).cg hsame) hf hb hl hr hc.1 (by simp only [Bool.and_eq_true]; exact hc.2) w F' vs hF ((A.ok P hcx F' w vs as x hx ha).imp fun _ _=>zgJ.cg hsame.s) ((hk ▸ hsep).cg hsame.s)
   refine this.mono fun e w' ⟨v,he,hp⟩=>⟨v,he, ?_⟩
   rw [hk]; exact hp.cg hsame.s.symm fun e=>hsame.dr ▸ e
  ·cases hs
end
structure LD (ty:Nat→Type) (α:Type) where
 dec:AV ty→Option α
 enc:α→AV ty
 ok:∀ a x,dec a=some x→a=enc x
structure LL (ty:Nat→Type) (α:Type) where
 dec:List (AV ty)→Option α
 enc:α→List (AV ty)
 ok:∀ a x,dec a=some x→a=enc x
structure BL (ty:Nat→Type) (α:Type) where
 dec:List (Blk ty)→Option α
 enc:α→List (Blk ty)
 ok:∀ a x,dec a=some x→a=enc x
section
variable {α β:Type}
def lInt (k:IntKind):LD ty Int where
 dec:=fun a=>match a with | .lit (.int k' n)=>if k'=k then some n else none | _=>none
 enc:=fun n=>.lit (.int k n)
 ok:=fun a x h=>by
  split at h
  ·split at h
   ·rename_i hk; subst hk; simp only [Option.some.injEq] at h; subst h; rfl
   ·cases h
  ·cases h
def zFg:LD ty Bool where
 dec:=fun a=>match a with | .lit (.bool b)=>some b | _=>none
 enc:=fun b=>.lit (.bool b)
 ok:=fun a x h=>by
  split at h
  ·simp only [Option.some.injEq] at h; subst h; rfl
  ·cases h
def lStr:LD ty ByteArray where
 dec:=fun a=>match a with | .lit (.string s)=>some s | _=>none
 enc:=fun s=>.lit (.string s)
 ok:=fun a x h=>by
  split at h
  ·simp only [Option.some.injEq] at h; subst h; rfl
  ·cases h
def lNil:LD ty Unit where
 dec:=fun a=>match a with | .lit (.slice none 0 0)=>some () | _=>none
 enc:=fun _=>.lit (.slice none 0 0)
 ok:=fun a x h=>by
  split at h
  ·rfl
  ·cases h
def lSl (T:Nat):LD ty (List (ty T)) where
 dec:=fun a=>match a with | .sl T' l=>zp0 T' T l | _=>none
 enc:=fun l=>.sl T l
 ok:=fun a x h=>by
  split at h
  ·obtain ⟨rfl,rfl⟩:=zos h; rfl
  ·cases h
def lOwn (id:Nat):LD ty Unit where
 dec:=fun a=>match a with | .own j=>(match Nat.beq j id with | true=>some () | false=>none) | _=>none
 enc:=fun _=>.own id
 ok:=fun a x h=>by
  split at h
  ·split at h
   ·rename_i hb; rw [Nat.eq_of_beq_eq_true hb]
   ·cases h
  ·cases h
def lMp (id:Nat):LD ty Unit where
 dec:=fun a=>match a with | .mp j=>(match Nat.beq j id with | true=>some () | false=>none) | _=>none
 enc:=fun _=>.mp id
 ok:=fun a x h=>by
  split at h
  ·split at h
   ·rename_i hb; rw [Nat.eq_of_beq_eq_true hb]
   ·cases h
  ·cases h
def zbW (id off:Nat):LD ty Unit where
 dec:=fun a=>match a with | .ptr j o=>(match Nat.beq j id&&Nat.beq o off with | true=>some () | false=>none) | _=>none
 enc:=fun _=>.ptr id off
 ok:=fun a x h=>by
  split at h
  ·split at h
   ·rename_i hb; rw [Bool.and_eq_true] at hb; rw [Nat.eq_of_beq_eq_true hb.1,Nat.eq_of_beq_eq_true hb.2]
   ·cases h
  ·cases h
def zBw (d:LL ty α) (off:Nat):LD ty α where
 dec:=fun a=>match a with | .bptr cs o=>(match Nat.beq o off with | true=>d.dec cs | false=>none) | _=>none
 enc:=fun x=>.bptr (d.enc x) off
 ok:=fun a x h=>by
  split at h
  ·split at h
   ·rename_i hb; rw [Nat.eq_of_beq_eq_true hb,d.ok _ _ h]
   ·cases h
  ·cases h
def zdP (f:α→β) (g:β→α) (hgf:∀ x,g (f x)=x) (d:LL ty α):LL ty β where
 dec:=fun as=>match d.dec as with
  | some x=>some (f x)
  | none=>none
 enc:=fun y=>d.enc (g y)
 ok:=fun a x h=>by
  split at h
  ·rename_i y hy
   simp only [Option.some.injEq] at h; subst h
   rw [hgf,d.ok _ _ hy]
  ·cases h
def isL {α β:Type}:α⊕β→Bool
 | .inl _=>true
 | .inr _=>false
def getL {α β:Type} [Inhabited α]:α⊕β→α
 | .inl a=>a
 | .inr _=>default
def getR {α β:Type} [Inhabited β]:α⊕β→β
 | .inl _=>default
 | .inr b=>b
def lFn (f:Nat) (d:LL ty α):LD ty α where
 dec:=fun a=>match a with | .fn g cs=>(match Nat.beq g f with | true=>d.dec cs | false=>none) | _=>none
 enc:=fun x=>.fn f (d.enc x)
 ok:=fun a x h=>by
  split at h
  ·split at h
   ·rename_i hb; rw [Nat.eq_of_beq_eq_true hb,d.ok _ _ h]
   ·cases h
  ·cases h
def zD:LL ty Unit where
 dec:=fun as=>match as with | []=>some () | _=>none
 enc:=fun _=>[]
 ok:=fun a x h=>by
  split at h
  ·rfl
  ·cases h
def za (d:LD ty α) (r:LL ty β):LL ty (α×β) where
 dec:=fun as=>match as with
  | a::as=>match d.dec a with
   | some x=>match r.dec as with
    | some y=>some (x,y)
    | none=>none
   | none=>none
  | _=>none
 enc:=fun x=>d.enc x.1::r.enc x.2
 ok:=fun a x h=>by
  split at h
  ·split at h
   ·rename_i x1 h1
    split at h
    ·rename_i y h2
     simp only [Option.some.injEq] at h; subst h
     rw [d.ok _ _ h1,r.ok _ _ h2]
    ·cases h
   ·cases h
  ·cases h
def bNil:BL ty Unit where
 dec:=fun as=>match as with | []=>some () | _=>none
 enc:=fun _=>[]
 ok:=fun a x h=>by
  split at h
  ·rfl
  ·cases h
def zHB (V V':Nat) (l:List (Value×ty V)):Option (List (Value×ty V')):=if h:V=V' then some (h ▸ l) else none
theorem zHG {V V':Nat} {l:List (Value×ty V)} {l':List (Value×ty V')} (h:zHB V V' l=some l'):∃ e:V=V',e ▸ l=l':=by
 unfold zHB at h
 split at h
 ·rename_i e; exact ⟨e,Option.some.inj h⟩
 ·cases h
def bMp (K V:Nat) (fz:Bool) (r:BL ty β):BL ty (List (Value×ty V)×β) where
 dec:=fun as=>match as with
  | .mp K' V' l fz'::as=>match Nat.beq K' K,zHB V' V l,r.dec as with
   | true,some l,some y=>if fz'=fz then some (l,y) else none
   | _,_,_=>none
  | _=>none
 enc:=fun x=>.mp K V x.1 fz::r.enc x.2
 ok:=fun a x h=>by
  split at h
  ·split at h
   ·rename_i hk hl h2
    split at h
    ·rename_i hfz
     simp only [Option.some.injEq] at h; subst h
     obtain ⟨rfl,rfl⟩:=zHG hl
     rw [Nat.eq_of_beq_eq_true hk,hfz,r.ok _ _ h2]
    ·cases h
   ·cases h
  ·cases h
def bArr (T:Nat) (fz:Bool) (r:BL ty β):BL ty (List (ty T)×β) where
 dec:=fun as=>match as with
  | .arr T' l fz'::as=>match zp0 T' T l with
   | some l=>match r.dec as with
    | some y=>if fz'=fz then some (l,y) else none
    | none=>none
   | none=>none
  | _=>none
 enc:=fun x=>.arr T x.1 fz::r.enc x.2
 ok:=fun a x h=>by
  split at h
  ·split at h
   ·rename_i l hl
    split at h
    ·rename_i y h2
     split at h
     ·rename_i hfz
      simp only [Option.some.injEq] at h; subst h; subst hfz
      obtain ⟨rfl,rfl⟩:=zos hl
      rw [r.ok _ _ h2]
     ·cases h
    ·cases h
   ·cases h
  ·cases h
def bBox (d:LL ty α) (fz:Bool) (r:BL ty β):BL ty (α×β) where
 dec:=fun as=>match as with
  | .box cs fz'::as=>match d.dec cs with
   | some x=>match r.dec as with
    | some y=>if fz'=fz then some (x,y) else none
    | none=>none
   | none=>none
  | _=>none
 enc:=fun x=>.box (d.enc x.1) fz::r.enc x.2
 ok:=fun a x h=>by
  split at h
  ·split at h
   ·rename_i l hl
    split at h
    ·rename_i y h2
     split at h
     ·rename_i hfz
      simp only [Option.some.injEq] at h; subst h; subst hfz
      rw [r.ok _ _ h2,d.ok _ _ hl]
     ·cases h
    ·cases h
   ·cases h
  ·cases h
def zDe (V:LL ty α) (B:BL ty β) (G:α→β→Bool×LTree ty):zoo ty:=fun vals bs=>match V.dec vals with
 | some x=>match B.dec bs with
  | some y=>some (G x y)
  | none=>none
 | none=>none
theorem zIy {cx:Cx ty} {c:Code} {V:LL ty α} {B:BL ty β} {ρ:Type} {tr:ρ→LTree ty} {L:Nat→α→β→Bool×ρ} {m:α→β→Nat}
  (h:∀ (R:Type) (K:Ex→List (AV ty)→List (Blk ty)→Option R) n x y,zzG cx c K n (V.enc x) (B.enc y)=out (fun r=>znm K (tr r)) (L n x y)):
  ∀ vals bs t,zDe V B (fun x y=>((L (m x y) x y).1,tr (L (m x y) x y).2)) vals bs=some (true,t)→zrw cx c vals bs t:=by
 intro vals bs t ht
 unfold zDe at ht
 split at ht
 ·rename_i x hx
  split at ht
  ·rename_i y hy
   simp only [Option.some.injEq,Prod.mk.injEq] at ht
   obtain ⟨h1,rfl⟩:=ht
   rw [V.ok _ _ hx,B.ok _ _ hy]
   refine ⟨m x y,fun R K=> ?_⟩
   rw [h R K]; unfold out; rw [h1]; rfl
  ·cases ht
 ·cases ht
end
def zKE:Ex→Nat
 | .ret=>0
 | .exit j=>j+1
 | .normal=>0
def zJq:List (Nat×Nat×List (Nat×LMode))→Nat→Ex→List (Nat×LMode)
 | [],_,_=>[]
 | (i,k,l)::r,j,ex=>match Nat.beq i j&&Nat.beq k (zKE ex) with
  | true=>l
  | false=>zJq r j ex
def zg0:Code→List Code
 | .seq a b=>zg0 a++zg0 b
 | .cond _ a b=>zg0 a++zg0 b
 | .block _ c=>zg0 c
 | .loop c=>c::zg0 c
 | _=>[]
def All {α:Type} (Q:α→Prop):List α→Prop
 | []=>True
 | x::r=>Q x∧All Q r
def body (f:Func):Code:=f.body.getD .skip
def lp (c:Code) (i:Nat):Code:=(zg0 c).getD i .skip
def zW (cx:Cx ty) (c:Code):Prop:=∀ sp,cx.loops (zbd c)=some sp→∀ vals bs t,sp vals bs=some (true,t)→zrw cx c vals bs t
theorem All.mem {α:Type} {Q:α→Prop}:∀ {l:List α},All Q l→∀ x∈l,Q x
 | [],_,x,h=>by cases h
 | y::r,h,x,hx=>by
  rcases List.mem_cons.1 hx with rfl | hx
  ·exact h.1
  ·exact All.mem h.2 x hx
def zht:Code→List Code
 | .seq a b=>b::(zht a++zht b)
 | .cond _ a b=>zht a++zht b
 | .block _ c=>zht c
 | .loop c=>zht c
 | _=>[]
def zzh (cx:Cx ty) (c:Code):Prop:=∀ sp,cx.joins (zbd c)=some sp→∀ vals bs t,sp vals bs=some (true,t)→zIe cx c vals bs t
theorem zju (cx:Cx ty):∀ (c:Code),(∀ x∈zg0 c,zW cx x)→(∀ x∈zht c,zzh cx x)→ziJ cx c
 | .seq a b,h,g=>⟨zju cx a (fun x hx=>h x (by simp [zg0,hx])) fun x hx=>g x (by simp [zht,hx]),zju cx b (fun x hx=>h x (by simp [zg0,hx])) fun x hx=>g x (by simp [zht,hx]),g b (by simp [zht])⟩
 | .cond _ a b,h,g=>⟨zju cx a (fun x hx=>h x (by simp [zg0,hx])) fun x hx=>g x (by simp [zht,hx]),zju cx b (fun x hx=>h x (by simp [zg0,hx])) fun x hx=>g x (by simp [zht,hx])⟩
 | .block _ c,h,g=>zju cx c (fun x hx=>h x (by simpa [zg0] using hx)) fun x hx=>g x (by simpa [zht] using hx)
 | .loop c,h,g=>⟨zju cx c (fun x hx=>h x (by simp [zg0,hx])) fun x hx=>g x (by simpa [zht] using hx),h c (by simp [zg0])⟩
 | .skip,_,_=>trivial
 | .region ..,_,_=>trivial
 | .exit _,_,_=>trivial
 | .ret,_,_=>trivial
 | .label _,_,_=>trivial
 | .goto _,_,_=>trivial
 | .scope _,_,_=>trivial
 | .rangeFunc ..,_,_=>trivial
 | .refuse _,_,_=>trivial
theorem zh {cx:Cx ty} {c:Code} {l:List Code} (h:zg0 c=l) (ha:All (zW cx) l) (hj:∀ i,cx.joins i=none:=by intro _; rfl):ziJ cx c:=zju cx c (fun x hx=>All.mem ha x (h ▸ hx)) fun x _ sp hs=>by rw [hj] at hs; cases hs
theorem zE5 {cx:Cx ty} {c:Code} {l js:List Code} (h:zg0 c=l) (ha:All (zW cx) l) (hj:(zht c).filter (fun x=>(cx.joins (zbd x)).isSome)=js) (hb:All (zzh cx) js):ziJ cx c:=
 zju cx c (fun x hx=>All.mem ha x (h ▸ hx)) fun x hx sp hs=>All.mem hb x (hj ▸ List.mem_filter.2 ⟨hx,by rw [hs]; rfl⟩) sp hs
def jn (c:Code) (i:Nat):Code:=((zht c).filter fun x=>Nat.beq (zbd x) i).getD 0 .skip
theorem zHV {cx:Cx ty} {c:Code} {id:Nat} {sp:zoo ty} (hid:zbd c=id) (hl:cx.loops id=some sp) (h:∀ vals bs t,sp vals bs=some (true,t)→zrw cx c vals bs t):zW cx c:=by
 intro sp' hs
 rw [hid,hl] at hs
 obtain rfl:=Option.some.inj hs
 exact h
theorem zbm {P:Program} {cx:Cx ty} {α:Type} {f:Nat} {A:AL cx α} {G:α→Bool×ARes ty} (hent:∀ args w,(callFunc f args).run P w=.ok (.enter f args) w) (h:∀ x,(G x).1=false):Sound P cx f (zk A G) where
 enters:=hent
 calls:=fun as r hs=>by
  unfold zk at hs
  split at hs
  ·rename_i x hx
   simp only [Option.some.injEq] at hs
   have:=h x
   rw [hs] at this; cases this
  ·cases hs
theorem zGH {P:Program} {cx:Cx ty} (l:List (Nat×Spec ty)) (h:All (fun p=>Sound P cx p.1 p.2) l):∀ g s,l.lookup g=some s→Sound P cx g s:=by
 induction l with
 | nil=>intro g s h; simp at h
 | cons p r ih=>
  intro g s hg
  obtain ⟨f0,s0⟩:=p
  simp only [List.lookup_cons] at hg
  split at hg
  ·rename_i hb
   have:=beq_iff_eq.1 hb
   simp only [Option.some.injEq] at hg
   subst this hg
   exact h.1
  ·exact ih h.2 g s hg
end
end Go.Ab
/- Typed data as cells: zDV, and their laws. -/
namespace Go.Ab
noncomputable section
variable {ty:Nat→Type}
def zKo (c:AV ty):Prop:=match c with | .lit v=>zO v=true | .agg _ | .tup _ | .dead=>False | _=>True
structure DT (ty:Nat→Type) (α:Type) where
 size:Nat
 dec:List (AV ty)→Option α
 enc:α→List (AV ty)
 len:∀ x,(enc x).length=size
 cell:∀ x c,c∈enc x→zKo c
 ok:∀ (cx:Cx ty) (F:Nat→Prop) (w:World) (us:List Value) (cs:List (AV ty)) (x:α),dec cs=some x→All2 (Rep cx F w) us cs→All2 (Rep cx F w) us (enc x)
def zhk (k:IntKind):DT ty Int where
 size:=1
 dec:=fun cs=>match cs with | [.lit (.int k' n)]=>if k'=k then some n else none | _=>none
 enc:=fun n=>[.lit (.int k n)]
 len:=fun _=>rfl
 cell:=fun x c h=>by simp at h; subst h; rfl
 ok:=fun cx F w us cs x h hr=>by
  split at h
  ·split at h
   ·rename_i hk; subst hk; simp only [Option.some.injEq] at h; subst h; exact hr
   ·cases h
  ·cases h
def zKb:DT ty Bool where
 size:=1
 dec:=fun cs=>match cs with | [.lit (.bool n)]=>some n | _=>none
 enc:=fun n=>[.lit (.bool n)]
 len:=fun _=>rfl
 cell:=fun x c h=>by simp at h; subst h; rfl
 ok:=fun cx F w us cs x h hr=>by
  split at h
  ·simp only [Option.some.injEq] at h; subst h; exact hr
  ·cases h
def zE8:DT ty ByteArray where
 size:=1
 dec:=fun cs=>match cs with | [.lit (.string n)]=>some n | _=>none
 enc:=fun n=>[.lit (.string n)]
 len:=fun _=>rfl
 cell:=fun x c h=>by simp at h; subst h; rfl
 ok:=fun cx F w us cs x h hr=>by
  split at h
  ·simp only [Option.some.injEq] at h; subst h; exact hr
  ·cases h
def dtMp:DT ty Unit where
 size:=1
 dec:=fun _=>none
 enc:=fun _=>[.lit (.map none)]
 len:=fun _=>rfl
 cell:=fun x c h=>by simp at h; subst h; rfl
 ok:=fun cx F w us cs x h hr=>by cases h
def dtSl (e:Nat):DT ty (List (ty e)) where
 size:=1
 dec:=fun cs=>match cs with | [a]=>toSl e a | _=>none
 enc:=fun l=>[.sl e l]
 len:=fun _=>rfl
 cell:=fun x c h=>by simp at h; subst h; trivial
 ok:=fun cx F w us cs x h hr=>by
  split at h
  ·obtain ⟨u,us,rfl,hu,hus⟩:=hr.inv
   rw [hus.nil_left.1]
   exact .cons (zvg hu h) .nil
  ·cases h
def zc4 {α β:Type} (a:DT ty α) (b:DT ty β):DT ty (α×β) where
 size:=a.size+b.size
 dec:=fun cs=>match a.dec (cs.take a.size),b.dec (cs.drop a.size) with
  | some x,some y=>some (x,y)
  | _,_=>none
 enc:=fun x=>a.enc x.1++b.enc x.2
 len:=fun x=>by rw [List.length_append,a.len,b.len]
 cell:=fun x c h=>by
  rcases List.mem_append.1 h with h | h
  ·exact a.cell _ c h
  ·exact b.cell _ c h
 ok:=fun cx F w us cs x h hr=>by
  split at h
  ·rename_i x1 y1 h1 h2
   simp only [Option.some.injEq] at h; subst h
   have e1:=a.ok cx F w _ _ x1 h1 (hr.take a.size)
   have e2:=b.ok cx F w _ _ y1 h2 (hr.drop a.size)
   have:=e1.append e2
   rwa [List.take_append_drop] at this
  ·cases h
def zkW {α β:Type} (f:α→β) (g:β→α) (hgf:∀ x,g (f x)=x) (a:DT ty α):DT ty β where
 size:=a.size
 dec:=fun cs=>match a.dec cs with
  | some x=>some (f x)
  | none=>none
 enc:=fun y=>a.enc (g y)
 len:=fun y=>a.len _
 cell:=fun y c h=>a.cell _ c h
 ok:=fun cx F w us cs x h hr=>by
  split at h
  ·rename_i x1 h1
   simp only [Option.some.injEq] at h; subst h
   rw [hgf]
   exact a.ok cx F w us cs x1 h1 hr
  ·cases h
def zKB {α:Type}:DT ty α where
 size:=0
 dec:=fun _=>none
 enc:=fun _=>[]
 len:=fun _=>rfl
 cell:=fun x c h=>by cases h
 ok:=fun cx F w us cs x h hr=>by cases h
def tabT:List ((T:Nat)×DT ty (ty T))→(T:Nat)→DT ty (ty T)
 | [],_=>zKB
 | ⟨T',d⟩::r,T=>if h:T'=T then h ▸ d else tabT r T
theorem zFP:∀ (l:List ((T:Nat)×DT ty (ty T))) (tis:List (Nat×TInfo)),(l.map fun p=>(p.1,p.2.size))=(tis.map fun p=>(p.1,p.2.size))→∀ T,(tabT l T).size=match tis.lookup T with | some i=>i.size | none=>0
 | [],[],_,T=>rfl
 | [],_::_,h,T=>by simp at h
 | _::_,[],h,T=>by simp at h
 | ⟨T',d⟩::r,(T2,i)::tis,h,T=>by
  simp only [List.map_cons,List.cons.injEq,Prod.mk.injEq] at h
  obtain ⟨⟨rfl,hs⟩,hr⟩:=h
  simp only [tabT,List.lookup_cons]
  by_cases hT:T'=T
  ·subst hT
   simp [hs]
  ·have:(T==T')=false:=by simp; exact fun h=>hT h.symm
   rw [dif_neg hT,this]
   exact zFP r tis hr T
theorem zuH {α:Type}:∀ (l:List (Nat×α)) (T:Nat) (x:α),l.lookup T=some x→(T,x)∈l
 | [],T,x,h=>by simp at h
 | (T',y)::r,T,x,h=>by
  simp only [List.lookup_cons] at h
  split at h
  ·rename_i hb
   have:=beq_iff_eq.1 hb
   simp only [Option.some.injEq] at h
   subst this h
   simp
  ·exact List.mem_cons_of_mem _ (zuH r T x h)
def zM:List TD→List Value→List Value→Option Bool
 | [],[],[]=>some true
 | .int k::ts,.int k1 a::us,.int k2 b::vs=>match zM ts us vs with
  | some r=>if k1=k∧k2=k then some (a==b&&r) else none
  | none=>none
 | .bool::ts,.bool a::us,.bool b::vs=>match zM ts us vs with
  | some r=>some (a==b&&r)
  | none=>none
 | .str::ts,.string a::us,.string b::vs=>match zM ts us vs with
  | some r=>some (a.toList==b.toList&&r)
  | none=>none
 | _,_,_=>none
def zDH (e:TypeDesc):Prop:=match e with | .struct _ | .array _ _=>False | _=>True
theorem zAC (P:Program) (d:Nat) (xs ys:Array Value) (w:World):∀ (ts:List TD) (fs:List Field) (us vs:List Value) (i:Nat) (r:Bool),fs.length=ts.length→
  (∀ (j:Nat) f t,fs[j]? =some f→ts[j]? =some t→f.offset=i+j∧f.name≠ "_"∧∃ e,P.underlying f.type=some e∧TDok P t e)→xs.toList.drop i=us→ys.toList.drop i=vs→zM ts us vs=some r→
  (Op.eqFields (d+1) xs ys fs).run P w=.ok r w
 | [],fs,us,vs,i,r,hl,hf,hu,hv,h=>by
  obtain rfl:fs=[]:=List.eq_nil_of_length_eq_zero hl
  cases us <;>cases vs <;>simp [zM] at h
  subst h
  simp [Op.eqFields]
 | t::ts,[],us,vs,i,r,hl,hf,hu,hv,h=>by simp at hl
 | t::ts,f::fs,us,vs,i,r,hl,hf,hu,hv,h=>by
  obtain ⟨h1,h2,e,h3,h4⟩:=hf 0 f t rfl rfl
  have hrest:∀ (u v:Value) (us' vs':List Value) (r':Bool),us=u::us'→vs=v::vs'→zM ts us' vs'=some r'→(Op.eqFields (d+1) xs ys fs).run P w=.ok r' w:=by
   intro u v us' vs' r' e1 e2 he
   refine zAC P d xs ys w ts fs us' vs' (i+1) r' (by simpa using hl) (fun j f' t' hj ht=> ?_) ?_ ?_ he
   ·have:=hf (j+1) f' t' (by simpa using hj) (by simpa using ht)
    rw [show i+1+j=i+(j+1) by omega]; exact this
   ·rw [← List.drop_drop,hu,e1]; rfl
   ·rw [← List.drop_drop,hv,e2]; rfl
  have hget:∀ (zs:Array Value) (z:Value) (zs':List Value),zs.toList.drop i=z::zs'→zs[f.offset]? =some z:=fun zs z zs' hz=>by
   rw [h1]
   have:(zs.toList.drop i)[0]? =some z:=by rw [hz]; rfl
   rw [List.getElem?_drop] at this
   simpa using this
  have hpart:∀ (zs:Array Value) (z:Value),zs[f.offset]? =some z→zDH e→(part f.type zs f.offset).run P w=.ok z w:=by
   intro zs z hz hno
   have:(isAgg f.type).run P w=.ok false w:=by cases e <;>simp_all [isAgg,run_underlying h3,zDH]
   simp [part,this,hz]
  have step:∀ (u v:Value) (us' vs':List Value) (q r':Bool),us=u::us'→vs=v::vs'→zM ts us' vs'=some r'→(Op.equalIn (d+1) f.type u v).run P w=.ok q w→zDH e→
    (Op.eqFields (d+1) xs ys (f::fs)).run P w=.ok (q&&r') w:=by
   intro u v us' vs' q r' e1 e2 he hq hno
   have p1:=hpart xs u (hget xs u us' (hu.trans e1)) hno
   have p2:=hpart ys v (hget ys v vs' (hv.trans e2)) hno
   have hr:=hrest u v us' vs' r' e1 e2 he
   simp only [Op.eqFields,if_pos h2,Sem.run_bind,p1,p2,Result.andThen_ok,hq,Sem.run_ite]
   cases q
   ·simp
   ·simp [hr]
  cases t with
  | int k=>
   cases us with
   | nil=>simp [zM] at h
   | cons u us=>cases vs with
    | nil=>cases u <;>simp [zM] at h
    | cons v vs=>
     cases u <;>cases v <;>simp only [zM,reduceCtorEq] at h
     split at h
     ·rename_i r' he
      split at h
      ·rename_i hk
       obtain ⟨rfl,rfl⟩:=hk
       simp only [Option.some.injEq] at h; subst h
       simp only [TDok] at h4
       subst h4
       exact step _ _ us vs _ r' rfl rfl he (run_equalIn_int w d f.type _ _ _ _ h3) trivial
      ·cases h
     ·cases h
  | bool=>
   cases us with
   | nil=>simp [zM] at h
   | cons u us=>cases vs with
    | nil=>cases u <;>simp [zM] at h
    | cons v vs=>
     cases u <;>cases v <;>simp only [zM,reduceCtorEq] at h
     split at h
     ·rename_i r' he
      simp only [Option.some.injEq] at h; subst h
      simp only [TDok] at h4
      subst h4
      exact step _ _ us vs _ r' rfl rfl he (run_equalIn_bool' w d f.type _ _ h3) trivial
     ·cases h
  | str=>
   cases us with
   | nil=>simp [zM] at h
   | cons u us=>cases vs with
    | nil=>cases u <;>simp [zM] at h
    | cons v vs=>
     cases u <;>cases v <;>simp only [zM,reduceCtorEq] at h
     split at h
     ·rename_i r' he
      simp only [Option.some.injEq] at h; subst h
      simp only [TDok] at h4
      subst h4
      exact step _ _ us vs _ r' rfl rfl he (run_equalIn_string w d f.type _ _ h3) trivial
     ·cases h
  | slice _=>cases us <;>simp [zM] at h
  | struct _=>cases us <;>simp [zM] at h
  | iface=>cases us <;>simp [zM] at h
  | map _ _=>cases us <;>simp [zM] at h
  | other=>cases us <;>simp [zM] at h
theorem zB7:∀ (ts:List TD) (us:List Value) (b:Bool),zM ts us us=some b→b=true
 | [],us,b,h=>by
  cases us with
  | nil=>simp only [zM,Option.some.injEq] at h; exact h.symm
  | cons u us=>simp [zM] at h
 | t::ts,us,b,h=>by
  cases us with
  | nil=>cases t <;>simp [zM] at h
  | cons u us=>
   cases t <;>cases u <;>simp only [zM,reduceCtorEq] at h
   all_goals
    cases hr:zM ts us us with
    | none=>rw [hr] at h; cases h
    | some r=>
     have:=zB7 ts us r hr
     subst this
     rw [hr] at h
     simp at h
     first | exact h | exact h.2 | exact h.symm | exact h.2.symm
theorem zDw:∀ (ts:List TD) (us vs:List Value),zM ts us us=some true→zM ts vs vs=some true→zM ts us vs=some (zmX us vs)∧(zmX us vs=true→us=vs)∧∀ u∈us,∀ n,Instr.sameBits n u u=true
 | [],us,vs,hu,hv=>by
  cases us <;>cases vs <;>simp [zM] at hu hv ⊢
  simp [zmX]
 | t::ts,us,vs,hu,hv=>by
  have fin:∀ (u v:Value) (us' vs':List Value),us=u::us'→vs=v::vs'→zM ts us' us'=some true→zM ts vs' vs'=some true→(∀ r,zM ts us' vs'=some r→zM (t::ts) (u::us') (v::vs')=some (zxE u v&&r))→
    (zxE u v=true→u=v)→(∀ n,Instr.sameBits n u u=true)→zM (t::ts) us vs=some (zmX us vs)∧(zmX us vs=true→us=vs)∧∀ u∈us,∀ n,Instr.sameBits n u u=true:=by
   rintro u v us' vs' rfl rfl h1 h2 h3 h4 h5
   obtain ⟨i1,i2,i3⟩:=zDw ts us' vs' h1 h2
   refine ⟨by rw [h3 _ i1]; rfl,fun h=> ?_,fun x hx=> ?_⟩
   ·simp only [zmX,Bool.and_eq_true] at h
    rw [h4 h.1,i2 h.2]
   ·rcases List.mem_cons.1 hx with rfl | hx
    ·exact h5
    ·exact i3 x hx
  cases t with
  | int k=>
   cases us with
   | nil=>simp [zM] at hu
   | cons u us=>cases vs with
    | nil=>simp [zM] at hv
    | cons v vs=>
     cases u <;>simp only [zM,reduceCtorEq] at hu
     cases v <;>simp only [zM,reduceCtorEq] at hv
     rename_i k1 a k2 b
     split at hu
     ·rename_i r hr
      split at hu
      ·rename_i hk
       split at hv
       ·rename_i r2 hr2
        split at hv
        ·rename_i hk2
         obtain ⟨rfl,_⟩:=hk
         obtain ⟨rfl,_⟩:=hk2
         simp only [beq_self_eq_true,Bool.true_and,Option.some.injEq] at hu hv; subst hu hv
         refine fin _ _ us vs rfl rfl hr hr2 (fun r he=>by simp [zM,he,zxE]) (fun h=>by simp [zxE] at h; rw [h]) (fun n=>by cases n <;>simp [Instr.sameBits])
        ·cases hv
       ·cases hv
      ·cases hu
     ·cases hu
  | bool=>
   cases us with
   | nil=>simp [zM] at hu
   | cons u us=>cases vs with
    | nil=>simp [zM] at hv
    | cons v vs=>
     cases u <;>simp only [zM,reduceCtorEq] at hu
     cases v <;>simp only [zM,reduceCtorEq] at hv
     split at hu
     ·rename_i r hr
      split at hv
      ·rename_i r2 hr2
       simp only [beq_self_eq_true,Bool.true_and,Option.some.injEq] at hu hv; subst hu hv
       refine fin _ _ us vs rfl rfl hr hr2 (fun r he=>by simp [zM,he,zxE]) (fun h=>by simp [zxE] at h; rw [h]) (fun n=>by cases n <;>simp [Instr.sameBits])
      ·cases hv
     ·cases hu
  | str=>
   cases us with
   | nil=>simp [zM] at hu
   | cons u us=>cases vs with
    | nil=>simp [zM] at hv
    | cons v vs=>
     cases u <;>simp only [zM,reduceCtorEq] at hu
     cases v <;>simp only [zM,reduceCtorEq] at hv
     rename_i a b
     split at hu
     ·rename_i r hr
      split at hv
      ·rename_i r2 hr2
       simp only [beq_self_eq_true,Bool.true_and,Option.some.injEq] at hu hv; subst hu hv
       refine fin _ _ us vs rfl rfl hr hr2 (fun r he=>by simp [zM,he,zxE]) (fun h=> ?_) (fun n=> ?_)
       ·have h:(a.toList==b.toList)=true:=h
        rw [beq_iff_eq] at h
        rw [ByteArray.toList_eq,ByteArray.toList_eq] at h
        have:a=b:=by cases a; cases b; congr 1; exact Array.toList_inj.1 h
        rw [this]
       ·have:(a==a)=true:=by
         obtain ⟨a⟩:=a
         show (a==a)=true
         simp
        cases n <;>simp only [Instr.sameBits,this]
      ·cases hv
     ·cases hu
  | slice _=>cases us <;>simp [zM] at hu
  | struct _=>cases us <;>simp [zM] at hu
  | iface=>cases us <;>simp [zM] at hu
  | map _ _=>cases us <;>simp [zM] at hu
  | other=>cases us <;>simp [zM] at hu
theorem zGD {t:TD} {ts:List TD} {u:Value} {us vs:List Value} {b:Bool} (h:zM (t::ts) (u::us) vs=some b):
  (∃ v vs' r,vs=v::vs'∧zM ts us vs'=some r)∧((∃ k a,t=.int k∧u=.int k a)∨(∃ a,t=.bool∧u=.bool a)∨∃ a,t=.str∧u=.string a):=by
 cases vs with
 | nil=>cases t <;>cases u <;>simp [zM] at h
 | cons v vs=>cases t with
  | int k=>
   cases u <;>cases v <;>simp only [zM,reduceCtorEq] at h
   split at h
   ·rename_i r hr
    split at h
    ·rename_i hk
     obtain ⟨rfl,_⟩:=hk
     exact ⟨⟨_,_,_,rfl,hr⟩,.inl ⟨_,_,rfl,rfl⟩⟩
    ·cases h
   ·cases h
  | bool=>
   cases u <;>cases v <;>simp only [zM,reduceCtorEq] at h
   split at h
   ·rename_i r hr
    exact ⟨⟨_,_,_,rfl,hr⟩,.inr (.inl ⟨_,rfl,rfl⟩)⟩
   ·cases h
  | str=>
   cases u <;>cases v <;>simp only [zM,reduceCtorEq] at h
   split at h
   ·rename_i r hr
    exact ⟨⟨_,_,_,rfl,hr⟩,.inr (.inr ⟨_,rfl,rfl⟩)⟩
   ·cases h
  | slice _=>simp [zM] at h
  | struct _=>simp [zM] at h
  | iface=>simp [zM] at h
  | map _ _=>simp [zM] at h
  | other=>simp [zM] at h
theorem zD4 {P:Program} {T:Nat} {t:TD} {e:TypeDesc} (h3:P.underlying T=some e) (h4:TDok P t e) {u:Value} (hl:(∃ k a,t=.int k∧u=.int k a)∨(∃ a,t=.bool∧u=.bool a)∨∃ a,t=.str∧u=.string a) (em:Bool) (n:Nat) (w:World):
  (Instr.checkKey em (n+1) T u).run P w=.ok () w∧zDH e:=by
 rcases hl with ⟨k,a,rfl,rfl⟩ | ⟨a,rfl,rfl⟩ | ⟨a,rfl,rfl⟩ <;>simp only [TDok] at h4 <;>subst h4 <;>exact ⟨by simp [Instr.checkKey,run_underlying h3],trivial⟩
theorem zGe {P:Program} (em:Bool) (n:Nat) (xs:Array Value) (w:World):∀ (ts:List TD) (fs:List Field) (us vs:List Value) (i:Nat) (r:Bool),fs.length=ts.length→
  (∀ (j:Nat) f t,fs[j]? =some f→ts[j]? =some t→f.offset=i+j∧f.name≠ "_"∧∃ e,P.underlying f.type=some e∧TDok P t e)→xs.toList.drop i=us→zM ts us vs=some r→
  (forIn fs PUnit.unit fun f _=>do
   if f.name≠ "_" then Instr.checkKey em (n+1) f.type (← part f.type xs f.offset)
   pure (ForInStep.yield PUnit.unit):Sem PUnit).run P w=.ok () w
 | [],fs,us,vs,i,r,hl,hf,hu,h=>by
  obtain rfl:fs=[]:=List.eq_nil_of_length_eq_zero hl
  rfl
 | t::ts,[],us,vs,i,r,hl,hf,hu,h=>by simp at hl
 | t::ts,f::fs,us,vs,i,r,hl,hf,hu,h=>by
  obtain ⟨h1,h2,e,h3,h4⟩:=hf 0 f t rfl rfl
  cases us with
  | nil=>cases t <;>cases vs <;>simp [zM] at h
  | cons u us=>
   obtain ⟨⟨v,vs',r',rfl,he⟩,hl'⟩:=zGD h
   obtain ⟨hck,hno⟩:=zD4 h3 h4 hl' em n w
   have hrest:=zGe em n xs w ts fs us vs' (i+1) r' (by simpa using hl) (fun j f' t' hj ht=>by
    have:=hf (j+1) f' t' (by simpa using hj) (by simpa using ht)
    rw [show i+1+j=i+(j+1) by omega]; exact this) (by rw [← List.drop_drop,hu]; rfl) he
   have hget:xs[f.offset]? =some u:=by
    rw [h1]
    have:(xs.toList.drop i)[0]? =some u:=by rw [hu]; rfl
    rw [List.getElem?_drop] at this
    simpa using this
   have hpart:(part f.type xs f.offset).run P w=.ok u w:=by
    have:(isAgg f.type).run P w=.ok false w:=by cases e <;>simp_all [isAgg,run_underlying h3,zDH]
    simp [part,this,hget]
   simp only [List.forIn_cons,ne_eq,if_pos h2,Sem.run_bind,hpart,hck,Result.andThen_ok,Sem.run_pure]
   simpa using hrest
theorem zz1 {P:Program} {T:Nat} (fs:List Field) (ts:List TD) (ht:P.underlying T=some (.struct fs.toArray)) (hp:P.stoodInHeld T=false) (hg:P.eqGuardType P.depth T=false) (hlen:fs.length=ts.length)
  (hf:∀ (j:Nat) f t,fs[j]? =some f→ts[j]? =some t→f.offset=0+j∧f.name≠ "_"∧∃ e,P.underlying f.type=some e∧TDok P t e) {us vs:List Value} {b:Bool} (h:zM ts us vs=some b) (w:World):
  zHj P T us vs b w:=by
 have hfo:P.fieldsOf T=fs.toArray:=by unfold Program.fieldsOf; rw [ht]
 have:(Op.equalIn (9999+1) T (.agg us.toArray) (.agg vs.toArray)).run P w=.ok b w:=by
  rw [run_equalIn_struct w 9999 T _ _ (by rw [hfo]; exact ht) hp,hfo]
  exact zAC P 9998 us.toArray vs.toArray w ts fs us vs 0 b hlen hf (by simp) (by simp) h
 refine ⟨?_, ?_,fun op x y=>run_eqGuard_agg w op T x y _ _ hg,this,fun e n=> ?_,_,ht⟩
 ·rw [run_eql_struct,this]; rfl
 ·rw [run_neq_struct,this]; rfl
 ·have hk:=zGe (P:=P) e n us.toArray w ts fs us vs 0 b hlen hf (by simp) h
  rw [Instr.checkKey]
  simp only [Sem.run_bind,run_underlying ht,Result.andThen_ok]
  simp only [List.forIn_toArray]
  exact (congrArg (fun z=>Result.andThen z fun a w'=>Result.ok () w') (by simpa using hk)).trans rfl
end
end Go.Ab
/- What is read of an argument is typed data. -/
namespace Go.Ab
noncomputable section
variable {ty:Nat→Type}
section
variable {P:Program} {cx:Cx ty} {W:(T:Nat)→ty T→Prop}
def In (w:World) (b:Nat):Prop:=b<w.heap.size
def zk0 (P:Program) (cx:Cx ty) (W:(T:Nat)→ty T→Prop) (T:Nat):Prop:=
 ∀ (H:Type) (en:TypeId×Value→H) (w:World) (sp:Nat→Bool) (held:Bool) (fuel:Nat) (cs:List Value) (y:DataW H×List MemPlace),DataW.trod en P w 0 sp held fuel T cs=some y→(DataW.weights P T y.1).all (· ≤reachBytes)=true→
  ∃ x:ty T,All2 (Rep cx (In w) w) cs (cx.enc T x)∧W T x
def zGm (P:Program) (cx:Cx ty) (W:(T:Nat)→ty T→Prop) (m:Nat) (T:Nat):Prop:=
 ∀ (H:Type) (en:TypeId×Value→H) (w:World) (sp:Nat→Bool) (held:Bool) (fuel:Nat) (cs:List Value) (y:DataW H×List MemPlace),fuel≤m→DataW.trod en P w 0 sp held fuel T cs=some y→(DataW.weights P T y.1).all (· ≤reachBytes)=true→
  ∃ x:ty T,All2 (Rep cx (In w) w) cs (cx.enc T x)∧W T x
theorem zk0.at {W:(T:Nat)→ty T→Prop} {T:Nat} (h:zk0 P cx W T) (m:Nat):zGm P cx W m T:=fun H en w sp held fuel cs y _=>h H en w sp held fuel cs y
def roomLen:Nat:=140737488351232
theorem zyS {H:Type} {P:Program} {e:Nat}:∀ {l:List (DataW H)},(DataW.weightsAll P e l).all (· ≤reachBytes)=true→∀ d∈l,(DataW.weights P e d).all (· ≤reachBytes)=true
 | [],_,d,hd=>by cases hd
 | x::r,h,d,hd=>by
  simp only [DataW.weightsAll,List.all_append,Bool.and_eq_true] at h
  rcases List.mem_cons.1 hd with rfl | hd
  ·exact h.1
  ·exact zyS h.2 d hd
theorem zw8 {H:Type} {P:Program}:∀ {ts:List TypeId} {l:List (DataW H)},(DataW.weightsEach P ts l).all (· ≤reachBytes)=true→∀ (i:Nat) (t:TypeId) (d:DataW H),ts[i]? =some t→l[i]? =some d→(DataW.weights P t d).all (· ≤reachBytes)=true
 | [],_,_,i,t,d,ht,_=>by simp at ht
 | _::_,[],_,i,t,d,_,hd=>by simp at hd
 | t0::ts,d0::l,h,i,t,d,ht,hd=>by
  simp only [DataW.weightsEach,List.all_append,Bool.and_eq_true] at h
  cases i with
  | zero=>simp only [List.getElem?_cons_zero,Option.some.injEq] at ht hd; subst ht hd; exact h.1
  | succ i=>exact zw8 h.2 i t d (by simpa using ht) (by simpa using hd)
theorem ztg {H:Type} {P:Program} {T:Nat} {fs:Array Field} (hu:P.underlying T=some (.struct fs)) {y:DataW H×List MemPlace} {xs:List (DataW H×List MemPlace)} {ps:List MemPlace} (hy:y=(.agg (xs.map (·.1)),ps))
  (hz:(DataW.weights P T y.1).all (· ≤reachBytes)=true):∀ (i:Nat) (f:Field),fs[i]? =some f→∀ x,xs[i]? =some x→(DataW.weights P f.type x.1).all (· ≤reachBytes)=true:=by
 intro i f hf x hx
 subst hy
 simp only [DataW.weights,hu] at hz
 exact zw8 hz i f.type x.1 (by simp [hf]) (by simp [hx])
theorem zzu {F:Nat→Prop} {w:World} {v:Value} {a:AV ty} (h:Rep cx F w v a):All2 (Rep cx F w) [v] [a]:=.cons h .nil
theorem zEB {T:Nat} {k:IntKind} (hu:P.underlying T=some (.int k)) (mk:Int→ty T) (he:∀ n,cx.enc T (mk n)=[.lit (.int k n)]) (hW:∀ n,(Lit.int k n).wf=true→W T (mk n)):zk0 P cx W T:=by
 intro H en w sp held fuel cs y h hz
 obtain ⟨n,rfl,_,hw⟩:=DataW.trod_int hu h
 exact ⟨mk n,by rw [he]; exact zzu (.lit _),hW n hw⟩
theorem zIr {T:Nat} (hu:P.underlying T=some .string) (mk:ByteArray→ty T) (he:∀ n,cx.enc T (mk n)=[.lit (.string n)]) (hW:∀ n:ByteArray,n.size≤roomLen→W T (mk n)):zk0 P cx W T:=by
 intro H en w sp held fuel cs y h hz
 obtain ⟨n,rfl,hy,hw⟩:=DataW.trod_string hu h
 refine ⟨mk n,by rw [he]; exact zzu (.lit _),hW n ?_⟩
 rw [hy] at hz
 simp only [DataW.weights,List.all_cons,List.all_nil,Bool.and_true,decide_eq_true_eq] at hz
 rw [show reachBytes=roomLen by decide] at hz
 exact hz
theorem zzs {α:Type} {Q:Nat→α→Prop}:∀ (n:Nat),(∀ i,i<n→∃ x,Q i x)→∃ l:List α,l.length=n∧∀ (i:Nat) x,l[i]? =some x→Q i x
 | 0,_=>⟨[],rfl,fun i x h=>by simp at h⟩
 | n+1,h=>by
  obtain ⟨l,hl,hQ⟩:=zzs n fun i hi=>h i (by omega)
  obtain ⟨x,hx⟩:=h n (by omega)
  refine ⟨l++[x],by simp [hl],fun i y hy=> ?_⟩
  rw [List.getElem?_append] at hy
  split at hy
  ·exact hQ i y hy
  ·rename_i hi
   have:i=n:=by
    have:=(List.getElem?_eq_some_iff.1 hy).1
    simp at this; omega
   subst this
   simp [hl] at hy
   subst hy; exact hx
theorem zGM {b off k:Nat}:(⟨b,off,none⟩:Addr).add k=⟨b,off+k,none⟩:=zdE b off k
theorem zFZ {m0:Nat} (hcx:CxOK P cx) {T e:Nat} (hu:P.underlying T=some (.slice e)) (hk:P.cellsOf e=szOf cx e) (hpos:0<szOf cx e) (mk:List (ty e)→ty T) (he:∀ l,cx.enc T (mk l)=[.sl e l]) (hb1:0<P.bytesOf e) (hr:zGm P cx W m0 e)
  (hW:∀ l:List (ty e),(∀ x∈l,W e x)→l.length≤roomLen→W T (mk l)):zGm P cx W (m0+1) T:=by
 intro H en w sp held fuel cs y hfu h hz
 rcases DataW.trod_slice hu h with ⟨rfl,_⟩ | ⟨a,len,cap,elems,rest,n,rfl,rfl,hy,hb,hlc,hcm,hel,hat,_,_⟩
 ·exact ⟨mk [],by rw [he]; exact zzu (.slE none 0 e fun _=>rfl),hW [] (by simp) (Nat.zero_le _)⟩
 ·-- the elements
  rw [hy] at hz
  simp only [DataW.weights,hu,List.all_cons,List.all_append,Bool.and_eq_true,decide_eq_true_eq,List.length_map] at hz
  obtain ⟨hz0,hz1,_⟩:=hz
  have hroom:len≤roomLen:=by
   have h1:elems.length+rest.length≤(elems.length+rest.length)*P.bytesOf e:=Nat.le_mul_of_pos_right _ hb1
   have h2:reachBytes=roomLen:=by decide
   omega
  have each:∀ i,i<len→∃ x:ty e,(∃ us,w.cells? 0 (a.add (i*szOf cx e)) (szOf cx e)=some us∧All2 (Rep cx (In w) w) us (cx.enc e x))∧W e x:=by
   intro i hi
   have:=hat i hi
   rw [List.getElem?_eq_getElem (by omega),hk] at this
   cases hc:w.cells? 0 (a.add (i*szOf cx e)) (szOf cx e) with
   | none=>rw [hc] at this; cases this
   | some us=>
    rw [hc] at this
    obtain ⟨x,hx,hw⟩:=hr H en w sp held n us _ (by omega) this (zyS hz1 _ (List.mem_map.2 ⟨_,List.getElem_mem _,rfl⟩))
    exact ⟨x,⟨us,rfl,hx⟩,hw⟩
  obtain ⟨l,hl,hQ⟩:=zzs len each
  refine ⟨mk l, ?_,hW l (fun x hx=> ?_) (by omega)⟩
  ·rw [he]
   refine zzu ?_
   cases len with
   | zero=>
    obtain rfl:l=[]:=List.eq_nil_of_length_eq_zero hl
    exact .slE (some a) cap e (by simp)
   | succ m=>
    -- the address has no spot
    obtain ⟨⟨us0,hc0,_⟩,_⟩:=hQ 0 _ (List.getElem?_eq_getElem (by omega))
    obtain ⟨_,hl0,hg0⟩:=World.cells?_some hc0
    have h00:=hg0 0 hpos
    have hne:∃ v,us0[0]? =some v:=⟨us0[0],List.getElem?_eq_getElem (by omega)⟩
    obtain ⟨v0,hv0⟩:=hne
    rw [hv0] at h00
    have hz:∀ b:Addr,b.add 0=b:=fun b=>by unfold Addr.add; simp
    rw [Nat.zero_mul,hz,hz] at h00
    obtain ⟨b,off,spot⟩:=a
    have hspot:spot=none:=by
     unfold World.cell? at h00
     split at h00
     ·split at h00
      ·cases h00
      ·rename_i hs; simpa using hs
     ·cases h00
    subst hspot
    have hblk:b<w.heap.size:=by
     unfold World.cell? at h00
     split at h00
     ·rename_i hh; exact (Array.getElem?_eq_some_iff.1 hh).1
     ·cases h00
    -- all cells
    have cell:∀ j,j<(m+1)*szOf cx e→∃ u,w.cell? ⟨b,off+j,none⟩=some u∧∀ c,(encL cx e l)[j]? =some c→Rep cx (In w) w u c:=by
     intro j hj
     have hi:j / szOf cx e<m+1:=(Nat.div_lt_iff_lt_mul hpos).2 hj
     have hjm:j % szOf cx e<szOf cx e:=Nat.mod_lt _ hpos
     obtain ⟨⟨us,hc,ha⟩,_⟩:=hQ (j / szOf cx e) _ (List.getElem?_eq_getElem (by omega))
     obtain ⟨_,hlu,hgu⟩:=World.cells?_some hc
     have hg:=hgu (j % szOf cx e) hjm
     rw [zGM,zGM,Nat.add_assoc,Nat.mul_comm,Nat.div_add_mod] at hg
     refine ⟨us[j % szOf cx e]'(by omega),by rw [hg]; exact List.getElem?_eq_getElem (by omega),fun c hcj=> ?_⟩
     have e1:=zzO (cx.enc e) (szOf cx e) (hcx.len e) l (j / szOf cx e) (j % szOf cx e) hjm
     rw [Nat.mul_comm,Nat.div_add_mod] at e1
     unfold encL at hcj
     rw [e1,List.getElem?_eq_getElem (by omega)] at hcj
     exact ha.at_ _ _ c (List.getElem?_eq_getElem (by omega)) hcj
    obtain ⟨us,hul,hus⟩:=zzs ((m+1)*szOf cx e) cell
    have hll:(encL cx e l).length=(m+1)*szOf cx e:=by rw [zzM hcx,hl]
    have:=Rep.sl (cx:=cx) (F:=In w) (w:=w) b off cap e l us hblk (by omega) (by rw [hul,hll]) (fun j u hu=>(hus j u hu).1) (fun j u c hu hc=>(hus j u hu).2 c hc)
    rw [hl] at this
    exact this
  ·obtain ⟨i,hi⟩:=List.getElem?_of_mem hx
   exact (hQ i x hi).2
theorem zCb (hcx:CxOK P cx) {T e:Nat} (hu:P.underlying T=some (.slice e)) (hk:P.cellsOf e=szOf cx e) (hpos:0<szOf cx e) (mk:List (ty e)→ty T) (he:∀ l,cx.enc T (mk l)=[.sl e l]) (hb1:0<P.bytesOf e) (hr:zk0 P cx W e)
  (hW:∀ l:List (ty e),(∀ x∈l,W e x)→l.length≤roomLen→W T (mk l)):zk0 P cx W T:=
 fun H en w sp held fuel cs y h hz=>zFZ (m0:=fuel) hcx hu hk hpos mk he hb1 (hr.at fuel) hW H en w sp held fuel cs y (by omega) h hz
theorem zhj {e off:Nat} (hr:zk0 P cx W e) (hk:P.cellsOf e=szOf cx e) {H:Type} {en:TypeId×Value→H} {w:World} {sp:Nat→Bool} {held:Bool} {n:Nat} {cs:List Value} {xs:List (DataW H×List MemPlace)} {fs:Array Field}
  (hlen:xs.length=fs.size) (hf:∀ (i:Nat) (f:Field),fs[i]? =some f→DataW.trod en P w 0 sp held n f.type ((cs.drop f.offset).take (P.cellsOf f.type))=xs[i]?) (hz:∀ (i:Nat) (f:Field),fs[i]? =some f→∀ x,xs[i]? =some x→(DataW.weights P f.type x.1).all (· ≤reachBytes)=true) (i:Nat) (f:Field) (hi:fs[i]? =some f) (ht:f.type=e) (ho:f.offset=off):
  ∃ x:ty e,All2 (Rep cx (In w) w) ((cs.drop off).take (szOf cx e)) (cx.enc e x)∧W e x:=by
 subst ht ho
 have h:=hf i f hi
 have hlt:i<xs.length:=by rw [hlen]; exact (Array.getElem?_eq_some_iff.1 hi).1
 rw [List.getElem?_eq_getElem hlt,hk] at h
 exact hr H en w sp held n _ _ h (hz i f hi _ (List.getElem?_eq_getElem hlt))
theorem zmr {F:Nat→Prop} {w:World} {cs:List Value} {off k:Nat} {as bs:List (AV ty)} (h1:All2 (Rep cx F w) ((cs.drop off).take k) as) (h2:All2 (Rep cx F w) (cs.drop (off+k)) bs):All2 (Rep cx F w) (cs.drop off) (as++bs):=by
 have:=h1.append h2
 rwa [← List.drop_drop,List.take_append_drop] at this
theorem zCy {F:Nat→Prop} {w:World} {cs:List Value} {off k:Nat} {as:List (AV ty)} (h1:All2 (Rep cx F w) ((cs.drop off).take k) as) (hl:cs.length=off+k):All2 (Rep cx F w) (cs.drop off) as:=by
 rwa [List.take_of_length_le (by simp; omega)] at h1
theorem zHM {dr:Bool} {w w':World} (h:Kept dr (OPof []) w w'):Go.RowKit.Below w.heap.size w w':=
 ⟨h.os,h.tape,h.output,h.size,fun k hk=>h.keep k hk fun ⟨v,hv,_⟩=>by cases hv⟩
theorem zH0 {f:Nat} {s:Spec ty} (hs:Sound P cx f s) {as:List (Arg ty)} (hsp:s as=some (true,⟨[.pure (.lit (.bool true))],[]⟩)) {w:World} {vs:List Value} (hown:zQ vs as=[]) (hg:GOK cx w (OPof [])) (ha:All2 (zgJ cx (In w) w) vs as):
  Calls P f vs.toArray w fun e w'=>e=.returned (.bool true)∧Go.RowKit.Below w.heap.size w w':=by
 refine (hs.calls as _ hsp w (In w) vs (fun b hb=>hb) ha (by rw [hown]; exact ⟨fun i j u v b h=>by simp at h,hg⟩)).mono fun e w' ⟨v,he,hp⟩=> ?_
 obtain ⟨F',rs,hv,hk,_,_,hr,_⟩:=hp.ok
 rw [hown] at hk
 obtain ⟨u,us,rfl,hu,hus⟩:=hr.inv
 obtain rfl:=hus.nil_left.1
 have hu:Rep cx F' w' u (.lit (.bool true)):=hu
 cases hu
 exact ⟨by rw [he,hv]; rfl,zHM hk⟩
open Go.RowKit in
theorem zAc {H:Type} {en:TypeId×Value→H} (hl:laidOutB P=true) {w w':World} (hb:Below w.heap.size w w'):∀ (ts:List TypeId) (vs:List Value) (ds:List (DataW H)) (ps:List MemPlace),(∀ t∈ts,P.readableRec t=true∧t<P.types.size)→
  (∀ x∈ps,x.block<w.heap.size)→DataW.TrodAll en P w 0 (fun _=>true) true ts vs ds ps→DataW.TrodAll en P w' 0 (fun b=>decide (b<w.heap.size)) true ts vs ds ps
 | [],[],[],ps,_,_,h=>h
 | t::ts,v::vs,d::ds,ps,hr,hlt,h=>by
  obtain ⟨p,q,h1,h2,rfl⟩:=h
  refine ⟨p,q,Below.trod hl (hr t (by simp)).1 (hr t (by simp)).2 h1 hb (fun x hx=>hlt x (by simp [hx])),zAc hl hb ts vs ds q (fun t ht=>hr t (by simp [ht])) (fun x hx=>hlt x (by simp [hx])) h2,rfl⟩
 | [],[],_::_,_,_,_,h=>h.elim
 | [],_::_,[],_,_,_,h=>h.elim
 | [],_::_,_::_,_,_,_,h=>h.elim
 | _::_,[],[],_,_,_,h=>h.elim
 | _::_,[],_::_,_,_,_,h=>h.elim
 | _::_,_::_,[],_,_,_,h=>h.elim
open Go.RowKit Go.ChangeShapes Go.WideShapes in
theorem zIY {H:Type} {en:TypeId×Value→H} {fn:Func} {s:ChangeSpec} {w w':World} {args:Array Value} {ds gs:List (DataW H)} {before:List MemPlace} {B:Nat} {fresh handsOn:Bool} (hl:laidOutB P=true) (hr:∀ t∈fn.params.toList,P.readableRec t=true∧t<P.types.size)
  (hv:s.vars=[]) (hres:fn.resultTypes=#[B]) (hB:P.underlying B=some .bool) (hfn:s.fn H ds={ results:=[.lit (.bool true)],args:=ds }) (hW:DataW.Whole en P fn.params.toList s.vars false w args.toList ds gs before) (hb:Below w.heap.size w w'):
  s.post en P fn false fresh handsOn false w args (.bool true) w':=by
 have hW0:=hW
 have hlt:=hW.lt
 obtain ⟨p,q,hA,hV,rfl,_,_⟩:=hW
 rw [hv] at hV
 obtain ⟨rfl,rfl⟩:=trodVars_none hV
 refine ⟨ds,[],p++[],[],p,[],hW0, ?_, ?_, ?_,hb.frame _,fun h=>by cases h⟩
 ·rw [List.append_nil,hfn,hres]
  exact trodAll_mk1 (shut_bool hB true)
 ·rw [List.append_nil,hfn]
  exact zAc hl hb _ _ _ _ hr (fun x hx=>hlt x (by simp [hx])) hA
 ·rw [List.append_nil,hfn,hv]; rfl
end
end
end Go.Ab
