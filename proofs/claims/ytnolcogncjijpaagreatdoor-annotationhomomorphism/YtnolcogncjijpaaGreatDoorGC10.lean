/- Texts of this claim, joined (the program, its functions in plain words, and what they compute). -/
import Derived.Test.YtnolcogncjijpaaGreatDoorGC9
import Derived.Test.YtnolcogncjijpaaGreatDoorGC1
import Derived.Test.YtnolcogncjijpaaGreatDoorGA2
import Derived.Test.YtnolcogncjijpaaGreatDoorGC4
import Derived.Test.YtnolcogncjijpaaGreatDoorGC8
import Derived.Test.YtnolcogncjijpaaGreatDoorGC3
import Derived.Test.YtnolcogncjijpaaGreatDoorGC2
set_option autoImplicit false
set_option linter.unusedVariables false
set_option linter.unusedSectionVars false
set_option linter.unusedSimpArgs false
set_option maxRecDepth 1000000
set_option maxHeartbeats 0
/- Substitution commutes with the operations; without bindings it changes nothing. -/
noncomputable section
namespace Go.Proofs.YtnolcogncjijpaaGreatDoor
open Go Go.Ab
mutual
def zdu (to:RowID→List Term):Atom→List Term
 | ⟨k,r,a,f,i,o,b⟩=>if k=0 then to r else if k=1 then monU ((zzw to a).getD 0 default) ((zzw to a).getD 1 default) else if k=2 then delU ((zzw to a).getD 0 default)
  else if k=3 then absU ((zzw to a).getD 0 default) else tstU f (zBc to i) o b
def zHF (to:RowID→List Term):List Factor→List Term
 | []=>[⟨1,[]⟩]
 | ⟨x,e⟩::r=>zbn (powA (zdu to x) e.toNat) (zHF to r)
def zIJ (to:RowID→List Term):List Term→List Term→List Term
 | [],s=>s
 | ⟨c,fs⟩::r,s=>zIJ to r (sumA s (zbn [⟨c,[]⟩] (zHF to fs)))
def zzw (to:RowID→List Term):List (List Term)→List (List Term)
 | []=>[]
 | a::r=>zIJ to a []::zzw to r
def zBc (to:RowID→List Term):List Weighted→List Weighted
 | []=>[]
 | ⟨v,a⟩::r=>⟨v,zIJ to a []⟩::zBc to r
end
section
variable (to:RowID→List Term)
theorem zM9:∀ l:List Factor,zHF to l=mvA (zdu to) l
 | []=>by rw [zHF]; rfl
 | ⟨x,e⟩::r=>by rw [zHF,zM9 r]; rfl
theorem zJ6:∀ a s:List Term,zIJ to a s=evU (zdu to) a s
 | [],s=>by rw [zIJ]; rfl
 | ⟨c,fs⟩::r,s=>by rw [zIJ,zJ6 r,zM9]; rfl
def vlA (a:List Term):List Term:=evU (zdu to) a []
theorem zC4:∀ l:List (List Term),zzw to l=l.map (vlA to)
 | []=>by rw [zzw]; rfl
 | a::r=>by rw [zzw,zC4 r,zJ6]; rfl
theorem zOc (r:RowID) (a b:List Term) (f:Int) (i:List Weighted) (o:Int) (v:Value):zdu to ⟨1,r,[a,b],f,i,o,v⟩=monU (vlA to a) (vlA to b):=by
 rw [zdu,zC4]; rfl
theorem zLz (r:RowID) (a:List Term) (f:Int) (i:List Weighted) (o:Int) (v:Value):zdu to ⟨2,r,[a],f,i,o,v⟩=delU (vlA to a):=by
 rw [zdu,zC4]; rfl
theorem zLC (r:RowID) (a:List Term) (f:Int) (i:List Weighted) (o:Int) (v:Value):zdu to ⟨3,r,[a],f,i,o,v⟩=absU (vlA to a):=by
 rw [zdu,zC4]; rfl
theorem zKK (r:RowID) (a:List (List Term)) (f:Int) (i:List Weighted) (o:Int) (v:Value):zdu to ⟨4,r,a,f,i,o,v⟩=tstU f (zBc to i) o v:=by
 rw [zdu]; rfl
theorem zPd (r:RowID) (a:List (List Term)) (f:Int) (i:List Weighted) (o:Int) (v:Value):zdu to ⟨0,r,a,f,i,o,v⟩=to r:=by
 rw [zdu]; rfl
variable {to} (hto:∀ r,PA (to r))
include hto
theorem zKN:∀ m,(∀ a,z7 m a=true→EA (zdu to) a∧PA (vlA to a))∧(∀ x,zcO (z7 m) x=true→SG (zdu to) x)
 | 0=>by
  refine ⟨fun a h=>(by cases h),fun x h=> ?_⟩
  cases zcq.1 h with
  | var r h=>rw [SG,zPd]; exact ⟨hto r,fun h=>by simp at h⟩
  | mon a b ha=>cases ha
  | del a ha=>cases ha
  | abs a ha=>cases ha
  | tst f l o b hl hi=>rw [SG,zKK]; exact ⟨zPX ..,fun _=>zMh ..⟩
 | m+1=>by
  obtain ⟨h1,h2⟩:=zKN m
  have hA:∀ a,z7 (m+1) a=true→EA (zdu to) a∧PA (vlA to a):=fun a h=>by
   obtain ⟨_,s1,s2⟩:=zxJ.1 (show vAnn (zcO (z7 m)) a=true from h)
   have he:EA (zdu to) a:=⟨⟨s1,fun t ht=>⟨(s2 t ht).1,(s2 t ht).2.1,fun f hf=>⟨⟨zs2 ((s2 t ht).2.2 f hf).2,((s2 t ht).2.2 f hf).1.2⟩,((s2 t ht).2.2 f hf).1.1⟩⟩⟩,fun t ht f hf=>h2 _ ((s2 t ht).2.2 f hf).2⟩
   exact ⟨he,zzi he.p PA.nil⟩
  refine ⟨hA,fun x h=> ?_⟩
  cases zcq.1 h with
  | var r h=>rw [SG,zPd]; exact ⟨hto r,fun h=>by simp at h⟩
  | mon a b ha hb=>rw [SG,zOc]; exact ⟨zUr (hA a ha).2,fun h=>by simp at h⟩
  | del a ha=>rw [SG,zLz]; exact ⟨zU2 (hA a ha).2,fun h=>by simp at h⟩
  | abs a ha=>rw [SG,zLC]; exact ⟨zU3 _,fun _=>zQa _⟩
  | tst f l o b hl hi=>rw [SG,zKK]; exact ⟨zPX ..,fun _=>zMh ..⟩
omit hto in
theorem zeh {α β:Type} {x:Int⊕α} {k:α→Int⊕β} {v:β}:sbd x k=.inr v↔∃ a,x=.inr a∧k a=.inr v:=by
 cases x with
 | inl e=>simp [sbd]
 | inr a=>simp [sbd]
omit hto in
theorem zE2 {r:List Term×Int} {v:List Term} (h:opS r=.inr v):r.2=0∧r.1=v:=by
 unfold opS at h
 split at h
 ·rename_i h0; exact ⟨h0,by simpa using h⟩
 ·cases h
omit hto in
theorem zOZ {l:List Factor} (h:∀ f∈l,(∀ v,zdF to f.Atom=.inr v→v=zdu to f.Atom)∧SG (zdu to) f.Atom):∀ {p q:List Term},PA p→zdx to l p=.inr q→q=zbn p (mvA (zdu to) l):=by
 induction l with
 | nil=>intro p q hp hq; rw [zuB] at hq; cases hq; exact (zsC hp).symm
 | cons f r ih=>
  intro p q hp hq
  rw [ztc] at hq
  obtain ⟨b,hb,hq⟩:=zeh.1 hq
  obtain ⟨p',hp',hq⟩:=zeh.1 hq
  have hf:=h f (by simp)
  rw [hf.1 b hb] at hp'
  have e:=zNN hf.2.1 _ hp hp'
  have pw:=zpg hf.2.1 f.Exp.toNat
  have hp'':PA p':=by rw [e]; exact zgD hp pw
  rw [ih (fun g hg=>h g (by simp [hg])) hp'' hq,e]
  exact zkK hp pw (zod fun g hg=>(h g (by simp [hg])).2)
omit hto in
theorem zQf {c:Int} (h:1≤c∧c≤1152921504606846976):cstA c=[⟨c,[]⟩]:=by
 unfold cstA; rw [if_neg (by omega),if_neg (by omega)]
omit hto in
theorem zTF {a:List Term} (h:∀ t∈a,cOK t∧∀ f∈t.Factors,(∀ v,zdF to f.Atom=.inr v→v=zdu to f.Atom)∧SG (zdu to) f.Atom):∀ {s v:List Term},PA s→zbK to a s=.inr v→v=evU (zdu to) a s:=by
 induction a with
 | nil=>intro s v hs hv; rw [zDm] at hv; cases hv; rfl
 | cons t r ih=>
  intro s v hs hv
  rw [zA6] at hv
  obtain ⟨p,hp,hv⟩:=zeh.1 hv
  obtain ⟨s',hs',hv⟩:=zeh.1 hv
  have ht:=h t (by simp)
  rw [zQf ht.1] at hp
  have e:=zOZ ht.2 (zFU ht.1) hp
  obtain ⟨e0,e1⟩:=zE2 hs'
  rw [(zLs e0).2] at e1
  have e1:sumA s p=s':=e1
  have pp:PA p:=by rw [e]; exact zQx ht.1 fun f hf=>(ht.2 f hf).2
  have ps:PA s':=by rw [← e1]; exact zEL hs pp
  rw [ih (fun u hu=>h u (by simp [hu])) ps hv, ← e1,e]; rfl
omit hto in
theorem zK2 {m:Nat} (h1:∀ a,z7 m a=true→∀ s v,PA s→zbK to a s=.inr v→v=evU (zdu to) a s) (x:Atom) (h:zcO (z7 m) x=true) (v:List Term) (hv:zdF to x=.inr v):v=zdu to x:=by
 rw [zC1] at hv
 cases zcq.1 h with
 | var r h=>simp only [if_true] at hv; cases hv; exact (zPd ..).symm
 | mon a b ha hb=>
  simp only [show ¬ (1:Int)=0 from by omega,if_false,if_true] at hv
  obtain ⟨xs,hxs,hv⟩:=zeh.1 hv
  rw [zjb] at hxs
  obtain ⟨a',ha',hxs⟩:=zeh.1 hxs
  obtain ⟨l',hl',hxs⟩:=zeh.1 hxs
  rw [zjb] at hl'
  obtain ⟨b',hb',hl'⟩:=zeh.1 hl'
  rw [zmt,zbF] at hl'
  cases hl'; cases hxs
  obtain ⟨e0,e1⟩:=zE2 hv
  have e0:(monR a' b').2=0:=e0
  have e1:(monR a' b').1=v:=e1
  rw [(zLB e0).2] at e1
  rw [zOc, ← e1,h1 a ha [] a' PA.nil ha',h1 b hb [] b' PA.nil hb']; rfl
 | del a ha=>
  simp only [show ¬ (2:Int)=0 from by omega,show ¬ (2:Int)=1 from by omega,if_false,if_true] at hv
  obtain ⟨xs,hxs,hv⟩:=zeh.1 hv
  rw [zjb] at hxs
  obtain ⟨a',ha',hxs⟩:=zeh.1 hxs
  rw [zmt,zbF] at hxs
  cases hxs
  obtain ⟨e0,e1⟩:=zE2 hv
  have e0:(delR a').2=0:=e0
  have e1:(delR a').1=v:=e1
  rw [(zKJ e0).2] at e1
  rw [zLz, ← e1,h1 a ha [] a' PA.nil ha']; rfl
 | abs a ha=>
  simp only [show ¬ (3:Int)=0 from by omega,show ¬ (3:Int)=1 from by omega,show ¬ (3:Int)=2 from by omega,if_false,if_true] at hv
  obtain ⟨xs,hxs,hv⟩:=zeh.1 hv
  rw [zjb] at hxs
  obtain ⟨a',ha',hxs⟩:=zeh.1 hxs
  rw [zmt,zbF] at hxs
  cases hxs
  obtain ⟨e0,e1⟩:=zE2 hv
  have e0:(absR a').2=0:=e0
  have e1:(absR a').1=v:=e1
  rw [(zK1 e0).2] at e1
  rw [zLC, ← e1,h1 a ha [] a' PA.nil ha']; rfl
 | tst f l o b hl hi=>
  simp only [show ¬ (4:Int)=0 from by omega,show ¬ (4:Int)=1 from by omega,show ¬ (4:Int)=2 from by omega,show ¬ (4:Int)=3 from by omega,if_false] at hv
  obtain ⟨xs,hxs,hv⟩:=zeh.1 hv
  obtain ⟨is,his,hv⟩:=zeh.1 hv
  have key:∀ (l:List Weighted),(∀ w∈l,z7 m w.Ann=true)→∀ is,zfH to l=.inr is→is=zBc to l:=by
   intro l
   induction l with
   | nil=>intro _ is h; rw [zui] at h; cases h; rw [zBc]
   | cons w r ih=>
    intro hm is h
    rw [zv3] at h
    obtain ⟨a',ha',h⟩:=zeh.1 h
    obtain ⟨l',hl',h⟩:=zeh.1 h
    cases h
    obtain ⟨v,a⟩:=w
    rw [zBc,zJ6, ← ih (fun w hw=>hm w (by simp [hw])) l' hl',h1 a (hm ⟨v,a⟩ (by simp)) [] a' PA.nil ha']
  rw [key l (fun w hw=>(hi w hw).1) is his] at hv
  obtain ⟨e0,e1⟩:=zE2 hv
  rw [(zUC e0).2] at e1
  rw [zKK]; exact e1.symm
theorem zWc (m:Nat):(∀ a,z7 m a=true→∀ s v,PA s→zbK to a s=.inr v→v=evU (zdu to) a s)∧(∀ x,zcO (z7 m) x=true→∀ v,zdF to x=.inr v→v=zdu to x):=by
 induction m with
 | zero=>exact ⟨fun a h=>(by cases h),zK2 fun a h=>(by cases h)⟩
 | succ m ih=>
  have hA:∀ a,z7 (m+1) a=true→∀ s v,PA s→zbK to a s=.inr v→v=evU (zdu to) a s:=fun a h s v hs hv=>by
   obtain ⟨_,s1,s2⟩:=zxJ.1 (show vAnn (zcO (z7 m)) a=true from h)
   exact zTF (fun t ht=>⟨(s2 t ht).1,fun f hf=>⟨ih.2 _ ((s2 t ht).2.2 f hf).2,(zKN hto m).2 _ ((s2 t ht).2.2 f hf).2⟩⟩) hs hv
  exact ⟨hA,zK2 hA⟩
end
theorem zy8 {a:List Term}:zfi a=true↔a.length≤512∧zbh a≤8∧zI a≤4096∧∀ t∈a,t.Factors.length≤64∧∀ f∈t.Factors,f.Exp≤64∧f.Atom.Items.length≤1024:=by
 refine ⟨zqx,fun ⟨h1,h2,h3,h4⟩=> ?_⟩
 unfold zfi
 simp only [Bool.and_eq_true,decide_eq_true_eq]
 refine ⟨⟨⟨h1,h2⟩,h3⟩,List.all_eq_true.2 fun t ht=> ?_⟩
 obtain ⟨h5,h6⟩:=h4 t ht
 unfold withF
 rw [Bool.not_eq_true',Bool.or_eq_false_iff]
 refine ⟨by simp; omega, ?_⟩
 rw [List.any_eq_false]
 intro f hf
 obtain ⟨h7,h8⟩:=h6 f hf
 simp
 exact ⟨h7,h8⟩
theorem zKO:∀ a b:List Term,zI (a++b)=zI a+zI b
 | [],b=>by rw [zqb]; simp
 | t::r,b=>by rw [List.cons_append,zeV,zeV,zKO r b]; omega
theorem zLA:∀ a b:List Term,zbh (a++b)=max (zbh a) (zbh b)
 | [],b=>by rw [zA1]; simp
 | t::r,b=>by rw [List.cons_append,zq4,zq4,zLA r b]; omega
theorem zyh:∀ a b:List Factor,zbs (a++b)=zbs a+zbs b
 | [],b=>by rw [zhw]; simp
 | t::r,b=>by rw [List.cons_append,zcB,zcB,zyh r b]; omega
theorem zyg:∀ a b:List Factor,zcR (a++b)=max (zcR a) (zcR b)
 | [],b=>by rw [zmK]; simp
 | t::r,b=>by rw [List.cons_append,zil,zil,zyg r b]; omega
structure FB (l:List Factor):Prop where
 len:l.length≤64
 nes:zcR l≤8
 siz:1+l.length+zbs l≤4096
 fs:∀ f∈l,f.Exp≤64∧f.Atom.Items.length≤1024
theorem FB.wi {l:List Factor} (h:FB l) (c:Int):zfi [⟨c,l⟩]=true:=zy8.2 ⟨by simp,by rw [zq4,zA1]; have:=h.nes; simp only; omega,by rw [zeV,zqb]; have:=h.siz; simp only; omega,fun t ht=>by
 rw [List.mem_singleton] at ht; subst ht; exact ⟨h.len,h.fs⟩⟩
theorem FB.of {a:List Term} (h:zfi a=true) {t:Term} (ht:t∈a):FB t.Factors:=by
 obtain ⟨h1,h2,h3,h4⟩:=zy8.1 h
 obtain ⟨h5,h6⟩:=h4 t ht
 refine ⟨h5,Nat.le_trans (zKS ht) h2, ?_,h6⟩
 have key:∀ {a:List Term},t∈a→1+t.Factors.length+zbs t.Factors≤zI a:=by
  intro a
  induction a with
  | nil=>intro h; cases h
  | cons u r ih=>
   intro h
   rw [zeV]
   rcases List.mem_cons.1 h with rfl | h
   ·omega
   ·have:=ih h; omega
 have:=key ht
 omega
theorem FB.app {a b:List Factor} (h:FB (a++b)):FB a∧FB b:=by
 obtain ⟨h1,h2,h3,h4⟩:=h
 rw [List.length_append] at h1 h3
 rw [zyg] at h2
 rw [zyh] at h3
 exact ⟨⟨by omega,by omega,by omega,fun f hf=>h4 f (by simp [hf])⟩,⟨by omega,by omega,by omega,fun f hf=>h4 f (by simp [hf])⟩⟩
theorem FB.exp {P:List Factor} {x:Atom} {e j:Int} (h:FB (P++[⟨x,e⟩])) (hj:j≤64):FB (P++[⟨x,j⟩]):=by
 obtain ⟨h1,h2,h3,h4⟩:=h
 rw [List.length_append] at h1 h3
 rw [zyg,zil,zmK] at h2
 rw [zyh,zcB,zhw] at h3
 refine ⟨by rw [List.length_append]; exact h1,by rw [zyg,zil,zmK]; exact h2,by rw [List.length_append,zyh,zcB,zhw]; exact h3,fun f hf=> ?_⟩
 rcases List.mem_append.1 hf with hf | hf
 ·exact h4 f (by simp [hf])
 ·rw [List.mem_singleton] at hf; subst hf
  exact ⟨hj,(h4 ⟨x,e⟩ (by simp)).2⟩
theorem OKF.app {a b:List Factor} (h:OKF vatA (a++b)):OKF vatA a∧OKF vatA b:=⟨⟨(List.pairwise_append.1 h.1).1,fun f hf=>h.2 f (by simp [hf])⟩,⟨(List.pairwise_append.1 h.1).2.1,fun f hf=>h.2 f (by simp [hf])⟩⟩
theorem OKF.exp {P:List Factor} {x:Atom} {e j:Int} (h:OKF vatA (P++[⟨x,e⟩])) (h1:1≤j) (h2:j≤e):OKF vatA (P++[⟨x,j⟩]):=by
 have hx:=h.2 ⟨x,e⟩ (by simp)
 refine ⟨List.pairwise_append.2 ⟨(List.pairwise_append.1 h.1).1,by simp,fun a ha b hb=> ?_⟩,fun f hf=> ?_⟩
 ·rw [List.mem_singleton] at hb; subst hb
  exact (List.pairwise_append.1 h.1).2.2 a ha ⟨x,e⟩ (by simp)
 ·rcases List.mem_append.1 hf with hf | hf
  ·exact h.2 f (by simp [hf])
  ·rw [List.mem_singleton] at hf; subst hf
   refine ⟨⟨h1,fun hk=> ?_⟩,hx.2⟩
   have:=hx.1.2 hk
   have h3:e=1:=this
   show j=1
   omega
theorem zK8 {c:Int} {F:List Factor} (hc:1≤c∧c≤1152921504606846976) (hF:OKF vatA F) (hb:FB F):zC [⟨c,F⟩]=true:=zn5.2 ⟨hb.wi c,by simp,fun t ht=>by
 rw [List.mem_singleton] at ht; subst ht; exact ⟨hc,hF⟩⟩
theorem zM8 {y:Factor}:∀ {P:List Factor},(∀ z∈P,cF z y<0)→zS P [y]=P++[y]
 | [],_=>by rw [zS]; rfl
 | z::r,h=>by rw [zS,if_pos (h z (by simp)),zM8 fun w hw=>h w (by simp [hw])]; rfl
theorem zHv {x:Atom} {j:Int} (hk:¬ (x.Kind=3∨x.Kind=4)):∀ {P:List Factor},(∀ z∈P,cF z ⟨x,1⟩<0)→zS (P++[⟨x,j⟩]) [⟨x,1⟩]=P++[⟨x,j+1⟩]
 | [],_=>by
  have e:cF ⟨x,j⟩ ⟨x,1⟩=0:=cF_self' rfl
  show zS [⟨x,j⟩] [⟨x,1⟩]=[⟨x,j+1⟩]
  rw [zS,e,if_neg (by omega),if_neg (by omega),if_neg hk,zS]
 | z::r,h=>by
  show zS (z::(r++[⟨x,j⟩])) [⟨x,1⟩]=_
  rw [zS,if_pos (h z (by simp)),zHv hk fun w hw=>h w (by simp [hw])]; rfl
theorem zMz {c:Int} (hc:1≤c∧c≤1152921504606846976) (M:List Factor) (x:Atom):zbn [⟨c,M⟩] (oneA x)=[⟨c,zS M [⟨x,1⟩]⟩]:=by
 show sumA [] [zhx ⟨c,M⟩ ⟨1,[⟨x,1⟩]⟩]=_
 unfold zhx
 simp only [zFy hc.2]
 rfl
section
variable {c:Int} (hc:1≤c∧c≤1152921504606846976)
include hc
theorem zN1 {P:List Factor} {x:Atom} {e:Int} (hF:OKF vatA (P++[⟨x,e⟩])) (hb:FB (P++[⟨x,e⟩])) (hv:zC (oneA x)=true):
  ∀ (n j:Nat),1≤j→(j+n:Int)=e→powS (oneA x) n [⟨c,P++[⟨x,(j:Int)⟩]⟩]=.inr [⟨c,P++[⟨x,e⟩]⟩]
 | 0,j,_,h=>by rw [show (j:Int)=e from by omega]; rfl
 | n+1,j,h1,h=>by
  have he:=(hF.2 ⟨x,e⟩ (by simp)).1
  have he64:=(hb.fs ⟨x,e⟩ (by simp)).1
  have hk:¬ (x.Kind=3∨x.Kind=4):=fun hk=>by
   have:e=1:=he.2 hk
   omega
  have he64:e≤64:=he64
  have hj:=zK8 hc (hF.exp (j:=(j:Int)) (by omega) (by omega)) (hb.exp (j:=(j:Int)) (by omega))
  have hlt:∀ z∈P,cF z ⟨x,1⟩<0:=fun z hz=>(List.pairwise_append.1 hF.1).2.2 z hz ⟨x,e⟩ (by simp)
  have hp:zbn [⟨c,P++[⟨x,(j:Int)⟩]⟩] (oneA x)=[⟨c,P++[⟨x,((j+1:Nat):Int)⟩]⟩]:=by
   rw [zMz hc,zHv hk hlt]; rfl
  unfold powS
  rw [zQe hj hv (by rw [hp]; exact (hb.exp (by omega)).wi c),hp,zOU,zbF]
  exact zN1 hF hb hv n (j+1) (by omega) (by omega)
theorem zNT:∀ {l:List Factor} {P:List Factor},OKF vatA (P++l)→FB (P++l)→(∀ f∈l,zdF varA f.Atom=.inr (oneA f.Atom)∧zC (oneA f.Atom)=true)→zdx varA l [⟨c,P⟩]=.inr [⟨c,P++l⟩]
 | [],P,_,_,_=>by rw [zuB,List.append_nil]
 | ⟨x,e⟩::r,P,hF,hb,h=>by
  have hx:=h ⟨x,e⟩ (by simp)
  have e2:P++⟨x,e⟩::r=(P++[⟨x,e⟩])++r:=by simp
  rw [e2] at hF hb ⊢
  have hF1:=hF.app.1
  have hb1:=hb.app.1
  have he:=(hF1.2 ⟨x,e⟩ (by simp)).1.1
  have he:1≤e:=he
  have he64:e≤64:=(hb1.fs ⟨x,e⟩ (by simp)).1
  rw [ztc,show zdF varA (⟨x,e⟩:Factor).Atom=.inr (oneA x) from hx.1,zbF]
  have hp:powS (oneA x) (⟨x,e⟩:Factor).Exp.toNat [⟨c,P⟩]=.inr [⟨c,P++[⟨x,e⟩]⟩]:=by
   obtain ⟨n,hn⟩:∃ n:Nat,e=n+1:=⟨(e - 1).toNat,by omega⟩
   show powS (oneA x) e.toNat [⟨c,P⟩]=_
   rw [show e.toNat=n+1 from by omega]
   have hv0:zC [⟨c,P⟩]=true:=zK8 hc hF1.app.1 hb1.app.1
   have hlt:∀ z∈P,cF z ⟨x,1⟩<0:=fun z hz=>(List.pairwise_append.1 hF1.1).2.2 z hz ⟨x,e⟩ (by simp)
   have hp:zbn [⟨c,P⟩] (oneA x)=[⟨c,P++[⟨x,1⟩]⟩]:=by rw [zMz hc,zM8 hlt]
   unfold powS
   rw [zQe hv0 hx.2 (by rw [hp]; exact (hb1.exp (by omega)).wi c),hp,zOU,zbF]
   exact zN1 hc hF1 hb1 hx.2 n 1 (by omega) (by omega)
  rw [hp,zbF]
  exact zNT hF hb fun f hf=>h f (by simp [hf])
end
theorem zyX {s r:List Term} (h:zC (s++r)=true):zC s=true∧zC r=true:=by
 obtain ⟨h1,h2,h3⟩:=zn5.1 h
 obtain ⟨w1,w2,w3,w4⟩:=zy8.1 h1
 rw [List.length_append] at w1
 rw [zLA] at w2
 rw [zKO] at w3
 exact ⟨zn5.2 ⟨zy8.2 ⟨by omega,by omega,by omega,fun t ht=>w4 t (by simp [ht])⟩,(List.pairwise_append.1 h2).1,fun t ht=>h3 t (by simp [ht])⟩,
  zn5.2 ⟨zy8.2 ⟨by omega,by omega,by omega,fun t ht=>w4 t (by simp [ht])⟩,(List.pairwise_append.1 h2).2.1,fun t ht=>h3 t (by simp [ht])⟩⟩
theorem zNQ:∀ {r s:List Term},zC (s++r)=true→(∀ t∈r,∀ f∈t.Factors,zdF varA f.Atom=.inr (oneA f.Atom)∧zC (oneA f.Atom)=true)→zbK varA r s=.inr (s++r)
 | [],s,_,_=>by rw [zDm,List.append_nil]
 | t::r,s,hv,h=>by
  have e2:s++t::r=(s++[t])++r:=by simp
  rw [e2] at hv ⊢
  obtain ⟨h1,h2⟩:=zn5.1 (zyX hv).1
  have ht:=h2.2 t (by simp)
  have hb:FB t.Factors:=FB.of h1 (by simp)
  have hf:=zNT ht.1 (l:=t.Factors) (P:=[]) ht.2 hb (h t (by simp))
  have hadd:addR s [t]=(s++[t],0):=by
   have e:sumA s [t]=s++[t]:=zLK _ _ h2.1
   rw [zVd (zyX (zyX hv).1).1 (zyX (zyX hv).1).2 (by rw [e]; exact h1),e]
  rw [zA6,zQf ht.1,hf,zbF]
  show sbd (opS (addR s [t])) _=_
  rw [hadd,zOU,zbF]
  exact zNQ hv fun u hu=>h u (by simp [hu])
theorem zSE {d:Nat} {l:List Weighted} (hl:l.length≤1000000) (h:∀ w∈l,zm d w.Ann∧w.Ann≠[]) (hd:d≤99) (hs:srtW l=true):zdR l=l:=by
 have e:l.filter hasA=l:=List.filter_eq_self.2 fun w hw=>by
  have:=(h w hw).2
  unfold hasA
  cases hx:w.Ann with
  | nil=>exact absurd hx this
  | cons x r=>simp
 unfold zdR
 rw [e]
 have hp:l.Pairwise fun x y=>cmpT (zY x) (zY y)≤0:=zpv (R:=fun x y=>cmpT (zY x) (zY y)≤0) (fun x y z h1 h2=>zs4 _ _ _ h1 h2) l fun k hk hl'=>by
  have:=zd8.1 hs k (by omega) (by omega)
  unfold srtI at this
  rw [Bool.or_eq_true,decide_eq_true_eq,decide_eq_true_eq] at this
  rcases this with e | e
  ·omega
  ·exact e
 refine ((zBt hl (fun w hw=>(h w hw).1) hd).unique (.refl _) ?_).symm
 refine hp.imp_of_mem fun {x y} hx hy hxy=> ?_
 rw [ziC (h y hy).1 hd,zih (zY x) (zY y)]
 simp only; omega
def AB (x:Atom):Prop:=zlw x≤8∧zeC x+2≤4096∧x.Items.length≤1024
theorem AB.wi {x:Atom} (h:AB x):zfi (oneA x)=true:=(FB.wi (l:=[⟨x,1⟩]) ⟨by simp,by rw [zil,zmK]; have:=h.1; simp only; omega,by rw [zcB,zhw]; have:=h.2.1; simp only [List.length_singleton]; omega,fun f hf=>by
 rw [List.mem_singleton] at hf; subst hf; exact ⟨by simp,h.2.2⟩⟩ 1)
theorem AB.of {l:List Factor} (h:FB l) {f:Factor} (hf:f∈l):AB f.Atom:=by
 refine ⟨Nat.le_trans (zEB hf) h.nes, ?_,(h.fs f hf).2⟩
 have h1:=zEZ hf
 have h2:1≤l.length:=by cases l with
  | nil=>cases hf
  | cons a r=>simp
 have:=h.siz
 omega
theorem zU1 {m:Nat} (hA:∀ a,z7 m a=true→zbK varA a []=.inr a) (x:Atom) (h:zcO (z7 m) x=true) (hx:AB x):zdF varA x=.inr (oneA x):=by
 have hw:=hx.wi
 rw [zC1]
 cases zcq.1 h with
 | var r hr=>
  simp only [if_true]
  unfold varA; rw [hr]; rfl
 | mon a b ha hb ha0 hb0 hab=>
  simp only [show ¬ (1:Int)=0 from by omega,if_false,if_true]
  rw [zjb,hA a ha,zbF,zjb,hA b hb,zbF,zmt,zbF,zbF,zbF]
  show opS (monR a b)=_
  unfold monR opR
  rw [zsS ha,zsS hb,if_neg hb0,if_neg (by simp [ha0,hab])]
  show opS (fitR (oneA (monA a b)))=_
  rw [zA8 (a:=oneA (monA a b)) hw]; rfl
 | del a ha ha0 hc hu=>
  simp only [show ¬ (2:Int)=0 from by omega,show ¬ (2:Int)=1 from by omega,if_false,if_true]
  rw [zjb,hA a ha,zbF,zmt,zbF,zbF]
  show opS (delR a)=_
  unfold delR opR
  rw [zsS ha,if_neg (by simp [ha0,hu]),if_neg (by simp [hc])]
  show opS (fitR (oneA (delA a)))=_
  rw [zA8 (a:=oneA (delA a)) hw]; rfl
 | abs a ha ha0 hc=>
  simp only [show ¬ (3:Int)=0 from by omega,show ¬ (3:Int)=1 from by omega,show ¬ (3:Int)=2 from by omega,if_false,if_true]
  rw [zjb,hA a ha,zbF,zmt,zbF,zbF]
  show opS (absR a)=_
  unfold absR opR
  rw [zsS ha,if_neg ha0,if_neg (by simp [hc])]
  show opS (fitR (oneA (absA a)))=_
  rw [zA8 (a:=oneA (absA a)) hw]; rfl
 | tst f l o b hl hi hs hf=>
  simp only [show ¬ (4:Int)=0 from by omega,show ¬ (4:Int)=1 from by omega,show ¬ (4:Int)=2 from by omega,show ¬ (4:Int)=3 from by omega,if_false]
  have key:∀ l:List Weighted,(∀ w∈l,z7 m w.Ann=true)→zfH varA l=.inr l:=by
   intro l
   induction l with
   | nil=>intro _; rw [zui]
   | cons w r ih=>
    intro hm
    rw [zv3,hA w.Ann (hm w (by simp)),zbF,ih fun v hv=>hm v (by simp [hv]),zbF]
  have hlen:l.length≤1024:=hx.2.2
  have hs':=zSE (d:=9) (l:=l) (by omega) (fun w hw=>⟨(zew (hi w hw).1).1,(hi w hw).2⟩) (by omega) hs
  rw [zmt,zbF,key l fun w hw=>(hi w hw).1,zbF]
  show opS (zqr f l o b)=_
  unfold zqr
  have hall:(l.all fun w=>zC w.Ann)=true:=List.all_eq_true.2 fun w hw=>zsS (hi w hw).1
  have hpos:0<l.length:=by cases l with
   | nil=>exact absurd rfl hl
   | cons a r=>simp
  rw [hf,hall,hs',decide_eq_true hpos]
  show opS (fitR (oneA (tstA f l o b)))=_
  rw [zA8 (a:=oneA (tstA f l o b)) hw]; rfl
theorem zSq:∀ m,∀ a,z7 m a=true→zbK varA a []=.inr a
 | 0,a,h=>by cases h
 | m+1,a,h=>by
  obtain ⟨h1,_,h3⟩:=zxJ.1 (show vAnn (zcO (z7 m)) a=true from h)
  exact zNQ (s:=[]) (zsS h) fun t ht f hf=>by
   have hb:=AB.of (FB.of h1 ht) hf
   have hv:=((h3 t ht).2.2 f hf).2
   exact ⟨zU1 (zSq m) f.Atom hv hb,zQP (zsB.2 ((zcq.1 hv).imp fun a ha=>zsS ha)) hb.wi⟩
theorem zVq {a:List Term} (h:zC a=true):zbK varA a []=.inr a:=zSq 100 a h
def subR (a:List Term) (l:List Binding):List Term×Int:=opR (zC a&&l.all fun b=>zC b.To) (ofS (zbK (toA l) a []))
theorem zWk {l:List Binding} (h:okB l):zbS l=(true, !l.all fun b=>zC b.To):=by
 unfold zbS zdX
 have:zc9 l=IG (fun (_:Unit) x=>zhc x) (l.length+(Int.ofNat l.length).toNat +Int.toNat (0:Int)+(1:Nat)) () l:=rfl
 rw [zmw (P:=fun b=> !zC b.To) (this.trans (zFo _ _ _ _ _ (by have:=h.1; omega) (fun x hx=>by
  unfold zhc zlI
  rw [Wy.fin_bn,(h.2 x hx).valid]; rfl) (by omega)))]
 simp [List.all_eq_not_any_not]
theorem zTM {a:List Term} {l:List Binding} (h:okB l):∀ (n i:Nat),l.length<i+n→i≤l.length→zrd n a l i=(true,if ((l.drop i).all fun b=>zC b.To)=true then .inr (a,l) else .inl 1)
 | 0,i,h1,h2=>by omega
 | n+1,i,h1,h2=>by
  have hlen:=h.1
  show (zrh a l i).ev (fun x y=>zrd n x.1 x.2.1 x.2.2.1) (fun r=>(true,r)) (false,.inl default)=_
  unfold zrh
  by_cases hi:i<l.length
  ·have hb:=h.2 _ (zp hi)
   rw [zbm hi,List.all_cons]
   simp only [Wy.ev_i,Wy.ev_k,Wy.ev_h,Wy.ev_bn,Wy.ev_d,tT,hi,hb.rvalid]
   cases zC (l.getD i default).To with
   | false=>rfl
   | true=>
    simp only [Bool.not_true,cond_false,Bool.true_and,zM (show i<4611686018427387904 by omega)]
    exact zTM h n (i+1) (by omega) (by omega)
  ·simp only [Wy.ev_i,Wy.ev_k,Wy.ev_h,Wy.ev_bn,Wy.ev_d,tT,hi]
   rw [zcE hi]; rfl
theorem zuE {a:List Term} {l:List Binding} (oa:okA a) (ha:zC a=true→zeo a) (h:okB l):zeb a l=(true,subR a l)∧zCj a l=(true,subR a l):=by
 have key:zC a=true→(zr2 a l=(true,ofS (zbK (toA l) a []))∧zGE a l=(true,ofS (zbK (toA l) a []))):=fun hv=>((zIW h 1000).1 9 a (zCt hv (Nat.le_refl 9)) (by omega) oa.2.1 (ha hv) (by omega)).1
 constructor
 ·unfold zeb znJ subR
  simp only [Wy.fin_i,Wy.fin_bn,Wy.fin_k,oa.valid,cond_true,zWk h]
  cases hv:zC a with
  | false=>rfl
  | true=>
   cases (l.all fun b=>zC b.To) with
   | false=>rfl
   | true=>
    simp only [Bool.not_true,cond_false,(key hv).1,cond_true]
    rfl
 ·unfold zCj zyo subR
  have h4:=zTM (a:=a) h (a.length+l.length+Int.toNat (0:Int)+(1:Nat)) 0 (by omega) (by omega)
  rw [show ((0:Nat):Int)=(0:Int) from rfl,List.drop_zero] at h4
  simp only [Wy.fin_i,Wy.fin_bn,Wy.fin_k,oa.rvalid,cond_true,h4]
  cases hv:zC a with
  | false=>rfl
  | true=>
   cases (l.all fun b=>zC b.To) with
   | false=>rfl
   | true=>
    simp only [if_true,isL,getR,Bool.not_true,cond_false,(key hv).2,cond_true]
    rfl
theorem zL6 {a:List Term} {l:List Binding} (oa:okA a) (ha:zC a=true→zeo a) (h:okB l):okR (subR a l):=zEG fun hv=>by
 rw [Bool.and_eq_true] at hv
 have hG:=((zIW h 1000).1 9 a (zCt hv.1 (Nat.le_refl 9)) (by omega) oa.2.1 (ha hv.1) (by omega)).2
 revert hG
 cases zbK (toA l) a [] with
 | inl e=>exact fun _=>⟨ziQ,.inr rfl⟩
 | inr b=>exact fun hb=>⟨hb,.inl rfl⟩
theorem zVW (a:List Term) (l:List Binding) (ha:wf23 a) (hl:wf59 l):∃ q,zyI a l=(true,q)∧(q=true→(zm 12 a∧zei a≤30)∧l.length≤4∧∀ b∈l,okA b.To):=by
 have key:∀ (n i:Nat),l.length<i+n→i≤l.length→∃ x,zBM n a l i=(true,x)∧(x=.inl false∨(x=.inr (a,l)∧∀ b∈l.drop i,okA b.To)):=by
  intro n
  induction n with
  | zero=>intro i h1 h2; omega
  | succ n ih=>
   intro i h1 h2
   have hlen:l.length≤140737488351232:=hl.2
   show ∃ x,(zBs a l i).ev (fun x y=>zBM n x.1 x.2.1 x.2.2.1) (fun r=>(true,r)) (false,.inl default)=(true,x)∧_
   unfold zBs
   by_cases hi:i<l.length
   ·have hw:=(hl.1 _ (zp hi)).2
    obtain ⟨q,q1,q2⟩:=zNL 12 (by omega) [(l.getD i default).To] (by simp) (fun x hx=>by
     rw [List.mem_singleton] at hx; subst hx; exact hw)
    replace q1:zmA (12:Int) [(l.getD i default).To]=(true,q):=q1
    simp only [Wy.ev_i,Wy.ev_k,Wy.ev_h,Wy.ev_bn,Wy.ev_d,tT,hi,q1]
    cases q with
    | false=>exact ⟨_,rfl,.inl rfl⟩
    | true=>
     simp only [Bool.not_true,cond_false,zM (show i<4611686018427387904 by omega)]
     obtain ⟨x,x1,x2⟩:=ih (i+1) (by omega) (by omega)
     refine ⟨x,x1, ?_⟩
     rcases x2 with x2 | ⟨x2,x3⟩
     ·exact .inl x2
     ·refine .inr ⟨x2,fun b hb=> ?_⟩
      rw [zbm hi] at hb
      rcases List.mem_cons.1 hb with rfl | hb
      ·exact zLU (by omega) (q2 rfl _ (by simp)) hw
      ·exact x3 b hb
   ·simp only [Wy.ev_i,Wy.ev_k,Wy.ev_h,Wy.ev_bn,Wy.ev_d,tT,hi]
    exact ⟨_,rfl,.inr ⟨rfl,fun b hb=>by rw [zcE hi] at hb; cases hb⟩⟩
 obtain ⟨x,x1,x2⟩:=key (a.length+l.length+Int.toNat (0:Int)+(1:Nat)) 0 (by omega) (by omega)
 rw [show ((0:Nat):Int)=(0:Int) from rfl] at x1
 rw [List.drop_zero] at x2
 obtain ⟨q,q1,q2⟩:=zNL 30 (by omega) [a] (by simp) (fun x hx=>by
  rw [List.mem_singleton] at hx; subst hx; exact ha)
 replace q1:zmA (30:Int) [a]=(true,q):=q1
 have h4:decide (Int.ofNat l.length≤4)=decide (l.length≤4):=zsp _ 4
 unfold zyI zDI
 simp only [Wy.fin_i,Wy.fin_bn,Wy.fin_k,x1,cond_true]
 rcases x2 with rfl | ⟨rfl,x2⟩
 ·exact ⟨_,rfl,fun h=>by cases h⟩
 ·simp only [isL,getR,cond_false,q1,cond_true]
  show ∃ q_1,(bif decide (Int.ofNat l.length≤4) then (true,q) else (true,false))=(true,q_1)∧_
  rw [h4]
  by_cases hl4:l.length≤4
  ·rw [decide_eq_true hl4]
   exact ⟨q,rfl,fun h=>⟨q2 h a (by simp),hl4,x2⟩⟩
  ·rw [decide_eq_false hl4]
   exact ⟨_,rfl,fun h=>by cases h⟩
theorem zTS {a:List Term} (h:okA a) (b:List Term):zes a b=(true,decide (a=b)):=zq9 h.1.1 (by omega) b
theorem zSF:∀ {a:List Term},isU a=true→∃ x:Atom,(x.Kind=2∨x.Kind=3∨x.Kind=4)∧a=oneA x
 | [],h=>by cases h
 | [⟨c,fs⟩],h=>by
  simp only [isU,Bool.and_eq_true,beq_iff_eq] at h
  obtain ⟨rfl,h⟩:=h
  match fs,h with
  | [⟨x,e⟩],h=>
   simp only [oneF,Bool.and_eq_true,beq_iff_eq,Bool.or_eq_true] at h
   obtain ⟨rfl,h⟩:=h
   exact ⟨x,by rcases h with (h | h) | h <;>simp [h],rfl⟩
  | [],h=>cases h
  | _::_::_,h=>cases h
 | _::_::_,h=>by cases h
theorem zS5:∀ {a:List Term},isC a=true→∃ c,a=[⟨c,[]⟩]
 | [],h=>by cases h
 | [⟨c,fs⟩],h=>by
  simp only [isC,beq_iff_eq] at h
  cases fs with
  | nil=>exact ⟨c,rfl⟩
  | cons _ _=>simp at h
 | _::_::_,h=>by cases h
theorem zUE {a:List Term}:delU (delU a)=delU a:=by
 by_cases h1:a=[]∨isU a=true
 ·have e:delU a=a:=if_pos h1
  rw [e,e]
 ·by_cases h2:isC a=true
  ·have e:delU a=[⟨1,[]⟩]:=by unfold delU; rw [if_neg h1,if_pos h2]
   rw [e]; rfl
  ·have e:delU a=oneA (delA a):=by unfold delU; rw [if_neg h1,if_neg h2]
   rw [e]; rfl
theorem zPT {a:List Term} (h:IdP a):delU a=a:=by
 rcases h with rfl | rfl | ⟨x,hx,rfl⟩
 ·rfl
 ·rfl
 ·exact if_pos (.inr (by rw [zTA]; rcases hx with h | h <;>simp [h]))
section
variable {to:RowID→List Term} (hto:∀ r,PA (to r))
include hto
theorem zV3 {x:Atom} (h:vatA x=true):SG (zdu to) x:=(zKN hto 100).2 x h
theorem zKQ {a:List Term} (h:zC a=true):EA (zdu to) a:=((zKN hto 100).1 a h).1
theorem zV4 {a:List Term} (h:zC a=true):PA (vlA to a):=((zKN hto 100).1 a h).2
theorem zIP {x:Atom} (h:vatA x=true):vlA to (oneA x)=zdu to x:=zTm (zV3 hto h)
theorem zUe {a:List Term} (hv:zC a=true) (h:isU a=true):delU (vlA to a)=vlA to a:=by
 obtain ⟨x,hk,rfl⟩:=zSF h
 have hx:vatA x=true:=((zuK hv).2 ⟨1,[⟨x,1⟩]⟩ (by simp [oneA])).2.2 ⟨x,1⟩ (by simp) |>.2
 rw [zIP hto hx]
 cases zsB.1 hx with
 | var r hr=>simp at hk
 | mon a b=>simp at hk
 | del a=>rw [zLz]; exact zUE
 | abs a=>rw [zLC]; exact zPT (zQa _)
 | tst f l o b=>rw [zKK]; exact zPT (zMh ..)
theorem zTh {a:List Term} (hv:zC a=true) (h:isC a=true):vlA to a=a:=by
 obtain ⟨c,rfl⟩:=zS5 h
 exact zHM ((zuK hv).2 ⟨c,[]⟩ (by simp)).1
theorem zU8 {a:List Term} (ha:∀ t∈a,cOK t):hasC a=true↔evA (indA []) a≠0:=by
 constructor
 ·intro h
  unfold hasC at h
  obtain ⟨t,ht,he⟩:=List.any_eq_true.1 h
  have he:t.Factors=[]:=by
   cases hf:t.Factors with
   | nil=>rfl
   | cons _ _=>rw [hf] at he; simp at he
  clear h
  induction a with
  | nil=>cases ht
  | cons u r ih=>
   rw [evA]
   rcases List.mem_cons.1 ht with rfl | ht
   ·have hc:=ha t (by simp)
    unfold cOK at hc
    rw [he,indA,if_pos rfl]; omega
   ·have:=ih (fun x hx=>ha x (by simp [hx])) ht
    omega
 ·intro h
  obtain ⟨t,ht,he⟩:=zL7 h
  exact List.any_eq_true.2 ⟨t,ht,by rw [he]; rfl⟩
theorem zUn {a:List Term} (hv:zC a=true) (h:hasC a=true):hasC (vlA to a)=true:=by
 have he:=zKQ hto hv
 rw [zU8 hto (zV4 hto hv).c]
 have h1:=zzd (indA []) he.p PA.nil
 have h2:evA (fun m=>evA (indA []) (mvA (zdu to) m)) a≠0:=by
  obtain ⟨t,ht,hf⟩:=List.any_eq_true.1 h
  have hf:t.Factors=[]:=by
   cases hf':t.Factors with
   | nil=>rfl
   | cons _ _=>rw [hf'] at hf; simp at hf
  have hc:∀ t∈a,cOK t:=he.1.c
  clear h h1 he hv
  induction a with
  | nil=>cases ht
  | cons u r ih=>
   rw [evA]
   rcases List.mem_cons.1 ht with rfl | ht
   ·have hc:=hc t (by simp)
    unfold cOK at hc
    have e:evA (indA []) (mvA (zdu to) t.Factors)=1:=by rw [hf]; rfl
    rw [e]; omega
   ·have:=ih ht fun x hx=>hc x (by simp [hx])
    omega
 rw [show evA (indA []) []=0 from rfl,Nat.zero_add] at h1
 unfold EqS at h1
 unfold vlA
 omega
theorem zT3 {a b:List Term} (va:zC a=true) (vb:zC b=true):vlA to (sumA a b)=sumA (vlA to a) (vlA to b):=zT5 (zKQ hto va) (zKQ hto vb)
theorem zUp {a b:List Term} (va:zC a=true) (vb:zC b=true):vlA to (zbn a b)=zbn (vlA to a) (vlA to b):=zTz (zKQ hto va) (zKQ hto vb)
theorem zU6 {a b:List Term} (va:zC a=true) (vb:zC b=true):vlA to (monU a b)=monU (vlA to a) (vlA to b):=by
 unfold monU
 by_cases hb:b=[]
 ·subst hb
  rw [if_pos rfl,show vlA to []=[] from rfl,if_pos rfl]
 ·rw [if_neg hb]
  by_cases hc:a=[]∨a=b
  ·rw [if_pos hc]
   split
   ·rename_i h0
    rcases hc with rfl | rfl
    ·rfl
    ·exact h0.symm
   ·rw [if_pos (by rcases hc with rfl | rfl <;>simp [show vlA to []=[] from rfl])]; rfl
  ·rw [if_neg hc]
   have hv:vatA (monA a b)=true:=zTb va vb (fun e=>hc (.inl e)) hb (fun e=>hc (.inr e))
   rw [zIP hto hv]
   exact zOc ..
theorem zUo {a:List Term} (va:zC a=true):vlA to (delU a)=delU (vlA to a):=by
 by_cases h1:a=[]∨isU a=true
 ·have e:delU a=a:=if_pos h1
  rw [e]
  rcases h1 with rfl | h1
  ·rfl
  ·exact (zUe hto va h1).symm
 ·by_cases h2:isC a=true
  ·have e:delU a=[⟨1,[]⟩]:=by unfold delU; rw [if_neg h1,if_pos h2]
   rw [e,zTh hto va h2,e]
   exact zHM (by omega)
  ·have e:delU a=oneA (delA a):=by unfold delU; rw [if_neg h1,if_neg h2]
   have hv:vatA (delA a)=true:=zSZ va (fun e=>h1 (.inl e)) (by simpa using h2) (by simpa using fun e=>h1 (.inr e))
   rw [e,zIP hto hv]
   exact zLz ..
theorem zUF {a:List Term} (va:zC a=true):vlA to (absU a)=absU (vlA to a):=by
 by_cases h1:a=[]
 ·subst h1; exact zHM (by omega)
 ·by_cases h2:hasC a=true
  ·have h3:=zUn hto va h2
   have h4:vlA to a≠[]:=fun e=>by rw [e] at h3; cases h3
   unfold absU
   rw [if_neg h1,if_pos h2,if_neg h4,if_pos h3]; rfl
  ·have e:absU a=oneA (absA a):=by unfold absU; rw [if_neg h1,if_neg h2]
   have hv:vatA (absA a)=true:=zS1 va h1 (by simpa using h2)
   rw [e,zIP hto hv]
   exact zLC ..
end
def opL (how:Int) (a b:List Term):List Term×Int:=if how.tmod 5=0 then addR a b else if how.tmod 5=1 then mulR a b else if how.tmod 5=2 then monR a b else if how.tmod 5=3 then delR a else absR a
theorem zKx {a b:List Term} (oa:okA a) (ob:okA b) (how:Int):znZ a b how=(true,opL how a b):=by
 unfold znZ zwV opL
 simp only [Wy.fin_i,Wy.fin_bn,Wy.fin_k,(zNU oa ob).1,(zOd oa ob).1,(zKi oa ob).1,(zJ7 oa).1,(zIc oa).1,cond_true,beqd]
 by_cases h0:how.tmod 5=0
 ·simp [h0]
 ·by_cases h1:how.tmod 5=1
  ·simp [h1]
  ·by_cases h2:how.tmod 5=2
   ·simp [h2]
   ·by_cases h3:how.tmod 5=3
    ·simp [h3]
    ·simp [h0,h1,h2,h3]
theorem zV1 {a b:List Term} (oa:okA a) (ob:okA b) (how:Int):okR (opL how a b):=by
 unfold opL
 split
 ·exact zIG oa ob
 ·split
  ·exact zII oa ob
  ·split
   ·exact zIZ oa ob
   ·split
    ·exact zI7 oa
    ·exact zIK oa
theorem zU0 {to:RowID→List Term} (hto:∀ r,PA (to r)) {a b:List Term} (va:zC a=true) (vb:zC b=true) (how:Int) (h1:(opL how a b).2=0) (h2:(opL how (vlA to a) (vlA to b)).2=0):
  vlA to (opL how a b).1=(opL how (vlA to a) (vlA to b)).1:=by
 unfold opL at *
 by_cases k0:how.tmod 5=0
 ·simp only [k0,if_true] at *
  rw [(zLs h1).2,(zLs h2).2]; exact zT3 hto va vb
 ·simp only [k0,if_false] at *
  by_cases k1:how.tmod 5=1
  ·simp only [k1,if_true] at *
   rw [(zLl h1).2,(zLl h2).2]; exact zUp hto va vb
  ·simp only [k1,if_false] at *
   by_cases k2:how.tmod 5=2
   ·simp only [k2,if_true] at *
    rw [(zLB h1).2,(zLB h2).2]; exact zU6 hto va vb
   ·simp only [k2,if_false] at *
    by_cases k3:how.tmod 5=3
    ·simp only [k3,if_true] at *
     rw [(zKJ h1).2,(zKJ h2).2]; exact zUo hto va
    ·simp only [k3,if_false] at *
     rw [(zK1 h1).2,(zK1 h2).2]; exact zUF hto va
theorem zVm {a b:List Term} (hs:Srs a) (ha:zeo a) (hb:zeo b):zeo (sumA a b):=zmC.2 fun t ht=>by
 obtain ⟨x,hx,e⟩:=zte b a hs ht
 rw [e]
 rcases hx with hx | hx
 ·exact zmC.1 ha x hx
 ·exact zmC.1 hb x hx
theorem zUb {a b:List Term} (ha:zeo a) (hb:zeo b):zeo (zbn a b):=zmC.2 fun t ht=>by
 obtain ⟨x,hx,e⟩:=zte (zdb a b) [] List.Pairwise.nil ht
 rw [e]
 rcases hx with hx | hx
 ·cases hx
 ·obtain ⟨u,hu,v,hv,rfl⟩:=zvF hx
  refine zlC.2 fun f hf=> ?_
  obtain ⟨y,hy,e⟩:=znf hf
  rw [e]
  rcases hy with hy | hy
  ·exact zlC.1 (zmC.1 ha u hu) y hy
  ·exact zlC.1 (zmC.1 hb v hv) y hy
theorem zSt:zeo []:=by rw [zeo]; trivial
theorem zRC:zeo [⟨1,[]⟩]:=by rw [zeo,zsL,zeo]; exact ⟨trivial,trivial⟩
theorem zLJ {x:Atom} (h:zCg x):zeo (oneA x):=zmC.2 fun t ht=>by
 simp only [oneA,List.mem_singleton] at ht; subst ht
 exact zlC.2 fun f hf=>by rw [List.mem_singleton] at hf; subst hf; exact h
theorem zL2 {k:Int} {l:List (List Term)} (h:∀ a∈l,zeo a):zCg ⟨k,⟨0,0⟩,l,0,[],0,⟨0,0,ByteArray.mk #[]⟩⟩:=(zFN _).2 ⟨by simp,zAS.2 h,zye.2 fun w hw=>by cases hw⟩
theorem zWm {a b:List Term} (va:zC a=true) (ha:zeo a) (hb:zeo b) (how:Int) (h:(opL how a b).2=0):zeo (opL how a b).1:=by
 unfold opL at *
 by_cases k0:how.tmod 5=0
 ·simp only [k0,if_true] at *
  rw [(zLs h).2]; exact zVm (zOx va).1 ha hb
 ·simp only [k0,if_false] at *
  by_cases k1:how.tmod 5=1
  ·simp only [k1,if_true] at *
   rw [(zLl h).2]; exact zUb ha hb
  ·simp only [k1,if_false] at *
   by_cases k2:how.tmod 5=2
   ·simp only [k2,if_true] at *
    rw [(zLB h).2]
    show zeo (monU a b)
    unfold monU
    split
    ·exact ha
    ·split
     ·exact zSt
     ·refine zLJ (zL2 fun x hx=> ?_)
      simp only [List.mem_cons,List.not_mem_nil,or_false] at hx
      rcases hx with rfl | rfl
      ·exact ha
      ·exact hb
   ·simp only [k2,if_false] at *
    by_cases k3:how.tmod 5=3
    ·simp only [k3,if_true] at *
     rw [(zKJ h).2]
     show zeo (delU a)
     unfold delU
     split
     ·exact ha
     ·split
      ·exact zRC
      ·exact zLJ (zL2 fun x hx=>by rw [List.mem_singleton] at hx; subst hx; exact ha)
    ·simp only [k3,if_false] at *
     rw [(zK1 h).2]
     show zeo (absU a)
     unfold absU
     split
     ·exact zRC
     ·split
      ·exact zSt
      ·exact zLJ (zL2 fun x hx=>by rw [List.mem_singleton] at hx; subst hx; exact ha)
theorem zRJ:∀ {l:List Binding},(∀ b∈l,zC b.To=true)→∀ r,PA (toA l r)
 | [],_,r=>by
  rw [toA]; unfold varA
  cases zrn r with
  | true=>exact zEx _ (by simp)
  | false=>exact PA.nil
 | b::l,h,r=>by
  rw [toA]
  split
  ·exact zOx (h b (by simp))
  ·exact zRJ (fun c hc=>h c (by simp [hc])) r
theorem zOW {a:List Term} {l:List Binding} (hG:zC a=true→GS (zbK (toA l) a [])) (h:(subR a l).2=0):(zC a=true∧∀ r,PA (toA l r))∧subR a l=(vlA (toA l) a,0):=by
 unfold subR at *
 obtain ⟨h1,h2⟩:=zI0 h
 rw [Bool.and_eq_true] at h1
 have hp:∀ r,PA (toA l r):=zRJ fun b hb=>List.all_eq_true.1 h1.2 b hb
 refine ⟨⟨h1.1,hp⟩, ?_⟩
 have hg:=hG h1.1
 rw [h2] at h ⊢
 cases hs:zbK (toA l) a [] with
 | inl e=>
  rw [hs] at h hg
  exact absurd h hg
 | inr v=>
  have:=(zWc hp 100).1 a h1.1 [] v PA.nil hs
  rw [this]; rfl
theorem zQZ {a:List Term} {l:List Binding} (oa:okA a) (ha:zC a=true→zeo a) (h:okB l):zC a=true→GS (zbK (toA l) a []):=fun hv=>
 ((zIW h 1000).1 9 a (zCt hv (Nat.le_refl 9)) (by omega) oa.2.1 (ha hv) (by omega)).2
theorem zIk (a b:List Term) (l:List Binding) (how:Int) (ha:wf23 a) (hb:wf23 b) (hl:wf59 l) (_:wf5 how):zdV a b l how=(true,true):=by
 obtain ⟨q,h1,h2⟩:=zVW a l ha hl
 obtain ⟨q',h3,h4⟩:=zNL 12 (by omega) [a,b] (by simp) (fun x hx=>by
  simp only [List.mem_cons,List.not_mem_nil,or_false] at hx
  rcases hx with rfl | rfl
  ·exact ha
  ·exact hb)
 replace h3:zmA (12:Int) [a,b]=(true,q'):=h3
 unfold zdV zjz
 rw [Wy.fin_bn,h1]
 cases q with
 | false=>rfl
 | true=>
  rw [cond_true,Wy.fin_i,Bool.not_true,cond_false,Wy.fin_bn,h3]
  cases q' with
  | false=>rfl
  | true=>
   obtain ⟨_,hl4,hbo⟩:=h2 rfl
   have fa:=h4 rfl a (by simp)
   have fb:=h4 rfl b (by simp)
   have oa:=zLU (n:=12) (by omega) fa ha
   have ob:=zLU (n:=12) (by omega) fb hb
   have okl:okB l:=⟨by omega,hbo⟩
   have ok0:okB []:=⟨by simp,fun b hb=>by cases hb⟩
   have ma:zC a=true→zeo a:=fun hv=>zFO 100 a hv (by have:=fa.2; omega)
   have mb:zC b=true→zeo b:=fun hv=>zFO 100 b hv (by have:=fb.2; omega)
   have os:=(zL6 oa ma okl).1
   have ot:=(zL6 ob mb okl).1
   simp only [Wy.fin_i,Wy.fin_bn,Wy.fin_k,cond_true,Bool.not_true,cond_false,oa.valid,ob.valid,(zuE oa ma okl).1,(zuE ob mb okl).1,(zuE oa ma ok0).1,zKx oa ob how,zKx os ot how,bne0]
   cases va:zC a with
   | false=>rfl
   | true=>
    cases vb:zC b with
    | false=>rfl
    | true=>
     have e0:subR a []=(a,0):=by
      unfold subR opR
      rw [va]
      show ofS (zbK (toA []) a [])=_
      rw [show toA []=varA from rfl,zVq va]; rfl
     have ox:=(zV1 oa ob how).1
     rw [e0]
     simp only [Bool.not_true,cond_false,decide_true,zTS oa,cond_true]
     by_cases g1:(subR a l).2=0
     ·by_cases g2:(subR b l).2=0
      ·by_cases g3:(opL how a b).2=0
       ·by_cases g4:(opL how (subR a l).1 (subR b l).1).2=0
        ·have mx:zC (opL how a b).1=true→zeo (opL how a b).1:=fun _=>zWm va (ma va) (mb vb) how g3
         have ez:=zuE ox mx okl
         have oz:=(zL6 ox mx okl).1
         simp only [g1,g2,g3,g4,ez.1,zTS oz,decide_true,Bool.not_true,cond_false,cond_true]
         by_cases g5:(subR (opL how a b).1 l).2=0
         ·obtain ⟨⟨_,hp⟩,e1⟩:=zOW (zQZ oa ma okl) g1
          obtain ⟨_,e2⟩:=zOW (zQZ ob mb okl) g2
          obtain ⟨_,e5⟩:=zOW (zQZ ox mx okl) g5
          rw [e1,e2] at g4 ⊢
          rw [e5]
          have key:=zU0 hp va vb how g3 g4
          simp only at key ⊢
          rw [key]; simp
         ·rw [decide_eq_false g5]; rfl
        ·simp [g1,g2,g3,g4]
       ·simp [g1,g2,g3]
      ·simp [g1,g2]
     ·simp [g1]
end Go.Proofs.YtnolcogncjijpaaGreatDoor
end
