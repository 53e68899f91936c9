/- Texts of this claim, joined (the program, its functions in plain words, and what they compute). -/
import Derived.Test.YtljlfiomikifjaaGreatDoorGC10
set_option autoImplicit false
set_option linter.unusedVariables false
set_option linter.unusedSectionVars false
set_option linter.unusedSimpArgs false
set_option maxRecDepth 1000000
set_option maxHeartbeats 0
/- Substitution commutes with the operations; without bindings it changes nothing. -/
noncomputable section
namespace Go.Proofs.YtljlfiomikifjaaGreatDoor
open Go Go.Ab
mutual
def zeV (to:RowID→yC):Atom→yC
 | ⟨k,r,a,f,i,o,b⟩=>if k=0 then to r else if k=1 then monU ((zGw to a).getD 0 default) ((zGw to a).getD 1 default) else if k=2 then delU ((zGw to a).getD 0 default)
  else if k=3 then absU ((zGw to a).getD 0 default) else tstU f (zKl to i) o b
def zVM (to:RowID→yC):yD→yC
 | []=>[⟨1,[]⟩]
 | ⟨x,e⟩::r=>zcd (powA (zeV to x) e.toNat) (zVM to r)
def zXk (to:RowID→yC):yC→yC→yC
 | [],s=>s
 | ⟨c,fs⟩::r,s=>zXk to r (sumA s (zcd [⟨c,[]⟩] (zVM to fs)))
def zGw (to:RowID→yC):yA→yA
 | []=>[]
 | a::r=>zXk to a []::zGw to r
def zKl (to:RowID→yC):yE→yE
 | []=>[]
 | ⟨v,a⟩::r=>⟨v,zXk to a []⟩::zKl to r
end
section
variable (to:RowID→yC)
theorem z4O:∀ l:yD,zVM to l=mvA (zeV to) l
 | []=>by rw [zVM]; rfl
 | ⟨x,e⟩::r=>by rw [zVM,z4O r]; rfl
theorem zZT:∀ a s:yC,zXk to a s=evU (zeV to) a s
 | [],s=>by rw [zXk]; rfl
 | ⟨c,fs⟩::r,s=>by rw [zXk,zZT r,z4O]; rfl
def vlA (a:yC):yC:=evU (zeV to) a []
theorem zNh:∀ l:yA,zGw to l=l.map (vlA to)
 | []=>by rw [zGw]; rfl
 | a::r=>by rw [zGw,zNh r,zZT]; rfl
theorem zbb5 (r:RowID) (a b:yC) (f:Int) (i:yE) (o:Int) (v:Value):zeV to ⟨1,r,[a,b],f,i,o,v⟩=monU (vlA to a) (vlA to b):=by
 rw [zeV,zNh]; rfl
theorem zbbK (r:RowID) (a:yC) (f:Int) (i:yE) (o:Int) (v:Value):zeV to ⟨2,r,[a],f,i,o,v⟩=delU (vlA to a):=by
 rw [zeV,zNh]; rfl
theorem zbb4 (r:RowID) (a:yC) (f:Int) (i:yE) (o:Int) (v:Value):zeV to ⟨3,r,[a],f,i,o,v⟩=absU (vlA to a):=by
 rw [zeV,zNh]; rfl
theorem z8f (r:RowID) (a:yA) (f:Int) (i:yE) (o:Int) (v:Value):zeV to ⟨4,r,a,f,i,o,v⟩=tstU f (zKl to i) o v:=by
 rw [zeV]; rfl
theorem z7A (r:RowID) (a:yA) (f:Int) (i:yE) (o:Int) (v:Value):zeV to ⟨0,r,a,f,i,o,v⟩=to r:=by
 rw [zeV]; rfl
variable {to} (hto:∀ r,PA (to r))
include hto
theorem z6c:∀ m,(∀ a,zbj m a=true→EA (zeV to) a∧PA (vlA to a))∧(∀ x,zdt (zbj m) x=true→SG (zeV to) x)
 | 0=>by
  refine ⟨fun a h=>(by cases h),fun x h=> ?_⟩
  cases zcL.1 h with
  | var r h=>rw [SG,z7A]; exact ⟨hto r,fun h=>by simp at h⟩
  | mon a b ha=>cases ha
  | del a ha=>cases ha
  | abs a ha=>cases ha
  | tst f l o b hl hi=>rw [SG,z8f]; exact ⟨z9d ..,fun _=>z82 ..⟩
 | m+1=>by
  obtain ⟨h1,h2⟩:=z6c m
  have hA:∀ a,zbj (m+1) a=true→EA (zeV to) a∧PA (vlA to a):=fun a h=>by
   obtain ⟨_,s1,s2⟩:=zGc.1 (show vAnn (zdt (zbj m)) a=true from h)
   have he:EA (zeV to) a:=⟨⟨s1,fun t ht=>⟨(s2 t ht).1,(s2 t ht).2.1,fun f hf=>⟨⟨zAH ((s2 t ht).2.2 f hf).2,((s2 t ht).2.2 f hf).1.2⟩,((s2 t ht).2.2 f hf).1.1⟩⟩⟩,fun t ht f hf=>h2 _ ((s2 t ht).2.2 f hf).2⟩
   exact ⟨he,zbba he.p PA.nil⟩
  refine ⟨hA,fun x h=> ?_⟩
  cases zcL.1 h with
  | var r h=>rw [SG,z7A]; exact ⟨hto r,fun h=>by simp at h⟩
  | mon a b ha hb=>rw [SG,zbb5]; exact ⟨zbeN (hA a ha).2,fun h=>by simp at h⟩
  | del a ha=>rw [SG,zbbK]; exact ⟨zbeD (hA a ha).2,fun h=>by simp at h⟩
  | abs a ha=>rw [SG,zbb4]; exact ⟨zbdS _,fun _=>zbeX _⟩
  | tst f l o b hl hi=>rw [SG,z8f]; exact ⟨z9d ..,fun _=>z82 ..⟩
omit hto in
theorem zeI {α β:Type} {x:Int⊕α} {k:α→Int⊕β} {v:β}:sbd x k=.inr v↔∃ a,x=.inr a∧k a=.inr v:=by
 cases x with
 | inl e=>simp [sbd]
 | inr a=>simp [sbd]
omit hto in
theorem zP3 {r:yC×Int} {v:yC} (h:opS r=.inr v):r.2=0∧r.1=v:=by
 unfold opS at h;split at h
 ·rename_i h0; exact ⟨h0,by simpa using h⟩
 ·cases h
omit hto in
theorem z7b {l:yD} (h:∀ f∈l,(∀ v,zdS to f.Atom=.inr v→v=zeV to f.Atom)∧SG (zeV to) f.Atom):∀ {p q:yC},PA p→zdj to l p=.inr q→q=zcd p (mvA (zeV to) l):=by
 induction l with
 | nil=>intro p q hp hq; rw [zB7] at hq; cases hq; exact (z0l hp).symm
 | cons f r ih=>
  intro p q hp hq;rw [zAJ] at hq;obtain ⟨b,hb,hq⟩:=zeI.1 hq;obtain ⟨p',hp',hq⟩:=zeI.1 hq;have hf:=h f (by simp)
  rw [hf.1 b hb] at hp';have e:=z7i hf.2.1 _ hp hp';have pw:=zp8 hf.2.1 f.Exp.toNat;have hp'':PA p':=by rw [e]; exact zmT hp pw
  rw [ih (fun g hg=>h g (by simp [hg])) hp'' hq,e]
  exact zD5 hp pw (zPr fun g hg=>(h g (by simp [hg])).2)
omit hto in
theorem z9v {c:Int} (h:1≤c∧c≤1152921504606846976):cstA c=[⟨c,[]⟩]:=by
 unfold cstA; rw [if_neg (by omega),if_neg (by omega)]
omit hto in
theorem zbc9 {a:yC} (h:∀ t∈a,cOK t∧∀ f∈t.Factors,(∀ v,zdS to f.Atom=.inr v→v=zeV to f.Atom)∧SG (zeV to) f.Atom):∀ {s v:yC},PA s→zbQ to a s=.inr v→v=evU (zeV to) a s:=by
 induction a with
 | nil=>intro s v hs hv; rw [zNv] at hv; cases hv; rfl
 | cons t r ih=>
  intro s v hs hv;rw [zJH] at hv;obtain ⟨p,hp,hv⟩:=zeI.1 hv;obtain ⟨s',hs',hv⟩:=zeI.1 hv;have ht:=h t (by simp)
  rw [z9v ht.1] at hp;have e:=z7b ht.2 (z6H ht.1) hp;obtain ⟨e0,e1⟩:=zP3 hs';rw [(zba6 e0).2] at e1;have e1:sumA s p=s':=e1;have pp:PA p:=by rw [e]; exact z9Y ht.1 fun f hf=>(ht.2 f hf).2
  have ps:PA s':=by rw [← e1]; exact z2g hs pp
  rw [ih (fun u hu=>h u (by simp [hu])) ps hv, ← e1,e]; rfl
omit hto in
theorem z2n {m:Nat} (h1:∀ a,zbj m a=true→∀ s v,PA s→zbQ to a s=.inr v→v=evU (zeV to) a s) (x:Atom) (h:zdt (zbj m) x=true) (v:yC) (hv:zdS to x=.inr v):v=zeV to x:=by
 rw [zNM] at hv;cases zcL.1 h with
 | var r h=>simp only [if_true] at hv; cases hv; exact (z7A ..).symm
 | mon a b ha hb=>
  simp only [show ¬ (1:Int)=0 from by omega,if_false,if_true] at hv
  obtain ⟨xs,hxs,hv⟩:=zeI.1 hv;rw [zk3] at hxs;obtain ⟨a',ha',hxs⟩:=zeI.1 hxs;obtain ⟨l',hl',hxs⟩:=zeI.1 hxs;rw [zk3] at hl';obtain ⟨b',hb',hl'⟩:=zeI.1 hl';rw [zpT,zb0] at hl';cases hl'; cases hxs;obtain ⟨e0,e1⟩:=zP3 hv;have e0:(monR a' b').2=0:=e0;have e1:(monR a' b').1=v:=e1;rw [(zbfJ e0).2] at e1;rw [zbb5, ← e1,h1 a ha [] a' PA.nil ha',h1 b hb [] b' PA.nil hb']; rfl
 | del a ha=>
  simp only [show ¬ (2:Int)=0 from by omega,show ¬ (2:Int)=1 from by omega,if_false,if_true] at hv
  obtain ⟨xs,hxs,hv⟩:=zeI.1 hv;rw [zk3] at hxs;obtain ⟨a',ha',hxs⟩:=zeI.1 hxs;rw [zpT,zb0] at hxs;cases hxs;obtain ⟨e0,e1⟩:=zP3 hv;have e0:(delR a').2=0:=e0;have e1:(delR a').1=v:=e1;rw [(zbfp e0).2] at e1;rw [zbbK, ← e1,h1 a ha [] a' PA.nil ha']; rfl
 | abs a ha=>
  simp only [show ¬ (3:Int)=0 from by omega,show ¬ (3:Int)=1 from by omega,show ¬ (3:Int)=2 from by omega,if_false,if_true] at hv
  obtain ⟨xs,hxs,hv⟩:=zeI.1 hv;rw [zk3] at hxs;obtain ⟨a',ha',hxs⟩:=zeI.1 hxs;rw [zpT,zb0] at hxs;cases hxs;obtain ⟨e0,e1⟩:=zP3 hv;have e0:(absR a').2=0:=e0;have e1:(absR a').1=v:=e1;rw [(zbf2 e0).2] at e1;rw [zbb4, ← e1,h1 a ha [] a' PA.nil ha']; rfl
 | tst f l o b hl hi=>
  simp only [show ¬ (4:Int)=0 from by omega,show ¬ (4:Int)=1 from by omega,show ¬ (4:Int)=2 from by omega,show ¬ (4:Int)=3 from by omega,if_false] at hv
  obtain ⟨xs,hxs,hv⟩:=zeI.1 hv;obtain ⟨is,his,hv⟩:=zeI.1 hv
  have key:∀ (l:yE),(∀ w∈l,zbj m w.Ann=true)→∀ is,ze6 to l=.inr is→is=zKl to l:=by
   intro l;induction l with
   | nil=>intro _ is h; rw [zBN] at h; cases h; rw [zKl]
   | cons w r ih=>
    intro hm is h;rw [zDT] at h;obtain ⟨a',ha',h⟩:=zeI.1 h;obtain ⟨l',hl',h⟩:=zeI.1 h;cases h;obtain ⟨v,a⟩:=w;rw [zKl,zZT, ← ih (fun w hw=>hm w (by simp [hw])) l' hl',h1 a (hm ⟨v,a⟩ (by simp)) [] a' PA.nil ha']
  rw [key l (fun w hw=>(hi w hw).1) is his] at hv
  obtain ⟨e0,e1⟩:=zP3 hv;rw [(zbeM e0).2] at e1;rw [z8f]; exact e1.symm
theorem zbdx (m:Nat):(∀ a,zbj m a=true→∀ s v,PA s→zbQ to a s=.inr v→v=evU (zeV to) a s)∧(∀ x,zdt (zbj m) x=true→∀ v,zdS to x=.inr v→v=zeV to x):=by
 induction m with
 | zero=>exact ⟨fun a h=>(by cases h),z2n fun a h=>(by cases h)⟩
 | succ m ih=>
  have hA:∀ a,zbj (m+1) a=true→∀ s v,PA s→zbQ to a s=.inr v→v=evU (zeV to) a s:=fun a h s v hs hv=>by
   obtain ⟨_,s1,s2⟩:=zGc.1 (show vAnn (zdt (zbj m)) a=true from h)
   exact zbc9 (fun t ht=>⟨(s2 t ht).1,fun f hf=>⟨ih.2 _ ((s2 t ht).2.2 f hf).2,(z6c hto m).2 _ ((s2 t ht).2.2 f hf).2⟩⟩) hs hv
  exact ⟨hA,z2n hA⟩
end
theorem zAp {a:yC}:zeQ a=true↔a.length≤512∧zbp a≤8∧zN a≤4096∧∀ t∈a,t.Factors.length≤64∧∀ f∈t.Factors,f.Exp≤64∧f.Atom.Items.length≤1024:=by
 refine ⟨zwN,fun ⟨h1,h2,h3,h4⟩=> ?_⟩
 unfold zeQ;simp only [qc,qe];refine ⟨⟨⟨h1,h2⟩,h3⟩,List.all_eq_true.2 fun t ht=> ?_⟩
 obtain ⟨h5,h6⟩:=h4 t ht;unfold withF;rw [Bool.not_eq_true',Bool.or_eq_false_iff];refine ⟨by simp; omega, ?_⟩
 rw [List.any_eq_false];intro f hf;obtain ⟨h7,h8⟩:=h6 f hf;simp;exact ⟨h7,h8⟩
theorem z1u:∀ a b:yC,zN (a++b)=zN a+zN b
 | [],b=>by rw [ztB]; simp
 | t::r,b=>by rw [List.cons_append,zet,zet,z1u r b]; omega
theorem z2k:∀ a b:yC,zbp (a++b)=max (zbp a) (zbp b)
 | [],b=>by rw [zDz]; simp
 | t::r,b=>by rw [List.cons_append,zm8,zm8,z2k r b]; omega
theorem zGs:∀ a b:yD,zbI (a++b)=zbI a+zbI b
 | [],b=>by rw [ziv]; simp
 | t::r,b=>by rw [List.cons_append,zdb,zdb,zGs r b]; omega
theorem zGp:∀ a b:yD,zdq (a++b)=max (zdq a) (zdq b)
 | [],b=>by rw [zp6]; simp
 | t::r,b=>by rw [List.cons_append,zjh,zjh,zGp r b]; omega
structure FB (l:yD):Prop where
 len:l.length≤64
 nes:zdq l≤8
 siz:1+l.length+zbI l≤4096
 fs:∀ f∈l,f.Exp≤64∧f.Atom.Items.length≤1024
theorem FB.wi {l:yD} (h:FB l) (c:Int):zeQ [⟨c,l⟩]=true:=zAp.2 ⟨by simp,by rw [zm8,zDz]; have:=h.nes; simp only; omega,by rw [zet,ztB]; have:=h.siz; simp only; omega,fun t ht=>by
 rw [qh] at ht; subst ht; exact ⟨h.len,h.fs⟩⟩
theorem FB.of {a:yC} (h:zeQ a=true) {t:Term} (ht:t∈a):FB t.Factors:=by
 obtain ⟨h1,h2,h3,h4⟩:=zAp.1 h;obtain ⟨h5,h6⟩:=h4 t ht;refine ⟨h5,Nat.le_trans (z2s ht) h2, ?_,h6⟩
 have key:∀ {a:yC},t∈a→1+t.Factors.length+zbI t.Factors≤zN a:=by
  intro a;induction a with
  | nil=>intro h; cases h
  | cons u r ih=>
   intro h;rw [zet];rcases qd.1 h with rfl | h
   ·omega
   ·have:=ih h; omega
 have:=key ht;omega
theorem FB.app {a b:yD} (h:FB (a++b)):FB a∧FB b:=by
 obtain ⟨h1,h2,h3,h4⟩:=h;rw [qg] at h1 h3;rw [zGp] at h2;rw [zGs] at h3;exact ⟨⟨by omega,by omega,by omega,fun f hf=>h4 f (by simp [hf])⟩,⟨by omega,by omega,by omega,fun f hf=>h4 f (by simp [hf])⟩⟩
theorem FB.exp {P:yD} {x:Atom} {e j:Int} (h:FB (P++[⟨x,e⟩])) (hj:j≤64):FB (P++[⟨x,j⟩]):=by
 obtain ⟨h1,h2,h3,h4⟩:=h;rw [qg] at h1 h3;rw [zGp,zjh,zp6] at h2;rw [zGs,zdb,ziv] at h3;refine ⟨by rw [qg]; exact h1,by rw [zGp,zjh,zp6]; exact h2,by rw [qg,zGs,zdb,ziv]; exact h3,fun f hf=> ?_⟩
 rcases List.mem_append.1 hf with hf | hf
 ·exact h4 f (by simp [hf])
 ·rw [qh] at hf; subst hf;exact ⟨hj,(h4 ⟨x,e⟩ (by simp)).2⟩
theorem OKF.app {a b:yD} (h:OKF vatA (a++b)):OKF vatA a∧OKF vatA b:=⟨⟨(List.pairwise_append.1 h.1).1,fun f hf=>h.2 f (by simp [hf])⟩,⟨(List.pairwise_append.1 h.1).2.1,fun f hf=>h.2 f (by simp [hf])⟩⟩
theorem OKF.exp {P:yD} {x:Atom} {e j:Int} (h:OKF vatA (P++[⟨x,e⟩])) (h1:1≤j) (h2:j≤e):OKF vatA (P++[⟨x,j⟩]):=by
 have hx:=h.2 ⟨x,e⟩ (by simp)
 refine ⟨List.pairwise_append.2 ⟨(List.pairwise_append.1 h.1).1,by simp,fun a ha b hb=> ?_⟩,fun f hf=> ?_⟩
 ·rw [qh] at hb; subst hb;exact (List.pairwise_append.1 h.1).2.2 a ha ⟨x,e⟩ (by simp)
 ·rcases List.mem_append.1 hf with hf | hf
  ·exact h.2 f (by simp [hf])
  ·rw [qh] at hf; subst hf;refine ⟨⟨h1,fun hk=> ?_⟩,hx.2⟩
   have:=hx.1.2 hk;have h3:e=1:=this;show j=1;omega
theorem z2y {c:Int} {F:yD} (hc:1≤c∧c≤1152921504606846976) (hF:OKF vatA F) (hb:FB F):zG [⟨c,F⟩]=true:=zlV.2 ⟨hb.wi c,by simp,fun t ht=>by
 rw [qh] at ht; subst ht; exact ⟨hc,hF⟩⟩
theorem z47 {y:Factor}:∀ {P:yD},(∀ z∈P,cF z y<0)→zbd P [y]=P++[y]
 | [],_=>by rw [zbd]; rfl
 | z::r,h=>by rw [zbd,if_pos (h z (by simp)),z47 fun w hw=>h w (by simp [hw])]; rfl
theorem zVP {x:Atom} {j:Int} (hk:¬ (x.Kind=3∨x.Kind=4)):∀ {P:yD},(∀ z∈P,cF z ⟨x,1⟩<0)→zbd (P++[⟨x,j⟩]) [⟨x,1⟩]=P++[⟨x,j+1⟩]
 | [],_=>by
  have e:cF ⟨x,j⟩ ⟨x,1⟩=0:=cF_self' rfl;show zbd [⟨x,j⟩] [⟨x,1⟩]=[⟨x,j+1⟩];rw [zbd,e,if_neg (by omega),if_neg (by omega),if_neg hk,zbd]
 | z::r,h=>by
  show zbd (z::(r++[⟨x,j⟩])) [⟨x,1⟩]=_;rw [zbd,if_pos (h z (by simp)),zVP hk fun w hw=>h w (by simp [hw])]; rfl
theorem z4X {c:Int} (hc:1≤c∧c≤1152921504606846976) (M:yD) (x:Atom):zcd [⟨c,M⟩] (oneA x)=[⟨c,zbd M [⟨x,1⟩]⟩]:=by
 show sumA [] [zjg ⟨c,M⟩ ⟨1,[⟨x,1⟩]⟩]=_;unfold zjg;simp only [z1X hc.2];rfl
section
variable {c:Int} (hc:1≤c∧c≤1152921504606846976)
include hc
theorem z7z {P:yD} {x:Atom} {e:Int} (hF:OKF vatA (P++[⟨x,e⟩])) (hb:FB (P++[⟨x,e⟩])) (hv:zG (oneA x)=true):
  ∀ (n j:Nat),1≤j→(j+n:Int)=e→powS (oneA x) n [⟨c,P++[⟨x,(j:Int)⟩]⟩]=.inr [⟨c,P++[⟨x,e⟩]⟩]
 | 0,j,_,h=>by rw [show (j:Int)=e from by omega]; rfl
 | n+1,j,h1,h=>by
  have he:=(hF.2 ⟨x,e⟩ (by simp)).1
  have he64:=(hb.fs ⟨x,e⟩ (by simp)).1
  have hk:¬ (x.Kind=3∨x.Kind=4):=fun hk=>by
   have:e=1:=he.2 hk;omega
  have he64:e≤64:=he64;have hj:=z2y hc (hF.exp (j:=(j:Int)) (by omega) (by omega)) (hb.exp (j:=(j:Int)) (by omega))
  have hlt:∀ z∈P,cF z ⟨x,1⟩<0:=fun z hz=>(List.pairwise_append.1 hF.1).2.2 z hz ⟨x,e⟩ (by simp)
  have hp:zcd [⟨c,P++[⟨x,(j:Int)⟩]⟩] (oneA x)=[⟨c,P++[⟨x,((j+1:Nat):Int)⟩]⟩]:=by
   rw [z4X hc,zVP hk hlt]; rfl
  unfold powS;rw [z9t hj hv (by rw [hp]; exact (hb.exp (by omega)).wi c),hp,z6A,zb0]
  exact z7z hF hb hv n (j+1) (by omega) (by omega)
theorem z6q:∀ {l:yD} {P:yD},OKF vatA (P++l)→FB (P++l)→(∀ f∈l,zdS varA f.Atom=.inr (oneA f.Atom)∧zG (oneA f.Atom)=true)→zdj varA l [⟨c,P⟩]=.inr [⟨c,P++l⟩]
 | [],P,_,_,_=>by rw [zB7,List.append_nil]
 | ⟨x,e⟩::r,P,hF,hb,h=>by
  have hx:=h ⟨x,e⟩ (by simp)
  have e2:P++⟨x,e⟩::r=(P++[⟨x,e⟩])++r:=by simp
  rw [e2] at hF hb ⊢;have hF1:=hF.app.1;have hb1:=hb.app.1;have he:=(hF1.2 ⟨x,e⟩ (by simp)).1.1
  have he:1≤e:=he;have he64:e≤64:=(hb1.fs ⟨x,e⟩ (by simp)).1
  rw [zAJ,show zdS varA (⟨x,e⟩:Factor).Atom=.inr (oneA x) from hx.1,zb0]
  have hp:powS (oneA x) (⟨x,e⟩:Factor).Exp.toNat [⟨c,P⟩]=.inr [⟨c,P++[⟨x,e⟩]⟩]:=by
   obtain ⟨n,hn⟩:∃ n:Nat,e=n+1:=⟨(e - 1).toNat,by omega⟩
   show powS (oneA x) e.toNat [⟨c,P⟩]=_;rw [show e.toNat=n+1 from by omega]
   have hv0:zG [⟨c,P⟩]=true:=z2y hc hF1.app.1 hb1.app.1;have hlt:∀ z∈P,cF z ⟨x,1⟩<0:=fun z hz=>(List.pairwise_append.1 hF1.1).2.2 z hz ⟨x,e⟩ (by simp)
   have hp:zcd [⟨c,P⟩] (oneA x)=[⟨c,P++[⟨x,1⟩]⟩]:=by rw [z4X hc,z47 hlt]
   unfold powS;rw [z9t hv0 hx.2 (by rw [hp]; exact (hb1.exp (by omega)).wi c),hp,z6A,zb0]
   exact z7z hc hF1 hb1 hx.2 n 1 (by omega) (by omega)
  rw [hp,zb0];exact z6q hF hb fun f hf=>h f (by simp [hf])
end
theorem zHL {s r:yC} (h:zG (s++r)=true):zG s=true∧zG r=true:=by
 obtain ⟨h1,h2,h3⟩:=zlV.1 h;obtain ⟨w1,w2,w3,w4⟩:=zAp.1 h1;rw [qg] at w1;rw [z2k] at w2;rw [z1u] at w3
 exact ⟨zlV.2 ⟨zAp.2 ⟨by omega,by omega,by omega,fun t ht=>w4 t (by simp [ht])⟩,(List.pairwise_append.1 h2).1,fun t ht=>h3 t (by simp [ht])⟩,
  zlV.2 ⟨zAp.2 ⟨by omega,by omega,by omega,fun t ht=>w4 t (by simp [ht])⟩,(List.pairwise_append.1 h2).2.1,fun t ht=>h3 t (by simp [ht])⟩⟩
theorem z60:∀ {r s:yC},zG (s++r)=true→(∀ t∈r,∀ f∈t.Factors,zdS varA f.Atom=.inr (oneA f.Atom)∧zG (oneA f.Atom)=true)→zbQ varA r s=.inr (s++r)
 | [],s,_,_=>by rw [zNv,List.append_nil]
 | t::r,s,hv,h=>by
  have e2:s++t::r=(s++[t])++r:=by simp
  rw [e2] at hv ⊢;obtain ⟨h1,h2⟩:=zlV.1 (zHL hv).1;have ht:=h2.2 t (by simp)
  have hb:FB t.Factors:=FB.of h1 (by simp)
  have hf:=z6q ht.1 (l:=t.Factors) (P:=[]) ht.2 hb (h t (by simp))
  have hadd:addR s [t]=(s++[t],0):=by
   have e:sumA s [t]=s++[t]:=z3Q _ _ h2.1;rw [zbeg (zHL (zHL hv).1).1 (zHL (zHL hv).1).2 (by rw [e]; exact h1),e]
  rw [zJH,z9v ht.1,hf,zb0];show sbd (opS (addR s [t])) _=_;rw [hadd,z6A,zb0];exact z60 hv fun u hu=>h u (by simp [hu])
theorem zbcI {d:Nat} {l:yE} (hl:l.length≤1000000) (h:∀ w∈l,zr d w.Ann∧w.Ann≠[]) (hd:d≤99) (hs:srtW l=true):zdX l=l:=by
 have e:l.filter hasA=l:=List.filter_eq_self.2 fun w hw=>by
  have:=(h w hw).2;unfold hasA;cases hx:w.Ann with
  | nil=>exact absurd hx this
  | cons x r=>simp
 unfold zdX;rw [e]
 have hp:l.Pairwise fun x y=>cmpT (zbc x) (zbc y)≤0:=zvl (R:=fun x y=>cmpT (zbc x) (zbc y)≤0) (fun x y z h1 h2=>zw0 _ _ _ h1 h2) l fun k hk hl'=>by
  have:=zen.1 hs k (by omega) (by omega)
  unfold srtI at this;rw [Bool.or_eq_true,qe,qe] at this;rcases this with e | e
  ·omega
  ·exact e
 refine ((zLL hl (fun w hw=>(h w hw).1) hd).unique (.refl _) ?_).symm
 refine hp.imp_of_mem fun {x y} hx hy hxy=> ?_
 rw [zjW (h y hy).1 hd,zgH (zbc x) (zbc y)];simp only; omega
def AB (x:Atom):Prop:=zn3 x≤8∧ze4 x+2≤4096∧x.Items.length≤1024
theorem AB.wi {x:Atom} (h:AB x):zeQ (oneA x)=true:=(FB.wi (l:=[⟨x,1⟩]) ⟨by simp,by rw [zjh,zp6]; have:=h.1; simp only; omega,by rw [zdb,ziv]; have:=h.2.1; simp only [List.length_singleton]; omega,fun f hf=>by
 rw [qh] at hf; subst hf; exact ⟨by simp,h.2.2⟩⟩ 1)
theorem AB.of {l:yD} (h:FB l) {f:Factor} (hf:f∈l):AB f.Atom:=by
 refine ⟨Nat.le_trans (zPW hf) h.nes, ?_,(h.fs f hf).2⟩;have h1:=zP1 hf
 have h2:1≤l.length:=by cases l with
  | nil=>cases hf
  | cons a r=>simp
 have:=h.siz;omega
theorem zbdW {m:Nat} (hA:∀ a,zbj m a=true→zbQ varA a []=.inr a) (x:Atom) (h:zdt (zbj m) x=true) (hx:AB x):zdS varA x=.inr (oneA x):=by
 have hw:=hx.wi;rw [zNM];cases zcL.1 h with
 | var r hr=>
  simp only [if_true];unfold varA; rw [hr]; rfl
 | mon a b ha hb ha0 hb0 hab=>
  simp only [show ¬ (1:Int)=0 from by omega,if_false,if_true]
  rw [zk3,hA a ha,zb0,zk3,hA b hb,zb0,zpT,zb0,zb0,zb0];show opS (monR a b)=_;unfold monR opR;rw [zz9 ha,zz9 hb,if_neg hb0,if_neg (by simp [ha0,hab])]
  show opS (fitR (oneA (monA a b)))=_;rw [zKm (a:=oneA (monA a b)) hw]; rfl
 | del a ha ha0 hc hu=>
  simp only [show ¬ (2:Int)=0 from by omega,show ¬ (2:Int)=1 from by omega,if_false,if_true]
  rw [zk3,hA a ha,zb0,zpT,zb0,zb0];show opS (delR a)=_;unfold delR opR;rw [zz9 ha,if_neg (by simp [ha0,hu]),if_neg (by simp [hc])]
  show opS (fitR (oneA (delA a)))=_;rw [zKm (a:=oneA (delA a)) hw]; rfl
 | abs a ha ha0 hc=>
  simp only [show ¬ (3:Int)=0 from by omega,show ¬ (3:Int)=1 from by omega,show ¬ (3:Int)=2 from by omega,if_false,if_true]
  rw [zk3,hA a ha,zb0,zpT,zb0,zb0];show opS (absR a)=_;unfold absR opR;rw [zz9 ha,if_neg ha0,if_neg (by simp [hc])]
  show opS (fitR (oneA (absA a)))=_;rw [zKm (a:=oneA (absA a)) hw]; rfl
 | tst f l o b hl hi hs hf=>
  simp only [show ¬ (4:Int)=0 from by omega,show ¬ (4:Int)=1 from by omega,show ¬ (4:Int)=2 from by omega,show ¬ (4:Int)=3 from by omega,if_false]
  have key:∀ l:yE,(∀ w∈l,zbj m w.Ann=true)→ze6 varA l=.inr l:=by
   intro l;induction l with
   | nil=>intro _; rw [zBN]
   | cons w r ih=>
    intro hm;rw [zDT,hA w.Ann (hm w (by simp)),zb0,ih fun v hv=>hm v (by simp [hv]),zb0]
  have hlen:l.length≤1024:=hx.2.2;have hs':=zbcI (d:=9) (l:=l) (by omega) (fun w hw=>⟨(ze1 (hi w hw).1).1,(hi w hw).2⟩) (by omega) hs
  rw [zpT,zb0,key l fun w hw=>(hi w hw).1,zb0]
  show opS (ztM f l o b)=_;unfold ztM;have hall:(l.all fun w=>zG w.Ann)=true:=List.all_eq_true.2 fun w hw=>zz9 (hi w hw).1
  have hpos:0<l.length:=by cases l with
   | nil=>exact absurd rfl hl
   | cons a r=>simp
  rw [hf,hall,hs',decide_eq_true hpos];show opS (fitR (oneA (tstA f l o b)))=_;rw [zKm (a:=oneA (tstA f l o b)) hw]; rfl
theorem zbbT:∀ m,∀ a,zbj m a=true→zbQ varA a []=.inr a
 | 0,a,h=>by cases h
 | m+1,a,h=>by
  obtain ⟨h1,_,h3⟩:=zGc.1 (show vAnn (zdt (zbj m)) a=true from h)
  exact z60 (s:=[]) (zz9 h) fun t ht f hf=>by
   have hb:=AB.of (FB.of h1 ht) hf;have hv:=((h3 t ht).2.2 f hf).2;exact ⟨zbdW (zbbT m) f.Atom hv hb,zbaw (zRr.2 ((zcL.1 hv).imp fun a ha=>zz9 ha)) hb.wi⟩
theorem zbfz {a:yC} (h:zG a=true):zbQ varA a []=.inr a:=zbbT 100 a h
theorem zbdu (a b:yD):cL a b=cmpL (zbA a) (zbA b):=by unfold cL; rw [cmpT]
theorem PA.canon {a:yC} (h:PA a):Canon a:=⟨h.1.imp fun {x y} hxy=>by rw [zbdu]; exact hxy,fun t ht=>(h.2 t ht).2.1⟩
theorem z6e {a b:yD} (ha:MF a) (hb:MF b):dvF a b=true↔∀ x,exA x a≤exA x b:=by
 rw [zyk];constructor
 ·intro h x;by_cases h0:exA x a=0
  ·rw [h0]; exact (zvZ hb).1
  ·obtain ⟨f,hf,rfl⟩:=(zvZ ha).2 h0;obtain ⟨g,hg,e1,e2⟩:=h f hf;rw [zC6 ha hf,e2,zC6 hb hg]; exact e1
 ·intro h f hf;have h1:=h f.Atom;rw [zC6 ha hf] at h1;have h2:=(ha.2 f hf).2;obtain ⟨g,hg,e⟩:=(zvZ hb).2 (show exA f.Atom b≠0 by omega)
  rw [← e,zC6 hb hg] at h1;exact ⟨g,hg,h1,e.symm⟩
theorem z8c {a b:yD} (ha:MF a) (hb:MF b):dvF a (zbd a b)=true:=(z6e ha (zp2 ha hb)).2 fun x=>by
 rw [zAy x ha hb];have h1:=(zvZ (x:=x) ha).1;have h2:=(zvZ (x:=x) hb).1;unfold cbE;split
 ·split <;>omega
 ·omega
theorem z8h {a b a' b':yD} (ha:MF a) (hb:MF b) (ha':MF a') (hb':MF b') (h1:dvF a a'=true) (h2:dvF b b'=true):dvF (zbd a b) (zbd a' b')=true:=(z6e (zp2 ha hb) (zp2 ha' hb')).2 fun x=>by
 rw [zAy x ha hb,zAy x ha' hb'];have e1:=(z6e ha ha').1 h1 x;have e2:=(z6e hb hb').1 h2 x;have p1:=(zvZ (x:=x) ha).1;have p2:=(zvZ (x:=x) hb).1;unfold cbE;by_cases hk:x.Kind=3∨x.Kind=4
 ·have i1:=zGe ha hk;have i2:=zGe hb hk;have i3:=zGe ha' hk;have i4:=zGe hb' hk;rw [if_pos hk,if_pos hk];split <;>split <;>omega
 ·rw [if_neg hk,if_neg hk]; omega
theorem zbfs (a:yD):dvF [] a=true:=rfl
theorem zbdU {t:Term} {l:yC} (h:Srs l) (L:yD):(∃ y∈putA t l,y.Factors=L)↔(∃ x∈l,x.Factors=L)∨t.Factors=L:=by
 constructor
 ·rintro ⟨y,hy,rfl⟩
  rcases (zAQ h).1 hy with ⟨h1,_⟩ | ⟨h1,_⟩
  ·exact .inl ⟨y,h1,rfl⟩
  ·exact .inr h1.symm
 ·intro hh;by_cases e:t.Factors=L
  ·subst e;by_cases hx:∃ x∈l,x.Factors=t.Factors
   ·obtain ⟨x,hx,e⟩:=hx;exact ⟨⟨zts x.Coeff t.Coeff,t.Factors⟩,(zAQ h).2 (.inr ⟨rfl,.inl ⟨x,hx,e,rfl⟩⟩),rfl⟩
   ·exact ⟨t,(zAQ h).2 (.inr ⟨rfl,.inr ⟨fun x hx' e=>hx ⟨x,hx',e⟩,rfl⟩⟩),rfl⟩
  ·rcases hh with ⟨x,hx,rfl⟩ | hh
   ·exact ⟨x,(zAQ h).2 (.inl ⟨hx,fun e'=>e e'.symm⟩),rfl⟩
   ·exact absurd hh e
theorem z4d:∀ (b a:yC),Srs a→∀ L,(∃ y∈sumA a b,y.Factors=L)↔(∃ x∈a,x.Factors=L)∨∃ x∈b,x.Factors=L
 | [],a,h,L=>by
  show (∃ y∈a,y.Factors=L)↔_;simp
 | t::r,a,h,L=>by
  show (∃ y∈sumA (putA t a) r,y.Factors=L)↔_;rw [z4d r _ (zAE h) L,zbdU h];simp only [qd,exists_eq_or_imp];constructor
  ·rintro ((h1 | h1) | h1)
   ·exact .inl h1
   ·exact .inr (.inl h1)
   ·exact .inr (.inr h1)
  ·rintro (h1 | h1 | h1)
   ·exact .inl (.inl h1)
   ·exact .inl (.inr h1)
   ·exact .inr h1
theorem zbbY {a b:yC} (h:Srs a):zbaC a b (sumA a b):=fun L=>z4d b a h L
theorem zKq (a b:yC) (L:yD):(∃ t∈zcd a b,t.Factors=L)↔∃ x∈a,∃ y∈b,zbd x.Factors y.Factors=L:=by
 unfold zcd;rw [z4d _ [] List.Pairwise.nil];constructor
 ·rintro (⟨x,hx,_⟩ | ⟨t,ht,rfl⟩)
  ·cases hx
  ·obtain ⟨x,hx,y,hy,rfl⟩:=zCT ht;exact ⟨x,hx,y,hy,rfl⟩
 ·rintro ⟨x,hx,y,hy,rfl⟩
  exact .inr ⟨zjg x y,List.mem_flatMap.2 ⟨x,hx,List.mem_map.2 ⟨y,hy,rfl⟩⟩,rfl⟩
theorem z6t {a b:yC} (ha:PA a) (hb:PA b):leS (zcd a b) a=true:=zki.2 fun t ht=>by
 obtain ⟨x,hx,y,hy,e⟩:=(zKq a b t.Factors).1 ⟨t,ht,rfl⟩;exact ⟨x,hx,by rw [← e]; exact z8c (ha.2 x hx).2 (hb.2 y hy).2⟩
theorem zbcz {a b a' b':yC} (ha:PA a) (hb:PA b) (ha':PA a') (hb':PA b') (h1:leS a a'=true) (h2:leS b b'=true):leS (zcd a b) (zcd a' b')=true:=zki.2 fun t ht=>by
 obtain ⟨x,hx,y,hy,e⟩:=(zKq a b t.Factors).1 ⟨t,ht,rfl⟩;obtain ⟨x',hx',d1⟩:=zki.1 h1 x hx;obtain ⟨y',hy',d2⟩:=zki.1 h2 y hy;obtain ⟨u,hu,eu⟩:=(zKq a' b' _).2 ⟨x',hx',y',hy',rfl⟩;exact ⟨u,hu,by rw [eu, ← e]; exact z8h (ha'.2 x' hx').2 (hb'.2 y' hy').2 (ha.2 x hx).2 (hb.2 y hy).2 d1 d2⟩
def SubF (s' s:yC):Prop:=∀ t∈s',∃ u∈s,u.Factors=t.Factors
theorem zWu:∀ (s s':yC),Srs s→Srs s'→SubF s' s→s'.length≤s.length∧zN s'≤zN s∧zbp s'≤zbp s
 | [],s',_,_,h=>by
  cases s' with
  | nil=>exact ⟨Nat.le_refl _,Nat.le_refl _,Nat.le_refl _⟩
  | cons y r=>obtain ⟨u,hu,_⟩:=h y (by simp); cases hu
 | x::r,s',hs,hs',h=>by
  have hc:=qi.1 hs;cases s' with
  | nil=>simp [ztB,zDz]
  | cons y r'=>
   have hc':=qi.1 hs';by_cases e:x.Factors=y.Factors
   ·have hsub:SubF r' r:=fun t ht=>by
     obtain ⟨u,hu,eu⟩:=h t (by simp [ht])
     rcases qd.1 hu with rfl | hu
     ·have:=hc'.1 t ht;rw [zvG (e.symm.trans eu)] at this; omega
     ·exact ⟨u,hu,eu⟩
    obtain ⟨h1,h2,h3⟩:=zWu r r' hc.2 hc'.2 hsub;rw [zet,zet,zm8,zm8,e];simp only [qf];exact ⟨by omega,by omega,by omega⟩
   ·have hxy:cT x y<0:=by
     obtain ⟨u,hu,eu⟩:=h y (by simp)
     rcases qd.1 hu with rfl | hu
     ·exact absurd eu e
     ·have:=hc.1 u hu;unfold cT at this ⊢; rw [← eu]; exact this
    have hsub:SubF (y::r') r:=fun t ht=>by
     obtain ⟨u,hu,eu⟩:=h t ht;rcases qd.1 hu with rfl | hu
     ·have hut:cT u t<0:=by
       rcases qd.1 ht with rfl | ht
       ·exact hxy
       ·exact zFZ hxy (hc'.1 t ht)
      rw [zvG eu] at hut; omega
     ·exact ⟨u,hu,eu⟩
    obtain ⟨h1,h2,h3⟩:=zWu r (y::r') hc.2 hs' hsub;rw [zet x r,zm8 x r];simp only [qf] at h1 ⊢;exact ⟨by omega,by omega,by omega⟩
theorem zbcW {s s':yC} (hs:Srs s) (hs':Srs s') (h:SubF s' s) (hw:zeQ s=true):zeQ s'=true:=by
 obtain ⟨w1,w2,w3,w4⟩:=zAp.1 hw;obtain ⟨h1,h2,h3⟩:=zWu s s' hs hs' h;refine zAp.2 ⟨by omega,by omega,by omega,fun t ht=> ?_⟩
 obtain ⟨u,hu,e⟩:=h t ht;rw [← e]; exact w4 u hu
theorem zbeA (a:yC):SubF (redL a) a:=fun t ht=>by
 obtain ⟨u,hu,_,rfl⟩:=zqS.1 ht;exact ⟨u,hu,rfl⟩
theorem zbbw {a:yC} (h:QA a):QA (redL a):=⟨(zDL h.pa.canon).asc.imp fun {x y} hxy=>by rw [zbdu] at hxy; exact hxy,fun t ht=>by
 obtain ⟨u,hu,_,rfl⟩:=zqS.1 ht;exact ⟨by constructor <;>simp,(h.2 u hu).2⟩⟩
theorem zUI {a:yC} (h:zG a=true):zG (redL a)=true:=zlV.2 ⟨zbcW (zzz h).1 (zbbw (zzz h)).1 (zbeA a) (zbaI h),zbbw (zzz h)⟩
def nfA (a:yC):yC:=bif zG a then redL a else []
theorem zVN {a:yC} (h:zG a=true):nfA a=redL a:=by unfold nfA; rw [h]; rfl
def subR (a:yC) (l:yG):yC×Int:=opR (zG a&&l.all fun b=>zG b.To) (ofS (zbQ (toA l) a []))
theorem zbgd {l:yG} (h:okB l):zce l=(true, !l.all fun b=>zG b.To):=by
 unfold zce zhm;have:zdN l=IG (fun (_:Unit) x=>zhP x) (l.length+(Int.ofNat l.length).toNat +Int.toNat (0:Int)+(1:Nat)) () l:=rfl
 rw [zk4 (P:=fun b=> !zG b.To) (this.trans (zJV _ _ _ _ _ (by have:=h.1; omega) (fun x hx=>by
  unfold zhP zxU;rw [Wy.fin_bn,(h.2 x hx).valid]; rfl) (by omega)))]
 simp [List.all_eq_not_any_not]
theorem zbdK {a:yC} {l:yG} (h:okB l):∀ (n i:Nat),l.length<i+n→i≤l.length→zyA n a l i=(true,if ((l.drop i).all fun b=>zG b.To)=true then .inr (a,l) else .inl 1)
 | 0,i,h1,h2=>by omega
 | n+1,i,h1,h2=>by
  have hlen:=h.1;show (zyF a l i).ev (fun x y=>zyA n x.1 x.2.1 x.2.2.1) (fun r=>(true,r)) (false,.inl default)=_
  unfold zyF;by_cases hi:i<l.length
  ·have hb:=h.2 _ (zt hi);rw [zbB hi,List.all_cons];simp only [Wy.ev_i,Wy.ev_k,Wy.ev_h,Wy.ev_bn,Wy.ev_d,tT,hi,hb.rvalid];cases zG (l.getD i default).To with
   | false=>rfl
   | true=>
    simp only [Bool.not_true,cond_false,Bool.true_and,zR (show i<4611686018427387904 by omega)]
    exact zbdK h n (i+1) (by omega) (by omega)
  ·simp only [Wy.ev_i,Wy.ev_k,Wy.ev_h,Wy.ev_bn,Wy.ev_d,tT,hi];rw [zc2 hi]; rfl
theorem zIO {a:yC} {l:yG} (oa:okA a) (ha:zG a=true→zbM a) (h:okB l):zfH a l=(true,subR a l)∧zMg a l=(true,subR a l):=by
 have key:zG a=true→(zz3 a l=(true,ofS (zbQ (toA l) a []))∧zSR a l=(true,ofS (zbQ (toA l) a []))):=fun hv=>((zXp h 1000).1 9 a (zKX hv (Nat.le_refl 9)) (by omega) oa.2.1 (ha hv) (by omega)).1
 constructor
 ·unfold zfH zAY subR;simp only [Wy.fin_i,Wy.fin_bn,Wy.fin_k,oa.valid,cond_true,zbgd h];cases hv:zG a with
  | false=>rfl
  | true=>
   cases (l.all fun b=>zG b.To) with
   | false=>rfl
   | true=>
    simp only [Bool.not_true,cond_false,(key hv).1,cond_true];rfl
 ·unfold zMg zHb subR;have h4:=zbdK (a:=a) h (a.length+l.length+Int.toNat (0:Int)+(1:Nat)) 0 (by omega) (by omega)
  rw [show ((0:Nat):Int)=(0:Int) from rfl,List.drop_zero] at h4
  simp only [Wy.fin_i,Wy.fin_bn,Wy.fin_k,oa.rvalid,cond_true,h4];cases hv:zG a with
  | false=>rfl
  | true=>
   cases (l.all fun b=>zG b.To) with
   | false=>rfl
   | true=>
    simp only [if_true,isL,getR,Bool.not_true,cond_false,(key hv).2,cond_true];rfl
theorem z83 {a:yC} {l:yG} (oa:okA a) (ha:zG a=true→zbM a) (h:okB l):okR (subR a l):=zPp fun hv=>by
 rw [qc] at hv;have hG:=((zXp h 1000).1 9 a (zKX hv.1 (Nat.le_refl 9)) (by omega) oa.2.1 (ha hv.1) (by omega)).2
 revert hG;cases zbQ (toA l) a [] with
 | inl e=>exact fun _=>⟨zjs,.inr rfl⟩
 | inr b=>exact fun hb=>⟨hb,.inl rfl⟩
def GP {α:Type} (P:α→Prop):Int⊕α→Prop
 | .inl _=>True
 | .inr a=>P a
theorem zEA {α β:Type} {P:α→Prop} {Q:β→Prop} {x:Int⊕α} {k:α→Int⊕β} (hx:GP P x) (hk:∀ a,P a→GP Q (k a)):GP Q (sbd x k):=by
 cases x with
 | inl e=>exact trivial
 | inr a=>exact hk a hx
theorem zXh {P:yC→Prop} {r:yC×Int} (h:P r.1):GP P (opS r):=by
 unfold opS;split
 ·exact h
 ·exact trivial
theorem zvw {a:yC}:zbM a↔∀ t∈a,∀ f∈t.Factors,zzt f.Atom:=by
 rw [zHA];exact ⟨fun h t ht=>zx2.1 (h t ht),fun h t ht=>zx2.2 (h t ht)⟩
theorem zvt:zbM []:=zHA.2 fun t ht=>by cases ht
theorem zRR (c:Int):zbM [⟨c,[]⟩]:=zvw.2 fun t ht f hf=>by
 rw [qh] at ht; subst ht; cases hf
theorem zQc {x:Atom} (h:zzt x):zbM (oneA x):=zvw.2 fun t ht f hf=>by
 simp only [oneA,qh] at ht; subst ht;rw [qh] at hf; subst hf; exact h
theorem zPt {a:yC} (h:zbM a):zbM (fitR a).1:=by
 unfold fitR;cases zeQ a with
 | true=>exact h
 | false=>exact zvt
theorem zW6 {ok:Bool} {r:yC×Int} (h:ok=true→zbM r.1):zbM (opR ok r).1:=by
 cases ok with
 | true=>exact h rfl
 | false=>exact zvt
theorem zbfF {a b:yC} (hs:Srs a) (ha:zbM a) (hb:zbM b):zbM (sumA a b):=zvw.2 fun t ht f hf=>by
 obtain ⟨x,hx,e⟩:=zDb b a hs ht;rw [e] at hf;rcases hx with hx | hx
 ·exact zvw.1 ha x hx f hf
 ·exact zvw.1 hb x hx f hf
theorem zbes {a b:yC} (ha:zbM a) (hb:zbM b):zbM (zcd a b):=zvw.2 fun t ht f hf=>by
 obtain ⟨x,hx,e⟩:=zDb (zd5 a b) [] List.Pairwise.nil ht;rw [e] at hf;rcases hx with hx | hx
 ·cases hx
 ·obtain ⟨u,hu,v,hv,rfl⟩:=zCT hx;obtain ⟨y,hy,e⟩:=zuH hf;rw [e];rcases hy with hy | hy
  ·exact zvw.1 ha u hu y hy
  ·exact zvw.1 hb v hv y hy
theorem zbgc {a b:yC} (ha:zbM a) (hb:zbM b):zbM (addR a b).1:=zW6 fun hv=>by
 rw [qc] at hv;exact zPt (zbfF (zF1 hv.1).1 ha hb)
theorem zbfB {a b:yC} (ha:zbM a) (hb:zbM b):zbM (mulR a b).1:=zW6 fun _=>zPt (zbes ha hb)
theorem z0E {k:Int} {l:yA} (h:∀ a∈l,zbM a):zzt ⟨k,⟨0,0⟩,l,0,[],0,⟨0,0,ByteArray.mk #[]⟩⟩:=(zAB _).2 ⟨by simp,zwV.2 h,zut.2 fun w hw=>by cases hw⟩
theorem zbf8 {a b:yC} (ha:zbM a) (hb:zbM b):zbM (monR a b).1:=zW6 fun _=>by
 split
 ·exact ha
 ·split
  ·exact zvt
  ·refine zPt (zQc (z0E fun x hx=> ?_))
   simp only [qd,List.not_mem_nil,or_false] at hx;rcases hx with rfl | rfl
   ·exact ha
   ·exact hb
theorem zbfO {a:yC} (ha:zbM a):zbM (delR a).1:=zW6 fun _=>by
 split
 ·exact ha
 ·split
  ·exact zRR 1
  ·refine zPt (zQc (z0E fun x hx=> ?_))
   rw [qh] at hx; subst hx; exact ha
theorem zbfG {a:yC} (ha:zbM a):zbM (absR a).1:=zW6 fun _=>by
 split
 ·exact zRR 1
 ·split
  ·exact zvt
  ·refine zPt (zQc (z0E fun x hx=> ?_))
   rw [qh] at hx; subst hx; exact ha
theorem zbd6 {f o:Int} {l:yE} {b:Value} (hl:l.length<20) (h:∀ w∈l,zbM w.Ann):zbM (ztM f l o b).1:=by
 unfold ztM;cases (!(fitK f l o b&&l.all fun w=>zG w.Ann)) with
 | true=>exact zvt
 | false=>
  cases decide (0<(zdX l).length) with
  | true=>
   refine zPt (zQc ((zAB _).2 ⟨?_,zwV.2 fun a ha=>(by cases ha),zut.2 fun w hw=>h w (zJI hw).1⟩))
   have h1:(zdX l).length=(l.filter hasA).length:=(zk6 _ _).length_eq;have h2:=List.length_filter_le hasA l;show (zdX l).length<20;omega
  | false=>
   cases (f==0&&mats o (cmpI 0 b.Int)) with
   | true=>exact zRR 1
   | false=>exact zvt
theorem zbbR {b:yC} (hb:zbM b):∀ (n:Nat) (p:yC),zbM p→GP zbM (powS b n p)
 | 0,p,hp=>hp
 | n+1,p,hp=>zEA (zXh (zbfB hp hb)) fun q hq=>zbbR hb n q hq
theorem zbfu (n:Int):zbM (cstA n):=by
 unfold cstA;split
 ·exact zvt
 ·exact zRR _
theorem z9g {l:yA} (h:∀ a∈l,zbM a) (i:Nat):zbM (l.getD i default):=by
 by_cases hi:i<l.length
 ·exact h _ (zt hi)
 ·rw [List.getD_eq_getElem?_getD,List.getElem?_eq_none (by omega)]; exact zvt
section
variable {to:RowID→yC} (ht:∀ r,zbM (to r))
include ht
mutual
theorem zban:∀ x:Atom,zzt x→GP zbM (zdS to x)
 | ⟨k,r,a,f,i,o,b⟩=>fun h=>by
  obtain ⟨h1,h2,h3⟩:=(zAB _).1 h;rw [zdS];split
  ·exact ht r
  ·refine zEA (z16 a (zwV.1 h2)) fun xs hxs=> ?_
   have g0:=z9g hxs 0;have g1:=z9g hxs 1;split
   ·exact zXh (zbf8 g0 g1)
   ·split
    ·exact zXh (zbfO g0)
    ·split
     ·exact zXh (zbfG g0)
     ·refine zEA (zZn i (zut.1 h3)) fun is his=>zXh (zbd6 ?_ his.2)
      rw [his.1]; exact h1
theorem zSX:∀ l:yD,(∀ f∈l,zzt f.Atom)→∀ p,zbM p→GP zbM (zdj to l p)
 | [],_,p,hp=>by rw [zdj]; exact hp
 | ⟨x,e⟩::r,h,p,hp=>by
  rw [zdj];exact zEA (zban x (h ⟨x,e⟩ (by simp))) fun b hb=>zEA (zbbR hb _ p hp) fun q hq=>zSX r (fun f hf=>h f (by simp [hf])) q hq
theorem zNL:∀ a:yC,(∀ t∈a,∀ f∈t.Factors,zzt f.Atom)→∀ s,zbM s→GP zbM (zbQ to a s)
 | [],_,s,hs=>by rw [zbQ]; exact hs
 | ⟨c,fs⟩::r,h,s,hs=>by
  rw [zbQ];exact zEA (zSX fs (h ⟨c,fs⟩ (by simp)) _ (zbfu c)) fun p hp=>zEA (zXh (zbgc hs hp)) fun q hq=>zNL r (fun t ht=>h t (by simp [ht])) q hq
theorem z16:∀ l:yA,(∀ a∈l,zbM a)→GP (fun r:yA=>∀ a∈r,zbM a) (ziE to l)
 | [],_=>by rw [ziE]; exact fun a ha=>by cases ha
 | a::r,h=>by
  rw [ziE];refine zEA (zNL a (zvw.1 (h a (by simp))) [] zvt) fun b hb=>zEA (z16 r fun c hc=>h c (by simp [hc])) fun l hl=> ?_
  intro x hx;rcases qd.1 hx with rfl | hx
  ·exact hb
  ·exact hl x hx
theorem zZn:∀ l:yE,(∀ w∈l,zbM w.Ann)→GP (fun r:yE=>r.length=l.length∧∀ w∈r,zbM w.Ann) (ze6 to l)
 | [],_=>by rw [ze6]; exact ⟨rfl,fun a ha=>by cases ha⟩
 | ⟨v,a⟩::r,h=>by
  rw [ze6];refine zEA (zNL a (zvw.1 (h ⟨v,a⟩ (by simp))) [] zvt) fun b hb=>zEA (zZn r fun c hc=>h c (by simp [hc])) fun l hl=> ?_
  refine ⟨by simp [hl.1],fun x hx=> ?_⟩
  rcases qd.1 hx with rfl | hx
  ·exact hb
  ·exact hl.2 x hx
end
end
theorem zbfU (r:RowID):zbM (varA r):=by
 unfold varA;cases zxo r with
 | false=>exact zvt
 | true=>exact zQc ((zAB _).2 ⟨by simp,zwV.2 fun a ha=>(by cases ha),zut.2 fun a ha=>by cases ha⟩)
theorem zbfW {l:yG} (h:∀ b∈l,zbM b.To):∀ r,zbM (toA l r):=fun r=>by
 rcases zXg l r 0 with ⟨_,e⟩ | ⟨j,hj,_,e⟩
 ·rw [e]; exact zbfU r
 ·rw [e]; exact h _ (zt hj)
theorem z9N {a:yC} {l:yG} (ha:zG a=true→zbM a) (h:(∀ b∈l,zG b.To=true)→∀ b∈l,zbM b.To):zbM (subR a l).1:=by
 unfold subR;refine zW6 fun hv=> ?_
 rw [qc,List.all_eq_true] at hv;have hG:=zNL (to:=toA l) (zbfW (h hv.2)) a (zvw.1 (ha hv.1)) [] zvt;revert hG;cases zbQ (toA l) a [] with
 | inl e=>exact fun _=>zvt
 | inr b=>exact fun hb=>hb
section
variable {σ:Atom→yC}
theorem z9j:∀ {t1:yD} {g:Factor} {t2:yD},(∀ f∈t1++g::t2,SG σ f.Atom)→mvA σ (t1++g::t2)=zcd (powA (σ g.Atom) g.Exp.toNat) (mvA σ (t1++t2))
 | [],g,t2,_=>rfl
 | x::r,g,t2,h=>by
  have hx:=zp8 (h x (by simp)).1 x.Exp.toNat
  have hg:=zp8 (h g (by simp)).1 g.Exp.toNat
  have hr:PA (mvA σ (r++t2)):=zPr fun f hf=>h f (by
   rcases List.mem_append.1 hf with hf | hf <;>simp [hf])
  show zcd (powA (σ x.Atom) x.Exp.toNat) (mvA σ (r++g::t2))=zcd (powA (σ g.Atom) g.Exp.toNat) (zcd (powA (σ x.Atom) x.Exp.toNat) (mvA σ (r++t2)));rw [z9j fun f hf=>h f (by simp only [List.cons_append,qd]; exact .inr hf), ← zD5 hx hg hr,z4p hx hg,zD5 hg hx hr]
theorem zbfP {b:yC} (hb:PA b) {n m:Nat} (h:m≤n):leS (powA b n) (powA b m)=true:=by
 obtain ⟨k,rfl⟩:=Nat.le.dest h;rw [z8b hb m k];exact z6t (zp8 hb m) (zp8 hb k)
theorem zbfk (a:yC):leS a [⟨1,[]⟩]=true:=zki.2 fun t _=>⟨⟨1,[]⟩,by simp,zbfs _⟩
theorem zbdI:∀ {s t:yD},(s.Pairwise fun x y=>x.Atom≠y.Atom)→(∀ f∈s,SG σ f.Atom)→(∀ f∈t,SG σ f.Atom)→dvF s t=true→leS (mvA σ t) (mvA σ s)=true
 | [],t,_,_,_,_=>zbfk _
 | f::s,t,hp,hs,ht,h=>by
  have hp':=qi.1 hp;obtain ⟨g,hg,e1,e2⟩:=zyk.1 h f (by simp)
  obtain ⟨t1,t2,rfl⟩:=List.append_of_mem hg;rw [z9j ht]
  have hsub:∀ x∈t1++t2,x∈t1++g::t2:=fun x hx=>by
   rcases List.mem_append.1 hx with hx | hx <;>simp [hx]
  have hd:dvF s (t1++t2)=true:=zyk.2 fun x hx=>by
   obtain ⟨y,hy,e3,e4⟩:=zyk.1 h x (by simp [hx])
   refine ⟨y, ?_,e3,e4⟩;have hne:y≠g:=fun e=>hp'.1 x hx (by rw [e2,e4,e])
   rcases List.mem_append.1 hy with hy | hy
   ·exact List.mem_append.2 (.inl hy)
   ·rcases qd.1 hy with rfl | hy
    ·exact absurd rfl hne
    ·exact List.mem_append.2 (.inr hy)
  have pg:=(ht g (by simp)).1
  show leS _ (zcd (powA (σ f.Atom) f.Exp.toNat) (mvA σ s))=true;rw [e2];refine zbcz (zp8 pg _) (zPr fun x hx=>ht x (hsub x hx)) (zp8 pg _) (zPr fun x hx=>hs x (by simp [hx])) (zbfP pg (by omega)) ?_
  exact zbdI hp'.2 (fun x hx=>hs x (by simp [hx])) (fun x hx=>ht x (hsub x hx)) hd
theorem zbcv {c:Int} {m d:yC}:leS (zcd [⟨c,[]⟩] m) d=true↔leS m d=true:=by
 simp only [zki];constructor
 ·intro h t ht;obtain ⟨u,hu,e⟩:=(zKq [⟨c,[]⟩] m t.Factors).2 ⟨⟨c,[]⟩,by simp,t,ht,by rw [zbd]⟩
  rw [← e]; exact h u hu
 ·intro h t ht;obtain ⟨x,hx,y,hy,e⟩:=(zKq [⟨c,[]⟩] m t.Factors).1 ⟨t,ht,rfl⟩;rw [qh] at hx; subst hx;rw [zbd] at e;rw [← e]; exact h y hy
theorem zbav:∀ {a s d:yC},(∀ t∈a,cOK t∧∀ f∈t.Factors,SG σ f.Atom)→PA s→(leS (evU σ a s) d=true↔leS s d=true∧∀ t∈a,leS (mvA σ t.Factors) d=true)
 | [],s,d,_,_=>by simp [evU]
 | t::r,s,d,h,hs=>by
  have h1:=h t (by simp)
  rw [evU,zbav (fun u hu=>h u (by simp [hu])) (z2g hs (z9Y h1.1 h1.2)),(zbbY hs.1).le,zbcv]
  simp only [qd,forall_eq_or_imp,and_assoc]
theorem z9a {a b:yC} (ha:EA σ a) (hb:EA σ b) (h:leS a b=true):leS (evU σ a []) (evU σ b [])=true:=by
 refine (zbav ha.p PA.nil).2 ⟨zki.2 fun t ht=>(by cases ht),fun t ht=> ?_⟩
 obtain ⟨u,hu,hd⟩:=zki.1 h t ht;refine zGT (zbdI ?_ (hb.2 u hu) (ha.2 t ht) hd) (((zbav hb.p PA.nil).1 (zbcQ _)).2 u hu);exact (hb.1.2 u hu).2.1.imp fun {x y} hxy e=>by rw [cF_self' e] at hxy; omega
end
theorem zbem {a v w:yC} {l:yG} (ha:zG a=true) (hl:∀ b∈l,zG b.To=true) (h1:zbQ (toA l) a []=.inr v) (h2:zbQ (toA l) (redL a) []=.inr w) (hv:zG v=true) (hw:zG w=true):redL v=redL w:=by
 have hto:∀ r,PA (toA l r):=fun r=>by
  rcases zXg l r 0 with ⟨_,e⟩ | ⟨j,hj,_,e⟩
  ·rw [e]; unfold varA;cases zxo r with
   | false=>exact PA.nil
   | true=>exact zPk _ (by simp)
  ·rw [e]; exact zF1 (hl _ (zt hj))
 have hr:=zUI ha;have e1:=(zbdx hto 100).1 a ha [] v PA.nil h1;have e2:=(zbdx hto 100).1 (redL a) hr [] w PA.nil h2;have g1:=((z6c hto 100).1 a ha).1;have g2:=((z6c hto 100).1 (redL a) hr).1;subst e1 e2;exact zbeE (zF1 hv).canon (zF1 hw).canon (z9a g1 g2 (z6V (zF1 ha).canon)) (z9a g2 g1 (z7C a))
def zKe (a:yC) (i:Nat):Bool:=(List.range a.length).all fun k=> !(decide (k≠i)&&dvF (a.getD k default).Factors (a.getD i default).Factors&&(!dvF (a.getD i default).Factors (a.getD k default).Factors||decide (k<i)))
def redG (a:yC):yC:=((List.range a.length).filter (zKe a)).map fun i=>⟨1,(a.getD i default).Factors⟩
theorem zba0 {a:yC} {i:Nat}:zKe a i=true↔∀ k<a.length,k≠i→dvF (a.getD k default).Factors (a.getD i default).Factors=true→dvF (a.getD i default).Factors (a.getD k default).Factors=true∧i≤k:=by
 unfold zKe;simp only [List.all_eq_true,List.mem_range,Bool.not_eq_true',Bool.and_eq_false_iff,Bool.or_eq_false_iff,decide_eq_false_iff_not,Bool.not_eq_false',Nat.not_lt];constructor
 ·intro h k hk hne hd;rcases h k hk with (h1 | h1) | h1
  ·exact absurd hne h1
  ·rw [hd] at h1; cases h1
  ·exact ⟨h1.1,h1.2⟩
 ·intro h k hk;by_cases hne:k=i
  ·exact .inl (.inl fun h=>h hne)
  ·cases hd:dvF (a.getD k default).Factors (a.getD i default).Factors with
   | false=>exact .inl (.inr rfl)
   | true=>exact .inr (h k hk hne hd)
theorem zYk {τ:Type} [Inhabited τ] (p:τ→Bool):∀ a:List τ,((List.range a.length).filter fun i=>p (a.getD i default)).map (fun i=>a.getD i default)=a.filter p:=by
 intro a;induction a with
 | nil=>rfl
 | cons x r ih=>
  rw [qf,List.range_succ_eq_map,List.filter_cons,List.filter_cons];have h0:(x::r).getD 0 default=x:=rfl;rw [h0,List.filter_map,];have h1:((fun i=>p ((x::r).getD i default)) ∘ Nat.succ)=fun i=>p (r.getD i default):=by funext i; rfl
  rw [h1];cases p x with
  | true=>
   simp only [if_true,List.map_cons,List.map_map];refine congrArg (x::·) ?_;exact ih
  | false=>
   simp only [Bool.false_eq_true,if_false,List.map_map];exact ih
theorem zbc0 {a:yC} (h:a.Pairwise fun x y=>x.Factors≠y.Factors) {i k:Nat} (hi:i<a.length) (hk:k<a.length) (e:(a.getD i default).Factors=(a.getD k default).Factors):i=k:=by
 rcases Nat.lt_trichotomy i k with h1 | h1 | h1
 ·have:=List.pairwise_iff_getElem.1 h i k hi hk h1;rw [List.getD_eq_getElem?_getD,List.getD_eq_getElem?_getD,List.getElem?_eq_getElem hi,List.getElem?_eq_getElem hk] at e;exact absurd e this
 ·exact h1
 ·have:=List.pairwise_iff_getElem.1 h k i hk hi h1;rw [List.getD_eq_getElem?_getD,List.getD_eq_getElem?_getD,List.getElem?_eq_getElem hi,List.getElem?_eq_getElem hk] at e;exact absurd e.symm this
theorem Canon.dst {a:yC} (h:Canon a):a.Pairwise fun x y=>x.Factors≠y.Factors:=h.asc.imp fun {x y} hxy e=>by rw [e,ordL.refl] at hxy; omega
theorem zbcH {a:yC} (h:Canon a) {i:Nat} (hi:i<a.length):zKe a i=minT a (a.getD i default):=by
 rw [Bool.eq_iff_iff,zba0,zZS];constructor
 ·intro hk u hu hd;obtain ⟨k,hkl,rfl⟩:=zOq hu;by_cases e:k=i
  ·rw [e]
  ·have:=(hk k hkl e hd).1;exact z0z (h.fac _ hu) (h.fac _ (zt hi)) hd this
 ·intro hm k hk hne hd;have e:=hm _ (zt hk) hd;exact absurd (zbc0 h.dst hk hi e) hne
theorem zbaV {a:yC} (h:Canon a):redG a=redL a:=by
 unfold redG redL;rw [← zYk (minT a) a,List.map_map]
 have:(List.range a.length).filter (zKe a)=(List.range a.length).filter fun i=>minT a (a.getD i default):=by
  refine List.filter_congr fun i hi=> ?_
  exact zbcH h (List.mem_range.1 hi)
 rw [this]; rfl
theorem okA.fine {a:yC} (oa:okA a):zr (11+1) a:=oa.1.1
theorem okA.fac {a:yC} (oa:okA a):∀ t∈a,zdQ (zr 11) t.Factors:=fun t ht=>oa.fine.2 t ht
theorem okA.len {a:yC} (oa:okA a):a.length≤1000000:=oa.fine.1
theorem zbeY (c:Nat→Bool) (n:Nat):allN c n 0=(List.range n).all c:=by
 rw [Bool.eq_iff_iff,zen,List.all_eq_true];constructor
 ·intro h k hk; exact h k (by omega) (by have:=List.mem_range.1 hk; omega)
 ·intro h k _ hk; exact h k (List.mem_range.2 (by omega))
def kpP (a:yC) (i:Nat) (t:Term) (k:Nat):Bool:= !(decide (k≠i)&&dvF (a.getD k default).Factors t.Factors&&(!dvF t.Factors (a.getD k default).Factors||decide (k<i)))
theorem zbdB (a:yC) (ha:∀ t∈a,zdQ (zr 11) t.Factors) (hl:a.length≤1000000) (i:Nat) (hi:i<a.length) (o:yC) (t:Term) (ht:zdQ (zr 11) t.Factors):
  ∀ (n k m:Nat),m=a.length - k→a.length<k+n→k≤a.length→zv6 n a i a (a.length:Int) i a (a.length:Int) k o t=(true,bif allN (kpP a i t) m k then .inr (a,a,(a.length:Int),(i:Int),o,t) else .inl (a,a,(a.length:Int),(i:Int),o))
 | 0,k,m,hm,h,h2=>by omega
 | n+1,k,m,hm,h,h2=>by
  show (zvT a i a (a.length:Int) i a (a.length:Int) k o t).ev (fun x y=>zv6 n x.1 x.2.2.1 x.2.2.2.2.1 x.2.2.2.2.2.1 x.2.2.2.2.2.2.1 x.2.2.2.2.2.2.2.1 x.2.2.2.2.2.2.2.2.1 x.2.2.2.2.2.2.2.2.2.1 y.1 y.2.1) (fun r=>(true,r)) (false,.inl default)=_
  unfold zvT;by_cases hk:k<a.length
  ·obtain ⟨m',rfl⟩:∃ m',m=m'+1:=⟨m - 1,by omega⟩
   have key:=zbdB a ha hl i hi o t ht n (k+1) m' (by omega) (by omega) (by omega)
   have hu:=ha _ (zt hk);simp only [Wy.ev_i,Wy.ev_k,Wy.ev_h,Wy.ev_bn,Wy.ev_d,tT,hk,zbeW,z1D hu (by omega) ht.1,z1D ht (by omega) hu.1,zR (show k<4611686018427387904 by omega),key]
   have e:allN (kpP a i t) (m'+1) k=(kpP a i t k&&allN (kpP a i t) m' (k+1)):=rfl;rw [e];unfold kpP;by_cases hki:k≠i
   ·rw [decide_eq_true hki];cases dvF (a.getD k default).Factors t.Factors with
    | false=>rfl
    | true=>
     cases dvF t.Factors (a.getD k default).Factors with
     | false=>rfl
     | true=>
      by_cases hlt:k<i
      ·rw [decide_eq_true hlt]; rfl
      ·rw [decide_eq_false hlt]; rfl
   ·rw [decide_eq_false hki]; rfl
  ·have hm0:m=0:=by omega
   subst hm0;simp only [Wy.ev_i,Wy.ev_k,Wy.ev_h,Wy.ev_bn,Wy.ev_d,tT,hk];rfl
theorem zbay (a:yC) (i:Nat):zKe a i=allN (kpP a i (a.getD i default)) a.length 0:=(zbeY _ _).symm
theorem z96 {n i:Nat} (h:i<n):(List.range n).getD i default=i:=by
 rw [List.getD_eq_getElem?_getD,List.getElem?_range h]; rfl
theorem zbaR {n i:Nat} (h:i<n):(List.range n).drop i=i::(List.range n).drop (i+1):=by
 have:=zbB (l:=List.range n) (i:=i) (by simpa using h)
 rwa [z96 h] at this
def outK (keep:Nat→Bool) (a:yC) (i:Nat):yC:=(((List.range a.length).drop i).filter keep).map fun i=>⟨1,(a.getD i default).Factors⟩
theorem zbdQ {keep:Nat→Bool} {a:yC} {i:Nat} (h:i<a.length):outK keep a i=(if keep i=true then [⟨1,(a.getD i default).Factors⟩] else [])++outK keep a (i+1):=by
 unfold outK;rw [zbaR h,List.filter_cons];split <;>rfl
theorem zbe2 {keep:Nat→Bool} {a:yC} {i:Nat} (h:¬ i<a.length):outK keep a i=[]:=by
 unfold outK;rw [zc2 (by simpa using h)]; rfl
theorem zbaj (a:yC) (ha:∀ t∈a,zdQ (zr 11) t.Factors) (hl:a.length≤1000000):
  ∀ (n i:Nat) (o:yC),a.length<i+n→i≤a.length→o.length≤i→zvN n a a (a.length:Int) i o=(true,o++outK (zKe a) a i)
 | 0,i,o,h,h2,h3=>by omega
 | n+1,i,o,h,h2,h3=>by
  show (zvs a a (a.length:Int) i o).ev (fun x y=>zvN n x.1 x.2.2.1 x.2.2.2.1 x.2.2.2.2.1 y.1) (fun r=>(true,r)) (false,default)=_
  unfold zvs;by_cases hi:i<a.length
  ·have e6:=zbdB a ha hl i hi o (a.getD i default) (ha _ (zt hi)) (a.length+i+a.length+a.length+i+a.length+a.length+Int.toNat (0:Int)+o.length+(a.getD i default).Factors.length+1000) 0 a.length (by omega) (by omega) (by omega)
   rw [show ((0:Nat):Int)=(0:Int) from rfl, ← zbay] at e6
   simp only [Wy.ev_i,Wy.ev_k,Wy.ev_h,Wy.ev_bn,Wy.ev_d,tT,hi,e6];rw [zbdQ hi];cases zKe a i with
   | true=>
    have r1:decide ((o.length+([TermOf.mk (1:Int) (a.getD i default).Factors]:yC).length)*32≤reach)=true:=decide_eq_true (z7j (by simp; omega) (by omega))
    simp only [isL,getR,cond_true,cond_false,r1,zR (show i<4611686018427387904 by omega)]
    rw [zbaj a ha hl n (i+1) _ (by omega) (by omega) (by simp; omega)]
    have r2:(o.length+1)*32≤reach:=z7j (by omega) (by omega)
    simp [r2]
   | false=>
    simp only [isL,getL,cond_true,cond_false,zR (show i<4611686018427387904 by omega)]
    rw [zbaj a ha hl n (i+1) _ (by omega) (by omega) (by omega)]
    simp
  ·simp only [Wy.ev_i,Wy.ev_k,Wy.ev_h,Wy.ev_bn,Wy.ev_d,tT,hi,zbe2 hi];simp
theorem zbb6 (a:yC):outK (zKe a) a 0=redG a:=rfl
theorem zbam {a:yC} (ha:∀ t∈a,zdQ (zr 11) t.Factors) (hl:a.length≤1000000):znd a=(true,redG a):=by
 unfold znd zDN;have e:=zbaj a ha hl (a.length+a.length+a.length+Int.toNat (0:Int)+0+1000) 0 [] (by omega) (by omega) (by simp)
 rw [show ((0:Nat):Int)=(0:Int) from rfl,List.nil_append,zbb6] at e
 rw [Wy.fin_bn];simp only [tT,e,Wy.fin_k]
theorem zbez (a:yC):(redL a).length≤a.length:=by
 unfold redL;rw [List.length_map]; exact List.length_filter_le _ _
theorem z3i {a:yC} (oa:okA a) (hv:zG a=true):okA (redL a):=by
 obtain ⟨_,hl,ht⟩:=zw2 hv oa.2.1;refine zW7 (by have:=zbez a; omega) fun t h=> ?_
 obtain ⟨u,hu,_,rfl⟩:=zqS.1 h;have g:=(ht u hu).1;exact ⟨⟨by show (1:Int)≤1; omega,by show (1:Int)≤1152921504606846976; omega⟩,g.2.1,g.2.2⟩
theorem zbbn {a:yC} (h:zbM a):zbM (redL a):=zvw.2 fun t ht f hf=>by
 obtain ⟨u,hu,_,rfl⟩:=zqS.1 ht;exact zvw.1 h u hu f hf
theorem zbec {a:yC} (hv:zG a=true):subR a []=(a,0):=by
 unfold subR opR;rw [hv];show ofS (zbQ (toA []) a [])=_;rw [show toA []=varA from rfl,zbfz hv]; rfl
theorem zba3 {a:yC} (oa:okA a) (hv:zG a=true) (hs:zbM a):zoU a=(true,a):=by
 unfold zoU zE4;rw [Wy.fin_bn,(zIO oa (fun _=>hs) ⟨by simp,fun b hb=>by cases hb⟩).1,cond_true,Wy.fin_k,zbec hv]
theorem z85 {a:yC} (h:zG a=false):nfA a=[]:=by unfold nfA; rw [h]; rfl
theorem zbf7 {a:yC} (oa:okA a):okA (nfA a):=by
 cases hv:zG a with
 | false=>rw [z85 hv]; exact zjs
 | true=>rw [zVN hv]; exact z3i oa hv
theorem zV5 {a:yC} (oa:okA a) (hs:zG a=true→zbM a):zgN a=(true,nfA a):=by
 unfold zgN zE3;rw [Wy.fin_bn,oa.valid,cond_true,Wy.fin_i];cases hv:zG a with
 | false=>rw [z85 hv]; rfl
 | true=>
  rw [Bool.not_true,cond_false,Wy.fin_bn,zbam oa.fac oa.len,cond_true,zbaV (zF1 hv).canon,Wy.fin_bn,zba3 (z3i oa hv) (zUI hv) (zbbn (hs hv)),cond_true,Wy.fin_k,zVN hv]
theorem eqA {a:yC} (oa:okA a) (b:yC):zeW a b=(true,decide (a=b)):=zrI oa.1.1 (by omega) b
theorem few1 {n:Nat} (hn:n≤1000) {a:yC} (ha:wf23 a):∃ q,ztj (n:Int) [a]=(true,q)∧(q=true→okA a∧zek a≤n):=by
 obtain ⟨q,h1,h2⟩:=zbfX n hn [a] (by simp) (fun x hx=>by rw [qh] at hx; subst hx; exact ha)
 exact ⟨q,h1,fun h=>⟨zbfa hn (h2 h a (by simp)) ha,(h2 h a (by simp)).2⟩⟩
end Go.Proofs.YtljlfiomikifjaaGreatDoor
/- The law of the order. -/
set_option maxRecDepth 100000
namespace Go.Proofs.YtljlfiomikifjaaGreatDoor
open Go Go.Ab
theorem zbbh {a:yC} {n:Nat} (h:zek a≤n) (hn:n≤38):zG a=true→zbM a:=fun hv=>zZB 100 a hv (by omega)
end Go.Proofs.YtljlfiomikifjaaGreatDoor
/- The law of substitution. -/
set_option maxRecDepth 100000
namespace Go.Proofs.YtljlfiomikifjaaGreatDoor
open Go Go.Ab
theorem zbdO {a:yC} {l:yG} (oa:okA a) (ha:zG a=true→zbM a) (h:okB l):zG a=true→GS (zbQ (toA l) a []):=fun hv=>
 ((zXp h 1000).1 9 a (zKX hv (Nat.le_refl 9)) (by omega) oa.2.1 (ha hv) (by omega)).2
theorem z7w {a:yC} {l:yG} (hG:zG a=true→GS (zbQ (toA l) a [])) (h:(subR a l).2=0):(zG a=true∧∀ b∈l,zG b.To=true)∧∃ v,zbQ (toA l) a []=.inr v∧subR a l=(v,0):=by
 unfold subR at *;obtain ⟨h1,h2⟩:=zXu h;rw [qc] at h1;refine ⟨⟨h1.1,fun b hb=>List.all_eq_true.1 h1.2 b hb⟩, ?_⟩
 have hg:=hG h1.1;rw [h2] at h ⊢;cases hs:zbQ (toA l) a [] with
 | inl e=>
  rw [hs] at h hg;exact absurd h hg
 | inr v=>exact ⟨v,rfl,rfl⟩
theorem zbej {r:yC×Int} {v:yC} (h:opS r=.inr v):r.2=0∧v=r.1:=by
 unfold opS at h;split at h
 ·rename_i h0;exact ⟨by simpa using h0,(Sum.inr.inj h).symm⟩
 ·cases h
theorem z9i {α β:Type} {x:Int⊕α} {k:α→Int⊕β} {v:β} (h:sbd x k=.inr v):∃ a,x=.inr a∧k a=.inr v:=by
 cases x with
 | inl e=>cases h
 | inr a=>exact ⟨a,rfl,h⟩
theorem z0e {to:RowID→yC}:∀ (a s v:yC),zG s=true→zbQ to a s=.inr v→zG v=true
 | [],s,v,hs,h=>by
  rw [zbQ] at h;exact (Sum.inr.inj h) ▸ hs
 | ⟨c,fs⟩::r,s,v,hs,h=>by
  rw [zbQ] at h;obtain ⟨p,_,h⟩:=z9i h;obtain ⟨q,hq,h⟩:=z9i h;obtain ⟨h0,rfl⟩:=zbej hq;obtain ⟨⟨_,_,v3⟩,e⟩:=zba6 h0;rw [e] at h;exact z0e r _ v v3 h
theorem zVx (a:yC) (l:yG) (ha:wf23 a) (hl:wf47 l):zew a l=(true,true):=by
 obtain ⟨q,q1,q2⟩:=few1 (n:=20) (by omega) ha
 have hlen:l.length≤140737488351232:=hl.2
 have key:∀ (n i:Nat),l.length<i+n→i≤l.length→∃ x,zkW n a l i=(true,x)∧(x=.inl true∨(x=.inr (a,l)∧∀ b∈l.drop i,okA b.To∧zek b.To≤8)):=by
  intro n;induction n with
  | zero=>intro i h1 h2; omega
  | succ n ih=>
   intro i h1 h2;show ∃ x,(zkO a l i).ev (fun x y=>zkW n x.1 x.2.1 x.2.2.1) (fun r=>(true,r)) (false,.inl default)=(true,x)∧_
   unfold zkO;by_cases hi:i<l.length
   ·have hw:=(hl.1 _ (zt hi)).2;obtain ⟨q,q1,q2⟩:=few1 (n:=8) (by omega) hw
    replace q1:ztj (8:Int) [(l.getD i default).To]=(true,q):=q1;simp only [Wy.ev_i,Wy.ev_k,Wy.ev_h,Wy.ev_bn,Wy.ev_d,tT,hi,q1];cases q with
    | false=>exact ⟨_,rfl,.inl rfl⟩
    | true=>
     simp only [Bool.not_true,cond_false,zR (show i<4611686018427387904 by omega)]
     obtain ⟨x,x1,x2⟩:=ih (i+1) (by omega) (by omega)
     refine ⟨x,x1, ?_⟩;rcases x2 with x2 | ⟨x2,x3⟩
     ·exact .inl x2
     ·refine .inr ⟨x2,fun b hb=> ?_⟩
      rw [zbB hi] at hb;rcases qd.1 hb with rfl | hb
      ·exact q2 rfl
      ·exact x3 b hb
   ·simp only [Wy.ev_i,Wy.ev_k,Wy.ev_h,Wy.ev_bn,Wy.ev_d,tT,hi];exact ⟨_,rfl,.inr ⟨rfl,fun b hb=>by rw [zc2 hi] at hb; cases hb⟩⟩
 have l5:okA a→zek a≤20→l.length≤4→zG a=true→zsn 1 a l=(true,true):=fun oa wa h4 va=>by
  show (zkU a l).ev (zI zkV default 0) (fun r=>(true,r)) (false,default)=_
  unfold zkU;obtain ⟨x,x1,x2⟩:=key (a.length+l.length+Int.toNat (0:Int)+(1:Nat)) 0 (by omega) (by omega)
  rw [show ((0:Nat):Int)=(0:Int) from rfl] at x1
  rw [List.drop_zero] at x2;rw [Wy.ev_bn,x1,cond_true];rcases x2 with rfl | ⟨rfl,x2⟩
  ·rfl
  ·have sa:=zbbh wa (by omega) va
   have ob:okB l:=⟨by omega,fun b hb=>(x2 b hb).1⟩
   have ra:=z3i oa va;have rs:=zbbn sa;have rv:=zUI va;have s1:=zIO oa (fun _=>sa) ob
   have s2:=zIO ra (fun _=>rs) ob
   have hbs:(∀ b∈l,zG b.To=true)→∀ b∈l,zbM b.To:=fun hv b hb=>zbbh (x2 b hb).2 (by omega) (hv b hb)
   have t1:=z9N (a:=a) (l:=l) (fun _=>sa) hbs
   have t2:=z9N (a:=redL a) (l:=l) (fun _=>rs) hbs
   have k1:=(z83 oa (fun _=>sa) ob).1
   have k2:=(z83 ra (fun _=>rs) ob).1
   simp only [isL,getR,cond_false,Wy.ev_i,Wy.ev_bn,Wy.ev_k,s1.1,zV5 oa (fun _=>sa),zVN va,s2.1,zV5 k1 (fun _=>t1),zV5 k2 (fun _=>t2),eqA (zbf7 k1),cond_true,bne0]
   by_cases h1:(subR a l).2=0
   ·by_cases h2:(subR (redL a) l).2=0
    ·obtain ⟨⟨_,hv⟩,v,e1,e2⟩:=z7w (zbdO oa (fun _=>sa) ob) h1
     obtain ⟨_,w,e3,e4⟩:=z7w (zbdO ra (fun _=>rs) ob) h2
     rw [decide_eq_true h1,decide_eq_true h2,e2,e4];have vv:zG v=true:=z0e a [] v z5c e1;have vw:zG w=true:=z0e (redL a) [] w z5c e3;rw [zVN vv,zVN vw,zbem va hv e1 e3 vv vw];simp
    ·rw [decide_eq_true h1,decide_eq_false h2]; rfl
   ·rw [decide_eq_false h1]; rfl
 have l3:zso 1 a l=(true,true):=by
  show (zkP a l).ev (zI zkS default 0) (fun r=>(true,r)) (false,default)=_
  unfold zkP;replace q1:ztj (20:Int) [a]=(true,q):=q1;have e4:decide (Int.ofNat l.length>(4:Int))=decide (l.length>4):=zoK _ 4;simp only [Wy.ev_i,Wy.ev_bn,Wy.ev_k,q1,cond_true,e4];cases q with
  | false=>rfl
  | true=>
   obtain ⟨oa,wa⟩:=q2 rfl;by_cases h4:l.length>4
   ·rw [decide_eq_true h4]; rfl
   ·rw [decide_eq_false h4,oa.valid];cases va:zG a with
    | false=>rfl
    | true=>rw [l5 oa wa (by omega) va]; rfl
 unfold zew ztT;rw [Wy.fin_bn,l3]; rfl
end Go.Proofs.YtljlfiomikifjaaGreatDoor
end
