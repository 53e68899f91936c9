/- Texts of this claim, joined (the program, its functions in plain words, and what they compute). -/
import Derived.Test.YtoknknbmfmddbaaGreatDoorGC10
set_option autoImplicit false
set_option linter.unusedVariables false
set_option linter.unusedSectionVars false
set_option linter.unusedSimpArgs false
set_option maxRecDepth 1000000
set_option maxHeartbeats 0
/- Substitution as evaluation of polynomials. -/
noncomputable section
namespace Go.Proofs.YtoknknbmfmddbaaGreatDoor
open Go Go.Ab
def z9f (a b:yB):yB:=if b=[] then a else if a=[]\/a=b then [] else zcE (zbdg a b)
def z8k (a:yB):yB:=if a=[]\/isU a=true then a else if isC a=true then [⟨1,[]⟩] else zcE (zUg a)
def zXE (a:yB):yB:=if a=[] then [⟨1,[]⟩] else if zuo a=true then [] else zcE (zbb6 a)
def z0m (f:Int) (l:yD) (o:Int) (b:Value):yB:=
 if 0<(zdR l).length then zcE (zMW f (zdR l) o b) else if (f==0&&zMM o (zef 0 b.Int))=true then [⟨1,[]⟩] else []
theorem zbm8 {a b:yB} (h:(zBt a b).2=0):(zx a=true/\zx b=true)/\zBt a b=(z9f a b,0):=by
 unfold zBt at *;obtain ⟨h1,h2⟩:=z0K h;rw [qa] at h1;refine ⟨h1, ?_⟩;rw [h2] at h ⊢;unfold z9f;split at h
 ·rename_i hb; rw [if_pos hb,if_pos hb]
 ·rename_i hb;rw [if_neg hb,if_neg hb];split at h
  ·rename_i hc; rw [if_pos hc,if_pos hc]
  ·rename_i hc; rw [if_neg hc,if_neg hc]; exact (zSC h).2
theorem zbmp {a:yB} (h:(zBF a).2=0):zx a=true/\zBF a=(z8k a,0):=by
 unfold zBF at *;obtain ⟨h1,h2⟩:=z0K h;refine ⟨h1, ?_⟩;rw [h2] at h ⊢;unfold z8k;split at h
 ·rename_i hb; rw [if_pos hb,if_pos hb]
 ·rename_i hb;rw [if_neg hb,if_neg hb];split at h
  ·rename_i hc; rw [if_pos hc,if_pos hc]
  ·rename_i hc; rw [if_neg hc,if_neg hc]; exact (zSC h).2
theorem zbme {a:yB} (h:(zBA a).2=0):zx a=true/\zBA a=(zXE a,0):=by
 unfold zBA at *;obtain ⟨h1,h2⟩:=z0K h;refine ⟨h1, ?_⟩;rw [h2] at h ⊢;unfold zXE;split at h
 ·rename_i hb; rw [if_pos hb,if_pos hb]
 ·rename_i hb;rw [if_neg hb,if_neg hb];split at h
  ·rename_i hc; rw [if_pos hc,if_pos hc]
  ·rename_i hc; rw [if_neg hc,if_neg hc]; exact (zSC h).2
theorem zblq {f o:Int} {l:yD} {b:Value} (h:(zr5 f l o b).2=0):(zyw f l o b=true/\∀ w∈l,zx w.Ann=true)/\zr5 f l o b=(z0m f l o b,0):=by
 unfold zr5 at *;cases hk:zyw f l o b with
 | false=>rw [hk] at h; cases h
 | true=>
  rw [hk] at h;cases hv:l.all λw=>zx w.Ann with
  | false=>rw [hv] at h; cases h
  | true=>
   rw [hv] at h;refine ⟨⟨rfl,λw hw=>q1d.1 hv w hw⟩, ?_⟩
   simp only [q13,qk,q9] at h ⊢;unfold z0m;by_cases hl:0<(zdR l).length
   ·rw [qg hl,q7] at h;rw [qg hl,q7,if_pos hl];exact (zSC h).2
   ·rw [qd hl,q9,if_neg hl];cases (f==0&&zMM o (zef 0 b.Int)) <;>rfl
theorem zSF (x:At) (h:0<=x.Kind/\x.Kind<=4):PA (zcE x):=⟨by simp [zcE],λt ht=>by
 simp only [zcE,qj] at ht; subst ht;refine ⟨⟨by simp,by simp⟩,by simp,λf hf=> ?_⟩
 rw [qj] at hf; subst hf;exact ⟨⟨h,λ_=>rfl⟩,by simp⟩⟩
theorem zblc {a b:yB} (ha:PA a):PA (z9f a b):=by
 unfold z9f;split
 ·exact ha
 ·split
  ·exact PA.nil
  ·exact zSF _ (by simp [zbdg])
theorem zbkJ {a:yB} (ha:PA a):PA (z8k a):=by
 unfold z8k;split
 ·exact ha
 ·split
  ·exact zXR
  ·exact zSF _ (by simp [zUg])
theorem zblv (a:yB):PA (zXE a):=by
 unfold zXE;split
 ·exact zXR
 ·split
  ·exact PA.nil
  ·exact zSF _ (by simp [zbb6])
theorem zbe7 (f:Int) (l:yD) (o:Int) (b:Value):PA (z0m f l o b):=by
 unfold z0m;split
 ·exact zSF _ (by simp [zMW])
 ·split
  ·exact zXR
  ·exact PA.nil
def IdP (a:yB):Prop:=a=[]\/a=[⟨1,[]⟩]\/∃ x:At,(x.Kind=3\/x.Kind=4)/\a=zcE x
theorem zblF (a:yB):IdP (zXE a):=by
 unfold zXE;split
 ·exact .inr (.inl rfl)
 ·split
  ·exact .inl rfl
  ·exact .inr (.inr ⟨_,.inl rfl,rfl⟩)
theorem zbfg (f:Int) (l:yD) (o:Int) (b:Value):IdP (z0m f l o b):=by
 unfold z0m;split
 ·exact .inr (.inr ⟨_,.inr rfl,rfl⟩)
 ·split
  ·exact .inr (.inl rfl)
  ·exact .inl rfl
def z3h (b:yB):Nat->yB
 | 0=>[⟨1,[]⟩]
 | n+1=>zd0 b (z3h b n)
theorem z0X {b:yB} (hb:PA b):∀ n,PA (z3h b n)
 | 0=>zXR
 | n+1=>zvy hb (z0X hb n)
theorem zbcq {b:yB} (hb:PA b):∀ (n:Nat) {p q:yB},PA p->zw6 b n p=.inr q->q=zd0 p (z3h b n)
 | 0,p,q,hp,h=>by cases h; exact (zbd0 hp).symm
 | n+1,p,q,hp,h=>by
  unfold zw6 opS at h;by_cases h0:(zvS p b).2=0
  ·rw [if_pos h0,zb3,(zbmO h0).2] at h;rw [zbcq hb n (zvy hp hb) h];show zd0 (zd0 p b) (z3h b n)=zd0 p (zd0 b (z3h b n));rw [z6I hp hb (z0X hb n)]
  ·rw [if_neg h0] at h; cases h
section
variable (σ:At->yB)
def mvA:yC->yB
 | []=>[⟨1,[]⟩]
 | f::r=>zd0 (z3h (σ f.At) f.Exp.toNat) (mvA r)
def evU:yB->yB->yB
 | [],s=>s
 | t::r,s=>evU r (zcT s (zd0 [⟨t.Cf,[]⟩] (mvA σ t.Fs)))
def SG (x:At):Prop:=PA (σ x)/\(x.Kind=3\/x.Kind=4->IdP (σ x))
variable {σ}
theorem z6D:∀ {l:yC},(∀ f∈l,SG σ f.At)->PA (mvA σ l)
 | [],_=>zXR
 | f::r,h=>zvy (z0X (h f (by simp)).1 _) (z6D λg hg=>h g (by simp [hg]))
theorem z4p {c:Int} (h:1<=c/\c<=1152921504606846976):PA [⟨c,[]⟩]:=⟨by simp,λt ht=>by
 rw [qj] at ht; subst ht;exact ⟨h,MF.nil⟩⟩
def EA (σ:At->yB) (a:yB):Prop:=PA a/\∀ t∈a,∀ f∈t.Fs,SG σ f.At
theorem zbgK {t:Term} (hc:cOK t) (h:∀ f∈t.Fs,SG σ f.At):PA (zd0 [⟨t.Cf,[]⟩] (mvA σ t.Fs)):=zvy (z4p hc) (z6D h)
theorem zZ9:∀ {a s:yB},(∀ t∈a,cOK t/\∀ f∈t.Fs,SG σ f.At)->PA s->PA (evU σ a s)
 | [],s,_,hs=>hs
 | t::r,s,h,hs=>by
  rw [evU];exact zZ9 (λu hu=>h u (by simp [hu])) (zRn hs (zbgK (h t (by simp)).1 (h t (by simp)).2))
theorem zbmG (φ:yC->Nat) {c:Int} (hc:1<=c/\c<=1152921504606846976) {v:yB} (hv:PA v):EqS (evA φ (zd0 [⟨c,[]⟩] v)) (c.toNat *evA φ v):=by
 refine (zRv φ (z4p hc).c hv.c).trans (.inl ?_);show c.toNat *prW φ v []+0=_;rw [Nat.add_zero]; congr 1;unfold prW;exact zbbQ λt _=>by rw [zbn]
theorem z5K (φ:yC->Nat):∀ {a s:yB},(∀ t∈a,cOK t/\∀ f∈t.Fs,SG σ f.At)->PA s->EqS (evA φ (evU σ a s)) (evA φ s+evA (λm=>evA φ (mvA σ m)) a)
 | [],s,_,_=>.inl rfl
 | t::r,s,h,hs=>by
  have ht:=h t (by simp)
  have pt:=zbgK ht.1 ht.2;refine (z5K φ (λu hu=>h u (by simp [hu])) (zRn hs pt)).trans ?_
  rw [evA];refine ((z0a φ _ hs.c pt.c).add (.refl _)).trans ?_;refine (((EqS.refl _).add (zbmG φ ht.1 (z6D ht.2))).add (.refl _)).trans (.inl ?_);omega
theorem EA.p {a:yB} (h:EA σ a):∀ t∈a,cOK t/\∀ f∈t.Fs,SG σ f.At:=λt ht=>⟨h.1.c t ht,h.2 t ht⟩
theorem EA.sum {a b:yB} (ha:EA σ a) (hb:EA σ b):EA σ (zcT a b):=⟨zRn ha.1 hb.1,λt ht f hf=>by
 obtain ⟨x,hx,e⟩:=zDC b a ha.1.1 ht;rw [e] at hf;rcases hx with hx | hx
 ·exact ha.2 x hx f hf
 ·exact hb.2 x hx f hf⟩
theorem zbki {a b:yB} (ha:EA σ a) (hb:EA σ b):evU σ (zcT a b) []=zcT (evU σ a []) (evU σ b []):=by
 have pa:=zZ9 ha.p PA.nil;have pb:=zZ9 hb.p PA.nil;have pab:=zZ9 (ha.sum hb).p PA.nil;refine zbfD pab.1 (zRn pa pb).1 pab.c (zRn pa pb).c fun φ=> ?_
 refine (z5K φ (ha.sum hb).p PA.nil).trans ?_;refine (((EqS.refl _).add (z0a _ b ha.1.c hb.1.c))).trans ?_;refine .trans ?_ (z0a φ _ pa.c pb.c).symm;refine .trans (.inl ?_) ((z5K φ ha.p PA.nil).add (z5K φ hb.p PA.nil)).symm;simp only [evA]; omega
end
mutual
def zeW (to:RowID->yB):At->yB
 | ⟨k,r,a,f,i,o,b⟩=>if k=0 then to r else if k=1 then z9f ((zJi to a).getD 0 default) ((zJi to a).getD 1 default) else if k=2 then z8k ((zJi to a).getD 0 default)
  else if k=3 then zXE ((zJi to a).getD 0 default) else z0m f (zL0 to i) o b
def zZh (to:RowID->yB):yC->yB
 | []=>[⟨1,[]⟩]
 | ⟨x,e⟩::r=>zd0 (z3h (zeW to x) e.toNat) (zZh to r)
def z0S (to:RowID->yB):yB->yB->yB
 | [],s=>s
 | ⟨c,fs⟩::r,s=>z0S to r (zcT s (zd0 [⟨c,[]⟩] (zZh to fs)))
def zJi (to:RowID->yB):yA->yA
 | []=>[]
 | a::r=>z0S to a []::zJi to r
def zL0 (to:RowID->yB):yD->yD
 | []=>[]
 | ⟨v,a⟩::r=>⟨v,z0S to a []⟩::zL0 to r
end
section
variable (to:RowID->yB)
theorem z9C:∀ l:yC,zZh to l=mvA (zeW to) l
 | []=>by rw [zZh]; rfl
 | ⟨x,e⟩::r=>by rw [zZh,z9C r]; rfl
theorem z3n:∀ a s:yB,z0S to a s=evU (zeW to) a s
 | [],s=>by rw [z0S]; rfl
 | ⟨c,fs⟩::r,s=>by rw [z0S,z3n r,z9C]; rfl
def vlA (a:yB):yB:=evU (zeW to) a []
theorem zPB:∀ l:yA,zJi to l=l.map (vlA to)
 | []=>by rw [zJi]; rfl
 | a::r=>by rw [zJi,zPB r,z3n]; rfl
theorem zbio (r:RowID) (a b:yB) (f:Int) (i:yD) (o:Int) (v:Value):zeW to ⟨1,r,[a,b],f,i,o,v⟩=z9f (vlA to a) (vlA to b):=by
 rw [zeW,zPB]; rfl
theorem zbhE (r:RowID) (a:yB) (f:Int) (i:yD) (o:Int) (v:Value):zeW to ⟨2,r,[a],f,i,o,v⟩=z8k (vlA to a):=by
 rw [zeW,zPB]; rfl
theorem zbhf (r:RowID) (a:yB) (f:Int) (i:yD) (o:Int) (v:Value):zeW to ⟨3,r,[a],f,i,o,v⟩=zXE (vlA to a):=by
 rw [zeW,zPB]; rfl
theorem zbbT (r:RowID) (a:yA) (f:Int) (i:yD) (o:Int) (v:Value):zeW to ⟨4,r,a,f,i,o,v⟩=z0m f (zL0 to i) o v:=by
 rw [zeW]; rfl
theorem zbcF (r:RowID) (a:yA) (f:Int) (i:yD) (o:Int) (v:Value):zeW to ⟨0,r,a,f,i,o,v⟩=to r:=by
 rw [zeW]; rfl
variable {to} (hto:∀ r,PA (to r))
include hto
theorem zbgs:∀ m,(∀ a,zbi m a=true->EA (zeW to) a/\PA (vlA to a))/\(∀ x,zdj (zbi m) x=true->SG (zeW to) x)
 | 0=>by
  refine ⟨λa h=>(by cases h),λx h=> ?_⟩
  cases zcZ.1 h with
  | var r h=>rw [SG,zbcF]; exact ⟨hto r,λh=>by simp at h⟩
  | mon a b ha=>cases ha
  | del a ha=>cases ha
  | abs a ha=>cases ha
  | tst f l o b hl hi=>rw [SG,zbbT]; exact ⟨zbe7 ..,λ_=>zbfg ..⟩
 | m+1=>by
  obtain ⟨h1,h2⟩:=zbgs m
  have hA:∀ a,zbi (m+1) a=true->EA (zeW to) a/\PA (vlA to a):=λa h=>by
   obtain ⟨_,s1,s2⟩:=zG3.1 (show zvm (zdj (zbi m)) a=true from h)
   have he:EA (zeW to) a:=⟨⟨s1,λt ht=>⟨(s2 t ht).1,(s2 t ht).2.1,λf hf=>⟨⟨zAr ((s2 t ht).2.2 f hf).2,((s2 t ht).2.2 f hf).1.2⟩,((s2 t ht).2.2 f hf).1.1⟩⟩⟩,λt ht f hf=>h2 _ ((s2 t ht).2.2 f hf).2⟩
   exact ⟨he,zZ9 he.p PA.nil⟩
  refine ⟨hA,λx h=> ?_⟩
  cases zcZ.1 h with
  | var r h=>rw [SG,zbcF]; exact ⟨hto r,λh=>by simp at h⟩
  | mon a b ha hb=>rw [SG,zbio]; exact ⟨zblc (hA a ha).2,λh=>by simp at h⟩
  | del a ha=>rw [SG,zbhE]; exact ⟨zbkJ (hA a ha).2,λh=>by simp at h⟩
  | abs a ha=>rw [SG,zbhf]; exact ⟨zblv _,λ_=>zblF _⟩
  | tst f l o b hl hi=>rw [SG,zbbT]; exact ⟨zbe7 ..,λ_=>zbfg ..⟩
omit hto in
theorem zeV {α β:Type} {x:Int⊕α} {k:α->Int⊕β} {v:β}:sbd x k=.inr v↔∃ a,x=.inr a/\k a=.inr v:=by
 cases x with
 | inl e=>simp [sbd]
 | inr a=>simp [sbd]
omit hto in
theorem zS7 {r:yB×Int} {v:yB} (h:opS r=.inr v):r.2=0/\r.1=v:=by
 unfold opS at h;split at h
 ·rename_i h0; exact ⟨h0,by simpa using h⟩
 ·cases h
omit hto in
theorem zbcm {l:yC} (h:∀ f∈l,(∀ v,zdy to f.At=.inr v->v=zeW to f.At)/\SG (zeW to) f.At):∀ {p q:yB},PA p->zc7 to l p=.inr q->q=zd0 p (mvA (zeW to) l):=by
 induction l with
 | nil=>intro p q hp hq; rw [zCp] at hq; cases hq; exact (zbd0 hp).symm
 | cons f r ih=>
  intro p q hp hq;rw [zAz] at hq;obtain ⟨b,hb,hq⟩:=zeV.1 hq;obtain ⟨p',hp',hq⟩:=zeV.1 hq;have hf:=h f (by simp)
  rw [hf.1 b hb] at hp';have e:=zbcq hf.2.1 _ hp hp';have pw:=z0X hf.2.1 f.Exp.toNat;have hp'':PA p':=by rw [e]; exact zvy hp pw
  rw [ih (λg hg=>h g (by simp [hg])) hp'' hq,e]
  exact z6I hp pw (z6D λg hg=>(h g (by simp [hg])).2)
omit hto in
theorem zbfw {c:Int} (h:1<=c/\c<=1152921504606846976):zuN c=[⟨c,[]⟩]:=by
 unfold zuN; rw [if_neg (by omega),if_neg (by omega)]
omit hto in
theorem zbiX {a:yB} (h:∀ t∈a,cOK t/\∀ f∈t.Fs,(∀ v,zdy to f.At=.inr v->v=zeW to f.At)/\SG (zeW to) f.At):∀ {s v:yB},PA s->zb0 to a s=.inr v->v=evU (zeW to) a s:=by
 induction a with
 | nil=>intro s v hs hv; rw [zPA] at hv; cases hv; rfl
 | cons t r ih=>
  intro s v hs hv;rw [zLx] at hv;obtain ⟨p,hp,hv⟩:=zeV.1 hv;obtain ⟨s',hs',hv⟩:=zeV.1 hv;have ht:=h t (by simp)
  rw [zbfw ht.1] at hp;have e:=zbcm ht.2 (z4p ht.1) hp;obtain ⟨e0,e1⟩:=zS7 hs';rw [(zbbR e0).2] at e1;have e1:zcT s p=s':=e1;have pp:PA p:=by rw [e]; exact zbgK ht.1 λf hf=>(ht.2 f hf).2
  have ps:PA s':=by rw [<- e1]; exact zRn hs pp
  rw [ih (λu hu=>h u (by simp [hu])) ps hv, <- e1,e]; rfl
omit hto in
theorem z48 {m:Nat} (h1:∀ a,zbi m a=true->∀ s v,PA s->zb0 to a s=.inr v->v=evU (zeW to) a s) (x:At) (h:zdj (zbi m) x=true) (v:yB) (hv:zdy to x=.inr v):v=zeW to x:=by
 rw [zPg] at hv;cases zcZ.1 h with
 | var r h=>simp only [if_true] at hv; cases hv; exact (zbcF ..).symm
 | mon a b ha hb=>
  simp only [show ¬ (1:Int)=0 from by omega,if_false,if_true] at hv
  obtain ⟨xs,hxs,hv⟩:=zeV.1 hv;rw [zk6] at hxs;obtain ⟨a',ha',hxs⟩:=zeV.1 hxs;obtain ⟨l',hl',hxs⟩:=zeV.1 hxs;rw [zk6] at hl';obtain ⟨b',hb',hl'⟩:=zeV.1 hl';rw [zpU,zb3] at hl';cases hl'; cases hxs;obtain ⟨e0,e1⟩:=zS7 hv;have e0:(zBt a' b').2=0:=e0;have e1:(zBt a' b').1=v:=e1;rw [(zbm8 e0).2] at e1;rw [zbio, <- e1,h1 a ha [] a' PA.nil ha',h1 b hb [] b' PA.nil hb']; rfl
 | del a ha=>
  simp only [show ¬ (2:Int)=0 from by omega,show ¬ (2:Int)=1 from by omega,if_false,if_true] at hv
  obtain ⟨xs,hxs,hv⟩:=zeV.1 hv;rw [zk6] at hxs;obtain ⟨a',ha',hxs⟩:=zeV.1 hxs;rw [zpU,zb3] at hxs;cases hxs;obtain ⟨e0,e1⟩:=zS7 hv;have e0:(zBF a').2=0:=e0;have e1:(zBF a').1=v:=e1;rw [(zbmp e0).2] at e1;rw [zbhE, <- e1,h1 a ha [] a' PA.nil ha']; rfl
 | abs a ha=>
  simp only [show ¬ (3:Int)=0 from by omega,show ¬ (3:Int)=1 from by omega,show ¬ (3:Int)=2 from by omega,if_false,if_true] at hv
  obtain ⟨xs,hxs,hv⟩:=zeV.1 hv;rw [zk6] at hxs;obtain ⟨a',ha',hxs⟩:=zeV.1 hxs;rw [zpU,zb3] at hxs;cases hxs;obtain ⟨e0,e1⟩:=zS7 hv;have e0:(zBA a').2=0:=e0;have e1:(zBA a').1=v:=e1;rw [(zbme e0).2] at e1;rw [zbhf, <- e1,h1 a ha [] a' PA.nil ha']; rfl
 | tst f l o b hl hi=>
  simp only [show ¬ (4:Int)=0 from by omega,show ¬ (4:Int)=1 from by omega,show ¬ (4:Int)=2 from by omega,show ¬ (4:Int)=3 from by omega,if_false] at hv
  obtain ⟨xs,hxs,hv⟩:=zeV.1 hv;obtain ⟨is,his,hv⟩:=zeV.1 hv
  have key:∀ (l:yD),(∀ w∈l,zbi m w.Ann=true)->∀ is,zfw to l=.inr is->is=zL0 to l:=by
   intro l;induction l with
   | nil=>intro _ is h; rw [zCk] at h; cases h; rw [zL0]
   | cons w r ih=>
    intro hm is h;rw [zFD] at h;obtain ⟨a',ha',h⟩:=zeV.1 h;obtain ⟨l',hl',h⟩:=zeV.1 h;cases h;obtain ⟨v,a⟩:=w;rw [zL0,z3n, <- ih (λw hw=>hm w (by simp [hw])) l' hl',h1 a (hm ⟨v,a⟩ (by simp)) [] a' PA.nil ha']
  rw [key l (λw hw=>(hi w hw).1) is his] at hv
  obtain ⟨e0,e1⟩:=zS7 hv;rw [(zblq e0).2] at e1;rw [zbbT]; exact e1.symm
theorem zbnC (m:Nat):(∀ a,zbi m a=true->∀ s v,PA s->zb0 to a s=.inr v->v=evU (zeW to) a s)/\(∀ x,zdj (zbi m) x=true->∀ v,zdy to x=.inr v->v=zeW to x):=by
 induction m with
 | zero=>exact ⟨λa h=>(by cases h),z48 λa h=>(by cases h)⟩
 | succ m ih=>
  have hA:∀ a,zbi (m+1) a=true->∀ s v,PA s->zb0 to a s=.inr v->v=evU (zeW to) a s:=λa h s v hs hv=>by
   obtain ⟨_,s1,s2⟩:=zG3.1 (show zvm (zdj (zbi m)) a=true from h)
   exact zbiX (λt ht=>⟨(s2 t ht).1,λf hf=>⟨ih.2 _ ((s2 t ht).2.2 f hf).2,(zbgs hto m).2 _ ((s2 t ht).2.2 f hf).2⟩⟩) hs hv
  exact ⟨hA,z48 hA⟩
end
theorem zIi {a:yB}:zfN a=true↔a.length<=512/\zbt a<=8/\zO a<=4096/\∀ t∈a,t.Fs.length<=64/\∀ f∈t.Fs,f.Exp<=64/\f.At.Items.length<=1024:=by
 refine ⟨ztG,λ⟨h1,h2,h3,h4⟩=> ?_⟩
 unfold zfN;simp only [qa,qb];refine ⟨⟨⟨h1,h2⟩,h3⟩,q1d.2 λt ht=> ?_⟩
 obtain ⟨h5,h6⟩:=h4 t ht;unfold zCB;rw [q17,Bool.or_eq_false_iff];refine ⟨by simp; omega, ?_⟩
 rw [List.any_eq_false];intro f hf;obtain ⟨h7,h8⟩:=h6 f hf;simp;exact ⟨h7,h8⟩
theorem z6L:∀ a b:yB,zO (a++b)=zO a+zO b
 | [],b=>by rw [zxf]; simp
 | t::r,b=>by rw [qo,zf7,zf7,z6L r b]; omega
theorem z5t:∀ a b:yB,zbt (a++b)=max (zbt a) (zbt b)
 | [],b=>by rw [zK8]; simp
 | t::r,b=>by rw [qo,zyh,zyh,z5t r b]; omega
theorem zHX:∀ a b:yC,zbK (a++b)=zbK a+zbK b
 | [],b=>by rw [zi2]; simp
 | t::r,b=>by rw [qo,zda,zda,zHX r b]; omega
theorem zH1:∀ a b:yC,zdt (a++b)=max (zdt a) (zdt b)
 | [],b=>by rw [zq7]; simp
 | t::r,b=>by rw [qo,zjH,zjH,zH1 r b]; omega
structure FB (l:yC):Prop where
 len:l.length<=64
 nes:zdt l<=8
 siz:1+l.length+zbK l<=4096
 fs:∀ f∈l,f.Exp<=64/\f.At.Items.length<=1024
theorem FB.wi {l:yC} (h:FB l) (c:Int):zfN [⟨c,l⟩]=true:=zIi.2 ⟨by simp,by rw [zyh,zK8]; have:=h.nes; simp only; omega,by rw [zf7,zxf]; have:=h.siz; simp only; omega,λt ht=>by
 rw [qj] at ht; subst ht; exact ⟨h.len,h.fs⟩⟩
theorem FB.of {a:yB} (h:zfN a=true) {t:Term} (ht:t∈a):FB t.Fs:=by
 obtain ⟨h1,h2,h3,h4⟩:=zIi.1 h;obtain ⟨h5,h6⟩:=h4 t ht;refine ⟨h5,q18 (z6q ht) h2, ?_,h6⟩
 have key:∀ {a:yB},t∈a->1+t.Fs.length+zbK t.Fs<=zO a:=by
  intro a;induction a with
  | nil=>intro h; cases h
  | cons u r ih=>
   intro h;rw [zf7];rcases q8.1 h with rfl | h
   ·omega
   ·have:=ih h; omega
 have:=key ht;omega
theorem FB.app {a b:yC} (h:FB (a++b)):FB a/\FB b:=by
 obtain ⟨h1,h2,h3,h4⟩:=h;rw [qf] at h1 h3;rw [zH1] at h2;rw [zHX] at h3;exact ⟨⟨by omega,by omega,by omega,λf hf=>h4 f (by simp [hf])⟩,⟨by omega,by omega,by omega,λf hf=>h4 f (by simp [hf])⟩⟩
theorem FB.exp {P:yC} {x:At} {e j:Int} (h:FB (P++[⟨x,e⟩])) (hj:j<=64):FB (P++[⟨x,j⟩]):=by
 obtain ⟨h1,h2,h3,h4⟩:=h;rw [qf] at h1 h3;rw [zH1,zjH,zq7] at h2;rw [zHX,zda,zi2] at h3;refine ⟨by rw [qf]; exact h1,by rw [zH1,zjH,zq7]; exact h2,by rw [qf,zHX,zda,zi2]; exact h3,λf hf=> ?_⟩
 rcases q12.1 hf with hf | hf
 ·exact h4 f (by simp [hf])
 ·rw [qj] at hf; subst hf;exact ⟨hj,(h4 ⟨x,e⟩ (by simp)).2⟩
theorem OKF.app {a b:yC} (h:OKF zoX (a++b)):OKF zoX a/\OKF zoX b:=⟨⟨(q1m.1 h.1).1,λf hf=>h.2 f (by simp [hf])⟩,⟨(q1m.1 h.1).2.1,λf hf=>h.2 f (by simp [hf])⟩⟩
theorem OKF.exp {P:yC} {x:At} {e j:Int} (h:OKF zoX (P++[⟨x,e⟩])) (h1:1<=j) (h2:j<=e):OKF zoX (P++[⟨x,j⟩]):=by
 have hx:=h.2 ⟨x,e⟩ (by simp)
 refine ⟨q1m.2 ⟨(q1m.1 h.1).1,by simp,λa ha b hb=> ?_⟩,λf hf=> ?_⟩
 ·rw [qj] at hb; subst hb;exact (q1m.1 h.1).2.2 a ha ⟨x,e⟩ (by simp)
 ·rcases q12.1 hf with hf | hf
  ·exact h.2 f (by simp [hf])
  ·rw [qj] at hf; subst hf;refine ⟨⟨h1,λhk=> ?_⟩,hx.2⟩
   have:=hx.1.2 hk;have h3:e=1:=this;show j=1;omega
theorem z6p {c:Int} {F:yC} (hc:1<=c/\c<=1152921504606846976) (hF:OKF zoX F) (hb:FB F):zx [⟨c,F⟩]=true:=zqC.2 ⟨hb.wi c,by simp,λt ht=>by
 rw [qj] at ht; subst ht; exact ⟨hc,hF⟩⟩
theorem z9H {y:Fc}:∀ {P:yC},(∀ z∈P,cF z y<0)->zbn P [y]=P++[y]
 | [],_=>by rw [zbn]; rfl
 | z::r,h=>by rw [zbn,if_pos (h z (by simp)),z9H λw hw=>h w (by simp [hw])]; rfl
theorem zY8 {x:At} {j:Int} (hk:¬ (x.Kind=3\/x.Kind=4)):∀ {P:yC},(∀ z∈P,cF z ⟨x,1⟩<0)->zbn (P++[⟨x,j⟩]) [⟨x,1⟩]=P++[⟨x,j+1⟩]
 | [],_=>by
  have e:cF ⟨x,j⟩ ⟨x,1⟩=0:=cF_self' rfl;show zbn [⟨x,j⟩] [⟨x,1⟩]=[⟨x,j+1⟩];rw [zbn,e,if_neg (by omega),if_neg (by omega),if_neg hk,zbn]
 | z::r,h=>by
  show zbn (z::(r++[⟨x,j⟩])) [⟨x,1⟩]=_;rw [zbn,if_pos (h z (by simp)),zY8 hk λw hw=>h w (by simp [hw])]; rfl
theorem z9Y {c:Int} (hc:1<=c/\c<=1152921504606846976) (M:yC) (x:At):zd0 [⟨c,M⟩] (zcE x)=[⟨c,zbn M [⟨x,1⟩]⟩]:=by
 show zcT [] [zj9 ⟨c,M⟩ ⟨1,[⟨x,1⟩]⟩]=_;unfold zj9;simp only [z5s hc.2];rfl
section
variable {c:Int} (hc:1<=c/\c<=1152921504606846976)
include hc
theorem zbcf {P:yC} {x:At} {e:Int} (hF:OKF zoX (P++[⟨x,e⟩])) (hb:FB (P++[⟨x,e⟩])) (hv:zx (zcE x)=true):
  ∀ (n j:Nat),1<=j->(j+n:Int)=e->zw6 (zcE x) n [⟨c,P++[⟨x,(j:Int)⟩]⟩]=.inr [⟨c,P++[⟨x,e⟩]⟩]
 | 0,j,_,h=>by rw [show (j:Int)=e from by omega]; rfl
 | n+1,j,h1,h=>by
  have he:=(hF.2 ⟨x,e⟩ (by simp)).1
  have he64:=(hb.fs ⟨x,e⟩ (by simp)).1
  have hk:¬ (x.Kind=3\/x.Kind=4):=λhk=>by
   have:e=1:=he.2 hk;omega
  have he64:e<=64:=he64;have hj:=z6p hc (hF.exp (j:=(j:Int)) (by omega) (by omega)) (hb.exp (j:=(j:Int)) (by omega))
  have hlt:∀ z∈P,cF z ⟨x,1⟩<0:=λz hz=>(q1m.1 hF.1).2.2 z hz ⟨x,e⟩ (by simp)
  have hp:zd0 [⟨c,P++[⟨x,(j:Int)⟩]⟩] (zcE x)=[⟨c,P++[⟨x,((j+1:Nat):Int)⟩]⟩]:=by
   rw [z9Y hc,zY8 hk hlt]; rfl
  unfold zw6;rw [zbfH hj hv (by rw [hp]; exact (hb.exp (by omega)).wi c),hp,zbcT,zb3]
  exact zbcf hF hb hv n (j+1) (by omega) (by omega)
theorem zbbZ:∀ {l:yC} {P:yC},OKF zoX (P++l)->FB (P++l)->(∀ f∈l,zdy zp0 f.At=.inr (zcE f.At)/\zx (zcE f.At)=true)->zc7 zp0 l [⟨c,P⟩]=.inr [⟨c,P++l⟩]
 | [],P,_,_,_=>by rw [zCp,q1o]
 | ⟨x,e⟩::r,P,hF,hb,h=>by
  have hx:=h ⟨x,e⟩ (by simp)
  have e2:P++⟨x,e⟩::r=(P++[⟨x,e⟩])++r:=by simp
  rw [e2] at hF hb ⊢;have hF1:=hF.app.1;have hb1:=hb.app.1;have he:=(hF1.2 ⟨x,e⟩ (by simp)).1.1
  have he:1<=e:=he;have he64:e<=64:=(hb1.fs ⟨x,e⟩ (by simp)).1
  rw [zAz,show zdy zp0 (⟨x,e⟩:Fc).At=.inr (zcE x) from hx.1,zb3]
  have hp:zw6 (zcE x) (⟨x,e⟩:Fc).Exp.toNat [⟨c,P⟩]=.inr [⟨c,P++[⟨x,e⟩]⟩]:=by
   obtain ⟨n,hn⟩:∃ n:Nat,e=n+1:=⟨(e - 1).toNat,by omega⟩
   show zw6 (zcE x) e.toNat [⟨c,P⟩]=_;rw [show e.toNat=n+1 from by omega]
   have hv0:zx [⟨c,P⟩]=true:=z6p hc hF1.app.1 hb1.app.1;have hlt:∀ z∈P,cF z ⟨x,1⟩<0:=λz hz=>(q1m.1 hF1.1).2.2 z hz ⟨x,e⟩ (by simp)
   have hp:zd0 [⟨c,P⟩] (zcE x)=[⟨c,P++[⟨x,1⟩]⟩]:=by rw [z9Y hc,z9H hlt]
   unfold zw6;rw [zbfH hv0 hx.2 (by rw [hp]; exact (hb1.exp (by omega)).wi c),hp,zbcT,zb3]
   exact zbcf hc hF1 hb1 hx.2 n 1 (by omega) (by omega)
  rw [hp,zb3];exact zbbZ hF hb λf hf=>h f (by simp [hf])
end
theorem zH6 {s r:yB} (h:zx (s++r)=true):zx s=true/\zx r=true:=by
 obtain ⟨h1,h2,h3⟩:=zqC.1 h;obtain ⟨w1,w2,w3,w4⟩:=zIi.1 h1;rw [qf] at w1;rw [z5t] at w2;rw [z6L] at w3
 exact ⟨zqC.2 ⟨zIi.2 ⟨by omega,by omega,by omega,λt ht=>w4 t (by simp [ht])⟩,(q1m.1 h2).1,λt ht=>h3 t (by simp [ht])⟩,
  zqC.2 ⟨zIi.2 ⟨by omega,by omega,by omega,λt ht=>w4 t (by simp [ht])⟩,(q1m.1 h2).2.1,λt ht=>h3 t (by simp [ht])⟩⟩
theorem zbcS:∀ {r s:yB},zx (s++r)=true->(∀ t∈r,∀ f∈t.Fs,zdy zp0 f.At=.inr (zcE f.At)/\zx (zcE f.At)=true)->zb0 zp0 r s=.inr (s++r)
 | [],s,_,_=>by rw [zPA,q1o]
 | t::r,s,hv,h=>by
  have e2:s++t::r=(s++[t])++r:=by simp
  rw [e2] at hv ⊢;obtain ⟨h1,h2⟩:=zqC.1 (zH6 hv).1;have ht:=h2.2 t (by simp)
  have hb:FB t.Fs:=FB.of h1 (by simp)
  have hf:=zbbZ ht.1 (l:=t.Fs) (P:=[]) ht.2 hb (h t (by simp))
  have hadd:zmR s [t]=(s++[t],0):=by
   have e:zcT s [t]=s++[t]:=z7N _ _ h2.1;rw [zblO (zH6 (zH6 hv).1).1 (zH6 (zH6 hv).1).2 (by rw [e]; exact h1),e]
  rw [zLx,zbfw ht.1,hf,zb3];show sbd (opS (zmR s [t])) _=_;rw [hadd,zbcT,zb3];exact zbcS hv λu hu=>h u (by simp [hu])
theorem zbiz {d:Nat} {l:yD} (hl:l.length<=1000000) (h:∀ w∈l,zq d w.Ann/\w.Ann≠[]) (hd:d<=99) (hs:z0o l=true):zdR l=l:=by
 have e:l.filter zm2=l:=List.filter_eq_self.2 λw hw=>by
  have:=(h w hw).2;unfold zm2;cases hx:w.Ann with
  | nil=>exact absurd hx this
  | cons x r=>simp
 unfold zdR;rw [e]
 have hp:l.Pairwise λx y=>zbe (zbf x) (zbf y)<=0:=zvk (R:=λx y=>zbe (zbf x) (zbf y)<=0) (λx y z h1 h2=>ztY _ _ _ h1 h2) l λk hk hl'=>by
  have:=zdU.1 hs k (by omega) (by omega)
  unfold zVp at this;rw [q1w,qb,qb] at this;rcases this with e | e
  ·omega
  ·exact e
 refine ((zML hl (λw hw=>(h w hw).1) hd).unique (.refl _) ?_).symm
 refine hp.imp_of_mem λ{x y} hx hy hxy=> ?_
 rw [zkf (h y hy).1 hd,zgm (zbf x) (zbf y)];simp only; omega
def AB (x:At):Prop:=zoj x<=8/\zft x+2<=4096/\x.Items.length<=1024
theorem AB.wi {x:At} (h:AB x):zfN (zcE x)=true:=(FB.wi (l:=[⟨x,1⟩]) ⟨by simp,by rw [zjH,zq7]; have:=h.1; simp only; omega,by rw [zda,zi2]; have:=h.2.1; simp only [qy]; omega,λf hf=>by
 rw [qj] at hf; subst hf; exact ⟨by simp,h.2.2⟩⟩ 1)
theorem AB.of {l:yC} (h:FB l) {f:Fc} (hf:f∈l):AB f.At:=by
 refine ⟨q18 (zSk hf) h.nes, ?_,(h.fs f hf).2⟩;have h1:=zSq hf
 have h2:1<=l.length:=by cases l with
  | nil=>cases hf
  | cons a r=>simp
 have:=h.siz;omega
theorem zblr {m:Nat} (hA:∀ a,zbi m a=true->zb0 zp0 a []=.inr a) (x:At) (h:zdj (zbi m) x=true) (hx:AB x):zdy zp0 x=.inr (zcE x):=by
 have hw:=hx.wi;rw [zPg];cases zcZ.1 h with
 | var r hr=>
  simp only [if_true];unfold zp0; rw [hr]; rfl
 | mon a b ha hb ha0 hb0 hab=>
  simp only [show ¬ (1:Int)=0 from by omega,if_false,if_true]
  rw [zk6,hA a ha,zb3,zk6,hA b hb,zb3,zpU,zb3,zb3,zb3];show opS (zBt a b)=_;unfold zBt opR;rw [zz6 ha,zz6 hb,if_neg hb0,if_neg (by simp [ha0,hab])]
  show opS (zkR (zcE (zbdg a b)))=_;rw [zL1 (a:=zcE (zbdg a b)) hw]; rfl
 | del a ha ha0 hc hu=>
  simp only [show ¬ (2:Int)=0 from by omega,show ¬ (2:Int)=1 from by omega,if_false,if_true]
  rw [zk6,hA a ha,zb3,zpU,zb3,zb3];show opS (zBF a)=_;unfold zBF opR;rw [zz6 ha,if_neg (by simp [ha0,hu]),if_neg (by simp [hc])]
  show opS (zkR (zcE (zUg a)))=_;rw [zL1 (a:=zcE (zUg a)) hw]; rfl
 | abs a ha ha0 hc=>
  simp only [show ¬ (3:Int)=0 from by omega,show ¬ (3:Int)=1 from by omega,show ¬ (3:Int)=2 from by omega,if_false,if_true]
  rw [zk6,hA a ha,zb3,zpU,zb3,zb3];show opS (zBA a)=_;unfold zBA opR;rw [zz6 ha,if_neg ha0,if_neg (by simp [hc])]
  show opS (zkR (zcE (zbb6 a)))=_;rw [zL1 (a:=zcE (zbb6 a)) hw]; rfl
 | tst f l o b hl hi hs hf=>
  simp only [show ¬ (4:Int)=0 from by omega,show ¬ (4:Int)=1 from by omega,show ¬ (4:Int)=2 from by omega,show ¬ (4:Int)=3 from by omega,if_false]
  have key:∀ l:yD,(∀ w∈l,zbi m w.Ann=true)->zfw zp0 l=.inr l:=by
   intro l;induction l with
   | nil=>intro _; rw [zCk]
   | cons w r ih=>
    intro hm;rw [zFD,hA w.Ann (hm w (by simp)),zb3,ih λv hv=>hm v (by simp [hv]),zb3]
  have hlen:l.length<=1024:=hx.2.2;have hs':=zbiz (d:=9) (l:=l) (by omega) (λw hw=>⟨(zeM (hi w hw).1).1,(hi w hw).2⟩) (by omega) hs
  rw [zpU,zb3,key l λw hw=>(hi w hw).1,zb3]
  show opS (zr5 f l o b)=_;unfold zr5;have hall:(l.all λw=>zx w.Ann)=true:=q1d.2 λw hw=>zz6 (hi w hw).1
  have hpos:0<l.length:=by cases l with
   | nil=>exact absurd rfl hl
   | cons a r=>simp
  rw [hf,hall,hs',qg hpos];show opS (zkR (zcE (zMW f l o b)))=_;rw [zL1 (a:=zcE (zMW f l o b)) hw]; rfl
theorem zbii:∀ m,∀ a,zbi m a=true->zb0 zp0 a []=.inr a
 | 0,a,h=>by cases h
 | m+1,a,h=>by
  obtain ⟨h1,_,h3⟩:=zG3.1 (show zvm (zdj (zbi m)) a=true from h)
  exact zbcS (s:=[]) (zz6 h) λt ht f hf=>by
   have hb:=AB.of (FB.of h1 ht) hf;have hv:=((h3 t ht).2.2 f hf).2;exact ⟨zblr (zbii m) f.At hv hb,zbgG (zTN.2 ((zcZ.1 hv).imp λa ha=>zz6 ha)) hb.wi⟩
theorem zbmx {a:yB} (h:zx a=true):zb0 zp0 a []=.inr a:=zbii 100 a h
def dvF (a b:yC):Bool:=a.all λf=>b.any λg=>decide (f.Exp<=g.Exp)&&decide (f.At=g.At)
theorem zbgv {α:Type} (e:α->TT) (he:∀ a b,e a=e b->a=b):Ord3 λa b=>zbe (e a) (e b) where
 eq x y:=⟨λh=>he _ _ (ztc _ _ h),λh=>by subst h; exact zD0 _⟩
 swap x y:=by rw [zgm (e x) (e y)]; omega
 trans x y z h1 h2:=by
  have h3:zbe (e x) (e z)<=0:=ztY _ _ _ (Int.le_of_lt h1) (Int.le_of_lt h2);by_cases h4:zbe (e x) (e z)=0
  ·have h5:=ztc _ _ h4;rw [h5,zgm (e y) (e z)] at h1;omega
  ·omega
abbrev zbjw (l:yC):Prop:=l.Pairwise λf g=>zbe (zec f.At) (zec g.At)<0
theorem zbjw.uniq {l:yC} (h:zbjw l):∀ f∈l,∀ g∈l,f.At=g.At->f=g:=by
 induction l with
 | nil=>intro f hf; cases hf
 | cons x r ih=>
  have h:=qh.1 h
  have ne:∀ g∈r,x.At≠g.At:=λg hg e=>by
   have:=h.1 g hg;rw [e,zD0] at this; omega
  intro f hf g hg e;rcases q8.1 hf with e1 | hf1
  ·rcases q8.1 hg with e2 | hg1
   ·rw [e1,e2]
   ·rw [e1] at e; exact absurd e (ne g hg1)
  ·rcases q8.1 hg with e2 | hg1
   ·rw [e2] at e; exact absurd e.symm (ne f hf1)
   ·exact ih h.2 f hf1 g hg1 e
def cL (a b:yC):Int:=zbe (.l (zbD a)) (.l (zbD b))
theorem zbn1:Ord3 cL:=zbgv (λa=>.l (zbD a)) λa b h=>zCz _ _ (TT.l.inj h)
structure Canon (a:yB):Prop where
 asc:a.Pairwise λt u=>cL t.Fs u.Fs<0
 fac:∀ t∈a,zbjw t.Fs
theorem Canon.tail {t:Term} {a:yB} (h:Canon (t::a)):Canon a:=⟨(qh.1 h.asc).2,λx hx=>h.fac x (by simp [hx])⟩
theorem Canon.uniq {a:yB} (h:Canon a):∀ t∈a,∀ u∈a,t.Fs=u.Fs->t=u:=by
 have hp:=h.asc;clear h;induction a with
 | nil=>intro t ht; cases ht
 | cons x r ih=>
  have hp:=qh.1 hp
  have ne:∀ g∈r,x.Fs≠g.Fs:=λg hg e=>by
   have:=hp.1 g hg;rw [e,zbn1.refl] at this; omega
  intro f hf g hg e;rcases q8.1 hf with e1 | hf1
  ·rcases q8.1 hg with e2 | hg1
   ·rw [e1,e2]
   ·rw [e1] at e; exact absurd e (ne g hg1)
  ·rcases q8.1 hg with e2 | hg1
   ·rw [e2] at e; exact absurd e.symm (ne f hf1)
   ·exact ih hp.2 f hf1 g hg1 e
def leS (a b:yB):Bool:=a.all λt=>b.any λu=>dvF u.Fs t.Fs
theorem zblM {a b:yB}:leS a b=true↔∀ t∈a,∃ u∈b,dvF u.Fs t.Fs=true:=by
 unfold leS;simp only [q1d,List.any_eq_true]
def zbjW (a b s:yB):Prop:=∀ l:yC,(∃ t∈s,t.Fs=l)↔(∃ t∈a,t.Fs=l)\/∃ t∈b,t.Fs=l
theorem zbjW.le {a b s c:yB} (h:zbjW a b s):leS s c=true↔leS a c=true/\leS b c=true:=by
 simp only [zblM];constructor
 ·intro hs;refine ⟨λt ht=> ?_,λt ht=> ?_⟩
  ·obtain ⟨t',ht',e⟩:=(h t.Fs).2 (.inl ⟨t,ht,rfl⟩);rw [<- e]; exact hs t' ht'
  ·obtain ⟨t',ht',e⟩:=(h t.Fs).2 (.inr ⟨t,ht,rfl⟩);rw [<- e]; exact hs t' ht'
 ·rintro ⟨h1,h2⟩ t ht
  rcases (h t.Fs).1 ⟨t,ht,rfl⟩ with ⟨u,hu,e⟩ | ⟨u,hu,e⟩
  ·rw [<- e]; exact h1 u hu
  ·rw [<- e]; exact h2 u hu
theorem zbnr (a b:yC):cL a b=zbx (zbD a) (zbD b):=by unfold cL; rw [zbe]
theorem PA.canon {a:yB} (h:PA a):Canon a:=⟨h.1.imp λ{x y} hxy=>by rw [zbnr]; exact hxy,λt ht=>(h.2 t ht).2.1⟩
theorem zbkE {t:Term} {l:yB} (h:Srs l) (L:yC):(∃ y∈zhr t l,y.Fs=L)↔(∃ x∈l,x.Fs=L)\/t.Fs=L:=by
 constructor
 ·rintro ⟨y,hy,rfl⟩
  rcases (zAU h).1 hy with ⟨h1,_⟩ | ⟨h1,_⟩
  ·exact .inl ⟨y,h1,rfl⟩
  ·exact .inr h1.symm
 ·intro hh;by_cases e:t.Fs=L
  ·subst e;by_cases hx:∃ x∈l,x.Fs=t.Fs
   ·obtain ⟨x,hx,e⟩:=hx;exact ⟨⟨ztv x.Cf t.Cf,t.Fs⟩,(zAU h).2 (.inr ⟨rfl,.inl ⟨x,hx,e,rfl⟩⟩),rfl⟩
   ·exact ⟨t,(zAU h).2 (.inr ⟨rfl,.inr ⟨λx hx' e=>hx ⟨x,hx',e⟩,rfl⟩⟩),rfl⟩
  ·rcases hh with ⟨x,hx,rfl⟩ | hh
   ·exact ⟨x,(zAU h).2 (.inl ⟨hx,λe'=>e e'.symm⟩),rfl⟩
   ·exact absurd hh e
theorem z7X:∀ (b a:yB),Srs a->∀ L,(∃ y∈zcT a b,y.Fs=L)↔(∃ x∈a,x.Fs=L)\/∃ x∈b,x.Fs=L
 | [],a,h,L=>by
  show (∃ y∈a,y.Fs=L)↔_;simp
 | t::r,a,h,L=>by
  show (∃ y∈zcT (zhr t a) r,y.Fs=L)↔_;rw [z7X r _ (zAK h) L,zbkE h];simp only [q8,exists_eq_or_imp];constructor
  ·rintro ((h1 | h1) | h1)
   ·exact .inl h1
   ·exact .inr (.inl h1)
   ·exact .inr (.inr h1)
  ·rintro (h1 | h1 | h1)
   ·exact .inl (.inl h1)
   ·exact .inl (.inr h1)
   ·exact .inr h1
def GP {α:Type} (P:α->Prop):Int⊕α->Prop
 | .inl _=>True
 | .inr a=>P a
theorem zFC {α β:Type} {P:α->Prop} {Q:β->Prop} {x:Int⊕α} {k:α->Int⊕β} (hx:GP P x) (hk:∀ a,P a->GP Q (k a)):GP Q (sbd x k):=by
 cases x with
 | inl e=>exact trivial
 | inr a=>exact hk a hx
theorem z0G {P:yB->Prop} {r:yB×Int} (h:P r.1):GP P (opS r):=by
 unfold opS;split
 ·exact h
 ·exact trivial
theorem zz1 {a:yB}:zbv a↔∀ t∈a,∀ f∈t.Fs,zxt f.At:=by
 rw [zDN];exact ⟨λh t ht=>ztb.1 (h t ht),λh t ht=>ztb.2 (h t ht)⟩
theorem zt9:zbv []:=zDN.2 λt ht=>by cases ht
theorem zTY (c:Int):zbv [⟨c,[]⟩]:=zz1.2 λt ht f hf=>by
 rw [qj] at ht; subst ht; cases hf
theorem zSg {x:At} (h:zxt x):zbv (zcE x):=zz1.2 λt ht f hf=>by
 simp only [zcE,qj] at ht; subst ht;rw [qj] at hf; subst hf; exact h
theorem zSh {a:yB} (h:zbv a):zbv (zkR a).1:=by
 unfold zkR;cases zfN a with
 | true=>exact h
 | false=>exact zt9
theorem z0C {ok:Bool} {r:yB×Int} (h:ok=true->zbv r.1):zbv (opR ok r).1:=by
 cases ok with
 | true=>exact h rfl
 | false=>exact zt9
theorem zbg9 {a b:yB} (hs:Srs a) (ha:zbv a) (hb:zbv b):zbv (zcT a b):=zz1.2 λt ht f hf=>by
 obtain ⟨x,hx,e⟩:=zDC b a hs ht;rw [e] at hf;rcases hx with hx | hx
 ·exact zz1.1 ha x hx f hf
 ·exact zz1.1 hb x hx f hf
theorem zbkF {a b:yB} (ha:zbv a) (hb:zbv b):zbv (zd0 a b):=zz1.2 λt ht f hf=>by
 obtain ⟨x,hx,e⟩:=zDC (zdC a b) [] List.Pairwise.nil ht;rw [e] at hf;rcases hx with hx | hx
 ·cases hx
 ·obtain ⟨u,hu,v,hv,rfl⟩:=zIa hx;obtain ⟨y,hy,e⟩:=zuF hf;rw [e];rcases hy with hy | hy
  ·exact zz1.1 ha u hu y hy
  ·exact zz1.1 hb v hv y hy
theorem zbmv {a b:yB} (ha:zbv a) (hb:zbv b):zbv (zmR a b).1:=z0C λhv=>by
 rw [qa] at hv;exact zSh (zbg9 (zHb hv.1).1 ha hb)
theorem zbmY {a b:yB} (ha:zbv a) (hb:zbv b):zbv (zvS a b).1:=z0C λ_=>zSh (zbkF ha hb)
theorem z3e {k:Int} {l:yA} (h:∀ a∈l,zbv a):zxt ⟨k,⟨0,0⟩,l,0,[],0,⟨0,0,ByteArray.mk #[]⟩⟩:=(zwD _).2 ⟨by simp,zua.2 h,zqy.2 λw hw=>by cases hw⟩
theorem zbmK {a b:yB} (ha:zbv a) (hb:zbv b):zbv (zBt a b).1:=z0C λ_=>by
 split
 ·exact ha
 ·split
  ·exact zt9
  ·refine zSh (zSg (z3e λx hx=> ?_))
   simp only [q8,q16,or_false] at hx;rcases hx with rfl | rfl
   ·exact ha
   ·exact hb
theorem zblW {a:yB} (ha:zbv a):zbv (zBF a).1:=z0C λ_=>by
 split
 ·exact ha
 ·split
  ·exact zTY 1
  ·refine zSh (zSg (z3e λx hx=> ?_))
   rw [qj] at hx; subst hx; exact ha
theorem zbms {a:yB} (ha:zbv a):zbv (zBA a).1:=z0C λ_=>by
 split
 ·exact zTY 1
 ·split
  ·exact zt9
  ·refine zSh (zSg (z3e λx hx=> ?_))
   rw [qj] at hx; subst hx; exact ha
theorem zbli {f o:Int} {l:yD} {b:Value} (hl:l.length<20) (h:∀ w∈l,zbv w.Ann):zbv (zr5 f l o b).1:=by
 unfold zr5;cases (!(zyw f l o b&&l.all λw=>zx w.Ann)) with
 | true=>exact zt9
 | false=>
  cases decide (0<(zdR l).length) with
  | true=>
   refine zSh (zSg ((zwD _).2 ⟨?_,zua.2 λa ha=>(by cases ha),zqy.2 λw hw=>h w (zLU hw).1⟩))
   have h1:(zdR l).length=(l.filter zm2).length:=(zqf _ _).length_eq;have h2:=q2f zm2 l;show (zdR l).length<20;omega
  | false=>
   cases (f==0&&zMM o (zef 0 b.Int)) with
   | true=>exact zTY 1
   | false=>exact zt9
theorem zbh3 {b:yB} (hb:zbv b):∀ (n:Nat) (p:yB),zbv p->GP zbv (zw6 b n p)
 | 0,p,hp=>hp
 | n+1,p,hp=>zFC (z0G (zbmY hp hb)) λq hq=>zbh3 hb n q hq
theorem zbmy (n:Int):zbv (zuN n):=by
 unfold zuN;split
 ·exact zt9
 ·exact zTY _
theorem zbfa {l:yA} (h:∀ a∈l,zbv a) (i:Nat):zbv (l.getD i default):=by
 by_cases hi:i<l.length
 ·exact h _ (zm hi)
 ·rw [qi,q25 (by omega)]; exact zt9
section
variable {to:RowID->yB} (ht:∀ r,zbv (to r))
include ht
mutual
theorem zbf3:∀ x:At,zxt x->GP zbv (zdy to x)
 | ⟨k,r,a,f,i,o,b⟩=>λh=>by
  obtain ⟨h1,h2,h3⟩:=(zwD _).1 h;rw [zdy];split
  ·exact ht r
  ·refine zFC (z57 a (zua.1 h2)) λxs hxs=> ?_
   have g0:=zbfa hxs 0;have g1:=zbfa hxs 1;split
   ·exact z0G (zbmK g0 g1)
   ·split
    ·exact z0G (zblW g0)
    ·split
     ·exact z0G (zbms g0)
     ·refine zFC (z2z i (zqy.1 h3)) λis his=>z0G (zbli ?_ his.2)
      rw [his.1]; exact h1
theorem zVP:∀ l:yC,(∀ f∈l,zxt f.At)->∀ p,zbv p->GP zbv (zc7 to l p)
 | [],_,p,hp=>by rw [zc7]; exact hp
 | ⟨x,e⟩::r,h,p,hp=>by
  rw [zc7];exact zFC (zbf3 x (h ⟨x,e⟩ (by simp))) λb hb=>zFC (zbh3 hb _ p hp) λq hq=>zVP r (λf hf=>h f (by simp [hf])) q hq
theorem zPk:∀ a:yB,(∀ t∈a,∀ f∈t.Fs,zxt f.At)->∀ s,zbv s->GP zbv (zb0 to a s)
 | [],_,s,hs=>by rw [zb0]; exact hs
 | ⟨c,fs⟩::r,h,s,hs=>by
  rw [zb0];exact zFC (zVP fs (h ⟨c,fs⟩ (by simp)) _ (zbmy c)) λp hp=>zFC (z0G (zbmv hs hp)) λq hq=>zPk r (λt ht=>h t (by simp [ht])) q hq
theorem z57:∀ l:yA,(∀ a∈l,zbv a)->GP (λr:yA=>∀ a∈r,zbv a) (zjm to l)
 | [],_=>by rw [zjm]; exact λa ha=>by cases ha
 | a::r,h=>by
  rw [zjm];refine zFC (zPk a (zz1.1 (h a (by simp))) [] zt9) λb hb=>zFC (z57 r λc hc=>h c (by simp [hc])) λl hl=> ?_
  intro x hx;rcases q8.1 hx with rfl | hx
  ·exact hb
  ·exact hl x hx
theorem z2z:∀ l:yD,(∀ w∈l,zbv w.Ann)->GP (λr:yD=>r.length=l.length/\∀ w∈r,zbv w.Ann) (zfw to l)
 | [],_=>by rw [zfw]; exact ⟨rfl,λa ha=>by cases ha⟩
 | ⟨v,a⟩::r,h=>by
  rw [zfw];refine zFC (zPk a (zz1.1 (h ⟨v,a⟩ (by simp))) [] zt9) λb hb=>zFC (z2z r λc hc=>h c (by simp [hc])) λl hl=> ?_
  refine ⟨by simp [hl.1],λx hx=> ?_⟩
  rcases q8.1 hx with rfl | hx
  ·exact hb
  ·exact hl.2 x hx
end
end
theorem zbmT (r:RowID):zbv (zp0 r):=by
 unfold zp0;cases zw2 r with
 | false=>exact zt9
 | true=>exact zSg ((zwD _).2 ⟨by simp,zua.2 λa ha=>(by cases ha),zqy.2 λa ha=>by cases ha⟩)
theorem zbl4 {l:yE} (h:∀ b∈l,zbv b.To):∀ r,zbv (toA l r):=λr=>by
 rcases z7L l r 0 with ⟨_,e⟩ | ⟨j,hj,_,e⟩
 ·rw [e]; exact zbmT r
 ·rw [e]; exact h _ (zm hj)
theorem zbkb {a:yB} {l:yE} (ha:zx a=true->zbv a) (h:(∀ b∈l,zx b.To=true)->∀ b∈l,zbv b.To):zbv (zhO a l).1:=by
 unfold zhO;refine z0C λhv=> ?_
 rw [qa,q1d] at hv;have hG:=zPk (to:=toA l) (zbl4 (h hv.2)) a (zz1.1 (ha hv.1)) [] zt9;revert hG;cases zb0 (toA l) a [] with
 | inl e=>exact λ_=>zt9
 | inr b=>exact λhb=>hb
section
variable {σ:At->yB}
end
end Go.Proofs.YtoknknbmfmddbaaGreatDoor
/- Relations: the normal form, by the program. -/
set_option maxRecDepth 100000
namespace Go.Proofs.YtoknknbmfmddbaaGreatDoor
open Go Go.Ab
def zgO (x:Row):Bool:= !(x.Ann.length==0)
theorem zbaa {α:Type} [Inhabited α] (P:α->Bool):∀ (l:List α) (i:Nat),(∃ j:Nat,ixf P l i=((i+j:Nat):Int)/\j<l.length/\P (l.getD j default)=true/\∀ x∈l.take j,P x=false)\/(ixf P l i= -1/\∀ x∈l,P x=false)
 | [],i=>.inr ⟨rfl,λx h=>by cases h⟩
 | y::l,i=>by
  rw [ixf];cases e:P y with
  | true=>exact .inl ⟨0,rfl,by simp,e,λx h=>by cases h⟩
  | false=>
   rw [q9];rcases zbaa P l (i+1) with ⟨j,h1,h2,h3,h4⟩ | ⟨h1,h2⟩
   ·refine .inl ⟨j+1,by rw [h1]; congr 1; omega,by simp; omega,h3,λx hx=> ?_⟩
    rw [List.take_succ_cons] at hx;rcases q8.1 hx with rfl | hx
    ·exact e
    ·exact h4 x hx
   ·refine .inr ⟨h1,λx hx=> ?_⟩
    rcases q8.1 hx with rfl | hx
    ·exact e
    ·exact h2 x hx
theorem zbie (x:Row):(zh0 x).2= !zgO x:=by
 unfold zgO; rw [Bool.not_not];exact ztE _ 0
theorem zZO:∀ (n i j:Nat) (s:yF),s.length<=1000000->s.length<j+n->j<=s.length->i<=j->
  ∃ (i':Nat) (s':yF),zhP n i j s=(true,((i':Int),s'))/\s'.length=s.length/\i'<=s.length/\s'.take i'=s.take i++(s.drop j).filter zgO
 | 0,i,j,s,hs,h,h2,h3=>by omega
 | n+1,i,j,s,hs,h,h2,h3=>by
  show ∃ (i':Nat) (s':yF),(zhR i j s).ev (λx y=>zhP n x.2.2.1 x.2.2.2.1 y.1) (λr=>(true,r)) (false,default)=_/\_
  unfold zhR Wy.ix;by_cases hj:j<s.length
  ·have hi:i<s.length:=by omega
   simp only [Wy.ev_i,Wy.ev_k,Wy.ev_h,Wy.ev_bn,Wy.ev_d,tT,hj,hi,zbie];rw [zbd hj];cases hx:zgO (s.getD j default) with
   | false=>
    simp only [q2u,hx,q1k,qk,q9,q1e,if_false];rw [zu (by omega)]
    exact zZO n i (j+1) s hs (by omega) (by omega) (by omega)
   | true=>
    simp only [q2u,hx,q1k,qk,q7,if_true];rw [zu (by omega),zu (by omega)]
    obtain ⟨i',s',h4,h5,h6,h7⟩:=zZO n (i+1) (j+1) (s.set i (s.getD j default)) (by simpa using hs) (by simp; omega) (by simp; omega) (by omega)
    refine ⟨i',s',h4,by simpa using h5,by simpa using h6, ?_⟩
    rw [h7,zbaS _ hi,zbel _ (by omega)]
    simp
  ·simp only [Wy.ev_i,Wy.ev_k,Wy.ev_h,Wy.ev_bn,Wy.ev_d,tT,hj];exact ⟨i,s,rfl,rfl,by omega,by rw [zb2 hj]; simp⟩
theorem zbgh (s:yF) (hs:s.length<=1000000):zel s=(true,s.filter zgO):=by
 unfold zel znK
 have hix:zdW s=(true,ixf (λx=> !zgO x) s 0):=by
  have:zdW s=IH (λ(_:Unit) x=>(true,(zh0 x).2)) (s.length+(Int.ofNat s.length).toNat +Int.toNat (0:Int)+(1000:Nat)) () s:=rfl
  exact this.trans (zbfW _ _ _ _ _ (by omega) (λx _=>by rw [zbie]) (by omega))
 rw [Wy.fin_bn,hix,q7];rcases zbaa (λx=> !zgO x) s 0 with ⟨j,h1,h2,h3,h4⟩ | ⟨h1,h2⟩
 ·rw [h1,q1s];have e:((j:Int)== -1)=false:=by simp
  rw [Wy.fin_i,e,q9,Wy.fin_bn,zu (by omega)]
  obtain ⟨i',s',h5,h6,h7,h8⟩:=zZO ((j:Int).toNat +((j+1:Nat):Int).toNat +s.length+(1000:Nat)) j (j+1) s hs (by simp; omega) (by omega) (by omega)
  rw [h5];have h7':i'<=s'.length:=by omega
  have e2:i'+(s'.length - i')<=s'.length:=by omega
  have e3:i'<=(List.take i' s'++List.replicate (s'.length - i') (Row.mk [] [])++List.drop (i'+(s'.length - i')) s').length:=by simp; omega
  simp only [Wy.fin_i,Wy.fin_k,qw,qt,ze4,zud,h7',e2,e3,qn,decide_true,q13,q7,Int.le_refl,Int.toNat_zero,Nat.sub_zero];rw [zbgX _ h7',h8];congr 1;have h3':zgO (s.getD j default)=false:=by simpa using h3
  conv=>rhs; rw [<- List.take_append_drop j s,q36,zbd h2,q2u]
  simp only [h3',q1e,if_false];congr 1;refine (List.filter_eq_self.2 λx hx=> ?_).symm
  have:=h4 x hx
  simpa using this
 ·rw [h1];rw [Wy.fin_i,show ((-1:Int)== -1)=true from rfl,q7,Wy.fin_k]
  congr 1;exact (List.filter_eq_self.2 λx hx=>by simpa using h2 x hx).symm
def cR (x y:Row):Int:=ztj x.Values y.Values
def zep (x y:Row):Option Row:=if (zmR x.Ann y.Ann).2=0 then some ⟨x.Values,(zmR x.Ann y.Ann).1⟩ else none
def zr7 (x:Row):Prop:=x.Values.length<=1000000/\okA x.Ann/\zx x.Ann=true
theorem zbjb:MO cR zep zr7 where
 anti:=λx y _ _=>by unfold cR; have:=zpX x.Values y.Values; omega
 trans:=λx y z _ _ _ h1 h2=>zQM h1 h2
 key:=λx y z hx hy e=>by
  unfold zep at e;split at e
  ·rename_i h0;rw [q0] at e;subst e;obtain ⟨⟨_,_,v3⟩,e3⟩:=zbbR h0;refine ⟨⟨hx.1,(z0E hx.2.1 hy.2.1).1,by show zx (zmR x.Ann y.Ann).1=true; rw [e3]; exact v3⟩,λw _=>⟨rfl,rfl⟩⟩
  ·cases e
theorem zbk8 {x y:Row} (hx:zr7 x) (hy:zr7 y) (h:¬ (zmR x.Ann y.Ann).2=0):(zmR x.Ann y.Ann).2=6:=by
 unfold zmR opR zkR at *;rw [hx.2.2,hy.2.2] at h ⊢;simp only [q13,q7] at h ⊢;cases hw:zfN (zcT x.Ann y.Ann) with
 | true=>rw [hw] at h; exact absurd rfl h
 | false=>rfl
theorem zZ1 {x:Row} (hx:zr7 x) (hs:zbv x.Ann):zoA x x.Ann=(true,x):=by
 unfold zoA zKW zcI;rw [Wy.fin_bn,zRO hx.2.1 (λ_=>hs) ⟨by simp,λb hb=>by cases hb⟩,q7,Wy.fin_bn,qg (zC0 (by have:=hx.1; omega) (by omega)),q7,Wy.fin_k]
 unfold zhO opR;rw [hx.2.2];show (true,Row.mk x.Values (ofS (zb0 (toA []) x.Ann [])).1)=_;rw [show toA []=zp0 from rfl,zbmx hx.2.2]; rfl
theorem zbe2 (cols:yH) (S:yF) (hS:S.length<=1000) (hV:∀ x∈S,zr7 x/\zbv x.Ann):∀ (n i:Nat) (o:yF),S.length<i+n->i<=S.length->o.length<=i->(∀ w∈o,zr7 w)->
  zB9 n S.length i S cols o=(true,match (S.drop i).foldl (zTp cR zep) (some o) with | none=>.inl 6 | some M=>.inr (cols,M))
 | 0,i,o,h1,h2,h3,h4=>by omega
 | n+1,i,o,h1,h2,h3,h4=>by
  show (zuG S.length i S cols o).ev (zy zuv (.inl default) n) (λr=>(true,r)) (false,.inl default)=_
  unfold zuG Wy.ix;by_cases hi:i<S.length
  ·obtain ⟨hx,hsm⟩:=hV _ (zm hi);have hcp:=zZ1 hx hsm;obtain ⟨x,ex⟩:∃ x,x=S.getD i default:=⟨_,rfl⟩;rw [<- ex] at hx hsm hcp;rw [zbd hi,q11, <- ex];have ih:=λo'=>zbe2 cols S hS hV n (i+1) o' (by omega) (by omega)
   have hr:∀ r:Row,decide ((o.length+[r].length)*(48:Nat)<=zD)=true:=λr=>qg (zC0 (by simp; omega) (by omega))
   rcases List.eq_nil_or_concat o with rfl | ⟨o',w,rfl⟩
   ·simp only [Wy.ev_i,Wy.ev_k,Wy.ev_h,Wy.ev_bn,Wy.ev_d,tT,hi, <- ex,hcp,hr,zu (show i<4611686018427387904 by omega),qv]
    exact ih [x] (by simp) λw hw=>by rw [qj.1 hw]; exact hx
   ·rw [List.concat_eq_append] at *;have hw:=h4 w (by simp)
    have hlen:(o'++[w]).length=o'.length+1:=by simp
    have h0:((((o'++[w]).length:Nat):Int)==(0:Int))=false:=by rw [zfi,q1c,hlen]; omega
    have w1:IntKind.i64.wrap ((((o'++[w]).length:Nat):Int) - (1:Int))=(o'.length:Int):=by rw [hlen,ze5 (by simp at h3; omega) (by simp at h3; omega)]; omega
    have g1:o'.length<(o'++[w]).length:=by omega
    have g2:(o'++[w]).getD o'.length default=w:=zbbM o' [] w;have hc:zcA w x=(true,cR w x):=zeN w x hw.1;have hset:∀ v,(o'++[w]).set o'.length v=o'++[v]:=λv=>zbc4 o' [] w v
    have hm:zTp cR zep (some (o'++[w])) x=if cR w x=0 then (zep w x).map λz=>o'++[z] else some (o'++[w]++[x]):=by
     unfold zTp;simp only [List.getLast?_append,List.getLast?_singleton,Option.some_or,List.dropLast_concat]
    rw [hm];simp only [Wy.ev_i,Wy.ev_k,Wy.ev_h,Wy.ev_bn,Wy.ev_d,tT,hi,h0,w1,g1,g2, <- ex,hc,hcp,hr,zj1,zu (show i<4611686018427387904 by omega),(zbhC hw.2.1 hx.2.1).1,hset]
    by_cases e:cR w x=0
    ·rw [if_pos e,qg e,qk,q9];by_cases e2:(zmR w.Ann x.Ann).2=0
     ·have ea:zep w x=some ⟨w.Values,(zmR w.Ann x.Ann).1⟩:=by unfold zep; rw [if_pos e2]
      rw [ea,qg e2,qk,q9,qz]
      exact ih (o'++[⟨w.Values,(zmR w.Ann x.Ann).1⟩]) (by simp at h3 ⊢; omega) λv hv=>by
       rcases q12.1 hv with hv | hv
       ·exact h4 v (by simp [hv])
       ·rw [qj.1 hv]; exact (zbjb.key w x _ hw hx ea).1
     ·have ea:zep w x=none:=by unfold zep; rw [if_neg e2]
      rw [ea,qd e2,q1k,q7,Option.map_none,zY4,zbk8 hw hx e2]
    ·rw [if_neg e,qd e,q1k,q7]
     exact ih (o'++[w]++[x]) (by simp at h3 ⊢; omega) λv hv=>by
      rcases q12.1 hv with hv | hv
      ·exact h4 v hv
      ·rw [qj.1 hv]; exact hx
  ·simp only [Wy.ev_i,Wy.ev_k,Wy.ev_h,Wy.ev_bn,Wy.ev_d,tT,hi,zb2 hi,List.foldl_nil]
def zJN (cols:yH):yF->Int
 | []=>0
 | x::r=>bif !zjQ cols x.Values then 7 else bif !zx x.Ann then 1 else zJN cols r
def zbby (r:Relation):Relation×Int:=
 if zAt r.Columns=false then (⟨[],[]⟩,1) else
 if zJN r.Columns r.Rows=0 then
  match (r.Rows.filter zgO).foldl (λo x=>o.bind λM=>zeY cR zep M x) (some []) with
  | none=>(⟨[],[]⟩,6)
  | some M=>(⟨r.Columns,M⟩,0)
 else (⟨[],[]⟩,zJN r.Columns r.Rows)
structure okRel (r:Relation):Prop where
 cols:r.Columns.length<=1000000
 rows:r.Rows.length<20
 row:∀ x∈r.Rows,x.Values.length<=1000000/\okA x.Ann/\(zx x.Ann=true->zbv x.Ann)
theorem zbc3 (r:Relation) (h:okRel r):∀ (n i:Nat),r.Rows.length<i+n->i<=r.Rows.length->zDo n r.Rows r.Rows.length i r=(true,if zJN r.Columns (r.Rows.drop i)=0 then .inr r else .inl (zJN r.Columns (r.Rows.drop i)))
 | 0,i,h1,h2=>by omega
 | n+1,i,h1,h2=>by
  show (zvh r.Rows r.Rows.length i r).ev (zy zvP (.inl default) n) (λr=>(true,r)) (false,.inl default)=_
  unfold zvh Wy.ix;have hl:=h.rows;by_cases hi:i<r.Rows.length
  ·obtain ⟨k1,k2,k3⟩:=h.row _ (zm hi);simp only [Wy.ev_i,Wy.ev_k,Wy.ev_h,Wy.ev_bn,Wy.ev_d,tT,hi,z8g _ _ h.cols,k2.valid,zu (show i<4611686018427387904 by omega)]
   rw [zbd hi,zJN];cases zjQ r.Columns (r.Rows.getD i default).Values with
   | false=>rfl
   | true=>
    cases zx (r.Rows.getD i default).Ann with
    | false=>rfl
    | true=>exact zbc3 r h n (i+1) (by omega) (by omega)
  ·simp only [Wy.ev_i,Wy.ev_k,Wy.ev_h,Wy.ev_bn,Wy.ev_d,tT,hi,zb2 hi];rfl
theorem z6c {cols:yH}:∀ {l:yF},zJN cols l=0->∀ x∈l,zjQ cols x.Values=true/\zx x.Ann=true
 | [],_,x,hx=>by cases hx
 | y::l,h,x,hx=>by
  rw [zJN] at h;cases h1:zjQ cols y.Values with
  | false=>rw [h1] at h; cases h
  | true=>
   cases h2:zx y.Ann with
   | false=>rw [h1,h2] at h; cases h
   | true=>
    rw [h1,h2] at h;rcases q8.1 hx with rfl | hx
    ·exact ⟨h1,h2⟩
    ·exact z6c h x hx
theorem zbmc:OW λx:Row=>x.Values.length<=1000000 where
 ends := λx y hx _ => ⟨_, zeN x y hx⟩
 asym:=λx y hx hy h1 h2=>by
  unfold ltW at h1 h2;rw [zeN x y hx] at h1;rw [zeN y x hy] at h2;have:=zpX x.Values y.Values;simp only at h1 h2; omega
 ntr:=λx y z hx hy hz h1 h2 h3=>by
  unfold ltW at h1 h2 h3;rw [zeN x _ hx] at h1 h3;rw [zeN y z hy] at h2;simp only at h1 h2 h3;have a1:=zpX x.Values y.Values;have a2:=zpX y.Values z.Values;have a3:=zpX x.Values z.Values;have:=zQM (x:=z.Values) (y:=y.Values) (z:=x.Values) (by omega) (by omega)
  omega
theorem z9m:∀ (x:Row) (l:yF),x.Values.length<=1000000->zDg x l=zAl cR x l
 | x,[],_=>rfl
 | x,y::r,hx=>by
  rw [zDg,zAl,zeN x y hx];show (if cR x y<0 then _ else _)=_
  split
  ·rfl
  ·rw [z9m x r hx]
theorem zbdc:∀ (l s:yF),(∀ x∈l,x.Values.length<=1000000)->l.foldl (λs x=>zDg x s) s=l.foldl (λs x=>zAl cR x s) s
 | [],s,_=>rfl
 | x::l,s,h=>by
  rw [q11,q11,z9m x s (h x (by simp))]
  exact zbdc l _ λy hy=>h y (by simp [hy])
theorem zbei {ρ:Type} {c:ρ->ρ->Int} {add:ρ->ρ->Option ρ}:∀ {M N:List ρ} {x:ρ},zeY c add M x=some N->N.length<=M.length+1
 | [],N,x,h=>by rw [zeY,q0] at h; subst h; simp
 | y::M,N,x,h=>by
  rw [zeY] at h;split at h
  ·cases e:zeY c add M x with
   | none=>rw [e] at h; cases h
   | some K=>
    rw [e,qz,q0] at h;have:=zbei e;subst h; simp; omega
  ·split at h
   ·cases e:add y x with
    | none=>rw [e] at h; cases h
    | some z=>rw [e,qz,q0] at h; subst h; simp
   ·rw [q0] at h; subst h; simp
theorem zYf {ρ:Type} {c:ρ->ρ->Int} {add:ρ->ρ->Option ρ}:∀ l:List ρ,l.foldl (λo x=>o.bind λM=>zeY c add M x) none=none
 | []=>rfl
 | _::l=>zYf l
theorem z3k {ρ:Type} {c:ρ->ρ->Int} {add:ρ->ρ->Option ρ}:∀ {l M N:List ρ},l.foldl (λo x=>o.bind λM=>zeY c add M x) (some M)=some N->N.length<=M.length+l.length
 | [],M,N,h=>by rw [List.foldl_nil,q0] at h; subst h; simp
 | x::l,M,N,h=>by
  rw [q11,q1g] at h;cases e:zeY c add M x with
  | none=>rw [e,zYf] at h; cases h
  | some K=>
   rw [e] at h;have h1:=zbei e;have h2:=z3k h;simp only [qc]; omega
theorem zbdN (r:Relation) (h:okRel r):znF r=(true,zbby r):=by
 unfold znF zEV zbby;have hl:=h.rows;have hc:=zbc3 r h (r.Rows.length+(Int.ofNat r.Rows.length).toNat +Int.toNat (0:Int)+r.Columns.length+r.Rows.length+(1000:Nat)) 0 (by omega) (by omega)
 rw [show ((0:Nat):Int)=(0:Int) from rfl,qq] at hc
 rw [show (r.Rows.length:Int)=Int.ofNat r.Rows.length from rfl] at hc
 rw [Wy.fin_bn,zPc _ h.cols,q7,Wy.fin_i];cases hcol:zAt r.Columns with
 | false=>rfl
 | true=>
  rw [qk,q9,Wy.fin_bn,hc,q7,if_neg (show ¬ (true=false) by decide)]
  by_cases hk:zJN r.Columns r.Rows=0
  ·rw [if_pos hk,if_pos hk];have hv:=z6c hk;have hfl:(r.Rows.filter zgO).length<20:=Nat.lt_of_le_of_lt (q2f _ _) hl
   have hfm:∀ x∈r.Rows.filter zgO,zr7 x/\zbv x.Ann:=λx hx=>by
    have hm:=(q2z.1 hx).1;obtain ⟨k1,k2,k3⟩:=h.row x hm;exact ⟨⟨k1,k2,(hv x hm).2⟩,k3 (hv x hm).2⟩
   have hclR:zfx r.Rows=(true,r.Rows):=by
    unfold zfx;rw [qg (zC0 (by omega) (by omega))]
   have hclC:zcp r.Columns=(true,r.Columns):=by
    unfold zcp;rw [qg (zC0 (by have:=h.cols; omega) (by omega))]
   have hsort:=zbk4 zbmc (l:=r.Rows.filter zgO) (λx hx=>(hfm x hx).1.1) hfl
   have hperm:(zK7 (r.Rows.filter zgO)).Perm (r.Rows.filter zgO):=(z4G zbmc (r.Rows.filter zgO) [] (λx hx=>(hfm x hx).1.1) .nil).2.perm
   have hloop:=zbe2 r.Columns (zK7 (r.Rows.filter zgO)) (by rw [hperm.length_eq]; omega) (λx hx=>hfm x (hperm.mem_iff.1 hx)) ((Int.ofNat (zK7 (r.Rows.filter zgO)).length).toNat +Int.toNat (0:Int)+(zK7 (r.Rows.filter zgO)).length+r.Columns.length+(0:Nat)+(1000:Nat)) 0 [] (by omega) (by omega) (by simp) (λw hw=>by cases hw)
   rw [show ((0:Nat):Int)=(0:Int) from rfl,qq,zbkp] at hloop
   have hmm:mrg cR zep (zK7 (r.Rows.filter zgO))=(r.Rows.filter zgO).foldl (λo x=>o.bind λM=>zeY cR zep M x) (some []):=by
    unfold zK7;rw [zbdc _ _ λx hx=>(hfm x hx).1.1]
    exact zbb5 zbjb (r.Rows.filter zgO) [] (λx hx=>(hfm x hx).1) .nil
   rw [hmm] at hloop;simp only [Wy.fin_i,Wy.fin_k,Wy.fin_bn,isL,getL,getR,q7,q9,hclR,zbgh _ (show r.Rows.length<=1000000 by omega),hsort,hclC]
   rw [show (((zK7 (r.Rows.filter zgO)).length:Nat):Int)=Int.ofNat (zK7 (r.Rows.filter zgO)).length from rfl] at hloop
   rw [hloop];cases e:(r.Rows.filter zgO).foldl (λo x=>o.bind λM=>zeY cR zep M x) (some []) with
   | none=>rfl
   | some M=>
    have:=z3k e
    have hM:decide (Int.ofNat M.length>(1024:Int))=false:=by
     rw [show decide (Int.ofNat M.length>(1024:Int))=decide (M.length>1024) from zjR _ 1024]
     exact qd (by simp at this; omega)
    simp only [isL,getR,q7,q9];show (bif decide (Int.ofNat M.length>(1024:Int)) then _ else _)=_
    rw [hM]; rfl
  ·rw [if_neg hk,if_neg hk]; rfl
end Go.Proofs.YtoknknbmfmddbaaGreatDoor
namespace Go.Proofs.YtoknknbmfmddbaaGreatDoor
open Go Go.Ab
end Go.Proofs.YtoknknbmfmddbaaGreatDoor
/- Relations: the normal form, by the reference. -/
set_option maxRecDepth 100000
namespace Go.Proofs.YtoknknbmfmddbaaGreatDoor
open Go Go.Ab
end Go.Proofs.YtoknknbmfmddbaaGreatDoor
/- Relations: the guards of the laws. -/
set_option maxRecDepth 100000
namespace Go.Proofs.YtoknknbmfmddbaaGreatDoor
open Go Go.Ab
theorem zbl2 {n:Nat} (hn:n<=1000) {a:yB} (ha:zbcQ a):∃ q,zwo (n:Int) [a]=(true,q)/\(q=true->okA a/\zeo a<=n):=by
 obtain ⟨q,h1,h2⟩:=zbm6 n hn [a] (by simp) (λx hx=>by rw [qj] at hx; subst hx; exact ha)
 exact ⟨q,h1,λh=>⟨zbkQ hn (h2 h a (by simp)) ha,(h2 h a (by simp)).2⟩⟩
structure smRel (rows w:Nat) (r:Relation):Prop where
 rows:r.Rows.length<=rows
 cols:r.Columns.length<=20
 names:∀ c∈r.Columns,c.Name.size<=100
 row:∀ x∈r.Rows,(x.Values.length<=20/\∀ v∈x.Values,v.Text.size<=300)/\okA x.Ann/\zeo x.Ann<=w
section
variable (rows w:Nat) (l:List Relation)
theorem zbmq (i:Nat) (hi:i<l.length) (hc:(l.getD i default).Columns.length<=20):∀ (n k:Nat),(l.getD i default).Columns.length<k+n->k<=(l.getD i default).Columns.length->∃ r,zZI n rows w l i k=(true,r)/\(r=.inl false\/(r=.inr ((rows:Int),(w:Int),l,(i:Int))/\∀ c∈(l.getD i default).Columns.drop k,c.Name.size<=100))
 | 0,k,h,h2=>by omega
 | n+1,k,h,h2=>by
  show ∃ r,(zNW rows w l i k).ev (zy zMP (.inl default) n) (λr=>(true,r)) (false,.inl default)=(true,r)/\_
  unfold zNW Wy.ix;by_cases hk:k<(l.getD i default).Columns.length
  ·simp only [Wy.ev_i,Wy.ev_k,Wy.ev_h,Wy.ev_d,tT,hi,hk];generalize hq:decide (_>(100:Int))=q;cases q with
   | true=>exact ⟨_,rfl,.inl rfl⟩
   | false=>
    rw [q9,zu (by omega)]
    obtain ⟨r,r1,r2⟩:=zbmq i hi hc n (k+1) (by omega) (by omega)
    refine ⟨r,r1,r2.imp_right λr2=>⟨r2.1,λc hc=> ?_⟩⟩
    rw [zbd hk] at hc;rcases q8.1 hc with rfl | hc
    ·have:=of_decide_eq_false hq;omega
    ·exact r2.2 c hc
  ·simp only [Wy.ev_i,Wy.ev_k,Wy.ev_h,Wy.ev_d,tT,hi,hk];exact ⟨_,rfl,.inr ⟨rfl,λc hc=>by rw [zb2 hk] at hc; cases hc⟩⟩
theorem zbjU (hw:w<=1000) (i:Nat) (hi:i<l.length) (hr:(l.getD i default).Rows.length<=1000) (hwf:∀ x∈(l.getD i default).Rows,zbjo x):∀ (n k:Nat),(l.getD i default).Rows.length<k+n->k<=(l.getD i default).Rows.length->
  ∃ r,zVE n rows w l i k=(true,r)/\(r=.inl false\/(r=.inr ((rows:Int),(w:Int),l,(i:Int))/\∀ x∈(l.getD i default).Rows.drop k,(x.Values.length<=20/\∀ v∈x.Values,v.Text.size<=300)/\okA x.Ann/\zeo x.Ann<=w))
 | 0,k,h,h2=>by omega
 | n+1,k,h,h2=>by
  show ∃ r,(zKs rows w l i k).ev (zy zJU (.inl default) n) (λr=>(true,r)) (false,.inl default)=(true,r)/\_
  unfold zKs Wy.ix;by_cases hk:k<(l.getD i default).Rows.length
  ·have hx:=hwf _ (zm hk);obtain ⟨b,b1,b2⟩:=zbjL ((l.getD i default).Rows.getD k default).Values 20 hx.1.2;obtain ⟨q,q1,q2⟩:=zbl2 hw (a:=((l.getD i default).Rows.getD k default).Ann) hx.2;replace b1:zym ((l.getD i default).Rows.getD k default).Values (20:Int)=(true,b):=b1;simp only [Wy.ev_i,Wy.ev_k,Wy.ev_h,Wy.ev_bn,Wy.ev_d,tT,hi,hk,b1,q1];cases b with
   | false=>exact ⟨_,rfl,.inl rfl⟩
   | true=>
    cases q with
    | false=>exact ⟨_,rfl,.inl rfl⟩
    | true=>
     rw [zu (by omega)]
     obtain ⟨r,h3,h4⟩:=zbjU hw i hi hr hwf n (k+1) (by omega) (by omega)
     refine ⟨r,h3,h4.imp_right λh4=>⟨h4.1,λx hx=> ?_⟩⟩
     rw [zbd hk] at hx;rcases q8.1 hx with rfl | hx
     ·exact ⟨b2 rfl,q2 rfl⟩
     ·exact h4.2 x hx
  ·simp only [Wy.ev_i,Wy.ev_k,Wy.ev_h,Wy.ev_d,tT,hi,hk];exact ⟨_,rfl,.inr ⟨rfl,λx hx=>by rw [zb2 hk] at hx; cases hx⟩⟩
theorem zbmN (hrs:rows<=100) (hw:w<=1000) (hl:l.length<=1000) (hwf:∀ r∈l,zbdq r):∀ (n i:Nat),l.length<i+n->i<=l.length->
  ∃ r,zZE n rows w l i=(true,r)/\(r=.inl false\/(r=.inr ()/\∀ x∈l.drop i,smRel rows w x))
 | 0,i,h,h2=>by omega
 | n+1,i,h,h2=>by
  show ∃ r,(zNb rows w l i).ev (zy zNP (.inl default) n) (λr=>(true,r)) (false,.inl default)=(true,r)/\_
  unfold zNb Wy.ix;by_cases hi:i<l.length
  ·have hwr:=hwf _ (zm hi);have e2:decide ((((l.getD i default).Columns.length:Nat):Int)>(20:Int))=decide ((l.getD i default).Columns.length>20):=zjR _ 20;simp only [Wy.ev_i,Wy.ev_k,Wy.ev_h,Wy.ev_d,tT,hi];rw [e2];by_cases h3:rows<(l.getD i default).Rows.length
   ·rw [qg h3]; exact ⟨_,rfl,.inl rfl⟩
   by_cases h4:(l.getD i default).Columns.length>20
   ·rw [qd h3,qg h4]; exact ⟨_,rfl,.inl rfl⟩
   rw [qd h3,qd h4,q9,q9];obtain ⟨r7,a1,a2⟩:=zbmq rows w l i hi (by omega) ((rows:Int).toNat +(w:Int).toNat +l.length+i+Int.toNat (0:Int)+(1000:Nat)) 0 (by omega) (by omega)
   rw [show ((0:Nat):Int)=(0:Int) from rfl] at a1
   simp only [qt] at a1;simp only [Wy.ev_bn,a1,q7];rcases a2 with rfl | ⟨rfl,a3⟩
   ·exact ⟨_,rfl,.inl rfl⟩
   ·obtain ⟨r12,b1,b2⟩:=zbjU rows w l hw i hi (by omega) hwr.2.1 ((rows:Int).toNat +(w:Int).toNat +l.length+(i:Int).toNat +Int.toNat (0:Int)+(1000:Nat)) 0 (by omega) (by omega)
    rw [show ((0:Nat):Int)=(0:Int) from rfl] at b1
    simp only [Wy.ev_i,Wy.ev_k,Wy.ev_h,Wy.ev_bn,isL,getL,getR,q9,b1,q7];rcases b2 with rfl | ⟨rfl,b3⟩
    ·exact ⟨_,rfl,.inl rfl⟩
    ·simp only [isL,getL,getR,q9,zu (show i<4611686018427387904 by omega)]
     obtain ⟨r,c1,c2⟩:=zbmN hrs hw hl hwf n (i+1) (by omega) (by omega)
     refine ⟨r,c1,c2.imp_right λc2=>⟨c2.1,λx hx=> ?_⟩⟩
     rw [zbd hi] at hx;rcases q8.1 hx with rfl | hx
     ·rw [qq] at b3 a3;exact ⟨by omega,by omega,a3,b3⟩
     ·exact c2.2 x hx
  ·simp only [Wy.ev_i,Wy.ev_k,Wy.ev_h,Wy.ev_d,tT,hi];exact ⟨_,rfl,.inr ⟨rfl,λx hx=>by rw [zb2 hi] at hx; cases hx⟩⟩
theorem zbnT (hrs:rows<=100) (hw:w<=1000) (hl:l.length<=1000) (hwf:∀ r∈l,zbdq r):∃ q,zD1 rows w l=(true,q)/\(q=true->∀ r∈l,smRel rows w r):=by
 unfold zD1 z2B;obtain ⟨r,h1,h2⟩:=zbmN rows w l hrs hw hl hwf ((rows:Int).toNat +(w:Int).toNat +l.length+Int.toNat (0:Int)+(1000:Nat)) 0 (by omega) (by omega)
 rw [show ((0:Nat):Int)=(0:Int) from rfl] at h1
 rw [Wy.fin_bn,h1];rcases h2 with rfl | ⟨rfl,h2⟩
 ·exact ⟨false,rfl,λh=>by cases h⟩
 ·exact ⟨true,rfl,λ_=>by rw [qq] at h2; exact h2⟩
end
theorem smRel.ok {rows w:Nat} {r:Relation} (h:smRel rows w r) (hr:rows<20) (hw:w<=38):okRel r where
 cols:=by have:=h.cols; omega
 rows:=by have:=h.rows; omega
 row:=λx hx=>⟨by have:=(h.row x hx).1.1; omega,(h.row x hx).2.1,λhv=>zTE 100 x.Ann hv (by have:=(h.row x hx).2.2; omega)⟩
end Go.Proofs.YtoknknbmfmddbaaGreatDoor
namespace Go.Proofs.YtoknknbmfmddbaaGreatDoor
open Go Go.Ab
end Go.Proofs.YtoknknbmfmddbaaGreatDoor
end
