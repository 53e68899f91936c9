/- Texts of this claim, joined (the program, its functions in plain words, and what they compute). -/
import Derived.Test.YtoknknbmfmddbaaGreatDoorGC10
set_option autoImplicit false
set_option linter.unusedVariables false
set_option linter.unusedSectionVars false
set_option linter.unusedSimpArgs false
set_option maxRecDepth 1000000
set_option maxHeartbeats 0
noncomputable section
namespace Go.Proofs.YtoknknbmfmddbaaGreatDoor
open Go Go.Ab
end Go.Proofs.YtoknknbmfmddbaaGreatDoor
namespace Go.Proofs.YtoknknbmfmddbaaGreatDoor
open Go Go.Ab
end Go.Proofs.YtoknknbmfmddbaaGreatDoor
/- Substitution: both sides compute the same. -/
namespace Go.Proofs.YtoknknbmfmddbaaGreatDoor
open Go Go.Ab
def toA:yE->RowID->yB
 | [],r=>zbdU r
 | b::l,r=>if b.Row=r then b.To else toA l r
section
variable (g:At->yE->Bool×(yB×Int)) (to:yE)
end
section
variable (g:yB->yE->Bool×(yB×Int)) (to:yE)
structure XG (x:At):Prop where
 va:zA4 x=true
 lens:x.Ag.length<=1000000/\x.Items.length<20
 ga:∀ a∈x.Ag,g a to=(true,ofS (zqS (toA to) a []))/\GS (zqS (toA to) a [])
 gi:∀ w∈x.Items,g w.Ann to=(true,ofS (zqS (toA to) w.Ann []))/\GS (zqS (toA to) w.Ann [])
 sa:GL x.Ag.length (zyk (toA to) x.Ag)
 si:GI x.Items (zuZ (toA to) x.Items)
 wf:zfP x
end
section
variable (g:At->yE->Bool×(yB×Int)) (l:yE)
end
section
variable (g:yB->yE->Bool×(yB×Int)) (l:yE)
end
theorem zWs:∀ {l:yA} {a:yB},a∈l->zdH a<=zor l
 | [],_,h=>by cases h
 | x::r,a,h=>by
  rw [zUv];rcases qd.1 h with rfl | h
  ·omega
  ·have:=zWs h; omega
theorem zR9:∀ {l:yD} {w:Wd},w∈l->zdH w.Ann<=zjX l
 | [],_,h=>by cases h
 | x::r,a,h=>by
  rw [zFA];rcases qd.1 h with rfl | h
  ·omega
  ·have:=zR9 h; omega
theorem zMF:∀ {l:yC} {f:Fc},f∈l->zCM f.At<=zgx l
 | [],_,h=>by cases h
 | x::r,a,h=>by
  rw [zKe];rcases qd.1 h with rfl | h
  ·omega
  ·have:=zMF h; omega
theorem zZ4:∀ {l:yB} {t:Term},t∈l->zgx t.Fs<=zdH l
 | [],_,h=>by cases h
 | x::r,a,h=>by
  rw [zLY];rcases qd.1 h with rfl | h
  ·omega
  ·have:=zZ4 h; omega
theorem zTU:∀ {l:yD},(∀ w∈l,w.Ann≠[])->l.length<=zjX l
 | [],_=>by simp
 | x::r,h=>by
  rw [zFA];have:=zTU (l:=r) λw hw=>h w (by simp [hw])
  have h1:1<=zdH x.Ann:=by
   have:=h x (by simp)
   cases hx:x.Ann with
   | nil=>exact absurd hx this
   | cons t r=>rw [zLY]; omega
  simp only [qf];omega
mutual
def zyi:At->Prop
 | ⟨_,_,a,_,i,_,_⟩=>i.length<20/\zMl a/\zHs i
def zz0:yC->Prop
 | []=>True
 | ⟨x,_⟩::r=>zyi x/\zz0 r
def zb9:yB->Prop
 | []=>True
 | ⟨_,fs⟩::r=>zz0 fs/\zb9 r
def zMl:yA->Prop
 | []=>True
 | a::r=>zb9 a/\zMl r
def zHs:yD->Prop
 | []=>True
 | ⟨_,a⟩::r=>zb9 a/\zHs r
end
theorem zG0 (x:At):zyi x↔x.Items.length<20/\zMl x.Ag/\zHs x.Items:=by cases x; rw [zyi]
theorem zyI:∀ {l:yC},zz0 l↔∀ f∈l,zyi f.At
 | []=>by rw [zz0]; simp
 | ⟨x,e⟩::r=>by rw [zz0,zyI (l:=r)]; simp
theorem zKx:∀ {l:yB},zb9 l↔∀ t∈l,zz0 t.Fs
 | []=>by rw [zb9]; simp
 | ⟨x,e⟩::r=>by rw [zb9,zKx (l:=r)]; simp
theorem zBb:∀ {l:yA},zMl l↔∀ a∈l,zb9 a
 | []=>by rw [zMl]; simp
 | a::r=>by rw [zMl,zBb (l:=r)]; simp
theorem zyz:∀ {l:yD},zHs l↔∀ w∈l,zb9 w.Ann
 | []=>by rw [zHs]; simp
 | ⟨x,e⟩::r=>by rw [zHs,zyz (l:=r)]; simp
theorem z8D {m:Nat} {a:yB} (h:zbU (m+1) a=true):zkm a=true/\∀ t∈a,t.Fs.length<=64/\∀ f∈t.Fs,(1<=f.Exp/\f.Exp<=64)/\f.At.Items.length<=1024/\zd0 (zbU m) f.At=true:=by
 have hw:=zAa h;refine ⟨hw,λt ht=> ?_⟩
 obtain ⟨l1,l2⟩:=(ztt hw).2.2.2 t ht;refine ⟨l1,λf hf=> ?_⟩
 obtain ⟨⟨e1,_⟩,hv⟩:=ziB (zlr h ht).2 hf;exact ⟨⟨e1,(l2 f hf).1⟩,(l2 f hf).2,hv⟩
theorem z5z {V:yB->Bool} {x:At} (h:zd0 V x=true):(∀ a∈x.Ag,V a=true)/\∀ w∈x.Items,V w.Ann=true/\w.Ann≠[]:=by
 constructor
 ·cases zdJ.1 h <;>simp_all
 ·cases zdJ.1 h <;>simp_all
theorem zYm:∀ (m:Nat) (a:yB),zbU m a=true->zdH a<=38->zb9 a
 | 0,_,h,_=>by cases h
 | m+1,a,h,hs=>by
  obtain ⟨_,w2⟩:=z8D h;refine zKx.2 λt ht=>zyI.2 λf hf=>(zG0 _).2 ?_
  have hv:=((w2 t ht).2 f hf).2.2;have h1:=zMF hf;have h2:=zZ4 ht;have h3:=zZv f.At;obtain ⟨hargs,hitems⟩:=z5z hv;refine ⟨by have:=zTU λw hw=>(hitems w hw).2; omega,zBb.2 λb hb=>zYm m b (hargs b hb) (by have:=zWs hb; omega),zyz.2 λw hw=>zYm m w.Ann (hitems w hw).1 (by have:=zR9 hw; omega)⟩
end Go.Proofs.YtoknknbmfmddbaaGreatDoor
/- Substitution as evaluation of polynomials. -/
namespace Go.Proofs.YtoknknbmfmddbaaGreatDoor
open Go Go.Ab
def zbd2 (a b:yB):yB:=if b=[] then a else if a=[]\/a=b then [] else zke (zbdd a b)
def zbdT (a:yB):yB:=if a=[]\/isU a=true then a else if isC a=true then [⟨1,[]⟩] else zke (zbc4 a)
def zbdZ (a:yB):yB:=if a=[] then [⟨1,[]⟩] else if zzs a=true then [] else zke (zbcZ a)
def zbd5 (f:Int) (l:yD) (o:Int) (b:Value):yB:=
 if 0<(zls l).length then zke (z1G f (zls l) o b) else if (f==0&&z7C o (zdK 0 b.Int))=true then [⟨1,[]⟩] else []
def IdP (a:yB):Prop:=a=[]\/a=[⟨1,[]⟩]\/∃ x:At,(x.Kind=3\/x.Kind=4)/\a=zke x
def zbcJ (b:yB):Nat->yB
 | 0=>[⟨1,[]⟩]
 | n+1=>zZU b (zbcJ b n)
section
variable (σ:At->yB)
def SG (x:At):Prop:=PA (σ x)/\(x.Kind=3\/x.Kind=4->IdP (σ x))
variable {σ}
def EA (σ:At->yB) (a:yB):Prop:=PA a/\∀ t∈a,∀ f∈t.Fs,SG σ f.At
theorem EA.p {a:yB} (h:EA σ a):∀ t∈a,cOK t/\∀ f∈t.Fs,SG σ f.At:=λt ht=>⟨h.1.c t ht,h.2 t ht⟩
theorem EA.sum {a b:yB} (ha:EA σ a) (hb:EA σ b):EA σ (zvu a b):=⟨zbdc ha.1 hb.1,λt ht f hf=>by
 obtain ⟨x,hx,e⟩:=zMi b a ha.1.1 ht;rw [e] at hf;rcases hx with hx | hx
 ·exact ha.2 x hx f hf
 ·exact hb.2 x hx f hf⟩
end
end Go.Proofs.YtoknknbmfmddbaaGreatDoor
/- Substitution commutes with the operations; without bindings it changes nothing. -/
namespace Go.Proofs.YtoknknbmfmddbaaGreatDoor
open Go Go.Ab
mutual
def zbc3 (to:RowID->yB):At->yB
 | ⟨k,r,a,f,i,o,b⟩=>if k=0 then to r else if k=1 then zbd2 ((zTs to a).getD 0 default) ((zTs to a).getD 1 default) else if k=2 then zbdT ((zTs to a).getD 0 default)
  else if k=3 then zbdZ ((zTs to a).getD 0 default) else zbd5 f (z6l to i) o b
def z8v (to:RowID->yB):yC->yB
 | []=>[⟨1,[]⟩]
 | ⟨x,e⟩::r=>zZU (zbcJ (zbc3 to x) e.toNat) (z8v to r)
def z6X (to:RowID->yB):yB->yB->yB
 | [],s=>s
 | ⟨c,fs⟩::r,s=>z6X to r (zvu s (zZU [⟨c,[]⟩] (z8v to fs)))
def zTs (to:RowID->yB):yA->yA
 | []=>[]
 | a::r=>z6X to a []::zTs to r
def z6l (to:RowID->yB):yD->yD
 | []=>[]
 | ⟨v,a⟩::r=>⟨v,z6X to a []⟩::z6l to r
end
section
variable (to:RowID->yB)
variable {to} (hto:∀ r,PA (to r))
include hto
end
theorem z8Q {a:yB}:zkm a=true↔a.length<=512/\zbq a<=8/\zP a<=4096/\∀ t∈a,t.Fs.length<=64/\∀ f∈t.Fs,f.Exp<=64/\f.At.Items.length<=1024:=by
 refine ⟨ztt,λ⟨h1,h2,h3,h4⟩=> ?_⟩
 unfold zkm;simp only [qc,qe];refine ⟨⟨⟨h1,h2⟩,h3⟩,List.all_eq_true.2 λt ht=> ?_⟩
 obtain ⟨h5,h6⟩:=h4 t ht;unfold zyC;rw [Bool.not_eq_true',Bool.or_eq_false_iff];refine ⟨by simp; omega, ?_⟩
 rw [List.any_eq_false];intro f hf;obtain ⟨h7,h8⟩:=h6 f hf;simp;exact ⟨h7,h8⟩
theorem zWH:∀ a b:yC,zbw (a++b)=zbw a+zbw b
 | [],b=>by rw [zoj]; simp
 | t::r,b=>by rw [List.cons_append,zdQ,zdQ,zWH r b]; omega
theorem zWR:∀ a b:yC,zcV (a++b)=max (zcV a) (zcV b)
 | [],b=>by rw [zDc]; simp
 | t::r,b=>by rw [List.cons_append,zrl,zrl,zWR r b]; omega
structure FB (l:yC):Prop where
 len:l.length<=64
 nes:zcV l<=8
 siz:1+l.length+zbw l<=4096
 fs:∀ f∈l,f.Exp<=64/\f.At.Items.length<=1024
theorem FB.of {a:yB} (h:zkm a=true) {t:Term} (ht:t∈a):FB t.Fs:=by
 obtain ⟨h1,h2,h3,h4⟩:=z8Q.1 h;obtain ⟨h5,h6⟩:=h4 t ht;refine ⟨h5,Nat.le_trans (zZS ht) h2, ?_,h6⟩
 have key:∀ {a:yB},t∈a->1+t.Fs.length+zbw t.Fs<=zP a:=by
  intro a;induction a with
  | nil=>intro h; cases h
  | cons u r ih=>
   intro h;rw [zhh];rcases qd.1 h with rfl | h
   ·omega
   ·have:=ih h; omega
 have:=key ht;omega
theorem FB.app {a b:yC} (h:FB (a++b)):FB a/\FB b:=by
 obtain ⟨h1,h2,h3,h4⟩:=h;rw [qg] at h1 h3;rw [zWR] at h2;rw [zWH] at h3;exact ⟨⟨by omega,by omega,by omega,λf hf=>h4 f (by simp [hf])⟩,⟨by omega,by omega,by omega,λf hf=>h4 f (by simp [hf])⟩⟩
theorem OKF.app {a b:yC} (h:OKF zA4 (a++b)):OKF zA4 a/\OKF zA4 b:=⟨⟨(List.pairwise_append.1 h.1).1,λf hf=>h.2 f (by simp [hf])⟩,⟨(List.pairwise_append.1 h.1).2.1,λf hf=>h.2 f (by simp [hf])⟩⟩
section
variable {c:Int} (hc:1<=c/\c<=1152921504606846976)
include hc
end
def AB (x:At):Prop:=zmc x<=8/\zeB x+2<=4096/\x.Items.length<=1024
theorem AB.of {l:yC} (h:FB l) {f:Fc} (hf:f∈l):AB f.At:=by
 refine ⟨Nat.le_trans (zNV hf) h.nes, ?_,(h.fs f hf).2⟩;have h1:=zM3 hf
 have h2:1<=l.length:=by cases l with
  | nil=>cases hf
  | cons a r=>simp
 have:=h.siz;omega
def dvF (a b:yC):Bool:=a.all λf=>b.any λg=>decide (f.Exp<=g.Exp)&&decide (f.At=g.At)
abbrev zbd0 (l:yC):Prop:=l.Pairwise λf g=>zbF (zeC f.At) (zeC g.At)<0
def cL (a b:yC):Int:=zbF (.l (zbT a)) (.l (zbT b))
structure Canon (a:yB):Prop where
 asc:a.Pairwise λt u=>cL t.Fs u.Fs<0
 fac:∀ t∈a,zbd0 t.Fs
theorem Canon.tail {t:Term} {a:yB} (h:Canon (t::a)):Canon a:=⟨(qi.1 h.asc).2,λx hx=>h.fac x (by simp [hx])⟩
def leS (a b:yB):Bool:=a.all λt=>b.any λu=>dvF u.Fs t.Fs
theorem zbbN {a b:yB}:leS a b=true↔∀ t∈a,∃ u∈b,dvF u.Fs t.Fs=true:=by
 unfold leS;simp only [List.all_eq_true,List.any_eq_true]
def zbaA (a b s:yB):Prop:=∀ l:yC,(∃ t∈s,t.Fs=l)↔(∃ t∈a,t.Fs=l)\/∃ t∈b,t.Fs=l
theorem zbaA.le {a b s c:yB} (h:zbaA a b s):leS s c=true↔leS a c=true/\leS b c=true:=by
 simp only [zbbN];constructor
 ·intro hs;refine ⟨λt ht=> ?_,λt ht=> ?_⟩
  ·obtain ⟨t',ht',e⟩:=(h t.Fs).2 (.inl ⟨t,ht,rfl⟩);rw [<- e]; exact hs t' ht'
  ·obtain ⟨t',ht',e⟩:=(h t.Fs).2 (.inr ⟨t,ht,rfl⟩);rw [<- e]; exact hs t' ht'
 ·rintro ⟨h1,h2⟩ t ht
  rcases (h t.Fs).1 ⟨t,ht,rfl⟩ with ⟨u,hu,e⟩ | ⟨u,hu,e⟩
  ·rw [<- e]; exact h1 u hu
  ·rw [<- e]; exact h2 u hu
end Go.Proofs.YtoknknbmfmddbaaGreatDoor
end
