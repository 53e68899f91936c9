/- Texts of this claim, joined (the program, its functions in plain words, and what they compute). -/
import Derived.Test.YtoknknbmfmddbaaGreatDoorGC11
set_option autoImplicit false
set_option linter.unusedVariables false
set_option linter.unusedSectionVars false
set_option linter.unusedSimpArgs false
set_option maxRecDepth 1000000
set_option maxHeartbeats 0
/- Substitution: the reference computes the same; the whole. -/
noncomputable section
namespace Go.Proofs.YtoknknbmfmddbaaGreatDoor
open Go Go.Ab
section
variable (g:At->yF->Bool×(yB×Int)) (l:yF)
end
section
variable (g:yB->yF->Bool×(yB×Int)) (l:yF)
end
theorem zVy:∀ {l:yA} {a:yB},a∈l->zbq a<=zeS l
 | [],_,h=>by cases h
 | x::r,a,h=>by
  rw [zRy];rcases qd.1 h with rfl | h
  ·omega
  ·have:=zVy h; omega
theorem zS1:∀ {l:yD} {w:Wd},w∈l->zbq w.Ann<=zcN l
 | [],_,h=>by cases h
 | x::r,a,h=>by
  rw [zEW];rcases qd.1 h with rfl | h
  ·omega
  ·have:=zS1 h; omega
theorem zL0:∀ {l:yC} {f:Fc},f∈l->zqg f.At<=zbR l
 | [],_,h=>by cases h
 | x::r,a,h=>by
  rw [zJS];rcases qd.1 h with rfl | h
  ·omega
  ·have:=zL0 h; omega
theorem zXY:∀ {l:yB} {t:Term},t∈l->zbR t.Fs<=zbq l
 | [],_,h=>by cases h
 | x::r,a,h=>by
  rw [zKt];rcases qd.1 h with rfl | h
  ·omega
  ·have:=zXY h; omega
theorem zTG:∀ {l:yD},(∀ w∈l,w.Ann≠[])->l.length<=zcN l
 | [],_=>by simp
 | x::r,h=>by
  rw [zEW];have:=zTG (l:=r) λw hw=>h w (by simp [hw])
  have h1:1<=zbq x.Ann:=by
   have:=h x (by simp)
   cases hx:x.Ann with
   | nil=>exact absurd hx this
   | cons t r=>rw [zKt]; omega
  simp only [qf];omega
mutual
def zx0:At->Prop
 | ⟨_,_,a,_,i,_,_⟩=>i.length<20/\zMX a/\zGI i
def zzU:yC->Prop
 | []=>True
 | ⟨x,_⟩::r=>zx0 x/\zzU r
def zb3:yB->Prop
 | []=>True
 | ⟨_,fs⟩::r=>zzU fs/\zb3 r
def zMX:yA->Prop
 | []=>True
 | a::r=>zb3 a/\zMX r
def zGI:yD->Prop
 | []=>True
 | ⟨_,a⟩::r=>zb3 a/\zGI r
end
theorem zGC (x:At):zx0 x↔x.Items.length<20/\zMX x.Ag/\zGI x.Items:=by cases x; rw [zx0]
theorem zyr:∀ {l:yC},zzU l↔∀ f∈l,zx0 f.At
 | []=>by rw [zzU]; simp
 | ⟨x,e⟩::r=>by rw [zzU,zyr (l:=r)]; simp
theorem zJX:∀ {l:yB},zb3 l↔∀ t∈l,zzU t.Fs
 | []=>by rw [zb3]; simp
 | ⟨x,e⟩::r=>by rw [zb3,zJX (l:=r)]; simp
theorem zAg:∀ {l:yA},zMX l↔∀ a∈l,zb3 a
 | []=>by rw [zMX]; simp
 | a::r=>by rw [zMX,zAg (l:=r)]; simp
theorem zyd:∀ {l:yD},zGI l↔∀ w∈l,zb3 w.Ann
 | []=>by rw [zGI]; simp
 | ⟨x,e⟩::r=>by rw [zGI,zyd (l:=r)]; simp
theorem z6x {m:Nat} {a:yB} (h:zcX (m+1) a=true):zrZ a=true/\∀ t∈a,t.Fs.length<=64/\∀ f∈t.Fs,(1<=f.Exp/\f.Exp<=64)/\f.At.Items.length<=1024/\zh1 (zcX m) f.At=true:=by
 have hw:=zJD h;refine ⟨hw,λt ht=> ?_⟩
 obtain ⟨l1,l2⟩:=(zA8 hw).2.2.2 t ht;refine ⟨l1,λf hf=> ?_⟩
 obtain ⟨⟨e1,_⟩,hv⟩:=zw2 (zzt h ht).2 hf;exact ⟨⟨e1,(l2 f hf).1⟩,(l2 f hf).2,hv⟩
theorem z26 {V:yB->Bool} {x:At} (h:zh1 V x=true):(∀ a∈x.Ag,V a=true)/\∀ w∈x.Items,V w.Ann=true/\w.Ann≠[]:=by
 constructor
 ·cases zhW.1 h <;>simp_all
 ·cases zhW.1 h <;>simp_all
theorem zWG:∀ (m:Nat) (a:yB),zcX m a=true->zbq a<=38->zb3 a
 | 0,_,h,_=>by cases h
 | m+1,a,h,hs=>by
  obtain ⟨_,w2⟩:=z6x h;refine zJX.2 λt ht=>zyr.2 λf hf=>(zGC _).2 ?_
  have hv:=((w2 t ht).2 f hf).2.2;have h1:=zL0 hf;have h2:=zXY ht;have h3:=zA7 f.At;obtain ⟨hargs,hitems⟩:=z26 hv;refine ⟨by have:=zTG λw hw=>(hitems w hw).2; omega,zAg.2 λb hb=>zWG m b (hargs b hb) (by have:=zVy hb; omega),zyd.2 λw hw=>zWG m w.Ann (hitems w hw).1 (by have:=zS1 hw; omega)⟩
end Go.Proofs.YtoknknbmfmddbaaGreatDoor
/- Substitution as evaluation of polynomials. -/
namespace Go.Proofs.YtoknknbmfmddbaaGreatDoor
open Go Go.Ab
def zbbd (a b:yB):yB:=if b=[] then a else if a=[]\/a=b then [] else ziD (z9J a b)
def zbba (a:yB):yB:=if a=[]\/isU a=true then a else if isC a=true then [⟨1,[]⟩] else ziD (z9y a)
def zbbc (a:yB):yB:=if a=[] then [⟨1,[]⟩] else if zVX a=true then [] else ziD (z9U a)
def zbbr (f:Int) (l:yD) (o:Int) (b:Value):yB:=
 if 0<(zlp l).length then ziD (zYz f (zlp l) o b) else if (f==0&&z5h o (zdc 0 b.Int))=true then [⟨1,[]⟩] else []
def IdP (a:yB):Prop:=a=[]\/a=[⟨1,[]⟩]\/∃ x:At,(x.Kind=3\/x.Kind=4)/\a=ziD x
theorem IdP.sq {a:yB} (h:IdP a):zF8 a a=a:=by
 rcases h with rfl | rfl | ⟨x,hx,rfl⟩
 ·rfl
 ·exact z64 zbae
 ·exact z9h hx
def z93 (b:yB):Nat->yB
 | 0=>[⟨1,[]⟩]
 | n+1=>zF8 b (z93 b n)
section
variable (σ:At->yB)
def SG (x:At):Prop:=PA (σ x)/\(x.Kind=3\/x.Kind=4->IdP (σ x))
variable {σ}
def EA (σ:At->yB) (a:yB):Prop:=PA a/\∀ t∈a,∀ f∈t.Fs,SG σ f.At
theorem EA.p {a:yB} (h:EA σ a):∀ t∈a,cOK t/\∀ f∈t.Fs,SG σ f.At:=λt ht=>⟨h.1.c t ht,h.2 t ht⟩
theorem EA.sum {a b:yB} (ha:EA σ a) (hb:EA σ b):EA σ (ztO a b):=⟨zbat ha.1 hb.1,λt ht f hf=>by
 obtain ⟨x,hx,e⟩:=zMz b a ha.1.1 ht;rw [e] at hf;rcases hx with hx | hx
 ·exact ha.2 x hx f hf
 ·exact hb.2 x hx f hf⟩
end
end Go.Proofs.YtoknknbmfmddbaaGreatDoor
/- Substitution commutes with the operations; without bindings it changes nothing. -/
namespace Go.Proofs.YtoknknbmfmddbaaGreatDoor
open Go Go.Ab
mutual
def z9q (to:RowID->yB):At->yB
 | ⟨k,r,a,f,i,o,b⟩=>if k=0 then to r else if k=1 then zbbd ((zTf to a).getD 0 default) ((zTf to a).getD 1 default) else if k=2 then zbba ((zTf to a).getD 0 default)
  else if k=3 then zbbc ((zTf to a).getD 0 default) else zbbr f (z35 to i) o b
def z6z (to:RowID->yB):yC->yB
 | []=>[⟨1,[]⟩]
 | ⟨x,e⟩::r=>zF8 (z93 (z9q to x) e.toNat) (z6z to r)
def z5g (to:RowID->yB):yB->yB->yB
 | [],s=>s
 | ⟨c,fs⟩::r,s=>z5g to r (ztO s (zF8 [⟨c,[]⟩] (z6z to fs)))
def zTf (to:RowID->yB):yA->yA
 | []=>[]
 | a::r=>z5g to a []::zTf to r
def z35 (to:RowID->yB):yD->yD
 | []=>[]
 | ⟨v,a⟩::r=>⟨v,z5g to a []⟩::z35 to r
end
section
variable (to:RowID->yB)
variable {to} (hto:∀ r,PA (to r))
include hto
end
theorem z5x {a:yB}:zrZ a=true↔a.length<=512/\zbD a<=8/\zW a<=4096/\∀ t∈a,t.Fs.length<=64/\∀ f∈t.Fs,f.Exp<=64/\f.At.Items.length<=1024:=by
 refine ⟨zA8,λ⟨h1,h2,h3,h4⟩=> ?_⟩
 unfold zrZ;simp only [qc,qe];refine ⟨⟨⟨h1,h2⟩,h3⟩,List.all_eq_true.2 λt ht=> ?_⟩
 obtain ⟨h5,h6⟩:=h4 t ht;unfold zOT;rw [Bool.not_eq_true',Bool.or_eq_false_iff];refine ⟨by simp; omega, ?_⟩
 rw [List.any_eq_false];intro f hf;obtain ⟨h7,h8⟩:=h6 f hf;simp;exact ⟨h7,h8⟩
theorem zVb:∀ a b:yC,zbS (a++b)=zbS a+zbS b
 | [],b=>by rw [zsB]; simp
 | t::r,b=>by rw [List.cons_append,zd4,zd4,zVb r b]; omega
theorem zVD:∀ a b:yC,zcQ (a++b)=max (zcQ a) (zcQ b)
 | [],b=>by rw [zCz]; simp
 | t::r,b=>by rw [List.cons_append,zqH,zqH,zVD r b]; omega
structure FB (l:yC):Prop where
 len:l.length<=64
 nes:zcQ l<=8
 siz:1+l.length+zbS l<=4096
 fs:∀ f∈l,f.Exp<=64/\f.At.Items.length<=1024
theorem FB.of {a:yB} (h:zrZ a=true) {t:Term} (ht:t∈a):FB t.Fs:=by
 obtain ⟨h1,h2,h3,h4⟩:=z5x.1 h;obtain ⟨h5,h6⟩:=h4 t ht;refine ⟨h5,Nat.le_trans (zW6 ht) h2, ?_,h6⟩
 have key:∀ {a:yB},t∈a->1+t.Fs.length+zbS t.Fs<=zW a:=by
  intro a;induction a with
  | nil=>intro h; cases h
  | cons u r ih=>
   intro h;rw [zla];rcases qd.1 h with rfl | h
   ·omega
   ·have:=ih h; omega
 have:=key ht;omega
theorem FB.app {a b:yC} (h:FB (a++b)):FB a/\FB b:=by
 obtain ⟨h1,h2,h3,h4⟩:=h;rw [qg] at h1 h3;rw [zVD] at h2;rw [zVb] at h3;exact ⟨⟨by omega,by omega,by omega,λf hf=>h4 f (by simp [hf])⟩,⟨by omega,by omega,by omega,λf hf=>h4 f (by simp [hf])⟩⟩
theorem OKF.app {a b:yC} (h:OKF zAr (a++b)):OKF zAr a/\OKF zAr b:=⟨⟨(List.pairwise_append.1 h.1).1,λf hf=>h.2 f (by simp [hf])⟩,⟨(List.pairwise_append.1 h.1).2.1,λf hf=>h.2 f (by simp [hf])⟩⟩
section
variable {c:Int} (hc:1<=c/\c<=1152921504606846976)
include hc
end
def AB (x:At):Prop:=zmF x<=8/\zj5 x+2<=4096/\x.Items.length<=1024
theorem AB.of {l:yC} (h:FB l) {f:Fc} (hf:f∈l):AB f.At:=by
 refine ⟨Nat.le_trans (zL9 hf) h.nes, ?_,(h.fs f hf).2⟩;have h1:=zNk hf
 have h2:1<=l.length:=by cases l with
  | nil=>cases hf
  | cons a r=>simp
 have:=h.siz;omega
def dvF (a b:yC):Bool:=a.all λf=>b.any λg=>decide (f.Exp<=g.Exp)&&decide (f.At=g.At)
abbrev zbbx (l:yC):Prop:=l.Pairwise λf g=>zbE (zgf f.At) (zgf g.At)<0
def cL (a b:yC):Int:=zbE (.l (zb6 a)) (.l (zb6 b))
structure Canon (a:yB):Prop where
 asc:a.Pairwise λt u=>cL t.Fs u.Fs<0
 fac:∀ t∈a,zbbx t.Fs
theorem Canon.tail {t:Term} {a:yB} (h:Canon (t::a)):Canon a:=⟨(qi.1 h.asc).2,λx hx=>h.fac x (by simp [hx])⟩
def leS (a b:yB):Bool:=a.all λt=>b.any λu=>dvF u.Fs t.Fs
theorem z9d {a b:yB}:leS a b=true↔∀ t∈a,∃ u∈b,dvF u.Fs t.Fs=true:=by
 unfold leS;simp only [List.all_eq_true,List.any_eq_true]
def z7T (a b s:yB):Prop:=∀ l:yC,(∃ t∈s,t.Fs=l)↔(∃ t∈a,t.Fs=l)\/∃ t∈b,t.Fs=l
theorem z7T.le {a b s c:yB} (h:z7T a b s):leS s c=true↔leS a c=true/\leS b c=true:=by
 simp only [z9d];constructor
 ·intro hs;refine ⟨λt ht=> ?_,λt ht=> ?_⟩
  ·obtain ⟨t',ht',e⟩:=(h t.Fs).2 (.inl ⟨t,ht,rfl⟩);rw [<- e]; exact hs t' ht'
  ·obtain ⟨t',ht',e⟩:=(h t.Fs).2 (.inr ⟨t,ht,rfl⟩);rw [<- e]; exact hs t' ht'
 ·rintro ⟨h1,h2⟩ t ht
  rcases (h t.Fs).1 ⟨t,ht,rfl⟩ with ⟨u,hu,e⟩ | ⟨u,hu,e⟩
  ·rw [<- e]; exact h1 u hu
  ·rw [<- e]; exact h2 u hu
theorem zbav (a b:yC):cL a b=zbw (zb6 a) (zb6 b):=by unfold cL; rw [zbE]
theorem PA.canon {a:yB} (h:PA a):Canon a:=⟨h.1.imp λ{x y} hxy=>by rw [zbav]; exact hxy,λt ht=>(h.2 t ht).2.1⟩
def GP {α:Type} (P:α->Prop):Int⊕α->Prop
 | .inl _=>True
 | .inr a=>P a
theorem zA0 {α β:Type} {P:α->Prop} {Q:β->Prop} {x:Int⊕α} {k:α->Int⊕β} (hx:GP P x) (hk:∀ a,P a->GP Q (k a)):GP Q (sbd x k):=by
 cases x with
 | inl e=>exact trivial
 | inr a=>exact hk a hx
theorem zT3 {P:yB->Prop} {r:yB×Int} (h:P r.1):GP P (opS r):=by
 unfold opS;split
 ·exact h
 ·exact trivial
theorem zx9 {a:yB}:zb3 a↔∀ t∈a,∀ f∈t.Fs,zx0 f.At:=by
 rw [zJX];exact ⟨λh t ht=>zyr.1 (h t ht),λh t ht=>zyr.2 (h t ht)⟩
theorem zx8:zb3 []:=zJX.2 λt ht=>by cases ht
theorem zPx (c:Int):zb3 [⟨c,[]⟩]:=zx9.2 λt ht f hf=>by
 rw [qh] at ht; subst ht; cases hf
theorem zUi {x:At} (h:zx0 x):zb3 (ziD x):=zx9.2 λt ht f hf=>by
 simp only [ziD,qh] at ht; subst ht;rw [qh] at hf; subst hf; exact h
theorem zMB {a:yB} (h:zb3 a):zb3 (zKP a).1:=by
 unfold zKP;cases zrZ a with
 | true=>exact h
 | false=>exact zx8
theorem zW9 {ok:Bool} {r:yB×Int} (h:ok=true->zb3 r.1):zb3 (opR ok r).1:=by
 cases ok with
 | true=>exact h rfl
 | false=>exact zx8
theorem zbam {a b:yB} (hs:Srs a) (ha:zb3 a) (hb:zb3 b):zb3 (ztO a b):=zx9.2 λt ht f hf=>by
 obtain ⟨x,hx,e⟩:=zMz b a hs ht;rw [e] at hf;rcases hx with hx | hx
 ·exact zx9.1 ha x hx f hf
 ·exact zx9.1 hb x hx f hf
theorem z85 {a b:yB} (ha:zb3 a) (hb:zb3 b):zb3 (zF8 a b):=zx9.2 λt ht f hf=>by
 obtain ⟨x,hx,e⟩:=zMz (zv8 a b) [] List.Pairwise.nil ht;rw [e] at hf;rcases hx with hx | hx
 ·cases hx
 ·obtain ⟨u,hu,v,hv,rfl⟩:=zZG hx;obtain ⟨y,hy,e⟩:=ztA hf;rw [e];rcases hy with hy | hy
  ·exact zx9.1 ha u hu y hy
  ·exact zx9.1 hb v hv y hy
theorem z98 {a b:yB} (ha:zb3 a) (hb:zb3 b):zb3 (z7g a b).1:=zW9 λhv=>by
 rw [qc] at hv;exact zMB (zbam (z6E hv.1).1 ha hb)
theorem zbad {a b:yB} (ha:zb3 a) (hb:zb3 b):zb3 (z7k a b).1:=zW9 λ_=>zMB (z85 ha hb)
theorem zWS {k:Int} {l:yA} (h:∀ a∈l,zb3 a):zx0 ⟨k,⟨0,0⟩,l,0,[],0,⟨0,0,ByteArray.mk #[]⟩⟩:=(zGC _).2 ⟨by simp,zAg.2 h,zyd.2 λw hw=>by cases hw⟩
theorem z9D {a b:yB} (ha:zb3 a) (hb:zb3 b):zb3 (z7O a b).1:=zW9 λ_=>by
 split
 ·exact ha
 ·split
  ·exact zx8
  ·refine zMB (zUi (zWS λx hx=> ?_))
   simp only [qd,List.not_mem_nil,or_false] at hx;rcases hx with rfl | rfl
   ·exact ha
   ·exact hb
theorem z9o {a:yB} (ha:zb3 a):zb3 (z7q a).1:=zW9 λ_=>by
 split
 ·exact ha
 ·split
  ·exact zPx 1
  ·refine zMB (zUi (zWS λx hx=> ?_))
   rw [qh] at hx; subst hx; exact ha
theorem z9X {a:yB} (ha:zb3 a):zb3 (z7u a).1:=zW9 λ_=>by
 split
 ·exact zPx 1
 ·split
  ·exact zx8
  ·refine zMB (zUi (zWS λx hx=> ?_))
   rw [qh] at hx; subst hx; exact ha
theorem z8T {f o:Int} {l:yD} {b:Value} (hl:l.length<20) (h:∀ w∈l,zb3 w.Ann):zb3 (zXo f l o b).1:=by
 unfold zXo;cases (!(zIa f l o b&&l.all λw=>ze7 w.Ann)) with
 | true=>exact zx8
 | false=>
  cases decide (0<(zlp l).length) with
  | true=>
   refine zMB (zUi ((zGC _).2 ⟨?_,zAg.2 λa ha=>(by cases ha),zyd.2 λw hw=>h w (zGf hw).1⟩))
   have h1:(zlp l).length=(l.filter z1P).length:=(zis _ _).length_eq;have h2:=List.length_filter_le z1P l;show (zlp l).length<20;omega
  | false=>
   cases (f==0&&z5h o (zdc 0 b.Int)) with
   | true=>exact zPx 1
   | false=>exact zx8
theorem z6c {b:yB} (hb:zb3 b):∀ (n:Nat) (p:yB),zb3 p->GP zb3 (z4u b n p)
 | 0,p,hp=>hp
 | n+1,p,hp=>zA0 (zT3 (zbad hp hb)) λq hq=>z6c hb n q hq
theorem z9F (n:Int):zb3 (zZh n):=by
 unfold zZh;split
 ·exact zx8
 ·exact zPx _
theorem z3A {l:yA} (h:∀ a∈l,zb3 a) (i:Nat):zb3 (l.getD i default):=by
 by_cases hi:i<l.length
 ·exact h _ (zT hi)
 ·rw [List.getD_eq_getElem?_getD,List.getElem?_eq_none (by omega)]; exact zx8
section
variable {to:RowID->yB} (ht:∀ r,zb3 (to r))
include ht
mutual
theorem z5i:∀ x:At,zx0 x->GP zb3 (zRR to x)
 | ⟨k,r,a,f,i,o,b⟩=>λh=>by
  obtain ⟨h1,h2,h3⟩:=(zGC _).1 h;rw [zRR];split
  ·exact ht r
  ·refine zA0 (zYa a (zAg.1 h2)) λxs hxs=> ?_
   have g0:=z3A hxs 0;have g1:=z3A hxs 1;split
   ·exact zT3 (z9D g0 g1)
   ·split
    ·exact zT3 (z9o g0)
    ·split
     ·exact zT3 (z9X g0)
     ·refine zA0 (zVI i (zyd.1 h3)) λis his=>zT3 (z8T ?_ his.2)
      rw [his.1]; exact h1
theorem zP0:∀ l:yC,(∀ f∈l,zx0 f.At)->∀ p,zb3 p->GP zb3 (zta to l p)
 | [],_,p,hp=>by rw [zta]; exact hp
 | ⟨x,e⟩::r,h,p,hp=>by
  rw [zta];exact zA0 (z5i x (h ⟨x,e⟩ (by simp))) λb hb=>zA0 (z6c hb _ p hp) λq hq=>zP0 r (λf hf=>h f (by simp [hf])) q hq
theorem zSm:∀ a:yB,(∀ t∈a,∀ f∈t.Fs,zx0 f.At)->∀ s,zb3 s->GP zb3 (zq6 to a s)
 | [],_,s,hs=>by rw [zq6]; exact hs
 | ⟨c,fs⟩::r,h,s,hs=>by
  rw [zq6];exact zA0 (zP0 fs (h ⟨c,fs⟩ (by simp)) _ (z9F c)) λp hp=>zA0 (zT3 (z98 hs hp)) λq hq=>zSm r (λt ht=>h t (by simp [ht])) q hq
theorem zYa:∀ l:yA,(∀ a∈l,zb3 a)->GP (λr:yA=>∀ a∈r,zb3 a) (zxX to l)
 | [],_=>by rw [zxX]; exact λa ha=>by cases ha
 | a::r,h=>by
  rw [zxX];refine zA0 (zSm a (zx9.1 (h a (by simp))) [] zx8) λb hb=>zA0 (zYa r λc hc=>h c (by simp [hc])) λl hl=> ?_
  intro x hx;rcases qd.1 hx with rfl | hx
  ·exact hb
  ·exact hl x hx
theorem zVI:∀ l:yD,(∀ w∈l,zb3 w.Ann)->GP (λr:yD=>r.length=l.length/\∀ w∈r,zb3 w.Ann) (zuQ to l)
 | [],_=>by rw [zuQ]; exact ⟨rfl,λa ha=>by cases ha⟩
 | ⟨v,a⟩::r,h=>by
  rw [zuQ];refine zA0 (zSm a (zx9.1 (h ⟨v,a⟩ (by simp))) [] zx8) λb hb=>zA0 (zVI r λc hc=>h c (by simp [hc])) λl hl=> ?_
  refine ⟨by simp [hl.1],λx hx=> ?_⟩
  rcases qd.1 hx with rfl | hx
  ·exact hb
  ·exact hl.2 x hx
end
end
section
variable {σ:At->yB}
end
end Go.Proofs.YtoknknbmfmddbaaGreatDoor
/- Relations: the normal form, by the program. -/
set_option maxRecDepth 100000
namespace Go.Proofs.YtoknknbmfmddbaaGreatDoor
open Go Go.Ab
def cR (x y:Row):Int:=zO5 x.Values y.Values
def zba5 (x:Row):Prop:=x.Values.length<=1000000/\okA x.Ann/\ze7 x.Ann=true
structure okRel (r:Relation):Prop where
 cols:r.Columns.length<=1000000
 rows:r.Rows.length<20
 row:∀ x∈r.Rows,x.Values.length<=1000000/\okA x.Ann/\(ze7 x.Ann=true->zb3 x.Ann)
end Go.Proofs.YtoknknbmfmddbaaGreatDoor
/- Relations: the guards of the laws. -/
set_option maxRecDepth 100000
namespace Go.Proofs.YtoknknbmfmddbaaGreatDoor
open Go Go.Ab
theorem zbbt {n:Nat} (hn:n<=1000) {a:yB} (ha:z1T a):∃ q,zzk (n:Int) [a]=(true,q)/\(q=true->okA a/\zbq a<=n):=by
 obtain ⟨q,h1,h2⟩:=zbaa n hn [a] (by simp) (λx hx=>by rw [qh] at hx; subst hx; exact ha)
 exact ⟨q,h1,λh=>⟨z8p hn (h2 h a (by simp)) ha,(h2 h a (by simp)).2⟩⟩
structure smRel (rows w:Nat) (r:Relation):Prop where
 rows:r.Rows.length<=rows
 cols:r.Columns.length<=20
 names:∀ c∈r.Columns,c.Name.size<=100
 row:∀ x∈r.Rows,(x.Values.length<=20/\∀ v∈x.Values,v.Text.size<=300)/\okA x.Ann/\zbq x.Ann<=w
section
variable (rows w:Nat) (l:List Relation)
theorem z9H (i:Nat) (hi:i<l.length) (hc:(l.getD i default).Columns.length<=20):∀ (n k:Nat),(l.getD i default).Columns.length<k+n->k<=(l.getD i default).Columns.length->∃ r,zSi n rows w l i k=(true,r)/\(r=.inl false\/(r=.inr ((rows:Int),(w:Int),l,(i:Int))/\∀ c∈(l.getD i default).Columns.drop k,c.Name.size<=100))
 | 0,k,h,h2=>by omega
 | n+1,k,h,h2=>by
  show ∃ r,(zGQ rows w l i k).ev (zD zHq (.inl default) n) (λr=>(true,r)) (false,.inl default)=(true,r)/\_
  unfold zGQ;by_cases hk:k<(l.getD i default).Columns.length
  ·simp only [Wy.ev_i,Wy.ev_k,Wy.ev_h,Wy.ev_d,tT,hi,hk];generalize hq:decide (_>(100:Int))=q;cases q with
   | true=>exact ⟨_,rfl,.inl rfl⟩
   | false=>
    rw [cond_false,zbe (by omega)]
    obtain ⟨r,r1,r2⟩:=z9H i hi hc n (k+1) (by omega) (by omega)
    refine ⟨r,r1,r2.imp_right λr2=>⟨r2.1,λc hc=> ?_⟩⟩
    rw [z6 hk] at hc;rcases qd.1 hc with rfl | hc
    ·have:=of_decide_eq_false hq;omega
    ·exact r2.2 c hc
  ·simp only [Wy.ev_i,Wy.ev_k,Wy.ev_h,Wy.ev_d,tT,hi,hk];exact ⟨_,rfl,.inr ⟨rfl,λc hc=>by rw [zc9 hk] at hc; cases hc⟩⟩
theorem z7R (hw:w<=1000) (i:Nat) (hi:i<l.length) (hr:(l.getD i default).Rows.length<=1000) (hwf:∀ x∈(l.getD i default).Rows,z7F x):∀ (n k:Nat),(l.getD i default).Rows.length<k+n->k<=(l.getD i default).Rows.length->
  ∃ r,zPQ n rows w l i k=(true,r)/\(r=.inl false\/(r=.inr ((rows:Int),(w:Int),l,(i:Int))/\∀ x∈(l.getD i default).Rows.drop k,(x.Values.length<=20/\∀ v∈x.Values,v.Text.size<=300)/\okA x.Ann/\zbq x.Ann<=w))
 | 0,k,h,h2=>by omega
 | n+1,k,h,h2=>by
  show ∃ r,(zEx rows w l i k).ev (zD zEK (.inl default) n) (λr=>(true,r)) (false,.inl default)=(true,r)/\_
  unfold zEx;by_cases hk:k<(l.getD i default).Rows.length
  ·have hx:=hwf _ (zT hk);obtain ⟨b,b1,b2⟩:=z1b ((l.getD i default).Rows.getD k default).Values 20 hx.1.2;obtain ⟨q,q1,q2⟩:=zbbt hw (a:=((l.getD i default).Rows.getD k default).Ann) hx.2;replace b1:zn8 ((l.getD i default).Rows.getD k default).Values (20:Int)=(true,b):=b1;simp only [Wy.ev_i,Wy.ev_k,Wy.ev_h,Wy.ev_bn,Wy.ev_d,tT,hi,hk,b1,q1];cases b with
   | false=>exact ⟨_,rfl,.inl rfl⟩
   | true=>
    cases q with
    | false=>exact ⟨_,rfl,.inl rfl⟩
    | true=>
     rw [zbe (by omega)]
     obtain ⟨r,h3,h4⟩:=z7R hw i hi hr hwf n (k+1) (by omega) (by omega)
     refine ⟨r,h3,h4.imp_right λh4=>⟨h4.1,λx hx=> ?_⟩⟩
     rw [z6 hk] at hx;rcases qd.1 hx with rfl | hx
     ·exact ⟨b2 rfl,q2 rfl⟩
     ·exact h4.2 x hx
  ·simp only [Wy.ev_i,Wy.ev_k,Wy.ev_h,Wy.ev_d,tT,hi,hk];exact ⟨_,rfl,.inr ⟨rfl,λx hx=>by rw [zc9 hk] at hx; cases hx⟩⟩
theorem z97 (hrs:rows<=100) (hw:w<=1000) (hl:l.length<=1000) (hwf:∀ r∈l,z4y r):∀ (n i:Nat),l.length<i+n->i<=l.length->
  ∃ r,zTc n rows w l i=(true,r)/\(r=.inl false\/(r=.inr ()/\∀ x∈l.drop i,smRel rows w x))
 | 0,i,h,h2=>by omega
 | n+1,i,h,h2=>by
  show ∃ r,(zIn rows w l i).ev (zD zHf (.inl default) n) (λr=>(true,r)) (false,.inl default)=(true,r)/\_
  unfold zIn;by_cases hi:i<l.length
  ·have hwr:=hwf _ (zT hi);have e2:decide ((((l.getD i default).Columns.length:Nat):Int)>(20:Int))=decide ((l.getD i default).Columns.length>20):=zyg _ 20;simp only [Wy.ev_i,Wy.ev_k,Wy.ev_h,Wy.ev_d,tT,hi];rw [e2];by_cases h3:rows<(l.getD i default).Rows.length
   ·rw [decide_eq_true h3]; exact ⟨_,rfl,.inl rfl⟩
   by_cases h4:(l.getD i default).Columns.length>20
   ·rw [decide_eq_false h3,decide_eq_true h4]; exact ⟨_,rfl,.inl rfl⟩
   rw [decide_eq_false h3,decide_eq_false h4,cond_false,cond_false];obtain ⟨r7,a1,a2⟩:=z9H rows w l i hi (by omega) ((rows:Int).toNat +(w:Int).toNat +l.length+i+Int.toNat (0:Int)+(1000:Nat)) 0 (by omega) (by omega)
   rw [show ((0:Nat):Int)=(0:Int) from rfl] at a1
   simp only [Int.toNat_natCast] at a1;simp only [Wy.ev_bn,a1,cond_true];rcases a2 with rfl | ⟨rfl,a3⟩
   ·exact ⟨_,rfl,.inl rfl⟩
   ·obtain ⟨r12,b1,b2⟩:=z7R rows w l hw i hi (by omega) hwr.2.1 ((rows:Int).toNat +(w:Int).toNat +l.length+(i:Int).toNat +Int.toNat (0:Int)+(1000:Nat)) 0 (by omega) (by omega)
    rw [show ((0:Nat):Int)=(0:Int) from rfl] at b1
    simp only [Wy.ev_i,Wy.ev_k,Wy.ev_h,Wy.ev_bn,isL,getL,getR,cond_false,b1,cond_true];rcases b2 with rfl | ⟨rfl,b3⟩
    ·exact ⟨_,rfl,.inl rfl⟩
    ·simp only [isL,getL,getR,cond_false,zbe (show i<4611686018427387904 by omega)]
     obtain ⟨r,c1,c2⟩:=z97 hrs hw hl hwf n (i+1) (by omega) (by omega)
     refine ⟨r,c1,c2.imp_right λc2=>⟨c2.1,λx hx=> ?_⟩⟩
     rw [z6 hi] at hx;rcases qd.1 hx with rfl | hx
     ·rw [List.drop_zero] at b3 a3;exact ⟨by omega,by omega,a3,b3⟩
     ·exact c2.2 x hx
  ·simp only [Wy.ev_i,Wy.ev_k,Wy.ev_h,Wy.ev_d,tT,hi];exact ⟨_,rfl,.inr ⟨rfl,λx hx=>by rw [zc9 hi] at hx; cases hx⟩⟩
theorem zba8 (hrs:rows<=100) (hw:w<=1000) (hl:l.length<=1000) (hwf:∀ r∈l,z4y r):∃ q,zzp rows w l=(true,q)/\(q=true->∀ r∈l,smRel rows w r):=by
 unfold zzp zVs;obtain ⟨r,h1,h2⟩:=z97 rows w l hrs hw hl hwf ((rows:Int).toNat +(w:Int).toNat +l.length+Int.toNat (0:Int)+(1000:Nat)) 0 (by omega) (by omega)
 rw [show ((0:Nat):Int)=(0:Int) from rfl] at h1
 rw [Wy.fin_bn,h1];rcases h2 with rfl | ⟨rfl,h2⟩
 ·exact ⟨false,rfl,λh=>by cases h⟩
 ·exact ⟨true,rfl,λ_=>by rw [List.drop_zero] at h2; exact h2⟩
end
theorem smRel.ok {rows w:Nat} {r:Relation} (h:smRel rows w r) (hr:rows<20) (hw:w<=38):okRel r where
 cols:=by have:=h.cols; omega
 rows:=by have:=h.rows; omega
 row:=λx hx=>⟨by have:=(h.row x hx).1.1; omega,(h.row x hx).2.1,λhv=>zWG 100 x.Ann hv (by have:=(h.row x hx).2.2; omega)⟩
end Go.Proofs.YtoknknbmfmddbaaGreatDoor
end
