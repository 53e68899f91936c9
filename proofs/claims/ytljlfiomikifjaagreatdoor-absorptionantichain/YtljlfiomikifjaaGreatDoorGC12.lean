/- Texts of this claim, joined (the program, its functions in plain words, and what they compute). -/
import Derived.Test.YtljlfiomikifjaaGreatDoorGC11
set_option autoImplicit false
set_option linter.unusedVariables false
set_option linter.unusedSectionVars false
set_option linter.unusedSimpArgs false
set_option maxRecDepth 1000000
set_option maxHeartbeats 0
/- Without bindings substitution returns a valid annotation as it is. -/
noncomputable section
namespace Go.Proofs.YtljlfiomikifjaaGreatDoor
open Go Go.Ab
theorem zCQ {a:yC}:zf4 a=true↔a.length<=512/\zbv a<=8/\zL a<=4096/\∀ t∈a,t.Fs.length<=64/\∀ f∈t.Fs,f.Exp<=64/\f.At.Items.length<=1024:=by
 refine ⟨zva,λ⟨h1,h2,h3,h4⟩=> ?_⟩
 unfold zf4;simp only [qc,qe];refine ⟨⟨⟨h1,h2⟩,h3⟩,List.all_eq_true.2 λt ht=> ?_⟩
 obtain ⟨h5,h6⟩:=h4 t ht;unfold zFc;rw [Bool.not_eq_true',Bool.or_eq_false_iff];refine ⟨by simp; omega, ?_⟩
 rw [List.any_eq_false];intro f hf;obtain ⟨h7,h8⟩:=h6 f hf;simp;exact ⟨h7,h8⟩
theorem z7h:∀ a b:yC,zL (a++b)=zL a+zL b
 | [],b=>by rw [zuZ]; simp
 | t::r,b=>by rw [List.cons_append,zeX,zeX,z7h r b]; omega
theorem z6v:∀ a b:yC,zbv (a++b)=max (zbv a) (zbv b)
 | [],b=>by rw [zHD]; simp
 | t::r,b=>by rw [List.cons_append,zos,zos,z6v r b]; omega
theorem zJY:∀ a b:yD,zbM (a++b)=zbM a+zbM b
 | [],b=>by rw [zjC]; simp
 | t::r,b=>by rw [List.cons_append,zdv,zdv,zJY r b]; omega
theorem zJW:∀ a b:yD,zdJ (a++b)=max (zdJ a) (zdJ b)
 | [],b=>by rw [zrv]; simp
 | t::r,b=>by rw [List.cons_append,zko,zko,zJW r b]; omega
structure FB (l:yD):Prop where
 len:l.length<=64
 nes:zdJ l<=8
 siz:1+l.length+zbM l<=4096
 fs:∀ f∈l,f.Exp<=64/\f.At.Items.length<=1024
theorem FB.wi {l:yD} (h:FB l) (c:Int):zf4 [⟨c,l⟩]=true:=zCQ.2 ⟨by simp,by rw [zos,zHD]; have:=h.nes; simp only; omega,by rw [zeX,zuZ]; have:=h.siz; simp only; omega,λt ht=>by
 rw [qh] at ht; subst ht; exact ⟨h.len,h.fs⟩⟩
theorem FB.of {a:yC} (h:zf4 a=true) {t:Term} (ht:t∈a):FB t.Fs:=by
 obtain ⟨h1,h2,h3,h4⟩:=zCQ.1 h;obtain ⟨h5,h6⟩:=h4 t ht;refine ⟨h5,Nat.le_trans (z6U ht) h2, ?_,h6⟩
 have key:∀ {a:yC},t∈a->1+t.Fs.length+zbM t.Fs<=zL a:=by
  intro a;induction a with
  | nil=>intro h; cases h
  | cons u r ih=>
   intro h;rw [zeX];rcases qd.1 h with rfl | h
   ·omega
   ·have:=ih h; omega
 have:=key ht;omega
theorem FB.app {a b:yD} (h:FB (a++b)):FB a/\FB b:=by
 obtain ⟨h1,h2,h3,h4⟩:=h;rw [qg] at h1 h3;rw [zJW] at h2;rw [zJY] at h3;exact ⟨⟨by omega,by omega,by omega,λf hf=>h4 f (by simp [hf])⟩,⟨by omega,by omega,by omega,λf hf=>h4 f (by simp [hf])⟩⟩
theorem FB.exp {P:yD} {x:At} {e j:Int} (h:FB (P++[⟨x,e⟩])) (hj:j<=64):FB (P++[⟨x,j⟩]):=by
 obtain ⟨h1,h2,h3,h4⟩:=h;rw [qg] at h1 h3;rw [zJW,zko,zrv] at h2;rw [zJY,zdv,zjC] at h3;refine ⟨by rw [qg]; exact h1,by rw [zJW,zko,zrv]; exact h2,by rw [qg,zJY,zdv,zjC]; exact h3,λf hf=> ?_⟩
 rcases List.mem_append.1 hf with hf | hf
 ·exact h4 f (by simp [hf])
 ·rw [qh] at hf; subst hf;exact ⟨hj,(h4 ⟨x,e⟩ (by simp)).2⟩
theorem OKF.app {a b:yD} (h:OKF zpR (a++b)):OKF zpR a/\OKF zpR b:=⟨⟨(List.pairwise_append.1 h.1).1,λf hf=>h.2 f (by simp [hf])⟩,⟨(List.pairwise_append.1 h.1).2.1,λf hf=>h.2 f (by simp [hf])⟩⟩
theorem OKF.exp {P:yD} {x:At} {e j:Int} (h:OKF zpR (P++[⟨x,e⟩])) (h1:1<=j) (h2:j<=e):OKF zpR (P++[⟨x,j⟩]):=by
 have hx:=h.2 ⟨x,e⟩ (by simp)
 refine ⟨List.pairwise_append.2 ⟨(List.pairwise_append.1 h.1).1,by simp,λa ha b hb=> ?_⟩,λf hf=> ?_⟩
 ·rw [qh] at hb; subst hb;exact (List.pairwise_append.1 h.1).2.2 a ha ⟨x,e⟩ (by simp)
 ·rcases List.mem_append.1 hf with hf | hf
  ·exact h.2 f (by simp [hf])
  ·rw [qh] at hf; subst hf;refine ⟨⟨h1,λhk=> ?_⟩,hx.2⟩
   have:=hx.1.2 hk;have h3:e=1:=this;show j=1;omega
theorem z6E {c:Int} {F:yD} (hc:1<=c/\c<=1152921504606846976) (hF:OKF zpR F) (hb:FB F):zU [⟨c,F⟩]=true:=zuY.2 ⟨hb.wi c,by simp,λt ht=>by
 rw [qh] at ht; subst ht; exact ⟨hc,hF⟩⟩
theorem z9u {y:Fc}:∀ {P:yD},(∀ z∈P,cF z y<0)->zbR P [y]=P++[y]
 | [],_=>by rw [zbR]; rfl
 | z::r,h=>by rw [zbR,if_pos (h z (by simp)),z9u λw hw=>h w (by simp [hw])]; rfl
theorem zZW {x:At} {j:Int} (hk:¬ (x.Kind=3\/x.Kind=4)):∀ {P:yD},(∀ z∈P,cF z ⟨x,1⟩<0)->zbR (P++[⟨x,j⟩]) [⟨x,1⟩]=P++[⟨x,j+1⟩]
 | [],_=>by
  have e:cF ⟨x,j⟩ ⟨x,1⟩=0:=cF_self' rfl;show zbR [⟨x,j⟩] [⟨x,1⟩]=[⟨x,j+1⟩];rw [zbR,e,if_neg (by omega),if_neg (by omega),if_neg hk,zbR]
 | z::r,h=>by
  show zbR (z::(r++[⟨x,j⟩])) [⟨x,1⟩]=_;rw [zbR,if_pos (h z (by simp)),zZW hk λw hw=>h w (by simp [hw])]; rfl
theorem z9v {c:Int} (hc:1<=c/\c<=1152921504606846976) (M:yD) (x:At):zqO [⟨c,M⟩] (zcB x)=[⟨c,zbR M [⟨x,1⟩]⟩]:=by
 show zgy [] [zna ⟨c,M⟩ ⟨1,[⟨x,1⟩]⟩]=_;unfold zna;simp only [zber hc.2];rfl
section
variable {c:Int} (hc:1<=c/\c<=1152921504606846976)
include hc
theorem zba3 {P:yD} {x:At} {e:Int} (hF:OKF zpR (P++[⟨x,e⟩])) (hb:FB (P++[⟨x,e⟩])) (hv:zU (zcB x)=true):
  ∀ (n j:Nat),1<=j->(j+n:Int)=e->zC0 (zcB x) n [⟨c,P++[⟨x,(j:Int)⟩]⟩]=.inr [⟨c,P++[⟨x,e⟩]⟩]
 | 0,j,_,h=>by rw [show (j:Int)=e from by omega]; rfl
 | n+1,j,h1,h=>by
  have he:=(hF.2 ⟨x,e⟩ (by simp)).1
  have he64:=(hb.fs ⟨x,e⟩ (by simp)).1
  have hk:¬ (x.Kind=3\/x.Kind=4):=λhk=>by
   have:e=1:=he.2 hk;omega
  have he64:e<=64:=he64;have hj:=z6E hc (hF.exp (j:=(j:Int)) (by omega) (by omega)) (hb.exp (j:=(j:Int)) (by omega))
  have hlt:∀ z∈P,cF z ⟨x,1⟩<0:=λz hz=>(List.pairwise_append.1 hF.1).2.2 z hz ⟨x,e⟩ (by simp)
  have hp:zqO [⟨c,P++[⟨x,(j:Int)⟩]⟩] (zcB x)=[⟨c,P++[⟨x,((j+1:Nat):Int)⟩]⟩]:=by
   rw [z9v hc,zZW hk hlt]; rfl
  unfold zC0;rw [zbdy hj hv (by rw [hp]; exact (hb.exp (by omega)).wi c),hp,zbcI,zco]
  exact zba3 hF hb hv n (j+1) (by omega) (by omega)
theorem zbcv:∀ {l:yD} {P:yD},OKF zpR (P++l)->FB (P++l)->(∀ f∈l,zeJ zv4 f.At=.inr (zcB f.At)/\zU (zcB f.At)=true)->zdz zv4 l [⟨c,P⟩]=.inr [⟨c,P++l⟩]
 | [],P,_,_,_=>by rw [zLQ,List.append_nil]
 | ⟨x,e⟩::r,P,hF,hb,h=>by
  have hx:=h ⟨x,e⟩ (by simp)
  have e2:P++⟨x,e⟩::r=(P++[⟨x,e⟩])++r:=by simp
  rw [e2] at hF hb ⊢;have hF1:=hF.app.1;have hb1:=hb.app.1;have he:=(hF1.2 ⟨x,e⟩ (by simp)).1.1
  have he:1<=e:=he;have he64:e<=64:=(hb1.fs ⟨x,e⟩ (by simp)).1
  rw [zJh,show zeJ zv4 (⟨x,e⟩:Fc).At=.inr (zcB x) from hx.1,zco]
  have hp:zC0 (zcB x) (⟨x,e⟩:Fc).Exp.toNat [⟨c,P⟩]=.inr [⟨c,P++[⟨x,e⟩]⟩]:=by
   obtain ⟨n,hn⟩:∃ n:Nat,e=n+1:=⟨(e - 1).toNat,by omega⟩
   show zC0 (zcB x) e.toNat [⟨c,P⟩]=_;rw [show e.toNat=n+1 from by omega]
   have hv0:zU [⟨c,P⟩]=true:=z6E hc hF1.app.1 hb1.app.1;have hlt:∀ z∈P,cF z ⟨x,1⟩<0:=λz hz=>(List.pairwise_append.1 hF1.1).2.2 z hz ⟨x,e⟩ (by simp)
   have hp:zqO [⟨c,P⟩] (zcB x)=[⟨c,P++[⟨x,1⟩]⟩]:=by rw [z9v hc,z9u hlt]
   unfold zC0;rw [zbdy hv0 hx.2 (by rw [hp]; exact (hb1.exp (by omega)).wi c),hp,zbcI,zco]
   exact zba3 hc hF1 hb1 hx.2 n 1 (by omega) (by omega)
  rw [hp,zco];exact zbcv hF hb λf hf=>h f (by simp [hf])
end
theorem zKW {s r:yC} (h:zU (s++r)=true):zU s=true/\zU r=true:=by
 obtain ⟨h1,h2,h3⟩:=zuY.1 h;obtain ⟨w1,w2,w3,w4⟩:=zCQ.1 h1;rw [qg] at w1;rw [z6v] at w2;rw [z7h] at w3
 exact ⟨zuY.2 ⟨zCQ.2 ⟨by omega,by omega,by omega,λt ht=>w4 t (by simp [ht])⟩,(List.pairwise_append.1 h2).1,λt ht=>h3 t (by simp [ht])⟩,
  zuY.2 ⟨zCQ.2 ⟨by omega,by omega,by omega,λt ht=>w4 t (by simp [ht])⟩,(List.pairwise_append.1 h2).2.1,λt ht=>h3 t (by simp [ht])⟩⟩
theorem zbcC:∀ {r s:yC},zU (s++r)=true->(∀ t∈r,∀ f∈t.Fs,zeJ zv4 f.At=.inr (zcB f.At)/\zU (zcB f.At)=true)->zcu zv4 r s=.inr (s++r)
 | [],s,_,_=>by rw [z0Y,List.append_nil]
 | t::r,s,hv,h=>by
  have e2:s++t::r=(s++[t])++r:=by simp
  rw [e2] at hv ⊢;obtain ⟨h1,h2⟩:=zuY.1 (zKW hv).1;have ht:=h2.2 t (by simp)
  have hb:FB t.Fs:=FB.of h1 (by simp)
  have hf:=zbcv ht.1 (l:=t.Fs) (P:=[]) ht.2 hb (h t (by simp))
  have hadd:zFo s [t]=(s++[t],0):=by
   have e:zgy s [t]=s++[t]:=z7V _ _ h2.1;rw [zbiB (zKW (zKW hv).1).1 (zKW (zKW hv).1).2 (by rw [e]; exact h1),e]
  rw [zWD,zbjx ht.1,hf,zco];show sbd (opS (zFo s [t])) _=_;rw [hadd,zbcI,zco];exact zbcC hv λu hu=>h u (by simp [hu])
theorem zbhB {d:Nat} {l:yE} (hl:l.length<=1000000) (h:∀ w∈l,zo d w.Ann/\w.Ann≠[]) (hd:d<=99) (hs:zY5 l=true):zeo l=l:=by
 have e:l.filter zn1=l:=List.filter_eq_self.2 λw hw=>by
  have:=(h w hw).2;unfold zn1;cases hx:w.Ann with
  | nil=>exact absurd hx this
  | cons x r=>simp
 unfold zeo;rw [e]
 have hp:l.Pairwise λx y=>zbi (zba x) (zba y)<=0:=zxt (R:=λx y=>zbi (zba x) (zba y)<=0) (λx y z h1 h2=>zuJ _ _ _ h1 h2) l λk hk hl'=>by
  have:=zev.1 hs k (by omega) (by omega)
  unfold zWN at this;rw [Bool.or_eq_true,qe,qe] at this;rcases this with e | e
  ·omega
  ·exact e
 refine ((zOA hl (λw hw=>(h w hw).1) hd).unique (.refl _) ?_).symm
 refine hp.imp_of_mem λ{x y} hx hy hxy=> ?_
 rw [zcT (h y hy).1 hd,zfb (zba x) (zba y)];simp only; omega
def AB (x:At):Prop:=zpv x<=8/\zfK x+2<=4096/\x.Items.length<=1024
theorem AB.wi {x:At} (h:AB x):zf4 (zcB x)=true:=(FB.wi (l:=[⟨x,1⟩]) ⟨by simp,by rw [zko,zrv]; have:=h.1; simp only; omega,by rw [zdv,zjC]; have:=h.2.1; simp only [List.length_singleton]; omega,λf hf=>by
 rw [qh] at hf; subst hf; exact ⟨by simp,h.2.2⟩⟩ 1)
theorem AB.of {l:yD} (h:FB l) {f:Fc} (hf:f∈l):AB f.At:=by
 refine ⟨Nat.le_trans (zUg hf) h.nes, ?_,(h.fs f hf).2⟩;have h1:=zUN hf
 have h2:1<=l.length:=by cases l with
  | nil=>cases hf
  | cons a r=>simp
 have:=h.siz;omega
theorem zbiM {m:Nat} (hA:∀ a,zbF m a=true->zcu zv4 a []=.inr a) (x:At) (h:zes (zbF m) x=true) (hx:AB x):zeJ zv4 x=.inr (zcB x):=by
 have hw:=hx.wi;rw [zYV];cases zdN.1 h with
 | var r hr=>
  simp only [if_true];unfold zv4; rw [hr]; rfl
 | mon a b ha hb ha0 hb0 hab=>
  simp only [show ¬ (1:Int)=0 from by omega,if_false,if_true]
  rw [zAG,hA a ha,zco,zAG,hA b hb,zco,zDF,zco,zco,zco];show opS (zOe a b)=_;unfold zOe opR;rw [zDi ha,zDi hb,if_neg hb0,if_neg (by simp [ha0,hab])]
  show opS (zoH (zcB (zbfa a b)))=_;rw [zN8 (a:=zcB (zbfa a b)) hw]; rfl
 | del a ha ha0 hc hu=>
  simp only [show ¬ (2:Int)=0 from by omega,show ¬ (2:Int)=1 from by omega,if_false,if_true]
  rw [zAG,hA a ha,zco,zDF,zco,zco];show opS (zPk a)=_;unfold zPk opR;rw [zDi ha,if_neg (by simp [ha0,hu]),if_neg (by simp [hc])]
  show opS (zoH (zcB (zZs a)))=_;rw [zN8 (a:=zcB (zZs a)) hw]; rfl
 | abs a ha ha0 hc=>
  simp only [show ¬ (3:Int)=0 from by omega,show ¬ (3:Int)=1 from by omega,show ¬ (3:Int)=2 from by omega,if_false,if_true]
  rw [zAG,hA a ha,zco,zDF,zco,zco];show opS (zOV a)=_;unfold zOV opR;rw [zDi ha,if_neg ha0,if_neg (by simp [hc])]
  show opS (zoH (zcB (zbeH a)))=_;rw [zN8 (a:=zcB (zbeH a)) hw]; rfl
 | tst f l o b hl hi hs hf=>
  simp only [show ¬ (4:Int)=0 from by omega,show ¬ (4:Int)=1 from by omega,show ¬ (4:Int)=2 from by omega,show ¬ (4:Int)=3 from by omega,if_false]
  have key:∀ l:yE,(∀ w∈l,zbF m w.Ann=true)->zgj zv4 l=.inr l:=by
   intro l;induction l with
   | nil=>intro _; rw [zJ0]
   | cons w r ih=>
    intro hm;rw [zP5,hA w.Ann (hm w (by simp)),zco,ih λv hv=>hm v (by simp [hv]),zco]
  have hlen:l.length<=1024:=hx.2.2;have hs':=zbhB (d:=9) (l:=l) (by omega) (λw hw=>⟨(ze5 (hi w hw).1).1,(hi w hw).2⟩) (by omega) hs
  rw [zDF,zco,key l λw hw=>(hi w hw).1,zco]
  show opS (zzp f l o b)=_;unfold zzp;have hall:(l.all λw=>zU w.Ann)=true:=List.all_eq_true.2 λw hw=>zDi (hi w hw).1
  have hpos:0<l.length:=by cases l with
   | nil=>exact absurd rfl hl
   | cons a r=>simp
  rw [hf,hall,hs',decide_eq_true hpos];show opS (zoH (zcB (zSE f l o b)))=_;rw [zN8 (a:=zcB (zSE f l o b)) hw]; rfl
theorem zbfI:∀ m,∀ a,zbF m a=true->zcu zv4 a []=.inr a
 | 0,a,h=>by cases h
 | m+1,a,h=>by
  obtain ⟨h1,_,h3⟩:=zVu.1 (show zAU (zes (zbF m)) a=true from h)
  exact zbcC (s:=[]) (zDi h) λt ht f hf=>by
   have hb:=AB.of (FB.of h1 ht) hf;have hv:=((h3 t ht).2.2 f hf).2;exact ⟨zbiM (zbfI m) f.At hv hb,zbe7 (zVb.2 ((zdN.1 hv).imp λa ha=>zDi ha)) hb.wi⟩
theorem zbjQ {a:yC} (h:zU a=true):zcu zv4 a []=.inr a:=zbfI 100 a h
def dvF (a b:yD):Bool:=a.all λf=>b.any λg=>decide (f.Exp<=g.Exp)&&decide (f.At=g.At)
theorem zN3 {a b:yD}:dvF a b=true↔∀ f∈a,∃ g∈b,f.Exp<=g.Exp/\f.At=g.At:=by
 unfold dvF;simp only [List.all_eq_true,List.any_eq_true,qc,qe]
theorem zOE (a:yD):dvF a a=true:=zN3.2 λf hf=>⟨f,hf,Int.le_refl _,rfl⟩
theorem zRg {a b c:yD} (h1:dvF a b=true) (h2:dvF b c=true):dvF a c=true:=zN3.2 λf hf=>by
 obtain ⟨g,hg,e1,e2⟩:=zN3.1 h1 f hf;obtain ⟨h,hh,e3,e4⟩:=zN3.1 h2 g hg;exact ⟨h,hh,Int.le_trans e1 e3,e2.trans e4⟩
def cFx (f g:Fc):Int:=zbi (ziK f) (ziK g)
theorem z5M {α:Type} (e:α->TT) (he:∀ a b,e a=e b->a=b):Ord3 λa b=>zbi (e a) (e b) where
 eq x y:=⟨λh=>he _ _ (zxe _ _ h),λh=>by subst h; exact zLa _⟩
 swap x y:=by rw [zfb (e x) (e y)]; omega
 trans x y z h1 h2:=by
  have h3:zbi (e x) (e z)<=0:=zuJ _ _ _ (Int.le_of_lt h1) (Int.le_of_lt h2);by_cases h4:zbi (e x) (e z)=0
  ·have h5:=zxe _ _ h4;rw [h5,zfb (e y) (e z)] at h1;omega
  ·omega
theorem zblC:Ord3 cFx:=z5M ziK zY2
abbrev zVf (l:yD):Prop:=l.Pairwise λf g=>zbi (zdZ f.At) (zdZ g.At)<0
theorem zVf.sasc {l:yD} (h:zVf l):zbgI cFx l:=h.imp λ{f g} hfg=>by
 obtain ⟨x,e⟩:=f; obtain ⟨y,e'⟩:=g;show zbi (ziK ⟨x,e⟩) (ziK ⟨y,e'⟩)<0;have hfg:zbi (zdZ x) (zdZ y)<0:=hfg;simp only [ziK,zbi,zbI];rw [if_neg (by omega)]
 exact hfg
theorem zVf.uniq {l:yD} (h:zVf l):∀ f∈l,∀ g∈l,f.At=g.At->f=g:=by
 induction l with
 | nil=>intro f hf; cases hf
 | cons x r ih=>
  have h:=qi.1 h
  have ne:∀ g∈r,x.At≠g.At:=λg hg e=>by
   have:=h.1 g hg;rw [e,zLa] at this; omega
  intro f hf g hg e;rcases qd.1 hf with e1 | hf1
  ·rcases qd.1 hg with e2 | hg1
   ·rw [e1,e2]
   ·rw [e1] at e; exact absurd e (ne g hg1)
  ·rcases qd.1 hg with e2 | hg1
   ·rw [e2] at e; exact absurd e.symm (ne f hf1)
   ·exact ih h.2 f hf1 g hg1 e
theorem z4u {a b:yD} (ha:zVf a) (hb:zVf b) (h1:dvF a b=true) (h2:dvF b a=true):a=b:=by
 have key:∀ {a b:yD},zVf a->zVf b->dvF a b=true->dvF b a=true->∀ f∈a,f∈b:=by
  intro a b ha hb h1 h2 f hf;obtain ⟨g,hg,e1,e2⟩:=zN3.1 h1 f hf;obtain ⟨f',hf',e3,e4⟩:=zN3.1 h2 g hg;have:=ha.uniq f hf f' hf' (e2.trans e4);subst this
  have:f=g:=by
   obtain ⟨x,n⟩:=f; obtain ⟨y,m⟩:=g;simp only at e1 e2 e3 e4;subst e2;have:n=m:=by omega
   subst this; rfl
  subst this; exact hg
 exact z3z zblC ha.sasc hb.sasc λx=>⟨key ha hb h1 h2 x,key hb ha h2 h1 x⟩
def cL (a b:yD):Int:=zbi (.l (zbu a)) (.l (zbu b))
theorem z8T:Ord3 cL:=z5M (λa=>.l (zbu a)) λa b h=>zE7 _ _ (TT.l.inj h)
structure Canon (a:yC):Prop where
 asc:a.Pairwise λt u=>cL t.Fs u.Fs<0
 fac:∀ t∈a,zVf t.Fs
theorem Canon.tail {t:Term} {a:yC} (h:Canon (t::a)):Canon a:=⟨(qi.1 h.asc).2,λx hx=>h.fac x (by simp [hx])⟩
theorem Canon.uniq {a:yC} (h:Canon a):∀ t∈a,∀ u∈a,t.Fs=u.Fs->t=u:=by
 have hp:=h.asc;clear h;induction a with
 | nil=>intro t ht; cases ht
 | cons x r ih=>
  have hp:=qi.1 hp
  have ne:∀ g∈r,x.Fs≠g.Fs:=λg hg e=>by
   have:=hp.1 g hg;rw [e,z8T.refl] at this; omega
  intro f hf g hg e;rcases qd.1 hf with e1 | hf1
  ·rcases qd.1 hg with e2 | hg1
   ·rw [e1,e2]
   ·rw [e1] at e; exact absurd e (ne g hg1)
  ·rcases qd.1 hg with e2 | hg1
   ·rw [e2] at e; exact absurd e.symm (ne f hf1)
   ·exact ih hp.2 f hf1 g hg1 e
def zWt (a:yC) (t:Term):Bool:=a.all λu=> !dvF u.Fs t.Fs||decide (u.Fs=t.Fs)
theorem z4j {a:yC} {t:Term}:zWt a t=true↔∀ u∈a,dvF u.Fs t.Fs=true->u.Fs=t.Fs:=by
 unfold zWt;simp only [List.all_eq_true,Bool.or_eq_true,Bool.not_eq_true',qe];constructor
 ·intro h u hu hd;rcases h u hu with h | h
  ·rw [hd] at h; cases h
  ·exact h
 ·intro h u hu;cases hd:dvF u.Fs t.Fs with
  | false=>exact .inl rfl
  | true=>exact .inr (h u hu hd)
def zhN (a:yC):yC:=(a.filter (zWt a)).map λt=>⟨1,t.Fs⟩
theorem zpH {a:yC} {t:Term}:t∈zhN a↔∃ u∈a,zWt a u=true/\t=⟨1,u.Fs⟩:=by
 unfold zhN;rw [List.mem_map];constructor
 ·rintro ⟨u,hu,rfl⟩
  have:=List.mem_filter.1 hu;exact ⟨u,this.1,this.2,rfl⟩
 ·rintro ⟨u,h1,h2,rfl⟩
  exact ⟨u,List.mem_filter.2 ⟨h1,h2⟩,rfl⟩
theorem zzu {a:yC} (h:Canon a):Canon (zhN a):=by
 refine ⟨?_,λt ht=> ?_⟩
 ·unfold zhN;rw [List.pairwise_map];exact h.asc.filter _
 ·obtain ⟨u,hu,_,rfl⟩:=zpH.1 ht;exact h.fac u hu
theorem z9m {a:yC} (h:Canon a):∀ (n:Nat) (t:Term),t∈a->(a.filter λu=>dvF u.Fs t.Fs).length<=n->∃ u∈a,zWt a u=true/\dvF u.Fs t.Fs=true
 | 0,t,ht,hn=>by
  have:t∈a.filter λu=>dvF u.Fs t.Fs:=List.mem_filter.2 ⟨ht,zOE _⟩
  have:=List.length_pos_of_mem this;omega
 | n+1,t,ht,hn=>by
  by_cases hm:zWt a t=true
  ·exact ⟨t,ht,hm,zOE _⟩
  ·have hm:∃ u∈a,dvF u.Fs t.Fs=true/\u.Fs≠t.Fs:=by
    refine Classical.byContradiction λhc=>hm (z4j.2 λu hu hd=>Classical.byContradiction λhne=>hc ⟨u,hu,hd,hne⟩)
   obtain ⟨u,hu,hd,hne⟩:=hm
   have hnd:dvF t.Fs u.Fs=false:=by
    cases hq:dvF t.Fs u.Fs with
    | false=>rfl
    | true=>exact absurd (z4u (h.fac u hu) (h.fac t ht) hd hq) hne
   have hlt:(a.filter λv=>dvF v.Fs u.Fs).length<(a.filter λv=>dvF v.Fs t.Fs).length:=by
    have hsub:∀ l:yC,(l.filter λv=>dvF v.Fs u.Fs).length<=(l.filter λv=>dvF v.Fs t.Fs).length/\(t∈l->(l.filter λv=>dvF v.Fs u.Fs).length<(l.filter λv=>dvF v.Fs t.Fs).length):=by
     intro l;induction l with
     | nil=>exact ⟨Nat.le_refl _,λh=>by cases h⟩
     | cons x r ih=>
      have step:dvF x.Fs u.Fs=true->dvF x.Fs t.Fs=true:=λhx=>zRg hx hd
      by_cases h1:dvF x.Fs u.Fs=true
      ·rw [List.filter_cons_of_pos (by exact h1),List.filter_cons_of_pos (by exact step h1)]
       simp only [qf];refine ⟨by omega,λhx=> ?_⟩
       rcases qd.1 hx with rfl | hx
       ·rw [hnd] at h1; cases h1
       ·have:=ih.2 hx; omega
      ·rw [List.filter_cons_of_neg (by simpa using h1)]
       by_cases h2:dvF x.Fs t.Fs=true
       ·rw [List.filter_cons_of_pos (by exact h2)]
        simp only [qf];exact ⟨by have:=ih.1; omega,λ_=>by have:=ih.1; omega⟩
       ·rw [List.filter_cons_of_neg (by simpa using h2)]
        refine ⟨ih.1,λhx=> ?_⟩
        rcases qd.1 hx with rfl | hx
        ·exact absurd (zOE _) h2
        ·exact ih.2 hx
    exact (hsub a).2 ht
   obtain ⟨w,w1,w2,w3⟩:=z9m h n u hu (by omega)
   exact ⟨w,w1,w2,zRg w3 hd⟩
def leS (a b:yC):Bool:=a.all λt=>b.any λu=>dvF u.Fs t.Fs
theorem zDx {a b:yC}:leS a b=true↔∀ t∈a,∃ u∈b,dvF u.Fs t.Fs=true:=by
 unfold leS;simp only [List.all_eq_true,List.any_eq_true]
theorem zbgL (a:yC):leS a a=true:=zDx.2 λt ht=>⟨t,ht,zOE _⟩
theorem zRB {a b c:yC} (h1:leS a b=true) (h2:leS b c=true):leS a c=true:=zDx.2 λt ht=>by
 obtain ⟨u,hu,h3⟩:=zDx.1 h1 t ht;obtain ⟨v,hv,h4⟩:=zDx.1 h2 u hu;exact ⟨v,hv,zRg h4 h3⟩
theorem z6u {a:yC} (h:Canon a):leS a (zhN a)=true:=zDx.2 λt ht=>by
 obtain ⟨u,hu,hm,hd⟩:=z9m h _ t ht (Nat.le_refl _);exact ⟨⟨1,u.Fs⟩,zpH.2 ⟨u,hu,hm,rfl⟩,hd⟩
theorem z6J (a:yC):leS (zhN a) a=true:=zDx.2 λt ht=>by
 obtain ⟨u,hu,_,rfl⟩:=zpH.1 ht;exact ⟨u,hu,zOE _⟩
theorem zbcy {a:yC}:∀ t∈zhN a,∀ u∈zhN a,dvF u.Fs t.Fs=true->u.Fs=t.Fs:=by
 intro t ht u hu hd;obtain ⟨t',ht',hm,rfl⟩:=zpH.1 ht;obtain ⟨u',hu',_,rfl⟩:=zpH.1 hu;exact z4j.1 hm u' hu' hd
theorem zbf1 {a b:yC} (ha:Canon a) (hb:Canon b) (h:∀ t,t∈a↔t∈b):a=b:=by
 have hp:=ha.asc; have hq:=hb.asc;clear ha hb;induction a generalizing b with
 | nil=>
  cases b with
  | nil=>rfl
  | cons y s=>exact absurd ((h y).2 (by simp)) (by simp)
 | cons x r ih=>
  cases b with
  | nil=>exact absurd ((h x).1 (by simp)) (by simp)
  | cons y s=>
   have hp':=qi.1 hp;have hq':=qi.1 hq
   have hxy:x=y:=by
    rcases qd.1 ((h x).1 (by simp)) with e | hx
    ·exact e
    ·rcases qd.1 ((h y).2 (by simp)) with e | hy
     ·exact e.symm
     ·exact absurd (hp'.1 y hy) (z8T.asymm (hq'.1 x hx))
   subst hxy;congr 1;refine ih (λz=>⟨λhz=> ?_,λhz=> ?_⟩) hp'.2 hq'.2
   ·rcases qd.1 ((h z).1 (by simp [hz])) with e | hz'
    ·subst e; exact absurd (hp'.1 _ hz) (z8T.irrefl _)
    ·exact hz'
   ·rcases qd.1 ((h z).2 (by simp [hz])) with e | hz'
    ·subst e; exact absurd (hq'.1 _ hz) (z8T.irrefl _)
    ·exact hz'
theorem zbiE {a b:yC} (ha:Canon a) (hb:Canon b) (h1:leS a b=true) (h2:leS b a=true):zhN a=zhN b:=by
 have key:∀ {a b:yC},Canon a->Canon b->leS a b=true->leS b a=true->∀ t∈zhN a,t∈zhN b:=by
  intro a b ha hb h1 h2 t ht;have h3:leS (zhN a) (zhN b)=true:=zRB (z6J a) (zRB h1 (z6u hb));have h4:leS (zhN b) (zhN a)=true:=zRB (z6J b) (zRB h2 (z6u ha));obtain ⟨u,hu,hd⟩:=zDx.1 h3 t ht;obtain ⟨t',ht',hd'⟩:=zDx.1 h4 u hu;have e:=zbcy t ht t' ht' (zRg hd' hd);have e2:u.Fs=t.Fs:=z4u ((zzu hb).fac u hu) ((zzu ha).fac t ht) hd (by rw [<- e]; exact hd')
  obtain ⟨u',_,_,rfl⟩:=zpH.1 hu;obtain ⟨t'',_,_,rfl⟩:=zpH.1 ht;simp only at e2;rw [<- e2]; exact hu
 exact zbf1 (zzu ha) (zzu hb) λt=>⟨key ha hb h1 h2 t,key hb ha h2 h1 t⟩
theorem zbiw {a:yC} (h:Canon a):zhN (zhN a)=zhN a:=(zbiE (zzu h) h (z6J a) (z6u h))
def zbaL (a b s:yC):Prop:=∀ l:yD,(∃ t∈s,t.Fs=l)↔(∃ t∈a,t.Fs=l)\/∃ t∈b,t.Fs=l
theorem zbaL.le {a b s c:yC} (h:zbaL a b s):leS s c=true↔leS a c=true/\leS b c=true:=by
 simp only [zDx];constructor
 ·intro hs;refine ⟨λt ht=> ?_,λt ht=> ?_⟩
  ·obtain ⟨t',ht',e⟩:=(h t.Fs).2 (.inl ⟨t,ht,rfl⟩);rw [<- e]; exact hs t' ht'
  ·obtain ⟨t',ht',e⟩:=(h t.Fs).2 (.inr ⟨t,ht,rfl⟩);rw [<- e]; exact hs t' ht'
 ·rintro ⟨h1,h2⟩ t ht
  rcases (h t.Fs).1 ⟨t,ht,rfl⟩ with ⟨u,hu,e⟩ | ⟨u,hu,e⟩
  ·rw [<- e]; exact h1 u hu
  ·rw [<- e]; exact h2 u hu
theorem zbaL.ge {a b s:yC} (h:zbaL a b s):leS a s=true/\leS b s=true:=(h.le (c:=s)).1 (zbgL s)
theorem zbe4 (a b:yD):cL a b=zbI (zbu a) (zbu b):=by unfold cL; rw [zbi]
theorem PA.canon {a:yC} (h:PA a):Canon a:=⟨h.1.imp λ{x y} hxy=>by rw [zbe4]; exact hxy,λt ht=>(h.2 t ht).2.1⟩
def zbcE (s' s:yC):Prop:=∀ t∈s',∃ u∈s,u.Fs=t.Fs
theorem z1i:∀ (s s':yC),Srs s->Srs s'->zbcE s' s->s'.length<=s.length/\zL s'<=zL s/\zbv s'<=zbv s
 | [],s',_,_,h=>by
  cases s' with
  | nil=>exact ⟨Nat.le_refl _,Nat.le_refl _,Nat.le_refl _⟩
  | cons y r=>obtain ⟨u,hu,_⟩:=h y (by simp); cases hu
 | x::r,s',hs,hs',h=>by
  have hc:=qi.1 hs;cases s' with
  | nil=>simp [zuZ,zHD]
  | cons y r'=>
   have hc':=qi.1 hs';by_cases e:x.Fs=y.Fs
   ·have hsub:zbcE r' r:=λt ht=>by
     obtain ⟨u,hu,eu⟩:=h t (by simp [ht])
     rcases qd.1 hu with rfl | hu
     ·have:=hc'.1 t ht;rw [zF9 (e.symm.trans eu)] at this; omega
     ·exact ⟨u,hu,eu⟩
    obtain ⟨h1,h2,h3⟩:=z1i r r' hc.2 hc'.2 hsub;rw [zeX,zeX,zos,zos,e];simp only [qf];exact ⟨by omega,by omega,by omega⟩
   ·have hxy:cT x y<0:=by
     obtain ⟨u,hu,eu⟩:=h y (by simp)
     rcases qd.1 hu with rfl | hu
     ·exact absurd eu e
     ·have:=hc.1 u hu;unfold cT at this ⊢; rw [<- eu]; exact this
    have hsub:zbcE (y::r') r:=λt ht=>by
     obtain ⟨u,hu,eu⟩:=h t ht;rcases qd.1 hu with rfl | hu
     ·have hut:cT u t<0:=by
       rcases qd.1 ht with rfl | ht
       ·exact hxy
       ·exact zIY hxy (hc'.1 t ht)
      rw [zF9 eu] at hut; omega
     ·exact ⟨u,hu,eu⟩
    obtain ⟨h1,h2,h3⟩:=z1i r (y::r') hc.2 hs' hsub;rw [zeX x r,zos x r];simp only [qf] at h1 ⊢;exact ⟨by omega,by omega,by omega⟩
theorem zbgU {s s':yC} (hs:Srs s) (hs':Srs s') (h:zbcE s' s) (hw:zf4 s=true):zf4 s'=true:=by
 obtain ⟨w1,w2,w3,w4⟩:=zCQ.1 hw;obtain ⟨h1,h2,h3⟩:=z1i s s' hs hs' h;refine zCQ.2 ⟨by omega,by omega,by omega,λt ht=> ?_⟩
 obtain ⟨u,hu,e⟩:=h t ht;rw [<- e]; exact w4 u hu
theorem zbim (a:yC):zbcE (zhN a) a:=λt ht=>by
 obtain ⟨u,hu,_,rfl⟩:=zpH.1 ht;exact ⟨u,hu,rfl⟩
theorem zbgv {a:yC} (h:QA a):QA (zhN a):=⟨(zzu h.pa.canon).asc.imp λ{x y} hxy=>by rw [zbe4] at hxy; exact hxy,λt ht=>by
 obtain ⟨u,hu,_,rfl⟩:=zpH.1 ht;exact ⟨by constructor <;>simp,(h.2 u hu).2⟩⟩
theorem z9t {a:yC} (h:zU a=true):zU (zhN a)=true:=zuY.2 ⟨zbgU (zVH h).1 (zbgv (zVH h)).1 (zbim a) (zbeD h),zbgv (zVH h)⟩
def nfA (a:yC):yC:=bif zU a then zhN a else []
theorem zbcl {a:yC} (h:zU a=true):nfA a=zhN a:=by unfold nfA; rw [h]; rfl
def zNN (a:yC) (i:Nat):Bool:=(List.range a.length).all λk=> !(decide (k≠i)&&dvF (a.getD k default).Fs (a.getD i default).Fs&&(!dvF (a.getD i default).Fs (a.getD k default).Fs||decide (k<i)))
def zbel (a:yC):yC:=((List.range a.length).filter (zNN a)).map λi=>⟨1,(a.getD i default).Fs⟩
theorem zbfL {a:yC} {i:Nat}:zNN a i=true↔∀ k<a.length,k≠i->dvF (a.getD k default).Fs (a.getD i default).Fs=true->dvF (a.getD i default).Fs (a.getD k default).Fs=true/\i<=k:=by
 unfold zNN;simp only [List.all_eq_true,List.mem_range,Bool.not_eq_true',Bool.and_eq_false_iff,Bool.or_eq_false_iff,decide_eq_false_iff_not,Bool.not_eq_false',Nat.not_lt];constructor
 ·intro h k hk hne hd;rcases h k hk with (h1 | h1) | h1
  ·exact absurd hne h1
  ·rw [hd] at h1; cases h1
  ·exact ⟨h1.1,h1.2⟩
 ·intro h k hk;by_cases hne:k=i
  ·exact .inl (.inl λh=>h hne)
  ·cases hd:dvF (a.getD k default).Fs (a.getD i default).Fs with
   | false=>exact .inl (.inr rfl)
   | true=>exact .inr (h k hk hne hd)
theorem z2T {τ:Type} [Inhabited τ] (p:τ->Bool):∀ a:List τ,((List.range a.length).filter λi=>p (a.getD i default)).map (λi=>a.getD i default)=a.filter p:=by
 intro a;induction a with
 | nil=>rfl
 | cons x r ih=>
  rw [qf,List.range_succ_eq_map,List.filter_cons,List.filter_cons];have h0:(x::r).getD 0 default=x:=rfl;rw [h0,List.filter_map,];have h1:((λi=>p ((x::r).getD i default)) ∘ Nat.succ)=λi=>p (r.getD i default):=by funext i; rfl
  rw [h1];cases p x with
  | true=>
   simp only [if_true,List.map_cons,List.map_map];refine congrArg (x::·) ?_;exact ih
  | false=>
   simp only [Bool.false_eq_true,if_false,List.map_map];exact ih
theorem zbbe {a:yC} (h:a.Pairwise λx y=>x.Fs≠y.Fs) {i k:Nat} (hi:i<a.length) (hk:k<a.length) (e:(a.getD i default).Fs=(a.getD k default).Fs):i=k:=by
 rcases Nat.lt_trichotomy i k with h1 | h1 | h1
 ·have:=List.pairwise_iff_getElem.1 h i k hi hk h1;rw [List.getD_eq_getElem?_getD,List.getD_eq_getElem?_getD,List.getElem?_eq_getElem hi,List.getElem?_eq_getElem hk] at e;exact absurd e this
 ·exact h1
 ·have:=List.pairwise_iff_getElem.1 h k i hk hi h1;rw [List.getD_eq_getElem?_getD,List.getD_eq_getElem?_getD,List.getElem?_eq_getElem hi,List.getElem?_eq_getElem hk] at e;exact absurd e.symm this
theorem Canon.dst {a:yC} (h:Canon a):a.Pairwise λx y=>x.Fs≠y.Fs:=h.asc.imp λ{x y} hxy e=>by rw [e,z8T.refl] at hxy; omega
theorem zbhu {a:yC} (h:Canon a) {i:Nat} (hi:i<a.length):zNN a i=zWt a (a.getD i default):=by
 rw [Bool.eq_iff_iff,zbfL,z4j];constructor
 ·intro hk u hu hd;obtain ⟨k,hkl,rfl⟩:=zSq hu;by_cases e:k=i
  ·rw [e]
  ·have:=(hk k hkl e hd).1;exact z4u (h.fac _ hu) (h.fac _ (zp hi)) hd this
 ·intro hm k hk hne hd;have e:=hm _ (zp hk) hd;exact absurd (zbbe h.dst hk hi e) hne
theorem z6h {a:yC} (h:Canon a):zbel a=zhN a:=by
 unfold zbel zhN;rw [<- z2T (zWt a) a,List.map_map]
 have:(List.range a.length).filter (zNN a)=(List.range a.length).filter λi=>zWt a (a.getD i default):=by
  refine List.filter_congr λi hi=> ?_
  exact zbhu h (List.mem_range.1 hi)
 rw [this]; rfl
theorem zbby (x:At):(zhs x).2=zcB x:=by
 unfold zhs zCb;rw [At.eta]; rfl
theorem zbg8 {x y:At} (h:zcB x=zcB y):x=y:=by
 simp only [zcB,qj,and_true] at h;have:=congrArg TO.Fs h;simp only [qj,and_true] at this;exact congrArg FO.At this
theorem zbdi {d:Nat} {x:At} (hx:zdf (zo d) x) (hd:d<=99) (y:At):znq x y=(true,decide (x=y)):=by
 unfold znq zF6;rw [At.eta,At.eta,zbby,zbby,Wy.fin_bn,znC (zQ3 hx) (by omega),cond_true,Wy.fin_k]
 have:decide (zcB x=zcB y)=decide (x=y):=by
  rw [decide_eq_decide];exact ⟨zbg8,λh=>by rw [h]⟩
 rw [this]
theorem zbli {d:Nat} (s:yD) (f:Fc) (hs:s.length<=1000000) (hf:zdf (zo d) f.At) (hd:d<=99):zcM s f=(true,s.any λg=>decide (f.Exp<=g.Exp)&&decide (f.At=g.At)):=by
 unfold zcM zjg
 have hw:zdQ=zVm (λ(g:Fc×Unit) x=>ze6 x g.1):=by
  funext x y
  unfold zdQ zki zVm z1M;rw [Fc.eta2,Fc.eta2]
 have:zda s f=IG (λ(g:Fc×Unit) x=>ze6 x g.1) (s.length+f.At.Ag.length+f.At.Items.length+(Int.ofNat s.length).toNat +Int.toNat (0:Int)+(1000:Nat)) (f,()) s:=by
  unfold zda zkM zkn;rw [hw,Fc.eta2]; rfl
 rw [Fc.eta2]
 exact zi6 (this.trans (zG4 _ _ _ _ _ (by omega) (λx _=>by
  show ze6 x f=_;unfold ze6 zAt;rw [At.eta,At.eta];simp only [Wy.fin_i,Wy.fin_bn,Wy.fin_k,zbdi hf hd,cond_true];cases decide (f.Exp<=x.Exp) <;>rfl) (by omega)))
theorem zNM {d:Nat} {s:Term} (hs:zcH (zo d) s.Fs) (hd:d<=99) {t:Term} (ht:t.Fs.length<=1000000):zfA s t=(true,dvF s.Fs t.Fs):=by
 unfold zfA zHl
 have h3:zcQ s.Fs t=(true,s.Fs.any λf=> !t.Fs.any λg=>decide (f.Exp<=g.Exp)&&decide (f.At=g.At)):=by
  unfold zcQ zjZ
  have hw:zd7=zVm (λ(g:Term×Unit) x=>zgm x g.1):=by
   funext x y
   unfold zd7 zkN zVm z1M;rw [Fc.eta2]
  have:zdi s.Fs t=IG (λ(g:Term×Unit) x=>zgm x g.1) (s.Fs.length+t.Fs.length+(Int.ofNat s.Fs.length).toNat +Int.toNat (0:Int)+(1000:Nat)) (t,()) s.Fs:=by
   unfold zdi zk3 zkE;rw [hw]; rfl
  exact zi6 (this.trans (zG4 _ _ _ _ _ (by have:=hs.1; omega) (λx hx=>by
   show zgm x t=_;unfold zgm zDW;rw [Fc.eta2,Wy.fin_bn,zbli _ _ ht (hs.2 x hx) hd,cond_true,Wy.fin_k]) (by omega)))
 rw [Wy.fin_bn,h3,cond_true,Wy.fin_k];unfold dvF;simp [List.all_eq_not_any_not]
theorem zbkW {d:Nat} {t:Term} {b:yC} (ht:t.Fs.length<=1000000) (hb:∀ u∈b,zcH (zo d) u.Fs) (hd:d<=99) (hl:b.length<=1000000):zcD b t=(true,b.any λu=>dvF u.Fs t.Fs):=by
 unfold zcD ziG;have:zei b t=IG (λ(g:Term×Unit) x=>zgQ x g.1) (b.length+t.Fs.length+(Int.ofNat b.length).toNat +Int.toNat (0:Int)+(1000:Nat)) (t,()) b:=rfl
 exact zi6 (this.trans (zG4 _ _ _ _ _ (by omega) (λx hx=>by
  show zgQ x t=_;unfold zgQ zBg;rw [Wy.fin_bn,zNM (hb x hx) hd ht,cond_true,Wy.fin_k]) (by omega)))
theorem zbgh {d:Nat} {a b:yC} (ha:zo (d+1) a) (hb:zo (d+1) b) (hd:d<=98) (sa:zL a<=4611686018427387904) (sb:zL b<=4611686018427387904):zhy a b=(true,zU a&&(zU b&&leS a b)):=by
 unfold zhy zIJ
 have h3:zcL a b=(true,a.any λt=> !b.any λu=>dvF u.Fs t.Fs):=by
  unfold zcL zjd;have:zet a b=IG (λ(g:(yC×Unit)×Unit) x=>zjA x g.1.1) (a.length+b.length+(Int.ofNat a.length).toNat +Int.toNat (0:Int)+(1000:Nat)) ((b,()),()) a:=rfl
  exact zi6 (this.trans (zG4 _ _ _ _ _ (by have:=ha.1; omega) (λx hx=>by
   show zjA x b=_;unfold zjA zEJ;rw [Wy.fin_bn,zbkW (ha.2 x hx).1 hb.2 (by omega) hb.1,cond_true,Wy.fin_k]) (by omega)))
 rw [Wy.fin_bn,zQ8 ha (by omega) sa]
 simp only [Wy.fin_i,Wy.fin_bn,Wy.fin_k,zQ8 hb (by omega) sb,h3,cond_true]
 have e:(!a.any λt=> !b.any λu=>dvF u.Fs t.Fs)=leS a b:=by unfold leS; simp [List.all_eq_not_any_not]
 rw [e];cases zU a <;>cases zU b <;>rfl
def z0x (a:yC) (l:yG):yC×Int:=opR (zU a&&l.all λb=>zU b.To) (ofS (zcu (toA l) a []))
theorem zbk5 {l:yG} (h:okB l):zcv l=(true, !l.all λb=>zU b.To):=by
 unfold zcv zim;have:zd6 l=IG (λ(_:Unit) x=>ziM x) (l.length+(Int.ofNat l.length).toNat +Int.toNat (0:Int)+(1:Nat)) () l:=rfl
 rw [zi6 (P:=λb=> !zU b.To) (this.trans (zG4 _ _ _ _ _ (by have:=h.1; omega) (λx hx=>by
  unfold ziM zzM;rw [Wy.fin_bn,(h.2 x hx).valid]; rfl) (by omega)))]
 simp [List.all_eq_not_any_not]
theorem zbh9 {a:yC} {l:yG} (h:okB l):∀ (n i:Nat),l.length<i+n->i<=l.length->zAM n a l i=(true,if ((l.drop i).all λb=>zU b.To)=true then .inr (a,l) else .inl 1)
 | 0,i,h1,h2=>by omega
 | n+1,i,h1,h2=>by
  have hlen:=h.1;show (zA1 a l i).ev (λx y=>zAM n x.1 x.2.1 x.2.2.1) (λr=>(true,r)) (false,.inl default)=_
  unfold zA1;by_cases hi:i<l.length
  ·have hb:=h.2 _ (zp hi);rw [zbC hi,List.all_cons];simp only [Wy.ev_i,Wy.ev_k,Wy.ev_h,Wy.ev_bn,Wy.ev_d,tT,hi,hb.rvalid];cases zU (l.getD i default).To with
   | false=>rfl
   | true=>
    simp only [Bool.not_true,cond_false,Bool.true_and,zN (show i<4611686018427387904 by omega)]
    exact zbh9 h n (i+1) (by omega) (by omega)
  ·simp only [Wy.ev_i,Wy.ev_k,Wy.ev_h,Wy.ev_bn,Wy.ev_d,tT,hi];rw [zdj hi]; rfl
theorem z7U {a:yC} {l:yG} (oa:okA a) (ha:zU a=true->zb0 a) (h:okB l):zik a l=(true,z0x a l):=by
 have key:zU a=true->zCS a l=(true,ofS (zcu (toA l) a [])):=λhv=>((zbdC h 1000).1 9 a (zU3 hv (Nat.le_refl 9)) (by omega) oa.2.1 (ha hv) (by omega)).1
 unfold zik zDV z0x;simp only [Wy.fin_i,Wy.fin_bn,Wy.fin_k,oa.valid,cond_true,zbk5 h];cases hv:zU a with
 | false=>rfl
 | true=>
  cases (l.all λb=>zU b.To) with
  | false=>rfl
  | true=>
   simp only [Bool.not_true,cond_false,key hv,cond_true];rfl
theorem z78 {a:yC} {l:yG} (oa:okA a) (ha:zU a=true->zb0 a) (h:okB l):zFm a l=(true,z0x a l):=by
 have key:zU a=true->zW4 a l=(true,ofS (zcu (toA l) a [])):=λhv=>((zba2 h 1000).1 9 a (zU3 hv (Nat.le_refl 9)) (by omega) oa.2.1 (ha hv) (by omega)).1
 unfold zFm zK2 z0x;have h4:=zbh9 (a:=a) h (a.length+l.length+Int.toNat (0:Int)+(1:Nat)) 0 (by omega) (by omega)
 rw [show ((0:Nat):Int)=(0:Int) from rfl,List.drop_zero] at h4
 simp only [Wy.fin_i,Wy.fin_bn,Wy.fin_k,oa.rvalid,cond_true,h4];cases hv:zU a with
 | false=>rfl
 | true=>
  cases (l.all λb=>zU b.To) with
  | false=>rfl
  | true=>
   simp only [if_true,isL,getR,Bool.not_true,cond_false,key hv,cond_true];rfl
theorem zbah {a:yC} {l:yG} (oa:okA a) (ha:zU a=true->zb0 a) (h:okB l):zik a l=(true,z0x a l)/\zFm a l=(true,z0x a l):=⟨z7U oa ha h,z78 oa ha h⟩
def GP {α:Type} (P:α->Prop):Int⊕α->Prop
 | .inl _=>True
 | .inr a=>P a
theorem zHN {α β:Type} {P:α->Prop} {Q:β->Prop} {x:Int⊕α} {k:α->Int⊕β} (hx:GP P x) (hk:∀ a,P a->GP Q (k a)):GP Q (sbd x k):=by
 cases x with
 | inl e=>exact trivial
 | inr a=>exact hk a hx
theorem z1E {P:yC->Prop} {r:yC×Int} (h:P r.1):GP P (opS r):=by
 unfold opS;split
 ·exact h
 ·exact trivial
theorem zzT {a:yC}:zb0 a↔∀ t∈a,∀ f∈t.Fs,zz9 f.At:=by
 rw [zFF];exact ⟨λh t ht=>zum.1 (h t ht),λh t ht=>zum.2 (h t ht)⟩
theorem zEV:zb0 []:=zFF.2 λt ht=>by cases ht
theorem zVo (c:Int):zb0 [⟨c,[]⟩]:=zzT.2 λt ht f hf=>by
 rw [qh] at ht; subst ht; cases hf
theorem z1J {x:At} (h:zz9 x):zb0 (zcB x):=zzT.2 λt ht f hf=>by
 simp only [zcB,qh] at ht; subst ht;rw [qh] at hf; subst hf; exact h
theorem zTA {a:yC} (h:zb0 a):zb0 (zoH a).1:=by
 unfold zoH;cases zf4 a with
 | true=>exact h
 | false=>exact zEV
theorem z6O {ok:Bool} {r:yC×Int} (h:ok=true->zb0 r.1):zb0 (opR ok r).1:=by
 cases ok with
 | true=>exact h rfl
 | false=>exact zEV
theorem zbj8 {a b:yC} (hs:Srs a) (ha:zb0 a) (hb:zb0 b):zb0 (zgy a b):=zzT.2 λt ht f hf=>by
 obtain ⟨x,hx,e⟩:=zT1 b a hs ht;rw [e] at hf;rcases hx with hx | hx
 ·exact zzT.1 ha x hx f hf
 ·exact zzT.1 hb x hx f hf
theorem zbil {a b:yC} (ha:zb0 a) (hb:zb0 b):zb0 (zqO a b):=zzT.2 λt ht f hf=>by
 obtain ⟨x,hx,e⟩:=zT1 (zfw a b) [] List.Pairwise.nil ht;rw [e] at hf;rcases hx with hx | hx
 ·cases hx
 ·obtain ⟨u,hu,v,hv,rfl⟩:=z84 hx;obtain ⟨y,hy,e⟩:=zvt hf;rw [e];rcases hy with hy | hy
  ·exact zzT.1 ha u hu y hy
  ·exact zzT.1 hb v hv y hy
theorem zbkJ {a b:yC} (ha:zb0 a) (hb:zb0 b):zb0 (zFo a b).1:=z6O λhv=>by
 rw [qc] at hv;exact zTA (zbj8 (zVW hv.1).1 ha hb)
theorem zbkr {a b:yC} (ha:zb0 a) (hb:zb0 b):zb0 (zEl a b).1:=z6O λ_=>zTA (zbil ha hb)
theorem z5l {k:Int} {l:yA} (h:∀ a∈l,zb0 a):zz9 ⟨k,⟨0,0⟩,l,0,[],0,⟨0,0,ByteArray.mk #[]⟩⟩:=(zDj _).2 ⟨by simp,zzo.2 h,zvB.2 λw hw=>by cases hw⟩
theorem zbkt {a b:yC} (ha:zb0 a) (hb:zb0 b):zb0 (zOe a b).1:=z6O λ_=>by
 split
 ·exact ha
 ·split
  ·exact zEV
  ·refine zTA (z1J (z5l λx hx=> ?_))
   simp only [qd,List.not_mem_nil,or_false] at hx;rcases hx with rfl | rfl
   ·exact ha
   ·exact hb
theorem zbjG {a:yC} (ha:zb0 a):zb0 (zPk a).1:=z6O λ_=>by
 split
 ·exact ha
 ·split
  ·exact zVo 1
  ·refine zTA (z1J (z5l λx hx=> ?_))
   rw [qh] at hx; subst hx; exact ha
theorem zbks {a:yC} (ha:zb0 a):zb0 (zOV a).1:=z6O λ_=>by
 split
 ·exact zVo 1
 ·split
  ·exact zEV
  ·refine zTA (z1J (z5l λx hx=> ?_))
   rw [qh] at hx; subst hx; exact ha
theorem zbiA {f o:Int} {l:yE} {b:Value} (hl:l.length<40) (h:∀ w∈l,zb0 w.Ann):zb0 (zzp f l o b).1:=by
 unfold zzp;cases (!(zEf f l o b&&l.all λw=>zU w.Ann)) with
 | true=>exact zEV
 | false=>
  cases decide (0<(zeo l).length) with
  | true=>
   refine zTA (z1J ((zDj _).2 ⟨?_,zzo.2 λa ha=>(by cases ha),zvB.2 λw hw=>h w (zM6 hw).1⟩))
   have h1:(zeo l).length=(l.filter zn1).length:=(zoh _ _).length_eq;have h2:=List.length_filter_le zn1 l;show (zeo l).length<40;omega
  | false=>
   cases (f==0&&zSo o (zeK 0 b.Int)) with
   | true=>exact zVo 1
   | false=>exact zEV
theorem zbgn {b:yC} (hb:zb0 b):∀ (n:Nat) (p:yC),zb0 p->GP zb0 (zC0 b n p)
 | 0,p,hp=>hp
 | n+1,p,hp=>zHN (z1E (zbkr hp hb)) λq hq=>zbgn hb n q hq
theorem zbjD (n:Int):zb0 (zvm n):=by
 unfold zvm;split
 ·exact zEV
 ·exact zVo _
theorem zbdr {l:yA} (h:∀ a∈l,zb0 a) (i:Nat):zb0 (l.getD i default):=by
 by_cases hi:i<l.length
 ·exact h _ (zp hi)
 ·rw [List.getD_eq_getElem?_getD,List.getElem?_eq_none (by omega)]; exact zEV
section
variable {to:RowID->yC} (ht:∀ r,zb0 (to r))
include ht
mutual
theorem zbe3:∀ x:At,zz9 x->GP zb0 (zeJ to x)
 | ⟨k,r,a,f,i,o,b⟩=>λh=>by
  obtain ⟨h1,h2,h3⟩:=(zDj _).1 h;rw [zeJ];split
  ·exact ht r
  ·refine zHN (z5L a (zzo.1 h2)) λxs hxs=> ?_
   have g0:=zbdr hxs 0;have g1:=zbdr hxs 1;split
   ·exact z1E (zbkt g0 g1)
   ·split
    ·exact z1E (zbjG g0)
    ·split
     ·exact z1E (zbks g0)
     ·refine zHN (z3Q i (zvB.1 h3)) λis his=>z1E (zbiA ?_ his.2)
      rw [his.1]; exact h1
theorem zWW:∀ l:yD,(∀ f∈l,zz9 f.At)->∀ p,zb0 p->GP zb0 (zdz to l p)
 | [],_,p,hp=>by rw [zdz]; exact hp
 | ⟨x,e⟩::r,h,p,hp=>by
  rw [zdz];exact zHN (zbe3 x (h ⟨x,e⟩ (by simp))) λb hb=>zHN (zbgn hb _ p hp) λq hq=>zWW r (λf hf=>h f (by simp [hf])) q hq
theorem zZd:∀ a:yC,(∀ t∈a,∀ f∈t.Fs,zz9 f.At)->∀ s,zb0 s->GP zb0 (zcu to a s)
 | [],_,s,hs=>by rw [zcu]; exact hs
 | ⟨c,fs⟩::r,h,s,hs=>by
  rw [zcu];exact zHN (zWW fs (h ⟨c,fs⟩ (by simp)) _ (zbjD c)) λp hp=>zHN (z1E (zbkJ hs hp)) λq hq=>zZd r (λt ht=>h t (by simp [ht])) q hq
theorem z5L:∀ l:yA,(∀ a∈l,zb0 a)->GP (λr:yA=>∀ a∈r,zb0 a) (zjN to l)
 | [],_=>by rw [zjN]; exact λa ha=>by cases ha
 | a::r,h=>by
  rw [zjN];refine zHN (zZd a (zzT.1 (h a (by simp))) [] zEV) λb hb=>zHN (z5L r λc hc=>h c (by simp [hc])) λl hl=> ?_
  intro x hx;rcases qd.1 hx with rfl | hx
  ·exact hb
  ·exact hl x hx
theorem z3Q:∀ l:yE,(∀ w∈l,zb0 w.Ann)->GP (λr:yE=>r.length=l.length/\∀ w∈r,zb0 w.Ann) (zgj to l)
 | [],_=>by rw [zgj]; exact ⟨rfl,λa ha=>by cases ha⟩
 | ⟨v,a⟩::r,h=>by
  rw [zgj];refine zHN (zZd a (zzT.1 (h ⟨v,a⟩ (by simp))) [] zEV) λb hb=>zHN (z3Q r λc hc=>h c (by simp [hc])) λl hl=> ?_
  refine ⟨by simp [hl.1],λx hx=> ?_⟩
  rcases qd.1 hx with rfl | hx
  ·exact hb
  ·exact hl.2 x hx
end
end
section
variable {σ:At->yC}
end
theorem okA.fine {a:yC} (oa:okA a):zo (11+1) a:=oa.1.1
theorem okA.fac {a:yC} (oa:okA a):∀ t∈a,zcH (zo 11) t.Fs:=λt ht=>oa.fine.2 t ht
theorem okA.len {a:yC} (oa:okA a):a.length<=1000000:=oa.fine.1
theorem zbdG {a b:yC} (oa:okA a) (ob:okA b):zhy a b=(true,zU a&&(zU b&&leS a b)):=zbgh oa.fine ob.fine (by omega) oa.1.2 ob.1.2
theorem zbiP (c:Nat->Bool) (n:Nat):zfk c n 0=(List.range n).all c:=by
 rw [Bool.eq_iff_iff,zev,List.all_eq_true];constructor
 ·intro h k hk; exact h k (by omega) (by have:=List.mem_range.1 hk; omega)
 ·intro h k _ hk; exact h k (List.mem_range.2 (by omega))
def kpP (a:yC) (i:Nat) (t:Term) (k:Nat):Bool:= !(decide (k≠i)&&dvF (a.getD k default).Fs t.Fs&&(!dvF t.Fs (a.getD k default).Fs||decide (k<i)))
theorem zbhV (a:yC) (ha:∀ t∈a,zcH (zo 11) t.Fs) (hl:a.length<=1000000) (i:Nat) (hi:i<a.length) (o:yC) (t:Term) (ht:zcH (zo 11) t.Fs):
  ∀ (n k m:Nat),m=a.length - k->a.length<k+n->k<=a.length->zxv n a i a (a.length:Int) i a (a.length:Int) k o t=(true,bif zfk (kpP a i t) m k then .inr (a,a,(a.length:Int),(i:Int),o,t) else .inl (a,a,(a.length:Int),(i:Int),o))
 | 0,k,m,hm,h,h2=>by omega
 | n+1,k,m,hm,h,h2=>by
  show (zwN a i a (a.length:Int) i a (a.length:Int) k o t).ev (λx y=>zxv n x.1 x.2.2.1 x.2.2.2.2.1 x.2.2.2.2.2.1 x.2.2.2.2.2.2.1 x.2.2.2.2.2.2.2.1 x.2.2.2.2.2.2.2.2.1 x.2.2.2.2.2.2.2.2.2.1 y.1 y.2.1) (λr=>(true,r)) (false,.inl default)=_
  unfold zwN;by_cases hk:k<a.length
  ·obtain ⟨m',rfl⟩:∃ m',m=m'+1:=⟨m - 1,by omega⟩
   have key:=zbhV a ha hl i hi o t ht n (k+1) m' (by omega) (by omega) (by omega)
   have hu:=ha _ (zp hk);simp only [Wy.ev_i,Wy.ev_k,Wy.ev_h,Wy.ev_bn,Wy.ev_d,tT,hk,zbjb,zNM hu (by omega) ht.1,zNM ht (by omega) hu.1,zN (show k<4611686018427387904 by omega),key]
   have e:zfk (kpP a i t) (m'+1) k=(kpP a i t k&&zfk (kpP a i t) m' (k+1)):=rfl;rw [e];unfold kpP;by_cases hki:k≠i
   ·rw [decide_eq_true hki];cases dvF (a.getD k default).Fs t.Fs with
    | false=>rfl
    | true=>
     cases dvF t.Fs (a.getD k default).Fs with
     | false=>rfl
     | true=>
      by_cases hlt:k<i
      ·rw [decide_eq_true hlt]; rfl
      ·rw [decide_eq_false hlt]; rfl
   ·rw [decide_eq_false hki]; rfl
  ·have hm0:m=0:=by omega
   subst hm0;simp only [Wy.ev_i,Wy.ev_k,Wy.ev_h,Wy.ev_bn,Wy.ev_d,tT,hk];rfl
theorem zbeZ (a:yC) (i:Nat):zNN a i=zfk (kpP a i (a.getD i default)) a.length 0:=(zbiP _ _).symm
theorem zbfn {n i:Nat} (h:i<n):(List.range n).getD i default=i:=by
 rw [List.getD_eq_getElem?_getD,List.getElem?_range h]; rfl
theorem zbe0 {n i:Nat} (h:i<n):(List.range n).drop i=i::(List.range n).drop (i+1):=by
 have:=zbC (l:=List.range n) (i:=i) (by simpa using h)
 rwa [zbfn h] at this
def z5s (keep:Nat->Bool) (a:yC) (i:Nat):yC:=(((List.range a.length).drop i).filter keep).map λi=>⟨1,(a.getD i default).Fs⟩
theorem zbij {keep:Nat->Bool} {a:yC} {i:Nat} (h:i<a.length):z5s keep a i=(if keep i=true then [⟨1,(a.getD i default).Fs⟩] else [])++z5s keep a (i+1):=by
 unfold z5s;rw [zbe0 h,List.filter_cons];split <;>rfl
theorem zbin {keep:Nat->Bool} {a:yC} {i:Nat} (h:¬ i<a.length):z5s keep a i=[]:=by
 unfold z5s;rw [zdj (by simpa using h)]; rfl
theorem zbfd (a:yC) (ha:∀ t∈a,zcH (zo 11) t.Fs) (hl:a.length<=1000000):
  ∀ (n i:Nat) (o:yC),a.length<i+n->i<=a.length->o.length<=i->zw8 n a a (a.length:Int) i o=(true,o++z5s (zNN a) a i)
 | 0,i,o,h,h2,h3=>by omega
 | n+1,i,o,h,h2,h3=>by
  show (zxh a a (a.length:Int) i o).ev (λx y=>zw8 n x.1 x.2.2.1 x.2.2.2.1 x.2.2.2.2.1 y.1) (λr=>(true,r)) (false,default)=_
  unfold zxh;by_cases hi:i<a.length
  ·have e6:=zbhV a ha hl i hi o (a.getD i default) (ha _ (zp hi)) (a.length+i+a.length+a.length+i+a.length+a.length+Int.toNat (0:Int)+o.length+(a.getD i default).Fs.length+1000) 0 a.length (by omega) (by omega) (by omega)
   rw [show ((0:Nat):Int)=(0:Int) from rfl, <- zbeZ] at e6
   simp only [Wy.ev_i,Wy.ev_k,Wy.ev_h,Wy.ev_bn,Wy.ev_d,tT,hi,e6];rw [zbij hi];cases zNN a i with
   | true=>
    have r1:decide ((o.length+([TO.mk (1:Int) (a.getD i default).Fs]:yC).length)*32<=zO)=true:=decide_eq_true (zbbh (by simp; omega) (by omega))
    simp only [isL,getR,cond_true,cond_false,r1,zN (show i<4611686018427387904 by omega)]
    rw [zbfd a ha hl n (i+1) _ (by omega) (by omega) (by simp; omega)]
    have r2:(o.length+1)*32<=zO:=zbbh (by omega) (by omega)
    simp [r2]
   | false=>
    simp only [isL,getL,cond_true,cond_false,zN (show i<4611686018427387904 by omega)]
    rw [zbfd a ha hl n (i+1) _ (by omega) (by omega) (by omega)]
    simp
  ·simp only [Wy.ev_i,Wy.ev_k,Wy.ev_h,Wy.ev_bn,Wy.ev_d,tT,hi,zbin hi];simp
theorem zbfH (a:yC):z5s (zNN a) a 0=zbel a:=rfl
theorem z69 {a:yC} (ha:∀ t∈a,zcH (zo 11) t.Fs) (hl:a.length<=1000000):zli a=(true,zbel a):=by
 unfold zli zGS;have e:=zbfd a ha hl (a.length+a.length+a.length+Int.toNat (0:Int)+0+1000) 0 [] (by omega) (by omega) (by simp)
 rw [show ((0:Nat):Int)=(0:Int) from rfl,List.nil_append,zbfH] at e
 rw [Wy.fin_bn];simp only [tT,e,Wy.fin_k]
theorem zbip (a:yC):(zhN a).length<=a.length:=by
 unfold zhN;rw [List.length_map]; exact List.length_filter_le _ _
theorem z83 {a:yC} (oa:okA a) (hv:zU a=true):okA (zhN a):=by
 obtain ⟨_,hl,ht⟩:=znQ hv oa.2.1;refine z1I (by have:=zbip a; omega) λt h=> ?_
 obtain ⟨u,hu,_,rfl⟩:=zpH.1 h;have g:=(ht u hu).1;exact ⟨⟨by show (1:Int)<=1; omega,by show (1:Int)<=1152921504606846976; omega⟩,g.2.1,g.2.2⟩
theorem zbgd {a:yC} (h:zb0 a):zb0 (zhN a):=zzT.2 λt ht f hf=>by
 obtain ⟨u,hu,_,rfl⟩:=zpH.1 ht;exact zzT.1 h u hu f hf
theorem zbjk {a:yC} (hv:zU a=true):z0x a []=(a,0):=by
 unfold z0x opR;rw [hv];show ofS (zcu (toA []) a [])=_;rw [show toA []=zv4 from rfl,zbjQ hv]; rfl
theorem zbfy {a:yC} (oa:okA a) (hv:zU a=true) (hs:zb0 a):zp7 a=(true,a):=by
 unfold zp7 zIs;rw [Wy.fin_bn,(zbah oa (λ_=>hs) ⟨by simp,λb hb=>by cases hb⟩).1,cond_true,Wy.fin_k,zbjk hv]
theorem zbiF {a:yC} (h:zU a=false):nfA a=[]:=by unfold nfA; rw [h]; rfl
theorem z9H {a:yC} (oa:okA a) (hs:zU a=true->zb0 a):zkc a=(true,nfA a):=by
 unfold zkc zIl;rw [Wy.fin_bn,oa.valid,cond_true,Wy.fin_i];cases hv:zU a with
 | false=>rw [zbiF hv]; rfl
 | true=>
  rw [Bool.not_true,cond_false,Wy.fin_bn,z69 oa.fac oa.len,cond_true,z6h (zVW hv).canon,Wy.fin_bn,zbfy (z83 oa hv) (z9t hv) (zbgd (hs hv)),cond_true,Wy.fin_k,zbcl hv]
theorem zbaG {a:yC} (oa:okA a):zlh a=(true,zU a&&decide (zhN a=a)):=by
 unfold zlh zD2;rw [Wy.fin_bn,oa.valid,cond_true,Wy.fin_i];cases hv:zU a with
 | false=>rfl
 | true=>
  rw [cond_true,Wy.fin_bn,z69 oa.fac oa.len,cond_true,z6h (zVW hv).canon,Wy.fin_bn,znC (z83 oa hv).1.1 (by omega),cond_true,Wy.fin_k,Bool.true_and]
theorem eqA {a:yC} (oa:okA a) (b:yC):ze7 a b=(true,decide (a=b)):=znC oa.1.1 (by omega) b
theorem zblv {n:Nat} (hn:n<=1000) {a:yC} (ha:zbaW a):∃ q,zC3 (n:Int) [a]=(true,q)/\(q=true->okA a/\ze4 a<=n):=by
 obtain ⟨q,h1,h2⟩:=zbjM n hn [a] (by simp) (λx hx=>by rw [qh] at hx; subst hx; exact ha)
 exact ⟨q,h1,λh=>⟨zbik hn (h2 h a (by simp)) ha,(h2 h a (by simp)).2⟩⟩
end Go.Proofs.YtljlfiomikifjaaGreatDoor
/- The law of the normal form. -/
set_option maxRecDepth 100000
namespace Go.Proofs.YtljlfiomikifjaaGreatDoor
open Go Go.Ab
theorem zbi4 {a:yC} {n:Nat} (h:ze4 a<=n) (hn:n<=78):zU a=true->zb0 a:=λhv=>z4m 100 a hv (by omega)
end Go.Proofs.YtljlfiomikifjaaGreatDoor
/- The law of the antichain. -/
set_option maxRecDepth 100000
namespace Go.Proofs.YtljlfiomikifjaaGreatDoor
open Go Go.Ab
theorem zbh5 (a x:yC) (i:Nat) (hi:i<x.length) (ha:∀ u∈a,zcH (zo 11) u.Fs) (hl:a.length<=1000000):
  ∀ (n k:Nat) (found:Bool),a.length<k+n->k<=a.length->zm4 n a i found k x=(true,(a,(i:Int),(found||(a.drop k).any λu=>zbI (zbu u.Fs) (zbu (x.getD i default).Fs)==0),x))
 | 0,k,found,h,h2=>by omega
 | n+1,k,found,h,h2=>by
  show (zmZ a i found k x).ev (λx y=>zm4 n x.1 x.2.2.1 x.2.2.2.1 x.2.2.2.2.1 y.1) (λr=>(true,r)) (false,default)=_
  unfold zmZ;by_cases hk:k<a.length
  ·have key:=λf'=>zbh5 a x i hi ha hl n (k+1) f' (by omega) (by omega)
   simp only [Wy.ev_i,Wy.ev_k,Wy.ev_h,Wy.ev_bn,Wy.ev_d,tT,hk,hi,znn (ha _ (zp hk)) (by omega:11<=99),zN (show k<4611686018427387904 by omega),key]
   rw [zbC hk,List.any_cons];cases found <;>simp
  ·simp only [Wy.ev_i,Wy.ev_k,Wy.ev_h,Wy.ev_bn,Wy.ev_d,tT,hk,zdj hk];simp
theorem zbhW (a x:yC) (i:Nat) (hi:i<x.length) (hx:∀ u∈x,zcH (zo 11) u.Fs) (hl:x.length<=1000000) (h:∀ k<x.length,k≠i->dvF (x.getD k default).Fs (x.getD i default).Fs=false):
  ∀ (n k:Nat),x.length<k+n->k<=x.length->zm3 n a i k x=(true,.inr (a,(i:Int),x))
 | 0,k,h1,h2=>by omega
 | n+1,k,h1,h2=>by
  show (zm0 a i k x).ev (λx y=>zm3 n x.1 x.2.2.1 x.2.2.2.1 y.1) (λr=>(true,r)) (false,.inl default)=_
  unfold zm0;by_cases hk:k<x.length
  ·have key:=zbhW a x i hi hx hl h n (k+1) (by omega) (by omega)
   by_cases e:k=i
   ·have e':((k:Int) != (i:Int))=false:=by rw [e]; simp
    simp only [Wy.ev_i,Wy.ev_k,Wy.ev_h,Wy.ev_bn,Wy.ev_d,tT,hk,e',zN (show k<4611686018427387904 by omega),key]
   ·have e':((k:Int) != (i:Int))=true:=by rw [bne_iff_ne]; omega
    simp only [Wy.ev_i,Wy.ev_k,Wy.ev_h,Wy.ev_bn,Wy.ev_d,tT,hk,hi,e',zN (show k<4611686018427387904 by omega),key,zNM (hx _ (zp hk)) (by omega:11<=99) (hx _ (zp hi)).1,h k hk e]
  ·simp only [Wy.ev_i,Wy.ev_k,Wy.ev_h,Wy.ev_bn,Wy.ev_d,tT,hk]
theorem zbj3 (a x:yC) (ha:∀ u∈a,zcH (zo 11) u.Fs) (hal:a.length<=1000000) (hx:∀ u∈x,zcH (zo 11) u.Fs) (hl:x.length<=1000000)
  (h:∀ i<x.length,(a.any λu=>zbI (zbu u.Fs) (zbu (x.getD i default).Fs)==0)=true/\(x.getD i default).Cf=1/\∀ k<x.length,k≠i->dvF (x.getD k default).Fs (x.getD i default).Fs=false):
  ∀ (n i:Nat),x.length<i+n->i<=x.length->znR n a i x=(true,.inr (a,x))
 | 0,i,h1,h2=>by omega
 | n+1,i,h1,h2=>by
  show (znU a i x).ev (λx y=>znR n x.1 x.2.2.1 y.1) (λr=>(true,r)) (false,.inl default)=_
  unfold znU;by_cases hi:i<x.length
  ·obtain ⟨k1,k2,k3⟩:=h i hi;have e11:=zbh5 a x i hi ha hal (a.length+Int.toNat (i:Int)+Int.toNat (0:Int)+x.length+(1:Nat)) 0 false (by omega) (by omega)
   rw [show ((0:Nat):Int)=(0:Int) from rfl,List.drop_zero,Bool.false_or,k1] at e11
   have e17:=zbhW a x i hi hx hl k3 (a.length+Int.toNat (i:Int)+Int.toNat (0:Int)+x.length+(1:Nat)) 0 (by omega) (by omega)
   rw [show ((0:Nat):Int)=(0:Int) from rfl] at e17
   have key:=zbj3 a x ha hal hx hl h n (i+1) (by omega) (by omega)
   have e1:((x.getD i default).Cf != (1:Int))=false:=by rw [k2]; rfl
   rw [Int.toNat_natCast] at e11 e17;simp only [Wy.ev_i,Wy.ev_k,Wy.ev_h,Wy.ev_bn,Wy.ev_d,tT,hi,e11,e17,e1,isL,getR,zN (show i<4611686018427387904 by omega),key]
  ·simp only [Wy.ev_i,Wy.ev_k,Wy.ev_h,Wy.ev_bn,Wy.ev_d,tT,hi]
theorem z6e (a:yC) (ha:zbaW a):zfR a=(true,true):=by
 obtain ⟨q,q1,q2⟩:=zblv (n:=60) (by omega) ha
 have l5:okA a->zU a=true->zb0 a->zxz 1 a=(true,true):=λoa va sa=>by
  show (znV a).ev (zC zn6 default 0) (λr=>(true,r)) (false,default)=_
  unfold znV;have ox:=z83 oa va;have hc:=(zVW va).canon;have hcx:=zzu hc;have vx:=z9t va
  have e7:=zbj3 a (zhN a) oa.fac oa.len ox.fac ox.len (λi hi=>by
   have hm:(zhN a).getD i default∈zhN a:=zp hi;obtain ⟨u,u1,u2,u3⟩:=zpH.1 hm;refine ⟨List.any_eq_true.2 ⟨u,u1, ?_⟩,by rw [u3],λk hk hne=> ?_⟩
   ·rw [u3, <- zbe4,z8T.refl]; rfl
   ·cases hd:dvF ((zhN a).getD k default).Fs ((zhN a).getD i default).Fs with
    | false=>rfl
    | true=>exact absurd (zbbe hcx.dst hk hi (zbcy _ hm _ (zp hk) hd)) hne) (a.length+Int.toNat (0:Int)+(zhN a).length+(1:Nat)) 0 (by omega) (by omega)
  rw [show ((0:Nat):Int)=(0:Int) from rfl] at e7
  simp only [Wy.ev_i,Wy.ev_bn,Wy.ev_k,z9H oa (λ_=>sa),zbcl va,e7,isL,getR,zbdG oa ox,zbdG ox oa,va,vx,z6u hc,z6J,Bool.and_self,zbaG ox,zbiw hc,decide_true,z9H ox (λ_=>zbgd sa),zbcl vx,eqA ox,cond_true,cond_false]
 have l3:zxp 1 a=(true,true):=by
  show (znN a).ev (zC znY default 0) (λr=>(true,r)) (false,default)=_
  unfold znN;replace q1:zC3 (60:Int) [a]=(true,q):=q1;simp only [Wy.ev_i,Wy.ev_bn,Wy.ev_k,q1,cond_true];cases q with
  | false=>rfl
  | true=>
   obtain ⟨oa,wa⟩:=q2 rfl;simp only [oa.valid,Bool.not_true,cond_false,cond_true];cases va:zU a with
   | false=>rfl
   | true=>
    rw [l5 oa va (zbi4 wa (by omega) va)]
    rfl
 unfold zfR zyO;rw [Wy.fin_bn,l3]; rfl
end Go.Proofs.YtljlfiomikifjaaGreatDoor
end
