/- Texts of this claim, joined (the program, its functions in plain words, and what they compute). -/
import Derived.Test.YtljlfiomikifjaaGreatDoorGC11
set_option autoImplicit false
set_option linter.unusedVariables false
set_option linter.unusedSectionVars false
set_option linter.unusedSimpArgs false
set_option maxRecDepth 1000000
set_option maxHeartbeats 0
/- Without bindings substitution returns a valid annotation as it is. -/
noncomputable section
namespace Go.Proofs.YtljlfiomikifjaaGreatDoor
open Go Go.Ab
theorem zC7 {a:yC}:zgb a=true↔a.length<=512/\zbt a<=8/\zP a<=4096/\∀ t∈a,t.Fs.length<=64/\∀ f∈t.Fs,f.Exp<=64/\f.At.Items.length<=1024:=by
 refine ⟨zuL,λ⟨h1,h2,h3,h4⟩=> ?_⟩
 unfold zgb;simp only [qc,qe];refine ⟨⟨⟨h1,h2⟩,h3⟩,List.all_eq_true.2 λt ht=> ?_⟩
 obtain ⟨h5,h6⟩:=h4 t ht;unfold zE7;rw [Bool.not_eq_true',Bool.or_eq_false_iff];refine ⟨by simp; omega, ?_⟩
 rw [List.any_eq_false];intro f hf;obtain ⟨h7,h8⟩:=h6 f hf;simp;exact ⟨h7,h8⟩
theorem z6y:∀ a b:yC,zP (a++b)=zP a+zP b
 | [],b=>by rw [zuw]; simp
 | t::r,b=>by rw [List.cons_append,zeS,zeS,z6y r b]; omega
theorem z5W:∀ a b:yC,zbt (a++b)=max (zbt a) (zbt b)
 | [],b=>by rw [zHF]; simp
 | t::r,b=>by rw [List.cons_append,zof,zof,z5W r b]; omega
theorem zJW:∀ a b:yD,zbM (a++b)=zbM a+zbM b
 | [],b=>by rw [zjq]; simp
 | t::r,b=>by rw [List.cons_append,zdo,zdo,zJW r b]; omega
theorem zJQ:∀ a b:yD,zdH (a++b)=max (zdH a) (zdH b)
 | [],b=>by rw [zru]; simp
 | t::r,b=>by rw [List.cons_append,zj9,zj9,zJQ r b]; omega
structure FB (l:yD):Prop where
 len:l.length<=64
 nes:zdH l<=8
 siz:1+l.length+zbM l<=4096
 fs:∀ f∈l,f.Exp<=64/\f.At.Items.length<=1024
theorem FB.wi {l:yD} (h:FB l) (c:Int):zgb [⟨c,l⟩]=true:=zC7.2 ⟨by simp,by rw [zof,zHF]; have:=h.nes; simp only; omega,by rw [zeS,zuw]; have:=h.siz; simp only; omega,λt ht=>by
 rw [qh] at ht; subst ht; exact ⟨h.len,h.fs⟩⟩
theorem FB.of {a:yC} (h:zgb a=true) {t:Term} (ht:t∈a):FB t.Fs:=by
 obtain ⟨h1,h2,h3,h4⟩:=zC7.1 h;obtain ⟨h5,h6⟩:=h4 t ht;refine ⟨h5,Nat.le_trans (z6A ht) h2, ?_,h6⟩
 have key:∀ {a:yC},t∈a->1+t.Fs.length+zbM t.Fs<=zP a:=by
  intro a;induction a with
  | nil=>intro h; cases h
  | cons u r ih=>
   intro h;rw [zeS];rcases qd.1 h with rfl | h
   ·omega
   ·have:=ih h; omega
 have:=key ht;omega
theorem FB.app {a b:yD} (h:FB (a++b)):FB a/\FB b:=by
 obtain ⟨h1,h2,h3,h4⟩:=h;rw [qg] at h1 h3;rw [zJQ] at h2;rw [zJW] at h3;exact ⟨⟨by omega,by omega,by omega,λf hf=>h4 f (by simp [hf])⟩,⟨by omega,by omega,by omega,λf hf=>h4 f (by simp [hf])⟩⟩
theorem FB.exp {P:yD} {x:At} {e j:Int} (h:FB (P++[⟨x,e⟩])) (hj:j<=64):FB (P++[⟨x,j⟩]):=by
 obtain ⟨h1,h2,h3,h4⟩:=h;rw [qg] at h1 h3;rw [zJQ,zj9,zru] at h2;rw [zJW,zdo,zjq] at h3;refine ⟨by rw [qg]; exact h1,by rw [zJQ,zj9,zru]; exact h2,by rw [qg,zJW,zdo,zjq]; exact h3,λf hf=> ?_⟩
 rcases List.mem_append.1 hf with hf | hf
 ·exact h4 f (by simp [hf])
 ·rw [qh] at hf; subst hf;exact ⟨hj,(h4 ⟨x,e⟩ (by simp)).2⟩
theorem OKF.app {a b:yD} (h:OKF zpw (a++b)):OKF zpw a/\OKF zpw b:=⟨⟨(List.pairwise_append.1 h.1).1,λf hf=>h.2 f (by simp [hf])⟩,⟨(List.pairwise_append.1 h.1).2.1,λf hf=>h.2 f (by simp [hf])⟩⟩
theorem OKF.exp {P:yD} {x:At} {e j:Int} (h:OKF zpw (P++[⟨x,e⟩])) (h1:1<=j) (h2:j<=e):OKF zpw (P++[⟨x,j⟩]):=by
 have hx:=h.2 ⟨x,e⟩ (by simp)
 refine ⟨List.pairwise_append.2 ⟨(List.pairwise_append.1 h.1).1,by simp,λa ha b hb=> ?_⟩,λf hf=> ?_⟩
 ·rw [qh] at hb; subst hb;exact (List.pairwise_append.1 h.1).2.2 a ha ⟨x,e⟩ (by simp)
 ·rcases List.mem_append.1 hf with hf | hf
  ·exact h.2 f (by simp [hf])
  ·rw [qh] at hf; subst hf;refine ⟨⟨h1,λhk=> ?_⟩,hx.2⟩
   have:=hx.1.2 hk;have h3:e=1:=this;show j=1;omega
theorem z7c {c:Int} {F:yD} (hc:1<=c/\c<=1152921504606846976) (hF:OKF zpw F) (hb:FB F):zV [⟨c,F⟩]=true:=zuY.2 ⟨hb.wi c,by simp,λt ht=>by
 rw [qh] at ht; subst ht; exact ⟨hc,hF⟩⟩
theorem z9D {y:Fc}:∀ {P:yD},(∀ z∈P,cF z y<0)->zbQ P [y]=P++[y]
 | [],_=>by rw [zbQ]; rfl
 | z::r,h=>by rw [zbQ,if_pos (h z (by simp)),z9D λw hw=>h w (by simp [hw])]; rfl
theorem z1e {x:At} {j:Int} (hk:¬ (x.Kind=3\/x.Kind=4)):∀ {P:yD},(∀ z∈P,cF z ⟨x,1⟩<0)->zbQ (P++[⟨x,j⟩]) [⟨x,1⟩]=P++[⟨x,j+1⟩]
 | [],_=>by
  have e:cF ⟨x,j⟩ ⟨x,1⟩=0:=cF_self' rfl;show zbQ [⟨x,j⟩] [⟨x,1⟩]=[⟨x,j+1⟩];rw [zbQ,e,if_neg (by omega),if_neg (by omega),if_neg hk,zbQ]
 | z::r,h=>by
  show zbQ (z::(r++[⟨x,j⟩])) [⟨x,1⟩]=_;rw [zbQ,if_pos (h z (by simp)),z1e hk λw hw=>h w (by simp [hw])]; rfl
theorem z9F {c:Int} (hc:1<=c/\c<=1152921504606846976) (M:yD) (x:At):zqy [⟨c,M⟩] (zcy x)=[⟨c,zbQ M [⟨x,1⟩]⟩]:=by
 show zgB [] [zna ⟨c,M⟩ ⟨1,[⟨x,1⟩]⟩]=_;unfold zna;simp only [zbfA hc.2];rfl
section
variable {c:Int} (hc:1<=c/\c<=1152921504606846976)
include hc
theorem zbb2 {P:yD} {x:At} {e:Int} (hF:OKF zpw (P++[⟨x,e⟩])) (hb:FB (P++[⟨x,e⟩])) (hv:zV (zcy x)=true):
  ∀ (n j:Nat),1<=j->(j+n:Int)=e->zCV (zcy x) n [⟨c,P++[⟨x,(j:Int)⟩]⟩]=.inr [⟨c,P++[⟨x,e⟩]⟩]
 | 0,j,_,h=>by rw [show (j:Int)=e from by omega]; rfl
 | n+1,j,h1,h=>by
  have he:=(hF.2 ⟨x,e⟩ (by simp)).1
  have he64:=(hb.fs ⟨x,e⟩ (by simp)).1
  have hk:¬ (x.Kind=3\/x.Kind=4):=λhk=>by
   have:e=1:=he.2 hk;omega
  have he64:e<=64:=he64;have hj:=z7c hc (hF.exp (j:=(j:Int)) (by omega) (by omega)) (hb.exp (j:=(j:Int)) (by omega))
  have hlt:∀ z∈P,cF z ⟨x,1⟩<0:=λz hz=>(List.pairwise_append.1 hF.1).2.2 z hz ⟨x,e⟩ (by simp)
  have hp:zqy [⟨c,P++[⟨x,(j:Int)⟩]⟩] (zcy x)=[⟨c,P++[⟨x,((j+1:Nat):Int)⟩]⟩]:=by
   rw [z9F hc,z1e hk hlt]; rfl
  unfold zCV;rw [zbee hj hv (by rw [hp]; exact (hb.exp (by omega)).wi c),hp,zbbs,zcm]
  exact zbb2 hF hb hv n (j+1) (by omega) (by omega)
theorem zbbY:∀ {l:yD} {P:yD},OKF zpw (P++l)->FB (P++l)->(∀ f∈l,zeE zvv f.At=.inr (zcy f.At)/\zV (zcy f.At)=true)->zdv zvv l [⟨c,P⟩]=.inr [⟨c,P++l⟩]
 | [],P,_,_,_=>by rw [zL1,List.append_nil]
 | ⟨x,e⟩::r,P,hF,hb,h=>by
  have hx:=h ⟨x,e⟩ (by simp)
  have e2:P++⟨x,e⟩::r=(P++[⟨x,e⟩])++r:=by simp
  rw [e2] at hF hb ⊢;have hF1:=hF.app.1;have hb1:=hb.app.1;have he:=(hF1.2 ⟨x,e⟩ (by simp)).1.1
  have he:1<=e:=he;have he64:e<=64:=(hb1.fs ⟨x,e⟩ (by simp)).1
  rw [zIS,show zeE zvv (⟨x,e⟩:Fc).At=.inr (zcy x) from hx.1,zcm]
  have hp:zCV (zcy x) (⟨x,e⟩:Fc).Exp.toNat [⟨c,P⟩]=.inr [⟨c,P++[⟨x,e⟩]⟩]:=by
   obtain ⟨n,hn⟩:∃ n:Nat,e=n+1:=⟨(e - 1).toNat,by omega⟩
   show zCV (zcy x) e.toNat [⟨c,P⟩]=_;rw [show e.toNat=n+1 from by omega]
   have hv0:zV [⟨c,P⟩]=true:=z7c hc hF1.app.1 hb1.app.1;have hlt:∀ z∈P,cF z ⟨x,1⟩<0:=λz hz=>(List.pairwise_append.1 hF1.1).2.2 z hz ⟨x,e⟩ (by simp)
   have hp:zqy [⟨c,P⟩] (zcy x)=[⟨c,P++[⟨x,1⟩]⟩]:=by rw [z9F hc,z9D hlt]
   unfold zCV;rw [zbee hv0 hx.2 (by rw [hp]; exact (hb1.exp (by omega)).wi c),hp,zbbs,zcm]
   exact zbb2 hc hF1 hb1 hx.2 n 1 (by omega) (by omega)
  rw [hp,zcm];exact zbbY hF hb λf hf=>h f (by simp [hf])
end
theorem zKZ {s r:yC} (h:zV (s++r)=true):zV s=true/\zV r=true:=by
 obtain ⟨h1,h2,h3⟩:=zuY.1 h;obtain ⟨w1,w2,w3,w4⟩:=zC7.1 h1;rw [qg] at w1;rw [z5W] at w2;rw [z6y] at w3
 exact ⟨zuY.2 ⟨zC7.2 ⟨by omega,by omega,by omega,λt ht=>w4 t (by simp [ht])⟩,(List.pairwise_append.1 h2).1,λt ht=>h3 t (by simp [ht])⟩,
  zuY.2 ⟨zC7.2 ⟨by omega,by omega,by omega,λt ht=>w4 t (by simp [ht])⟩,(List.pairwise_append.1 h2).2.1,λt ht=>h3 t (by simp [ht])⟩⟩
theorem zbcf:∀ {r s:yC},zV (s++r)=true->(∀ t∈r,∀ f∈t.Fs,zeE zvv f.At=.inr (zcy f.At)/\zV (zcy f.At)=true)->zcu zvv r s=.inr (s++r)
 | [],s,_,_=>by rw [zZY,List.append_nil]
 | t::r,s,hv,h=>by
  have e2:s++t::r=(s++[t])++r:=by simp
  rw [e2] at hv ⊢;obtain ⟨h1,h2⟩:=zuY.1 (zKZ hv).1;have ht:=h2.2 t (by simp)
  have hb:FB t.Fs:=FB.of h1 (by simp)
  have hf:=zbbY ht.1 (l:=t.Fs) (P:=[]) ht.2 hb (h t (by simp))
  have hadd:zFk s [t]=(s++[t],0):=by
   have e:zgB s [t]=s++[t]:=z89 _ _ h2.1;rw [zbjx (zKZ (zKZ hv).1).1 (zKZ (zKZ hv).1).2 (by rw [e]; exact h1),e]
  rw [zWJ,zbjD ht.1,hf,zcm];show sbd (opS (zFk s [t])) _=_;rw [hadd,zbbs,zcm];exact zbcf hv λu hu=>h u (by simp [hu])
theorem zbhw {d:Nat} {l:yE} (hl:l.length<=1000000) (h:∀ w∈l,zo d w.Ann/\w.Ann≠[]) (hd:d<=99) (hs:zZQ l=true):zel l=l:=by
 have e:l.filter znJ=l:=List.filter_eq_self.2 λw hw=>by
  have:=(h w hw).2;unfold znJ;cases hx:w.Ann with
  | nil=>exact absurd hx this
  | cons x r=>simp
 unfold zel;rw [e]
 have hp:l.Pairwise λx y=>zbf (z8 x) (z8 y)<=0:=zwT (R:=λx y=>zbf (z8 x) (z8 y)<=0) (λx y z h1 h2=>zuJ _ _ _ h1 h2) l λk hk hl'=>by
  have:=zed.1 hs k (by omega) (by omega)
  unfold zVK at this;rw [Bool.or_eq_true,qe,qe] at this;rcases this with e | e
  ·omega
  ·exact e
 refine ((zPw hl (λw hw=>(h w hw).1) hd).unique (.refl _) ?_).symm
 refine hp.imp_of_mem λ{x y} hx hy hxy=> ?_
 rw [zcU (h y hy).1 hd,ze6 (z8 x) (z8 y)];simp only; omega
def AB (x:At):Prop:=zpa x<=8/\zfO x+2<=4096/\x.Items.length<=1024
theorem AB.wi {x:At} (h:AB x):zgb (zcy x)=true:=(FB.wi (l:=[⟨x,1⟩]) ⟨by simp,by rw [zj9,zru]; have:=h.1; simp only; omega,by rw [zdo,zjq]; have:=h.2.1; simp only [List.length_singleton]; omega,λf hf=>by
 rw [qh] at hf; subst hf; exact ⟨by simp,h.2.2⟩⟩ 1)
theorem AB.of {l:yD} (h:FB l) {f:Fc} (hf:f∈l):AB f.At:=by
 refine ⟨Nat.le_trans (zTt hf) h.nes, ?_,(h.fs f hf).2⟩;have h1:=zTU hf
 have h2:1<=l.length:=by cases l with
  | nil=>cases hf
  | cons a r=>simp
 have:=h.siz;omega
theorem zbi1 {m:Nat} (hA:∀ a,zbD m a=true->zcu zvv a []=.inr a) (x:At) (h:zen (zbD m) x=true) (hx:AB x):zeE zvv x=.inr (zcy x):=by
 have hw:=hx.wi;rw [zZn];cases zdL.1 h with
 | var r hr=>
  simp only [if_true];unfold zvv; rw [hr]; rfl
 | mon a b ha hb ha0 hb0 hab=>
  simp only [show ¬ (1:Int)=0 from by omega,if_false,if_true]
  rw [zAt,hA a ha,zcm,zAt,hA b hb,zcm,zDl,zcm,zcm,zcm];show opS (zOo a b)=_;unfold zOo opR;rw [zCB ha,zCB hb,if_neg hb0,if_neg (by simp [ha0,hab])]
  show opS (zoK (zcy (zbfo a b)))=_;rw [zNY (a:=zcy (zbfo a b)) hw]; rfl
 | del a ha ha0 hc hu=>
  simp only [show ¬ (2:Int)=0 from by omega,show ¬ (2:Int)=1 from by omega,if_false,if_true]
  rw [zAt,hA a ha,zcm,zDl,zcm,zcm];show opS (zN6 a)=_;unfold zN6 opR;rw [zCB ha,if_neg (by simp [ha0,hu]),if_neg (by simp [hc])]
  show opS (zoK (zcy (zYS a)))=_;rw [zNY (a:=zcy (zYS a)) hw]; rfl
 | abs a ha ha0 hc=>
  simp only [show ¬ (3:Int)=0 from by omega,show ¬ (3:Int)=1 from by omega,show ¬ (3:Int)=2 from by omega,if_false,if_true]
  rw [zAt,hA a ha,zcm,zDl,zcm,zcm];show opS (zOw a)=_;unfold zOw opR;rw [zCB ha,if_neg ha0,if_neg (by simp [hc])]
  show opS (zoK (zcy (zbfH a)))=_;rw [zNY (a:=zcy (zbfH a)) hw]; rfl
 | tst f l o b hl hi hs hf=>
  simp only [show ¬ (4:Int)=0 from by omega,show ¬ (4:Int)=1 from by omega,show ¬ (4:Int)=2 from by omega,show ¬ (4:Int)=3 from by omega,if_false]
  have key:∀ l:yE,(∀ w∈l,zbD m w.Ann=true)->zgd zvv l=.inr l:=by
   intro l;induction l with
   | nil=>intro _; rw [zJN]
   | cons w r ih=>
    intro hm;rw [zPm,hA w.Ann (hm w (by simp)),zcm,ih λv hv=>hm v (by simp [hv]),zcm]
  have hlen:l.length<=1024:=hx.2.2;have hs':=zbhw (d:=9) (l:=l) (by omega) (λw hw=>⟨(ze1 (hi w hw).1).1,(hi w hw).2⟩) (by omega) hs
  rw [zDl,zcm,key l λw hw=>(hi w hw).1,zcm]
  show opS (zy9 f l o b)=_;unfold zy9;have hall:(l.all λw=>zV w.Ann)=true:=List.all_eq_true.2 λw hw=>zCB (hi w hw).1
  have hpos:0<l.length:=by cases l with
   | nil=>exact absurd rfl hl
   | cons a r=>simp
  rw [hf,hall,hs',decide_eq_true hpos];show opS (zoK (zcy (zRM f l o b)))=_;rw [zNY (a:=zcy (zRM f l o b)) hw]; rfl
theorem zbgJ:∀ m,∀ a,zbD m a=true->zcu zvv a []=.inr a
 | 0,a,h=>by cases h
 | m+1,a,h=>by
  obtain ⟨h1,_,h3⟩:=zWs.1 (show zAY (zen (zbD m)) a=true from h)
  exact zbcf (s:=[]) (zCB h) λt ht f hf=>by
   have hb:=AB.of (FB.of h1 ht) hf;have hv:=((h3 t ht).2.2 f hf).2;exact ⟨zbi1 (zbgJ m) f.At hv hb,zbfQ (zWT.2 ((zdL.1 hv).imp λa ha=>zCB ha)) hb.wi⟩
theorem zblq {a:yC} (h:zV a=true):zcu zvv a []=.inr a:=zbgJ 100 a h
theorem zbiz (a b:yD):cL a b=zbO (zbE a) (zbE b):=by unfold cL; rw [zbf]
theorem PA.canon {a:yC} (h:PA a):Canon a:=⟨h.1.imp λ{x y} hxy=>by rw [zbiz]; exact hxy,λt ht=>(h.2 t ht).2.1⟩
def zbdi (s' s:yC):Prop:=∀ t∈s',∃ u∈s,u.Fs=t.Fs
theorem z0D:∀ (s s':yC),Srs s->Srs s'->zbdi s' s->s'.length<=s.length/\zP s'<=zP s/\zbt s'<=zbt s
 | [],s',_,_,h=>by
  cases s' with
  | nil=>exact ⟨Nat.le_refl _,Nat.le_refl _,Nat.le_refl _⟩
  | cons y r=>obtain ⟨u,hu,_⟩:=h y (by simp); cases hu
 | x::r,s',hs,hs',h=>by
  have hc:=qi.1 hs;cases s' with
  | nil=>simp [zuw,zHF]
  | cons y r'=>
   have hc':=qi.1 hs';by_cases e:x.Fs=y.Fs
   ·have hsub:zbdi r' r:=λt ht=>by
     obtain ⟨u,hu,eu⟩:=h t (by simp [ht])
     rcases qd.1 hu with rfl | hu
     ·have:=hc'.1 t ht;rw [zF1 (e.symm.trans eu)] at this; omega
     ·exact ⟨u,hu,eu⟩
    obtain ⟨h1,h2,h3⟩:=z0D r r' hc.2 hc'.2 hsub;rw [zeS,zeS,zof,zof,e];simp only [qf];exact ⟨by omega,by omega,by omega⟩
   ·have hxy:cT x y<0:=by
     obtain ⟨u,hu,eu⟩:=h y (by simp)
     rcases qd.1 hu with rfl | hu
     ·exact absurd eu e
     ·have:=hc.1 u hu;unfold cT at this ⊢; rw [<- eu]; exact this
    have hsub:zbdi (y::r') r:=λt ht=>by
     obtain ⟨u,hu,eu⟩:=h t ht;rcases qd.1 hu with rfl | hu
     ·have hut:cT u t<0:=by
       rcases qd.1 ht with rfl | ht
       ·exact hxy
       ·exact zJz hxy (hc'.1 t ht)
      rw [zF1 eu] at hut; omega
     ·exact ⟨u,hu,eu⟩
    obtain ⟨h1,h2,h3⟩:=z0D r (y::r') hc.2 hs' hsub;rw [zeS x r,zof x r];simp only [qf] at h1 ⊢;exact ⟨by omega,by omega,by omega⟩
theorem zbhc {s s':yC} (hs:Srs s) (hs':Srs s') (h:zbdi s' s) (hw:zgb s=true):zgb s'=true:=by
 obtain ⟨w1,w2,w3,w4⟩:=zC7.1 hw;obtain ⟨h1,h2,h3⟩:=z0D s s' hs hs' h;refine zC7.2 ⟨by omega,by omega,by omega,λt ht=> ?_⟩
 obtain ⟨u,hu,e⟩:=h t ht;rw [<- e]; exact w4 u hu
theorem zbjJ (a:yC):zbdi (zy4 a) a:=λt ht=>by
 obtain ⟨u,hu,_,rfl⟩:=zPk.1 ht;exact ⟨u,hu,rfl⟩
theorem zbfY {a:yC} (h:QA a):QA (zy4 a):=⟨(zbfa h.pa.canon).asc.imp λ{x y} hxy=>by rw [zbiz] at hxy; exact hxy,λt ht=>by
 obtain ⟨u,hu,_,rfl⟩:=zPk.1 ht;exact ⟨by constructor <;>simp,(h.2 u hu).2⟩⟩
theorem zbgV {a:yC} (h:zV a=true):zV (zy4 a)=true:=zuY.2 ⟨zbhc (zWf h).1 (zbfY (zWf h)).1 (zbjJ a) (zbfC h),zbfY (zWf h)⟩
def nfA (a:yC):yC:=bif zV a then zy4 a else []
theorem zbcF {a:yC} (h:zV a=true):nfA a=zy4 a:=by unfold nfA; rw [h]; rfl
def z1a (a:yC) (l:yG):yC×Int:=opR (zV a&&l.all λb=>zV b.To) (ofS (zcu (toA l) a []))
theorem zblL {l:yG} (h:okB l):zcv l=(true, !l.all λb=>zV b.To):=by
 unfold zcv zij;have:zd2 l=IG (λ(_:Unit) x=>zi0 x) (l.length+(Int.ofNat l.length).toNat +Int.toNat (0:Int)+(1:Nat)) () l:=rfl
 rw [zlO (P:=λb=> !zV b.To) (this.trans (zNP _ _ _ _ _ (by have:=h.1; omega) (λx hx=>by
  unfold zi0 zzC;rw [Wy.fin_bn,(h.2 x hx).valid]; rfl) (by omega)))]
 simp [List.all_eq_not_any_not]
theorem zbiT {a:yC} {l:yG} (h:okB l):∀ (n i:Nat),l.length<i+n->i<=l.length->zAN n a l i=(true,if ((l.drop i).all λb=>zV b.To)=true then .inr (a,l) else .inl 1)
 | 0,i,h1,h2=>by omega
 | n+1,i,h1,h2=>by
  have hlen:=h.1;show (zA0 a l i).ev (λx y=>zAN n x.1 x.2.1 x.2.2.1) (λr=>(true,r)) (false,.inl default)=_
  unfold zA0;by_cases hi:i<l.length
  ·have hb:=h.2 _ (zp hi);rw [zby hi,List.all_cons];simp only [Wy.ev_i,Wy.ev_k,Wy.ev_h,Wy.ev_bn,Wy.ev_d,tT,hi,hb.rvalid];cases zV (l.getD i default).To with
   | false=>rfl
   | true=>
    simp only [Bool.not_true,cond_false,Bool.true_and,zL (show i<4611686018427387904 by omega)]
    exact zbiT h n (i+1) (by omega) (by omega)
  ·simp only [Wy.ev_i,Wy.ev_k,Wy.ev_h,Wy.ev_bn,Wy.ev_d,tT,hi];rw [zc3 hi]; rfl
theorem z8d {a:yC} {l:yG} (oa:okA a) (ha:zV a=true->zb0 a) (h:okB l):zik a l=(true,z1a a l):=by
 have key:zV a=true->zC0 a l=(true,ofS (zcu (toA l) a [])):=λhv=>((zber h 1000).1 9 a (zVo hv (Nat.le_refl 9)) (by omega) oa.2.1 (ha hv) (by omega)).1
 unfold zik zDJ z1a;simp only [Wy.fin_i,Wy.fin_bn,Wy.fin_k,oa.valid,cond_true,zblL h];cases hv:zV a with
 | false=>rfl
 | true=>
  cases (l.all λb=>zV b.To) with
  | false=>rfl
  | true=>
   simp only [Bool.not_true,cond_false,key hv,cond_true];rfl
theorem z8O {a:yC} {l:yG} (oa:okA a) (ha:zV a=true->zb0 a) (h:okB l):zFz a l=(true,z1a a l):=by
 have key:zV a=true->zXg a l=(true,ofS (zcu (toA l) a [])):=λhv=>((zbbH h 1000).1 9 a (zVo hv (Nat.le_refl 9)) (by omega) oa.2.1 (ha hv) (by omega)).1
 unfold zFz zKd z1a;have h4:=zbiT (a:=a) h (a.length+l.length+Int.toNat (0:Int)+(1:Nat)) 0 (by omega) (by omega)
 rw [show ((0:Nat):Int)=(0:Int) from rfl,List.drop_zero] at h4
 simp only [Wy.fin_i,Wy.fin_bn,Wy.fin_k,oa.rvalid,cond_true,h4];cases hv:zV a with
 | false=>rfl
 | true=>
  cases (l.all λb=>zV b.To) with
  | false=>rfl
  | true=>
   simp only [if_true,isL,getR,Bool.not_true,cond_false,key hv,cond_true];rfl
theorem zbaw {a:yC} {l:yG} (oa:okA a) (ha:zV a=true->zb0 a) (h:okB l):zik a l=(true,z1a a l)/\zFz a l=(true,z1a a l):=⟨z8d oa ha h,z8O oa ha h⟩
def GP {α:Type} (P:α->Prop):Int⊕α->Prop
 | .inl _=>True
 | .inr a=>P a
theorem zHd {α β:Type} {P:α->Prop} {Q:β->Prop} {x:Int⊕α} {k:α->Int⊕β} (hx:GP P x) (hk:∀ a,P a->GP Q (k a)):GP Q (sbd x k):=by
 cases x with
 | inl e=>exact trivial
 | inr a=>exact hk a hx
theorem z1D {P:yC->Prop} {r:yC×Int} (h:P r.1):GP P (opS r):=by
 unfold opS;split
 ·exact h
 ·exact trivial
theorem zAh {a:yC}:zb0 a↔∀ t∈a,∀ f∈t.Fs,zAr f.At:=by
 rw [zGc];exact ⟨λh t ht=>zuf.1 (h t ht),λh t ht=>zuf.2 (h t ht)⟩
theorem zE1:zb0 []:=zGc.2 λt ht=>by cases ht
theorem zVs (c:Int):zb0 [⟨c,[]⟩]:=zAh.2 λt ht f hf=>by
 rw [qh] at ht; subst ht; cases hf
theorem z1x {x:At} (h:zAr x):zb0 (zcy x):=zAh.2 λt ht f hf=>by
 simp only [zcy,qh] at ht; subst ht;rw [qh] at hf; subst hf; exact h
theorem zUw {a:yC} (h:zb0 a):zb0 (zoK a).1:=by
 unfold zoK;cases zgb a with
 | true=>exact h
 | false=>exact zE1
theorem z6b {ok:Bool} {r:yC×Int} (h:ok=true->zb0 r.1):zb0 (opR ok r).1:=by
 cases ok with
 | true=>exact h rfl
 | false=>exact zE1
theorem zbks {a b:yC} (hs:Srs a) (ha:zb0 a) (hb:zb0 b):zb0 (zgB a b):=zAh.2 λt ht f hf=>by
 obtain ⟨x,hx,e⟩:=zUB b a hs ht;rw [e] at hf;rcases hx with hx | hx
 ·exact zAh.1 ha x hx f hf
 ·exact zAh.1 hb x hx f hf
theorem zbjE {a b:yC} (ha:zb0 a) (hb:zb0 b):zb0 (zqy a b):=zAh.2 λt ht f hf=>by
 obtain ⟨x,hx,e⟩:=zUB (zfy a b) [] List.Pairwise.nil ht;rw [e] at hf;rcases hx with hx | hx
 ·cases hx
 ·obtain ⟨u,hu,v,hv,rfl⟩:=zbaa hx;obtain ⟨y,hy,e⟩:=zvC hf;rw [e];rcases hy with hy | hy
  ·exact zAh.1 ha u hu y hy
  ·exact zAh.1 hb v hv y hy
theorem zbk2 {a b:yC} (ha:zb0 a) (hb:zb0 b):zb0 (zFk a b).1:=z6b λhv=>by
 rw [qc] at hv;exact zUw (zbks (zPA hv.1).1 ha hb)
theorem zbkh {a b:yC} (ha:zb0 a) (hb:zb0 b):zb0 (zEk a b).1:=z6b λ_=>zUw (zbjE ha hb)
theorem z4T {k:Int} {l:yA} (h:∀ a∈l,zb0 a):zAr ⟨k,⟨0,0⟩,l,0,[],0,⟨0,0,ByteArray.mk #[]⟩⟩:=(zDG _).2 ⟨by simp,zzd.2 h,zvM.2 λw hw=>by cases hw⟩
theorem zblp {a b:yC} (ha:zb0 a) (hb:zb0 b):zb0 (zOo a b).1:=z6b λ_=>by
 split
 ·exact ha
 ·split
  ·exact zE1
  ·refine zUw (z1x (z4T λx hx=> ?_))
   simp only [qd,List.not_mem_nil,or_false] at hx;rcases hx with rfl | rfl
   ·exact ha
   ·exact hb
theorem zbkO {a:yC} (ha:zb0 a):zb0 (zN6 a).1:=z6b λ_=>by
 split
 ·exact ha
 ·split
  ·exact zVs 1
  ·refine zUw (z1x (z4T λx hx=> ?_))
   rw [qh] at hx; subst hx; exact ha
theorem zblr {a:yC} (ha:zb0 a):zb0 (zOw a).1:=z6b λ_=>by
 split
 ·exact zVs 1
 ·split
  ·exact zE1
  ·refine zUw (z1x (z4T λx hx=> ?_))
   rw [qh] at hx; subst hx; exact ha
theorem zbja {f o:Int} {l:yE} {b:Value} (hl:l.length<40) (h:∀ w∈l,zb0 w.Ann):zb0 (zy9 f l o b).1:=by
 unfold zy9;cases (!(zD9 f l o b&&l.all λw=>zV w.Ann)) with
 | true=>exact zE1
 | false=>
  cases decide (0<(zel l).length) with
  | true=>
   refine zUw (z1x ((zDG _).2 ⟨?_,zzd.2 λa ha=>(by cases ha),zvM.2 λw hw=>h w (zNt hw).1⟩))
   have h1:(zel l).length=(l.filter znJ).length:=(znW _ _).length_eq;have h2:=List.length_filter_le znJ l;show (zel l).length<40;omega
  | false=>
   cases (f==0&&zSL o (zeD 0 b.Int)) with
   | true=>exact zVs 1
   | false=>exact zE1
theorem zbf0 {b:yC} (hb:zb0 b):∀ (n:Nat) (p:yC),zb0 p->GP zb0 (zCV b n p)
 | 0,p,hp=>hp
 | n+1,p,hp=>zHd (z1D (zbkh hp hb)) λq hq=>zbf0 hb n q hq
theorem zbkF (n:Int):zb0 (zvk n):=by
 unfold zvk;split
 ·exact zE1
 ·exact zVs _
theorem zbeo {l:yA} (h:∀ a∈l,zb0 a) (i:Nat):zb0 (l.getD i default):=by
 by_cases hi:i<l.length
 ·exact h _ (zp hi)
 ·rw [List.getD_eq_getElem?_getD,List.getElem?_eq_none (by omega)]; exact zE1
section
variable {to:RowID->yC} (ht:∀ r,zb0 (to r))
include ht
mutual
theorem zbfg:∀ x:At,zAr x->GP zb0 (zeE to x)
 | ⟨k,r,a,f,i,o,b⟩=>λh=>by
  obtain ⟨h1,h2,h3⟩:=(zDG _).1 h;rw [zeE];split
  ·exact ht r
  ·refine zHd (z7L a (zzd.1 h2)) λxs hxs=> ?_
   have g0:=zbeo hxs 0;have g1:=zbeo hxs 1;split
   ·exact z1D (zblp g0 g1)
   ·split
    ·exact z1D (zbkO g0)
    ·split
     ·exact z1D (zblr g0)
     ·refine zHd (z4b i (zvM.1 h3)) λis his=>z1D (zbja ?_ his.2)
      rw [his.1]; exact h1
theorem zXq:∀ l:yD,(∀ f∈l,zAr f.At)->∀ p,zb0 p->GP zb0 (zdv to l p)
 | [],_,p,hp=>by rw [zdv]; exact hp
 | ⟨x,e⟩::r,h,p,hp=>by
  rw [zdv];exact zHd (zbfg x (h ⟨x,e⟩ (by simp))) λb hb=>zHd (zbf0 hb _ p hp) λq hq=>zXq r (λf hf=>h f (by simp [hf])) q hq
theorem z1l:∀ a:yC,(∀ t∈a,∀ f∈t.Fs,zAr f.At)->∀ s,zb0 s->GP zb0 (zcu to a s)
 | [],_,s,hs=>by rw [zcu]; exact hs
 | ⟨c,fs⟩::r,h,s,hs=>by
  rw [zcu];exact zHd (zXq fs (h ⟨c,fs⟩ (by simp)) _ (zbkF c)) λp hp=>zHd (z1D (zbk2 hs hp)) λq hq=>z1l r (λt ht=>h t (by simp [ht])) q hq
theorem z7L:∀ l:yA,(∀ a∈l,zb0 a)->GP (λr:yA=>∀ a∈r,zb0 a) (zjG to l)
 | [],_=>by rw [zjG]; exact λa ha=>by cases ha
 | a::r,h=>by
  rw [zjG];refine zHd (z1l a (zAh.1 (h a (by simp))) [] zE1) λb hb=>zHd (z7L r λc hc=>h c (by simp [hc])) λl hl=> ?_
  intro x hx;rcases qd.1 hx with rfl | hx
  ·exact hb
  ·exact hl x hx
theorem z4b:∀ l:yE,(∀ w∈l,zb0 w.Ann)->GP (λr:yE=>r.length=l.length/\∀ w∈r,zb0 w.Ann) (zgd to l)
 | [],_=>by rw [zgd]; exact ⟨rfl,λa ha=>by cases ha⟩
 | ⟨v,a⟩::r,h=>by
  rw [zgd];refine zHd (z1l a (zAh.1 (h ⟨v,a⟩ (by simp))) [] zE1) λb hb=>zHd (z4b r λc hc=>h c (by simp [hc])) λl hl=> ?_
  refine ⟨by simp [hl.1],λx hx=> ?_⟩
  rcases qd.1 hx with rfl | hx
  ·exact hb
  ·exact hl.2 x hx
end
end
section
variable {σ:At->yC}
end
def zNU (a:yC) (i:Nat):Bool:=(List.range a.length).all λk=> !(decide (k≠i)&&dvF (a.getD k default).Fs (a.getD i default).Fs&&(!dvF (a.getD i default).Fs (a.getD k default).Fs||decide (k<i)))
def zbfJ (a:yC):yC:=((List.range a.length).filter (zNU a)).map λi=>⟨1,(a.getD i default).Fs⟩
theorem zbg4 {a:yC} {i:Nat}:zNU a i=true↔∀ k<a.length,k≠i->dvF (a.getD k default).Fs (a.getD i default).Fs=true->dvF (a.getD i default).Fs (a.getD k default).Fs=true/\i<=k:=by
 unfold zNU;simp only [List.all_eq_true,List.mem_range,Bool.not_eq_true',Bool.and_eq_false_iff,Bool.or_eq_false_iff,decide_eq_false_iff_not,Bool.not_eq_false',Nat.not_lt];constructor
 ·intro h k hk hne hd;rcases h k hk with (h1 | h1) | h1
  ·exact absurd hne h1
  ·rw [hd] at h1; cases h1
  ·exact ⟨h1.1,h1.2⟩
 ·intro h k hk;by_cases hne:k=i
  ·exact .inl (.inl λh=>h hne)
  ·cases hd:dvF (a.getD k default).Fs (a.getD i default).Fs with
   | false=>exact .inl (.inr rfl)
   | true=>exact .inr (h k hk hne hd)
theorem zMD {τ:Type} [Inhabited τ] (p:τ->Bool):∀ a:List τ,((List.range a.length).filter λi=>p (a.getD i default)).map (λi=>a.getD i default)=a.filter p:=by
 intro a;induction a with
 | nil=>rfl
 | cons x r ih=>
  rw [qf,List.range_succ_eq_map,List.filter_cons,List.filter_cons];have h0:(x::r).getD 0 default=x:=rfl;rw [h0,List.filter_map,];have h1:((λi=>p ((x::r).getD i default)) ∘ Nat.succ)=λi=>p (r.getD i default):=by funext i; rfl
  rw [h1];cases p x with
  | true=>
   simp only [if_true,List.map_cons,List.map_map];refine congrArg (x::·) ?_;exact ih
  | false=>
   simp only [Bool.false_eq_true,if_false,List.map_map];exact ih
theorem zbb8 {a:yC} (h:a.Pairwise λx y=>x.Fs≠y.Fs) {i k:Nat} (hi:i<a.length) (hk:k<a.length) (e:(a.getD i default).Fs=(a.getD k default).Fs):i=k:=by
 rcases Nat.lt_trichotomy i k with h1 | h1 | h1
 ·have:=List.pairwise_iff_getElem.1 h i k hi hk h1;rw [List.getD_eq_getElem?_getD,List.getD_eq_getElem?_getD,List.getElem?_eq_getElem hi,List.getElem?_eq_getElem hk] at e;exact absurd e this
 ·exact h1
 ·have:=List.pairwise_iff_getElem.1 h k i hk hi h1;rw [List.getD_eq_getElem?_getD,List.getD_eq_getElem?_getD,List.getElem?_eq_getElem hi,List.getElem?_eq_getElem hk] at e;exact absurd e.symm this
theorem Canon.dst {a:yC} (h:Canon a):a.Pairwise λx y=>x.Fs≠y.Fs:=h.asc.imp λ{x y} hxy e=>by rw [e,zbli.refl] at hxy; omega
theorem zbhd {a:yC} (h:Canon a) {i:Nat} (hi:i<a.length):zNU a i=zSw a (a.getD i default):=by
 rw [Bool.eq_iff_iff,zbg4,zbcj];constructor
 ·intro hk u hu hd;obtain ⟨k,hkl,rfl⟩:=zJS hu;by_cases e:k=i
  ·rw [e]
  ·have:=(hk k hkl e hd).1;exact zbhB (h.fac _ hu) (h.fac _ (zp hi)) hd this
 ·intro hm k hk hne hd;have e:=hm _ (zp hk) hd;exact absurd (zbb8 h.dst hk hi e) hne
theorem z6i {a:yC} (h:Canon a):zbfJ a=zy4 a:=by
 unfold zbfJ zy4;rw [<- zMD (zSw a) a,List.map_map]
 have:(List.range a.length).filter (zNU a)=(List.range a.length).filter λi=>zSw a (a.getD i default):=by
  refine List.filter_congr λi hi=> ?_
  exact zbhd h (List.mem_range.1 hi)
 rw [this]; rfl
theorem zbhl (x y:At):(zbf (zdw x) (zdw y)==(0:Int))=decide (x=y):=by
 rw [zhL,decide_eq_decide];exact ⟨λh=>zVx _ _ (zuj _ _ h),λh=>by rw [h,zFP]⟩
theorem zbit {d:Nat} (s t:Term) (i:Nat) (hi:i<s.Fs.length) (hs:zcs (zo d) s.Fs) (hd:d<=99) (ht:t.Fs.length<=1000000):
  ∀ (n k:Nat) (found:Bool),t.Fs.length<k+n->k<=t.Fs.length->zFo n i found k s t=(true,((i:Int),(found||(t.Fs.drop k).any λg=>decide ((s.Fs.getD i default).Exp<=g.Exp)&&decide ((s.Fs.getD i default).At=g.At)),s,t))
 | 0,k,found,h,h2=>by omega
 | n+1,k,found,h,h2=>by
  show (zFt i found k s t).ev (λx y=>zFo n x.2.2.1 x.2.2.2.1 x.2.2.2.2.1 y.1 y.2.1) (λr=>(true,r)) (false,default)=_
  unfold zFt;have hf:=hs.2 _ (zp hi);by_cases hk:k<t.Fs.length
  ·have key:=λf'=>zbit s t i hi hs hd ht n (k+1) f' (by omega) (by omega)
   simp only [Wy.ev_i,Wy.ev_k,Wy.ev_h,Wy.ev_bn,Wy.ev_d,tT,hk,hi,At.eta,zqp hf hd,zbhl,zL (show k<4611686018427387904 by omega),key]
   rw [zby hk,List.any_cons];cases found with
   | true=>simp
   | false=>
    rw [cond_false];by_cases hx:(s.Fs.getD i default).At=(t.Fs.getD k default).At
    ·rw [decide_eq_true hx]; simp
    ·rw [decide_eq_false hx]; simp
  ·simp only [Wy.ev_i,Wy.ev_k,Wy.ev_h,Wy.ev_bn,Wy.ev_d,tT,hk,zc3 hk];simp
theorem zbix {d:Nat} (s t:Term) (hs:zcs (zo d) s.Fs) (hd:d<=99) (ht:t.Fs.length<=1000000):
  ∀ (n i:Nat),s.Fs.length<i+n->i<=s.Fs.length->zFs n i s t=(true,bif (s.Fs.drop i).all (λf=>t.Fs.any λg=>decide (f.Exp<=g.Exp)&&decide (f.At=g.At)) then .inr () else .inl false)
 | 0,i,h,h2=>by omega
 | n+1,i,h,h2=>by
  show (zFq i s t).ev (λx y=>zFs n x.2.2.1 y.1 y.2.1) (λr=>(true,r)) (false,.inl default)=_
  unfold zFq;have hl:=hs.1;by_cases hi:i<s.Fs.length
  ·have e6:=zbit s t i hi hs hd ht (i+Int.toNat (0:Int)+s.Fs.length+t.Fs.length+1000) 0 false (by omega) (by omega)
   rw [show ((0:Nat):Int)=(0:Int) from rfl,List.drop_zero,Bool.false_or] at e6
   simp only [Wy.ev_i,Wy.ev_k,Wy.ev_h,Wy.ev_bn,Wy.ev_d,tT,hi,e6,zL (show i<4611686018427387904 by omega)]
   rw [zby hi,List.all_cons];cases t.Fs.any λg=>decide ((s.Fs.getD i default).Exp<=g.Exp)&&decide ((s.Fs.getD i default).At=g.At) with
   | false=>rfl
   | true=>
    rw [Bool.not_true,cond_false,Bool.true_and];exact zbix s t hs hd ht n (i+1) (by omega) (by omega)
  ·simp only [Wy.ev_i,Wy.ev_k,Wy.ev_h,Wy.ev_bn,Wy.ev_d,tT,hi,zc3 hi];rfl
theorem zbdn {d:Nat} {s:Term} (hs:zcs (zo d) s.Fs) (hd:d<=99) {t:Term} (ht:t.Fs.length<=1000000):zzS s t=(true,dvF s.Fs t.Fs):=by
 unfold zzS zRK;have e:=zbix s t hs hd ht (Int.toNat (0:Int)+s.Fs.length+t.Fs.length+1000) 0 (by omega) (by omega)
 rw [show ((0:Nat):Int)=(0:Int) from rfl,List.drop_zero] at e
 rw [Wy.fin_bn,e,cond_true];unfold dvF;cases s.Fs.all λf=>t.Fs.any λg=>decide (f.Exp<=g.Exp)&&decide (f.At=g.At) <;>rfl
theorem okA.fine {a:yC} (oa:okA a):zo (11+1) a:=oa.1.1
theorem okA.fac {a:yC} (oa:okA a):∀ t∈a,zcs (zo 11) t.Fs:=λt ht=>oa.fine.2 t ht
theorem okA.len {a:yC} (oa:okA a):a.length<=1000000:=oa.fine.1
theorem zbiZ (c:Nat->Bool) (n:Nat):zeH c n 0=(List.range n).all c:=by
 rw [Bool.eq_iff_iff,zed,List.all_eq_true];constructor
 ·intro h k hk; exact h k (by omega) (by have:=List.mem_range.1 hk; omega)
 ·intro h k _ hk; exact h k (List.mem_range.2 (by omega))
def kpP (a:yC) (i:Nat) (t:Term) (k:Nat):Bool:= !(decide (k≠i)&&dvF (a.getD k default).Fs t.Fs&&(!dvF t.Fs (a.getD k default).Fs||decide (k<i)))
theorem zbiC (a:yC) (ha:∀ t∈a,zcs (zo 11) t.Fs) (hl:a.length<=1000000) (i:Nat) (hi:i<a.length) (o:yC) (t:Term) (ht:zcs (zo 11) t.Fs):
  ∀ (n k m:Nat),m=a.length - k->a.length<k+n->k<=a.length->zxr n a i a (a.length:Int) i a (a.length:Int) k o t=(true,bif zeH (kpP a i t) m k then .inr (a,a,(a.length:Int),(i:Int),o,t) else .inl (a,a,(a.length:Int),(i:Int),o))
 | 0,k,m,hm,h,h2=>by omega
 | n+1,k,m,hm,h,h2=>by
  show (zxt a i a (a.length:Int) i a (a.length:Int) k o t).ev (λx y=>zxr n x.1 x.2.2.1 x.2.2.2.2.1 x.2.2.2.2.2.1 x.2.2.2.2.2.2.1 x.2.2.2.2.2.2.2.1 x.2.2.2.2.2.2.2.2.1 x.2.2.2.2.2.2.2.2.2.1 y.1 y.2.1) (λr=>(true,r)) (false,.inl default)=_
  unfold zxt;by_cases hk:k<a.length
  ·obtain ⟨m',rfl⟩:∃ m',m=m'+1:=⟨m - 1,by omega⟩
   have key:=zbiC a ha hl i hi o t ht n (k+1) m' (by omega) (by omega) (by omega)
   have hu:=ha _ (zp hk);simp only [Wy.ev_i,Wy.ev_k,Wy.ev_h,Wy.ev_bn,Wy.ev_d,tT,hk,zbju,z7T hu (by omega) ht.1,z7T ht (by omega) hu.1,zL (show k<4611686018427387904 by omega),key]
   have e:zeH (kpP a i t) (m'+1) k=(kpP a i t k&&zeH (kpP a i t) m' (k+1)):=rfl;rw [e];unfold kpP;by_cases hki:k≠i
   ·rw [decide_eq_true hki];cases dvF (a.getD k default).Fs t.Fs with
    | false=>rfl
    | true=>
     cases dvF t.Fs (a.getD k default).Fs with
     | false=>rfl
     | true=>
      by_cases hlt:k<i
      ·rw [decide_eq_true hlt]; rfl
      ·rw [decide_eq_false hlt]; rfl
   ·rw [decide_eq_false hki]; rfl
  ·have hm0:m=0:=by omega
   subst hm0;simp only [Wy.ev_i,Wy.ev_k,Wy.ev_h,Wy.ev_bn,Wy.ev_d,tT,hk];rfl
theorem zbeU (a:yC) (i:Nat):zNU a i=zeH (kpP a i (a.getD i default)) a.length 0:=(zbiZ _ _).symm
theorem zbfh {n i:Nat} (h:i<n):(List.range n).getD i default=i:=by
 rw [List.getD_eq_getElem?_getD,List.getElem?_range h]; rfl
theorem zbfn {n i:Nat} (h:i<n):(List.range n).drop i=i::(List.range n).drop (i+1):=by
 have:=zby (l:=List.range n) (i:=i) (by simpa using h)
 rwa [zbfh h] at this
def zWS (keep:Nat->Bool) (a:yC) (i:Nat):yC:=(((List.range a.length).drop i).filter keep).map λi=>⟨1,(a.getD i default).Fs⟩
theorem zbea {keep:Nat->Bool} {a:yC} {i:Nat} (h:i<a.length):zWS keep a i=(if keep i=true then [⟨1,(a.getD i default).Fs⟩] else [])++zWS keep a (i+1):=by
 unfold zWS;rw [zbfn h,List.filter_cons];split <;>rfl
theorem zbdY {keep:Nat->Bool} {a:yC} {i:Nat} (h:¬ i<a.length):zWS keep a i=[]:=by
 unfold zWS;rw [zc3 (by simpa using h)]; rfl
theorem zbfi (a:yC) (ha:∀ t∈a,zcs (zo 11) t.Fs) (hl:a.length<=1000000):
  ∀ (n i:Nat) (o:yC),a.length<i+n->i<=a.length->o.length<=i->zwO n a a (a.length:Int) i o=(true,o++zWS (zNU a) a i)
 | 0,i,o,h,h2,h3=>by omega
 | n+1,i,o,h,h2,h3=>by
  show (zw7 a a (a.length:Int) i o).ev (λx y=>zwO n x.1 x.2.2.1 x.2.2.2.1 x.2.2.2.2.1 y.1) (λr=>(true,r)) (false,default)=_
  unfold zw7;by_cases hi:i<a.length
  ·have e6:=zbiC a ha hl i hi o (a.getD i default) (ha _ (zp hi)) (a.length+i+a.length+a.length+i+a.length+a.length+Int.toNat (0:Int)+o.length+(a.getD i default).Fs.length+1000) 0 a.length (by omega) (by omega) (by omega)
   rw [show ((0:Nat):Int)=(0:Int) from rfl, <- zbeU] at e6
   simp only [Wy.ev_i,Wy.ev_k,Wy.ev_h,Wy.ev_bn,Wy.ev_d,tT,hi,e6];rw [zbea hi];cases zNU a i with
   | true=>
    have r1:decide ((o.length+([TO.mk (1:Int) (a.getD i default).Fs]:yC).length)*32<=zN)=true:=decide_eq_true (z5m (by simp; omega) (by omega))
    simp only [isL,getR,cond_true,cond_false,r1,zL (show i<4611686018427387904 by omega)]
    rw [zbfi a ha hl n (i+1) _ (by omega) (by omega) (by simp; omega)]
    have r2:(o.length+1)*32<=zN:=z5m (by omega) (by omega)
    simp [r2]
   | false=>
    simp only [isL,getL,cond_true,cond_false,zL (show i<4611686018427387904 by omega)]
    rw [zbfi a ha hl n (i+1) _ (by omega) (by omega) (by omega)]
    simp
  ·simp only [Wy.ev_i,Wy.ev_k,Wy.ev_h,Wy.ev_bn,Wy.ev_d,tT,hi,zbdY hi];simp
theorem zbgl (a:yC):zWS (zNU a) a 0=zbfJ a:=rfl
theorem z54 {a:yC} (ha:∀ t∈a,zcs (zo 11) t.Fs) (hl:a.length<=1000000):zk3 a=(true,zbfJ a):=by
 unfold zk3 zG7;have e:=zbfi a ha hl (a.length+a.length+a.length+Int.toNat (0:Int)+0+1000) 0 [] (by omega) (by omega) (by simp)
 rw [show ((0:Nat):Int)=(0:Int) from rfl,List.nil_append,zbgl] at e
 rw [Wy.fin_bn];simp only [tT,e,Wy.fin_k]
def kpR (a:yC) (i k:Nat):Bool:=decide (k=i)|| !dvF (a.getD k default).Fs (a.getD i default).Fs
theorem zbiA (a:yC) (ha:∀ t∈a,zcs (zo 11) t.Fs) (hl:a.length<=1000000) (i:Nat) (hi:i<a.length) (o:yC):
  ∀ (n k m:Nat) (kp:Bool),m=a.length - k->a.length<k+n->k<=a.length->zBg n a i kp k o=(true,(a,(i:Int),(kp&&zeH (kpR a i) m k),o))
 | 0,k,m,kp,hm,h,h2=>by omega
 | n+1,k,m,kp,hm,h,h2=>by
  show (zGF a i kp k o).ev (λx y=>zBg n x.1 x.2.2.1 x.2.2.2.1 x.2.2.2.2.1 y.1) (λr=>(true,r)) (false,default)=_
  unfold zGF;by_cases hk:k<a.length
  ·obtain ⟨m',rfl⟩:∃ m',m=m'+1:=⟨m - 1,by omega⟩
   have key:=λf'=>zbiA a ha hl i hi o n (k+1) m' f' (by omega) (by omega) (by omega)
   simp only [Wy.ev_i,Wy.ev_k,Wy.ev_h,Wy.ev_bn,Wy.ev_d,tT,hk,hi,zbji,zbdn (ha _ (zp hk)) (by omega:11<=99) (ha _ (zp hi)).1,zL (show k<4611686018427387904 by omega),key]
   have e:zeH (kpR a i) (m'+1) k=(kpR a i k&&zeH (kpR a i) m' (k+1)):=rfl;rw [e];unfold kpR;cases kp with
   | false=>rfl
   | true=>
    by_cases hki:k=i
    ·rw [decide_eq_true hki]; rfl
    ·rw [decide_eq_false hki]; rfl
  ·have hm0:m=0:=by omega
   subst hm0;simp only [Wy.ev_i,Wy.ev_k,Wy.ev_h,Wy.ev_bn,Wy.ev_d,tT,hk];show (true,(a,(i:Int),kp,o))=_;rw [show zeH (kpR a i) 0 k=true from rfl,Bool.and_true]
def z1C (a:yC) (i:Nat):Bool:=zeH (kpR a i) a.length 0
theorem zbfj (a:yC) (ha:∀ t∈a,zcs (zo 11) t.Fs) (hl:a.length<=1000000):
  ∀ (n i:Nat) (o:yC),a.length<i+n->i<=a.length->o.length<=i->zGJ n a i o=(true,o++zWS (z1C a) a i)
 | 0,i,o,h,h2,h3=>by omega
 | n+1,i,o,h,h2,h3=>by
  show (zHj a i o).ev (λx y=>zGJ n x.1 x.2.2.1 y.1) (λr=>(true,r)) (false,default)=_
  unfold zHj;by_cases hi:i<a.length
  ·have e7:=zbiA a ha hl i hi o (a.length+i+Int.toNat (0:Int)+o.length+1000) 0 a.length true (by omega) (by omega) (by omega)
   rw [show ((0:Nat):Int)=(0:Int) from rfl,Bool.true_and] at e7
   replace e7:zBg (a.length+i+Int.toNat (0:Int)+o.length+1000) a i true 0 o=(true,(a,(i:Int),z1C a i,o)):=e7;simp only [Wy.ev_i,Wy.ev_k,Wy.ev_h,Wy.ev_bn,Wy.ev_d,tT,hi,e7];rw [zbea hi];have r1:decide ((o.length+([TO.mk (1:Int) (a.getD i default).Fs]:yC).length)*32<=zN)=true:=decide_eq_true (z5m (by simp; omega) (by omega))
   cases z1C a i with
   | true=>
    simp only [cond_true,cond_false,r1,zL (show i<4611686018427387904 by omega)]
    rw [zbfj a ha hl n (i+1) _ (by omega) (by omega) (by simp; omega)]
    simp
   | false=>
    simp only [cond_true,cond_false,zL (show i<4611686018427387904 by omega)]
    rw [zbfj a ha hl n (i+1) _ (by omega) (by omega) (by omega)]
    simp
  ·simp only [Wy.ev_i,Wy.ev_k,Wy.ev_h,Wy.ev_bn,Wy.ev_d,tT,hi,zbdY hi];simp
theorem zbgH {a:yC} (h:Canon a) {i:Nat} (hi:i<a.length):z1C a i=zSw a (a.getD i default):=by
 unfold z1C;rw [Bool.eq_iff_iff,zed,zbcj];unfold kpR;constructor
 ·intro hk u hu hd;obtain ⟨k,hkl,rfl⟩:=zJS hu;by_cases e:k=i
  ·rw [e]
  ·have:=hk k (by omega) (by omega)
   rw [hd,decide_eq_false e] at this; cases this
 ·intro hm k _ hk;by_cases e:k=i
  ·rw [decide_eq_true e]; rfl
  ·rw [decide_eq_false e,Bool.false_or];cases hd:dvF (a.getD k default).Fs (a.getD i default).Fs with
   | false=>rfl
   | true=>
    have:=hm _ (zp (by omega:k<a.length)) hd
    exact absurd (zbb8 h.dst (by omega) hi this) e
theorem zbag {a:yC} (ha:∀ t∈a,zcs (zo 11) t.Fs) (hl:a.length<=1000000) (hc:Canon a):zw8 a=(true,zy4 a):=by
 unfold zw8 zUJ;have e:=zbfj a ha hl (a.length+Int.toNat (0:Int)+0+1000) 0 [] (by omega) (by omega) (by simp)
 rw [show ((0:Nat):Int)=(0:Int) from rfl,List.nil_append] at e
 rw [Wy.fin_bn,e,cond_true,Wy.fin_k];congr 1;unfold zWS zy4;rw [List.drop_zero, <- zMD (zSw a) a,List.map_map]
 have:(List.range a.length).filter (z1C a)=(List.range a.length).filter λi=>zSw a (a.getD i default):=by
  refine List.filter_congr λi hi=> ?_
  exact zbgH hc (List.mem_range.1 hi)
 rw [this]; rfl
theorem zbjq (a:yC):(zy4 a).length<=a.length:=by
 unfold zy4;rw [List.length_map]; exact List.length_filter_le _ _
theorem z1X {a:yC} (oa:okA a) (hv:zV a=true):okA (zy4 a):=by
 obtain ⟨_,hl,ht⟩:=znD hv oa.2.1;refine z1I (by have:=zbjq a; omega) λt h=> ?_
 obtain ⟨u,hu,_,rfl⟩:=zPk.1 h;have g:=(ht u hu).1;exact ⟨⟨by show (1:Int)<=1; omega,by show (1:Int)<=1152921504606846976; omega⟩,g.2.1,g.2.2⟩
theorem zbld {a:yC} (h:zb0 a):zb0 (zy4 a):=zAh.2 λt ht f hf=>by
 obtain ⟨u,hu,_,rfl⟩:=zPk.1 ht;exact zAh.1 h u hu f hf
theorem zbjX {a:yC} (hv:zV a=true):z1a a []=(a,0):=by
 unfold z1a opR;rw [hv];show ofS (zcu (toA []) a [])=_;rw [show toA []=zvv from rfl,zblq hv]; rfl
theorem zbg3 {a:yC} (oa:okA a) (hv:zV a=true) (hs:zb0 a):zqc a=(true,a):=by
 unfold zqc zIz;rw [Wy.fin_bn,(zbaw oa (λ_=>hs) ⟨by simp,λb hb=>by cases hb⟩).1,cond_true,Wy.fin_k,zbjX hv]
theorem z8c {a:yC} (h:zV a=false):nfA a=[]:=by unfold nfA; rw [h]; rfl
theorem zbkp {a:yC} (oa:okA a):okA (nfA a):=by
 cases hv:zV a with
 | false=>rw [z8c hv]; exact zkp
 | true=>rw [zbcF hv]; exact z1X oa hv
theorem zbfX {a:yC} (oa:okA a) (hs:zV a=true->zb0 a):zmw a=(true,nfA a):=by
 unfold zmw zIk;rw [Wy.fin_bn,oa.valid,cond_true,Wy.fin_i];cases hv:zV a with
 | false=>rw [z8c hv]; rfl
 | true=>
  rw [Bool.not_true,cond_false,Wy.fin_bn,z54 oa.fac oa.len,cond_true,z6i (zPA hv).canon,Wy.fin_bn,zbg3 (z1X oa hv) (zbgV hv) (zbld (hs hv)),cond_true,Wy.fin_k,zbcF hv]
theorem zbfe {a:yC} (oa:okA a):zCW a=(true,nfA a):=by
 unfold zCW zUg;rw [Wy.fin_bn,oa.rvalid,cond_true,Wy.fin_i];cases hv:zV a with
 | false=>rw [z8c hv]; rfl
 | true=>rw [Bool.not_true,cond_false,Wy.fin_bn,zbag oa.fac oa.len (zPA hv).canon,cond_true,Wy.fin_k,zbcF hv]
theorem zbaZ {a:yC} (oa:okA a):zlk a=(true,zV a&&decide (zy4 a=a)):=by
 unfold zlk zDS;rw [Wy.fin_bn,oa.valid,cond_true,Wy.fin_i];cases hv:zV a with
 | false=>rfl
 | true=>
  rw [cond_true,Wy.fin_bn,z54 oa.fac oa.len,cond_true,z6i (zPA hv).canon,Wy.fin_bn,zsO (z1X oa hv).1.1 (by omega),cond_true,Wy.fin_k,Bool.true_and]
theorem zbdO {a:yC} (oa:okA a):zxC a=(true,zV a&&decide (zy4 a=a)):=by
 unfold zxC zP0;rw [Wy.fin_bn,oa.rvalid,cond_true,Wy.fin_i];cases hv:zV a with
 | false=>rfl
 | true=>
  rw [cond_true,Wy.fin_bn,zbag oa.fac oa.len (zPA hv).canon,cond_true,Wy.fin_bn,zAl (z1X oa hv).1.1 (by omega),cond_true,Wy.fin_k,Bool.true_and]
theorem zblv {a:yC} (oa:okA a) (b:yC):zmu a b=(true,decide (a=b)):=zAl oa.1.1 (by omega) b
theorem zbmh {n:Nat} (hn:n<=1000) {a:yC} (ha:zbbF a):∃ q,zC5 (n:Int) [a]=(true,q)/\(q=true->okA a/\ze0 a<=n):=by
 obtain ⟨q,h1,h2⟩:=zbkq n hn [a] (by simp) (λx hx=>by rw [qh] at hx; subst hx; exact ha)
 exact ⟨q,h1,λh=>⟨zbjp hn (h2 h a (by simp)) ha,(h2 h a (by simp)).2⟩⟩
end Go.Proofs.YtljlfiomikifjaaGreatDoor
/- The law of the normal form. -/
set_option maxRecDepth 100000
namespace Go.Proofs.YtljlfiomikifjaaGreatDoor
open Go Go.Ab
theorem zbjI {a:yC} {n:Nat} (h:ze0 a<=n) (hn:n<=78):zV a=true->zb0 a:=λhv=>z4x 100 a hv (by omega)
theorem z48 (a:yC) (ha:zbbF a):zfk a=(true,true):=by
 obtain ⟨q,q1,q2⟩:=zbmh (n:=60) (by omega) ha
 have l5:okA a->(zV a=true->zb0 a)->zv1 1 a=(true,true):=λoa sa=>by
  show (zmV a).ev (zC zmT default 0) (λr=>(true,r)) (false,default)=_
  unfold zmV;simp only [Wy.ev_i,Wy.ev_bn,Wy.ev_k,zbfX oa sa,zbfe oa,zblv (zbkp oa),zbaZ oa,zbdO oa,cond_true,decide_true,beq_self_eq_true]
 have l3:zv8 1 a=(true,true):=by
  show (zmR a).ev (zC zmS default 0) (λr=>(true,r)) (false,default)=_
  unfold zmR;replace q1:zC5 (60:Int) [a]=(true,q):=q1;simp only [Wy.ev_i,Wy.ev_bn,Wy.ev_k,q1,cond_true];cases q with
  | false=>rfl
  | true=>
   obtain ⟨oa,wa⟩:=q2 rfl;rw [l5 oa (zbjI wa (by omega))]
   rfl
 unfold zfk zxF;rw [Wy.fin_bn,l3]; rfl
end Go.Proofs.YtljlfiomikifjaaGreatDoor
end
