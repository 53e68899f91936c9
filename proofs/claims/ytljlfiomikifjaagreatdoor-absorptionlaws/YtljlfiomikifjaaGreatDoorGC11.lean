/- Texts of this claim, joined (the program, its functions in plain words, and what they compute). -/
import Derived.Test.YtljlfiomikifjaaGreatDoorGC10
set_option autoImplicit false
set_option linter.unusedVariables false
set_option linter.unusedSectionVars false
set_option linter.unusedSimpArgs false
set_option maxRecDepth 1000000
set_option maxHeartbeats 0
/- Substitution commutes with the operations; without bindings it changes nothing. -/
noncomputable section
namespace Go.Proofs.YtljlfiomikifjaaGreatDoor
open Go Go.Ab
mutual
def zbhK (to:RowID→yC):At→yC
 | ⟨k,r,a,f,i,o,b⟩=>if k=0 then to r else if k=1 then zbiO ((zWt to a).getD 0 default) ((zWt to a).getD 1 default) else if k=2 then zbiw ((zWt to a).getD 0 default)
  else if k=3 then zbiD ((zWt to a).getD 0 default) else zbiv f (zba2 to i) o b
def zbdv (to:RowID→yC):yD→yC
 | []=>[⟨1,[]⟩]
 | ⟨x,e⟩::r=>zgi (zbha (zbhK to x) e.toNat) (zbdv to r)
def zbb8 (to:RowID→yC):yC→yC→yC
 | [],s=>s
 | ⟨c,fs⟩::r,s=>zbb8 to r (zeo s (zgi [⟨c,[]⟩] (zbdv to fs)))
def zWt (to:RowID→yC):yA→yA
 | []=>[]
 | a::r=>zbb8 to a []::zWt to r
def zba2 (to:RowID→yC):yE→yE
 | []=>[]
 | ⟨v,a⟩::r=>⟨v,zbb8 to a []⟩::zba2 to r
end
section
variable (to:RowID→yC)
variable {to} (hto:∀ r,PA (to r))
include hto
omit hto in
theorem zbgl {c:Int} (h:1≤c∧c≤1152921504606846976):zxs c=[⟨c,[]⟩]:=by
 unfold zxs; rw [if_neg (by omega),if_neg (by omega)]
end
theorem zzR {a:yC}:zeD a=true↔a.length≤512∧zbs a≤8∧zN a≤4096∧∀ t∈a,t.Fs.length≤64∧∀ f∈t.Fs,f.Exp≤64∧f.At.Items.length≤1024:=by
 refine ⟨zw0,fun ⟨h1,h2,h3,h4⟩=> ?_⟩
 unfold zeD;simp only [qc,qe];refine ⟨⟨⟨h1,h2⟩,h3⟩,List.all_eq_true.2 fun t ht=> ?_⟩
 obtain ⟨h5,h6⟩:=h4 t ht;unfold zCH;rw [Bool.not_eq_true',Bool.or_eq_false_iff];refine ⟨by simp; omega, ?_⟩
 rw [List.any_eq_false];intro f hf;obtain ⟨h7,h8⟩:=h6 f hf;simp;exact ⟨h7,h8⟩
theorem z4o:∀ a b:yC,zN (a++b)=zN a+zN b
 | [],b=>by rw [zty]; simp
 | t::r,b=>by rw [List.cons_append,zet,zet,z4o r b]; omega
theorem z3m:∀ a b:yC,zbs (a++b)=max (zbs a) (zbs b)
 | [],b=>by rw [zEC]; simp
 | t::r,b=>by rw [List.cons_append,zmT,zmT,z3m r b]; omega
theorem zGQ:∀ a b:yD,zbN (a++b)=zbN a+zbN b
 | [],b=>by rw [ziF]; simp
 | t::r,b=>by rw [List.cons_append,zc9,zc9,zGQ r b]; omega
theorem zGT:∀ a b:yD,zdl (a++b)=max (zdl a) (zdl b)
 | [],b=>by rw [zqk]; simp
 | t::r,b=>by rw [List.cons_append,zjj,zjj,zGT r b]; omega
structure FB (l:yD):Prop where
 len:l.length≤64
 nes:zdl l≤8
 siz:1+l.length+zbN l≤4096
 fs:∀ f∈l,f.Exp≤64∧f.At.Items.length≤1024
theorem FB.wi {l:yD} (h:FB l) (c:Int):zeD [⟨c,l⟩]=true:=zzR.2 ⟨by simp,by rw [zmT,zEC]; have:=h.nes; simp only; omega,by rw [zet,zty]; have:=h.siz; simp only; omega,fun t ht=>by
 rw [qh] at ht; subst ht; exact ⟨h.len,h.fs⟩⟩
theorem FB.of {a:yC} (h:zeD a=true) {t:Term} (ht:t∈a):FB t.Fs:=by
 obtain ⟨h1,h2,h3,h4⟩:=zzR.1 h;obtain ⟨h5,h6⟩:=h4 t ht;refine ⟨h5,Nat.le_trans (z2Y ht) h2, ?_,h6⟩
 have key:∀ {a:yC},t∈a→1+t.Fs.length+zbN t.Fs≤zN a:=by
  intro a;induction a with
  | nil=>intro h; cases h
  | cons u r ih=>
   intro h;rw [zet];rcases qd.1 h with rfl | h
   ·omega
   ·have:=ih h; omega
 have:=key ht;omega
theorem FB.app {a b:yD} (h:FB (a++b)):FB a∧FB b:=by
 obtain ⟨h1,h2,h3,h4⟩:=h;rw [qg] at h1 h3;rw [zGT] at h2;rw [zGQ] at h3;exact ⟨⟨by omega,by omega,by omega,fun f hf=>h4 f (by simp [hf])⟩,⟨by omega,by omega,by omega,fun f hf=>h4 f (by simp [hf])⟩⟩
theorem FB.exp {P:yD} {x:At} {e j:Int} (h:FB (P++[⟨x,e⟩])) (hj:j≤64):FB (P++[⟨x,j⟩]):=by
 obtain ⟨h1,h2,h3,h4⟩:=h;rw [qg] at h1 h3;rw [zGT,zjj,zqk] at h2;rw [zGQ,zc9,ziF] at h3;refine ⟨by rw [qg]; exact h1,by rw [zGT,zjj,zqk]; exact h2,by rw [qg,zGQ,zc9,ziF]; exact h3,fun f hf=> ?_⟩
 rcases List.mem_append.1 hf with hf | hf
 ·exact h4 f (by simp [hf])
 ·rw [qh] at hf; subst hf;exact ⟨hj,(h4 ⟨x,e⟩ (by simp)).2⟩
theorem OKF.app {a b:yD} (h:OKF zos (a++b)):OKF zos a∧OKF zos b:=⟨⟨(List.pairwise_append.1 h.1).1,fun f hf=>h.2 f (by simp [hf])⟩,⟨(List.pairwise_append.1 h.1).2.1,fun f hf=>h.2 f (by simp [hf])⟩⟩
theorem OKF.exp {P:yD} {x:At} {e j:Int} (h:OKF zos (P++[⟨x,e⟩])) (h1:1≤j) (h2:j≤e):OKF zos (P++[⟨x,j⟩]):=by
 have hx:=h.2 ⟨x,e⟩ (by simp)
 refine ⟨List.pairwise_append.2 ⟨(List.pairwise_append.1 h.1).1,by simp,fun a ha b hb=> ?_⟩,fun f hf=> ?_⟩
 ·rw [qh] at hb; subst hb;exact (List.pairwise_append.1 h.1).2.2 a ha ⟨x,e⟩ (by simp)
 ·rcases List.mem_append.1 hf with hf | hf
  ·exact h.2 f (by simp [hf])
  ·rw [qh] at hf; subst hf;refine ⟨⟨h1,fun hk=> ?_⟩,hx.2⟩
   have:=hx.1.2 hk;have h3:e=1:=this;show j=1;omega
theorem z3f {c:Int} {F:yD} (hc:1≤c∧c≤1152921504606846976) (hF:OKF zos F) (hb:FB F):zQ [⟨c,F⟩]=true:=zkm.2 ⟨hb.wi c,by simp,fun t ht=>by
 rw [qh] at ht; subst ht; exact ⟨hc,hF⟩⟩
theorem z6y {y:Fc}:∀ {P:yD},(∀ z∈P,cF z y<0)→zbt P [y]=P++[y]
 | [],_=>by rw [zbt]; rfl
 | z::r,h=>by rw [zbt,if_pos (h z (by simp)),z6y fun w hw=>h w (by simp [hw])]; rfl
theorem zWU {x:At} {j:Int} (hk:¬ (x.Kind=3∨x.Kind=4)):∀ {P:yD},(∀ z∈P,cF z ⟨x,1⟩<0)→zbt (P++[⟨x,j⟩]) [⟨x,1⟩]=P++[⟨x,j+1⟩]
 | [],_=>by
  have e:cF ⟨x,j⟩ ⟨x,1⟩=0:=cF_self' rfl;show zbt [⟨x,j⟩] [⟨x,1⟩]=[⟨x,j+1⟩];rw [zbt,e,if_neg (by omega),if_neg (by omega),if_neg hk,zbt]
 | z::r,h=>by
  show zbt (z::(r++[⟨x,j⟩])) [⟨x,1⟩]=_;rw [zbt,if_pos (h z (by simp)),zWU hk fun w hw=>h w (by simp [hw])]; rfl
theorem z7a {c:Int} (hc:1≤c∧c≤1152921504606846976) (M:yD) (x:At):zgi [⟨c,M⟩] (zcy x)=[⟨c,zbt M [⟨x,1⟩]⟩]:=by
 show zeo [] [zk7 ⟨c,M⟩ ⟨1,[⟨x,1⟩]⟩]=_;unfold zk7;simp only [zbb7 hc.2];rfl
section
variable {c:Int} (hc:1≤c∧c≤1152921504606846976)
include hc
theorem z9z {P:yD} {x:At} {e:Int} (hF:OKF zos (P++[⟨x,e⟩])) (hb:FB (P++[⟨x,e⟩])) (hv:zQ (zcy x)=true):
  ∀ (n j:Nat),1≤j→(j+n:Int)=e→zzY (zcy x) n [⟨c,P++[⟨x,(j:Int)⟩]⟩]=.inr [⟨c,P++[⟨x,e⟩]⟩]
 | 0,j,_,h=>by rw [show (j:Int)=e from by omega]; rfl
 | n+1,j,h1,h=>by
  have he:=(hF.2 ⟨x,e⟩ (by simp)).1
  have he64:=(hb.fs ⟨x,e⟩ (by simp)).1
  have hk:¬ (x.Kind=3∨x.Kind=4):=fun hk=>by
   have:e=1:=he.2 hk;omega
  have he64:e≤64:=he64;have hj:=z3f hc (hF.exp (j:=(j:Int)) (by omega) (by omega)) (hb.exp (j:=(j:Int)) (by omega))
  have hlt:∀ z∈P,cF z ⟨x,1⟩<0:=fun z hz=>(List.pairwise_append.1 hF.1).2.2 z hz ⟨x,e⟩ (by simp)
  have hp:zgi [⟨c,P++[⟨x,(j:Int)⟩]⟩] (zcy x)=[⟨c,P++[⟨x,((j+1:Nat):Int)⟩]⟩]:=by
   rw [z7a hc,zWU hk hlt]; rfl
  unfold zzY;rw [z5c hj hv (by rw [hp]; exact (hb.exp (by omega)).wi c),hp,z99,zcc]
  exact z9z hF hb hv n (j+1) (by omega) (by omega)
theorem z8z:∀ {l:yD} {P:yD},OKF zos (P++l)→FB (P++l)→(∀ f∈l,zeA zub f.At=.inr (zcy f.At)∧zQ (zcy f.At)=true)→zdr zub l [⟨c,P⟩]=.inr [⟨c,P++l⟩]
 | [],P,_,_,_=>by rw [zIz,List.append_nil]
 | ⟨x,e⟩::r,P,hF,hb,h=>by
  have hx:=h ⟨x,e⟩ (by simp)
  have e2:P++⟨x,e⟩::r=(P++[⟨x,e⟩])++r:=by simp
  rw [e2] at hF hb ⊢;have hF1:=hF.app.1;have hb1:=hb.app.1;have he:=(hF1.2 ⟨x,e⟩ (by simp)).1.1
  have he:1≤e:=he;have he64:e≤64:=(hb1.fs ⟨x,e⟩ (by simp)).1
  rw [zFO,show zeA zub (⟨x,e⟩:Fc).At=.inr (zcy x) from hx.1,zcc]
  have hp:zzY (zcy x) (⟨x,e⟩:Fc).Exp.toNat [⟨c,P⟩]=.inr [⟨c,P++[⟨x,e⟩]⟩]:=by
   obtain ⟨n,hn⟩:∃ n:Nat,e=n+1:=⟨(e - 1).toNat,by omega⟩
   show zzY (zcy x) e.toNat [⟨c,P⟩]=_;rw [show e.toNat=n+1 from by omega]
   have hv0:zQ [⟨c,P⟩]=true:=z3f hc hF1.app.1 hb1.app.1;have hlt:∀ z∈P,cF z ⟨x,1⟩<0:=fun z hz=>(List.pairwise_append.1 hF1.1).2.2 z hz ⟨x,e⟩ (by simp)
   have hp:zgi [⟨c,P⟩] (zcy x)=[⟨c,P++[⟨x,1⟩]⟩]:=by rw [z7a hc,z6y hlt]
   unfold zzY;rw [z5c hv0 hx.2 (by rw [hp]; exact (hb1.exp (by omega)).wi c),hp,z99,zcc]
   exact z9z hc hF1 hb1 hx.2 n 1 (by omega) (by omega)
  rw [hp,zcc];exact z8z hF hb fun f hf=>h f (by simp [hf])
end
theorem zIm {s r:yC} (h:zQ (s++r)=true):zQ s=true∧zQ r=true:=by
 obtain ⟨h1,h2,h3⟩:=zkm.1 h;obtain ⟨w1,w2,w3,w4⟩:=zzR.1 h1;rw [qg] at w1;rw [z3m] at w2;rw [z4o] at w3
 exact ⟨zkm.2 ⟨zzR.2 ⟨by omega,by omega,by omega,fun t ht=>w4 t (by simp [ht])⟩,(List.pairwise_append.1 h2).1,fun t ht=>h3 t (by simp [ht])⟩,
  zkm.2 ⟨zzR.2 ⟨by omega,by omega,by omega,fun t ht=>w4 t (by simp [ht])⟩,(List.pairwise_append.1 h2).2.1,fun t ht=>h3 t (by simp [ht])⟩⟩
theorem z8Y:∀ {r s:yC},zQ (s++r)=true→(∀ t∈r,∀ f∈t.Fs,zeA zub f.At=.inr (zcy f.At)∧zQ (zcy f.At)=true)→zcr zub r s=.inr (s++r)
 | [],s,_,_=>by rw [zXI,List.append_nil]
 | t::r,s,hv,h=>by
  have e2:s++t::r=(s++[t])++r:=by simp
  rw [e2] at hv ⊢;obtain ⟨h1,h2⟩:=zkm.1 (zIm hv).1;have ht:=h2.2 t (by simp)
  have hb:FB t.Fs:=FB.of h1 (by simp)
  have hf:=z8z ht.1 (l:=t.Fs) (P:=[]) ht.2 hb (h t (by simp))
  have hadd:ze5 s [t]=(s++[t],0):=by
   have e:zeo s [t]=s++[t]:=z6l _ _ h2.1;rw [zbba (zIm (zIm hv).1).1 (zIm (zIm hv).1).2 (by rw [e]; exact h1),e]
  rw [zSz,zbgl ht.1,hf,zcc];show sbd (opS (ze5 s [t])) _=_;rw [hadd,z99,zcc];exact z8Y hv fun u hu=>h u (by simp [hu])
theorem zbej {d:Nat} {l:yE} (hl:l.length≤1000000) (h:∀ w∈l,zp d w.Ann∧w.Ann≠[]) (hd:d≤99) (hs:zXU l=true):zdW l=l:=by
 have e:l.filter zlT=l:=List.filter_eq_self.2 fun w hw=>by
  have:=(h w hw).2;unfold zlT;cases hx:w.Ann with
  | nil=>exact absurd hx this
  | cons x r=>simp
 unfold zdW;rw [e]
 have hp:l.Pairwise fun x y=>zbc (zbf x) (zbf y)≤0:=zvS (R:=fun x y=>zbc (zbf x) (zbf y)≤0) (fun x y z h1 h2=>zwQ _ _ _ h1 h2) l fun k hk hl'=>by
  have:=zem.1 hs k (by omega) (by omega)
  unfold zTA at this;rw [Bool.or_eq_true,qe,qe] at this;rcases this with e | e
  ·omega
  ·exact e
 refine ((zLb hl (fun w hw=>(h w hw).1) hd).unique (.refl _) ?_).symm
 refine hp.imp_of_mem fun {x y} hx hy hxy=> ?_
 rw [zj2 (h y hy).1 hd,zgX (zbf x) (zbf y)];simp only; omega
def AB (x:At):Prop:=zn5 x≤8∧zfd x+2≤4096∧x.Items.length≤1024
theorem AB.wi {x:At} (h:AB x):zeD (zcy x)=true:=(FB.wi (l:=[⟨x,1⟩]) ⟨by simp,by rw [zjj,zqk]; have:=h.1; simp only; omega,by rw [zc9,ziF]; have:=h.2.1; simp only [List.length_singleton]; omega,fun f hf=>by
 rw [qh] at hf; subst hf; exact ⟨by simp,h.2.2⟩⟩ 1)
theorem AB.of {l:yD} (h:FB l) {f:Fc} (hf:f∈l):AB f.At:=by
 refine ⟨Nat.le_trans (zRk hf) h.nes, ?_,(h.fs f hf).2⟩;have h1:=zQx hf
 have h2:1≤l.length:=by cases l with
  | nil=>cases hf
  | cons a r=>simp
 have:=h.siz;omega
theorem zbfS {m:Nat} (hA:∀ a,zbF m a=true→zcr zub a []=.inr a) (x:At) (h:zd9 (zbF m) x=true) (hx:AB x):zeA zub x=.inr (zcy x):=by
 have hw:=hx.wi;rw [zW6];cases zdv.1 h with
 | var r hr=>
  simp only [if_true];unfold zub; rw [hr]; rfl
 | mon a b ha hb ha0 hb0 hab=>
  simp only [show ¬ (1:Int)=0 from by omega,if_false,if_true]
  rw [zyl,hA a ha,zcc,zyl,hA b hb,zcc,zA8,zcc,zcc,zcc];show opS (zT9 a b)=_;unfold zT9 opR;rw [zAe ha,zAe hb,if_neg hb0,if_neg (by simp [ha0,hab])]
  show opS (znm (zcy (zbcA a b)))=_;rw [zKV (a:=zcy (zbcA a b)) hw]; rfl
 | del a ha ha0 hc hu=>
  simp only [show ¬ (2:Int)=0 from by omega,show ¬ (2:Int)=1 from by omega,if_false,if_true]
  rw [zyl,hA a ha,zcc,zA8,zcc,zcc];show opS (zUp a)=_;unfold zUp opR;rw [zAe ha,if_neg (by simp [ha0,hu]),if_neg (by simp [hc])]
  show opS (znm (zcy (z6p a)))=_;rw [zKV (a:=zcy (z6p a)) hw]; rfl
 | abs a ha ha0 hc=>
  simp only [show ¬ (3:Int)=0 from by omega,show ¬ (3:Int)=1 from by omega,show ¬ (3:Int)=2 from by omega,if_false,if_true]
  rw [zyl,hA a ha,zcc,zA8,zcc,zcc];show opS (zUl a)=_;unfold zUl opR;rw [zAe ha,if_neg ha0,if_neg (by simp [hc])]
  show opS (znm (zcy (zbbS a)))=_;rw [zKV (a:=zcy (zbbS a)) hw]; rfl
 | tst f l o b hl hi hs hf=>
  simp only [show ¬ (4:Int)=0 from by omega,show ¬ (4:Int)=1 from by omega,show ¬ (4:Int)=2 from by omega,show ¬ (4:Int)=3 from by omega,if_false]
  have key:∀ l:yE,(∀ w∈l,zbF m w.Ann=true)→zfB zub l=.inr l:=by
   intro l;induction l with
   | nil=>intro _; rw [zGP]
   | cons w r ih=>
    intro hm;rw [zMm,hA w.Ann (hm w (by simp)),zcc,ih fun v hv=>hm v (by simp [hv]),zcc]
  have hlen:l.length≤1024:=hx.2.2;have hs':=zbej (d:=9) (l:=l) (by omega) (fun w hw=>⟨(ze8 (hi w hw).1).1,(hi w hw).2⟩) (by omega) hs
  rw [zA8,zcc,key l fun w hw=>(hi w hw).1,zcc]
  show opS (zzp f l o b)=_;unfold zzp;have hall:(l.all fun w=>zQ w.Ann)=true:=List.all_eq_true.2 fun w hw=>zAe (hi w hw).1
  have hpos:0<l.length:=by cases l with
   | nil=>exact absurd rfl hl
   | cons a r=>simp
  rw [hf,hall,hs',decide_eq_true hpos];show opS (znm (zcy (zPv f l o b)))=_;rw [zKV (a:=zcy (zPv f l o b)) hw]; rfl
theorem zbc7:∀ m,∀ a,zbF m a=true→zcr zub a []=.inr a
 | 0,a,h=>by cases h
 | m+1,a,h=>by
  obtain ⟨h1,_,h3⟩:=zTi.1 (show zyz (zd9 (zbF m)) a=true from h)
  exact z8Y (s:=[]) (zAe h) fun t ht f hf=>by
   have hb:=AB.of (FB.of h1 ht) hf;have hv:=((h3 t ht).2.2 f hf).2;exact ⟨zbfS (zbc7 m) f.At hv hb,zbcf (zSO.2 ((zdv.1 hv).imp fun a ha=>zAe ha)) hb.wi⟩
theorem zbhO {a:yC} (h:zQ a=true):zcr zub a []=.inr a:=zbc7 100 a h
theorem zbfs (a b:yD):cL a b=zbO (zbD a) (zbD b):=by unfold cL; rw [zbc]
theorem PA.canon {a:yC} (h:PA a):Canon a:=⟨h.1.imp fun {x y} hxy=>by rw [zbfs]; exact hxy,fun t ht=>(h.2 t ht).2.1⟩
theorem z8i {a b:yD} (ha:MF a) (hb:MF b):dvF a b=true↔∀ x,exA x a≤exA x b:=by
 rw [zF3];constructor
 ·intro h x;by_cases h0:exA x a=0
  ·rw [h0]; exact (zyo hb).1
  ·obtain ⟨f,hf,rfl⟩:=(zyo ha).2 h0;obtain ⟨g,hg,e1,e2⟩:=h f hf;rw [zKZ ha hf,e2,zKZ hb hg]; exact e1
 ·intro h f hf;have h1:=h f.At;rw [zKZ ha hf] at h1;have h2:=(ha.2 f hf).2;obtain ⟨g,hg,e⟩:=(zyo hb).2 (show exA f.At b≠0 by omega)
  rw [← e,zKZ hb hg] at h1;exact ⟨g,hg,h1,e.symm⟩
theorem z9M {a b:yD} (ha:MF a) (hb:MF b):dvF a (zbt a b)=true:=(z8i ha (zQP ha hb)).2 fun x=>by
 rw [z6r x ha hb];have h1:=(zyo (x:=x) ha).1;have h2:=(zyo (x:=x) hb).1;unfold cbE;split
 ·split <;>omega
 ·omega
theorem z9N {a b a' b':yD} (ha:MF a) (hb:MF b) (ha':MF a') (hb':MF b') (h1:dvF a a'=true) (h2:dvF b b'=true):dvF (zbt a b) (zbt a' b')=true:=(z8i (zQP ha hb) (zQP ha' hb')).2 fun x=>by
 rw [z6r x ha hb,z6r x ha' hb'];have e1:=(z8i ha ha').1 h1 x;have e2:=(z8i hb hb').1 h2 x;have p1:=(zyo (x:=x) ha).1;have p2:=(zyo (x:=x) hb).1;unfold cbE;by_cases hk:x.Kind=3∨x.Kind=4
 ·have i1:=zUh ha hk;have i2:=zUh hb hk;have i3:=zUh ha' hk;have i4:=zUh hb' hk;rw [if_pos hk,if_pos hk];split <;>split <;>omega
 ·rw [if_neg hk,if_neg hk]; omega
theorem zbh1 (a:yD):dvF [] a=true:=rfl
theorem zbf8 {t:Term} {l:yC} (h:Srs l) (L:yD):(∃ y∈zhO t l,y.Fs=L)↔(∃ x∈l,x.Fs=L)∨t.Fs=L:=by
 constructor
 ·rintro ⟨y,hy,rfl⟩
  rcases (zAU h).1 hy with ⟨h1,_⟩ | ⟨h1,_⟩
  ·exact .inl ⟨y,h1,rfl⟩
  ·exact .inr h1.symm
 ·intro hh;by_cases e:t.Fs=L
  ·subst e;by_cases hx:∃ x∈l,x.Fs=t.Fs
   ·obtain ⟨x,hx,e⟩:=hx;exact ⟨⟨zzn x.Cf t.Cf,t.Fs⟩,(zAU h).2 (.inr ⟨rfl,.inl ⟨x,hx,e,rfl⟩⟩),rfl⟩
   ·exact ⟨t,(zAU h).2 (.inr ⟨rfl,.inr ⟨fun x hx' e=>hx ⟨x,hx',e⟩,rfl⟩⟩),rfl⟩
  ·rcases hh with ⟨x,hx,rfl⟩ | hh
   ·exact ⟨x,(zAU h).2 (.inl ⟨hx,fun e'=>e e'.symm⟩),rfl⟩
   ·exact absurd hh e
theorem zRW:∀ (b a:yC),Srs a→∀ L,(∃ y∈zeo a b,y.Fs=L)↔(∃ x∈a,x.Fs=L)∨∃ x∈b,x.Fs=L
 | [],a,h,L=>by
  show (∃ y∈a,y.Fs=L)↔_;simp
 | t::r,a,h,L=>by
  show (∃ y∈zeo (zhO t a) r,y.Fs=L)↔_;rw [zRW r _ (zAT h) L,zbf8 h];simp only [qd,exists_eq_or_imp];constructor
  ·rintro ((h1 | h1) | h1)
   ·exact .inl h1
   ·exact .inr (.inl h1)
   ·exact .inr (.inr h1)
  ·rintro (h1 | h1 | h1)
   ·exact .inl (.inl h1)
   ·exact .inl (.inr h1)
   ·exact .inr h1
theorem zHX {a b:yC} (h:Srs a):zOG a b (zeo a b):=fun L=>zRW b a h L
theorem zMA (a b:yC) (L:yD):(∃ t∈zgi a b,t.Fs=L)↔∃ x∈a,∃ y∈b,zbt x.Fs y.Fs=L:=by
 unfold zgi;rw [zRW _ [] List.Pairwise.nil];constructor
 ·rintro (⟨x,hx,_⟩ | ⟨t,ht,rfl⟩)
  ·cases hx
  ·obtain ⟨x,hx,y,hy,rfl⟩:=zDl ht;exact ⟨x,hx,y,hy,rfl⟩
 ·rintro ⟨x,hx,y,hy,rfl⟩
  exact .inr ⟨zk7 x y,List.mem_flatMap.2 ⟨x,hx,List.mem_map.2 ⟨y,hy,rfl⟩⟩,rfl⟩
theorem z9t {a b:yC} (ha:PA a) (hb:PA b):leS (zgi a b) a=true:=zoa.2 fun t ht=>by
 obtain ⟨x,hx,y,hy,e⟩:=(zMA a b t.Fs).1 ⟨t,ht,rfl⟩;exact ⟨x,hx,by rw [← e]; exact z9M (ha.2 x hx).2 (hb.2 y hy).2⟩
theorem z8I {a b a' b':yC} (ha:PA a) (hb:PA b) (ha':PA a') (hb':PA b') (h1:leS a a'=true) (h2:leS b b'=true):leS (zgi a b) (zgi a' b')=true:=zoa.2 fun t ht=>by
 obtain ⟨x,hx,y,hy,e⟩:=(zMA a b t.Fs).1 ⟨t,ht,rfl⟩;obtain ⟨x',hx',d1⟩:=zoa.1 h1 x hx;obtain ⟨y',hy',d2⟩:=zoa.1 h2 y hy;obtain ⟨u,hu,eu⟩:=(zMA a' b' _).2 ⟨x',hx',y',hy',rfl⟩;exact ⟨u,hu,by rw [eu, ← e]; exact z9N (ha'.2 x' hx').2 (hb'.2 y' hy').2 (ha.2 x hx).2 (hb.2 y hy).2 d1 d2⟩
def zLV (s' s:yC):Prop:=∀ t∈s',∃ u∈s,u.Fs=t.Fs
theorem zYR:∀ (s s':yC),Srs s→Srs s'→zLV s' s→s'.length≤s.length∧zN s'≤zN s∧zbs s'≤zbs s
 | [],s',_,_,h=>by
  cases s' with
  | nil=>exact ⟨Nat.le_refl _,Nat.le_refl _,Nat.le_refl _⟩
  | cons y r=>obtain ⟨u,hu,_⟩:=h y (by simp); cases hu
 | x::r,s',hs,hs',h=>by
  have hc:=qi.1 hs;cases s' with
  | nil=>simp [zty,zEC]
  | cons y r'=>
   have hc':=qi.1 hs';by_cases e:x.Fs=y.Fs
   ·have hsub:zLV r' r:=fun t ht=>by
     obtain ⟨u,hu,eu⟩:=h t (by simp [ht])
     rcases qd.1 hu with rfl | hu
     ·have:=hc'.1 t ht;rw [zC4 (e.symm.trans eu)] at this; omega
     ·exact ⟨u,hu,eu⟩
    obtain ⟨h1,h2,h3⟩:=zYR r r' hc.2 hc'.2 hsub;rw [zet,zet,zmT,zmT,e];simp only [qf];exact ⟨by omega,by omega,by omega⟩
   ·have hxy:cT x y<0:=by
     obtain ⟨u,hu,eu⟩:=h y (by simp)
     rcases qd.1 hu with rfl | hu
     ·exact absurd eu e
     ·have:=hc.1 u hu;unfold cT at this ⊢; rw [← eu]; exact this
    have hsub:zLV (y::r') r:=fun t ht=>by
     obtain ⟨u,hu,eu⟩:=h t ht;rcases qd.1 hu with rfl | hu
     ·have hut:cT u t<0:=by
       rcases qd.1 ht with rfl | ht
       ·exact hxy
       ·exact zGn hxy (hc'.1 t ht)
      rw [zC4 eu] at hut; omega
     ·exact ⟨u,hu,eu⟩
    obtain ⟨h1,h2,h3⟩:=zYR r (y::r') hc.2 hs' hsub;rw [zet x r,zmT x r];simp only [qf] at h1 ⊢;exact ⟨by omega,by omega,by omega⟩
theorem z1H {s s':yC} (hs:Srs s) (hs':Srs s') (h:zLV s' s) (hw:zeD s=true):zeD s'=true:=by
 obtain ⟨w1,w2,w3,w4⟩:=zzR.1 hw;obtain ⟨h1,h2,h3⟩:=zYR s s' hs hs' h;refine zzR.2 ⟨by omega,by omega,by omega,fun t ht=> ?_⟩
 obtain ⟨u,hu,e⟩:=h t ht;rw [← e]; exact w4 u hu
theorem zRK (a:yC):zLV (zcf a) a:=fun t ht=>by
 obtain ⟨u,hu,_,rfl⟩:=zqH.1 ht;exact ⟨u,hu,rfl⟩
theorem zbee {a:yC} (h:QA a):QA (zcf a):=⟨(zDS h.pa.canon).asc.imp fun {x y} hxy=>by rw [zbfs] at hxy; exact hxy,fun t ht=>by
 obtain ⟨u,hu,_,rfl⟩:=zqH.1 ht;exact ⟨by constructor <;>simp,(h.2 u hu).2⟩⟩
theorem zHD {a:yC} (h:zQ a=true):zQ (zcf a)=true:=zkm.2 ⟨z1H (zok h).1 (zbee (zok h)).1 (zRK a) (zS6 h),zbee (zok h)⟩
theorem zbfX {a b a' b':yC} (ha:Srs a) (ha':Srs a') (h1:zLV a' a) (h2:zLV b' b):zLV (zeo a' b') (zeo a b):=fun t ht=>by
 refine (zRW b a ha _).2 ?_;rcases (zRW b' a' ha' _).1 ⟨t,ht,rfl⟩ with ⟨x,hx,e⟩ | ⟨x,hx,e⟩
 ·obtain ⟨u,hu,eu⟩:=h1 x hx;exact .inl ⟨u,hu,eu.trans e⟩
 ·obtain ⟨u,hu,eu⟩:=h2 x hx;exact .inr ⟨u,hu,eu.trans e⟩
theorem zbe4 {a b a' b':yC} (h1:zLV a' a) (h2:zLV b' b):zLV (zgi a' b') (zgi a b):=fun t ht=>by
 refine (zMA a b _).2 ?_;obtain ⟨x,hx,y,hy,e⟩:=(zMA a' b' _).1 ⟨t,ht,rfl⟩;obtain ⟨u,hu,eu⟩:=h1 x hx;obtain ⟨v,hv,ev⟩:=h2 y hy;exact ⟨u,hu,v,hv,by rw [eu,ev]; exact e⟩
def nfA (a:yC):yC:=bif zQ a then zcf a else []
theorem zmo {a:yC} (h:zQ a=true):nfA a=zcf a:=by unfold nfA; rw [h]; rfl
theorem zbgt:zcf [⟨1,[]⟩]=[⟨1,[]⟩]:=by
 have h:zPz [⟨1,[]⟩] ⟨1,[]⟩=true:=zTg.2 fun u hu _=>by rw [qh] at hu; subst hu; rfl
 unfold zcf;rw [List.filter_cons_of_pos h]; rfl
theorem zbf4 {a:yC} (h:(ze5 [⟨1,[]⟩] a).2=0):nfA (ze5 [⟨1,[]⟩] a).1=[⟨1,[]⟩]:=by
 obtain ⟨⟨v1,v2,v3⟩,e⟩:=z3L h;rw [e];have hc:=(zcg v3).canon;rw [zmo v3, ← zbgt];refine zQ2 hc (zcg v1).canon (zoa.2 fun t _=>⟨⟨1,[]⟩,by simp,zbh1 _⟩) ((zHX (zcg v1).1).ge.1)
theorem z9C {a:yC} (h:(ze5 a a).2=0):nfA (ze5 a a).1=nfA a:=by
 obtain ⟨⟨v1,v2,v3⟩,e⟩:=z3L h;rw [e,zmo v3,zmo v1];exact (zbcD (zcg v1).canon (zcg v1).canon (zcg v3).canon (zHX (zcg v1).1)).1 (zSV a)
theorem zbdc {a p:yC} (h:(ze5 a p).2=0) (hp:leS p a=true):nfA (ze5 a p).1=nfA a:=by
 obtain ⟨⟨v1,v2,v3⟩,e⟩:=z3L h;rw [e,zmo v3,zmo v1];have hs:=zHX (b:=p) (zcg v1).1;exact zQ2 (zcg v3).canon (zcg v1).canon (hs.le.2 ⟨zSV a,hp⟩) hs.ge.1
theorem zbdl {a b:yC} (h:(ze5 a b).2=0):(ze5 (zcf a) (zcf b)).2=0∧nfA (ze5 a b).1=nfA (ze5 (zcf a) (zcf b)).1:=by
 obtain ⟨⟨v1,v2,v3⟩,e⟩:=z3L h;have r1:=zHD v1;have r2:=zHD v2;have hw:zeD (zeo (zcf a) (zcf b))=true:=z1H (zcg v3).1 (zbdC (zcg r1) (zcg r2)).1 (zbfX (zcg v1).1 (zcg r1).1 (zRK a) (zRK b)) (zS6 v3);have e':=zbba r1 r2 hw;have v4:zQ (zeo (zcf a) (zcf b))=true:=zkm.2 ⟨hw,zbds (zok r1) (zok r2)⟩;refine ⟨by rw [e'], ?_⟩
 rw [e,e',zmo v3,zmo v4];exact Go.Proofs.YtljlfiomikifjaaGreatDoor.sum_red (zcg v3).canon (zcg v4).canon (zHX (zcg v1).1) (zHX (zcg r1).1) (zHi (zcg v1).canon) (zDU a) (zHi (zcg v2).canon) (zDU b)
theorem zbho {a b:yC} (h:(ze1 a b).2=0):(ze1 (zcf a) (zcf b)).2=0∧nfA (ze1 a b).1=nfA (ze1 (zcf a) (zcf b)).1:=by
 obtain ⟨⟨v1,v2,v3⟩,e⟩:=zbc2 h;have r1:=zHD v1;have r2:=zHD v2;have hw:zeD (zgi (zcf a) (zcf b))=true:=z1H (zcg v3).1 (zbgE (zcg r1) (zcg r2)).1 (zbe4 (zRK a) (zRK b)) (zS6 v3);have e':=z5c r1 r2 hw;have v4:zQ (zgi (zcf a) (zcf b))=true:=zkm.2 ⟨hw,zbbI (zok r1) (zok r2)⟩;refine ⟨by rw [e'], ?_⟩
 rw [e,e',zmo v3,zmo v4];have p1:=zcg v1;have p2:=zcg v2;have q1:=zcg r1;have q2:=zcg r2;exact zQ2 (zcg v3).canon (zcg v4).canon (z8I p1 p2 q1 q2 (zHi p1.canon) (zHi p2.canon)) (z8I q1 q2 p1 p2 (zDU a) (zDU b))
theorem zbdX {a b:yC} (h:(ze1 a b).2=0):leS (nfA (ze1 a b).1) a=true:=by
 obtain ⟨⟨v1,v2,v3⟩,e⟩:=zbc2 h;rw [e,zmo v3];exact znH (zDU _) (z9t (zcg v1) (zcg v2))
def z5S (a:yC) (l:yG):yC×Int:=opR (zQ a&&l.all fun b=>zQ b.To) (ofS (zcr (toA l) a []))
theorem zbih {l:yG} (h:okB l):zcj l=(true, !l.all fun b=>zQ b.To):=by
 unfold zcj zhA;have:zdF l=IG (fun (_:Unit) x=>zh5 x) (l.length+(Int.ofNat l.length).toNat +Int.toNat (0:Int)+(1:Nat)) () l:=rfl
 rw [zkZ (P:=fun b=> !zQ b.To) (this.trans (zJR _ _ _ _ _ (by have:=h.1; omega) (fun x hx=>by
  unfold zh5 zx9;rw [Wy.fin_bn,(h.2 x hx).valid]; rfl) (by omega)))]
 simp [List.all_eq_not_any_not]
theorem zbfy {a:yC} {l:yG} (h:okB l):∀ (n i:Nat),l.length<i+n→i≤l.length→zyP n a l i=(true,if ((l.drop i).all fun b=>zQ b.To)=true then .inr (a,l) else .inl 1)
 | 0,i,h1,h2=>by omega
 | n+1,i,h1,h2=>by
  have hlen:=h.1;show (zyy a l i).ev (fun x y=>zyP n x.1 x.2.1 x.2.2.1) (fun r=>(true,r)) (false,.inl default)=_
  unfold zyy;by_cases hi:i<l.length
  ·have hb:=h.2 _ (zu hi);rw [zbG hi,List.all_cons];simp only [Wy.ev_i,Wy.ev_k,Wy.ev_h,Wy.ev_bn,Wy.ev_d,tT,hi,hb.rvalid];cases zQ (l.getD i default).To with
   | false=>rfl
   | true=>
    simp only [Bool.not_true,cond_false,Bool.true_and,zV (show i<4611686018427387904 by omega)]
    exact zbfy h n (i+1) (by omega) (by omega)
  ·simp only [Wy.ev_i,Wy.ev_k,Wy.ev_h,Wy.ev_bn,Wy.ev_d,tT,hi];rw [zdd hi]; rfl
theorem z7Q {a:yC} {l:yG} (oa:okA a) (ha:zQ a=true→zbC a) (h:okB l):zkh a l=(true,z5S a l)∧zM9 a l=(true,z5S a l):=by
 have key:zQ a=true→(zzN a l=(true,ofS (zcr (toA l) a []))∧zU1 a l=(true,ofS (zcr (toA l) a []))):=fun hv=>((zbbA h 1000).1 9 a (z2t hv (Nat.le_refl 9)) (by omega) oa.2.1 (ha hv) (by omega)).1
 constructor
 ·unfold zkh zBp z5S;simp only [Wy.fin_i,Wy.fin_bn,Wy.fin_k,oa.valid,cond_true,zbih h];cases hv:zQ a with
  | false=>rfl
  | true=>
   cases (l.all fun b=>zQ b.To) with
   | false=>rfl
   | true=>
    simp only [Bool.not_true,cond_false,(key hv).1,cond_true];rfl
 ·unfold zM9 zH8 z5S;have h4:=zbfy (a:=a) h (a.length+l.length+Int.toNat (0:Int)+(1:Nat)) 0 (by omega) (by omega)
  rw [show ((0:Nat):Int)=(0:Int) from rfl,List.drop_zero] at h4
  simp only [Wy.fin_i,Wy.fin_bn,Wy.fin_k,oa.rvalid,cond_true,h4];cases hv:zQ a with
  | false=>rfl
  | true=>
   cases (l.all fun b=>zQ b.To) with
   | false=>rfl
   | true=>
    simp only [if_true,isL,getR,Bool.not_true,cond_false,(key hv).2,cond_true];rfl
def GP {α:Type} (P:α→Prop):Int⊕α→Prop
 | .inl _=>True
 | .inr a=>P a
theorem zE5 {α β:Type} {P:α→Prop} {Q:β→Prop} {x:Int⊕α} {k:α→Int⊕β} (hx:GP P x) (hk:∀ a,P a→GP Q (k a)):GP Q (sbd x k):=by
 cases x with
 | inl e=>exact trivial
 | inr a=>exact hk a hx
theorem zZe {P:yC→Prop} {r:yC×Int} (h:P r.1):GP P (opS r):=by
 unfold opS;split
 ·exact h
 ·exact trivial
theorem zxA {a:yC}:zbC a↔∀ t∈a,∀ f∈t.Fs,zAB f.At:=by
 rw [zHY];exact ⟨fun h t ht=>zx8.1 (h t ht),fun h t ht=>zx8.2 (h t ht)⟩
theorem zAD:zbC []:=zHY.2 fun t ht=>by cases ht
theorem zMO (c:Int):zbC [⟨c,[]⟩]:=zxA.2 fun t ht f hf=>by
 rw [qh] at ht; subst ht; cases hf
theorem zZg {x:At} (h:zAB x):zbC (zcy x):=zxA.2 fun t ht f hf=>by
 simp only [zcy,qh] at ht; subst ht;rw [qh] at hf; subst hf; exact h
theorem zG2 {a:yC} (h:zbC a):zbC (znm a).1:=by
 unfold znm;cases zeD a with
 | true=>exact h
 | false=>exact zAD
theorem zSw {ok:Bool} {r:yC×Int} (h:ok=true→zbC r.1):zbC (opR ok r).1:=by
 cases ok with
 | true=>exact h rfl
 | false=>exact zAD
theorem zbdb {a b:yC} (hs:Srs a) (ha:zbC a) (hb:zbC b):zbC (zeo a b):=zxA.2 fun t ht f hf=>by
 obtain ⟨x,hx,e⟩:=zC0 b a hs ht;rw [e] at hf;rcases hx with hx | hx
 ·exact zxA.1 ha x hx f hf
 ·exact zxA.1 hb x hx f hf
theorem zba3 {a b:yC} (ha:zbC a) (hb:zbC b):zbC (zgi a b):=zxA.2 fun t ht f hf=>by
 obtain ⟨x,hx,e⟩:=zC0 (zeX a b) [] List.Pairwise.nil ht;rw [e] at hf;rcases hx with hx | hx
 ·cases hx
 ·obtain ⟨u,hu,v,hv,rfl⟩:=zDl hx;obtain ⟨y,hy,e⟩:=zut hf;rw [e];rcases hy with hy | hy
  ·exact zxA.1 ha u hu y hy
  ·exact zxA.1 hb v hv y hy
theorem zbhI {a b:yC} (ha:zbC a) (hb:zbC b):zbC (ze5 a b).1:=zSw fun hv=>by
 rw [qc] at hv;exact zG2 (zbdb (zcg hv.1).1 ha hb)
theorem zbh2 {a b:yC} (ha:zbC a) (hb:zbC b):zbC (ze1 a b).1:=zSw fun _=>zG2 (zba3 ha hb)
theorem z1z {k:Int} {l:yA} (h:∀ a∈l,zbC a):zAB ⟨k,⟨0,0⟩,l,0,[],0,⟨0,0,ByteArray.mk #[]⟩⟩:=(zDX _).2 ⟨by simp,zAZ.2 h,zyi.2 fun w hw=>by cases hw⟩
theorem zbhc {a b:yC} (ha:zbC a) (hb:zbC b):zbC (zT9 a b).1:=zSw fun _=>by
 split
 ·exact ha
 ·split
  ·exact zAD
  ·refine zG2 (zZg (z1z fun x hx=> ?_))
   simp only [qd,List.not_mem_nil,or_false] at hx;rcases hx with rfl | rfl
   ·exact ha
   ·exact hb
theorem zbhv {a:yC} (ha:zbC a):zbC (zUp a).1:=zSw fun _=>by
 split
 ·exact ha
 ·split
  ·exact zMO 1
  ·refine zG2 (zZg (z1z fun x hx=> ?_))
   rw [qh] at hx; subst hx; exact ha
theorem zbhk {a:yC} (ha:zbC a):zbC (zUl a).1:=zSw fun _=>by
 split
 ·exact zMO 1
 ·split
  ·exact zAD
  ·refine zG2 (zZg (z1z fun x hx=> ?_))
   rw [qh] at hx; subst hx; exact ha
theorem zbgg {f o:Int} {l:yE} {b:Value} (hl:l.length<20) (h:∀ w∈l,zbC w.Ann):zbC (zzp f l o b).1:=by
 unfold zzp;cases (!(zBE f l o b&&l.all fun w=>zQ w.Ann)) with
 | true=>exact zAD
 | false=>
  cases decide (0<(zdW l).length) with
  | true=>
   refine zG2 (zZg ((zDX _).2 ⟨?_,zAZ.2 fun a ha=>(by cases ha),zyi.2 fun w hw=>h w (zKI hw).1⟩))
   have h1:(zdW l).length=(l.filter zlT).length:=(zlA _ _).length_eq;have h2:=List.length_filter_le zlT l;show (zdW l).length<20;omega
  | false=>
   cases (f==0&&zP2 o (zee 0 b.Int)) with
   | true=>exact zMO 1
   | false=>exact zAD
theorem zbdx {b:yC} (hb:zbC b):∀ (n:Nat) (p:yC),zbC p→GP zbC (zzY b n p)
 | 0,p,hp=>hp
 | n+1,p,hp=>zE5 (zZe (zbh2 hp hb)) fun q hq=>zbdx hb n q hq
theorem zbhs (n:Int):zbC (zxs n):=by
 unfold zxs;split
 ·exact zAD
 ·exact zMO _
theorem zbbh {l:yA} (h:∀ a∈l,zbC a) (i:Nat):zbC (l.getD i default):=by
 by_cases hi:i<l.length
 ·exact h _ (zu hi)
 ·rw [List.getD_eq_getElem?_getD,List.getElem?_eq_none (by omega)]; exact zAD
section
variable {to:RowID→yC} (ht:∀ r,zbC (to r))
include ht
mutual
theorem zbb4:∀ x:At,zAB x→GP zbC (zeA to x)
 | ⟨k,r,a,f,i,o,b⟩=>fun h=>by
  obtain ⟨h1,h2,h3⟩:=(zDX _).1 h;rw [zeA];split
  ·exact ht r
  ·refine zE5 (z4N a (zAZ.1 h2)) fun xs hxs=> ?_
   have g0:=zbbh hxs 0;have g1:=zbbh hxs 1;split
   ·exact zZe (zbhc g0 g1)
   ·split
    ·exact zZe (zbhv g0)
    ·split
     ·exact zZe (zbhk g0)
     ·refine zE5 (z0Z i (zyi.1 h3)) fun is his=>zZe (zbgg ?_ his.2)
      rw [his.1]; exact h1
theorem zUG:∀ l:yD,(∀ f∈l,zAB f.At)→∀ p,zbC p→GP zbC (zdr to l p)
 | [],_,p,hp=>by rw [zdr]; exact hp
 | ⟨x,e⟩::r,h,p,hp=>by
  rw [zdr];exact zE5 (zbb4 x (h ⟨x,e⟩ (by simp))) fun b hb=>zE5 (zbdx hb _ p hp) fun q hq=>zUG r (fun f hf=>h f (by simp [hf])) q hq
theorem zXA:∀ a:yC,(∀ t∈a,∀ f∈t.Fs,zAB f.At)→∀ s,zbC s→GP zbC (zcr to a s)
 | [],_,s,hs=>by rw [zcr]; exact hs
 | ⟨c,fs⟩::r,h,s,hs=>by
  rw [zcr];exact zE5 (zUG fs (h ⟨c,fs⟩ (by simp)) _ (zbhs c)) fun p hp=>zE5 (zZe (zbhI hs hp)) fun q hq=>zXA r (fun t ht=>h t (by simp [ht])) q hq
theorem z4N:∀ l:yA,(∀ a∈l,zbC a)→GP (fun r:yA=>∀ a∈r,zbC a) (zi0 to l)
 | [],_=>by rw [zi0]; exact fun a ha=>by cases ha
 | a::r,h=>by
  rw [zi0];refine zE5 (zXA a (zxA.1 (h a (by simp))) [] zAD) fun b hb=>zE5 (z4N r fun c hc=>h c (by simp [hc])) fun l hl=> ?_
  intro x hx;rcases qd.1 hx with rfl | hx
  ·exact hb
  ·exact hl x hx
theorem z0Z:∀ l:yE,(∀ w∈l,zbC w.Ann)→GP (fun r:yE=>r.length=l.length∧∀ w∈r,zbC w.Ann) (zfB to l)
 | [],_=>by rw [zfB]; exact ⟨rfl,fun a ha=>by cases ha⟩
 | ⟨v,a⟩::r,h=>by
  rw [zfB];refine zE5 (zXA a (zxA.1 (h ⟨v,a⟩ (by simp))) [] zAD) fun b hb=>zE5 (z0Z r fun c hc=>h c (by simp [hc])) fun l hl=> ?_
  refine ⟨by simp [hl.1],fun x hx=> ?_⟩
  rcases qd.1 hx with rfl | hx
  ·exact hb
  ·exact hl.2 x hx
end
end
section
variable {σ:At→yC}
end
def zJ8 (a:yC) (i:Nat):Bool:=(List.range a.length).all fun k=> !(decide (k≠i)&&dvF (a.getD k default).Fs (a.getD i default).Fs&&(!dvF (a.getD i default).Fs (a.getD k default).Fs||decide (k<i)))
def zbco (a:yC):yC:=((List.range a.length).filter (zJ8 a)).map fun i=>⟨1,(a.getD i default).Fs⟩
theorem zbdy {a:yC} {i:Nat}:zJ8 a i=true↔∀ k<a.length,k≠i→dvF (a.getD k default).Fs (a.getD i default).Fs=true→dvF (a.getD i default).Fs (a.getD k default).Fs=true∧i≤k:=by
 unfold zJ8;simp only [List.all_eq_true,List.mem_range,Bool.not_eq_true',Bool.and_eq_false_iff,Bool.or_eq_false_iff,decide_eq_false_iff_not,Bool.not_eq_false',Nat.not_lt];constructor
 ·intro h k hk hne hd;rcases h k hk with (h1 | h1) | h1
  ·exact absurd hne h1
  ·rw [hd] at h1; cases h1
  ·exact ⟨h1.1,h1.2⟩
 ·intro h k hk;by_cases hne:k=i
  ·exact .inl (.inl fun h=>h hne)
  ·cases hd:dvF (a.getD k default).Fs (a.getD i default).Fs with
   | false=>exact .inl (.inr rfl)
   | true=>exact .inr (h k hk hne hd)
theorem z0b {τ:Type} [Inhabited τ] (p:τ→Bool):∀ a:List τ,((List.range a.length).filter fun i=>p (a.getD i default)).map (fun i=>a.getD i default)=a.filter p:=by
 intro a;induction a with
 | nil=>rfl
 | cons x r ih=>
  rw [qf,List.range_succ_eq_map,List.filter_cons,List.filter_cons];have h0:(x::r).getD 0 default=x:=rfl;rw [h0,List.filter_map,];have h1:((fun i=>p ((x::r).getD i default)) ∘ Nat.succ)=fun i=>p (r.getD i default):=by funext i; rfl
  rw [h1];cases p x with
  | true=>
   simp only [if_true,List.map_cons,List.map_map];refine congrArg (x::·) ?_;exact ih
  | false=>
   simp only [Bool.false_eq_true,if_false,List.map_map];exact ih
theorem zbfd {a:yC} (h:a.Pairwise fun x y=>x.Fs≠y.Fs) {i k:Nat} (hi:i<a.length) (hk:k<a.length) (e:(a.getD i default).Fs=(a.getD k default).Fs):i=k:=by
 rcases Nat.lt_trichotomy i k with h1 | h1 | h1
 ·have:=List.pairwise_iff_getElem.1 h i k hi hk h1;rw [List.getD_eq_getElem?_getD,List.getD_eq_getElem?_getD,List.getElem?_eq_getElem hi,List.getElem?_eq_getElem hk] at e;exact absurd e this
 ·exact h1
 ·have:=List.pairwise_iff_getElem.1 h k i hk hi h1;rw [List.getD_eq_getElem?_getD,List.getD_eq_getElem?_getD,List.getElem?_eq_getElem hi,List.getElem?_eq_getElem hk] at e;exact absurd e.symm this
theorem Canon.dst {a:yC} (h:Canon a):a.Pairwise fun x y=>x.Fs≠y.Fs:=h.asc.imp fun {x y} hxy e=>by rw [e,z9b.refl] at hxy; omega
theorem zbeU {a:yC} (h:Canon a) {i:Nat} (hi:i<a.length):zJ8 a i=zPz a (a.getD i default):=by
 rw [Bool.eq_iff_iff,zbdy,zTg];constructor
 ·intro hk u hu hd;obtain ⟨k,hkl,rfl⟩:=zPD hu;by_cases e:k=i
  ·rw [e]
  ·have:=(hk k hkl e hd).1;exact z1O (h.fac _ hu) (h.fac _ (zu hi)) hd this
 ·intro hm k hk hne hd;have e:=hm _ (zu hk) hd;exact absurd (zbfd h.dst hk hi e) hne
theorem zbck {a:yC} (h:Canon a):zbco a=zcf a:=by
 unfold zbco zcf;rw [← z0b (zPz a) a,List.map_map]
 have:(List.range a.length).filter (zJ8 a)=(List.range a.length).filter fun i=>zPz a (a.getD i default):=by
  refine List.filter_congr fun i hi=> ?_
  exact zbeU h (List.mem_range.1 hi)
 rw [this]; rfl
theorem okA.fine {a:yC} (oa:okA a):zp (11+1) a:=oa.1.1
theorem okA.fac {a:yC} (oa:okA a):∀ t∈a,zdG (zp 11) t.Fs:=fun t ht=>oa.fine.2 t ht
theorem okA.len {a:yC} (oa:okA a):a.length≤1000000:=oa.fine.1
theorem zbgr (c:Nat→Bool) (n:Nat):zeV c n 0=(List.range n).all c:=by
 rw [Bool.eq_iff_iff,zem,List.all_eq_true];constructor
 ·intro h k hk; exact h k (by omega) (by have:=List.mem_range.1 hk; omega)
 ·intro h k _ hk; exact h k (List.mem_range.2 (by omega))
def kpP (a:yC) (i:Nat) (t:Term) (k:Nat):Bool:= !(decide (k≠i)&&dvF (a.getD k default).Fs t.Fs&&(!dvF t.Fs (a.getD k default).Fs||decide (k<i)))
theorem zbfu (a:yC) (ha:∀ t∈a,zdG (zp 11) t.Fs) (hl:a.length≤1000000) (i:Nat) (hi:i<a.length) (o:yC) (t:Term) (ht:zdG (zp 11) t.Fs):
  ∀ (n k m:Nat),m=a.length - k→a.length<k+n→k≤a.length→zvB n a i a (a.length:Int) i a (a.length:Int) k o t=(true,bif zeV (kpP a i t) m k then .inr (a,a,(a.length:Int),(i:Int),o,t) else .inl (a,a,(a.length:Int),(i:Int),o))
 | 0,k,m,hm,h,h2=>by omega
 | n+1,k,m,hm,h,h2=>by
  show (zvd a i a (a.length:Int) i a (a.length:Int) k o t).ev (fun x y=>zvB n x.1 x.2.2.1 x.2.2.2.2.1 x.2.2.2.2.2.1 x.2.2.2.2.2.2.1 x.2.2.2.2.2.2.2.1 x.2.2.2.2.2.2.2.2.1 x.2.2.2.2.2.2.2.2.2.1 y.1 y.2.1) (fun r=>(true,r)) (false,.inl default)=_
  unfold zvd;by_cases hk:k<a.length
  ·obtain ⟨m',rfl⟩:∃ m',m=m'+1:=⟨m - 1,by omega⟩
   have key:=zbfu a ha hl i hi o t ht n (k+1) m' (by omega) (by omega) (by omega)
   have hu:=ha _ (zu hk);simp only [Wy.ev_i,Wy.ev_k,Wy.ev_h,Wy.ev_bn,Wy.ev_d,tT,hk,zbgv,z4C hu (by omega) ht.1,z4C ht (by omega) hu.1,zV (show k<4611686018427387904 by omega),key]
   have e:zeV (kpP a i t) (m'+1) k=(kpP a i t k&&zeV (kpP a i t) m' (k+1)):=rfl;rw [e];unfold kpP;by_cases hki:k≠i
   ·rw [decide_eq_true hki];cases dvF (a.getD k default).Fs t.Fs with
    | false=>rfl
    | true=>
     cases dvF t.Fs (a.getD k default).Fs with
     | false=>rfl
     | true=>
      by_cases hlt:k<i
      ·rw [decide_eq_true hlt]; rfl
      ·rw [decide_eq_false hlt]; rfl
   ·rw [decide_eq_false hki]; rfl
  ·have hm0:m=0:=by omega
   subst hm0;simp only [Wy.ev_i,Wy.ev_k,Wy.ev_h,Wy.ev_bn,Wy.ev_d,tT,hk];rfl
theorem zbc0 (a:yC) (i:Nat):zJ8 a i=zeV (kpP a i (a.getD i default)) a.length 0:=(zbgr _ _).symm
theorem zbcp {n i:Nat} (h:i<n):(List.range n).getD i default=i:=by
 rw [List.getD_eq_getElem?_getD,List.getElem?_range h]; rfl
theorem zbb3 {n i:Nat} (h:i<n):(List.range n).drop i=i::(List.range n).drop (i+1):=by
 have:=zbG (l:=List.range n) (i:=i) (by simpa using h)
 rwa [zbcp h] at this
def z15 (keep:Nat→Bool) (a:yC) (i:Nat):yC:=(((List.range a.length).drop i).filter keep).map fun i=>⟨1,(a.getD i default).Fs⟩
theorem zbf6 {keep:Nat→Bool} {a:yC} {i:Nat} (h:i<a.length):z15 keep a i=(if keep i=true then [⟨1,(a.getD i default).Fs⟩] else [])++z15 keep a (i+1):=by
 unfold z15;rw [zbb3 h,List.filter_cons];split <;>rfl
theorem zbfT {keep:Nat→Bool} {a:yC} {i:Nat} (h:¬ i<a.length):z15 keep a i=[]:=by
 unfold z15;rw [zdd (by simpa using h)]; rfl
theorem zbcN (a:yC) (ha:∀ t∈a,zdG (zp 11) t.Fs) (hl:a.length≤1000000):
  ∀ (n i:Nat) (o:yC),a.length<i+n→i≤a.length→o.length≤i→zvn n a a (a.length:Int) i o=(true,o++z15 (zJ8 a) a i)
 | 0,i,o,h,h2,h3=>by omega
 | n+1,i,o,h,h2,h3=>by
  show (zvQ a a (a.length:Int) i o).ev (fun x y=>zvn n x.1 x.2.2.1 x.2.2.2.1 x.2.2.2.2.1 y.1) (fun r=>(true,r)) (false,default)=_
  unfold zvQ;by_cases hi:i<a.length
  ·have e6:=zbfu a ha hl i hi o (a.getD i default) (ha _ (zu hi)) (a.length+i+a.length+a.length+i+a.length+a.length+Int.toNat (0:Int)+o.length+(a.getD i default).Fs.length+1000) 0 a.length (by omega) (by omega) (by omega)
   rw [show ((0:Nat):Int)=(0:Int) from rfl, ← zbc0] at e6
   simp only [Wy.ev_i,Wy.ev_k,Wy.ev_h,Wy.ev_bn,Wy.ev_d,tT,hi,e6];rw [zbf6 hi];cases zJ8 a i with
   | true=>
    have r1:decide ((o.length+([TO.mk (1:Int) (a.getD i default).Fs]:yC).length)*32≤zK)=true:=decide_eq_true (z9F (by simp; omega) (by omega))
    simp only [isL,getR,cond_true,cond_false,r1,zV (show i<4611686018427387904 by omega)]
    rw [zbcN a ha hl n (i+1) _ (by omega) (by omega) (by simp; omega)]
    have r2:(o.length+1)*32≤zK:=z9F (by omega) (by omega)
    simp [r2]
   | false=>
    simp only [isL,getL,cond_true,cond_false,zV (show i<4611686018427387904 by omega)]
    rw [zbcN a ha hl n (i+1) _ (by omega) (by omega) (by omega)]
    simp
  ·simp only [Wy.ev_i,Wy.ev_k,Wy.ev_h,Wy.ev_bn,Wy.ev_d,tT,hi,zbfT hi];simp
theorem zbd2 (a:yC):z15 (zJ8 a) a 0=zbco a:=rfl
theorem zbcg {a:yC} (ha:∀ t∈a,zdG (zp 11) t.Fs) (hl:a.length≤1000000):zno a=(true,zbco a):=by
 unfold zno zEl;have e:=zbcN a ha hl (a.length+a.length+a.length+Int.toNat (0:Int)+0+1000) 0 [] (by omega) (by omega) (by simp)
 rw [show ((0:Nat):Int)=(0:Int) from rfl,List.nil_append,zbd2] at e
 rw [Wy.fin_bn];simp only [tT,e,Wy.fin_k]
theorem zbgN (a:yC):(zcf a).length≤a.length:=by
 unfold zcf;rw [List.length_map]; exact List.length_filter_le _ _
theorem zZa {a:yC} (oa:okA a) (hv:zQ a=true):okA (zcf a):=by
 obtain ⟨_,hl,ht⟩:=zxh hv oa.2.1;refine zY3 (by have:=zbgN a; omega) fun t h=> ?_
 obtain ⟨u,hu,_,rfl⟩:=zqH.1 h;have g:=(ht u hu).1;exact ⟨⟨by show (1:Int)≤1; omega,by show (1:Int)≤1152921504606846976; omega⟩,g.2.1,g.2.2⟩
theorem z3T {a:yC} (h:zbC a):zbC (zcf a):=zxA.2 fun t ht f hf=>by
 obtain ⟨u,hu,_,rfl⟩:=zqH.1 ht;exact zxA.1 h u hu f hf
theorem zbfV {a:yC} (hv:zQ a=true):z5S a []=(a,0):=by
 unfold z5S opR;rw [hv];show ofS (zcr (toA []) a [])=_;rw [show toA []=zub from rfl,zbhO hv]; rfl
theorem zbdR {a:yC} (oa:okA a) (hv:zQ a=true) (hs:zbC a):zo0 a=(true,a):=by
 unfold zo0 zFG;rw [Wy.fin_bn,(z7Q oa (fun _=>hs) ⟨by simp,fun b hb=>by cases hb⟩).1,cond_true,Wy.fin_k,zbfV hv]
theorem z6q {a:yC} (h:zQ a=false):nfA a=[]:=by unfold nfA; rw [h]; rfl
theorem zWV {a:yC} (oa:okA a):okA (nfA a):=by
 cases hv:zQ a with
 | false=>rw [z6q hv]; exact zkg
 | true=>rw [zmo hv]; exact zZa oa hv
theorem zOU {a:yC} (oa:okA a) (hs:zQ a=true→zbC a):zfs a=(true,nfA a):=by
 unfold zfs zFC;rw [Wy.fin_bn,oa.valid,cond_true,Wy.fin_i];cases hv:zQ a with
 | false=>rw [z6q hv]; rfl
 | true=>
  rw [Bool.not_true,cond_false,Wy.fin_bn,zbcg oa.fac oa.len,cond_true,zbck (zcg hv).canon,Wy.fin_bn,zbdR (zZa oa hv) (zHD hv) (z3T (hs hv)),cond_true,Wy.fin_k,zmo hv]
theorem zbgh {a b:yC} (ha:zQ a=true→zbC a) (hb:zQ b=true→zbC b):zbC (ze5 a b).1:=zSw fun hv=>by
 rw [qc] at hv;exact zG2 (zbdb (zcg hv.1).1 (ha hv.1) (hb hv.2))
theorem zbbs {a b:yC} (ha:zQ a=true→zbC a) (hb:zQ b=true→zbC b):zbC (ze1 a b).1:=zSw fun hv=>by
 rw [qc] at hv;exact zG2 (zba3 (ha hv.1) (hb hv.2))
theorem zRb {a b:yC} (oa:okA a) (ob:okA b) (ha:zQ a=true→zbC a) (hb:zQ b=true→zbC b):ziK a b=(true,(nfA (ze5 a b).1,(ze5 a b).2)):=by
 unfold ziK zK7;rw [Wy.fin_bn,(z9s oa ob).1,cond_true,Wy.fin_bn,zOU (zDb oa ob).1 (fun _=>zbgh ha hb),cond_true,Wy.fin_k]
theorem zbbd {a b:yC} (oa:okA a) (ob:okA b) (ha:zQ a=true→zbC a) (hb:zQ b=true→zbC b):zqj a b=(true,(nfA (ze1 a b).1,(ze1 a b).2)):=by
 unfold zqj zMs;rw [Wy.fin_bn,(zbap oa ob).1,cond_true,Wy.fin_bn,zOU (zRV oa ob).1 (fun _=>zbbs ha hb),cond_true,Wy.fin_k]
theorem eqA {a:yC} (oa:okA a) (b:yC):zcv a b=(true,decide (a=b)):=zrG oa.1.1 (by omega) b
theorem zbiI {n:Nat} (hn:n≤1000) {a b:yC} (ha:z1B a) (hb:z1B b):∃ q,zAJ (n:Int) [a,b]=(true,q)∧(q=true→(okA a∧zes a≤n)∧okA b∧zes b≤n):=by
 obtain ⟨q,h1,h2⟩:=zbhr n hn [a,b] (by simp) (fun x hx=>by
  simp only [qd,List.not_mem_nil,or_false] at hx;rcases hx with rfl | rfl
  ·exact ha
  ·exact hb)
 exact ⟨q,h1,fun h=>⟨⟨zbbL hn (h2 h a (by simp)) ha,(h2 h a (by simp)).2⟩,zbbL hn (h2 h b (by simp)) hb,(h2 h b (by simp)).2⟩⟩
end Go.Proofs.YtljlfiomikifjaaGreatDoor
/- The law of the order. -/
set_option maxRecDepth 100000
namespace Go.Proofs.YtljlfiomikifjaaGreatDoor
open Go Go.Ab
theorem zbd4 {a:yC} {n:Nat} (h:zes a≤n) (hn:n≤38):zQ a=true→zbC a:=fun hv=>z1W 100 a hv (by omega)
end Go.Proofs.YtljlfiomikifjaaGreatDoor
/- The laws of sums and products of normal forms. -/
set_option maxRecDepth 100000
namespace Go.Proofs.YtljlfiomikifjaaGreatDoor
open Go Go.Ab
theorem zbhD:(zki).2=[⟨1,[]⟩]:=rfl
theorem zbhB:zbC [⟨1,[]⟩]:=zMO 1
theorem zbcq (a b:yC) (ha:z1B a) (hb:z1B b):ziG a b=(true,true):=by
 obtain ⟨q,q1,q2⟩:=zbiI (n:=20) (by omega) ha hb
 have l5:okA a→okA b→zbC a→zbC b→zQ a=true→zQ b=true→zBf 1 a b=(true,true):=fun oa ob sa sb va vb=>by
  have o1:okA [⟨1,[]⟩]:=zQS 1 (by omega)
  have oP:=(zRV oa ob).1;have sP:zbC (ze1 a b).1:=zbbs (fun _=>sa) (fun _=>sb)
  have sNP:zbC (nfA (ze1 a b).1):=by
   cases hv:zQ (ze1 a b).1 with
   | false=>rw [z6q hv]; exact zAD
   | true=>rw [zmo hv]; exact z3T sP
  have oNP:=zWV oP;have ra:=zZa oa va;have rb:=zZa ob vb;have rsa:=z3T sa;have rsb:=z3T sb
  have l16:zhN 1 a (ze1 a b).2 (zcf a) (nfA (ze1 a b).1)=(true,true):=by
   show (zq9 a (ze1 a b).2 (zcf a) (nfA (ze1 a b).1)).ev (zH zrv default 0) (fun r=>(true,r)) (false,default)=_
   unfold zq9;have oS:=(zDb oa oNP).1;simp only [Wy.ev_i,Wy.ev_bn,Wy.ev_k,zRb oa oNP (fun _=>sa) (fun _=>sNP),eqA (zWV oS),cond_true,zvI]
   by_cases h1:(ze1 a b).2=0
   ·by_cases h2:(ze5 a (nfA (ze1 a b).1)).2=0
    ·have e:=zbdc h2 (zbdX h1);rw [zmo va] at e;rw [decide_eq_true h1,decide_eq_true h2,e];simp
    ·rw [decide_eq_true h1,decide_eq_false h2]; rfl
   ·rw [decide_eq_false h1]; rfl
  have l14:zia 1 a (ze1 a b).2 (ze1 (zcf a) (zcf b)).2 (ze5 a b).2 (ze5 (zcf a) (zcf b)).2 (zcf a) (nfA (ze1 a b).1) (nfA (ze1 (zcf a) (zcf b)).1) (nfA (ze5 a b).1) (nfA (ze5 (zcf a) (zcf b)).1)=(true,true):=by
   show (zre a (ze1 a b).2 (ze1 (zcf a) (zcf b)).2 (ze5 a b).2 (ze5 (zcf a) (zcf b)).2 (zcf a) (nfA (ze1 a b).1) (nfA (ze1 (zcf a) (zcf b)).1) (nfA (ze5 a b).1) (nfA (ze5 (zcf a) (zcf b)).1)).ev (zH zqM default 0) (fun r=>(true,r)) (false,default)=_
   unfold zre;have oS:=(zDb oa ob).1;simp only [Wy.ev_i,Wy.ev_bn,Wy.ev_k,eqA oNP,eqA (zWV oS),cond_true,zvI,zgv,l16];by_cases h1:(ze1 a b).2=0
   ·have hm:=zbho h1;rw [decide_eq_true h1,decide_eq_true hm.1,decide_eq_true hm.2];by_cases h2:(ze5 a b).2=0
    ·have hs:=zbdl h2;rw [decide_eq_true h2,decide_eq_true hs.1,decide_eq_true hs.2];rfl
    ·rw [decide_eq_false h2]; rfl
   ·rw [decide_eq_false h1];by_cases h2:(ze5 a b).2=0
    ·have hs:=zbdl h2;rw [decide_eq_true h2,decide_eq_true hs.1,decide_eq_true hs.2];rfl
    ·rw [decide_eq_false h2]; rfl
  show (zsx a b).ev (zH zs8 default 0) (fun r=>(true,r)) (false,default)=_
  unfold zsx;have oS1:=(zDb o1 oa).1;have oS2:=(zDb oa oa).1;simp only [Wy.ev_i,Wy.ev_bn,Wy.ev_k,zOU oa (fun _=>sa),zOU ob (fun _=>sb),zmo va,zmo vb,zbhD,zRb o1 oa (fun _=>zbhB) (fun _=>sa),zRb oa oa (fun _=>sa) (fun _=>sa),zbbd oa ob (fun _=>sa) (fun _=>sb),zbbd ra rb (fun _=>rsa) (fun _=>rsb),zRb oa ob (fun _=>sa) (fun _=>sb),zRb ra rb (fun _=>rsa) (fun _=>rsb),eqA (zWV oS1),eqA (zWV oS2),cond_true,zgv,l14]
  by_cases h1:(ze5 [⟨1,[]⟩] a).2=0
  ·rw [decide_eq_true h1,decide_eq_true (zbf4 h1)];by_cases h2:(ze5 a a).2=0
   ·have e:=z9C h2;rw [zmo va] at e;rw [decide_eq_true h2,decide_eq_true e]; rfl
   ·rw [decide_eq_false h2]; rfl
  ·rw [decide_eq_false h1];by_cases h2:(ze5 a a).2=0
   ·have e:=z9C h2;rw [zmo va] at e;rw [decide_eq_true h2,decide_eq_true e]; rfl
   ·rw [decide_eq_false h2]; rfl
 have l3:zBt 1 a b=(true,true):=by
  show (zsn a b).ev (zH zsY default 0) (fun r=>(true,r)) (false,default)=_
  unfold zsn;replace q1:zAJ (20:Int) [a,b]=(true,q):=q1;simp only [Wy.ev_i,Wy.ev_bn,Wy.ev_k,q1,cond_true];cases q with
  | false=>rfl
  | true=>
   obtain ⟨⟨oa,wa⟩,ob,wb⟩:=q2 rfl;rw [oa.valid,ob.valid];cases va:zQ a with
   | false=>rfl
   | true=>
    cases vb:zQ b with
    | false=>rfl
    | true=>
     rw [l5 oa ob (zbd4 wa (by omega) va) (zbd4 wb (by omega) vb) va vb]; rfl
 unfold ziG zCv;rw [Wy.fin_bn,l3]; rfl
end Go.Proofs.YtljlfiomikifjaaGreatDoor
end
