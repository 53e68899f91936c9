/- Texts of this claim, joined (the program, its functions in plain words, and what they compute). -/
import Derived.Test.YtljlfiomikifjaaGreatDoorGC10
set_option autoImplicit false
set_option linter.unusedVariables false
set_option linter.unusedSectionVars false
set_option linter.unusedSimpArgs false
set_option maxRecDepth 1000000
set_option maxHeartbeats 0
/- Substitution commutes with the operations; without bindings it changes nothing. -/
noncomputable section
namespace Go.Proofs.YtljlfiomikifjaaGreatDoor
open Go Go.Ab
mutual
def zbfy (to:RowID→yC):Atom→yC
 | ⟨k,r,a,f,i,o,b⟩=>if k=0 then to r else if k=1 then monU ((zVS to a).getD 0 default) ((zVS to a).getD 1 default) else if k=2 then delU ((zVS to a).getD 0 default)
  else if k=3 then absU ((zVS to a).getD 0 default) else tstU f (z9E to i) o b
def zbb2 (to:RowID→yC):yD→yC
 | []=>[⟨1,[]⟩]
 | ⟨x,e⟩::r=>zuV (powA (zbfy to x) e.toNat) (zbb2 to r)
def zbaA (to:RowID→yC):yC→yC→yC
 | [],s=>s
 | ⟨c,fs⟩::r,s=>zbaA to r (sumA s (zuV [⟨c,[]⟩] (zbb2 to fs)))
def zVS (to:RowID→yC):yA→yA
 | []=>[]
 | a::r=>zbaA to a []::zVS to r
def z9E (to:RowID→yC):yE→yE
 | []=>[]
 | ⟨v,a⟩::r=>⟨v,zbaA to a []⟩::z9E to r
end
section
variable (to:RowID→yC)
variable {to} (hto:∀ r,PA (to r))
include hto
omit hto in
theorem zbeK {c:Int} (h:1≤c∧c≤1152921504606846976):cstA c=[⟨c,[]⟩]:=by
 unfold cstA; rw [if_neg (by omega),if_neg (by omega)]
end
theorem zAf {a:yC}:zeW a=true↔a.length≤512∧zbn a≤8∧zM a≤4096∧∀ t∈a,t.Factors.length≤64∧∀ f∈t.Factors,f.Exp≤64∧f.Atom.Items.length≤1024:=by
 refine ⟨zwz,fun ⟨h1,h2,h3,h4⟩=> ?_⟩
 unfold zeW;simp only [qc,qe];refine ⟨⟨⟨h1,h2⟩,h3⟩,List.all_eq_true.2 fun t ht=> ?_⟩
 obtain ⟨h5,h6⟩:=h4 t ht;unfold withF;rw [Bool.not_eq_true',Bool.or_eq_false_iff];refine ⟨by simp; omega, ?_⟩
 rw [List.any_eq_false];intro f hf;obtain ⟨h7,h8⟩:=h6 f hf;simp;exact ⟨h7,h8⟩
theorem z1z:∀ a b:yC,zM (a++b)=zM a+zM b
 | [],b=>by rw [ztX]; simp
 | t::r,b=>by rw [List.cons_append,zex,zex,z1z r b]; omega
theorem z13:∀ a b:yC,zbn (a++b)=max (zbn a) (zbn b)
 | [],b=>by rw [zDm]; simp
 | t::r,b=>by rw [List.cons_append,zm3,zm3,z13 r b]; omega
theorem zGo:∀ a b:yD,zbJ (a++b)=zbJ a+zbJ b
 | [],b=>by rw [ziB]; simp
 | t::r,b=>by rw [List.cons_append,zc5,zc5,zGo r b]; omega
theorem zGn:∀ a b:yD,zdu (a++b)=max (zdu a) (zdu b)
 | [],b=>by rw [zqh]; simp
 | t::r,b=>by rw [List.cons_append,zjl,zjl,zGn r b]; omega
structure FB (l:yD):Prop where
 len:l.length≤64
 nes:zdu l≤8
 siz:1+l.length+zbJ l≤4096
 fs:∀ f∈l,f.Exp≤64∧f.Atom.Items.length≤1024
theorem FB.wi {l:yD} (h:FB l) (c:Int):zeW [⟨c,l⟩]=true:=zAf.2 ⟨by simp,by rw [zm3,zDm]; have:=h.nes; simp only; omega,by rw [zex,ztX]; have:=h.siz; simp only; omega,fun t ht=>by
 rw [qh] at ht; subst ht; exact ⟨h.len,h.fs⟩⟩
theorem FB.of {a:yC} (h:zeW a=true) {t:Term} (ht:t∈a):FB t.Factors:=by
 obtain ⟨h1,h2,h3,h4⟩:=zAf.1 h;obtain ⟨h5,h6⟩:=h4 t ht;refine ⟨h5,Nat.le_trans (z3g ht) h2, ?_,h6⟩
 have key:∀ {a:yC},t∈a→1+t.Factors.length+zbJ t.Factors≤zM a:=by
  intro a;induction a with
  | nil=>intro h; cases h
  | cons u r ih=>
   intro h;rw [zex];rcases qd.1 h with rfl | h
   ·omega
   ·have:=ih h; omega
 have:=key ht;omega
theorem FB.app {a b:yD} (h:FB (a++b)):FB a∧FB b:=by
 obtain ⟨h1,h2,h3,h4⟩:=h;rw [qg] at h1 h3;rw [zGn] at h2;rw [zGo] at h3;exact ⟨⟨by omega,by omega,by omega,fun f hf=>h4 f (by simp [hf])⟩,⟨by omega,by omega,by omega,fun f hf=>h4 f (by simp [hf])⟩⟩
theorem FB.exp {P:yD} {x:Atom} {e j:Int} (h:FB (P++[⟨x,e⟩])) (hj:j≤64):FB (P++[⟨x,j⟩]):=by
 obtain ⟨h1,h2,h3,h4⟩:=h;rw [qg] at h1 h3;rw [zGn,zjl,zqh] at h2;rw [zGo,zc5,ziB] at h3;refine ⟨by rw [qg]; exact h1,by rw [zGn,zjl,zqh]; exact h2,by rw [qg,zGo,zc5,ziB]; exact h3,fun f hf=> ?_⟩
 rcases List.mem_append.1 hf with hf | hf
 ·exact h4 f (by simp [hf])
 ·rw [qh] at hf; subst hf;exact ⟨hj,(h4 ⟨x,e⟩ (by simp)).2⟩
theorem OKF.app {a b:yD} (h:OKF vatA (a++b)):OKF vatA a∧OKF vatA b:=⟨⟨(List.pairwise_append.1 h.1).1,fun f hf=>h.2 f (by simp [hf])⟩,⟨(List.pairwise_append.1 h.1).2.1,fun f hf=>h.2 f (by simp [hf])⟩⟩
theorem OKF.exp {P:yD} {x:Atom} {e j:Int} (h:OKF vatA (P++[⟨x,e⟩])) (h1:1≤j) (h2:j≤e):OKF vatA (P++[⟨x,j⟩]):=by
 have hx:=h.2 ⟨x,e⟩ (by simp)
 refine ⟨List.pairwise_append.2 ⟨(List.pairwise_append.1 h.1).1,by simp,fun a ha b hb=> ?_⟩,fun f hf=> ?_⟩
 ·rw [qh] at hb; subst hb;exact (List.pairwise_append.1 h.1).2.2 a ha ⟨x,e⟩ (by simp)
 ·rcases List.mem_append.1 hf with hf | hf
  ·exact h.2 f (by simp [hf])
  ·rw [qh] at hf; subst hf;refine ⟨⟨h1,fun hk=> ?_⟩,hx.2⟩
   have:=hx.1.2 hk;have h3:e=1:=this;show j=1;omega
theorem z26 {c:Int} {F:yD} (hc:1≤c∧c≤1152921504606846976) (hF:OKF vatA F) (hb:FB F):zC [⟨c,F⟩]=true:=zpR.2 ⟨hb.wi c,by simp,fun t ht=>by
 rw [qh] at ht; subst ht; exact ⟨hc,hF⟩⟩
theorem z4W {y:Factor}:∀ {P:yD},(∀ z∈P,cF z y<0)→zbN P [y]=P++[y]
 | [],_=>by rw [zbN]; rfl
 | z::r,h=>by rw [zbN,if_pos (h z (by simp)),z4W fun w hw=>h w (by simp [hw])]; rfl
theorem zWT {x:Atom} {j:Int} (hk:¬ (x.Kind=3∨x.Kind=4)):∀ {P:yD},(∀ z∈P,cF z ⟨x,1⟩<0)→zbN (P++[⟨x,j⟩]) [⟨x,1⟩]=P++[⟨x,j+1⟩]
 | [],_=>by
  have e:cF ⟨x,j⟩ ⟨x,1⟩=0:=cF_self' rfl;show zbN [⟨x,j⟩] [⟨x,1⟩]=[⟨x,j+1⟩];rw [zbN,e,if_neg (by omega),if_neg (by omega),if_neg hk,zbN]
 | z::r,h=>by
  show zbN (z::(r++[⟨x,j⟩])) [⟨x,1⟩]=_;rw [zbN,if_pos (h z (by simp)),zWT hk fun w hw=>h w (by simp [hw])]; rfl
theorem z5i {c:Int} (hc:1≤c∧c≤1152921504606846976) (M:yD) (x:Atom):zuV [⟨c,M⟩] (oneA x)=[⟨c,zbN M [⟨x,1⟩]⟩]:=by
 show sumA [] [zl1 ⟨c,M⟩ ⟨1,[⟨x,1⟩]⟩]=_;unfold zl1;simp only [zbaB hc.2];rfl
section
variable {c:Int} (hc:1≤c∧c≤1152921504606846976)
include hc
theorem z7d {P:yD} {x:Atom} {e:Int} (hF:OKF vatA (P++[⟨x,e⟩])) (hb:FB (P++[⟨x,e⟩])) (hv:zC (oneA x)=true):
  ∀ (n j:Nat),1≤j→(j+n:Int)=e→powS (oneA x) n [⟨c,P++[⟨x,(j:Int)⟩]⟩]=.inr [⟨c,P++[⟨x,e⟩]⟩]
 | 0,j,_,h=>by rw [show (j:Int)=e from by omega]; rfl
 | n+1,j,h1,h=>by
  have he:=(hF.2 ⟨x,e⟩ (by simp)).1
  have he64:=(hb.fs ⟨x,e⟩ (by simp)).1
  have hk:¬ (x.Kind=3∨x.Kind=4):=fun hk=>by
   have:e=1:=he.2 hk;omega
  have he64:e≤64:=he64;have hj:=z26 hc (hF.exp (j:=(j:Int)) (by omega) (by omega)) (hb.exp (j:=(j:Int)) (by omega))
  have hlt:∀ z∈P,cF z ⟨x,1⟩<0:=fun z hz=>(List.pairwise_append.1 hF.1).2.2 z hz ⟨x,e⟩ (by simp)
  have hp:zuV [⟨c,P++[⟨x,(j:Int)⟩]⟩] (oneA x)=[⟨c,P++[⟨x,((j+1:Nat):Int)⟩]⟩]:=by
   rw [z5i hc,zWT hk hlt]; rfl
  unfold powS;rw [z9M hj hv (by rw [hp]; exact (hb.exp (by omega)).wi c),hp,z7S,zb5]
  exact z7d hF hb hv n (j+1) (by omega) (by omega)
theorem z69:∀ {l:yD} {P:yD},OKF vatA (P++l)→FB (P++l)→(∀ f∈l,zeG varA f.Atom=.inr (oneA f.Atom)∧zC (oneA f.Atom)=true)→zdD varA l [⟨c,P⟩]=.inr [⟨c,P++l⟩]
 | [],P,_,_,_=>by rw [zH3,List.append_nil]
 | ⟨x,e⟩::r,P,hF,hb,h=>by
  have hx:=h ⟨x,e⟩ (by simp)
  have e2:P++⟨x,e⟩::r=(P++[⟨x,e⟩])++r:=by simp
  rw [e2] at hF hb ⊢;have hF1:=hF.app.1;have hb1:=hb.app.1;have he:=(hF1.2 ⟨x,e⟩ (by simp)).1.1
  have he:1≤e:=he;have he64:e≤64:=(hb1.fs ⟨x,e⟩ (by simp)).1
  rw [zFm,show zeG varA (⟨x,e⟩:Factor).Atom=.inr (oneA x) from hx.1,zb5]
  have hp:powS (oneA x) (⟨x,e⟩:Factor).Exp.toNat [⟨c,P⟩]=.inr [⟨c,P++[⟨x,e⟩]⟩]:=by
   obtain ⟨n,hn⟩:∃ n:Nat,e=n+1:=⟨(e - 1).toNat,by omega⟩
   show powS (oneA x) e.toNat [⟨c,P⟩]=_;rw [show e.toNat=n+1 from by omega]
   have hv0:zC [⟨c,P⟩]=true:=z26 hc hF1.app.1 hb1.app.1;have hlt:∀ z∈P,cF z ⟨x,1⟩<0:=fun z hz=>(List.pairwise_append.1 hF1.1).2.2 z hz ⟨x,e⟩ (by simp)
   have hp:zuV [⟨c,P⟩] (oneA x)=[⟨c,P++[⟨x,1⟩]⟩]:=by rw [z5i hc,z4W hlt]
   unfold powS;rw [z9M hv0 hx.2 (by rw [hp]; exact (hb1.exp (by omega)).wi c),hp,z7S,zb5]
   exact z7d hc hF1 hb1 hx.2 n 1 (by omega) (by omega)
  rw [hp,zb5];exact z69 hF hb fun f hf=>h f (by simp [hf])
end
theorem zGO {s r:yC} (h:zC (s++r)=true):zC s=true∧zC r=true:=by
 obtain ⟨h1,h2,h3⟩:=zpR.1 h;obtain ⟨w1,w2,w3,w4⟩:=zAf.1 h1;rw [qg] at w1;rw [z13] at w2;rw [z1z] at w3
 exact ⟨zpR.2 ⟨zAf.2 ⟨by omega,by omega,by omega,fun t ht=>w4 t (by simp [ht])⟩,(List.pairwise_append.1 h2).1,fun t ht=>h3 t (by simp [ht])⟩,
  zpR.2 ⟨zAf.2 ⟨by omega,by omega,by omega,fun t ht=>w4 t (by simp [ht])⟩,(List.pairwise_append.1 h2).2.1,fun t ht=>h3 t (by simp [ht])⟩⟩
theorem z65:∀ {r s:yC},zC (s++r)=true→(∀ t∈r,∀ f∈t.Factors,zeG varA f.Atom=.inr (oneA f.Atom)∧zC (oneA f.Atom)=true)→zck varA r s=.inr (s++r)
 | [],s,_,_=>by rw [zUY,List.append_nil]
 | t::r,s,hv,h=>by
  have e2:s++t::r=(s++[t])++r:=by simp
  rw [e2] at hv ⊢;obtain ⟨h1,h2⟩:=zpR.1 (zGO hv).1;have ht:=h2.2 t (by simp)
  have hb:FB t.Factors:=FB.of h1 (by simp)
  have hf:=z69 ht.1 (l:=t.Factors) (P:=[]) ht.2 hb (h t (by simp))
  have hadd:addR s [t]=(s++[t],0):=by
   have e:sumA s [t]=s++[t]:=z4e _ _ h2.1;rw [zbeh (zGO (zGO hv).1).1 (zGO (zGO hv).1).2 (by rw [e]; exact h1),e]
  rw [zRE,zbeK ht.1,hf,zb5];show sbd (opS (addR s [t])) _=_;rw [hadd,z7S,zb5];exact z65 hv fun u hu=>h u (by simp [hu])
theorem zbdb {d:Nat} {l:yE} (hl:l.length≤1000000) (h:∀ w∈l,zo d w.Ann∧w.Ann≠[]) (hd:d≤99) (hs:srtW l=true):zd5 l=l:=by
 have e:l.filter hasA=l:=List.filter_eq_self.2 fun w hw=>by
  have:=(h w hw).2;unfold hasA;cases hx:w.Ann with
  | nil=>exact absurd hx this
  | cons x r=>simp
 unfold zd5;rw [e]
 have hp:l.Pairwise fun x y=>cmpT (zbc x) (zbc y)≤0:=zvy (R:=fun x y=>cmpT (zbc x) (zbc y)≤0) (fun x y z h1 h2=>zwO _ _ _ h1 h2) l fun k hk hl'=>by
  have:=zeu.1 hs k (by omega) (by omega)
  unfold srtI at this;rw [Bool.or_eq_true,qe,qe] at this;rcases this with e | e
  ·omega
  ·exact e
 refine ((zL7 hl (fun w hw=>(h w hw).1) hd).unique (.refl _) ?_).symm
 refine hp.imp_of_mem fun {x y} hx hy hxy=> ?_
 rw [zjS (h y hy).1 hd,zgG (zbc x) (zbc y)];simp only; omega
def AB (x:Atom):Prop:=zn4 x≤8∧ze6 x+2≤4096∧x.Items.length≤1024
theorem AB.wi {x:Atom} (h:AB x):zeW (oneA x)=true:=(FB.wi (l:=[⟨x,1⟩]) ⟨by simp,by rw [zjl,zqh]; have:=h.1; simp only; omega,by rw [zc5,ziB]; have:=h.2.1; simp only [List.length_singleton]; omega,fun f hf=>by
 rw [qh] at hf; subst hf; exact ⟨by simp,h.2.2⟩⟩ 1)
theorem AB.of {l:yD} (h:FB l) {f:Factor} (hf:f∈l):AB f.Atom:=by
 refine ⟨Nat.le_trans (zPs hf) h.nes, ?_,(h.fs f hf).2⟩;have h1:=zPF hf
 have h2:1≤l.length:=by cases l with
  | nil=>cases hf
  | cons a r=>simp
 have:=h.siz;omega
theorem zbeQ {m:Nat} (hA:∀ a,zbB m a=true→zck varA a []=.inr a) (x:Atom) (h:zej (zbB m) x=true) (hx:AB x):zeG varA x=.inr (oneA x):=by
 have hw:=hx.wi;rw [zWi];cases zdG.1 h with
 | var r hr=>
  simp only [if_true];unfold varA; rw [hr]; rfl
 | mon a b ha hb ha0 hb0 hab=>
  simp only [show ¬ (1:Int)=0 from by omega,if_false,if_true]
  rw [zye,hA a ha,zb5,zye,hA b hb,zb5,zAH,zb5,zb5,zb5];show opS (monR a b)=_;unfold monR opR;rw [zzD ha,zzD hb,if_neg hb0,if_neg (by simp [ha0,hab])]
  show opS (fitR (oneA (monA a b)))=_;rw [zKt (a:=oneA (monA a b)) hw]; rfl
 | del a ha ha0 hc hu=>
  simp only [show ¬ (2:Int)=0 from by omega,show ¬ (2:Int)=1 from by omega,if_false,if_true]
  rw [zye,hA a ha,zb5,zAH,zb5,zb5];show opS (delR a)=_;unfold delR opR;rw [zzD ha,if_neg (by simp [ha0,hu]),if_neg (by simp [hc])]
  show opS (fitR (oneA (delA a)))=_;rw [zKt (a:=oneA (delA a)) hw]; rfl
 | abs a ha ha0 hc=>
  simp only [show ¬ (3:Int)=0 from by omega,show ¬ (3:Int)=1 from by omega,show ¬ (3:Int)=2 from by omega,if_false,if_true]
  rw [zye,hA a ha,zb5,zAH,zb5,zb5];show opS (absR a)=_;unfold absR opR;rw [zzD ha,if_neg ha0,if_neg (by simp [hc])]
  show opS (fitR (oneA (absA a)))=_;rw [zKt (a:=oneA (absA a)) hw]; rfl
 | tst f l o b hl hi hs hf=>
  simp only [show ¬ (4:Int)=0 from by omega,show ¬ (4:Int)=1 from by omega,show ¬ (4:Int)=2 from by omega,show ¬ (4:Int)=3 from by omega,if_false]
  have key:∀ l:yE,(∀ w∈l,zbB m w.Ann=true)→zfB varA l=.inr l:=by
   intro l;induction l with
   | nil=>intro _; rw [zGm]
   | cons w r ih=>
    intro hm;rw [zLm,hA w.Ann (hm w (by simp)),zb5,ih fun v hv=>hm v (by simp [hv]),zb5]
  have hlen:l.length≤1024:=hx.2.2;have hs':=zbdb (d:=9) (l:=l) (by omega) (fun w hw=>⟨(ze2 (hi w hw).1).1,(hi w hw).2⟩) (by omega) hs
  rw [zAH,zb5,key l fun w hw=>(hi w hw).1,zb5]
  show opS (zyR f l o b)=_;unfold zyR;have hall:(l.all fun w=>zC w.Ann)=true:=List.all_eq_true.2 fun w hw=>zzD (hi w hw).1
  have hpos:0<l.length:=by cases l with
   | nil=>exact absurd rfl hl
   | cons a r=>simp
  rw [hf,hall,hs',decide_eq_true hpos];show opS (fitR (oneA (tstA f l o b)))=_;rw [zKt (a:=oneA (tstA f l o b)) hw]; rfl
theorem zbbv:∀ m,∀ a,zbB m a=true→zck varA a []=.inr a
 | 0,a,h=>by cases h
 | m+1,a,h=>by
  obtain ⟨h1,_,h3⟩:=zSg.1 (show vAnn (zej (zbB m)) a=true from h)
  exact z65 (s:=[]) (zzD h) fun t ht f hf=>by
   have hb:=AB.of (FB.of h1 ht) hf;have hv:=((h3 t ht).2.2 f hf).2;exact ⟨zbeQ (zbbv m) f.Atom hv hb,zba2 (zR0.2 ((zdG.1 hv).imp fun a ha=>zzD ha)) hb.wi⟩
theorem zbe1 {a:yC} (h:zC a=true):zck varA a []=.inr a:=zbbv 100 a h
theorem zbdl (a b:yD):cL a b=cmpL (zbz a) (zbz b):=by unfold cL; rw [cmpT]
theorem PA.canon {a:yC} (h:PA a):Canon a:=⟨h.1.imp fun {x y} hxy=>by rw [zbdl]; exact hxy,fun t ht=>(h.2 t ht).2.1⟩
theorem zbd9 {t:Term} {l:yC} (h:Srs l) (L:yD):(∃ y∈putA t l,y.Factors=L)↔(∃ x∈l,x.Factors=L)∨t.Factors=L:=by
 constructor
 ·rintro ⟨y,hy,rfl⟩
  rcases (zAC h).1 hy with ⟨h1,_⟩ | ⟨h1,_⟩
  ·exact .inl ⟨y,h1,rfl⟩
  ·exact .inr h1.symm
 ·intro hh;by_cases e:t.Factors=L
  ·subst e;by_cases hx:∃ x∈l,x.Factors=t.Factors
   ·obtain ⟨x,hx,e⟩:=hx;exact ⟨⟨zy0 x.Coeff t.Coeff,t.Factors⟩,(zAC h).2 (.inr ⟨rfl,.inl ⟨x,hx,e,rfl⟩⟩),rfl⟩
   ·exact ⟨t,(zAC h).2 (.inr ⟨rfl,.inr ⟨fun x hx' e=>hx ⟨x,hx',e⟩,rfl⟩⟩),rfl⟩
  ·rcases hh with ⟨x,hx,rfl⟩ | hh
   ·exact ⟨x,(zAC h).2 (.inl ⟨hx,fun e'=>e e'.symm⟩),rfl⟩
   ·exact absurd hh e
theorem z9T:∀ (b a:yC),Srs a→∀ L,(∃ y∈sumA a b,y.Factors=L)↔(∃ x∈a,x.Factors=L)∨∃ x∈b,x.Factors=L
 | [],a,h,L=>by
  show (∃ y∈a,y.Factors=L)↔_;simp
 | t::r,a,h,L=>by
  show (∃ y∈sumA (putA t a) r,y.Factors=L)↔_;rw [z9T r _ (zAL h) L,zbd9 h];simp only [qd,exists_eq_or_imp];constructor
  ·rintro ((h1 | h1) | h1)
   ·exact .inl h1
   ·exact .inr (.inl h1)
   ·exact .inr (.inr h1)
  ·rintro (h1 | h1 | h1)
   ·exact .inl (.inl h1)
   ·exact .inl (.inr h1)
   ·exact .inr h1
theorem zbb8 {a b:yC} (h:Srs a):zXr a b (sumA a b):=fun L=>z9T b a h L
def SubF (s' s:yC):Prop:=∀ t∈s',∃ u∈s,u.Factors=t.Factors
theorem zWn:∀ (s s':yC),Srs s→Srs s'→SubF s' s→s'.length≤s.length∧zM s'≤zM s∧zbn s'≤zbn s
 | [],s',_,_,h=>by
  cases s' with
  | nil=>exact ⟨Nat.le_refl _,Nat.le_refl _,Nat.le_refl _⟩
  | cons y r=>obtain ⟨u,hu,_⟩:=h y (by simp); cases hu
 | x::r,s',hs,hs',h=>by
  have hc:=qi.1 hs;cases s' with
  | nil=>simp [ztX,zDm]
  | cons y r'=>
   have hc':=qi.1 hs';by_cases e:x.Factors=y.Factors
   ·have hsub:SubF r' r:=fun t ht=>by
     obtain ⟨u,hu,eu⟩:=h t (by simp [ht])
     rcases qd.1 hu with rfl | hu
     ·have:=hc'.1 t ht;rw [zC1 (e.symm.trans eu)] at this; omega
     ·exact ⟨u,hu,eu⟩
    obtain ⟨h1,h2,h3⟩:=zWn r r' hc.2 hc'.2 hsub;rw [zex,zex,zm3,zm3,e];simp only [qf];exact ⟨by omega,by omega,by omega⟩
   ·have hxy:cT x y<0:=by
     obtain ⟨u,hu,eu⟩:=h y (by simp)
     rcases qd.1 hu with rfl | hu
     ·exact absurd eu e
     ·have:=hc.1 u hu;unfold cT at this ⊢; rw [← eu]; exact this
    have hsub:SubF (y::r') r:=fun t ht=>by
     obtain ⟨u,hu,eu⟩:=h t ht;rcases qd.1 hu with rfl | hu
     ·have hut:cT u t<0:=by
       rcases qd.1 ht with rfl | ht
       ·exact hxy
       ·exact zFw hxy (hc'.1 t ht)
      rw [zC1 eu] at hut; omega
     ·exact ⟨u,hu,eu⟩
    obtain ⟨h1,h2,h3⟩:=zWn r (y::r') hc.2 hs' hsub;rw [zex x r,zm3 x r];simp only [qf] at h1 ⊢;exact ⟨by omega,by omega,by omega⟩
theorem zbcL {s s':yC} (hs:Srs s) (hs':Srs s') (h:SubF s' s) (hw:zeW s=true):zeW s'=true:=by
 obtain ⟨w1,w2,w3,w4⟩:=zAf.1 hw;obtain ⟨h1,h2,h3⟩:=zWn s s' hs hs' h;refine zAf.2 ⟨by omega,by omega,by omega,fun t ht=> ?_⟩
 obtain ⟨u,hu,e⟩:=h t ht;rw [← e]; exact w4 u hu
theorem zbey (a:yC):SubF (redL a) a:=fun t ht=>by
 obtain ⟨u,hu,_,rfl⟩:=zqz.1 ht;exact ⟨u,hu,rfl⟩
theorem zbby {a:yC} (h:QA a):QA (redL a):=⟨(zDn h.pa.canon).asc.imp fun {x y} hxy=>by rw [zbdl] at hxy; exact hxy,fun t ht=>by
 obtain ⟨u,hu,_,rfl⟩:=zqz.1 ht;exact ⟨by constructor <;>simp,(h.2 u hu).2⟩⟩
theorem zbbo {a:yC} (h:zC a=true):zC (redL a)=true:=zpR.2 ⟨zbcL (zFo h).1 (zbby (zFo h)).1 (zbey a) (zbal h),zbby (zFo h)⟩
def nfA (a:yC):yC:=bif zC a then redL a else []
theorem zPL {a:yC} (h:zC a=true):nfA a=redL a:=by unfold nfA; rw [h]; rfl
def subR (a:yC) (l:yG):yC×Int:=opR (zC a&&l.all fun b=>zC b.To) (ofS (zck (toA l) a []))
theorem zbf0 {l:yG} (h:okB l):zcc l=(true, !l.all fun b=>zC b.To):=by
 unfold zcc zhr;have:zdR l=IG (fun (_:Unit) x=>zhY x) (l.length+(Int.ofNat l.length).toNat +Int.toNat (0:Int)+(1:Nat)) () l:=rfl
 rw [zh3 (P:=fun b=> !zC b.To) (this.trans (zDT _ _ _ _ _ (by have:=h.1; omega) (fun x hx=>by
  unfold zhY zxo;rw [Wy.fin_bn,(h.2 x hx).valid]; rfl) (by omega)))]
 simp [List.all_eq_not_any_not]
theorem zbdA {a:yC} {l:yG} (h:okB l):∀ (n i:Nat),l.length<i+n→i≤l.length→zys n a l i=(true,if ((l.drop i).all fun b=>zC b.To)=true then .inr (a,l) else .inl 1)
 | 0,i,h1,h2=>by omega
 | n+1,i,h1,h2=>by
  have hlen:=h.1;show (zyk a l i).ev (fun x y=>zys n x.1 x.2.1 x.2.2.1) (fun r=>(true,r)) (false,.inl default)=_
  unfold zyk;by_cases hi:i<l.length
  ·have hb:=h.2 _ (zt hi);rw [zbs hi,List.all_cons];simp only [Wy.ev_i,Wy.ev_k,Wy.ev_h,Wy.ev_bn,Wy.ev_d,tT,hi,hb.rvalid];cases zC (l.getD i default).To with
   | false=>rfl
   | true=>
    simp only [Bool.not_true,cond_false,Bool.true_and,zQ (show i<4611686018427387904 by omega)]
    exact zbdA h n (i+1) (by omega) (by omega)
  ·simp only [Wy.ev_i,Wy.ev_k,Wy.ev_h,Wy.ev_bn,Wy.ev_d,tT,hi];rw [zcs hi]; rfl
theorem z6s {a:yC} {l:yG} (oa:okA a) (ha:zC a=true→zbL a) (h:okB l):zkp a l=(true,subR a l)∧zKD a l=(true,subR a l):=by
 have key:zC a=true→(zzR a l=(true,ofS (zck (toA l) a []))∧zTb a l=(true,ofS (zck (toA l) a []))):=fun hv=>((z9r h 1000).1 9 a (zZ9 hv (Nat.le_refl 9)) (by omega) oa.2.1 (ha hv) (by omega)).1
 constructor
 ·unfold zkp zBe subR;simp only [Wy.fin_i,Wy.fin_bn,Wy.fin_k,oa.valid,cond_true,zbf0 h];cases hv:zC a with
  | false=>rfl
  | true=>
   cases (l.all fun b=>zC b.To) with
   | false=>rfl
   | true=>
    simp only [Bool.not_true,cond_false,(key hv).1,cond_true];rfl
 ·unfold zKD zHG subR;have h4:=zbdA (a:=a) h (a.length+l.length+Int.toNat (0:Int)+(1:Nat)) 0 (by omega) (by omega)
  rw [show ((0:Nat):Int)=(0:Int) from rfl,List.drop_zero] at h4
  simp only [Wy.fin_i,Wy.fin_bn,Wy.fin_k,oa.rvalid,cond_true,h4];cases hv:zC a with
  | false=>rfl
  | true=>
   cases (l.all fun b=>zC b.To) with
   | false=>rfl
   | true=>
    simp only [if_true,isL,getR,Bool.not_true,cond_false,(key hv).2,cond_true];rfl
def GP {α:Type} (P:α→Prop):Int⊕α→Prop
 | .inl _=>True
 | .inr a=>P a
theorem zEo {α β:Type} {P:α→Prop} {Q:β→Prop} {x:Int⊕α} {k:α→Int⊕β} (hx:GP P x) (hk:∀ a,P a→GP Q (k a)):GP Q (sbd x k):=by
 cases x with
 | inl e=>exact trivial
 | inr a=>exact hk a hx
theorem zXK {P:yC→Prop} {r:yC×Int} (h:P r.1):GP P (opS r):=by
 unfold opS;split
 ·exact h
 ·exact trivial
theorem zxn {a:yC}:zbL a↔∀ t∈a,∀ f∈t.Factors,zz6 f.Atom:=by
 rw [zHk];exact ⟨fun h t ht=>zxq.1 (h t ht),fun h t ht=>zxq.2 (h t ht)⟩
theorem zBV:zbL []:=zHk.2 fun t ht=>by cases ht
theorem zRk (c:Int):zbL [⟨c,[]⟩]:=zxn.2 fun t ht f hf=>by
 rw [qh] at ht; subst ht; cases hf
theorem zXL {x:Atom} (h:zz6 x):zbL (oneA x):=zxn.2 fun t ht f hf=>by
 simp only [oneA,qh] at ht; subst ht;rw [qh] at hf; subst hf; exact h
theorem zKz {a:yC} (h:zbL a):zbL (fitR a).1:=by
 unfold fitR;cases zeW a with
 | true=>exact h
 | false=>exact zBV
theorem zXt {ok:Bool} {r:yC×Int} (h:ok=true→zbL r.1):zbL (opR ok r).1:=by
 cases ok with
 | true=>exact h rfl
 | false=>exact zBV
theorem zbb5 {a b:yC} (hs:Srs a) (ha:zbL a) (hb:zbL b):zbL (sumA a b):=zxn.2 fun t ht f hf=>by
 obtain ⟨x,hx,e⟩:=zKq b a hs ht;rw [e] at hf;rcases hx with hx | hx
 ·exact zxn.1 ha x hx f hf
 ·exact zxn.1 hb x hx f hf
theorem zbet {a b:yC} (ha:zbL a) (hb:zbL b):zbL (zuV a b):=zxn.2 fun t ht f hf=>by
 obtain ⟨x,hx,e⟩:=zKq (zfS a b) [] List.Pairwise.nil ht;rw [e] at hf;rcases hx with hx | hx
 ·cases hx
 ·obtain ⟨u,hu,v,hv,rfl⟩:=z5w hx;obtain ⟨y,hy,e⟩:=zuj hf;rw [e];rcases hy with hy | hy
  ·exact zxn.1 ha u hu y hy
  ·exact zxn.1 hb v hv y hy
theorem zbfn {a b:yC} (ha:zbL a) (hb:zbL b):zbL (addR a b).1:=zXt fun hv=>by
 rw [qc] at hv;exact zKz (zbb5 (zxe hv.1).1 ha hb)
theorem zbe0 {a b:yC} (ha:zbL a) (hb:zbL b):zbL (mulR a b).1:=zXt fun _=>zKz (zbet ha hb)
theorem z0R {k:Int} {l:yA} (h:∀ a∈l,zbL a):zz6 ⟨k,⟨0,0⟩,l,0,[],0,⟨0,0,ByteArray.mk #[]⟩⟩:=(zDN _).2 ⟨by simp,zAE.2 h,zya.2 fun w hw=>by cases hw⟩
theorem zbfE {a b:yC} (ha:zbL a) (hb:zbL b):zbL (monR a b).1:=zXt fun _=>by
 split
 ·exact ha
 ·split
  ·exact zBV
  ·refine zKz (zXL (z0R fun x hx=> ?_))
   simp only [qd,List.not_mem_nil,or_false] at hx;rcases hx with rfl | rfl
   ·exact ha
   ·exact hb
theorem zbfB {a:yC} (ha:zbL a):zbL (delR a).1:=zXt fun _=>by
 split
 ·exact ha
 ·split
  ·exact zRk 1
  ·refine zKz (zXL (z0R fun x hx=> ?_))
   rw [qh] at hx; subst hx; exact ha
theorem zbfI {a:yC} (ha:zbL a):zbL (absR a).1:=zXt fun _=>by
 split
 ·exact zRk 1
 ·split
  ·exact zBV
  ·refine zKz (zXL (z0R fun x hx=> ?_))
   rw [qh] at hx; subst hx; exact ha
theorem zbdZ {f o:Int} {l:yE} {b:Value} (hl:l.length<20) (h:∀ w∈l,zbL w.Ann):zbL (zyR f l o b).1:=by
 unfold zyR;cases (!(fitK f l o b&&l.all fun w=>zC w.Ann)) with
 | true=>exact zBV
 | false=>
  cases decide (0<(zd5 l).length) with
  | true=>
   refine zKz (zXL ((zDN _).2 ⟨?_,zAE.2 fun a ha=>(by cases ha),zya.2 fun w hw=>h w (zJ4 hw).1⟩))
   have h1:(zd5 l).length=(l.filter hasA).length:=(zlx _ _).length_eq;have h2:=List.length_filter_le hasA l;show (zd5 l).length<20;omega
  | false=>
   cases (f==0&&mats o (cmpI 0 b.Int)) with
   | true=>exact zRk 1
   | false=>exact zBV
theorem zbbE {b:yC} (hb:zbL b):∀ (n:Nat) (p:yC),zbL p→GP zbL (powS b n p)
 | 0,p,hp=>hp
 | n+1,p,hp=>zEo (zXK (zbe0 hp hb)) fun q hq=>zbbE hb n q hq
theorem zbfG (n:Int):zbL (cstA n):=by
 unfold cstA;split
 ·exact zBV
 ·exact zRk _
theorem z9c {l:yA} (h:∀ a∈l,zbL a) (i:Nat):zbL (l.getD i default):=by
 by_cases hi:i<l.length
 ·exact h _ (zt hi)
 ·rw [List.getD_eq_getElem?_getD,List.getElem?_eq_none (by omega)]; exact zBV
section
variable {to:RowID→yC} (ht:∀ r,zbL (to r))
include ht
mutual
theorem zbaC:∀ x:Atom,zz6 x→GP zbL (zeG to x)
 | ⟨k,r,a,f,i,o,b⟩=>fun h=>by
  obtain ⟨h1,h2,h3⟩:=(zDN _).1 h;rw [zeG];split
  ·exact ht r
  ·refine zEo (z2I a (zAE.1 h2)) fun xs hxs=> ?_
   have g0:=z9c hxs 0;have g1:=z9c hxs 1;split
   ·exact zXK (zbfE g0 g1)
   ·split
    ·exact zXK (zbfB g0)
    ·split
     ·exact zXK (zbfI g0)
     ·refine zEo (zZP i (zya.1 h3)) fun is his=>zXK (zbdZ ?_ his.2)
      rw [his.1]; exact h1
theorem zS4:∀ l:yD,(∀ f∈l,zz6 f.Atom)→∀ p,zbL p→GP zbL (zdD to l p)
 | [],_,p,hp=>by rw [zdD]; exact hp
 | ⟨x,e⟩::r,h,p,hp=>by
  rw [zdD];exact zEo (zbaC x (h ⟨x,e⟩ (by simp))) fun b hb=>zEo (zbbE hb _ p hp) fun q hq=>zS4 r (fun f hf=>h f (by simp [hf])) q hq
theorem zVJ:∀ a:yC,(∀ t∈a,∀ f∈t.Factors,zz6 f.Atom)→∀ s,zbL s→GP zbL (zck to a s)
 | [],_,s,hs=>by rw [zck]; exact hs
 | ⟨c,fs⟩::r,h,s,hs=>by
  rw [zck];exact zEo (zS4 fs (h ⟨c,fs⟩ (by simp)) _ (zbfG c)) fun p hp=>zEo (zXK (zbfn hs hp)) fun q hq=>zVJ r (fun t ht=>h t (by simp [ht])) q hq
theorem z2I:∀ l:yA,(∀ a∈l,zbL a)→GP (fun r:yA=>∀ a∈r,zbL a) (ziW to l)
 | [],_=>by rw [ziW]; exact fun a ha=>by cases ha
 | a::r,h=>by
  rw [ziW];refine zEo (zVJ a (zxn.1 (h a (by simp))) [] zBV) fun b hb=>zEo (z2I r fun c hc=>h c (by simp [hc])) fun l hl=> ?_
  intro x hx;rcases qd.1 hx with rfl | hx
  ·exact hb
  ·exact hl x hx
theorem zZP:∀ l:yE,(∀ w∈l,zbL w.Ann)→GP (fun r:yE=>r.length=l.length∧∀ w∈r,zbL w.Ann) (zfB to l)
 | [],_=>by rw [zfB]; exact ⟨rfl,fun a ha=>by cases ha⟩
 | ⟨v,a⟩::r,h=>by
  rw [zfB];refine zEo (zVJ a (zxn.1 (h ⟨v,a⟩ (by simp))) [] zBV) fun b hb=>zEo (zZP r fun c hc=>h c (by simp [hc])) fun l hl=> ?_
  refine ⟨by simp [hl.1],fun x hx=> ?_⟩
  rcases qd.1 hx with rfl | hx
  ·exact hb
  ·exact hl.2 x hx
end
end
section
variable {σ:Atom→yC}
end
def zJP (a:yC) (i:Nat):Bool:=(List.range a.length).all fun k=> !(decide (k≠i)&&dvF (a.getD k default).Factors (a.getD i default).Factors&&(!dvF (a.getD i default).Factors (a.getD k default).Factors||decide (k<i)))
def redG (a:yC):yC:=((List.range a.length).filter (zJP a)).map fun i=>⟨1,(a.getD i default).Factors⟩
theorem zbbj {a:yC} {i:Nat}:zJP a i=true↔∀ k<a.length,k≠i→dvF (a.getD k default).Factors (a.getD i default).Factors=true→dvF (a.getD i default).Factors (a.getD k default).Factors=true∧i≤k:=by
 unfold zJP;simp only [List.all_eq_true,List.mem_range,Bool.not_eq_true',Bool.and_eq_false_iff,Bool.or_eq_false_iff,decide_eq_false_iff_not,Bool.not_eq_false',Nat.not_lt];constructor
 ·intro h k hk hne hd;rcases h k hk with (h1 | h1) | h1
  ·exact absurd hne h1
  ·rw [hd] at h1; cases h1
  ·exact ⟨h1.1,h1.2⟩
 ·intro h k hk;by_cases hne:k=i
  ·exact .inl (.inl fun h=>h hne)
  ·cases hd:dvF (a.getD k default).Factors (a.getD i default).Factors with
   | false=>exact .inl (.inr rfl)
   | true=>exact .inr (h k hk hne hd)
theorem zXW {τ:Type} [Inhabited τ] (p:τ→Bool):∀ a:List τ,((List.range a.length).filter fun i=>p (a.getD i default)).map (fun i=>a.getD i default)=a.filter p:=by
 intro a;induction a with
 | nil=>rfl
 | cons x r ih=>
  rw [qf,List.range_succ_eq_map,List.filter_cons,List.filter_cons];have h0:(x::r).getD 0 default=x:=rfl;rw [h0,List.filter_map,];have h1:((fun i=>p ((x::r).getD i default)) ∘ Nat.succ)=fun i=>p (r.getD i default):=by funext i; rfl
  rw [h1];cases p x with
  | true=>
   simp only [if_true,List.map_cons,List.map_map];refine congrArg (x::·) ?_;exact ih
  | false=>
   simp only [Bool.false_eq_true,if_false,List.map_map];exact ih
theorem zbc3 {a:yC} (h:a.Pairwise fun x y=>x.Factors≠y.Factors) {i k:Nat} (hi:i<a.length) (hk:k<a.length) (e:(a.getD i default).Factors=(a.getD k default).Factors):i=k:=by
 rcases Nat.lt_trichotomy i k with h1 | h1 | h1
 ·have:=List.pairwise_iff_getElem.1 h i k hi hk h1;rw [List.getD_eq_getElem?_getD,List.getD_eq_getElem?_getD,List.getElem?_eq_getElem hi,List.getElem?_eq_getElem hk] at e;exact absurd e this
 ·exact h1
 ·have:=List.pairwise_iff_getElem.1 h k i hk hi h1;rw [List.getD_eq_getElem?_getD,List.getD_eq_getElem?_getD,List.getElem?_eq_getElem hi,List.getElem?_eq_getElem hk] at e;exact absurd e.symm this
theorem Canon.dst {a:yC} (h:Canon a):a.Pairwise fun x y=>x.Factors≠y.Factors:=h.asc.imp fun {x y} hxy e=>by rw [e,ordL.refl] at hxy; omega
theorem zbc2 {a:yC} (h:Canon a) {i:Nat} (hi:i<a.length):zJP a i=minT a (a.getD i default):=by
 rw [Bool.eq_iff_iff,zbbj,z0n];constructor
 ·intro hk u hu hd;obtain ⟨k,hkl,rfl⟩:=zPg hu;by_cases e:k=i
  ·rw [e]
  ·have:=(hk k hkl e hd).1;exact z0I (h.fac _ hu) (h.fac _ (zt hi)) hd this
 ·intro hm k hk hne hd;have e:=hm _ (zt hk) hd;exact absurd (zbc3 h.dst hk hi e) hne
theorem z9Z {a:yC} (h:Canon a):redG a=redL a:=by
 unfold redG redL;rw [← zXW (minT a) a,List.map_map]
 have:(List.range a.length).filter (zJP a)=(List.range a.length).filter fun i=>minT a (a.getD i default):=by
  refine List.filter_congr fun i hi=> ?_
  exact zbc2 h (List.mem_range.1 hi)
 rw [this]; rfl
theorem zbdc (x y:Atom):(cmpT (zdl x) (zdl y)==(0:Int))=decide (x=y):=by
 rw [beqd,decide_eq_decide];exact ⟨fun h=>zRf _ _ (ztd _ _ h),fun h=>by rw [h,zCP]⟩
theorem zbdi {d:Nat} (s t:Term) (i:Nat) (hi:i<s.Factors.length) (hs:zcb (zo d) s.Factors) (hd:d≤99) (ht:t.Factors.length≤1000000):
  ∀ (n k:Nat) (found:Bool),t.Factors.length<k+n→k≤t.Factors.length→zCs n i found k s t=(true,((i:Int),(found||(t.Factors.drop k).any fun g=>decide ((s.Factors.getD i default).Exp≤g.Exp)&&decide ((s.Factors.getD i default).Atom=g.Atom)),s,t))
 | 0,k,found,h,h2=>by omega
 | n+1,k,found,h,h2=>by
  show (zCB i found k s t).ev (fun x y=>zCs n x.2.2.1 x.2.2.2.1 x.2.2.2.2.1 y.1 y.2.1) (fun r=>(true,r)) (false,default)=_
  unfold zCB;have hf:=hs.2 _ (zt hi);by_cases hk:k<t.Factors.length
  ·have key:=fun f'=>zbdi s t i hi hs hd ht n (k+1) f' (by omega) (by omega)
   simp only [Wy.ev_i,Wy.ev_k,Wy.ev_h,Wy.ev_bn,Wy.ev_d,tT,hk,hi,Atom.eta,zpk hf hd,zbdc,zQ (show k<4611686018427387904 by omega),key]
   rw [zbs hk,List.any_cons];cases found with
   | true=>simp
   | false=>
    rw [cond_false];by_cases hx:(s.Factors.getD i default).Atom=(t.Factors.getD k default).Atom
    ·rw [decide_eq_true hx]; simp
    ·rw [decide_eq_false hx]; simp
  ·simp only [Wy.ev_i,Wy.ev_k,Wy.ev_h,Wy.ev_bn,Wy.ev_d,tT,hk,zcs hk];simp
theorem zbds {d:Nat} (s t:Term) (hs:zcb (zo d) s.Factors) (hd:d≤99) (ht:t.Factors.length≤1000000):
  ∀ (n i:Nat),s.Factors.length<i+n→i≤s.Factors.length→zCt n i s t=(true,bif (s.Factors.drop i).all (fun f=>t.Factors.any fun g=>decide (f.Exp≤g.Exp)&&decide (f.Atom=g.Atom)) then .inr () else .inl false)
 | 0,i,h,h2=>by omega
 | n+1,i,h,h2=>by
  show (zCw i s t).ev (fun x y=>zCt n x.2.2.1 y.1 y.2.1) (fun r=>(true,r)) (false,.inl default)=_
  unfold zCw;have hl:=hs.1;by_cases hi:i<s.Factors.length
  ·have e6:=zbdi s t i hi hs hd ht (i+Int.toNat (0:Int)+s.Factors.length+t.Factors.length+1000) 0 false (by omega) (by omega)
   rw [show ((0:Nat):Int)=(0:Int) from rfl,List.drop_zero,Bool.false_or] at e6
   simp only [Wy.ev_i,Wy.ev_k,Wy.ev_h,Wy.ev_bn,Wy.ev_d,tT,hi,e6,zQ (show i<4611686018427387904 by omega)]
   rw [zbs hi,List.all_cons];cases t.Factors.any fun g=>decide ((s.Factors.getD i default).Exp≤g.Exp)&&decide ((s.Factors.getD i default).Atom=g.Atom) with
   | false=>rfl
   | true=>
    rw [Bool.not_true,cond_false,Bool.true_and];exact zbds s t hs hd ht n (i+1) (by omega) (by omega)
  ·simp only [Wy.ev_i,Wy.ev_k,Wy.ev_h,Wy.ev_bn,Wy.ev_d,tT,hi,zcs hi];rfl
theorem z8J {d:Nat} {s:Term} (hs:zcb (zo d) s.Factors) (hd:d≤99) {t:Term} (ht:t.Factors.length≤1000000):zxR s t=(true,dvF s.Factors t.Factors):=by
 unfold zxR zNG;have e:=zbds s t hs hd ht (Int.toNat (0:Int)+s.Factors.length+t.Factors.length+1000) 0 (by omega) (by omega)
 rw [show ((0:Nat):Int)=(0:Int) from rfl,List.drop_zero] at e
 rw [Wy.fin_bn,e,cond_true];unfold dvF;cases s.Factors.all fun f=>t.Factors.any fun g=>decide (f.Exp≤g.Exp)&&decide (f.Atom=g.Atom) <;>rfl
theorem zbdy {d:Nat} (a b:yC) (i:Nat) (hi:i<a.length) (ha:∀ t∈a,t.Factors.length≤1000000) (hb:∀ u∈b,zcb (zo d) u.Factors) (hd:d≤99) (hl:b.length≤1000000):
  ∀ (n k:Nat) (found:Bool),b.length<k+n→k≤b.length→zD0 n a b i found k=(true,(a,b,(i:Int),(found||(b.drop k).any fun u=>dvF u.Factors (a.getD i default).Factors)))
 | 0,k,found,h,h2=>by omega
 | n+1,k,found,h,h2=>by
  show (zEg a b i found k).ev (fun x y=>zD0 n x.1 x.2.1 x.2.2.1 x.2.2.2.1 x.2.2.2.2.1) (fun r=>(true,r)) (false,default)=_
  unfold zEg;by_cases hk:k<b.length
  ·have key:=fun f'=>zbdy a b i hi ha hb hd hl n (k+1) f' (by omega) (by omega)
   simp only [Wy.ev_i,Wy.ev_k,Wy.ev_h,Wy.ev_bn,Wy.ev_d,tT,hk,hi,z8J (hb _ (zt hk)) hd (ha _ (zt hi)),zQ (show k<4611686018427387904 by omega),key]
   rw [zbs hk,List.any_cons];cases found <;>simp
  ·simp only [Wy.ev_i,Wy.ev_k,Wy.ev_h,Wy.ev_bn,Wy.ev_d,tT,hk,zcs hk];simp
theorem zbdx {d:Nat} (a b:yC) (ha:∀ t∈a,t.Factors.length≤1000000) (hb:∀ u∈b,zcb (zo d) u.Factors) (hd:d≤99) (hal:a.length≤1000000) (hl:b.length≤1000000):
  ∀ (n i:Nat),a.length<i+n→i≤a.length→zDD n a b i=(true,bif (a.drop i).all (fun t=>b.any fun u=>dvF u.Factors t.Factors) then .inr () else .inl false)
 | 0,i,h,h2=>by omega
 | n+1,i,h,h2=>by
  show (zD8 a b i).ev (fun x y=>zDD n x.1 x.2.1 x.2.2.1) (fun r=>(true,r)) (false,.inl default)=_
  unfold zD8;by_cases hi:i<a.length
  ·have e8:=zbdy a b i hi ha hb hd hl (a.length+b.length+i+Int.toNat (0:Int)+1000) 0 false (by omega) (by omega)
   rw [show ((0:Nat):Int)=(0:Int) from rfl,List.drop_zero,Bool.false_or] at e8
   simp only [Wy.ev_i,Wy.ev_k,Wy.ev_h,Wy.ev_bn,Wy.ev_d,tT,hi,e8,zQ (show i<4611686018427387904 by omega)]
   rw [zbs hi,List.all_cons];cases b.any fun u=>dvF u.Factors (a.getD i default).Factors with
   | false=>rfl
   | true=>
    rw [Bool.not_true,cond_false,Bool.true_and];exact zbdx a b ha hb hd hal hl n (i+1) (by omega) (by omega)
  ·simp only [Wy.ev_i,Wy.ev_k,Wy.ev_h,Wy.ev_bn,Wy.ev_d,tT,hi,zcs hi];rfl
theorem okA.fine {a:yC} (oa:okA a):zo (11+1) a:=oa.1.1
theorem okA.fac {a:yC} (oa:okA a):∀ t∈a,zcb (zo 11) t.Factors:=fun t ht=>oa.fine.2 t ht
theorem okA.len {a:yC} (oa:okA a):a.length≤1000000:=oa.fine.1
theorem okA.flen {a:yC} (oa:okA a):∀ t∈a,t.Factors.length≤1000000:=fun t ht=>(oa.fac t ht).1
theorem zXF {a b:yC} (oa:okA a) (ob:okA b):zeN a b=(true,zC a&&(zC b&&leS a b)):=zba8 oa.fine ob.fine (by omega) oa.1.2 ob.1.2
theorem zbaq {a b:yC} (oa:okA a) (ob:okA b):zAi a b=(true,zC a&&(zC b&&leS a b)):=by
 unfold zAi zQQ;have e:=zbdx a b oa.flen ob.fac (by omega) oa.len ob.len (a.length+b.length+Int.toNat (0:Int)+1000) 0 (by omega) (by omega)
 rw [show ((0:Nat):Int)=(0:Int) from rfl,List.drop_zero] at e
 simp only [Wy.fin_i,Wy.fin_bn,Wy.fin_k,oa.rvalid,ob.rvalid,e,cond_true];unfold leS;cases zC a <;>cases zC b <;>cases a.all fun t=>b.any fun u=>dvF u.Factors t.Factors <;>rfl
theorem zbeF (c:Nat→Bool) (n:Nat):allN c n 0=(List.range n).all c:=by
 rw [Bool.eq_iff_iff,zeu,List.all_eq_true];constructor
 ·intro h k hk; exact h k (by omega) (by have:=List.mem_range.1 hk; omega)
 ·intro h k _ hk; exact h k (List.mem_range.2 (by omega))
def kpP (a:yC) (i:Nat) (t:Term) (k:Nat):Bool:= !(decide (k≠i)&&dvF (a.getD k default).Factors t.Factors&&(!dvF t.Factors (a.getD k default).Factors||decide (k<i)))
theorem zbdv (a:yC) (ha:∀ t∈a,zcb (zo 11) t.Factors) (hl:a.length≤1000000) (i:Nat) (hi:i<a.length) (o:yC) (t:Term) (ht:zcb (zo 11) t.Factors):
  ∀ (n k m:Nat),m=a.length - k→a.length<k+n→k≤a.length→zvi n a i a (a.length:Int) i a (a.length:Int) k o t=(true,bif allN (kpP a i t) m k then .inr (a,a,(a.length:Int),(i:Int),o,t) else .inl (a,a,(a.length:Int),(i:Int),o))
 | 0,k,m,hm,h,h2=>by omega
 | n+1,k,m,hm,h,h2=>by
  show (zu4 a i a (a.length:Int) i a (a.length:Int) k o t).ev (fun x y=>zvi n x.1 x.2.2.1 x.2.2.2.2.1 x.2.2.2.2.2.1 x.2.2.2.2.2.2.1 x.2.2.2.2.2.2.2.1 x.2.2.2.2.2.2.2.2.1 x.2.2.2.2.2.2.2.2.2.1 y.1 y.2.1) (fun r=>(true,r)) (false,.inl default)=_
  unfold zu4;by_cases hk:k<a.length
  ·obtain ⟨m',rfl⟩:∃ m',m=m'+1:=⟨m - 1,by omega⟩
   have key:=zbdv a ha hl i hi o t ht n (k+1) m' (by omega) (by omega) (by omega)
   have hu:=ha _ (zt hk);simp only [Wy.ev_i,Wy.ev_k,Wy.ev_h,Wy.ev_bn,Wy.ev_d,tT,hk,zbdU,zRX hu (by omega) ht.1,zRX ht (by omega) hu.1,zQ (show k<4611686018427387904 by omega),key]
   have e:allN (kpP a i t) (m'+1) k=(kpP a i t k&&allN (kpP a i t) m' (k+1)):=rfl;rw [e];unfold kpP;by_cases hki:k≠i
   ·rw [decide_eq_true hki];cases dvF (a.getD k default).Factors t.Factors with
    | false=>rfl
    | true=>
     cases dvF t.Factors (a.getD k default).Factors with
     | false=>rfl
     | true=>
      by_cases hlt:k<i
      ·rw [decide_eq_true hlt]; rfl
      ·rw [decide_eq_false hlt]; rfl
   ·rw [decide_eq_false hki]; rfl
  ·have hm0:m=0:=by omega
   subst hm0;simp only [Wy.ev_i,Wy.ev_k,Wy.ev_h,Wy.ev_bn,Wy.ev_d,tT,hk];rfl
theorem zbaa (a:yC) (i:Nat):zJP a i=allN (kpP a i (a.getD i default)) a.length 0:=(zbeF _ _).symm
theorem zba1 {n i:Nat} (h:i<n):(List.range n).getD i default=i:=by
 rw [List.getD_eq_getElem?_getD,List.getElem?_range h]; rfl
theorem zbaR {n i:Nat} (h:i<n):(List.range n).drop i=i::(List.range n).drop (i+1):=by
 have:=zbs (l:=List.range n) (i:=i) (by simpa using h)
 rwa [zba1 h] at this
def outK (keep:Nat→Bool) (a:yC) (i:Nat):yC:=(((List.range a.length).drop i).filter keep).map fun i=>⟨1,(a.getD i default).Factors⟩
theorem zbeG {keep:Nat→Bool} {a:yC} {i:Nat} (h:i<a.length):outK keep a i=(if keep i=true then [⟨1,(a.getD i default).Factors⟩] else [])++outK keep a (i+1):=by
 unfold outK;rw [zbaR h,List.filter_cons];split <;>rfl
theorem zbeI {keep:Nat→Bool} {a:yC} {i:Nat} (h:¬ i<a.length):outK keep a i=[]:=by
 unfold outK;rw [zcs (by simpa using h)]; rfl
theorem zbas (a:yC) (ha:∀ t∈a,zcb (zo 11) t.Factors) (hl:a.length≤1000000):
  ∀ (n i:Nat) (o:yC),a.length<i+n→i≤a.length→o.length≤i→zu9 n a a (a.length:Int) i o=(true,o++outK (zJP a) a i)
 | 0,i,o,h,h2,h3=>by omega
 | n+1,i,o,h,h2,h3=>by
  show (zu6 a a (a.length:Int) i o).ev (fun x y=>zu9 n x.1 x.2.2.1 x.2.2.2.1 x.2.2.2.2.1 y.1) (fun r=>(true,r)) (false,default)=_
  unfold zu6;by_cases hi:i<a.length
  ·have e6:=zbdv a ha hl i hi o (a.getD i default) (ha _ (zt hi)) (a.length+i+a.length+a.length+i+a.length+a.length+Int.toNat (0:Int)+o.length+(a.getD i default).Factors.length+1000) 0 a.length (by omega) (by omega) (by omega)
   rw [show ((0:Nat):Int)=(0:Int) from rfl, ← zbaa] at e6
   simp only [Wy.ev_i,Wy.ev_k,Wy.ev_h,Wy.ev_bn,Wy.ev_d,tT,hi,e6];rw [zbeG hi];cases zJP a i with
   | true=>
    have r1:decide ((o.length+([TermOf.mk (1:Int) (a.getD i default).Factors]:yC).length)*32≤reach)=true:=decide_eq_true (z7u (by simp; omega) (by omega))
    simp only [isL,getR,cond_true,cond_false,r1,zQ (show i<4611686018427387904 by omega)]
    rw [zbas a ha hl n (i+1) _ (by omega) (by omega) (by simp; omega)]
    have r2:(o.length+1)*32≤reach:=z7u (by omega) (by omega)
    simp [r2]
   | false=>
    simp only [isL,getL,cond_true,cond_false,zQ (show i<4611686018427387904 by omega)]
    rw [zbas a ha hl n (i+1) _ (by omega) (by omega) (by omega)]
    simp
  ·simp only [Wy.ev_i,Wy.ev_k,Wy.ev_h,Wy.ev_bn,Wy.ev_d,tT,hi,zbeI hi];simp
theorem zbbL (a:yC):outK (zJP a) a 0=redG a:=rfl
theorem zbaW {a:yC} (ha:∀ t∈a,zcb (zo 11) t.Factors) (hl:a.length≤1000000):znE a=(true,redG a):=by
 unfold znE zDo;have e:=zbas a ha hl (a.length+a.length+a.length+Int.toNat (0:Int)+0+1000) 0 [] (by omega) (by omega) (by simp)
 rw [show ((0:Nat):Int)=(0:Int) from rfl,List.nil_append,zbbL] at e
 rw [Wy.fin_bn];simp only [tT,e,Wy.fin_k]
theorem zbd5 (a:yC):(redL a).length≤a.length:=by
 unfold redL;rw [List.length_map]; exact List.length_filter_le _ _
theorem z3z {a:yC} (oa:okA a) (hv:zC a=true):okA (redL a):=by
 obtain ⟨_,hl,ht⟩:=zwJ hv oa.2.1;refine zXs (by have:=zbd5 a; omega) fun t h=> ?_
 obtain ⟨u,hu,_,rfl⟩:=zqz.1 h;have g:=(ht u hu).1;exact ⟨⟨by show (1:Int)≤1; omega,by show (1:Int)≤1152921504606846976; omega⟩,g.2.1,g.2.2⟩
theorem zbfs {a:yC} (h:zbL a):zbL (redL a):=zxn.2 fun t ht f hf=>by
 obtain ⟨u,hu,_,rfl⟩:=zqz.1 ht;exact zxn.1 h u hu f hf
theorem zbd7 {a:yC} (hv:zC a=true):subR a []=(a,0):=by
 unfold subR opR;rw [hv];show ofS (zck (toA []) a [])=_;rw [show toA []=varA from rfl,zbe1 hv]; rfl
theorem zbbJ {a:yC} (oa:okA a) (hv:zC a=true) (hs:zbL a):zou a=(true,a):=by
 unfold zou zEU;rw [Wy.fin_bn,(z6s oa (fun _=>hs) ⟨by simp,fun b hb=>by cases hb⟩).1,cond_true,Wy.fin_k,zbd7 hv]
theorem z9k {a:yC} (h:zC a=false):nfA a=[]:=by unfold nfA; rw [h]; rfl
theorem zbft {a:yC} (oa:okA a):okA (nfA a):=by
 cases hv:zC a with
 | false=>rw [z9k hv]; exact zj8
 | true=>rw [zPL hv]; exact z3z oa hv
theorem zNE {a:yC} (oa:okA a) (hs:zC a=true→zbL a):zel a=(true,nfA a):=by
 unfold zel zE3;rw [Wy.fin_bn,oa.valid,cond_true,Wy.fin_i];cases hv:zC a with
 | false=>rw [z9k hv]; rfl
 | true=>
  rw [Bool.not_true,cond_false,Wy.fin_bn,zbaW oa.fac oa.len,cond_true,z9Z (zxe hv).canon,Wy.fin_bn,zbbJ (z3z oa hv) (zbbo hv) (zbfs (hs hv)),cond_true,Wy.fin_k,zPL hv]
theorem zbes {a b:yC} (ha:zC a=true→zbL a) (hb:zC b=true→zbL b):zbL (addR a b).1:=zXt fun hv=>by
 rw [qc] at hv;exact zKz (zbb5 (zxe hv.1).1 (ha hv.1) (hb hv.2))
theorem eqA {a:yC} (oa:okA a) (b:yC):zee a b=(true,decide (a=b)):=zrM oa.1.1 (by omega) b
theorem few3 {n:Nat} (hn:n≤1000) {a b c:yC} (ha:wf23 a) (hb:wf23 b) (hc:wf23 c):∃ q,zzs (n:Int) [a,b,c]=(true,q)∧(q=true→(okA a∧zen a≤n)∧(okA b∧zen b≤n)∧okA c∧zen c≤n):=by
 obtain ⟨q,h1,h2⟩:=zbfr n hn [a,b,c] (by simp) (fun x hx=>by
  simp only [qd,List.not_mem_nil,or_false] at hx;rcases hx with rfl | rfl | rfl
  ·exact ha
  ·exact hb
  ·exact hc)
 exact ⟨q,h1,fun h=>⟨⟨z4g hn (h2 h a (by simp)) ha,(h2 h a (by simp)).2⟩,⟨z4g hn (h2 h b (by simp)) hb,(h2 h b (by simp)).2⟩,z4g hn (h2 h c (by simp)) hc,(h2 h c (by simp)).2⟩⟩
end Go.Proofs.YtljlfiomikifjaaGreatDoor
/- The law of the order. -/
set_option maxRecDepth 100000
namespace Go.Proofs.YtljlfiomikifjaaGreatDoor
open Go Go.Ab
theorem zbbR {a:yC} {n:Nat} (h:zen a≤n) (hn:n≤38):zC a=true→zbL a:=fun hv=>z1l 100 a hv (by omega)
theorem z8I (a b c:yC) (ha:wf23 a) (hb:wf23 b) (hc:wf23 c):zhk a b c=(true,true):=by
 obtain ⟨q,q1,q2⟩:=few3 (n:=30) (by omega) ha hb hc
 have l12:okA a→okA b→(zC a=true→zbL a)→(zC b=true→zbL b)→zC a=true→zC b=true→zpr 1 a b (leS a b)=(true,true):=fun oa ob sa sb va vb=>by
  show (zps a b (leS a b)).ev (zF zpp default 0) (fun r=>(true,r)) (false,default)=_
  unfold zps;have oS:=(zXM oa ob).1;simp only [Wy.ev_i,Wy.ev_bn,Wy.ev_k,(z7p oa ob).1,zNE oS (fun _=>zbes sa sb),zNE ob sb,eqA (zbft oS),cond_true]
  by_cases h0:(addR a b).2=0
  ·obtain ⟨⟨v1,v2,v3⟩,e⟩:=zbfN h0;have hiff:=zbay (zxe v1).canon (zxe v2).canon (zxe v3).canon (zbb8 (zxe v1).1)
   have e2:leS a b=decide (nfA (addR a b).1=nfA b):=by
    rw [e,zPL v3,zPL v2,Bool.eq_iff_iff,decide_eq_true_iff];exact hiff
   have:((addR a b).2 != (0:Int))=false:=by rw [h0]; rfl
   rw [this,cond_false,e2];simp
  ·have:((addR a b).2 != (0:Int))=true:=by rw [bne0,decide_eq_false h0]; rfl
   rw [this]; rfl
 have l8:okA a→okA b→(zC a=true→zbL a)→(zC b=true→zbL b)→zle 1 a b (zC a&&(zC b&&leS a b)) (zC b&&(zC a&&leS b a))=(true,true):=fun oa ob sa sb=>by
  show (zrL a b (zC a&&(zC b&&leS a b)) (zC b&&(zC a&&leS b a))).ev (zF zru default 0) (fun r=>(true,r)) (false,default)=_
  unfold zrL;simp only [Wy.ev_i,Wy.ev_bn,Wy.ev_k,oa.valid,ob.valid,cond_true];cases va:zC a with
  | false=>cases zC b <;>rfl
  | true=>
   cases vb:zC b with
   | false=>rfl
   | true=>
    have l10:zyK 1 a b (leS a b) (leS b a)=(true,true):=by
     show (zpD a b (leS a b) (leS b a)).ev (zF zpM default 0) (fun r=>(true,r)) (false,default)=_
     unfold zpD;have hiff:=z3k (zxe va).canon (zxe vb).canon;simp only [Wy.ev_i,Wy.ev_bn,Wy.ev_k,zNE oa sa,zNE ob sb,eqA (z3z oa va),cond_true,zPL va,zPL vb,l12 oa ob sa sb va vb];cases h1:leS a b with
     | false=>
      have:decide (redL a=redL b)=false:=decide_eq_false fun e=>by
       have:=(hiff.2 e).1;rw [h1] at this; cases this
      rw [this]; rfl
     | true=>
      cases h2:leS b a with
      | false=>
       have:decide (redL a=redL b)=false:=decide_eq_false fun e=>by
        have:=(hiff.2 e).2;rw [h2] at this; cases this
       rw [this]; rfl
      | true=>
       rw [decide_eq_true (hiff.1 ⟨h1,h2⟩)]; rfl
    simp only [Bool.true_and,Bool.not_true,cond_false,l10,cond_true]
 have l5:okA a→okA b→okA c→(zC a=true→zbL a)→(zC b=true→zbL b)→zAm 1 a b c=(true,true):=fun oa ob oc sa sb=>by
  show (zqW a b c).ev (zF zrs default 0) (fun r=>(true,r)) (false,default)=_
  unfold zqW;simp only [Wy.ev_i,Wy.ev_bn,Wy.ev_k,zXF oa ob,zXF ob oa,zXF ob oc,zXF oa oc,zbaq oa ob,l8 oa ob sa sb,cond_true];rw [beq_self_eq_true,Bool.not_true,cond_false];cases h1:(zC a&&(zC b&&leS a b)) with
  | false=>rfl
  | true=>
   cases h2:(zC b&&(zC c&&leS b c)) with
   | false=>rfl
   | true=>
    simp only [qc] at h1 h2;rw [h1.1,h2.2.1,zzr h1.2.2 h2.2.2];rfl
 have l3:zAq 1 a b c=(true,true):=by
  show (zrG a b c).ev (zF zrp default 0) (fun r=>(true,r)) (false,default)=_
  unfold zrG;replace q1:zzs (30:Int) [a,b,c]=(true,q):=q1;simp only [Wy.ev_i,Wy.ev_bn,Wy.ev_k,q1,cond_true];cases q with
  | false=>rfl
  | true=>
   obtain ⟨⟨oa,wa⟩,⟨ob,wb⟩,oc,wc⟩:=q2 rfl;rw [l5 oa ob oc (zbbR wa (by omega)) (zbbR wb (by omega))]
   rfl
 unfold zhk zAX;rw [Wy.fin_bn,l3]; rfl
end Go.Proofs.YtljlfiomikifjaaGreatDoor
end
