/- Texts of this claim, joined (the program, its functions in plain words, and what they compute). -/
import Derived.Test.YtljlfiomikifjaaGreatDoorGC10
set_option autoImplicit false
set_option linter.unusedVariables false
set_option linter.unusedSectionVars false
set_option linter.unusedSimpArgs false
set_option maxRecDepth 1000000
set_option maxHeartbeats 0
/- Substitution commutes with the operations; without bindings it changes nothing. -/
noncomputable section
namespace Go.Proofs.YtljlfiomikifjaaGreatDoor
open Go Go.Ab
mutual
def zbaf (to:RowID→yC):Atom→yC
 | ⟨k,r,a,f,i,o,b⟩=>if k=0 then to r else if k=1 then monU ((zTQ to a).getD 0 default) ((zTQ to a).getD 1 default) else if k=2 then delU ((zTQ to a).getD 0 default)
  else if k=3 then absU ((zTQ to a).getD 0 default) else tstU f (z47 to i) o b
def z6f (to:RowID→yC):yD→yC
 | []=>[⟨1,[]⟩]
 | ⟨x,e⟩::r=>zKQ (powA (zbaf to x) e.toNat) (z6f to r)
def z5F (to:RowID→yC):yC→yC→yC
 | [],s=>s
 | ⟨c,fs⟩::r,s=>z5F to r (sumA s (zKQ [⟨c,[]⟩] (z6f to fs)))
def zTQ (to:RowID→yC):yA→yA
 | []=>[]
 | a::r=>z5F to a []::zTQ to r
def z47 (to:RowID→yC):yE→yE
 | []=>[]
 | ⟨v,a⟩::r=>⟨v,z5F to a []⟩::z47 to r
end
section
variable (to:RowID→yC)
variable {to} (hto:∀ r,PA (to r))
include hto
end
theorem z6j {a:yC}:zlI a=true↔a.length≤512∧zbu a≤8∧zT a≤4096∧∀ t∈a,t.Factors.length≤64∧∀ f∈t.Factors,f.Exp≤64∧f.Atom.Items.length≤1024:=by
 refine ⟨zHw,fun ⟨h1,h2,h3,h4⟩=> ?_⟩
 unfold zlI;simp only [qc,qe];refine ⟨⟨⟨h1,h2⟩,h3⟩,List.all_eq_true.2 fun t ht=> ?_⟩
 obtain ⟨h5,h6⟩:=h4 t ht;unfold withF;rw [Bool.not_eq_true',Bool.or_eq_false_iff];refine ⟨by simp; omega, ?_⟩
 rw [List.any_eq_false];intro f hf;obtain ⟨h7,h8⟩:=h6 f hf;simp;exact ⟨h7,h8⟩
theorem zV7:∀ a b:yD,zbS (a++b)=zbS a+zbS b
 | [],b=>by rw [ztI]; simp
 | t::r,b=>by rw [List.cons_append,zek,zek,zV7 r b]; omega
theorem zWj:∀ a b:yD,zc8 (a++b)=max (zc8 a) (zc8 b)
 | [],b=>by rw [zC9]; simp
 | t::r,b=>by rw [List.cons_append,zrL,zrL,zWj r b]; omega
structure FB (l:yD):Prop where
 len:l.length≤64
 nes:zc8 l≤8
 siz:1+l.length+zbS l≤4096
 fs:∀ f∈l,f.Exp≤64∧f.Atom.Items.length≤1024
theorem FB.of {a:yC} (h:zlI a=true) {t:Term} (ht:t∈a):FB t.Factors:=by
 obtain ⟨h1,h2,h3,h4⟩:=z6j.1 h;obtain ⟨h5,h6⟩:=h4 t ht;refine ⟨h5,Nat.le_trans (zYq ht) h2, ?_,h6⟩
 have key:∀ {a:yC},t∈a→1+t.Factors.length+zbS t.Factors≤zT a:=by
  intro a;induction a with
  | nil=>intro h; cases h
  | cons u r ih=>
   intro h;rw [zlJ];rcases qd.1 h with rfl | h
   ·omega
   ·have:=ih h; omega
 have:=key ht;omega
theorem FB.app {a b:yD} (h:FB (a++b)):FB a∧FB b:=by
 obtain ⟨h1,h2,h3,h4⟩:=h;rw [qg] at h1 h3;rw [zWj] at h2;rw [zV7] at h3;exact ⟨⟨by omega,by omega,by omega,fun f hf=>h4 f (by simp [hf])⟩,⟨by omega,by omega,by omega,fun f hf=>h4 f (by simp [hf])⟩⟩
theorem OKF.app {a b:yD} (h:OKF vatA (a++b)):OKF vatA a∧OKF vatA b:=⟨⟨(List.pairwise_append.1 h.1).1,fun f hf=>h.2 f (by simp [hf])⟩,⟨(List.pairwise_append.1 h.1).2.1,fun f hf=>h.2 f (by simp [hf])⟩⟩
section
variable {c:Int} (hc:1≤c∧c≤1152921504606846976)
include hc
end
def AB (x:Atom):Prop:=zmJ x≤8∧zjm x+2≤4096∧x.Items.length≤1024
theorem AB.of {l:yD} (h:FB l) {f:Factor} (hf:f∈l):AB f.Atom:=by
 refine ⟨Nat.le_trans (zMI hf) h.nes, ?_,(h.fs f hf).2⟩;have h1:=zNJ hf
 have h2:1≤l.length:=by cases l with
  | nil=>cases hf
  | cons a r=>simp
 have:=h.siz;omega
theorem zbaA (a b:yD):cL a b=cmpL (zbF a) (zbF b):=by unfold cL; rw [cmpT]
theorem PA.canon {a:yC} (h:PA a):Canon a:=⟨h.1.imp fun {x y} hxy=>by rw [zbaA]; exact hxy,fun t ht=>(h.2 t ht).2.1⟩
theorem zbas {a b:yD} (ha:MF a) (hb:MF b):dvF a b=true↔∀ x,exA x a≤exA x b:=by
 rw [z4W];constructor
 ·intro h x;by_cases h0:exA x a=0
  ·rw [h0]; exact (zyg hb).1
  ·obtain ⟨f,hf,rfl⟩:=(zyg ha).2 h0;obtain ⟨g,hg,e1,e2⟩:=h f hf;rw [zAe ha hf,e2,zAe hb hg]; exact e1
 ·intro h f hf;have h1:=h f.Atom;rw [zAe ha hf] at h1;have h2:=(ha.2 f hf).2;obtain ⟨g,hg,e⟩:=(zyg hb).2 (show exA f.Atom b≠0 by omega)
  rw [← e,zAe hb hg] at h1;exact ⟨g,hg,h1,e.symm⟩
theorem zSy {a b:yD} (ha:MF a) (hb:MF b):dvF a (zbM a b)=true:=(zbas ha (zT5 ha hb)).2 fun x=>by
 rw [zZ6 x ha hb];have h1:=(zyg (x:=x) ha).1;have h2:=(zyg (x:=x) hb).1;unfold cbE;split
 ·split <;>omega
 ·omega
theorem z1Z {a b:yD} (ha:MF a) (hb:MF b):dvF b (zbM a b)=true:=by
 rw [z68 ha hb]; exact zSy hb ha
end Go.Proofs.YtljlfiomikifjaaGreatDoor
/- Substitution keeps lists of items short; absorbing before a substitution. -/
namespace Go.Proofs.YtljlfiomikifjaaGreatDoor
open Go Go.Ab
def GP {α:Type} (P:α→Prop):Int⊕α→Prop
 | .inl _=>True
 | .inr a=>P a
theorem zAP {α β:Type} {P:α→Prop} {Q:β→Prop} {x:Int⊕α} {k:α→Int⊕β} (hx:GP P x) (hk:∀ a,P a→GP Q (k a)):GP Q (sbd x k):=by
 cases x with
 | inl e=>exact trivial
 | inr a=>exact hk a hx
theorem zTX {P:yC→Prop} {r:yC×Int} (h:P r.1):GP P (opS r):=by
 unfold opS;split
 ·exact h
 ·exact trivial
theorem zy5 {a:yC}:zb9 a↔∀ t∈a,∀ f∈t.Factors,zzq f.Atom:=by
 rw [zTD];exact ⟨fun h t ht=>zFO.1 (h t ht),fun h t ht=>zFO.2 (h t ht)⟩
theorem zzz:zb9 []:=zTD.2 fun t ht=>by cases ht
theorem zOr (c:Int):zb9 [⟨c,[]⟩]:=zy5.2 fun t ht f hf=>by
 rw [qh] at ht; subst ht; cases hf
theorem zUc {x:Atom} (h:zzq x):zb9 (oneA x):=zy5.2 fun t ht f hf=>by
 simp only [oneA,qh] at ht; subst ht;rw [qh] at hf; subst hf; exact h
theorem zMs {a:yC} (h:zb9 a):zb9 (fitR a).1:=by
 unfold fitR;cases zlI a with
 | true=>exact h
 | false=>exact zzz
theorem zZo {ok:Bool} {r:yC×Int} (h:ok=true→zb9 r.1):zb9 (opR ok r).1:=by
 cases ok with
 | true=>exact h rfl
 | false=>exact zzz
theorem z9K {a b:yC} (hs:Srs a) (ha:zb9 a) (hb:zb9 b):zb9 (sumA a b):=zy5.2 fun t ht f hf=>by
 obtain ⟨x,hx,e⟩:=zMC b a hs ht;rw [e] at hf;rcases hx with hx | hx
 ·exact zy5.1 ha x hx f hf
 ·exact zy5.1 hb x hx f hf
theorem z8X {a b:yC} (ha:zb9 a) (hb:zb9 b):zb9 (zKQ a b):=zy5.2 fun t ht f hf=>by
 obtain ⟨x,hx,e⟩:=zMC (zvq a b) [] List.Pairwise.nil ht;rw [e] at hf;rcases hx with hx | hx
 ·cases hx
 ·obtain ⟨u,hu,v,hv,rfl⟩:=z01 hx;obtain ⟨y,hy,e⟩:=zsk hf;rw [e];rcases hy with hy | hy
  ·exact zy5.1 ha u hu y hy
  ·exact zy5.1 hb v hv y hy
theorem z9s {a b:yC} (ha:zb9 a) (hb:zb9 b):zb9 (addR a b).1:=zZo fun hv=>by
 rw [qc] at hv;exact zMs (z9K (zXp hv.1).1 ha hb)
theorem z9Y {a b:yC} (ha:zb9 a) (hb:zb9 b):zb9 (mulR a b).1:=zZo fun _=>zMs (z8X ha hb)
theorem zXz {k:Int} {l:yA} (h:∀ a∈l,zb9 a):zzq ⟨k,⟨0,0⟩,l,0,[],0,⟨0,0,ByteArray.mk #[]⟩⟩:=(zOD _).2 ⟨by simp,zGC.2 h,zDJ.2 fun w hw=>by cases hw⟩
theorem z9v {a b:yC} (ha:zb9 a) (hb:zb9 b):zb9 (monR a b).1:=zZo fun _=>by
 split
 ·exact ha
 ·split
  ·exact zzz
  ·refine zMs (zUc (zXz fun x hx=> ?_))
   simp only [qd,List.not_mem_nil,or_false] at hx;rcases hx with rfl | rfl
   ·exact ha
   ·exact hb
theorem z9S {a:yC} (ha:zb9 a):zb9 (delR a).1:=zZo fun _=>by
 split
 ·exact ha
 ·split
  ·exact zOr 1
  ·refine zMs (zUc (zXz fun x hx=> ?_))
   rw [qh] at hx; subst hx; exact ha
theorem z94 {a:yC} (ha:zb9 a):zb9 (absR a).1:=zZo fun _=>by
 split
 ·exact zOr 1
 ·split
  ·exact zzz
  ·refine zMs (zUc (zXz fun x hx=> ?_))
   rw [qh] at hx; subst hx; exact ha
theorem z9j {f o:Int} {l:yE} {b:Value} (hl:l.length<20) (h:∀ w∈l,zb9 w.Ann):zb9 (zYk f l o b).1:=by
 unfold zYk;cases (!(fitK f l o b&&l.all fun w=>zd3 w.Ann)) with
 | true=>exact zzz
 | false=>
  cases decide (0<(zmn l).length) with
  | true=>
   refine zMs (zUc ((zOD _).2 ⟨?_,zGC.2 fun a ha=>(by cases ha),zDJ.2 fun w hw=>h w (zHb hw).1⟩))
   have h1:(zmn l).length=(l.filter hasA).length:=(zkb _ _).length_eq;have h2:=List.length_filter_le hasA l;show (zmn l).length<20;omega
  | false=>
   cases (f==0&&mats o (cmpI 0 b.Int)) with
   | true=>exact zOr 1
   | false=>exact zzz
theorem z7e {b:yC} (hb:zb9 b):∀ (n:Nat) (p:yC),zb9 p→GP zb9 (powS b n p)
 | 0,p,hp=>hp
 | n+1,p,hp=>zAP (zTX (z9Y hp hb)) fun q hq=>z7e hb n q hq
theorem z9E (n:Int):zb9 (cstA n):=by
 unfold cstA;split
 ·exact zzz
 ·exact zOr _
theorem z4x {l:yA} (h:∀ a∈l,zb9 a) (i:Nat):zb9 (l.getD i default):=by
 by_cases hi:i<l.length
 ·exact h _ (zS hi)
 ·rw [List.getD_eq_getElem?_getD,List.getElem?_eq_none (by omega)]; exact zzz
section
variable {to:RowID→yC} (ht:∀ r,zb9 (to r))
include ht
mutual
theorem z52:∀ x:Atom,zzq x→GP zb9 (zR5 to x)
 | ⟨k,r,a,f,i,o,b⟩=>fun h=>by
  obtain ⟨h1,h2,h3⟩:=(zOD _).1 h;rw [zR5];split
  ·exact ht r
  ·refine zAP (zYW a (zGC.1 h2)) fun xs hxs=> ?_
   have g0:=z4x hxs 0;have g1:=z4x hxs 1;split
   ·exact zTX (z9v g0 g1)
   ·split
    ·exact zTX (z9S g0)
    ·split
     ·exact zTX (z94 g0)
     ·refine zAP (zVQ i (zDJ.1 h3)) fun is his=>zTX (z9j ?_ his.2)
      rw [his.1]; exact h1
theorem zPN:∀ l:yD,(∀ f∈l,zzq f.Atom)→∀ p,zb9 p→GP zb9 (zup to l p)
 | [],_,p,hp=>by rw [zup]; exact hp
 | ⟨x,e⟩::r,h,p,hp=>by
  rw [zup];exact zAP (z52 x (h ⟨x,e⟩ (by simp))) fun b hb=>zAP (z7e hb _ p hp) fun q hq=>zPN r (fun f hf=>h f (by simp [hf])) q hq
theorem zRE:∀ a:yC,(∀ t∈a,∀ f∈t.Factors,zzq f.Atom)→∀ s,zb9 s→GP zb9 (zrt to a s)
 | [],_,s,hs=>by rw [zrt]; exact hs
 | ⟨c,fs⟩::r,h,s,hs=>by
  rw [zrt];exact zAP (zPN fs (h ⟨c,fs⟩ (by simp)) _ (z9E c)) fun p hp=>zAP (zTX (z9s hs hp)) fun q hq=>zRE r (fun t ht=>h t (by simp [ht])) q hq
theorem zYW:∀ l:yA,(∀ a∈l,zb9 a)→GP (fun r:yA=>∀ a∈r,zb9 a) (zzv to l)
 | [],_=>by rw [zzv]; exact fun a ha=>by cases ha
 | a::r,h=>by
  rw [zzv];refine zAP (zRE a (zy5.1 (h a (by simp))) [] zzz) fun b hb=>zAP (zYW r fun c hc=>h c (by simp [hc])) fun l hl=> ?_
  intro x hx;rcases qd.1 hx with rfl | hx
  ·exact hb
  ·exact hl x hx
theorem zVQ:∀ l:yE,(∀ w∈l,zb9 w.Ann)→GP (fun r:yE=>r.length=l.length∧∀ w∈r,zb9 w.Ann) (zv8 to l)
 | [],_=>by rw [zv8]; exact ⟨rfl,fun a ha=>by cases ha⟩
 | ⟨v,a⟩::r,h=>by
  rw [zv8];refine zAP (zRE a (zy5.1 (h ⟨v,a⟩ (by simp))) [] zzz) fun b hb=>zAP (zVQ r fun c hc=>h c (by simp [hc])) fun l hl=> ?_
  refine ⟨by simp [hl.1],fun x hx=> ?_⟩
  rcases qd.1 hx with rfl | hx
  ·exact hb
  ·exact hl.2 x hx
end
end
section
variable {σ:Atom→yC}
end
end Go.Proofs.YtljlfiomikifjaaGreatDoor
/- The terms that no other one divides: of any list; supports. -/
namespace Go.Proofs.YtljlfiomikifjaaGreatDoor
open Go Go.Ab
theorem Canon.dst {a:yC} (h:Canon a):a.Pairwise fun x y=>x.Factors≠y.Factors:=h.asc.imp fun {x y} hxy e=>by rw [e,ordL.refl] at hxy; omega
theorem z7t (x y:Atom):(cmpT (zdI x) (zdI y)==(0:Int))=decide (x=y):=by
 rw [beqd,decide_eq_decide];exact ⟨fun h=>zPK _ _ (zwb _ _ h),fun h=>by rw [h,zKz]⟩
theorem z8p {d:Nat} (s t:Term) (i:Nat) (hi:i<s.Factors.length) (hs:zdK (zA d) s.Factors) (hd:d≤99) (ht:t.Factors.length≤1000000):
  ∀ (n k:Nat) (found:Bool),t.Factors.length<k+n→k≤t.Factors.length→zzN n i found k s t=(true,((i:Int),(found||(t.Factors.drop k).any fun g=>decide ((s.Factors.getD i default).Exp≤g.Exp)&&decide ((s.Factors.getD i default).Atom=g.Atom)),s,t))
 | 0,k,found,h,h2=>by omega
 | n+1,k,found,h,h2=>by
  show (zz7 i found k s t).ev (fun x y=>zzN n x.2.2.1 x.2.2.2.1 x.2.2.2.2.1 y.1 y.2.1) (fun r=>(true,r)) (false,default)=_
  unfold zz7;have hf:=hs.2 _ (zS hi);by_cases hk:k<t.Factors.length
  ·have key:=fun f'=>z8p s t i hi hs hd ht n (k+1) f' (by omega) (by omega)
   simp only [Wy.ev_i,Wy.ev_k,Wy.ev_h,Wy.ev_bn,Wy.ev_d,tT,hk,hi,Atom.eta,zoj hf hd,z7t,zbV (show k<4611686018427387904 by omega),key]
   rw [zbT hk,List.any_cons];cases found with
   | true=>simp
   | false=>
    rw [cond_false];by_cases hx:(s.Factors.getD i default).Atom=(t.Factors.getD k default).Atom
    ·rw [decide_eq_true hx]; simp
    ·rw [decide_eq_false hx]; simp
  ·simp only [Wy.ev_i,Wy.ev_k,Wy.ev_h,Wy.ev_bn,Wy.ev_d,tT,hk,zez hk];simp
theorem z8m {d:Nat} (s t:Term) (hs:zdK (zA d) s.Factors) (hd:d≤99) (ht:t.Factors.length≤1000000):
  ∀ (n i:Nat),s.Factors.length<i+n→i≤s.Factors.length→zzY n i s t=(true,bif (s.Factors.drop i).all (fun f=>t.Factors.any fun g=>decide (f.Exp≤g.Exp)&&decide (f.Atom=g.Atom)) then .inr () else .inl false)
 | 0,i,h,h2=>by omega
 | n+1,i,h,h2=>by
  show (zzK i s t).ev (fun x y=>zzY n x.2.2.1 y.1 y.2.1) (fun r=>(true,r)) (false,.inl default)=_
  unfold zzK;have hl:=hs.1;by_cases hi:i<s.Factors.length
  ·have e6:=z8p s t i hi hs hd ht (i+Int.toNat (0:Int)+s.Factors.length+t.Factors.length+1000) 0 false (by omega) (by omega)
   rw [show ((0:Nat):Int)=(0:Int) from rfl,List.drop_zero,Bool.false_or] at e6
   simp only [Wy.ev_i,Wy.ev_k,Wy.ev_h,Wy.ev_bn,Wy.ev_d,tT,hi,e6,zbV (show i<4611686018427387904 by omega)]
   rw [zbT hi,List.all_cons];cases t.Factors.any fun g=>decide ((s.Factors.getD i default).Exp≤g.Exp)&&decide ((s.Factors.getD i default).Atom=g.Atom) with
   | false=>rfl
   | true=>
    rw [Bool.not_true,cond_false,Bool.true_and];exact z8m s t hs hd ht n (i+1) (by omega) (by omega)
  ·simp only [Wy.ev_i,Wy.ev_k,Wy.ev_h,Wy.ev_bn,Wy.ev_d,tT,hi,zez hi];rfl
theorem z4u {d:Nat} {s:Term} (hs:zdK (zA d) s.Factors) (hd:d≤99) {t:Term} (ht:t.Factors.length≤1000000):zvl s t=(true,dvF s.Factors t.Factors):=by
 unfold zvl zKA;have e:=z8m s t hs hd ht (Int.toNat (0:Int)+s.Factors.length+t.Factors.length+1000) 0 (by omega) (by omega)
 rw [show ((0:Nat):Int)=(0:Int) from rfl,List.drop_zero] at e
 rw [Wy.fin_bn,e,cond_true];unfold dvF;cases s.Factors.all fun f=>t.Factors.any fun g=>decide (f.Exp≤g.Exp)&&decide (f.Atom=g.Atom) <;>rfl
theorem okA.fine {a:yC} (oa:okA a):zA (11+1) a:=oa.1.1
theorem okA.fac {a:yC} (oa:okA a):∀ t∈a,zdK (zA 11) t.Factors:=fun t ht=>oa.fine.2 t ht
theorem okA.len {a:yC} (oa:okA a):a.length≤1000000:=oa.fine.1
theorem few2 {n:Nat} (hn:n≤1000) {a b:yC} (ha:wf23 a) (hb:wf23 b):∃ q,zxi (n:Int) [a,b]=(true,q)∧(q=true→(okA a∧zfl a≤n)∧okA b∧zfl b≤n):=by
 obtain ⟨q,h1,h2⟩:=zbab n hn [a,b] (by simp) (fun x hx=>by
  simp only [qd,List.not_mem_nil,or_false] at hx;rcases hx with rfl | rfl
  ·exact ha
  ·exact hb)
 exact ⟨q,h1,fun h=>⟨⟨z4Z hn (h2 h a (by simp)) ha,(h2 h a (by simp)).2⟩,z4Z hn (h2 h b (by simp)) hb,(h2 h b (by simp)).2⟩⟩
end Go.Proofs.YtljlfiomikifjaaGreatDoor
/- The law of division. -/
set_option maxRecDepth 100000
namespace Go.Proofs.YtljlfiomikifjaaGreatDoor
open Go Go.Ab
theorem z97 {x:Int} (h:wf5 x):0≤x∧x≤255:=by
 unfold wf5 Lit.wf at h;simp only [qc,qe] at h;have h0:IntKind.u8.min=0:=by decide
 have h1:IntKind.u8.max=255:=by decide
 omega
theorem z6I {x:Int} (h:wf5 x) {n:Nat} (hn:0<n):∃ j:Nat,j<n∧(IntKind.i64.wrap x).tmod (n:Int)=(j:Int):=by
 have hr:=z97 h;obtain ⟨m,rfl⟩:∃ m:Nat,x=(m:Int):=⟨x.toNat,by omega⟩
 rw [zkA (by omega) (by omega)]
 exact ⟨m % n,Nat.mod_lt _ hn,rfl⟩
theorem z1a {a:yC} (oa:okA a) (hv:zd3 a=true) {t:Term} (ht:t∈a):VT t:=(zHJ hv oa.2.1).2.2 t ht
theorem z6S (s t:Term):zKQ [s] [t]=[zmE s t]:=rfl
theorem z0m (a b:yC) (i k:Int) (ha:wf23 a) (hb:wf23 b) (hi:wf5 i) (hk:wf5 k):ze0 a b i k=(true,true):=by
 obtain ⟨q,q1,q2⟩:=few2 (n:=40) (by omega) ha hb
 have l10:∀ s t:Term,okA a→okA b→zd3 a=true→zd3 b=true→s∈a→t∈b→zte 1 s t=(true,true):=fun s t oa ob va vb hs ht=>by
  show (zlk s t).ev (zJ zlq default 0) (fun r=>(true,r)) (false,default)=_
  unfold zlk;have vs:=z1a oa va hs;have vt:=z1a ob vb ht;have ms:=((zXp va).2 s hs).2;have mt:=((zXp vb).2 t ht).2;have hp:=z7T [s] [t] (fun x hx=>by rw [qh] at hx; subst hx; exact vs) (fun x hx=>by rw [qh] at hx; subst hx; exact vt) (by simp) (by simp)
  rw [Wy.ev_bn,hp,cond_true,z6S]
  have hl:(zbM s.Factors t.Factors).length≤1000000:=by
   have h1:=zDq s.Factors t.Factors;have h2:=vs.2.2.1;have h3:=vt.2.2.1;omega
  have e1:zci s (zmE s t)=(true,true):=by
   rw [zGS (oa.fac s hs) (by omega) (show (zmE s t).Factors.length≤1000000 from hl)]
   exact congrArg (fun b=>(true,b)) (zSy ms mt)
  have e2:zci t (zmE s t)=(true,true):=by
   rw [zGS (ob.fac t ht) (by omega) (show (zmE s t).Factors.length≤1000000 from hl)]
   exact congrArg (fun b=>(true,b)) (z1Z ms mt)
  have g:([zmE s t]:yC).getD (Int.toNat (0:Int)) default=zmE s t:=rfl;simp only [Wy.ev_i,Wy.ev_bn,Wy.ev_k,g,e1,e2,cond_true];rfl
 have l5:okA a→okA b→a.length≠0→b.length≠0→zuz 1 a b i k=(true,true):=fun oa ob na nb=>by
  obtain ⟨j,hj,ej⟩:=z6I hi (n:=a.length) (by omega)
  obtain ⟨m,hm,em⟩:=z6I hk (n:=b.length) (by omega)
  show (zl9 a b i k).ev (zJ zmb default 0) (fun r=>(true,r)) (false,default)=_
  unfold zl9;have z1:decide ((a.length:Int)=(0:Int))=false:=decide_eq_false (by omega)
  have z2:decide ((b.length:Int)=(0:Int))=false:=decide_eq_false (by omega)
  have fs:=oa.fac _ (zS hj);have ft:=ob.fac _ (zS hm)
  have l8:zus 1 a b (a.getD j default) (b.getD m default)=(true,true):=by
   show (zlP a b (a.getD j default) (b.getD m default)).ev (zJ zlZ default 0) (fun r=>(true,r)) (false,default)=_
   unfold zlP;simp only [Wy.ev_i,Wy.ev_bn,Wy.ev_k,oa.rvalid,ob.rvalid,cond_true];cases va:zd3 a with
   | false=>rfl
   | true=>
    cases vb:zd3 b with
    | false=>rfl
    | true=>rw [l10 _ _ oa ob va vb (zS hj) (zS hm)]; rfl
  simp only [Wy.ev_i,Wy.ev_bn,Wy.ev_k,tT,ej,em,z1,z2,Bool.not_false,cond_true,hj,hm,zGS fs (by omega:11≤99) ft.1,z4u fs (by omega:11≤99) ft.1,zGS fs (by omega:11≤99) fs.1,z7p,l8]
  cases dvF (a.getD j default).Factors (b.getD m default).Factors <;>rfl
 have l3:zuq 1 a b i k=(true,true):=by
  show (zlT a b i k).ev (zJ zl6 default 0) (fun r=>(true,r)) (false,default)=_
  unfold zlT;replace q1:zxi (40:Int) [a,b]=(true,q):=q1;simp only [Wy.ev_i,Wy.ev_bn,Wy.ev_k,q1,cond_true];cases q with
  | false=>rfl
  | true=>
   obtain ⟨⟨oa,_⟩,ob,_⟩:=q2 rfl;by_cases na:a.length=0
   ·have:(Int.ofNat a.length==(0:Int))=true:=by rw [na]; rfl
    rw [this]; rfl
   ·by_cases nb:b.length=0
    ·have:(Int.ofNat b.length==(0:Int))=true:=by rw [nb]; rfl
     rw [this];cases (Int.ofNat a.length==(0:Int)) <;>rfl
    ·rw [l5 oa ob na nb];cases (Int.ofNat a.length==(0:Int)) <;>cases (Int.ofNat b.length==(0:Int)) <;>rfl
 unfold ze0 zvs;rw [Wy.fin_bn,l3]; rfl
end Go.Proofs.YtljlfiomikifjaaGreatDoor
end
