/- Texts of this claim, joined (the program, its functions in plain words, and what they compute). -/
import Derived.Test.YtljlfiomikifjaaGreatDoorGC6
set_option autoImplicit false
set_option linter.unusedVariables false
set_option linter.unusedSectionVars false
set_option linter.unusedSimpArgs false
set_option maxRecDepth 1000000
set_option maxHeartbeats 0
/- Division of terms, antichains, absorptive normal forms: no program in sight. -/
noncomputable section
namespace Go.Proofs.YtljlfiomikifjaaGreatDoor
open Go Go.Ab
def dvF (a b:yD):Bool:=a.all fun f=>b.any fun g=>decide (f.Exp≤g.Exp)&&decide (f.Atom=g.Atom)
theorem zKv {a b:yD}:dvF a b=true↔∀ f∈a,∃ g∈b,f.Exp≤g.Exp∧f.Atom=g.Atom:=by
 unfold dvF;simp only [List.all_eq_true,List.any_eq_true,qc,qe]
theorem zLj (a:yD):dvF a a=true:=zKv.2 fun f hf=>⟨f,hf,Int.le_refl _,rfl⟩
theorem zNj {a b c:yD} (h1:dvF a b=true) (h2:dvF b c=true):dvF a c=true:=zKv.2 fun f hf=>by
 obtain ⟨g,hg,e1,e2⟩:=zKv.1 h1 f hf;obtain ⟨h,hh,e3,e4⟩:=zKv.1 h2 g hg;exact ⟨h,hh,Int.le_trans e1 e3,e2.trans e4⟩
def cFx (f g:Factor):Int:=cmpT (zh2 f) (zh2 g)
theorem z3r {α:Type} (e:α→TT) (he:∀ a b,e a=e b→a=b):Ord3 fun a b=>cmpT (e a) (e b) where
 eq x y:=⟨fun h=>he _ _ (ztd _ _ h),fun h=>by subst h; exact zCP _⟩
 swap x y:=by rw [zgG (e x) (e y)]; omega
 trans x y z h1 h2:=by
  have h3:cmpT (e x) (e z)≤0:=zwO _ _ _ (Int.le_of_lt h1) (Int.le_of_lt h2);by_cases h4:cmpT (e x) (e z)=0
  ·have h5:=ztd _ _ h4;rw [h5,zgG (e y) (e z)] at h1;omega
  ·omega
theorem ordF:Ord3 cFx:=z3r zh2 zWF
abbrev AscF (l:yD):Prop:=l.Pairwise fun f g=>cmpT (zdl f.Atom) (zdl g.Atom)<0
theorem AscF.sasc {l:yD} (h:AscF l):SAsc cFx l:=h.imp fun {f g} hfg=>by
 obtain ⟨x,e⟩:=f; obtain ⟨y,e'⟩:=g;show cmpT (zh2 ⟨x,e⟩) (zh2 ⟨y,e'⟩)<0;have hfg:cmpT (zdl x) (zdl y)<0:=hfg;simp only [zh2,cmpT,cmpL];rw [if_neg (by omega)]
 exact hfg
theorem AscF.uniq {l:yD} (h:AscF l):∀ f∈l,∀ g∈l,f.Atom=g.Atom→f=g:=by
 induction l with
 | nil=>intro f hf; cases hf
 | cons x r ih=>
  have h:=qi.1 h
  have ne:∀ g∈r,x.Atom≠g.Atom:=fun g hg e=>by
   have:=h.1 g hg;rw [e,zCP] at this; omega
  intro f hf g hg e;rcases qd.1 hf with e1 | hf1
  ·rcases qd.1 hg with e2 | hg1
   ·rw [e1,e2]
   ·rw [e1] at e; exact absurd e (ne g hg1)
  ·rcases qd.1 hg with e2 | hg1
   ·rw [e2] at e; exact absurd e.symm (ne f hf1)
   ·exact ih h.2 f hf1 g hg1 e
theorem z0I {a b:yD} (ha:AscF a) (hb:AscF b) (h1:dvF a b=true) (h2:dvF b a=true):a=b:=by
 have key:∀ {a b:yD},AscF a→AscF b→dvF a b=true→dvF b a=true→∀ f∈a,f∈b:=by
  intro a b ha hb h1 h2 f hf;obtain ⟨g,hg,e1,e2⟩:=zKv.1 h1 f hf;obtain ⟨f',hf',e3,e4⟩:=zKv.1 h2 g hg;have:=ha.uniq f hf f' hf' (e2.trans e4);subst this
  have:f=g:=by
   obtain ⟨x,n⟩:=f; obtain ⟨y,m⟩:=g;simp only at e1 e2 e3 e4;subst e2;have:n=m:=by omega
   subst this; rfl
  subst this; exact hg
 exact zZA ordF ha.sasc hb.sasc fun x=>⟨key ha hb h1 h2 x,key hb ha h2 h1 x⟩
def cL (a b:yD):Int:=cmpT (.l (zbz a)) (.l (zbz b))
theorem ordL:Ord3 cL:=z3r (fun a=>.l (zbz a)) fun a b h=>zCc _ _ (TT.l.inj h)
structure Canon (a:yC):Prop where
 asc:a.Pairwise fun t u=>cL t.Factors u.Factors<0
 fac:∀ t∈a,AscF t.Factors
theorem Canon.tail {t:Term} {a:yC} (h:Canon (t::a)):Canon a:=⟨(qi.1 h.asc).2,fun x hx=>h.fac x (by simp [hx])⟩
theorem Canon.uniq {a:yC} (h:Canon a):∀ t∈a,∀ u∈a,t.Factors=u.Factors→t=u:=by
 have hp:=h.asc;clear h;induction a with
 | nil=>intro t ht; cases ht
 | cons x r ih=>
  have hp:=qi.1 hp
  have ne:∀ g∈r,x.Factors≠g.Factors:=fun g hg e=>by
   have:=hp.1 g hg;rw [e,ordL.refl] at this; omega
  intro f hf g hg e;rcases qd.1 hf with e1 | hf1
  ·rcases qd.1 hg with e2 | hg1
   ·rw [e1,e2]
   ·rw [e1] at e; exact absurd e (ne g hg1)
  ·rcases qd.1 hg with e2 | hg1
   ·rw [e2] at e; exact absurd e.symm (ne f hf1)
   ·exact ih hp.2 f hf1 g hg1 e
def minT (a:yC) (t:Term):Bool:=a.all fun u=> !dvF u.Factors t.Factors||decide (u.Factors=t.Factors)
theorem z0n {a:yC} {t:Term}:minT a t=true↔∀ u∈a,dvF u.Factors t.Factors=true→u.Factors=t.Factors:=by
 unfold minT;simp only [List.all_eq_true,Bool.or_eq_true,Bool.not_eq_true',qe];constructor
 ·intro h u hu hd;rcases h u hu with h | h
  ·rw [hd] at h; cases h
  ·exact h
 ·intro h u hu;cases hd:dvF u.Factors t.Factors with
  | false=>exact .inl rfl
  | true=>exact .inr (h u hu hd)
def redL (a:yC):yC:=(a.filter (minT a)).map fun t=>⟨1,t.Factors⟩
theorem zqz {a:yC} {t:Term}:t∈redL a↔∃ u∈a,minT a u=true∧t=⟨1,u.Factors⟩:=by
 unfold redL;rw [List.mem_map];constructor
 ·rintro ⟨u,hu,rfl⟩
  have:=List.mem_filter.1 hu;exact ⟨u,this.1,this.2,rfl⟩
 ·rintro ⟨u,h1,h2,rfl⟩
  exact ⟨u,List.mem_filter.2 ⟨h1,h2⟩,rfl⟩
theorem zDn {a:yC} (h:Canon a):Canon (redL a):=by
 refine ⟨?_,fun t ht=> ?_⟩
 ·unfold redL;rw [List.pairwise_map];exact h.asc.filter _
 ·obtain ⟨u,hu,_,rfl⟩:=zqz.1 ht;exact h.fac u hu
theorem z4Y {a:yC} (h:Canon a):∀ (n:Nat) (t:Term),t∈a→(a.filter fun u=>dvF u.Factors t.Factors).length≤n→∃ u∈a,minT a u=true∧dvF u.Factors t.Factors=true
 | 0,t,ht,hn=>by
  have:t∈a.filter fun u=>dvF u.Factors t.Factors:=List.mem_filter.2 ⟨ht,zLj _⟩
  have:=List.length_pos_of_mem this;omega
 | n+1,t,ht,hn=>by
  by_cases hm:minT a t=true
  ·exact ⟨t,ht,hm,zLj _⟩
  ·have hm:∃ u∈a,dvF u.Factors t.Factors=true∧u.Factors≠t.Factors:=by
    refine Classical.byContradiction fun hc=>hm (z0n.2 fun u hu hd=>Classical.byContradiction fun hne=>hc ⟨u,hu,hd,hne⟩)
   obtain ⟨u,hu,hd,hne⟩:=hm
   have hnd:dvF t.Factors u.Factors=false:=by
    cases hq:dvF t.Factors u.Factors with
    | false=>rfl
    | true=>exact absurd (z0I (h.fac u hu) (h.fac t ht) hd hq) hne
   have hlt:(a.filter fun v=>dvF v.Factors u.Factors).length<(a.filter fun v=>dvF v.Factors t.Factors).length:=by
    have hsub:∀ l:yC,(l.filter fun v=>dvF v.Factors u.Factors).length≤(l.filter fun v=>dvF v.Factors t.Factors).length∧(t∈l→(l.filter fun v=>dvF v.Factors u.Factors).length<(l.filter fun v=>dvF v.Factors t.Factors).length):=by
     intro l;induction l with
     | nil=>exact ⟨Nat.le_refl _,fun h=>by cases h⟩
     | cons x r ih=>
      have step:dvF x.Factors u.Factors=true→dvF x.Factors t.Factors=true:=fun hx=>zNj hx hd
      by_cases h1:dvF x.Factors u.Factors=true
      ·rw [List.filter_cons_of_pos (by exact h1),List.filter_cons_of_pos (by exact step h1)]
       simp only [qf];refine ⟨by omega,fun hx=> ?_⟩
       rcases qd.1 hx with rfl | hx
       ·rw [hnd] at h1; cases h1
       ·have:=ih.2 hx; omega
      ·rw [List.filter_cons_of_neg (by simpa using h1)]
       by_cases h2:dvF x.Factors t.Factors=true
       ·rw [List.filter_cons_of_pos (by exact h2)]
        simp only [qf];exact ⟨by have:=ih.1; omega,fun _=>by have:=ih.1; omega⟩
       ·rw [List.filter_cons_of_neg (by simpa using h2)]
        refine ⟨ih.1,fun hx=> ?_⟩
        rcases qd.1 hx with rfl | hx
        ·exact absurd (zLj _) h2
        ·exact ih.2 hx
    exact (hsub a).2 ht
   obtain ⟨w,w1,w2,w3⟩:=z4Y h n u hu (by omega)
   exact ⟨w,w1,w2,zNj w3 hd⟩
def leS (a b:yC):Bool:=a.all fun t=>b.any fun u=>dvF u.Factors t.Factors
theorem zAR {a b:yC}:leS a b=true↔∀ t∈a,∃ u∈b,dvF u.Factors t.Factors=true:=by
 unfold leS;simp only [List.all_eq_true,List.any_eq_true]
theorem z7o (a:yC):leS a a=true:=zAR.2 fun t ht=>⟨t,ht,zLj _⟩
theorem zzr {a b c:yC} (h1:leS a b=true) (h2:leS b c=true):leS a c=true:=zAR.2 fun t ht=>by
 obtain ⟨u,hu,h3⟩:=zAR.1 h1 t ht;obtain ⟨v,hv,h4⟩:=zAR.1 h2 u hu;exact ⟨v,hv,zNj h4 h3⟩
theorem z3s {a:yC} (h:Canon a):leS a (redL a)=true:=zAR.2 fun t ht=>by
 obtain ⟨u,hu,hm,hd⟩:=z4Y h _ t ht (Nat.le_refl _);exact ⟨⟨1,u.Factors⟩,zqz.2 ⟨u,hu,hm,rfl⟩,hd⟩
theorem z2J (a:yC):leS (redL a) a=true:=zAR.2 fun t ht=>by
 obtain ⟨u,hu,_,rfl⟩:=zqz.1 ht;exact ⟨u,hu,zLj _⟩
theorem zbcw {a:yC}:∀ t∈redL a,∀ u∈redL a,dvF u.Factors t.Factors=true→u.Factors=t.Factors:=by
 intro t ht u hu hd;obtain ⟨t',ht',hm,rfl⟩:=zqz.1 ht;obtain ⟨u',hu',_,rfl⟩:=zqz.1 hu;exact z0n.1 hm u' hu' hd
theorem zbbn {a b:yC} (ha:Canon a) (hb:Canon b) (h:∀ t,t∈a↔t∈b):a=b:=by
 have hp:=ha.asc; have hq:=hb.asc;clear ha hb;induction a generalizing b with
 | nil=>
  cases b with
  | nil=>rfl
  | cons y s=>exact absurd ((h y).2 (by simp)) (by simp)
 | cons x r ih=>
  cases b with
  | nil=>exact absurd ((h x).1 (by simp)) (by simp)
  | cons y s=>
   have hp':=qi.1 hp;have hq':=qi.1 hq
   have hxy:x=y:=by
    rcases qd.1 ((h x).1 (by simp)) with e | hx
    ·exact e
    ·rcases qd.1 ((h y).2 (by simp)) with e | hy
     ·exact e.symm
     ·exact absurd (hp'.1 y hy) (ordL.asymm (hq'.1 x hx))
   subst hxy;congr 1;refine ih (fun z=>⟨fun hz=> ?_,fun hz=> ?_⟩) hp'.2 hq'.2
   ·rcases qd.1 ((h z).1 (by simp [hz])) with e | hz'
    ·subst e; exact absurd (hp'.1 _ hz) (ordL.irrefl _)
    ·exact hz'
   ·rcases qd.1 ((h z).2 (by simp [hz])) with e | hz'
    ·subst e; exact absurd (hq'.1 _ hz) (ordL.irrefl _)
    ·exact hz'
theorem zbeA {a b:yC} (ha:Canon a) (hb:Canon b) (h1:leS a b=true) (h2:leS b a=true):redL a=redL b:=by
 have key:∀ {a b:yC},Canon a→Canon b→leS a b=true→leS b a=true→∀ t∈redL a,t∈redL b:=by
  intro a b ha hb h1 h2 t ht;have h3:leS (redL a) (redL b)=true:=zzr (z2J a) (zzr h1 (z3s hb));have h4:leS (redL b) (redL a)=true:=zzr (z2J b) (zzr h2 (z3s ha));obtain ⟨u,hu,hd⟩:=zAR.1 h3 t ht;obtain ⟨t',ht',hd'⟩:=zAR.1 h4 u hu;have e:=zbcw t ht t' ht' (zNj hd' hd);have e2:u.Factors=t.Factors:=z0I ((zDn hb).fac u hu) ((zDn ha).fac t ht) hd (by rw [← e]; exact hd')
  obtain ⟨u',_,_,rfl⟩:=zqz.1 hu;obtain ⟨t'',_,_,rfl⟩:=zqz.1 ht;simp only at e2;rw [← e2]; exact hu
 exact zbbn (zDn ha) (zDn hb) fun t=>⟨key ha hb h1 h2 t,key hb ha h2 h1 t⟩
theorem z3k {a b:yC} (ha:Canon a) (hb:Canon b):(leS a b=true∧leS b a=true)↔redL a=redL b:=by
 constructor
 ·rintro ⟨h1,h2⟩; exact zbeA ha hb h1 h2
 ·intro h;exact ⟨zzr (z3s ha) (by rw [h]; exact z2J b),zzr (z3s hb) (by rw [← h]; exact z2J a)⟩
def zXr (a b s:yC):Prop:=∀ l:yD,(∃ t∈s,t.Factors=l)↔(∃ t∈a,t.Factors=l)∨∃ t∈b,t.Factors=l
theorem zXr.le {a b s c:yC} (h:zXr a b s):leS s c=true↔leS a c=true∧leS b c=true:=by
 simp only [zAR];constructor
 ·intro hs;refine ⟨fun t ht=> ?_,fun t ht=> ?_⟩
  ·obtain ⟨t',ht',e⟩:=(h t.Factors).2 (.inl ⟨t,ht,rfl⟩);rw [← e]; exact hs t' ht'
  ·obtain ⟨t',ht',e⟩:=(h t.Factors).2 (.inr ⟨t,ht,rfl⟩);rw [← e]; exact hs t' ht'
 ·rintro ⟨h1,h2⟩ t ht
  rcases (h t.Factors).1 ⟨t,ht,rfl⟩ with ⟨u,hu,e⟩ | ⟨u,hu,e⟩
  ·rw [← e]; exact h1 u hu
  ·rw [← e]; exact h2 u hu
theorem zXr.ge {a b s:yC} (h:zXr a b s):leS a s=true∧leS b s=true:=(h.le (c:=s)).1 (z7o s)
theorem zbay {a b s:yC} (ha:Canon a) (hb:Canon b) (hs:Canon s) (h:zXr a b s):leS a b=true↔redL s=redL b:=by
 rw [← z3k hs hb,h.le];exact ⟨fun h1=>⟨⟨h1,z7o b⟩,h.ge.2⟩,fun h1=>h1.1.1⟩
theorem zom:∀ {l:yD},ztF l→∀ x∈l,zw8 x
 | [],_,x,hx=>by cases hx
 | y::r,h,x,hx=>by
  unfold ztF at h;rcases qd.1 hx with rfl | hx
  ·exact h.1
  ·exact zom h.2 x hx
theorem ztS:∀ {l:yC},zgr l→∀ x∈l,zB1 x
 | [],_,x,hx=>by cases hx
 | y::r,h,x,hx=>by
  unfold zgr at h;rcases qd.1 hx with rfl | hx
  ·exact h.1
  ·exact ztS h.2 x hx
theorem zjV:∀ {l:yA},zxS l→∀ x∈l,zgr x∧x.length≤roomLen
 | [],_,x,hx=>by cases hx
 | y::r,h,x,hx=>by
  unfold zxS at h;rcases qd.1 hx with rfl | hx
  ·exact h.1
  ·exact zjV h.2 x hx
theorem zh4:∀ {l:yE},zs9 l→∀ x∈l,wf65 x.Value∧zgr x.Ann∧x.Ann.length≤roomLen
 | [],_,x,hx=>by cases hx
 | y::r,h,x,hx=>by
  unfold zs9 at h;rcases qd.1 hx with rfl | hx
  ·have:=h.1; unfold zHe at this; exact ⟨this.1,this.2.1,this.2.2⟩
  ·exact zh4 h.2 x hx
theorem zwH {t:Term} (h:zB1 t):wf2 t.Coeff∧ztF t.Factors∧t.Factors.length≤roomLen:=by
 unfold zB1 at h; exact ⟨h.1,h.2.1,h.2.2⟩
theorem zrz {t:Factor} (h:zw8 t):zgn t.Atom∧wf3 t.Exp:=by
 unfold zw8 at h; exact h
theorem zpN {x:Atom} (h:zgn x):(zxS x.Args∧x.Args.length≤roomLen)∧(zs9 x.Items∧x.Items.length≤roomLen)∧wf65 x.Bound∧wf3 x.Kind∧wf49 x.Row∧wf3 x.Func∧wf3 x.Op:=by
 obtain ⟨k,r,a,f,i,o,b⟩:=x; unfold zgn at h; exact ⟨h.2.2.1,h.2.2.2.2.1,h.2.2.2.2.2.2,h.1,h.2.1,h.2.2.2.1,h.2.2.2.2.2.1⟩
theorem zju {z:Int} (h0: -4611686018427387904≤z) (h:z<4611686018427387904):IntKind.i64.wrap z=z:=zXA (by omega) (by omega)
mutual
def zFz:Atom→Nat
 | ⟨_,_,a,_,i,_,b⟩=>i.length+a.length+b.Text.size+zp8 a+zls i
def zgX:yD→Nat
 | []=>0
 | ⟨x,_⟩::r=>zFz x+zgX r
def zen:yC→Nat
 | []=>0
 | ⟨_,fs⟩::r=>1+fs.length+zgX fs+zen r
def zp8:yA→Nat
 | []=>0
 | a::r=>zen a+zp8 r
def zls:yE→Nat
 | []=>0
 | ⟨v,a⟩::r=>v.Text.size+zen a+zls r
end
theorem z1C (x:Atom):zFz x=x.Items.length+x.Args.length+x.Bound.Text.size+zp8 x.Args+zls x.Items:=by cases x; rw [zFz]
theorem zN3 (f:Factor) (r:yD):zgX (f::r)=zFz f.Atom+zgX r:=by cases f; rw [zgX]
theorem zOa (t:Term) (r:yC):zen (t::r)=1+t.Factors.length+zgX t.Factors+zen r:=by cases t; rw [zen]
theorem zUJ (a:yC) (r:yA):zp8 (a::r)=zen a+zp8 r:=by rw [zp8]
theorem zH5 (w:Weighted) (r:yE):zls (w::r)=w.Value.Text.size+zen w.Ann+zls r:=by cases w; rw [zls]
theorem z9b:zp8 []=0:=by rw [zp8]
theorem z8A:zls []=0:=by rw [zls]
theorem z3S:zgX []=0:=by rw [zgX]
theorem zbaU:zen []=0:=by rw [zen]
section
variable (g:yC→Int→Int→Bool×Int) (a:yC) (limit d:Nat) (hl:limit≤1000) (hd:d≤100) (B:Nat) (hB:B≤1152921504606846976) (P:yC→Prop)
include hl hd hB
theorem w14 (x:Atom) (i k:Int) (hlen:x.Args.length≤roomLen) (hg:∀ y∈x.Args,∀ l:Nat,l≤1000→∃ w:Nat,g y l d=(true,(w:Int))∧w≤B∧(w≤l→P y∧zen y≤w)):
  ∀ (fuel j n:Nat),x.Args.length<j+fuel→j≤x.Args.length→n≤2305843009213693952→∃ n':Nat,zzz g fuel a limit (d+1:Nat) n i k j x=(true,(a,(limit:Int),((d+1:Nat):Int),(n':Int),i,k,x))∧n≤n'∧n'≤max n (limit+B)∧(n'≤limit→(∀ y∈x.Args.drop j,P y)∧n+zp8 (x.Args.drop j)≤n')
 | 0,j,n,h1,h2,h3=>by omega
 | fuel+1,j,n,h1,h2,h3=>by
  show ∃ n':Nat,(zzC g a limit (d+1:Nat) n i k j x).ev (fun x y=>zzz g fuel x.1 x.2.1 x.2.2.1 x.2.2.2.1 x.2.2.2.2.1 x.2.2.2.2.2.1 x.2.2.2.2.2.2.2.1 y.1) (fun r=>(true,r)) (false,default)=_∧_
  unfold zzC;have hml:roomLen=140737488351232:=rfl;by_cases hj:j<x.Args.length
  ·by_cases hn:n≤limit
   ·have e1:IntKind.i64.wrap ((limit:Int) - (n:Int))=((limit - n:Nat):Int):=by rw [zju (by omega) (by omega)]; omega
    obtain ⟨w,hw,hwB,hwP⟩:=hg _ (zt hj) (limit - n) (by omega)
    have ed:IntKind.i64.wrap (((d+1:Nat):Int) - 1)=(d:Int):=by rw [zju (by omega) (by omega)]; omega
    simp only [Wy.ev_i,Wy.ev_k,Wy.ev_h,Wy.ev_bn,Wy.ev_d,tT,hj,zBZ,hn,e1,ed,hw];have e3:IntKind.i64.wrap ((n:Int)+(w:Int))=((n+w:Nat):Int):=by rw [zju (by omega) (by omega)]; omega
    rw [e3,zQ (by omega)]
    obtain ⟨n',h4,h5,h6,h7⟩:=w14 x i k hlen hg fuel (j+1) (n+w) (by omega) (by omega) (by omega)
    refine ⟨n',h4,by omega,by omega,fun hn'=> ?_⟩
    obtain ⟨h8,h9⟩:=h7 hn';obtain ⟨p1,p2⟩:=hwP (by omega)
    rw [zbs hj,zUJ];refine ⟨fun y hy=> ?_,by omega⟩
    rcases qd.1 hy with rfl | hy
    ·exact p1
    ·exact h8 y hy
   ·simp only [Wy.ev_i,Wy.ev_k,Wy.ev_h,Wy.ev_bn,Wy.ev_d,tT,hj,zBZ,hn];exact ⟨n,rfl,Nat.le_refl _,by omega,fun h=>absurd h hn⟩
  ·simp only [Wy.ev_i,Wy.ev_k,Wy.ev_h,Wy.ev_bn,Wy.ev_d,tT,hj];exact ⟨n,rfl,Nat.le_refl _,by omega,fun _=>by rw [zcs hj,z9b]; exact ⟨fun y hy=>(by cases hy),Nat.le_refl _⟩⟩
theorem w18 (x:Atom) (i k:Int) (hlen:x.Items.length≤roomLen) (hg:∀ y∈x.Items,y.Value.Text.size≤roomLen∧∀ l:Nat,l≤1000→∃ w:Nat,g y.Ann l d=(true,(w:Int))∧w≤B∧(w≤l→P y.Ann∧zen y.Ann≤w)):
  ∀ (fuel j n:Nat),x.Items.length<j+fuel→j≤x.Items.length→n≤2305843009213693952→∃ n':Nat,zzK g fuel a limit (d+1:Nat) n i k j x=(true,(a,(limit:Int),((d+1:Nat):Int),(n':Int),i,k))∧n≤n'∧n'≤max n (limit+roomLen+B)∧(n'≤limit→(∀ y∈x.Items.drop j,y.Value.Text.size≤1000∧P y.Ann)∧n+zls (x.Items.drop j)≤n')
 | 0,j,n,h1,h2,h3=>by omega
 | fuel+1,j,n,h1,h2,h3=>by
  show ∃ n':Nat,(zAr g a limit (d+1:Nat) n i k j x).ev (fun x y=>zzK g fuel x.1 x.2.1 x.2.2.1 x.2.2.2.1 x.2.2.2.2.1 x.2.2.2.2.2.1 x.2.2.2.2.2.2.2.1 y.1) (fun r=>(true,r)) (false,default)=_∧_
  unfold zAr;have hml:roomLen=140737488351232:=rfl;by_cases hj:j<x.Items.length
  ·by_cases hn:n≤limit
   ·have e1:IntKind.i64.wrap ((limit:Int) - (n:Int))=((limit - n:Nat):Int):=by rw [zju (by omega) (by omega)]; omega
    obtain ⟨ht,hgy⟩:=hg _ (zt hj);obtain ⟨w,hw,hwB,hwP⟩:=hgy (limit - n) (by omega)
    have ed:IntKind.i64.wrap (((d+1:Nat):Int) - 1)=(d:Int):=by rw [zju (by omega) (by omega)]; omega
    simp only [Wy.ev_i,Wy.ev_k,Wy.ev_h,Wy.ev_bn,Wy.ev_d,tT,hj,zBZ,hn,e1,ed,hw];generalize hsz:(x.Items.getD j default).Value.Text.size=sz at *;have e3:IntKind.i64.wrap (IntKind.i64.wrap ((n:Int)+(sz:Int))+(w:Int))=((n+sz+w:Nat):Int):=by rw [zju (z:=(n:Int)+(sz:Int)) (by omega) (by omega),zju (by omega) (by omega)]; omega
    rw [e3,zQ (by omega)]
    obtain ⟨n',h4,h5,h6,h7⟩:=w18 x i k hlen hg fuel (j+1) (n+sz+w) (by omega) (by omega) (by omega)
    refine ⟨n',h4,by omega,by omega,fun hn'=> ?_⟩
    obtain ⟨h8,h9⟩:=h7 hn';obtain ⟨p1,p2⟩:=hwP (by omega)
    rw [zbs hj,zH5];refine ⟨fun y hy=> ?_,by omega⟩
    rcases qd.1 hy with rfl | hy
    ·exact ⟨by omega,p1⟩
    ·exact h8 y hy
   ·simp only [Wy.ev_i,Wy.ev_k,Wy.ev_h,Wy.ev_bn,Wy.ev_d,tT,hj,zBZ,hn];exact ⟨n,rfl,Nat.le_refl _,by omega,fun h=>absurd h hn⟩
  ·simp only [Wy.ev_i,Wy.ev_k,Wy.ev_h,Wy.ev_bn,Wy.ev_d,tT,hj];exact ⟨n,rfl,Nat.le_refl _,by omega,fun _=>by rw [zcs hj,z8A]; exact ⟨fun y hy=>(by cases hy),Nat.le_refl _⟩⟩
theorem w9 (i:Nat) (hi:i<a.length) (hla:(a.getD i default).Factors.length≤roomLen) (hg:∀ f∈(a.getD i default).Factors,f.Atom.Args.length≤roomLen∧f.Atom.Items.length≤roomLen∧f.Atom.Bound.Text.size≤roomLen∧(∀ y∈f.Atom.Args,∀ l:Nat,l≤1000→∃ w:Nat,g y l d=(true,(w:Int))∧w≤B∧(w≤l→P y∧zen y≤w))∧
   ∀ y∈f.Atom.Items,y.Value.Text.size≤roomLen∧∀ l:Nat,l≤1000→∃ w:Nat,g y.Ann l d=(true,(w:Int))∧w≤B∧(w≤l→P y.Ann∧zen y.Ann≤w)):
  ∀ (fuel k n:Nat),(a.getD i default).Factors.length<k+fuel→k≤(a.getD i default).Factors.length→n≤2305843009213693952→∃ n':Nat,zBr g fuel a limit (d+1:Nat) n i k=(true,(a,(limit:Int),((d+1:Nat):Int),(n':Int),(i:Int)))∧n≤n'∧n'≤max n (limit+4*roomLen+B)∧
   (n'≤limit→(∀ f∈(a.getD i default).Factors.drop k,(f.Atom.Args.length≤1000∧f.Atom.Items.length≤1000∧f.Atom.Bound.Text.size≤1000)∧(∀ y∈f.Atom.Args,P y)∧∀ y∈f.Atom.Items,y.Value.Text.size≤1000∧P y.Ann)∧n+zgX ((a.getD i default).Factors.drop k)≤n')
 | 0,k,n,h1,h2,h3=>by omega
 | fuel+1,k,n,h1,h2,h3=>by
  show ∃ n':Nat,(zBf g a limit (d+1:Nat) n i k).ev (fun x y=>zBr g fuel x.1 x.2.1 x.2.2.1 x.2.2.2.1 x.2.2.2.2.1 x.2.2.2.2.2.1) (fun r=>(true,r)) (false,default)=_∧_
  unfold zBf;have hml:roomLen=140737488351232:=rfl;by_cases hk:k<(a.getD i default).Factors.length
  ·by_cases hn:n≤limit
   ·simp only [Wy.ev_i,Wy.ev_k,Wy.ev_h,Wy.ev_bn,Wy.ev_d,tT,hi,hk,zBZ,hn,Atom.eta];obtain ⟨ha1,ha2,ha3,hgA,hgI⟩:=hg _ (zt hk);generalize hf:((a.getD i default).Factors.getD k default)=f at *
    have e0:IntKind.i64.wrap (IntKind.i64.wrap (IntKind.i64.wrap ((n:Int)+(f.Atom.Items.length:Int))+(f.Atom.Args.length:Int))+(f.Atom.Bound.Text.size:Int))=((n+f.Atom.Items.length+f.Atom.Args.length+f.Atom.Bound.Text.size:Nat):Int):=by
     rw [zju (z:=(n:Int)+(f.Atom.Items.length:Int)) (by omega) (by omega),zju (z:=(n:Int)+(f.Atom.Items.length:Int)+(f.Atom.Args.length:Int)) (by omega) (by omega),zju (by omega) (by omega)]; omega
    rw [e0];obtain ⟨n1,q1,q2,q3,q4⟩:=w14 g a limit d hl hd B hB P f.Atom i k ha1 hgA (a.length+limit+(d+1)+((n+f.Atom.Items.length+f.Atom.Args.length+f.Atom.Bound.Text.size:Nat):Int).toNat +i+k+Int.toNat 0+f.Atom.Args.length+f.Atom.Items.length+1) 0 (n+f.Atom.Items.length+f.Atom.Args.length+f.Atom.Bound.Text.size) (by omega) (by omega) (by omega)
    rw [show ((0:Nat):Int)=(0:Int) from rfl] at q1
    rw [q1];simp only [cond_true,Atom.eta,Int.toNat_natCast];obtain ⟨n2,r1,r2,r3,r4⟩:=w18 g a limit d hl hd B hB P f.Atom i k ha2 hgI (a.length+limit+(d+1)+n1+i+k+Int.toNat 0+f.Atom.Args.length+f.Atom.Items.length+1) 0 n1 (by omega) (by omega) (by omega)
    rw [show ((0:Nat):Int)=(0:Int) from rfl] at r1
    rw [r1];simp only [cond_true];rw [zQ (by omega)]
    obtain ⟨n',h4,h5,h6,h7⟩:=w9 i hi hla hg fuel (k+1) n2 (by omega) (by omega) (by omega)
    refine ⟨n',h4,by omega,by omega,fun hn'=> ?_⟩
    obtain ⟨h8,h9⟩:=h7 hn';obtain ⟨q5,q6⟩:=q4 (by omega)
    obtain ⟨r5,r6⟩:=r4 (by omega)
    rw [List.drop_zero] at q5 q6 r5 r6;rw [zbs hk,zN3,hf,z1C];refine ⟨fun y hy=> ?_,by omega⟩
    rcases qd.1 hy with rfl | hy
    ·exact ⟨⟨by omega,by omega,by omega⟩,q5,r5⟩
    ·exact h8 y hy
   ·simp only [Wy.ev_i,Wy.ev_k,Wy.ev_h,Wy.ev_bn,Wy.ev_d,tT,hi,hk,zBZ,hn];exact ⟨n,rfl,Nat.le_refl _,by omega,fun h=>absurd h hn⟩
  ·simp only [Wy.ev_i,Wy.ev_k,Wy.ev_h,Wy.ev_bn,Wy.ev_d,tT,hi,hk];exact ⟨n,rfl,Nat.le_refl _,by omega,fun _=>by rw [zcs hk,z3S]; exact ⟨fun y hy=>(by cases hy),Nat.le_refl _⟩⟩
theorem w5 (hla:∀ t∈a,t.Factors.length≤roomLen) (hg:∀ t∈a,∀ f∈t.Factors,f.Atom.Args.length≤roomLen∧f.Atom.Items.length≤roomLen∧f.Atom.Bound.Text.size≤roomLen∧(∀ y∈f.Atom.Args,∀ l:Nat,l≤1000→∃ w:Nat,g y l d=(true,(w:Int))∧w≤B∧(w≤l→P y∧zen y≤w))∧
   ∀ y∈f.Atom.Items,y.Value.Text.size≤roomLen∧∀ l:Nat,l≤1000→∃ w:Nat,g y.Ann l d=(true,(w:Int))∧w≤B∧(w≤l→P y.Ann∧zen y.Ann≤w)) (hlen:a.length≤roomLen):
  ∀ (fuel i n:Nat),a.length<i+fuel→i≤a.length→n≤2305843009213693952→∃ n':Nat,zBo g fuel a limit (d+1:Nat) n i=(true,(n':Int))∧n≤n'∧n'≤max n (limit+6*roomLen+B)∧
   (n'≤limit→(n+(a.length - i)≤n'∧n+zen (a.drop i)≤n')∧∀ t∈a.drop i,t.Factors.length≤1000∧∀ f∈t.Factors,(f.Atom.Args.length≤1000∧f.Atom.Items.length≤1000∧f.Atom.Bound.Text.size≤1000)∧(∀ y∈f.Atom.Args,P y)∧∀ y∈f.Atom.Items,y.Value.Text.size≤1000∧P y.Ann)
 | 0,i,n,h1,h2,h3=>by omega
 | fuel+1,i,n,h1,h2,h3=>by
  show ∃ n':Nat,(zBt g a limit (d+1:Nat) n i).ev (fun x y=>zBo g fuel x.1 x.2.1 x.2.2.1 x.2.2.2.1 x.2.2.2.2.1) (fun r=>(true,r)) (false,default)=_∧_
  unfold zBt;have hml:roomLen=140737488351232:=rfl;by_cases hi:i<a.length
  ·by_cases hn:n≤limit
   ·simp only [Wy.ev_i,Wy.ev_k,Wy.ev_h,Wy.ev_bn,Wy.ev_d,tT,hi,zBZ,hn];have hla':=hla _ (zt hi)
    have e0:IntKind.i64.wrap (IntKind.i64.wrap ((n:Int)+1)+((a.getD i default).Factors.length:Int))=((n+1+(a.getD i default).Factors.length:Nat):Int):=by
     rw [zQ (by omega),zju (by omega) (by omega)]; omega
    rw [e0];obtain ⟨n1,q1,q2,q3,q4⟩:=w9 g a limit d hl hd B hB P i hi hla' (hg _ (zt hi)) (a.length+limit+(d+1)+((n+1+(a.getD i default).Factors.length:Nat):Int).toNat +i+Int.toNat 0+1) 0 (n+1+(a.getD i default).Factors.length) (by omega) (by omega) (by omega)
    rw [show ((0:Nat):Int)=(0:Int) from rfl] at q1
    rw [q1];simp only [cond_true];rw [zQ (by omega)]
    obtain ⟨n',h4,h5,h6,h7⟩:=w5 hla hg hlen fuel (i+1) n1 (by omega) (by omega) (by omega)
    refine ⟨n',h4,by omega,by omega,fun hn'=> ?_⟩
    obtain ⟨⟨h8,h10⟩,h9⟩:=h7 hn';obtain ⟨q5,q6⟩:=q4 (by omega)
    rw [List.drop_zero] at q5 q6;rw [zbs hi,zOa];refine ⟨⟨by omega,by omega⟩,fun y hy=> ?_⟩
    rcases qd.1 hy with rfl | hy
    ·exact ⟨by omega,q5⟩
    ·exact h9 y hy
   ·simp only [Wy.ev_i,Wy.ev_k,Wy.ev_h,Wy.ev_bn,Wy.ev_d,tT,hi,zBZ,hn];exact ⟨n,rfl,Nat.le_refl _,by omega,fun h=>absurd h hn⟩
  ·simp only [Wy.ev_i,Wy.ev_k,Wy.ev_h,Wy.ev_bn,Wy.ev_d,tT,hi];exact ⟨n,rfl,Nat.le_refl _,by omega,fun _=>by rw [zcs hi,zbaU]; exact ⟨⟨by omega,Nat.le_refl _⟩,fun y hy=>(by cases hy)⟩⟩
end
theorem z5c:∀ (d N:Nat),d<N→d≤12→∀ (l:Nat),l≤1000→∀ a,zgr a→a.length≤roomLen→∃ w:Nat,zqn N a l d=(true,(w:Int))∧w≤(d+1)*4503599627370496∧(w≤l→zo d a∧zen a≤w)
 | _,0,h,_,_,_,_,_,_=>by omega
 | 0,N+1,_,_,l,hl,a,hw,hlen=>by
  rw [zJb];unfold zvb zCk;refine ⟨l+1, ?_,by omega,fun h=>by omega⟩
  simp only [Wy.fin_i,Wy.fin_k];rw [zQ (by omega)]; rfl
 | d+1,N+1,hN,hd,l,hl,a,hw,hlen=>by
  rw [zJb];unfold zvb zCk;have hml:roomLen=140737488351232:=rfl;have ih:=fun y (h1:zgr y) (h2:y.length≤roomLen) l hl=>z5c d N (by omega) (by omega) l hl y h1 h2
  have e0:(((d+1:Nat):Int)==(0:Int))=false:=by
   rw [beq_eq_false_iff_ne]; omega
  obtain ⟨n',h1,h2,h3,h4⟩:=w5 (zqn N) a l d hl (by omega) ((d+1)*4503599627370496) (by omega) (zo d) (fun t ht=>(zwH (ztS hw t ht)).2.2) (fun t ht f hf=>by
   have hx:=zpN (zrz (zom (zwH (ztS hw t ht)).2.1 f hf)).1;refine ⟨hx.1.2,hx.2.1.2,hx.2.2.1.2.2,fun y hy l hl=> ?_,fun y hy=> ?_⟩
   ·have:=zjV hx.1.1 y hy;exact ih y this.1 this.2 l hl
   ·have:=zh4 hx.2.1.1 y hy;exact ⟨this.1.2.2,fun l hl=>ih y.Ann this.2.1 this.2.2 l hl⟩) hlen (a.length+l+(d+1)+Int.toNat 0+Int.toNat 0+1) 0 0 (by omega) (by omega) (by omega)
  rw [show ((0:Nat):Int)=(0:Int) from rfl] at h1
  refine ⟨n', ?_,by omega,fun hn=> ?_⟩
  ·simp only [Wy.fin_i,Wy.fin_k,Wy.fin_bn,e0,cond_false,Int.toNat_natCast,h1,cond_true]
  ·obtain ⟨⟨h5,h12⟩,h6⟩:=h4 hn;rw [List.drop_zero] at h12;refine ⟨⟨by omega,fun t ht=> ?_⟩,by omega⟩
   obtain ⟨h7,h8⟩:=h6 t (by simpa using ht)
   refine ⟨by omega,fun f hf=> ?_⟩
   obtain ⟨h9,h10,h11⟩:=h8 f hf;exact ⟨⟨by omega,by omega,by omega⟩,h10,fun w hw=>⟨by have:=(h11 w hw).1; omega,(h11 w hw).2⟩⟩
theorem z8w (limit:Nat) (hl:limit≤1000) (l:yA) (hll:l.length≤1000) (hw:∀ a∈l,zgr a∧a.length≤roomLen):∀ (n i:Nat),l.length<i+n→i≤l.length→∃ r,zLs n limit l i=(true,r)∧((r=.inl false)∨(r=.inr ()∧∀ a∈l.drop i,zo 12 a∧zen a≤limit))
 | 0,i,h1,h2=>by omega
 | n+1,i,h1,h2=>by
  show ∃ r,(zKR limit l i).ev (fun x y=>zLs n x.1 x.2.1 x.2.2.1) (fun r=>(true,r)) (false,.inl default)=(true,r)∧_
  unfold zKR;by_cases hi:i<l.length
  ·obtain ⟨w,q1,q2,q3⟩:=z5c 12 1000 (by omega) (by omega) limit hl _ (hw _ (zt hi)).1 (hw _ (zt hi)).2
   have q1':zLp (l.getD i default) (limit:Int) 12=(true,(w:Int)):=q1;simp only [Wy.ev_i,Wy.ev_k,Wy.ev_h,Wy.ev_bn,Wy.ev_d,tT,hi,q1',zqF];by_cases hg:limit<w
   ·simp only [hg,decide_true,cond_true];exact ⟨_,rfl,.inl rfl⟩
   ·simp only [hg,decide_false,cond_false];rw [zQ (by omega)]
    obtain ⟨r,h3,h4⟩:=z8w limit hl l hll hw n (i+1) (by omega) (by omega)
    refine ⟨r,h3, ?_⟩;rcases h4 with h4 | ⟨h4,h5⟩
    ·exact .inl h4
    ·refine .inr ⟨h4,fun a ha=> ?_⟩
     rw [zbs hi] at ha;rcases qd.1 ha with rfl | ha
     ·exact ⟨(q3 (by omega)).1,by have:=(q3 (by omega)).2; omega⟩
     ·exact h5 a ha
  ·simp only [Wy.ev_i,Wy.ev_k,Wy.ev_h,Wy.ev_bn,Wy.ev_d,tT,hi];exact ⟨_,rfl,.inr ⟨rfl,fun a ha=>by rw [zcs hi] at ha; cases ha⟩⟩
theorem zbfr (limit:Nat) (hl:limit≤1000) (l:yA) (hll:l.length≤1000) (hw:∀ a∈l,zgr a∧a.length≤roomLen):∃ b,zzs limit l=(true,b)∧(b=true→∀ a∈l,zo 12 a∧zen a≤limit):=by
 unfold zzs zZo;obtain ⟨r,h1,h2⟩:=z8w limit hl l hll hw (limit+l.length+Int.toNat 0+1) 0 (by omega) (by omega)
 rw [show ((0:Nat):Int)=(0:Int) from rfl] at h1
 rw [Wy.fin_bn];simp only [Int.toNat_natCast,h1,cond_true];rcases h2 with rfl | ⟨rfl,h2⟩
 ·exact ⟨false,rfl,fun h=>by cases h⟩
 ·exact ⟨true,rfl,fun _ a ha=>h2 a (by simpa using ha)⟩
mutual
def ze6:Atom→Nat
 | ⟨_,_,a,_,i,_,_⟩=>ze9 a+zdn i
def zbJ:yD→Nat
 | []=>0
 | ⟨x,_⟩::r=>ze6 x+zbJ r
def zM:yC→Nat
 | []=>0
 | ⟨_,fs⟩::r=>1+fs.length+zbJ fs+zM r
def ze9:yA→Nat
 | []=>0
 | a::r=>zM a+ze9 r
def zdn:yE→Nat
 | []=>0
 | ⟨_,a⟩::r=>1+zM a+zdn r
end
theorem zg9 (x:Atom):ze6 x=ze9 x.Args+zdn x.Items:=by cases x; rw [ze6]
theorem zc5 (f:Factor) (r:yD):zbJ (f::r)=ze6 f.Atom+zbJ r:=by cases f; rw [zbJ]
theorem zex (t:Term) (r:yC):zM (t::r)=1+t.Factors.length+zbJ t.Factors+zM r:=by cases t; rw [zM]
theorem zeU (a:yC) (r:yA):ze9 (a::r)=zM a+ze9 r:=by rw [ze9]
theorem zh6 (w:Weighted) (r:yE):zdn (w::r)=1+zM w.Ann+zdn r:=by cases w; rw [zdn]
theorem zgA:ze9 []=0:=by rw [ze9]
theorem zfE:zdn []=0:=by rw [zdn]
theorem ziB:zbJ []=0:=by rw [zbJ]
theorem ztX:zM []=0:=by rw [zM]
theorem z1v (l:yA):∀ n:Nat,l.foldl (fun s t=>s+zM t) n=n+ze9 l:=by
 induction l with
 | nil=>intro n; rw [zgA]; rfl
 | cons a r ih=>intro n; rw [List.foldl_cons,ih,zeU]; omega
theorem zZu (l:yE):∀ n:Nat,l.foldl (fun s t=>s+1+zM t.Ann) n=n+zdn l:=by
 induction l with
 | nil=>intro n; rw [zfE]; rfl
 | cons a r ih=>intro n; rw [List.foldl_cons,ih,zh6]; omega
theorem z5V (l:yD):∀ n:Nat,l.foldl (fun s t=>s+ze6 t.Atom) n=n+zbJ l:=by
 induction l with
 | nil=>intro n; rw [ziB]; rfl
 | cons a r ih=>intro n; rw [List.foldl_cons,ih,zc5]; omega
theorem z5C (l:yC):∀ n:Nat,l.foldl (fun s t=>s+1+t.Factors.length+zbJ t.Factors) n=n+zM l:=by
 induction l with
 | nil=>intro n; rw [ztX]; rfl
 | cons a r ih=>intro n; rw [List.foldl_cons,ih,zex]; omega
theorem zoa {n m:Nat} (h:n+m≤4611686018427387904):IntKind.i64.wrap ((n:Int)+(m:Int))=((n+m:Nat):Int):=by
 rw [zXA (by omega) (by omega)]; omega
theorem zgy {i:Nat} (h:i<4611686018427387904):IntKind.i64.wrap ((i:Int)+1)=((i+1:Nat):Int):=zQ h
section
variable (g:yC→Bool×Int)
theorem zbee (l:yA) (hl:l.length≤1000000) (hg:∀ y∈l,g y=(true,(zM y:Int))) (t12:yC) (t13 t14:Int) (t25:yD) (t26 t27:Int) (f:Factor) (fuel n:Nat) (hf:l.length<fuel) (hn:n+ze9 l≤4611686018427387904):
  zC9 g fuel n t12 t13 t14 t25 t26 t27 l l.length 0 f=(true,(((n+ze9 l:Nat):Int),t12,t13,t14,t25,t26,t27,f)):=by
 have h:=zc3 (W:=zvu g) (z:=default) (l:=l) (fun i (n:Nat)=>((n:Int),(),t12,t13,t14,t25,t26,t27,l,(l.length:Int),(i:Int),())) (fun _ _=>(f,())) (fun y n=>.inl (n+zM y)) (fun n=>((n:Int),t12,t13,t14,t25,t26,t27,f)) (fun i n=>n+ze9 (l.drop i)≤4611686018427387904)
  (fun i n hi hI=>.inl ⟨_,rfl,by rw [zbs hi,zeU] at hI; omega,fun H K D=>by
   rw [zbs hi,zeU] at hI;show (zkD g n t12 t13 t14 t25 t26 t27 l l.length i f).ev H K D=_;unfold zkD;simp only [Wy.ev_i,Wy.ev_k,Wy.ev_h,Wy.ev_bn,Wy.ev_d,tT,hi,hg _ (zt hi)];rw [zoa (by omega),zgy (by omega)]⟩)
  (fun n hI H K D=>by
   show (zkD g n t12 t13 t14 t25 t26 t27 l l.length l.length f).ev H K D=_;unfold zkD;simp only [Wy.ev_i,Wy.ev_k,tT,Nat.lt_irrefl]) fuel 0 n (by omega) (Nat.zero_le _) (by simpa using hn)
 rw [List.drop_zero,zc4,z1v] at h;exact h
theorem zbeB (l:yE) (hl:l.length≤1000000) (hg:∀ y∈l,g y.Ann=(true,(zM y.Ann:Int))) (t12:yC) (t13 t14:Int) (t25:yD) (t26 t27:Int) (fuel n:Nat) (hf:l.length<fuel) (hn:n+zdn l≤4611686018427387904):
  zCL g fuel n t12 t13 t14 t25 t26 t27 l l.length 0=(true,(((n+zdn l:Nat):Int),t12,t13,t14,t25,t26,t27)):=by
 have h:=zc3 (W:=zvH g) (z:=default) (l:=l) (fun i (n:Nat)=>((n:Int),t12,t13,t14,t25,t26,t27,l,(l.length:Int),(i:Int),())) (fun _ _=>()) (fun y n=>.inl (n+1+zM y.Ann)) (fun n=>((n:Int),t12,t13,t14,t25,t26,t27)) (fun i n=>n+zdn (l.drop i)≤4611686018427387904)
  (fun i n hi hI=>.inl ⟨_,rfl,by rw [zbs hi,zh6] at hI; omega,fun H K D=>by
   rw [zbs hi,zh6] at hI;show (zj9 g n t12 t13 t14 t25 t26 t27 l l.length i).ev H K D=_;unfold zj9;simp only [Wy.ev_i,Wy.ev_k,Wy.ev_h,Wy.ev_bn,Wy.ev_d,tT,hi,hg _ (zt hi)];rw [zgy (by omega),show (1:Int)=((1:Nat):Int) from rfl,zoa (by omega),zoa (by omega), ← Nat.add_assoc]⟩)
  (fun n hI H K D=>by
   show (zj9 g n t12 t13 t14 t25 t26 t27 l l.length l.length).ev H K D=_;unfold zj9;simp only [Wy.ev_i,Wy.ev_k,tT,Nat.lt_irrefl]) fuel 0 n (by omega) (Nat.zero_le _) (by simpa using hn)
 rw [List.drop_zero,zc4,zZu] at h;exact h
theorem zbeT (l:yD) (hl:l.length≤1000000) (hg:∀ f∈l,(f.Atom.Args.length≤1000000∧f.Atom.Items.length≤1000000)∧(∀ y∈f.Atom.Args,g y=(true,(zM y:Int)))∧∀ y∈f.Atom.Items,g y.Ann=(true,(zM y.Ann:Int))) (t12:yC) (t13 t14:Int) (fuel n:Nat) (hf:l.length<fuel) (hn:n+zbJ l≤4611686018427387904):
  zDB g fuel n t12 t13 t14 l l.length 0=(true,(((n+zbJ l:Nat):Int),t12,t13,t14)):=by
 have h:=zc3 (W:=zxj g) (z:=default) (l:=l) (fun i (n:Nat)=>((n:Int),t12,t13,t14,l,(l.length:Int),(i:Int),())) (fun _ _=>()) (fun y n=>.inl (n+ze6 y.Atom)) (fun n=>((n:Int),t12,t13,t14)) (fun i n=>n+zbJ (l.drop i)≤4611686018427387904)
  (fun i n hi hI=>.inl ⟨_,rfl,by rw [zbs hi,zc5] at hI; omega,fun H K D=>by
   rw [zbs hi,zc5,zg9] at hI;obtain ⟨⟨h1,h2⟩,h3,h4⟩:=hg _ (zt hi);show (zlF g n t12 t13 t14 l l.length i).ev H K D=_;unfold zlF;simp only [Wy.ev_i,Wy.ev_k,Wy.ev_h,Wy.ev_bn,Wy.ev_d,tT,hi,Atom.eta];rw [zbee g _ h1 h3 _ _ _ _ _ _ _ _ _ (by omega) (by omega)]
   simp only [cond_true,Int.toNat_natCast];rw [zbeB g _ h2 h4 _ _ _ _ _ _ _ _ (by omega) (by omega)]
   simp only [cond_true];rw [zgy (by omega),zg9,Nat.add_assoc]⟩)
  (fun n hI H K D=>by
   show (zlF g n t12 t13 t14 l l.length l.length).ev H K D=_;unfold zlF;simp only [Wy.ev_i,Wy.ev_k,tT,Nat.lt_irrefl]) fuel 0 n (by omega) (Nat.zero_le _) (by simpa using hn)
 rw [List.drop_zero,zc4,z5V] at h;exact h
theorem zbfd (l:yC) (hl:l.length≤1000000) (hg:∀ t∈l,t.Factors.length≤1000000∧∀ f∈t.Factors,(f.Atom.Args.length≤1000000∧f.Atom.Items.length≤1000000)∧(∀ y∈f.Atom.Args,g y=(true,(zM y:Int)))∧∀ y∈f.Atom.Items,g y.Ann=(true,(zM y.Ann:Int))) (fuel n:Nat) (hf:l.length<fuel) (hn:n+zM l≤4611686018427387904):
  zEf g fuel n l l.length 0=(true,((n+zM l:Nat):Int)):=by
 have h:=zc3 (W:=zw4 g) (z:=default) (l:=l) (fun i (n:Nat)=>((n:Int),l,(l.length:Int),(i:Int),())) (fun _ _=>()) (fun y n=>.inl (n+1+y.Factors.length+zbJ y.Factors)) (fun n=>(n:Int)) (fun i n=>n+zM (l.drop i)≤4611686018427387904)
  (fun i n hi hI=>.inl ⟨_,rfl,by rw [zbs hi,zex] at hI; omega,fun H K D=>by
   rw [zbs hi,zex] at hI;obtain ⟨h1,h3⟩:=hg _ (zt hi);show (zk4 g n l l.length i).ev H K D=_;unfold zk4;simp only [Wy.ev_i,Wy.ev_k,Wy.ev_h,Wy.ev_bn,Wy.ev_d,tT,hi,Atom.eta];rw [show (1:Int)=((1:Nat):Int) from rfl,zoa (n:=1) (by omega),zoa (by omega)]
   rw [zbeT g _ h1 h3 _ _ _ _ _ (by omega) (by omega)]
   simp only [cond_true];rw [show ((1:Nat):Int)=(1:Int) from rfl,zgy (by omega),Nat.add_assoc n 1]⟩)
  (fun n hI H K D=>by
   show (zk4 g n l l.length l.length).ev H K D=_;unfold zk4;simp only [Wy.ev_i,Wy.ev_k,tT,Nat.lt_irrefl]) fuel 0 n (by omega) (Nat.zero_le _) (by simpa using hn)
 rw [List.drop_zero,zc4,z5C] at h;exact h
theorem zbcg (x:Atom) (hl:x.Args.length≤1000000) (hg:∀ y∈x.Args,g y=(true,(zM y:Int))) (a:yC) (i k:Int) (fuel n:Nat) (hf:x.Args.length<fuel) (hn:n+ze9 x.Args≤4611686018427387904):
  zKW g fuel a n i k 0 x=(true,(a,((n+ze9 x.Args:Nat):Int),i,k,x)):=by
 have h:=zc3 (W:=zCC g) (z:=default) (l:=x.Args) (fun j (n:Nat)=>(a,(n:Int),i,k,(),(j:Int),())) (fun _ _=>(x,())) (fun y n=>.inl (n+zM y)) (fun n=>(a,(n:Int),i,k,x)) (fun i n=>n+ze9 (x.Args.drop i)≤4611686018427387904)
  (fun j n hi hI=>.inl ⟨_,rfl,by rw [zbs hi,zeU] at hI; omega,fun H K D=>by
   rw [zbs hi,zeU] at hI;show (zrE g a n i k j x).ev H K D=_;unfold zrE;simp only [Wy.ev_i,Wy.ev_k,Wy.ev_h,Wy.ev_bn,Wy.ev_d,tT,hi,hg _ (zt hi)];rw [zoa (by omega),zgy (by omega)]⟩)
  (fun n hI H K D=>by
   show (zrE g a n i k x.Args.length x).ev H K D=_;unfold zrE;simp only [Wy.ev_i,Wy.ev_k,tT,Nat.lt_irrefl]) fuel 0 n (by omega) (Nat.zero_le _) (by simpa using hn)
 rw [List.drop_zero,zc4,z1v] at h;exact h
theorem zbc6 (x:Atom) (hl:x.Items.length≤1000000) (hg:∀ y∈x.Items,g y.Ann=(true,(zM y.Ann:Int))) (a:yC) (i k:Int) (fuel n:Nat) (hf:x.Items.length<fuel) (hn:n+zdn x.Items≤4611686018427387904):
  zKV g fuel a n i k 0 x=(true,(a,((n+zdn x.Items:Nat):Int),i,k)):=by
 have h:=zc3 (W:=zCl g) (z:=default) (l:=x.Items) (fun j (n:Nat)=>(a,(n:Int),i,k,(),(j:Int),())) (fun _ _=>(x,())) (fun y n=>.inl (n+1+zM y.Ann)) (fun n=>(a,(n:Int),i,k)) (fun i n=>n+zdn (x.Items.drop i)≤4611686018427387904)
  (fun j n hi hI=>.inl ⟨_,rfl,by rw [zbs hi,zh6] at hI; omega,fun H K D=>by
   rw [zbs hi,zh6] at hI;show (zq2 g a n i k j x).ev H K D=_;unfold zq2;simp only [Wy.ev_i,Wy.ev_k,Wy.ev_h,Wy.ev_bn,Wy.ev_d,tT,hi,hg _ (zt hi)];rw [zgy (i:=j) (by omega),zgy (i:=n) (by omega),zoa (by omega)]⟩)
  (fun n hI H K D=>by
   show (zq2 g a n i k x.Items.length x).ev H K D=_;unfold zq2;simp only [Wy.ev_i,Wy.ev_k,tT,Nat.lt_irrefl]) fuel 0 n (by omega) (Nat.zero_le _) (by simpa using hn)
 rw [List.drop_zero,zc4,zZu] at h;exact h
theorem zLn:∀ (a:yC) (i:Nat),i<a.length→(a.getD i default).Factors.length≤szTs a
 | [],i,h=>by simp at h
 | t::r,0,h=>by
  have:∀ l:yD,l.length≤szFs l:=fun l=>by
   induction l with
   | nil=>exact Nat.le_refl _
   | cons f r ih=>simp only [szFs,qf]; omega
  have:=this t.Factors;simp only [szTs,List.getD_cons_zero]; omega
 | t::r,i+1,h=>by
  have:=zLn r i (by simpa using h)
  simp only [szTs,List.getD_cons_succ]; omega
theorem foldl_factors' (l:yD):∀ n:Nat,l.foldl (fun s t=>s+1+ze6 t.Atom) n=n+l.length+zbJ l:=by
 induction l with
 | nil=>intro n; rw [ziB]; rfl
 | cons a r ih=>intro n; rw [List.foldl_cons,ih,zc5,qf]; omega
theorem zbeo (a:yC) (i:Nat) (hi:i<a.length) (hla:a.length≤1000000) (l:yD) (el:(a.getD i default).Factors=l) (hl:l.length≤1000000) (hg:∀ f∈l,(f.Atom.Args.length≤1000000∧f.Atom.Items.length≤1000000)∧(∀ y∈f.Atom.Args,g y=(true,(zM y:Int)))∧∀ y∈f.Atom.Items,g y.Ann=(true,(zM y.Ann:Int))) (fuel n:Nat) (hf:l.length<fuel) (hn:n+l.length+zbJ l≤4611686018427387904):
  zN1 g fuel a n i 0=(true,(a,((n+l.length+zbJ l:Nat):Int),(i:Int))):=by
 have h:=zc3 (W:=zDr g) (z:=default) (l:=l) (fun k (n:Nat)=>(a,(n:Int),(i:Int),(k:Int),())) (fun _ _=>()) (fun y n=>.inl (n+1+ze6 y.Atom)) (fun n=>(a,(n:Int),(i:Int))) (fun k n=>n+(l.drop k).length+zbJ (l.drop k)≤4611686018427387904)
  (fun k n hk hI=>.inl ⟨_,rfl,by rw [zbs hk,zc5,qf] at hI; omega,fun H K D=>by
   rw [zbs hk,zc5,zg9,qf] at hI;obtain ⟨⟨h1,h2⟩,h3,h4⟩:=hg _ (zt hk);show (ztA g a n i k).ev H K D=_;unfold ztA;simp only [Wy.ev_i,Wy.ev_k,Wy.ev_h,Wy.ev_bn,Wy.ev_d,tT,hi,el,hk,Atom.eta];rw [zgy (i:=n) (by omega)]
   rw [zbcg g _ h1 h3 _ _ _ _ _ (by omega) (by omega)]
   simp only [cond_true,Int.toNat_natCast,Atom.eta];rw [zbc6 g _ h2 h4 _ _ _ _ _ (by omega) (by omega)]
   simp only [cond_true];rw [zgy (by omega),zg9,Nat.add_assoc (n+1)]⟩)
  (fun n hI H K D=>by
   show (ztA g a n i l.length).ev H K D=_;unfold ztA;simp only [Wy.ev_i,Wy.ev_k,tT,hi,el,Nat.lt_irrefl]) fuel 0 n (by omega) (Nat.zero_le _) (by simpa using hn)
 rw [List.drop_zero,zc4,foldl_factors'] at h;exact h
theorem zbeR (l:yC) (hl:l.length≤1000000) (hg:∀ t∈l,t.Factors.length≤1000000∧∀ f∈t.Factors,(f.Atom.Args.length≤1000000∧f.Atom.Items.length≤1000000)∧(∀ y∈f.Atom.Args,g y=(true,(zM y:Int)))∧∀ y∈f.Atom.Items,g y.Ann=(true,(zM y.Ann:Int))) (fuel n:Nat) (hf:l.length<fuel) (hn:n+zM l≤4611686018427387904):
  zNV g fuel l n 0=(true,((n+zM l:Nat):Int)):=by
 have h:=zc3 (W:=zDv g) (z:=default) (l:=l) (fun i (n:Nat)=>(l,(n:Int),(i:Int),())) (fun _ _=>()) (fun y n=>.inl (n+1+y.Factors.length+zbJ y.Factors)) (fun n=>(n:Int)) (fun i n=>n+zM (l.drop i)≤4611686018427387904)
  (fun i n hi hI=>.inl ⟨_,rfl,by rw [zbs hi,zex] at hI; omega,fun H K D=>by
   rw [zbs hi,zex] at hI;obtain ⟨h1,h3⟩:=hg _ (zt hi);have hz:=zLn l i hi;show (ztO g l n i).ev H K D=_;unfold ztO;simp only [Wy.ev_i,Wy.ev_k,Wy.ev_h,Wy.ev_bn,Wy.ev_d,tT,hi,Atom.eta];rw [zgy (i:=n) (by omega)]
   rw [zbeo g l i hi hl _ rfl h1 h3 _ _ (by omega) (by omega)]
   simp only [cond_true];rw [zgy (by omega)]⟩)
  (fun n hI H K D=>by
   show (ztO g l n l.length).ev H K D=_;unfold ztO;simp only [Wy.ev_i,Wy.ev_k,tT,Nat.lt_irrefl]) fuel 0 n (by omega) (Nat.zero_le _) (by simpa using hn)
 rw [List.drop_zero,zc4,z5C] at h;exact h
end
theorem z8L {l:yA} {y:yC} (h:y∈l):zM y≤ze9 l:=by
 induction l with
 | nil=>cases h
 | cons a r ih=>
  rw [zeU];rcases qd.1 h with rfl | h
  ·omega
  ·have:=ih h; omega
theorem z8h {l:yE} {y:Weighted} (h:y∈l):zM y.Ann≤zdn l:=by
 induction l with
 | nil=>cases h
 | cons a r ih=>
  rw [zh6];rcases qd.1 h with rfl | h
  ·omega
  ·have:=ih h; omega
theorem zPF {l:yD} {y:Factor} (h:y∈l):ze6 y.Atom≤zbJ l:=by
 induction l with
 | nil=>cases h
 | cons a r ih=>
  rw [zc5];rcases qd.1 h with rfl | h
  ·omega
  ·have:=ih h; omega
theorem z9Y {l:yC} {y:Term} (h:y∈l):zbJ y.Factors≤zM l:=by
 induction l with
 | nil=>cases h
 | cons a r ih=>
  rw [zex];rcases qd.1 h with rfl | h
  ·omega
  ·have:=ih h; omega
theorem z4h {a:yC} {t:Term} {f:Factor} (ht:t∈a) (hf:f∈t.Factors):ze9 f.Atom.Args+zdn f.Atom.Items≤zM a:=by
 have h1:=z9Y ht; have h2:=zPF hf; rw [zg9] at h2; omega
theorem zOv {d:Nat} {a:yC} (h:zo (d+1) a) {t:Term} (ht:t∈a):t.Factors.length≤1000000∧∀ f∈t.Factors,(f.Atom.Args.length≤1000000∧f.Atom.Items.length≤1000000)∧(∀ y∈f.Atom.Args,zo d y)∧∀ y∈f.Atom.Items,zo d y.Ann:=
 ⟨(h.2 t ht).1,fun f hf=>have q:=(h.2 t ht).2 f hf; ⟨⟨q.1.1,q.1.2.1⟩,q.2.1,fun y hy=>(q.2.2 y hy).2⟩⟩
theorem zZX:∀ (n d:Nat) (a:yC),zo d a→d≤n→zM a≤4611686018427387904→zlH n a=(true,(zM a:Int))∧zvW n a=(true,(zM a:Int))
 | n,0,a,h,hd,hs=>h.elim
 | 0,d+1,a,h,hd,hs=>by omega
 | n+1,d+1,a,h,hd,hs=>by
  have hg:=fun y (hy:zo d y) (hs:zM y≤4611686018427387904)=>zZX n d y hy (by omega) hs
  have hsub:∀ t∈a,t.Factors.length≤1000000∧∀ f∈t.Factors,(f.Atom.Args.length≤1000000∧f.Atom.Items.length≤1000000)∧(∀ y∈f.Atom.Args,zo d y∧zM y≤4611686018427387904)∧∀ y∈f.Atom.Items,zo d y.Ann∧zM y.Ann≤4611686018427387904:=fun t ht=>by
   obtain ⟨h1,h2⟩:=zOv h ht;refine ⟨h1,fun f hf=> ?_⟩
   obtain ⟨h3,h4,h5⟩:=h2 f hf;have h6:=z4h ht hf;exact ⟨h3,fun y hy=>⟨h4 y hy,by have:=z8L hy; omega⟩,fun y hy=>⟨h5 y hy,by have:=z8h hy; omega⟩⟩
  constructor
  ·rw [zR2];unfold zuR zE4
   have h1:=zbfd (zlH n) a h.1 (fun t ht=>⟨(hsub t ht).1,fun f hf=>⟨((hsub t ht).2 f hf).1,fun y hy=>(hg y (((hsub t ht).2 f hf).2.1 y hy).1 (((hsub t ht).2 f hf).2.1 y hy).2).1,fun y hy=>(hg _ (((hsub t ht).2 f hf).2.2 y hy).1 (((hsub t ht).2 f hf).2.2 y hy).2).1⟩⟩)
    (Int.toNat 0+a.length+(Int.ofNat a.length).toNat +Int.toNat 0+1) 0 (by omega) (by omega)
   rw [show ((0:Nat):Int)=(0:Int) from rfl,Nat.zero_add] at h1
   rw [Wy.fin_bn,show Int.ofNat a.length=(a.length:Int) from rfl] at *
   rw [h1]; rfl
  ·rw [z1Y];unfold zDW zQM
   have h1:=zbeR (zvW n) a h.1 (fun t ht=>⟨(hsub t ht).1,fun f hf=>⟨((hsub t ht).2 f hf).1,fun y hy=>(hg y (((hsub t ht).2 f hf).2.1 y hy).1 (((hsub t ht).2 f hf).2.1 y hy).2).2,fun y hy=>(hg _ (((hsub t ht).2 f hf).2.2 y hy).1 (((hsub t ht).2 f hf).2.2 y hy).2).2⟩⟩)
    (a.length+Int.toNat 0+Int.toNat 0+1+szTs a) 0 (by omega) (by omega)
   rw [show ((0:Nat):Int)=(0:Int) from rfl,Nat.zero_add] at h1
   rw [Wy.fin_bn,h1]; rfl
mutual
def zn4:Atom→Nat
 | ⟨k,_,a,_,i,_,_⟩=>if k=0 then 0 else 1+max (zmE a) (zlq i)
def zdu:yD→Nat
 | []=>0
 | ⟨x,_⟩::r=>max (zn4 x) (zdu r)
def zbn:yC→Nat
 | []=>0
 | ⟨_,fs⟩::r=>max (zdu fs) (zbn r)
def zmE:yA→Nat
 | []=>0
 | a::r=>max (zbn a) (zmE r)
def zlq:yE→Nat
 | []=>0
 | ⟨_,a⟩::r=>max (zbn a) (zlq r)
end
theorem zDI (x:Atom):zn4 x=if x.Kind=0 then 0 else 1+max (zmE x.Args) (zlq x.Items):=by cases x; rw [zn4]
theorem zjl (f:Factor) (r:yD):zdu (f::r)=max (zn4 f.Atom) (zdu r):=by cases f; rw [zdu]
theorem zm3 (t:Term) (r:yC):zbn (t::r)=max (zdu t.Factors) (zbn r):=by cases t; rw [zbn]
theorem zDJ (a:yC) (r:yA):zmE (a::r)=max (zbn a) (zmE r):=by rw [zmE]
theorem zCb (w:Weighted) (r:yE):zlq (w::r)=max (zbn w.Ann) (zlq r):=by cases w; rw [zlq]
theorem zO8:zmE []=0:=by rw [zmE]
theorem zLt:zlq []=0:=by rw [zlq]
theorem zqh:zdu []=0:=by rw [zdu]
theorem zDm:zbn []=0:=by rw [zbn]
theorem zbaO (l:yA):∀ n:Nat,l.foldl (fun s t=>max s (zbn t)) n=max n (zmE l):=by
 induction l with
 | nil=>intro n; rw [zO8]; exact (Nat.max_zero n).symm
 | cons a r ih=>intro n; rw [List.foldl_cons,ih,zDJ]; omega
theorem z83 (l:yE):∀ n:Nat,l.foldl (fun s t=>max s (zbn t.Ann)) n=max n (zlq l):=by
 induction l with
 | nil=>intro n; rw [zLt]; exact (Nat.max_zero n).symm
 | cons a r ih=>intro n; rw [List.foldl_cons,ih,zCb]; omega
theorem z8U (l:yA):∀ n:Nat,l.foldl (fun s t=>max s (1+zbn t)) (1+n)=1+max n (zmE l):=by
 induction l with
 | nil=>intro n; rw [zO8]; simp
 | cons a r ih=>intro n; rw [List.foldl_cons,show max (1+n) (1+zbn a)=1+max n (zbn a) by omega,ih,zDJ]; omega
theorem z7q (l:yE):∀ n:Nat,l.foldl (fun s t=>max s (1+zbn t.Ann)) (1+n)=1+max n (zlq l):=by
 induction l with
 | nil=>intro n; rw [zLt]; simp
 | cons a r ih=>intro n; rw [List.foldl_cons,show max (1+n) (1+zbn a.Ann)=1+max n (zbn a.Ann) by omega,ih,zCb]; omega
theorem zTr (l:yD):∀ n:Nat,l.foldl (fun s t=>max s (zn4 t.Atom)) n=max n (zdu l):=by
 induction l with
 | nil=>intro n; rw [zqh]; exact (Nat.max_zero n).symm
 | cons a r ih=>intro n; rw [List.foldl_cons,ih,zjl]; omega
theorem z5m (l:yC):∀ n:Nat,l.foldl (fun s t=>max s (zdu t.Factors)) n=max n (zbn l):=by
 induction l with
 | nil=>intro n; rw [zDm]; exact (Nat.max_zero n).symm
 | cons a r ih=>intro n; rw [List.foldl_cons,ih,zm3]; omega
theorem zXn (a b:Nat):(if (a:Int)>(b:Int) then (a:Int) else (b:Int))=((max b a:Nat):Int):=by split <;>omega
theorem z2U {d:Nat}:∀ l:yA,(∀ y∈l,zbn y≤d)→zmE l≤d:=fun l=>by
 induction l with
 | nil=>intro _; rw [zO8]; omega
 | cons y r ih=>intro hy; rw [zDJ]; have h1:=hy y (by simp); have h2:=ih fun z hz=>hy z (by simp [hz]); omega
theorem zZs {d:Nat}:∀ l:yE,(∀ y∈l,zbn y.Ann≤d)→zlq l≤d:=fun l=>by
 induction l with
 | nil=>intro _; rw [zLt]; omega
 | cons y r ih=>intro hy; rw [zCb]; have h1:=hy y (by simp); have h2:=ih fun z hz=>hy z (by simp [hz]); omega
theorem z5Q {d:Nat}:∀ l:yD,(∀ y∈l,zn4 y.Atom≤d)→zdu l≤d:=fun l=>by
 induction l with
 | nil=>intro _; rw [zqh]; omega
 | cons y r ih=>intro hy; rw [zjl]; have h1:=hy y (by simp); have h2:=ih fun z hz=>hy z (by simp [hz]); omega
theorem zbbB {d:Nat}:∀ l:yC,(∀ y∈l,zdu y.Factors≤d)→zbn l≤d:=fun l=>by
 induction l with
 | nil=>intro _; rw [zDm]; omega
 | cons y r ih=>intro hy; rw [zm3]; have h1:=hy y (by simp); have h2:=ih fun z hz=>hy z (by simp [hz]); omega
theorem zRM:∀ (d:Nat) (a:yC),zo d a→zbn a≤d
 | 0,a,h=>h.elim
 | d+1,a,h=>zbbB a fun t ht=>z5Q _ fun f hf=>by
  obtain ⟨_,h2⟩:=zOv h ht;obtain ⟨_,h4,h5⟩:=h2 f hf;have q1:=z2U f.Atom.Args fun y hy=>zRM d y (h4 y hy)
  have q2:=zZs f.Atom.Items fun y hy=>zRM d y.Ann (h5 y hy)
  rw [zDI]; split <;>omega
section
variable (g:yC→Bool×Int)
theorem zbeU (l:yA) (hl:l.length≤1000000) (hg:∀ y∈l,g y=(true,(zbn y:Int))) (nn:Int) (t13:yC) (t14 t15:Int) (t20:yD) (t21 t22:Int) (f:Factor) (fuel n:Nat) (hf:l.length<fuel):
  zzM g fuel nn n t13 t14 t15 t20 t21 t22 l l.length 0 f=(true,(nn,((max n (zmE l):Nat):Int),t13,t14,t15,t20,t21,t22,f)):=by
 have h:=zc3 (W:=zro g) (z:=default) (l:=l) (fun i (n:Nat)=>(nn,(),(n:Int),t13,t14,t15,t20,t21,t22,l,(l.length:Int),(i:Int),())) (fun _ _=>(f,())) (fun y n=>.inl (max n (zbn y))) (fun n=>(nn,(n:Int),t13,t14,t15,t20,t21,t22,f)) (fun i n=>True)
  (fun i n hi hI=>.inl ⟨_,rfl,trivial,fun H K D=>by
   show (zhO g nn n t13 t14 t15 t20 t21 t22 l l.length i f).ev H K D=_;unfold zhO;simp only [Wy.ev_i,Wy.ev_k,Wy.ev_h,Wy.ev_bn,Wy.ev_d,tT,hi,hg _ (zt hi),zXn];rw [zgy (by omega)]⟩)
  (fun n hI H K D=>by
   show (zhO g nn n t13 t14 t15 t20 t21 t22 l l.length l.length f).ev H K D=_;unfold zhO;simp only [Wy.ev_i,Wy.ev_k,tT,Nat.lt_irrefl]) fuel 0 n (by omega) (Nat.zero_le _) trivial
 rw [List.drop_zero,zc4,zbaO] at h;exact h
theorem zbfe (l:yE) (hl:l.length≤1000000) (hg:∀ y∈l,g y.Ann=(true,(zbn y.Ann:Int))) (nn:Int) (t13:yC) (t14 t15:Int) (t20:yD) (t21 t22:Int) (fuel n:Nat) (hf:l.length<fuel):
  zAt g fuel nn n t13 t14 t15 t20 t21 t22 l l.length 0=(true,(nn,((max n (zlq l):Nat):Int),t13,t14,t15,t20,t21,t22)):=by
 have h:=zc3 (W:=zqI g) (z:=default) (l:=l) (fun i (n:Nat)=>(nn,(n:Int),t13,t14,t15,t20,t21,t22,l,(l.length:Int),(i:Int),())) (fun _ _=>()) (fun y n=>.inl (max n (zbn y.Ann))) (fun n=>(nn,(n:Int),t13,t14,t15,t20,t21,t22)) (fun i n=>True)
  (fun i n hi hI=>.inl ⟨_,rfl,trivial,fun H K D=>by
   show (zhE g nn n t13 t14 t15 t20 t21 t22 l l.length i).ev H K D=_;unfold zhE;simp only [Wy.ev_i,Wy.ev_k,Wy.ev_h,Wy.ev_bn,Wy.ev_d,tT,hi,hg _ (zt hi),zXn];rw [zgy (by omega)]⟩)
  (fun n hI H K D=>by
   show (zhE g nn n t13 t14 t15 t20 t21 t22 l l.length l.length).ev H K D=_;unfold zhE;simp only [Wy.ev_i,Wy.ev_k,tT,Nat.lt_irrefl]) fuel 0 n (by omega) (Nat.zero_le _) trivial
 rw [List.drop_zero,zc4,z83] at h;exact h
def NesG (x:Atom):Prop:=(x.Args.length≤1000000∧x.Items.length≤1000000)∧(zn4 x≤1000∧(∀ y∈x.Args,zbn y≤1000)∧∀ y∈x.Items,zbn y.Ann≤1000)∧(∀ y∈x.Args,g y=(true,(zbn y:Int)))∧∀ y∈x.Items,g y.Ann=(true,(zbn y.Ann:Int))
theorem zbgf (l:yD) (hl:l.length≤1000000) (hg:∀ f∈l,NesG g f.Atom) (t13:yC) (t14 t15:Int) (fuel n:Nat) (hf:l.length<fuel):
  zBa g fuel n t13 t14 t15 l l.length 0=(true,(((max n (zdu l):Nat):Int),t13,t14,t15)):=by
 have h:=zc3 (W:=zs7 g) (z:=default) (l:=l) (fun i (n:Nat)=>((n:Int),t13,t14,t15,l,(l.length:Int),(i:Int),())) (fun _ _=>()) (fun y n=>.inl (max n (zn4 y.Atom))) (fun n=>((n:Int),t13,t14,t15)) (fun i n=>True)
  (fun i n hi hI=>.inl ⟨_,rfl,trivial,fun H K D=>by
   obtain ⟨⟨h1,h2⟩,⟨h5,_,_⟩,h3,h4⟩:=hg _ (zt hi);show (ziS g n t13 t14 t15 l l.length i).ev H K D=_;unfold ziS;simp only [Wy.ev_i,Wy.ev_k,Wy.ev_h,Wy.ev_bn,Wy.ev_d,tT,hi,Atom.eta];generalize l.getD i default=f at *;rw [zDI] at h5 ⊢;by_cases hk:f.Atom.Kind=0
   ·have e:(f.Atom.Kind==0)=true:=by simp [hk]
    simp only [e,cond_true];rw [if_pos hk,Nat.max_zero,zgy (by omega)]
   ·have e:(f.Atom.Kind==0)=false:=by simp [hk]
    simp only [e,cond_false];rw [if_neg hk] at h5 ⊢;have q:=fun fuel hf=>zbeU g _ h1 h3 n t13 t14 t15 l l.length i f fuel 0 hf
    rw [Nat.zero_max,show ((0:Nat):Int)=(0:Int) from rfl] at q
    rw [q _ (by omega)]
    simp only [cond_true,Int.toNat_natCast];rw [zbfe g _ h2 h4 n t13 t14 t15 l l.length i _ _ (by omega)]
    simp only [cond_true];rw [zgy (by omega),show (1:Int)=((1:Nat):Int) from rfl,zoa (n:=1) (by omega),zXn]⟩)
  (fun n hI H K D=>by
   show (ziS g n t13 t14 t15 l l.length l.length).ev H K D=_;unfold ziS;simp only [Wy.ev_i,Wy.ev_k,tT,Nat.lt_irrefl]) fuel 0 n (by omega) (Nat.zero_le _) trivial
 rw [List.drop_zero,zc4,zTr] at h;exact h
theorem zbfV (l:yC) (hl:l.length≤1000000) (hg:∀ t∈l,t.Factors.length≤1000000∧∀ f∈t.Factors,NesG g f.Atom) (fuel n:Nat) (hf:l.length<fuel):
  zA8 g fuel n l l.length 0=(true,((max n (zbn l):Nat):Int)):=by
 have h:=zc3 (W:=zst g) (z:=default) (l:=l) (fun i (n:Nat)=>((n:Int),l,(l.length:Int),(i:Int),())) (fun _ _=>()) (fun y n=>.inl (max n (zdu y.Factors))) (fun n=>(n:Int)) (fun i n=>True)
  (fun i n hi hI=>.inl ⟨_,rfl,trivial,fun H K D=>by
   obtain ⟨h1,h3⟩:=hg _ (zt hi);show (zi0 g n l l.length i).ev H K D=_;unfold zi0;simp only [Wy.ev_i,Wy.ev_k,Wy.ev_h,Wy.ev_bn,Wy.ev_d,tT,hi,Atom.eta];rw [zbgf g _ h1 h3 _ _ _ _ _ (by omega)]
   simp only [cond_true];rw [zgy (by omega)]⟩)
  (fun n hI H K D=>by
   show (zi0 g n l l.length l.length).ev H K D=_;unfold zi0;simp only [Wy.ev_i,Wy.ev_k,tT,Nat.lt_irrefl]) fuel 0 n (by omega) (Nat.zero_le _) trivial
 rw [List.drop_zero,zc4,z5m] at h;exact h
theorem zbeL (x:Atom) (hx:NesG g x) (a:yC) (most i k:Int) (fuel n:Nat) (hf:x.Args.length<fuel):
  zyE g fuel a most i k ((1+n:Nat):Int) 0 x=(true,(a,most,i,k,((1+max n (zmE x.Args):Nat):Int),x)):=by
 obtain ⟨⟨h1,h2⟩,⟨h5,h6,h7⟩,h3,h4⟩:=hx
 have h:=zc3 (W:=zyp g) (z:=default) (l:=x.Args) (fun j (n:Nat)=>(a,most,i,k,(),(n:Int),(j:Int),())) (fun _ _=>(x,())) (fun y n=>.inl (max n (1+zbn y))) (fun n=>(a,most,i,k,(n:Int),x)) (fun i n=>True)
  (fun j n hi hI=>.inl ⟨_,rfl,trivial,fun H K D=>by
   have h8:=h6 _ (zt hi);show (zml g a most i k n j x).ev H K D=_;unfold zml;simp only [Wy.ev_i,Wy.ev_k,Wy.ev_h,Wy.ev_bn,Wy.ev_d,tT,hi,h3 _ (zt hi)];rw [zgy (by omega),show (1:Int)=((1:Nat):Int) from rfl,zoa (n:=1) (by omega),zXn]⟩)
  (fun n hI H K D=>by
   show (zml g a most i k n x.Args.length x).ev H K D=_;unfold zml;simp only [Wy.ev_i,Wy.ev_k,tT,Nat.lt_irrefl]) fuel 0 (1+n) (by omega) (Nat.zero_le _) trivial
 rw [List.drop_zero,zc4,z8U] at h;exact h
theorem zbeM (x:Atom) (hx:NesG g x) (a:yC) (most i k:Int) (fuel n:Nat) (hf:x.Items.length<fuel):
  zEY g fuel a most i k ((1+n:Nat):Int) 0 x=(true,(a,most,i,k,((1+max n (zlq x.Items):Nat):Int))):=by
 obtain ⟨⟨h1,h2⟩,⟨h5,h6,h7⟩,h3,h4⟩:=hx
 have h:=zc3 (W:=zyn g) (z:=default) (l:=x.Items) (fun j (n:Nat)=>(a,most,i,k,(),(n:Int),(j:Int),())) (fun _ _=>(x,())) (fun y n=>.inl (max n (1+zbn y.Ann))) (fun n=>(a,most,i,k,(n:Int))) (fun i n=>True)
  (fun j n hi hI=>.inl ⟨_,rfl,trivial,fun H K D=>by
   have h8:=h7 _ (zt hi);show (zme g a most i k n j x).ev H K D=_;unfold zme;simp only [Wy.ev_i,Wy.ev_k,Wy.ev_h,Wy.ev_bn,Wy.ev_d,tT,hi,h4 _ (zt hi)];rw [zgy (by omega),show (1:Int)=((1:Nat):Int) from rfl,zoa (n:=1) (by omega),zXn]⟩)
  (fun n hI H K D=>by
   show (zme g a most i k n x.Items.length x).ev H K D=_;unfold zme;simp only [Wy.ev_i,Wy.ev_k,tT,Nat.lt_irrefl]) fuel 0 (1+n) (by omega) (Nat.zero_le _) trivial
 rw [List.drop_zero,zc4,z7q] at h;exact h
theorem RNes_12' (x:Atom) (hx:NesG g x) (a:yC) (most i k:Int) (fuel:Nat) (hf:x.Args.length<fuel):zyE g fuel a most i k 1 0 x=(true,(a,most,i,k,((1+zmE x.Args:Nat):Int),x)):=by
 have h:=zbeL g x hx a most i k fuel 0 hf;rw [Nat.zero_max] at h; exact h
theorem zbeX (a:yC) (i:Nat) (hi:i<a.length) (hla:a.length≤1000000) (l:yD) (el:(a.getD i default).Factors=l) (hl:l.length≤1000000) (hg:∀ f∈l,NesG g f.Atom) (fuel n:Nat) (hf:l.length<fuel):
  zGx g fuel a n i 0=(true,(a,((max n (zdu l):Nat):Int),(i:Int))):=by
 have h:=zc3 (W:=zzV g) (z:=default) (l:=l) (fun k (n:Nat)=>(a,(n:Int),(i:Int),(k:Int),())) (fun _ _=>()) (fun y n=>.inl (max n (zn4 y.Atom))) (fun n=>(a,(n:Int),(i:Int))) (fun k n=>True)
  (fun k n hk hI=>.inl ⟨_,rfl,trivial,fun H K D=>by
   have hx:=hg _ (zt hk);have h5:=hx.2.1.1;show (znI g a n i k).ev H K D=_;unfold znI;simp only [Wy.ev_i,Wy.ev_k,Wy.ev_h,Wy.ev_bn,Wy.ev_d,tT,hi,el,hk,Atom.eta];generalize l.getD k default=f at *;rw [zDI] at h5 ⊢;by_cases hz:f.Atom.Kind=0
   ·have e:(f.Atom.Kind==0)=true:=by simp [hz]
    simp only [e,cond_true];rw [if_pos hz,Nat.max_zero,zgy (by omega)]
   ·have e:(f.Atom.Kind==0)=false:=by simp [hz]
    have hx1:=hx.1;simp only [e,cond_false];rw [if_neg hz] at h5 ⊢;rw [RNes_12' g _ hx _ _ _ _ _ (by omega)]
    simp only [cond_true,Int.toNat_natCast,Atom.eta];rw [zbeM g _ hx _ _ _ _ _ _ (by omega)]
    simp only [cond_true];rw [zgy (by omega),zXn]⟩)
  (fun n hI H K D=>by
   show (znI g a n i l.length).ev H K D=_;unfold znI;simp only [Wy.ev_i,Wy.ev_k,tT,hi,el,Nat.lt_irrefl]) fuel 0 n (by omega) (Nat.zero_le _) trivial
 rw [List.drop_zero,zc4,zTr] at h;exact h
theorem zbe8 (l:yC) (hl:l.length≤1000000) (hg:∀ t∈l,t.Factors.length≤1000000∧∀ f∈t.Factors,NesG g f.Atom) (fuel n:Nat) (hf:l.length<fuel):
  zHs g fuel l n 0=(true,((max n (zbn l):Nat):Int)):=by
 have h:=zc3 (W:=zz8 g) (z:=default) (l:=l) (fun i (n:Nat)=>(l,(n:Int),(i:Int),())) (fun _ _=>()) (fun y n=>.inl (max n (zdu y.Factors))) (fun n=>(n:Int)) (fun i n=>True)
  (fun i n hi hI=>.inl ⟨_,rfl,trivial,fun H K D=>by
   obtain ⟨h1,h3⟩:=hg _ (zt hi);have hz:=zLn l i hi;show (zng g l n i).ev H K D=_;unfold zng;simp only [Wy.ev_i,Wy.ev_k,Wy.ev_h,Wy.ev_bn,Wy.ev_d,tT,hi,Atom.eta];rw [zbeX g l i hi hl _ rfl h1 h3 _ _ (by omega)]
   simp only [cond_true];rw [zgy (by omega)]⟩)
  (fun n hI H K D=>by
   show (zng g l n l.length).ev H K D=_;unfold zng;simp only [Wy.ev_i,Wy.ev_k,tT,Nat.lt_irrefl]) fuel 0 n (by omega) (Nat.zero_le _) trivial
 rw [List.drop_zero,zc4,z5m] at h;exact h
end
theorem z4d:∀ (n d:Nat) (a:yC),zo d a→d≤n→d≤100→zf8 n a=(true,(zbn a:Int))∧zlr n a=(true,(zbn a:Int))
 | n,0,a,h,hd,hs=>h.elim
 | 0,d+1,a,h,hd,hs=>by omega
 | n+1,d+1,a,h,hd,hs=>by
  have hg:=fun y (hy:zo d y)=>z4d n d y hy (by omega) (by omega)
  have hsub:∀ t∈a,t.Factors.length≤1000000∧∀ f∈t.Factors,NesG (zf8 n) f.Atom∧NesG (zlr n) f.Atom:=fun t ht=>by
   obtain ⟨h1,h2⟩:=zOv h ht;refine ⟨h1,fun f hf=> ?_⟩
   obtain ⟨h3,h4,h5⟩:=h2 f hf;have q1:∀ y∈f.Atom.Args,zbn y≤d:=fun y hy=>zRM d y (h4 y hy)
   have q2:∀ y∈f.Atom.Items,zbn y.Ann≤d:=fun y hy=>zRM d y.Ann (h5 y hy)
   have q3:zn4 f.Atom≤1000:=by
    have r1:=z2U _ q1; have r2:=zZs _ q2;rw [zDI]; split <;>omega
   have q4:zn4 f.Atom≤1000∧(∀ y∈f.Atom.Args,zbn y≤1000)∧∀ y∈f.Atom.Items,zbn y.Ann≤1000:=⟨q3,fun y hy=>by have:=q1 y hy; omega,fun y hy=>by have:=q2 y hy; omega⟩
   exact ⟨⟨h3,q4,fun y hy=>(hg y (h4 y hy)).1,fun y hy=>(hg _ (h5 y hy)).1⟩,⟨h3,q4,fun y hy=>(hg y (h4 y hy)).2,fun y hy=>(hg _ (h5 y hy)).2⟩⟩
  constructor
  ·rw [zMw];unfold zpo zBP;have h1:=zbfV (zf8 n) a h.1 (fun t ht=>⟨(hsub t ht).1,fun f hf=>((hsub t ht).2 f hf).1⟩) (Int.toNat 0+a.length+(Int.ofNat a.length).toNat +Int.toNat 0+1) 0 (by omega)
   rw [show ((0:Nat):Int)=(0:Int) from rfl,Nat.zero_max] at h1
   rw [Wy.fin_bn,show Int.ofNat a.length=(a.length:Int) from rfl] at *
   rw [h1]; rfl
  ·rw [zVD];unfold zyT zI9;have h1:=zbe8 (zlr n) a h.1 (fun t ht=>⟨(hsub t ht).1,fun f hf=>((hsub t ht).2 f hf).2⟩) (a.length+Int.toNat 0+Int.toNat 0+1+szTs a) 0 (by omega)
   rw [show ((0:Nat):Int)=(0:Int) from rfl,Nat.zero_max] at h1
   rw [Wy.fin_bn,h1]; rfl
theorem zzF (x y:Int):zd8 x y=(true,cmpI x y):=by
 unfold zd8 zI0 ztc zNm cmpI;by_cases h1:x<y
 ·simp [h1,Wy.fin_i,Wy.fin_k]
 ·by_cases h2:y<x <;>simp [h1,h2,Wy.fin_i,Wy.fin_k]
theorem zwN (x y:Int):zi9 x y=(true,cmpI x y):=by
 unfold zi9 zES znP zI2 cmpI;by_cases h1:x<y
 ·simp [h1,Wy.fin_i,Wy.fin_k]
 ·by_cases h2:y<x <;>simp [h1,h2,Wy.fin_i,Wy.fin_k]
def zvP:List Int→Int
 | []=>0
 | x::r=>if x=0 then zvP r else x
theorem z9o (l:List Int) (hl:l.length≤1000000):∀ (n i:Nat),l.length<i+n→i≤l.length→∃ r,zHU n 0 l l.length i=(true,r)∧(r=.inl (zvP (l.drop i))∨(r=.inr 0∧zvP (l.drop i)=0))
 | 0,i,h,h2=>by omega
 | n+1,i,h,h2=>by
  show ∃ r,(zIe 0 l l.length i).ev (fun x y=>zHU n x.1 x.2.1 x.2.2.1 x.2.2.2.1) (fun r=>(true,r)) (false,.inl default)=(true,r)∧_
  unfold zIe;by_cases hi:i<l.length
  ·simp only [Wy.ev_i,Wy.ev_k,Wy.ev_h,Int.ofNat_eq_natCast,zBO,ze8,decide_true,decide_false,Bool.and_self,Bool.true_and,Bool.and_true,cond_true,cond_false,Int.toNat_natCast,Bool.not_true,Bool.not_false,hi];obtain ⟨r,h1,h3⟩:=z9o l hl n (i+1) (by omega) (by omega)
   rw [zbs hi,zQ (by omega),h1]
   generalize l.getD i default=x;by_cases hx:x=0
   ·have e:(x != 0)=false:=by simp [hx]
    simp only [e,cond_false,zvP,hx,if_true];exact ⟨r,rfl,h3⟩
   ·have e:(x != 0)=true:=by simp [hx]
    simp only [e,cond_true,zvP,hx,if_false];exact ⟨_,rfl,.inl rfl⟩
  ·simp only [Wy.ev_i,Wy.ev_k,Wy.ev_h,Int.ofNat_eq_natCast,zBO,ze8,decide_true,decide_false,Bool.and_self,Bool.true_and,Bool.and_true,cond_true,cond_false,Int.toNat_natCast,Bool.not_true,Bool.not_false,hi,zcs hi];exact ⟨_,rfl,.inr ⟨rfl,rfl⟩⟩
theorem zx8 (l:List Int) (hl:l.length≤1000000):zmZ l=(true,zvP l):=by
 unfold zmZ zW7;obtain ⟨r,h1,h2⟩:=z9o l hl (Int.toNat 0+l.length+(Int.ofNat l.length).toNat +Int.toNat 0+1) 0 (by simp; omega) (by omega)
 rw [show ((0:Nat):Int)=(0:Int) from rfl] at h1
 rw [Wy.fin_bn,show Int.ofNat l.length=(l.length:Int) from rfl] at *
 rw [h1];rw [List.drop_zero] at h2;rcases h2 with rfl | ⟨rfl,h2⟩
 ·rfl
 ·rw [h2]; rfl
section
variable {α:Type}
def lexG (c:α→α→Int):List α→List α→Int
 | [],[]=>0
 | [],_::_=> -1
 | _::_,[]=>1
 | x::a,y::b=>if c x y=0 then lexG c a b else c x y
theorem zNq (e:α→TT) {c:α→α→Int}:∀ (a b:List α),(∀ x∈a,∀ y∈b,c x y=cmpT (e x) (e y))→lexG c a b=cmpL (a.map e) (b.map e)
 | [],[],_=>by simp only [lexG,List.map,cmpL]
 | [],_::_,_=>by simp only [lexG,List.map,cmpL]
 | _::_,[],_=>by simp only [lexG,List.map,cmpL]
 | x::a,y::b,h=>by
  simp only [lexG,List.map,cmpL];rw [h x (by simp) y (by simp),zNq e a b fun x hx y hy=>h x (by simp [hx]) y (by simp [hy])]
variable [Inhabited α]
def z6E (g:α→α→Bool×Int) (s1:List α) (s2:List α) (t11:List α) (t12:Int) (t13:Int):Wy (List α×List α×Unit×List α×Int×Int×Unit) (Unit) (Int⊕(List α×List α)):=.i (decide (t13<t12)) (.i (decide ((0:Int)≤t13)&&decide (t13<Int.ofNat t11.length)) (.i (decide (t13≥Int.ofNat s2.length)) (.k (.inl (1:Int))) (.i (decide ((0:Int)≤t13)&&decide (t13<Int.ofNat s2.length)) (.bn (g (t11.getD t13.toNat default) (s2.getD t13.toNat default)) fun r0=>.i (r0 != (0:Int)) (.k (.inl (r0))) (.h (s1,s2,(),t11,t12,(IntKind.i64.wrap (t13+(1:Int))),()) ())) .d)) .d) (.k (.inr (s1,s2)))
def zba0 (g:α→α→Bool×Int) (x:List α×List α×Unit×List α×Int×Int×Unit) (y:Unit):Wy (List α×List α×Unit×List α×Int×Int×Unit) (Unit) (Int⊕(List α×List α)):=z6E g x.1 x.2.1 x.2.2.2.1 x.2.2.2.2.1 x.2.2.2.2.2.1
def zbaJ (g:α→α→Bool×Int) (n:Nat) (s1:List α) (s2:List α) (t11:List α) (t12:Int) (t13:Int):Bool×(Int⊕(List α×List α)):=zF (zba0 g) (.inl default) n (s1,s2,(),t11,t12,t13,()) ()
def CF (g:α→α→Bool×Int) (s1 s2:List α):Bool×Int:=(.bn (zbaJ g (s1.length+s2.length+s1.length+(Int.ofNat s1.length).toNat +Int.toNat (0:Int)+(1:Nat)) s1 s2 s1 (Int.ofNat s1.length) (0:Int)) fun r2=>.i (isL r2) (.k (getL r2)) (.i (decide (Int.ofNat (getR r2).fst.length<Int.ofNat (getR r2).snd.length)) (.k (-1:Int)) (.k (0:Int))):Wy0 Int).fin default
theorem z9J (g:α→α→Bool×Int) (c:α→α→Int) (a b:List α) (ha:a.length≤1000000) (hg:∀ x∈a,∀ y∈b,g x y=(true,c x y)):∀ (n i:Nat),a.length<i+n→i≤a.length→i≤b.length→
  ∃ r,zbaJ g n a b a a.length i=(true,r)∧((r=.inl (lexG c (a.drop i) (b.drop i)))∨(r=.inr (a,b)∧lexG c (a.drop i) (b.drop i)=if a.length<b.length then -1 else 0))
 | 0,i,h,h2,h3=>by omega
 | n+1,i,h,h2,h3=>by
  show ∃ r,(z6E g a b a a.length i).ev (fun x y=>zbaJ g n x.1 x.2.1 x.2.2.2.1 x.2.2.2.2.1 x.2.2.2.2.2.1) (fun r=>(true,r)) (false,.inl default)=(true,r)∧_
  unfold z6E;by_cases hi:i<a.length
  ·by_cases hi':i<b.length
   ·have hg':¬ b.length≤i:=by omega
    simp only [Wy.ev_i,Wy.ev_k,Wy.ev_h,Wy.ev_bn,Wy.ev_d,Int.ofNat_eq_natCast,zBO,ze8,decide_true,decide_false,Bool.and_self,Bool.true_and,Bool.and_true,cond_true,cond_false,Int.toNat_natCast,Bool.not_true,Bool.not_false,hi,hi',zbb0,hg',hg _ (zt hi) _ (zt hi')];rw [zbs hi,zbs hi',zQ (by omega)]
    simp only [lexG];generalize c (a.getD i default) (b.getD i default)=z;by_cases hx:z=0
    ·have e:(z != 0)=false:=by simp [hx]
     simp only [e,cond_false,hx,if_true];exact z9J g c a b ha hg n (i+1) (by omega) (by omega) (by omega)
    ·have e:(z != 0)=true:=by simp [hx]
     simp only [e,cond_true,hx,if_false];exact ⟨_,rfl,.inl rfl⟩
   ·have hg':b.length≤i:=by omega
    simp only [Wy.ev_i,Wy.ev_k,Wy.ev_h,Wy.ev_bn,Wy.ev_d,Int.ofNat_eq_natCast,zBO,ze8,decide_true,decide_false,Bool.and_self,Bool.true_and,Bool.and_true,cond_true,cond_false,Int.toNat_natCast,Bool.not_true,Bool.not_false,hi,zbb0,hg'];refine ⟨_,rfl,.inl ?_⟩;rw [zbs hi,zcs hi']; rfl
  ·simp only [Wy.ev_i,Wy.ev_k,Wy.ev_h,Wy.ev_bn,Wy.ev_d,Int.ofNat_eq_natCast,zBO,ze8,decide_true,decide_false,Bool.and_self,Bool.true_and,Bool.and_true,cond_true,cond_false,Int.toNat_natCast,Bool.not_true,Bool.not_false,hi];refine ⟨_,rfl,.inr ⟨rfl, ?_⟩⟩;rw [zcs hi];by_cases hi':i<b.length
   ·rw [zbs hi',if_pos (by omega)]; rfl
   ·rw [zcs hi',if_neg (by omega)]; rfl
theorem zbgd (g:α→α→Bool×Int) (c:α→α→Int) (a b:List α) (ha:a.length≤1000000) (hg:∀ x∈a,∀ y∈b,g x y=(true,c x y)):CF g a b=(true,lexG c a b):=by
 unfold CF;obtain ⟨r,h1,h2⟩:=z9J g c a b ha hg (a.length+b.length+a.length+(Int.ofNat a.length).toNat +Int.toNat 0+1) 0 (by simp; omega) (by omega) (by omega)
 rw [show ((0:Nat):Int)=(0:Int) from rfl] at h1
 rw [Wy.fin_bn,show Int.ofNat a.length=(a.length:Int) from rfl] at *
 rw [h1];simp only [List.drop_zero] at h2;rcases h2 with rfl | ⟨rfl,h2⟩
 ·rfl
 ·rw [h2];simp only [Wy.fin_i,Wy.fin_k,Int.ofNat_eq_natCast,zBO,ze8,decide_true,decide_false,Bool.and_self,Bool.true_and,Bool.and_true,cond_true,cond_false,Int.toNat_natCast,Bool.not_true,Bool.not_false,isL,getR];by_cases h3:a.length<b.length <;>simp [h3]
end
theorem zXm {α:Type} [Inhabited α] (e:α→TT) (g:α→α→Bool×Int) (a b:List α) (ha:a.length≤1000000) (hg:∀ x∈a,∀ y∈b,g x y=(true,cmpT (e x) (e y))):CF g a b=(true,cmpL (a.map e) (b.map e)):=by
 rw [zbgd g (fun x y=>cmpT (e x) (e y)) a b ha hg,zNq e a b fun _ _ _ _=>rfl]
theorem Factor.eta2 (x:Factor):(FactorOf.mk (Atom.mk x.Atom.Kind x.Atom.Row x.Atom.Args x.Atom.Func x.Atom.Items x.Atom.Op x.Atom.Bound) x.Exp:Factor)=x:=by rw [Atom.eta]
theorem zbcH (g):zbT g=CF g:=rfl
theorem zbaL (g):zbx g=CF g:=by
 have h:zbQ g=zba0 g:=by
  funext x y
  unfold zbQ zeg zba0 z6E;rw [Factor.eta2,Factor.eta2]
 funext a b
 unfold zbx zek zef;rw [h]; rfl
theorem zbdN (g):zbp g=CF g:=rfl
theorem zbcF (g):zbH g=CF g:=rfl
theorem zKT (a b:Value):zte a b=(true,cmpT (trV a) (trV b)):=by
 unfold zte zNl;have h:(strings_Compare a.Text b.Text).2=cmpT (trB a.Text) (trB b.Text):=by rw [← z9g]; rfl
 simp only [zzF,zwN,Wy.fin_bn,cond_true,h];rw [zx8 _ (by simp)]
 simp only [Wy.fin_k,cond_true,trV,cmpT,cmpL,zvP];rfl
theorem zQP:∀ n,
  (∀ d a b,zo d a→10*d≤n→zf5 n a b=(true,cmpL (zdz a) (zdz b)))∧
  (∀ d a b,zo d a→10*d≤n+1→zbR n a b=(true,cmpL (zdz a) (zdz b)))∧
  (∀ d x y,zcb (zo d) x.Factors→10*d+10≤n+2→ziG n x y=(true,cmpT (zzP x) (zzP y)))∧
  (∀ d x y,zcb (zo d) x.Factors→10*d+10≤n+3→zgY n x y=(true,cmpL (zbz x.Factors) (zbz y.Factors)))∧
  (∀ d l l',zcb (zo d) l→10*d+10≤n+4→zbZ n l l'=(true,cmpL (zbz l) (zbz l')))∧
  (∀ d x y,zcV (zo d) x.Atom→10*d+10≤n+5→zfR n x y=(true,cmpT (zh2 x) (zh2 y)))∧
  (∀ d x y,zcV (zo d) x→10*d+10≤n+6→zg3 n x y=(true,cmpT (zdl x) (zdl y)))∧
  (∀ d a b,a.length≤1000000→(∀ x∈a,zo d x)→10*d+10≤n+7→zbo n a b=(true,cmpL (zxL a) (zxL b)))∧
  (∀ d a b,a.length≤1000000→(∀ x∈a,zo d x.Ann)→10*d+10≤n+7→zbI n a b=(true,cmpL (zht a) (zht b)))∧
  (∀ d x y,zo d x.Ann→10*d+10≤n+8→zfa n x y=(true,cmpT (zbc x) (zbc y)))
 | 0=>by
  refine ⟨?_, ?_, ?_, ?_, ?_, ?_, ?_, ?_, ?_, ?_⟩
  ·intro d a b h hd; have:d=0:=by omega
   subst this; exact h.elim
  ·intro d a b h hd; have:d=0:=by omega
   subst this; exact h.elim
  all_goals (intros; omega)
 | n+1=>by
  obtain ⟨h1,h2,h3,h4,h5,h6,h7,h8,h9,h10⟩:=zQP n;refine ⟨?_, ?_, ?_, ?_, ?_, ?_, ?_, ?_, ?_, ?_⟩
  ·intro d a b h hd;rw [zMY];unfold zo7 zBC;rw [Wy.fin_bn,h2 d a b h (by omega)]; rfl
  ·intro d a b h hd;cases d with
   | zero=>exact h.elim
   | succ d=>
    rw [zh7,zbcH,zGU,zGU];exact zXm zzP _ a b h.1 fun x hx y hy=>h3 d x y (h.2 x hx) (by omega)
  ·intro d x y h hd;rw [zIh];unfold zl8 zyI;rw [Wy.fin_bn,h4 d x y h (by omega)]
   simp only [cond_true,Wy.fin_bn,zwN];rw [zx8 _ (by simp)]
   obtain ⟨c,l⟩:=x; obtain ⟨c',l'⟩:=y;simp only [cond_true,Wy.fin_k,zvP,zzP,cmpT,cmpL];rfl
  ·intro d x y h hd;rw [zFb];unfold zkK zwl;rw [Wy.fin_bn,h5 d _ _ h (by omega)]; rfl
  ·intro d l l' h hd;rw [ziL,zbaL,zxY,zxY];exact zXm zh2 _ l l' h.1 fun x hx y hy=>h6 d x y (h.2 x hx) (by omega)
  ·intro d x y h hd;rw [zDz];unfold zjf zuG;rw [Atom.eta,Atom.eta,Wy.fin_bn,h7 d _ _ h (by omega)]
   simp only [cond_true,Wy.fin_bn,zzF];rw [zx8 _ (by simp)]
   obtain ⟨c,l⟩:=x; obtain ⟨c',l'⟩:=y;simp only [cond_true,Wy.fin_k,zvP,zh2,cmpT,cmpL];rfl
  ·intro d x y h hd;rw [zFk];unfold zkF zww;simp only [cond_true,Wy.fin_bn,zzF,zKT,h8 d x.Args y.Args h.1.1 h.2.1 (by omega),h9 d x.Items y.Items h.1.2.1 (fun w hw=>(h.2.2 w hw).2) (by omega)]
   rw [zx8 _ (by simp)]
   obtain ⟨k,r,a,f,i,o,v⟩:=x; obtain ⟨k',r',a',f',i',o',v'⟩:=y;simp only [cond_true,Wy.fin_k,zvP,zdl,cmpT,cmpL];rfl
  ·intro d a b h0 h hd;rw [zfp,zbdN,zDs,zDs];exact zXm (fun x=>TT.l (zdz x)) _ a b h0 fun x hx y hy=>by rw [h1 d x y (h x hx) (by omega)]; simp only [cmpT]
  ·intro d a b h0 h hd;rw [zgu,zbcF,zmX,zmX];exact zXm zbc _ a b h0 fun x hx y hy=>h10 d x y (h x hx) (by omega)
  ·intro d x y h hd;rw [zFr];unfold zkH zwm;simp only [cond_true,Wy.fin_bn,zKT,h1 d _ _ h (by omega)]
   rw [zx8 _ (by simp)]
   obtain ⟨c,l⟩:=x; obtain ⟨c',l'⟩:=y;simp only [cond_true,Wy.fin_k,zvP,zbc,cmpT,cmpL];rfl
theorem zPH {d:Nat} {a:yC} (h:zo d a) (hd:d≤100) (b:yC):zzB a b=(true,cmpL (zdz a) (zdz b)):=(zQP 1000).1 d a b h (by omega)
theorem zxy {d:Nat} {x:Term} (h:zcb (zo d) x.Factors) (hd:d≤99) (y:Term):zb0 x y=(true,cmpL (zbz x.Factors) (zbz y.Factors)):=(zQP 1000).2.2.2.1 d x y h (by omega)
theorem zxO {d:Nat} {x:Atom} (h:zcV (zo d) x) (hd:d≤99) (y:Atom):ziR x y=(true,cmpT (zdl x) (zdl y)):=(zQP 1000).2.2.2.2.2.2.1 d x y h (by omega)
theorem zjS {d:Nat} {x:Weighted} (h:zo d x.Ann) (hd:d≤99) (y:Weighted):zbd x y=(true,cmpT (zbc x) (zbc y)):=(zQP 1000).2.2.2.2.2.2.2.2.2 d x y h (by omega)
theorem zrM {d:Nat} {a:yC} (h:zo d a) (hd:d≤100) (b:yC):zee a b=(true,decide (a=b)):=by
 unfold zee zG8;rw [Wy.fin_bn,zPH h hd];simp only [cond_true,Wy.fin_k];congr 1;by_cases e:a=b
 ·subst e; rw [zWK]; simp
 ·have:cmpL (zdz a) (zdz b)≠0:=fun h=>e (zGA _ _ (zKo _ _ h))
  simp [e,this]
theorem zZh (s:ByteArray):∀ (n i:Nat) (r:List UInt8),s.size≤i+n→ByteArray.toList.loop s i r=r.reverse++s.data.toList.drop i
 | 0,i,r,h=>by
  rw [ByteArray.toList.loop,if_neg (by omega),List.drop_eq_nil_of_le (by rw [← Lib.size_eq]; omega),List.append_nil]
 | n+1,i,r,h=>by
  rw [ByteArray.toList.loop];by_cases hi:i<s.size
  ·have hi':i<s.data.toList.length:=by rw [← Lib.size_eq]; exact hi
   rw [if_pos hi,zZh s n (i+1) _ (by omega),List.drop_eq_getElem_cons hi',List.reverse_cons,List.append_assoc]
   congr 1
   have:s.get! i=s.data.toList[i]:=by
    have h':i<s.data.size:=hi;show s.data[i]! =s.data.toList[i];rw [getElem!_pos s.data i h']; rfl
   rw [this]; rfl
  ·rw [if_neg hi,List.drop_eq_nil_of_le (by rw [← Lib.size_eq]; omega),List.append_nil]
theorem toList_eq (s:ByteArray):s.toList=s.data.toList:=by
 rw [ByteArray.toList,zZh s s.size 0 [] (by omega)]; rfl
theorem zHl {s t:ByteArray} (h:s.data.toList=t.data.toList):s=t:=by
 cases s; cases t;congr 1;exact Array.toList_inj.1 h
theorem zbab (s t:ByteArray):(s.toList==t.toList)=decide (s.data.toList=t.data.toList):=by
 rw [toList_eq,toList_eq];cases hb:(s.data.toList==t.data.toList) with
 | true=>rw [decide_eq_true (beq_iff_eq.1 hb)]
 | false=>rw [decide_eq_false (fun h=>by rw [beq_iff_eq.2 h] at hb; cases hb)]
theorem zWL (s t:ByteArray):(s.toList==t.toList)=decide (s=t):=by
 rw [zbab];by_cases h:s=t
 ·rw [decide_eq_true h,decide_eq_true (by rw [h])]
 ·rw [decide_eq_false h,decide_eq_false fun e=>h (zHl e)]
theorem bne0 (z w:Int):(z != w)= !decide (z=w):=by by_cases h:z=w <;>simp [h]
theorem zTu:∀ a b:List UInt8,Op.bytesLess a b=decide (Lib.compareBytes a b<0)
 | [],[]=>by simp [Op.bytesLess,Lib.compareBytes]
 | _::_,[]=>by simp [Op.bytesLess,Lib.compareBytes]
 | [],_::_=>by simp [Op.bytesLess,Lib.compareBytes]
 | x::a,y::b=>by
  simp only [Op.bytesLess,Lib.compareBytes];by_cases p:x<y
  ·simp [p]
  ·by_cases q:y<x
   ·have hne:¬ x=y:=fun e=>by subst e; exact p q
    simp [p,q,hne]
   ·have he:x=y:=UInt8.toNat_inj.1 (by rw [UInt8.lt_iff_toNat_lt] at p q; omega)
    subst he;simp [p,zTu a b]
theorem zLF (a b:Value):zn9 a b=(true,cmpT (trV a) (trV b)):=by
 unfold zn9 zNo zAP zXe;rw [zWL,toList_eq,toList_eq,zTu,z9g];simp only [trV,cmpT,cmpL,cmpI];simp only [Wy.fin_i,Wy.fin_bn,Wy.fin_k,cond_true,bne0];by_cases h1:a.Kind=b.Kind
 ·by_cases h2:a.Int=b.Int
  ·by_cases h3:a.Text=b.Text
   ·simp [h1,h2,h3,zCP]
   ·have h4:cmpT (trB a.Text) (trB b.Text)≠0:=fun e=>by
     have:=zHH _ _ (TT.l.inj (ztd _ _ e));exact h3 (zHl this)
    have h5:=z7U (trB a.Text) (trB b.Text);simp only [trB,cmpT] at h4 h5;simp only [trB,cmpT];rcases h5 with h5 | h5 | h5
    ·simp [h1,h2,h3,h5]
    ·exact absurd h5 h4
    ·simp [h1,h2,h3,h5]
  ·by_cases h3:a.Int<b.Int
   ·simp [h1,h2,h3]
   ·simp [h1,h2,h3,show b.Int<a.Int by omega]
 ·by_cases h3:a.Kind<b.Kind
  ·simp [h1,h3]
  ·simp [h1,h3,show b.Kind<a.Kind by omega]
theorem znY (x y:Int):zcL x y=(true,cmpI x y):=by
 unfold zcL zQT cmpI;by_cases h1:x<y
 ·simp [h1,Wy.fin_i,Wy.fin_k]
 ·by_cases h2:y<x <;>simp [h1,h2,Wy.fin_i,Wy.fin_k]
theorem zTF (x y:RowID):zmH x y=(true,if cmpI x.Table y.Table=0 then cmpI x.Seq y.Seq else cmpI x.Table y.Table):=by
 unfold zmH zHC;simp only [znY,Wy.fin_i,Wy.fin_bn,Wy.fin_k,cond_true,bne0];by_cases h:cmpI x.Table y.Table=0
 ·simp [h]
 ·simp [h]
section
variable {α:Type} [Inhabited α]
def z6G (p q:α→α→Bool×Int) (a:List α) (b:List α) (i:Int):Wy (List α×List α×Int×Unit) (Unit) (Int⊕(List α×List α)):=.i (decide (i<Int.ofNat a.length)) (.i (decide (i<Int.ofNat b.length)) (.i (decide ((0:Int)≤i)&&decide (i<Int.ofNat a.length)) (.i (decide ((0:Int)≤i)&&decide (i<Int.ofNat b.length)) (.bn (p (a.getD i.toNat default) (b.getD i.toNat default)) fun r1=>.i (r1 != (0:Int)) (.k (.inl (r1))) (.i (decide ((0:Int)≤i)&&decide (i<Int.ofNat a.length)) (.i (decide ((0:Int)≤i)&&decide (i<Int.ofNat b.length)) (.bn (q (a.getD i.toNat default) (b.getD i.toNat default)) fun r0=>.i (r0 != (0:Int)) (.k (.inl (r0))) (.h (a,b,(IntKind.i64.wrap (i+(1:Int))),()) ())) .d) .d)) .d) .d) (.k (.inr (a,b)))) (.k (.inr (a,b)))
def zbaK (p q:α→α→Bool×Int) (x:List α×List α×Int×Unit) (y:Unit):Wy (List α×List α×Int×Unit) (Unit) (Int⊕(List α×List α)):=z6G p q x.1 x.2.1 x.2.2.1
def zbai (p q:α→α→Bool×Int) (n:Nat) (a:List α) (b:List α) (i:Int):Bool×(Int⊕(List α×List α)):=zF (zbaK p q) (.inl default) n (a,b,i,()) ()
def RG (p q:α→α→Bool×Int) (a b:List α):Bool×Int:=(.bn (zbai p q (a.length+b.length+Int.toNat (0:Int)+(1:Nat)) a b (0:Int)) fun r5=>.i (isL r5) (.k (getL r5)) (.bn (zcL (Int.ofNat (getR r5).fst.length) (Int.ofNat (getR r5).snd.length)) fun r4=>.k r4):Wy0 Int).fin default
theorem z9z (p q:α→α→Bool×Int) (c1 c2:α→α→Int) (a b:List α) (ha:a.length≤1000000) (hp:∀ x∈a,∀ y∈b,p x y=(true,c1 x y)) (hq:∀ x∈a,∀ y∈b,q x y=(true,c2 x y)):∀ (n i:Nat),a.length<i+n→i≤a.length→i≤b.length→
  ∃ r,zbai p q n a b i=(true,r)∧((r=.inl (lexG (fun x y=>if c1 x y=0 then c2 x y else c1 x y) (a.drop i) (b.drop i)))∨(r=.inr (a,b)∧lexG (fun x y=>if c1 x y=0 then c2 x y else c1 x y) (a.drop i) (b.drop i)=cmpI a.length b.length))
 | 0,i,h,h2,h3=>by omega
 | n+1,i,h,h2,h3=>by
  show ∃ r,(z6G p q a b i).ev (fun x y=>zbai p q n x.1 x.2.1 x.2.2.1) (fun r=>(true,r)) (false,.inl default)=(true,r)∧_
  unfold z6G;by_cases hi:i<a.length
  ·by_cases hi':i<b.length
   ·simp only [Wy.ev_i,Wy.ev_k,Wy.ev_h,Wy.ev_bn,Wy.ev_d,tT,hi,hi',hp _ (zt hi) _ (zt hi'),hq _ (zt hi) _ (zt hi')];rw [zbs hi,zbs hi',zQ (by omega)]
    simp only [lexG];generalize c1 (a.getD i default) (b.getD i default)=z1;generalize c2 (a.getD i default) (b.getD i default)=z2;by_cases hx:z1=0
    ·have e:(z1 != 0)=false:=by simp [hx]
     by_cases hx2:z2=0
     ·have e2:(z2 != 0)=false:=by simp [hx2]
      simp only [e,e2,cond_false,hx,hx2,if_true];exact z9z p q c1 c2 a b ha hp hq n (i+1) (by omega) (by omega) (by omega)
     ·have e2:(z2 != 0)=true:=by simp [hx2]
      simp only [e,e2,cond_false,cond_true,hx,hx2,if_true,if_false];exact ⟨_,rfl,.inl rfl⟩
    ·have e:(z1 != 0)=true:=by simp [hx]
     simp only [e,cond_true,hx,if_false];exact ⟨_,rfl,.inl rfl⟩
   ·simp only [Wy.ev_i,Wy.ev_k,Wy.ev_h,Wy.ev_bn,Wy.ev_d,tT,hi,hi'];refine ⟨_,rfl,.inr ⟨rfl, ?_⟩⟩;rw [zbs hi,zcs hi'];unfold cmpI; rw [if_neg (by omega),if_pos (by omega)]; rfl
  ·simp only [Wy.ev_i,Wy.ev_k,Wy.ev_h,Wy.ev_bn,Wy.ev_d,tT,hi];refine ⟨_,rfl,.inr ⟨rfl, ?_⟩⟩;rw [zcs hi];by_cases hi':i<b.length
   ·rw [zbs hi']; unfold cmpI; rw [if_pos (by omega)]; rfl
   ·rw [zcs hi']; unfold cmpI; rw [if_neg (by omega),if_neg (by omega)]; rfl
theorem zbfY (p q:α→α→Bool×Int) (c1 c2:α→α→Int) (a b:List α) (ha:a.length≤1000000) (hp:∀ x∈a,∀ y∈b,p x y=(true,c1 x y)) (hq:∀ x∈a,∀ y∈b,q x y=(true,c2 x y)):RG p q a b=(true,lexG (fun x y=>if c1 x y=0 then c2 x y else c1 x y) a b):=by
 unfold RG;obtain ⟨r,h1,h2⟩:=z9z p q c1 c2 a b ha hp hq (a.length+b.length+Int.toNat 0+1) 0 (by simp; omega) (by omega) (by omega)
 rw [show ((0:Nat):Int)=(0:Int) from rfl] at h1
 rw [Wy.fin_bn,h1];simp only [List.drop_zero] at h2;rcases h2 with rfl | ⟨rfl,h2⟩
 ·rfl
 ·rw [h2];simp only [Wy.fin_i,Wy.fin_k,Wy.fin_bn,znY,tT,isL,getR]
end
theorem z4b {α:Type} [Inhabited α] (e:α→TT) (p q:α→α→Bool×Int) (c1 c2:α→α→Int) (a b:List α) (ha:a.length≤1000000) (hp:∀ x∈a,∀ y∈b,p x y=(true,c1 x y)) (hq:∀ x∈a,∀ y∈b,q x y=(true,c2 x y))
  (hc:∀ x y,(if c1 x y=0 then c2 x y else c1 x y)=cmpT (e x) (e y)):RG p q a b=(true,cmpL (a.map e) (b.map e)):=by
 rw [zbfY p q c1 c2 a b ha hp hq,zNq e a b fun x _ y _=>hc x y]
theorem zbcd (g):zyN g=RG (fun x y=>g x.Factors y.Factors) (fun x y=>zcL x.Coeff y.Coeff):=rfl
theorem zbaE (g):zjB g=RG (fun x y=>g x.Atom y.Atom) (fun x y=>zcL x.Exp y.Exp):=by
 have h:zkI g=zbaK (fun x y=>g x.Atom y.Atom) (fun x y=>zcL x.Exp y.Exp):=by
  funext x y
  unfold zkI zy9 zbaK z6G;rw [Atom.eta,Atom.eta]
 funext a b
 unfold zjB zAj zzd;rw [h]; rfl
theorem zbcj (g):zpd g=RG (fun x y=>zn9 x.Value y.Value) (fun x y=>g x.Ann y.Ann):=rfl
theorem z5f (gI) (g:yC→yC→Bool×Int) (a b:Atom) (ha:a.Args.length≤1000000) (hg:∀ x∈a.Args,∀ y∈b.Args,g x y=(true,cmpL (zdz x) (zdz y))):∀ (n i:Nat),a.Args.length<i+n→i≤a.Args.length→i≤b.Args.length→
  ∃ r,zue g gI n i a b=(true,r)∧((r=.inl (lexG (fun x y=>cmpL (zdz x) (zdz y)) (a.Args.drop i) (b.Args.drop i))∧lexG (fun x y=>cmpL (zdz x) (zdz y)) (a.Args.drop i) (b.Args.drop i)≠0)∨(r=.inr (a,b)∧lexG (fun x y=>cmpL (zdz x) (zdz y)) (a.Args.drop i) (b.Args.drop i)=cmpI a.Args.length b.Args.length))
 | 0,i,h,h2,h3=>by omega
 | n+1,i,h,h2,h3=>by
  show ∃ r,(zuh g gI i a b).ev (fun x y=>zue g gI n x.2.2.1 y.1 y.2.1) (fun r=>(true,r)) (false,.inl default)=(true,r)∧_
  unfold zuh;by_cases hi:i<a.Args.length
  ·by_cases hi':i<b.Args.length
   ·simp only [Wy.ev_i,Wy.ev_k,Wy.ev_h,Wy.ev_bn,Wy.ev_d,tT,hi,hi',hg _ (zt hi) _ (zt hi')];rw [zbs hi,zbs hi',zQ (by omega)]
    simp only [lexG];generalize cmpL (zdz (a.Args.getD i default)) (zdz (b.Args.getD i default))=z1;by_cases hx:z1=0
    ·have e:(z1 != 0)=false:=by simp [hx]
     simp only [e,cond_false,hx,if_true];exact z5f gI g a b ha hg n (i+1) (by omega) (by omega) (by omega)
    ·have e:(z1 != 0)=true:=by simp [hx]
     simp only [e,cond_true,hx,if_false];exact ⟨_,rfl,.inl ⟨rfl,hx⟩⟩
   ·simp only [Wy.ev_i,Wy.ev_k,Wy.ev_h,Wy.ev_bn,Wy.ev_d,tT,hi,hi'];refine ⟨_,rfl,.inr ⟨rfl, ?_⟩⟩;rw [zbs hi,zcs hi'];unfold cmpI; rw [if_neg (by omega),if_pos (by omega)]; rfl
  ·simp only [Wy.ev_i,Wy.ev_k,Wy.ev_h,Wy.ev_bn,Wy.ev_d,tT,hi];refine ⟨_,rfl,.inr ⟨rfl, ?_⟩⟩;rw [zcs hi];by_cases hi':i<b.Args.length
   ·rw [zbs hi']; unfold cmpI; rw [if_pos (by omega)]; rfl
   ·rw [zcs hi']; unfold cmpI; rw [if_neg (by omega),if_neg (by omega)]; rfl
theorem zbdY (gI) (g:yC→yC→Bool×Int) (x y:Atom) (ha:x.Args.length≤1000000) (hg:∀ a∈x.Args,∀ b∈y.Args,g a b=(true,cmpL (zdz a) (zdz b)))
  (hI:gI x.Items y.Items=(true,cmpL (zht x.Items) (zht y.Items))):zmv g gI x y=(true,cmpT (zdl x) (zdl y)):=by
 unfold zmv zC4;rw [Atom.eta,Atom.eta];obtain ⟨r,h1,h2⟩:=z5f gI g x y ha hg (Int.toNat 0+x.Args.length+x.Items.length+y.Args.length+y.Items.length+1) 0 (by omega) (by omega) (by omega)
 rw [show ((0:Nat):Int)=(0:Int) from rfl] at h1
 simp only [List.drop_zero] at h2;rw [zNq (fun a=>TT.l (zdz a)) x.Args y.Args (fun a _ b _=>by simp only [cmpT]), ← zDs, ← zDs] at h2
 simp only [znY,zTF,Wy.fin_bn,Wy.fin_i,Wy.fin_k,cond_true,h1];obtain ⟨k,r0,a,f,i,o,v⟩:=x; obtain ⟨k',r',a',f',i',o',v'⟩:=y;simp only [zdl,cmpT,cmpL,bne0] at *;by_cases e1:cmpI k k'=0
 rotate_left
 ·simp [e1]
 by_cases e2:cmpI r0.Table r'.Table=0
 rotate_left
 ·simp [e1,e2]
 by_cases e3:cmpI r0.Seq r'.Seq=0
 rotate_left
 ·simp [e1,e2,e3]
 rcases h2 with ⟨rfl,h2⟩ | ⟨rfl,h2⟩
 ·simp [e1,e2,e3,h2,isL,getL]
 simp only [e1,e2,e3,h2,isL,getR,tT,hI,if_true];by_cases e4:cmpI (a.length:Int) (a'.length:Int)=0
 rotate_left
 ·simp [e4]
 by_cases e5:cmpI f f'=0
 rotate_left
 ·simp [e4,e5]
 by_cases e6:cmpL (zht i) (zht i')=0
 rotate_left
 ·simp [e4,e5,e6]
 by_cases e7:cmpI o o'=0
 rotate_left
 ·simp [e4,e5,e6,e7]
 simp [e4,e5,e6,e7,zLF]
theorem zMh:∀ n,
  (∀ d a b,zo d a→10*d≤n→zn2 n a b=(true,cmpL (zdz a) (zdz b)))∧
  (∀ d l l',zcb (zo d) l→10*d+10≤n+1→zjO n l l'=(true,cmpL (zbz l) (zbz l')))∧
  (∀ d x y,zcV (zo d) x→10*d+10≤n+2→zmm n x y=(true,cmpT (zdl x) (zdl y)))∧
  (∀ d a b,a.length≤1000000→(∀ x∈a,zo d x.Ann)→10*d+10≤n+3→zlz n a b=(true,cmpL (zht a) (zht b)))
 | 0=>by
  refine ⟨?_, ?_, ?_, ?_⟩
  ·intro d a b h hd; have:d=0:=by omega
   subst this; exact h.elim
  all_goals (intros; omega)
 | n+1=>by
  obtain ⟨h1,h2,h3,h4⟩:=zMh n;refine ⟨?_, ?_, ?_, ?_⟩
  ·intro d a b h hd;cases d with
   | zero=>exact h.elim
   | succ d=>
    rw [zW5,zbcd,zGU,zGU]
    exact z4b zzP _ _ (fun x y=>cmpL (zbz x.Factors) (zbz y.Factors)) (fun x y=>cmpI x.Coeff y.Coeff) a b h.1 (fun x hx y hy=>h2 d _ _ (h.2 x hx) (by omega)) (fun x _ y _=>znY _ _) fun x y=>by
     obtain ⟨c,l⟩:=x; obtain ⟨c',l'⟩:=y;simp only [zzP,cmpT,cmpL];by_cases e:cmpI c c'=0 <;>simp [e]
  ·intro d l l' h hd;rw [zKn,zbaE,zxY,zxY]
   exact z4b zh2 _ _ (fun x y=>cmpT (zdl x.Atom) (zdl y.Atom)) (fun x y=>cmpI x.Exp y.Exp) l l' h.1 (fun x hx y hy=>h3 d _ _ (h.2 x hx) (by omega)) (fun x _ y _=>znY _ _) fun x y=>by
    obtain ⟨c,l⟩:=x; obtain ⟨c',l'⟩:=y;simp only [zh2,cmpT,cmpL];by_cases e:cmpI l l'=0 <;>simp [e]
  ·intro d x y h hd;rw [zOC];exact zbdY _ _ x y h.1.1 (fun a ha b _=>h1 d a b (h.2.1 a ha) (by omega)) (h4 d _ _ h.1.2.1 (fun w hw=>(h.2.2 w hw).2) (by omega))
  ·intro d a b h0 h hd;rw [zMx,zbcj,zmX,zmX]
   exact z4b zbc _ _ (fun x y=>cmpT (trV x.Value) (trV y.Value)) (fun x y=>cmpL (zdz x.Ann) (zdz y.Ann)) a b h0 (fun x _ y _=>zLF _ _) (fun x hx y _=>h1 d _ _ (h x hx) (by omega)) fun x y=>by
    obtain ⟨c,l⟩:=x; obtain ⟨c',l'⟩:=y;simp only [zbc,cmpT,cmpL];by_cases e:cmpL (zdz l) (zdz l')=0 <;>simp [e]
theorem z0B {d:Nat} {a:yC} (h:zo d a) (hd:d≤100) (b:yC):zIx a b=(true,cmpL (zdz a) (zdz b)):=(zMh 1000).1 d a b h (by omega)
theorem zss {d:Nat} {l:yD} (h:zcb (zo d) l) (hd:d≤99) (l':yD):zkY l l'=(true,cmpL (zbz l) (zbz l')):=(zMh 1000).2.1 d l l' h (by omega)
theorem zpk {d:Nat} {x:Atom} (h:zcV (zo d) x) (hd:d≤99) (y:Atom):zjc x y=(true,cmpT (zdl x) (zdl y)):=(zMh 1000).2.2.1 d x y h (by omega)
theorem zC3 {d:Nat} {a:yE} (h0:a.length≤1000000) (h:∀ x∈a,zo d x.Ann) (hd:d≤99) (b:yE):zty a b=(true,cmpL (zht a) (zht b)):=(zMh 1000).2.2.2 d a b h0 h (by omega)
theorem zTj {d:Nat} {a:yC} (h:zo d a) (hd:d≤100) (b:yC):ztg a b=(true,decide (a=b)):=by
 unfold ztg zU0;rw [Wy.fin_bn,z0B h hd];simp only [cond_true,Wy.fin_k];congr 1;by_cases e:a=b
 ·subst e; rw [zWK]; simp
 ·have:cmpL (zdz a) (zdz b)≠0:=fun h=>e (zGA _ _ (zKo _ _ h))
  simp [e,this]
def allN (c:Nat→Bool):Nat→Nat→Bool
 | 0,_=>true
 | n+1,i=>c i&&allN c n (i+1)
theorem zeu {c:Nat→Bool}:∀ {n i},allN c n i=true↔∀ k,i≤k→k<i+n→c k=true
 | 0,i=>⟨fun _ k h1 h2=>by omega,fun _=>rfl⟩
 | n+1,i=>by
  simp only [allN,qc,zeu (n:=n)];constructor
  ·rintro ⟨h1,h2⟩ k h3 h4
   by_cases e:k=i
   ·rw [e]; exact h1
   ·exact h2 k (by omega) (by omega)
  ·intro h;exact ⟨h i (by omega) (by omega),fun k h1 h2=>h k (by omega) (by omega)⟩
theorem z6M (c c':Nat→Bool):∀ n i,allN (fun k=>c k&&c' k) n i=(allN c n i&&allN c' n i)
 | 0,_=>rfl
 | n+1,i=>by
  simp only [allN,z6M c c' n (i+1)];cases c i <;>cases c' i <;>simp
theorem z7W {τ:Type} [Inhabited τ] (p:τ→Bool) (l:List τ):∀ n i,i+n=l.length→allN (fun k=>p (l.getD k default)) n i=(l.drop i).all p
 | 0,i,h=>by rw [zcs (by omega)]; rfl
 | n+1,i,h=>by
  rw [zbs (by omega),List.all_cons]
  simp only [allN,z7W p l n (i+1) (by omega)]
theorem zz0 {τ:Type} [Inhabited τ] (p:τ→Bool) (l:List τ):allN (fun k=>p (l.getD k default)) l.length 0=l.all p:=by
 rw [z7W p l _ _ (by omega),List.drop_zero]
section
variable {α β ρ:Type}
theorem z7G {W:α→β→Wy α β ρ} {z:ρ} (N:Nat) (ex:Nat→α) (ey:Nat→β) (c:Nat→Bool) (no yes:ρ)
  (h:∀ i,i<N→∀ (H:α→β→Bool×ρ) K D,(W (ex i) (ey i)).ev H K D=bif c i then H (ex (i+1)) (ey (i+1)) else K no)
  (he:∀ (H:α→β→Bool×ρ) K D,(W (ex N) (ey N)).ev H K D=K yes):
  ∀ n i,N<i+n→i≤N→zF W z n (ex i) (ey i)=(true,bif allN c (N - i) i then yes else no)
 | 0,i,h1,h2=>by omega
 | n+1,i,h1,h2=>by
  show (W (ex i) (ey i)).ev (zF W z n) (fun r=>(true,r)) (false,z)=_
  by_cases hi:i<N
  ·rw [h i hi,show N - i=(N - (i+1))+1 by omega]
   simp only [allN];cases c i with
   | false=>rfl
   | true=>rw [cond_true,z7G N ex ey c no yes h he n (i+1) (by omega) (by omega)]; rfl
  ·have:i=N:=by omega
   subst this;rw [he,Nat.sub_self]; rfl
theorem zeh {W:α→β→Wy α β ρ} {z:ρ} (N:Nat) (ex:Nat→α) (ey:Nat→β) (c:Nat→Bool) (no yes:ρ)
  (h:∀ i,i<N→∀ (H:α→β→Bool×ρ) K D,(W (ex i) (ey i)).ev H K D=bif c i then H (ex (i+1)) (ey (i+1)) else K no)
  (he:∀ (H:α→β→Bool×ρ) K D,(W (ex N) (ey N)).ev H K D=K yes) (n:Nat) (hn:N<n):zF W z n (ex 0) (ey 0)=(true,bif allN c N 0 then yes else no):=by
 have:=z7G (z:=z) N ex ey c no yes h he n 0 (by omega) (by omega)
 simpa using this
end
def ixf {α:Type} (p:α→Bool):List α→Nat→Int
 | [],_=> -1
 | x::r,i=>bif p x then (i:Int) else ixf p r (i+1)
theorem z9X {α:Type} (p:α→Bool):∀ (l:List α) (i:Nat),decide (ixf p l i≥(0:Int))=l.any p
 | [],i=>by simp [ixf]
 | x::r,i=>by
  rw [List.any_cons];cases h:p x with
  | true=>simp [ixf,h]
  | false=>simpa [ixf,h] using z9X p r (i+1)
section
variable {α γ:Type} [Inhabited α]
def zXC (p:γ→α→Bool×Bool) (s:List α) (g:γ) (t7:Int) (t8:Int):Wy (List α×γ×Int×Int×Unit) (Unit) (Int⊕Unit):=.i (decide (t8<t7)) (.i (decide ((0:Int)≤t8)&&decide (t8<Int.ofNat s.length)) (.bn (p g (s.getD t8.toNat default)) fun r0=>.i (r0) (.k (.inl t8)) (.h (s,g,t7,(IntKind.i64.wrap (t8+(1:Int))),()) ())) .d) (.k (.inr ()))
def zSr (p:γ→α→Bool×Bool) (x:List α×γ×Int×Int×Unit) (y:Unit):Wy (List α×γ×Int×Int×Unit) (Unit) (Int⊕Unit):=zXC p x.1 x.2.1 x.2.2.1 x.2.2.2.1
def zbaT (p:γ→α→Bool×Bool) (n:Nat) (s:List α) (g:γ) (t7:Int) (t8:Int):Bool×(Int⊕Unit):=zF (zSr p) (.inl default) n (s,g,t7,t8,()) ()
def IG (p:γ→α→Bool×Bool) (n:Nat) (g:γ) (s:List α):Bool×Int:=(.bn (zbaT p n s g (Int.ofNat s.length) (0:Int)) fun r2=>.i (isL r2) (.k (getL r2)) (.k (-1:Int)):Wy0 Int).fin default
def zbaN (p:γ→α→Bool×Bool) (s:List α) (g:γ) (t7:Int) (t8:Int):Wy (List α×γ×Int×Int×Unit) (Unit) (Int⊕Unit):=.i (decide (t8<t7)) (.i (decide ((0:Int)≤t8)&&decide (t8<Int.ofNat s.length)) (.i ((p g (s.getD t8.toNat default)).snd) (.k (.inl t8)) (.h (s,g,t7,(IntKind.i64.wrap (t8+(1:Int))),()) ())) .d) (.k (.inr ()))
def zbfQ (p:γ→α→Bool×Bool) (x:List α×γ×Int×Int×Unit) (y:Unit):Wy (List α×γ×Int×Int×Unit) (Unit) (Int⊕Unit):=zbaN p x.1 x.2.1 x.2.2.1 x.2.2.2.1
def zbav (p:γ→α→Bool×Bool) (n:Nat) (s:List α) (g:γ) (t7:Int) (t8:Int):Bool×(Int⊕Unit):=zF (zbfQ p) (.inl default) n (s,g,t7,t8,()) ()
def IH (p:γ→α→Bool×Bool) (n:Nat) (g:γ) (s:List α):Bool×Int:=(.bn (zbav p n s g (Int.ofNat s.length) (0:Int)) fun r2=>.i (isL r2) (.k (getL r2)) (.k (-1:Int)):Wy0 Int).fin default
theorem z9t (p:γ→α→Bool×Bool) (P:α→Bool) (g:γ) (s:List α) (hs:s.length≤1000000000) (hp:∀ x∈s,p g x=(true,P x)):∀ (n i:Nat),s.length<i+n→i≤s.length→
  ∃ r,zbaT p n s g s.length i=(true,r)∧((r=.inl (ixf P (s.drop i) i))∨(r=.inr ()∧ixf P (s.drop i) i= -1))
 | 0,i,h,h2=>by omega
 | n+1,i,h,h2=>by
  show ∃ r,(zXC p s g s.length i).ev (fun x y=>zbaT p n x.1 x.2.1 x.2.2.1 x.2.2.2.1) (fun r=>(true,r)) (false,.inl default)=(true,r)∧_
  unfold zXC;by_cases hi:i<s.length
  ·simp only [Wy.ev_i,Wy.ev_k,Wy.ev_h,Wy.ev_bn,Wy.ev_d,tT,hi,hp _ (zt hi)];rw [zbs hi,zQ (by omega)]
   simp only [ixf];cases P (s.getD i default) with
   | true=>exact ⟨_,rfl,.inl rfl⟩
   | false=>exact z9t p P g s hs hp n (i+1) (by omega) (by omega)
  ·simp only [Wy.ev_i,Wy.ev_k,Wy.ev_h,Wy.ev_bn,Wy.ev_d,tT,hi,zcs hi];exact ⟨_,rfl,.inr ⟨rfl,rfl⟩⟩
theorem zDT (p:γ→α→Bool×Bool) (P:α→Bool) (n:Nat) (g:γ) (s:List α) (hs:s.length≤1000000000) (hp:∀ x∈s,p g x=(true,P x)) (hn:s.length<n):IG p n g s=(true,ixf P s 0):=by
 unfold IG;obtain ⟨r,h1,h2⟩:=z9t p P g s hs hp n 0 (by omega) (by omega)
 rw [show ((0:Nat):Int)=(0:Int) from rfl] at h1
 rw [Wy.fin_bn,show Int.ofNat s.length=(s.length:Int) from rfl,h1]
 rw [List.drop_zero] at h2;rcases h2 with rfl | ⟨rfl,h2⟩
 ·rfl
 ·rw [h2]; rfl
theorem z9d (p:γ→α→Bool×Bool) (P:α→Bool) (g:γ) (s:List α) (hs:s.length≤1000000000) (hp:∀ x∈s,p g x=(true,P x)):∀ (n i:Nat),s.length<i+n→i≤s.length→
  ∃ r,zbav p n s g s.length i=(true,r)∧((r=.inl (ixf P (s.drop i) i))∨(r=.inr ()∧ixf P (s.drop i) i= -1))
 | 0,i,h,h2=>by omega
 | n+1,i,h,h2=>by
  show ∃ r,(zbaN p s g s.length i).ev (fun x y=>zbav p n x.1 x.2.1 x.2.2.1 x.2.2.2.1) (fun r=>(true,r)) (false,.inl default)=(true,r)∧_
  unfold zbaN;by_cases hi:i<s.length
  ·simp only [Wy.ev_i,Wy.ev_k,Wy.ev_h,Wy.ev_bn,Wy.ev_d,tT,hi,hp _ (zt hi)];rw [zbs hi,zQ (by omega)]
   simp only [ixf];cases P (s.getD i default) with
   | true=>exact ⟨_,rfl,.inl rfl⟩
   | false=>exact z9d p P g s hs hp n (i+1) (by omega) (by omega)
  ·simp only [Wy.ev_i,Wy.ev_k,Wy.ev_h,Wy.ev_bn,Wy.ev_d,tT,hi,zcs hi];exact ⟨_,rfl,.inr ⟨rfl,rfl⟩⟩
theorem zbdu (p:γ→α→Bool×Bool) (P:α→Bool) (n:Nat) (g:γ) (s:List α) (hs:s.length≤1000000000) (hp:∀ x∈s,p g x=(true,P x)) (hn:s.length<n):IH p n g s=(true,ixf P s 0):=by
 unfold IH;obtain ⟨r,h1,h2⟩:=z9d p P g s hs hp n 0 (by omega) (by omega)
 rw [show ((0:Nat):Int)=(0:Int) from rfl] at h1
 rw [Wy.fin_bn,show Int.ofNat s.length=(s.length:Int) from rfl,h1]
 rw [List.drop_zero] at h2;rcases h2 with rfl | ⟨rfl,h2⟩
 ·rfl
 ·rw [h2]; rfl
theorem zh3 {α:Type} {s:List α} {P:α→Bool} {q:Bool×Int} (h:q=(true,ixf P s 0)):((.bn q fun r0=>.k (decide (r0≥(0:Int))):Wy0 Bool).fin default)=(true,s.any P):=by
 rw [h,Wy.fin_bn,cond_true,Wy.fin_k,z9X]
end
theorem beqd (a b:Int):(a==b)=decide (a=b):=by by_cases h:a=b <;>simp [h]
theorem beqn (a b:Nat):(a==b)=decide (a=b):=by by_cases h:a=b <;>simp [h]
theorem i0 (l:Nat):((l:Int)==0)=(l==0):=by
 rw [beqd,beqn]; congr 1; simp
def hasC (a:yC):Bool:=a.any fun t=>t.Factors.length==0
theorem zQ9 (a:yC) (h:a.length≤1000000000):ze3 a=(true,hasC a):=by
 unfold ze3 zzQ zdt zhB;have:zdY a=IH (fun (_:Unit) x=>zg8 x) (a.length+(Int.ofNat a.length).toNat +Int.toNat (0:Int)+(1:Nat)) () a:=rfl
 rw [zh3 (P:=fun t:Term=>t.Factors.length==0) (this.trans (zbdu _ _ _ _ _ h (fun x _=>by
  unfold zg8 zwr;rw [Wy.fin_k];congr 1;exact i0 x.Factors.length) (by omega)))]
 rfl
theorem zBm (a:yC) (h:a.length≤1000000000):ziD a=(true,hasC a):=by
 unfold ziD zKN zIV
 have:=zeh (W:=zBk) (z:=.inl default) a.length (fun i=>(a,(i:Int),())) (fun _=>()) (fun i=> !((a.getD i default).Factors.length==0)) (.inl true) (.inr ())
  (fun i hi H K D=>by
   show (zoH a i).ev H K D=_;unfold zoH;simp only [Wy.ev_i,Wy.ev_k,Wy.ev_h,Wy.ev_bn,Wy.ev_d,tT,hi,i0];rw [zQ (by omega)]
   cases (a.getD i default).Factors.length==0 <;>rfl)
  (fun H K D=>by
   show (zoH a a.length).ev H K D=_;unfold zoH;simp only [Wy.ev_i,Wy.ev_k,tT,Nat.lt_irrefl]) (a.length+Int.toNat (0:Int)+(1:Nat)) (by omega)
 rw [show ((0:Nat):Int)=(0:Int) from rfl] at this
 rw [Wy.fin_bn,this,zz0 (fun t:Term=> !(t.Factors.length==0)) a]
 have e:(a.all fun t:Term=> !(t.Factors.length==0))= !hasC a:=by simp [hasC,List.all_eq_not_any_not]
 rw [e];cases hasC a <;>rfl
def isC:yC→Bool
 | [t]=>t.Factors.length==0
 | _=>false
theorem zTo (a:yC):zhj a=(true,isC a):=by
 unfold zhj zA4
 match a with
 | []=>rfl
 | [t]=>exact congrArg (Prod.mk true) (i0 t.Factors.length)
 | t::u::r=>
  have:((Int.ofNat (t::u::r).length)==(1:Int))=false:=by simp; omega
  rw [Wy.fin_i,this]; rfl
def oneF (p:Factor→Bool):yD→Bool
 | [f]=>p f
 | _=>false
def isU:yC→Bool
 | [t]=>t.Coeff==1&&oneF (fun f=>f.Exp==1&&(f.Atom.Kind==2||f.Atom.Kind==3||f.Atom.Kind==4)) t.Factors
 | _=>false
theorem z3R (x:Atom):zfz x=(true,x.Kind==3||x.Kind==4):=by
 unfold zfz zA1;rw [Wy.fin_i,Wy.fin_k,Wy.fin_k];cases x.Kind==3 <;>rfl
theorem len2 {τ:Type} (x y:τ) (r:List τ):((Int.ofNat (x::y::r).length)==(1:Int))=false:=by
 rw [beq_eq_false_iff_ne]; simp; omega
theorem z42 (a:yC):zlJ a=(true,isU a):=by
 unfold zlJ zEV
 match a with
 | []=>rfl
 | ⟨c,[]⟩::[]=>
  show (bif c != 1 then (true,false) else (true,false))=(true,c==1&&false)
  cases c != 1 <;>simp
 | ⟨c,[f]⟩::[]=>
  simp only [Wy.fin_i,Wy.fin_k,tT,isU,List.length_singleton,z3R,Wy.fin_bn,Wy.fin_d];show (bif c != 1 then (true,false) else bif f.Exp==1 then bif f.Atom.Kind==2 then (true,true) else (true,f.Atom.Kind==3||f.Atom.Kind==4) else (true,false))=(true,c==1&&(f.Exp==1&&(f.Atom.Kind==2||f.Atom.Kind==3||f.Atom.Kind==4)))
  rw [show (c != 1)= !(c==1) from rfl]
  cases c==1 <;>cases f.Exp==1 <;>cases f.Atom.Kind==2 <;>simp
 | ⟨c,f::g::r⟩::[]=>
  simp only [Wy.fin_i,bne,len2];show (bif !(c==1) then (true,false) else (true,false))=(true,c==1&&false)
  cases c==1 <;>rfl
 | t::u::r=>rw [Wy.fin_i,bne,len2]; rfl
def isB:yC→Bool
 | [t]=>t.Coeff==1&&oneF (fun f=>f.Exp==1&&decide (2≤f.Atom.Kind)) t.Factors
 | _=>false
theorem zNT (a:yC):zqx a=(true,isB a):=by
 unfold zqx zPM
 match a with
 | []=>rfl
 | ⟨c,[]⟩::[]=>
  show (bif c==1 then (true,false) else (true,false))=(true,c==1&&false)
  cases c==1 <;>rfl
 | ⟨c,[f]⟩::[]=>
  simp only [Wy.fin_i,Wy.fin_k,tT,List.length_singleton,Wy.fin_bn,Wy.fin_d];show (bif c==1 then bif decide (2≤f.Atom.Kind) then (true,f.Exp==1) else (true,false) else (true,false))=(true,c==1&&(f.Exp==1&&decide (2≤f.Atom.Kind)))
  cases c==1 <;>cases f.Exp==1 <;>cases decide (2≤f.Atom.Kind) <;>simp
 | ⟨c,f::g::r⟩::[]=>
  rw [Wy.fin_i];show (bif true then (Wy.i true (Wy.i (c==1) (Wy.i true (Wy.i (Int.ofNat (f::g::r).length==1) _ (.k false)) .d) (.k false)) .d:Wy0 Bool).fin default else _)=(true,c==1&&false)
  simp only [Wy.fin_i,Wy.fin_k,len2,cond_true,cond_false];cases c==1 <;>rfl
 | t::u::r=>rw [Wy.fin_i,len2]; rfl
theorem zPV (a b:Nat):decide (a>b)= !decide (a≤b):=by
 by_cases h:a≤b
 ·have:¬ a>b:=by omega
  simp [h,this]
 ·have:a>b:=by omega
  simp [h,this]
def withF (t:Term):Bool:= !(decide (t.Factors.length>64)||t.Factors.any fun f=>decide (f.Exp>64)||decide (f.Atom.Items.length>1024))
def zeW (a:yC):Bool:=decide (a.length≤512)&&decide (zbn a≤8)&&decide (zM a≤4096)&&a.all withF
theorem zbao (l:yD) (h:l.length≤1000000):zcq l=(true,l.any fun f=>decide (f.Exp>64)||decide (f.Atom.Items.length>1024)):=by
 unfold zcq zif
 have hw:zdF=zSr (fun (_:Unit) x=>zf1 x):=by
  funext x y
  unfold zdF zjh zSr zXC;rw [Factor.eta2]
 have:zcM l=IG (fun (_:Unit) x=>zf1 x) (l.length+(Int.ofNat l.length).toNat +Int.toNat (0:Int)+(1:Nat)) () l:=by
  unfold zcM zjG zjp;rw [hw]; rfl
 exact zh3 (this.trans (zDT _ _ _ _ _ (by omega) (fun x _=>by
  unfold zf1 zzb;rw [Wy.fin_i,Wy.fin_k,Wy.fin_k];have e:decide (Int.ofNat x.Atom.Items.length>(1024:Int))=decide (x.Atom.Items.length>1024):=zqF _ 1024;rw [e];cases decide (x.Exp>64) <;>rfl) (by omega)))
theorem z5p {d:Nat} {a:yC} (h:zo d a) (hd:d≤100) (hs:zM a≤4611686018427387904):zlI a=(true,zeW a):=by
 obtain ⟨h1,h2⟩:a.length≤1000000∧∀ t∈a,t.Factors.length≤1000000:=by
  cases d with
  | zero=>exact h.elim
  | succ d=>exact ⟨h.1,fun t ht=>(h.2 t ht).1⟩
 have h3:zci a=(true,a.any fun t=> !withF t):=by
  unfold zci zh1;have:zd0 a=IG (fun (_:Unit) x=>zlG x) (a.length+(Int.ofNat a.length).toNat +Int.toNat (0:Int)+(1:Nat)) () a:=rfl
  exact zh3 (this.trans (zDT _ _ _ _ _ (by omega) (fun x hx=>by
   unfold zlG zBW;rw [Wy.fin_i,Wy.fin_k,Wy.fin_bn,zbao _ (h2 x hx)];have e:decide (Int.ofNat x.Factors.length>(64:Int))=decide (x.Factors.length>64):=zqF _ 64;rw [e];unfold withF;cases decide (x.Factors.length>64) <;>simp [Wy.fin_k]) (by omega)))
 unfold zlI zE8;have n1:zzN a=(true,(zbn a:Int)):=(z4d 1000 d a h (by omega) hd).1
 have n2:zEb a=(true,(zM a:Int)):=(zZX 1000 d a h (by omega) hs).1
 simp only [Wy.fin_i,Wy.fin_k,Wy.fin_bn,n1,n2,h3,cond_true];have e1:decide (Int.ofNat a.length>(512:Int))= !decide (a.length≤512):=by rw [show decide (Int.ofNat a.length>(512:Int))=decide (a.length>512) from zqF _ 512]; exact zPV _ _
 have e2:decide ((zbn a:Int)>(8:Int))= !decide (zbn a≤8):=by rw [show decide ((zbn a:Int)>(8:Int))=decide (zbn a>8) from zqF _ 8]; exact zPV _ _
 have e3:decide ((zM a:Int)>(4096:Int))= !decide (zM a≤4096):=by rw [show decide ((zM a:Int)>(4096:Int))=decide (zM a>4096) from zqF _ 4096]; exact zPV _ _
 have e4:(a.any fun t=> !withF t)= !a.all withF:=by simp [List.all_eq_not_any_not]
 rw [e1,e2,e3,e4];unfold zeW;cases decide (a.length≤512) <;>cases decide (zbn a≤8) <;>cases decide (zM a≤4096) <;>simp
theorem zbeW (a:yC) (i:Nat) (hi:i<a.length) (hl:(a.getD i default).Factors.length≤1000000) (fuel:Nat) (hf:(a.getD i default).Factors.length<fuel):
  zTn fuel a i 0=(true,bif (a.getD i default).Factors.any fun f=>decide (f.Exp>64)||decide (f.Atom.Items.length>1024) then .inl false else .inr (a,(i:Int))):=by
 have:=zeh (W:=zIN) (z:=.inl default) (a.getD i default).Factors.length (fun k=>(a,(i:Int),(k:Int),())) (fun _=>()) (fun k=>(fun f:Factor=> !(decide (f.Exp>64)||decide (f.Atom.Items.length>1024))) ((a.getD i default).Factors.getD k default)) (.inl false) (.inr (a,(i:Int)))
  (fun k hk H K D=>by
   show (zx2 a i k).ev H K D=_;unfold zx2;simp only [Wy.ev_i,Wy.ev_k,Wy.ev_h,Wy.ev_bn,Wy.ev_d,tT,hi,hk];rw [zQ (by omega),show decide ((((a.getD i default).Factors.getD k default).Atom.Items.length:Int)>(1024:Int))=_ from zqF _ 1024]
   cases decide (((a.getD i default).Factors.getD k default).Exp>64) <;>cases decide (1024<((a.getD i default).Factors.getD k default).Atom.Items.length) <;>rfl)
  (fun H K D=>by
   show (zx2 a i (a.getD i default).Factors.length).ev H K D=_;unfold zx2;simp only [Wy.ev_i,Wy.ev_k,Wy.ev_h,Wy.ev_bn,Wy.ev_d,tT,hi,Nat.lt_irrefl]) fuel hf
 rw [zz0 (fun f:Factor=> !(decide (f.Exp>64)||decide (f.Atom.Items.length>1024)))] at this
 have e:((a.getD i default).Factors.all fun f=> !(decide (f.Exp>64)||decide (f.Atom.Items.length>1024)))= !((a.getD i default).Factors.any fun f=>decide (f.Exp>64)||decide (f.Atom.Items.length>1024)):=by simp [List.all_eq_not_any_not]
 rw [e] at this;refine this.trans ?_;cases (a.getD i default).Factors.any fun f=>decide (f.Exp>64)||decide (f.Atom.Items.length>1024) <;>rfl
theorem z9H {d:Nat} {a:yC} (h:zo d a) (hd:d≤100) (hs:zM a≤4611686018427387904):zAN a=(true,zeW a):=by
 obtain ⟨h1,h2⟩:a.length≤1000000∧∀ t∈a,t.Factors.length≤1000000:=by
  cases d with
  | zero=>exact h.elim
  | succ d=>exact ⟨h.1,fun t ht=>(h.2 t ht).1⟩
 have h3:zTg ((a.length+Int.toNat (0:Int)+(1:Nat))+szTs a) a 0=(true,bif a.all withF then .inr () else .inl false):=by
  have:=zeh (W:=zIB) (z:=.inl default) a.length (fun k=>(a,(k:Int),())) (fun _=>()) (fun k=>withF (a.getD k default)) (.inl false) (.inr ())
   (fun k hk H K D=>by
    show (zxB a k).ev H K D=_;unfold zxB;have h4:=h2 _ (zt hk);have h5:=zLn a k hk;simp only [Wy.ev_i,Wy.ev_k,Wy.ev_h,Wy.ev_bn,Wy.ev_d,tT,hk];rw [zbeW a k hk h4 _ (by omega)]
    have e:decide (((a.getD k default).Factors.length:Int)>(64:Int))=decide ((a.getD k default).Factors.length>64):=zqF _ 64;rw [e];unfold withF;cases decide ((a.getD k default).Factors.length>64) <;>cases ((a.getD k default).Factors.any fun f=>decide (f.Exp>64)||decide (f.Atom.Items.length>1024))
    ·simp only [cond_false,cond_true,isL,getR]; rw [zQ (by omega)]; rfl
    all_goals rfl)
   (fun H K D=>by
    show (zxB a a.length).ev H K D=_;unfold zxB;simp only [Wy.ev_i,Wy.ev_k,Wy.ev_h,Wy.ev_bn,Wy.ev_d,tT,Nat.lt_irrefl]) ((a.length+Int.toNat (0:Int)+(1:Nat))+szTs a) (by omega)
  rw [zz0] at this;exact this
 unfold zAN zWQ;have n1:zHY a=(true,(zbn a:Int)):=(z4d 1000 d a h (by omega) hd).2
 have n2:zRe a=(true,(zM a:Int)):=(zZX 1000 d a h (by omega) hs).2
 simp only [Wy.fin_i,Wy.fin_k,Wy.fin_bn,n1,n2,h3,cond_true];have e1:decide (Int.ofNat a.length>(512:Int))= !decide (a.length≤512):=by rw [show decide (Int.ofNat a.length>(512:Int))=decide (a.length>512) from zqF _ 512]; exact zPV _ _
 have e2:decide ((zbn a:Int)>(8:Int))= !decide (zbn a≤8):=by rw [show decide ((zbn a:Int)>(8:Int))=decide (zbn a>8) from zqF _ 8]; exact zPV _ _
 have e3:decide ((zM a:Int)>(4096:Int))= !decide (zM a≤4096):=by rw [show decide ((zM a:Int)>(4096:Int))=decide (zM a>4096) from zqF _ 4096]; exact zPV _ _
 rw [e1,e2,e3];unfold zeW;cases decide (a.length≤512) <;>cases decide (zbn a≤8) <;>cases decide (zM a≤4096) <;>cases a.all withF <;>simp [isL,getL]
def valV (v:Value):Bool:=(v.Kind==0&&v.Text.size==0)||(v.Kind==1&&v.Int==0&&decide (v.Text.size≤255))||(v.Kind==2&&v.Text.size==0&&(v.Int==0||v.Int==1))
theorem z6S (s:ByteArray):(s.toList==(ByteArray.mk #[]).toList)=(s.size==0):=by
 rw [zWL];by_cases h:s.size=0
 ·have:s=ByteArray.mk #[]:=zHl (by
   have:s.data.toList.length=0:=by simpa using h
   rw [List.length_eq_zero_iff.1 this])
  subst this; rfl
 ·have:¬ s=ByteArray.mk #[]:=fun e=>h (by rw [e]; rfl)
  simp [h,this]
theorem zFt (v:Value):zua v=(true,valV v):=by
 unfold zua zTf valV;simp only [z6S,Wy.fin_i,Wy.fin_k,beqd,beqn];have e:decide (Int.ofNat v.Text.size≤(255:Int))=decide (v.Text.size≤255):=zBZ _ 255;rw [e];by_cases h0:v.Kind=0
 ·simp [h0]
 ·by_cases h1:v.Kind=1
  ·by_cases h2:v.Int=0 <;>simp [h1,h2]
  ·by_cases h2:v.Kind=2
   ·by_cases h3:v.Int=0
    ·simp [h2,h3]
    ·by_cases h4:v.Int=1 <;>simp [h2,h3,h4]
   ·simp [h0,h1,h2]
theorem zPE (v:Value):zyg v=(true,valV v):=by
 unfold zyg zTi valV;simp only [z6S,Wy.fin_i,Wy.fin_k,beqd,beqn];have e:decide (Int.ofNat v.Text.size≤(255:Int))=decide (v.Text.size≤255):=zBZ _ 255;rw [e];by_cases h0:v.Kind=0
 ·simp [h0]
 ·by_cases h1:v.Kind=1
  ·by_cases h2:v.Int=0 <;>simp [h1,h2]
  ·by_cases h2:v.Kind=2
   ·by_cases h3:v.Int=0
    ·by_cases h4:v.Text.size=0 <;>simp [h2,h3,h4]
    ·by_cases h4:v.Text.size=0 <;>simp [h2,h3,h4]
   ·simp [h0,h1,h2]
def fitI (fn:Int) (b:Value) (w:Weighted):Bool:=valV w.Value&&(w.Value.Kind==b.Kind)&& !(fn==0&&w.Value.Int != 1)
def fitK (fn:Int) (l:yE) (op:Int) (b:Value):Bool:=decide (0≤fn)&&decide (fn≤3)&&decide (5≤op)&&decide (op≤10)&&valV b&& !(decide (fn≤1)&&b.Kind != 0)&&l.all (fitI fn b)
theorem zbcU (l:yE) (fn:Int) (b:Value) (h:l.length≤1000000):zby l b fn=(true, !l.all (fitI fn b)):=by
 unfold zby zgC;have:zds l b fn=IG (fun (g:Value×(Int×Unit)×Unit) x=>zhh x g.1 g.2.1.1) (l.length+fn.toNat +(Int.ofNat l.length).toNat +Int.toNat (0:Int)+(1:Nat)) (b,(fn,()),()) l:=rfl
 have e:(!l.all (fitI fn b))=l.any fun w=> !fitI fn b w:=by simp [List.all_eq_not_any_not]
 rw [e]
 exact zh3 (this.trans (zDT _ _ _ _ _ (by omega) (fun x _=>by
  show zhh x b fn=_;unfold zhh zAZ fitI;simp only [Wy.fin_i,Wy.fin_k,Wy.fin_bn,zFt,cond_true,beqd,bne0];cases valV x.Value <;>by_cases h1:x.Value.Kind=b.Kind <;>by_cases h2:fn=0 <;>simp [beqd,bne0,h1,h2]) (by omega)))
theorem z1E (fn:Int) (l:yE) (op:Int) (b:Value) (h:l.length≤1000000):zkf fn l op b=(true,fitK fn l op b):=by
 unfold zkf zD7 fitK;simp only [Wy.fin_i,Wy.fin_k,Wy.fin_bn,zFt,zbcU l fn b h,cond_true,beqd,bne0];by_cases h1:fn<0
 ·have:¬ (0≤fn):=by omega
  simp [h1,this]
 by_cases h2:3<fn
 ·have:¬ (fn≤3):=by omega
  simp [h1,h2,this]
 by_cases h3:op<5
 ·have:¬ (5≤op):=by omega
  simp [h1,h2,h3,this]
 by_cases h4:10<op
 ·have:¬ (op≤10):=by omega
  simp [h1,h2,h3,h4,this]
 have g1:0≤fn:=by omega
 have g2:fn≤3:=by omega
 have g3:5≤op:=by omega
 have g4:op≤10:=by omega
 cases valV b with
 | false=>simp [h1,h2,h3,h4]
 | true=>
  by_cases h5:fn=0
  ·subst h5; by_cases h6:b.Kind=0 <;>simp [h3,h4,h6,g3,g4]
  ·by_cases h7:fn=1
   ·subst h7; by_cases h6:b.Kind=0 <;>simp [h3,h4,h6,g3,g4]
   ·have:¬ fn≤1:=by omega
    simp [h1,h2,h3,h4,h5,h7,this,g1,g2,g3,g4]
theorem z7k (fn:Int) (l:yE) (op:Int) (b:Value) (h:l.length≤1000000):zyf fn l op b=(true,fitK fn l op b):=by
 unfold zyf zTw fitK
 have hl:zFf (fn.toNat +l.length+Int.toNat (0:Int)+(1:Nat)) fn l (0:Int) b=(true,bif l.all (fitI fn b) then .inr () else .inl false):=by
  have:=zeh (W:=zFB) (z:=.inl default) l.length (fun k=>(fn,l,(),(k:Int),())) (fun _=>(b,())) (fun k=>fitI fn b (l.getD k default)) (.inl false) (.inr ())
   (fun k hk H K D=>by
    show (zu3 fn l k b).ev H K D=_;unfold zu3 fitI;simp only [Wy.ev_i,Wy.ev_k,Wy.ev_h,Wy.ev_bn,Wy.ev_d,tT,hk,zPE,beqd,bne0];rw [zQ (by omega)]
    cases valV (l.getD k default).Value <;>cases decide ((l.getD k default).Value.Kind=b.Kind) <;>cases decide (fn=0) <;>cases decide ((l.getD k default).Value.Int=1) <;>rfl)
   (fun H K D=>by
    show (zu3 fn l l.length b).ev H K D=_;unfold zu3;simp only [Wy.ev_i,Wy.ev_k,Wy.ev_h,Wy.ev_bn,Wy.ev_d,tT,Nat.lt_irrefl]) (fn.toNat +l.length+Int.toNat (0:Int)+(1:Nat)) (by omega)
  rw [zz0] at this;exact this
 simp only [Wy.fin_i,Wy.fin_k,Wy.fin_bn,zPE,hl,cond_true,beqd,bne0];by_cases h1:fn<0
 ·have:¬ (0≤fn):=by omega
  simp [h1,this]
 by_cases h2:3<fn
 ·have:¬ (fn≤3):=by omega
  simp [h1,h2,this]
 by_cases h3:op<5
 ·have:¬ (5≤op):=by omega
  simp [h1,h2,h3,this]
 by_cases h4:10<op
 ·have:¬ (op≤10):=by omega
  simp [h1,h2,h3,h4,this]
 have g1:0≤fn:=by omega
 have g2:fn≤3:=by omega
 have g3:5≤op:=by omega
 have g4:op≤10:=by omega
 cases valV b with
 | false=>simp [h1,h2,h3,h4]
 | true=>
  by_cases h5:fn≤1
  ·by_cases h6:b.Kind=0
   ·cases l.all (fitI fn b) <;>simp [h1,h2,h3,h4,h5,h6,g1,g2,g3,g4,isL,getL]
   ·simp [h1,h2,h3,h4,h5,h6,g1,g2,g3,g4]
  ·cases l.all (fitI fn b) <;>simp [h1,h2,h3,h4,h5,g1,g2,g3,g4,isL,getL]
def bz (b:Value):Bool:=b.Kind==(0:Int)&&(b.Int==(0:Int)&&(b.Text.toList==(ByteArray.mk #[]).toList&&true))
def plA (x:Atom):Bool:=x.Func==0&&(x.Items.length==0)&&x.Op==0&&bz x.Bound
theorem zbde (x:Atom):zpT x=(true,plA x):=by
 unfold zpT zTq plA;simp only [Wy.fin_i,Wy.fin_k,Int.ofNat_eq_natCast,i0];show _=(true,_&&_&&_&&bz x.Bound);rw [show (x.Bound.Kind==(0:Int)&&(x.Bound.Int==(0:Int)&&(x.Bound.Text.toList==(ByteArray.mk #[]).toList&&true)))=bz x.Bound from rfl]
 cases x.Func==0 <;>cases x.Items.length==0 <;>cases x.Op==0 <;>rfl
def srtI (l:yE) (k:Nat):Bool:=decide (k=0)||decide (cmpT (zbc (l.getD (k - 1) default)) (zbc (l.getD k default))≤0)
def srtW (l:yE):Bool:=allN (srtI l) l.length 0
theorem z5a (c:Nat→Bool):∀ n i,allN c (n+1) i=(allN c n i&&c (i+n))
 | 0,i=>by simp [allN]
 | n+1,i=>by
  rw [allN,z5a c n (i+1),allN,show i+1+n=i+(n+1) by omega,Bool.and_assoc]
theorem zTm {d:Nat} (l:yE) (hl:l.length≤1000000) (h:∀ w∈l,zo d w.Ann) (hd:d≤99):∀ (n i:Nat),i<l.length→i<n→zeA n l i=(true,bif allN (srtI l) (i+1) 0 then .inr () else .inl false)
 | 0,i,hi,hn=>by omega
 | n+1,i,hi,hn=>by
  show (zez l i).ev (fun x y=>zeA n x.1 x.2.2.1) (fun r=>(true,r)) (false,.inl default)=_
  unfold zez;have hg:decide ((i:Int)>(0:Int))=decide (0<i):=zqF i 0;cases i with
  | zero=>simp [Wy.ev_i,Wy.ev_k,allN,srtI]
  | succ i=>
   have hi':i<l.length:=by omega
   have hw:IntKind.i64.wrap (((i+1:Nat):Int) - 1)=(i:Int):=by rw [zzG (by omega) (by omega)]; rfl
   have hp:decide (0<i+1)=true:=by simp
   simp only [Wy.ev_i,Wy.ev_k,Wy.ev_h,Wy.ev_bn,Wy.ev_d,hg,hp,hw,tT,hi,hi',zjS (h _ (zt hi)) hd];rw [zTm l hl h hd n i hi' (by omega),z5a _ (i+1),Nat.zero_add]
   have:srtI l (i+1)= !decide (cmpT (zbc (l.getD (i+1) default)) (zbc (l.getD i default))<0):=by
    unfold srtI;rw [show i+1 - 1=i from rfl,zgG (zbc (l.getD (i+1) default)) (zbc (l.getD i default))]
    generalize cmpT (zbc (l.getD (i+1) default)) (zbc (l.getD i default))=z;by_cases hz:z<0
    ·have:¬ (-z≤0):=by omega
     simp [hz,this]
    ·have:(-z≤0):=by omega
     simp [hz,this]
   rw [this];cases decide (cmpT (zbc (l.getD (i+1) default)) (zbc (l.getD i default))<0) <;>simp
theorem z8K {d:Nat} (l:yE) (hl:l.length≤1000000) (h:∀ w∈l,zo d w.Ann) (hd:d≤99):zcj l=(true,srtW l):=by
 unfold zcj zh0 srtW
 match l,hl,h with
 | [],_,_=>rfl
 | x::r,hl,h=>
  have hw:IntKind.i64.wrap (Int.ofNat (x::r).length - 1)=(r.length:Int):=by
   rw [qf] at hl;rw [show Int.ofNat (x::r).length=(((x::r).length:Nat):Int) from rfl,zzG (by simp) (by simp; omega)]; rfl
  rw [Wy.fin_bn,hw,zTm (x::r) hl h hd _ r.length (by simp) (by simp; omega)]
  cases allN (srtI (x::r)) (r.length+1) 0 with
  | true=>simp [Wy.fin_i,Wy.fin_k,isL]
  | false=>simp [Wy.fin_i,Wy.fin_k,isL,getL]
end Go.Proofs.YtljlfiomikifjaaGreatDoor
end
