/- Texts of this claim, joined (the program, its functions in plain words, and what they compute). -/
import Derived.Test.YtoknknbmfmddbaaGreatDoorGC11
set_option autoImplicit false
set_option linter.unusedVariables false
set_option linter.unusedSectionVars false
set_option linter.unusedSimpArgs false
set_option maxRecDepth 1000000
set_option maxHeartbeats 0
/- Division of terms, antichains, absorptive normal forms: no program in sight. -/
noncomputable section
namespace Go.Proofs.YtoknknbmfmddbaaGreatDoor
open Go Go.Ab
def dvF (a b:yC):Bool:=a.all λf=>b.any λg=>decide (f.Exp<=g.Exp)&&decide (f.At=g.At)
theorem zbbA {a b:yC}:dvF a b=true↔∀ f∈a,∃ g∈b,f.Exp<=g.Exp/\f.At=g.At:=by
 unfold dvF;simp only [List.all_eq_true,List.any_eq_true,qc,qe]
theorem z9W (a:yC):dvF a a=true:=zbbA.2 λf hf=>⟨f,hf,Int.le_refl _,rfl⟩
theorem z7n {α:Type} (e:α->TT) (he:∀ a b,e a=e b->a=b):Ord3 λa b=>z8 (e a) (e b) where
 eq x y:=⟨λh=>he _ _ (zsQ _ _ h),λh=>by subst h; exact zBN _⟩
 swap x y:=by rw [zgm (e x) (e y)]; omega
 trans x y z h1 h2:=by
  have h3:z8 (e x) (e z)<=0:=ztB _ _ _ (Int.le_of_lt h1) (Int.le_of_lt h2);by_cases h4:z8 (e x) (e z)=0
  ·have h5:=zsQ _ _ h4;rw [h5,zgm (e y) (e z)] at h1;omega
  ·omega
abbrev z9V (l:yC):Prop:=l.Pairwise λf g=>z8 (zd4 f.At) (zd4 g.At)<0
theorem z9V.uniq {l:yC} (h:z9V l):∀ f∈l,∀ g∈l,f.At=g.At->f=g:=by
 induction l with
 | nil=>intro f hf; cases hf
 | cons x r ih=>
  have h:=qi.1 h
  have ne:∀ g∈r,x.At≠g.At:=λg hg e=>by
   have:=h.1 g hg;rw [e,zBN] at this; omega
  intro f hf g hg e;rcases qd.1 hf with e1 | hf1
  ·rcases qd.1 hg with e2 | hg1
   ·rw [e1,e2]
   ·rw [e1] at e; exact absurd e (ne g hg1)
  ·rcases qd.1 hg with e2 | hg1
   ·rw [e2] at e; exact absurd e.symm (ne f hf1)
   ·exact ih h.2 f hf1 g hg1 e
def cL (a b:yC):Int:=z8 (.l (zbo a)) (.l (zbo b))
theorem zbek:Ord3 cL:=z7n (λa=>.l (zbo a)) λa b h=>zBc _ _ (TT.l.inj h)
structure Canon (a:yB):Prop where
 asc:a.Pairwise λt u=>cL t.Fs u.Fs<0
 fac:∀ t∈a,z9V t.Fs
theorem Canon.tail {t:Term} {a:yB} (h:Canon (t::a)):Canon a:=⟨(qi.1 h.asc).2,λx hx=>h.fac x (by simp [hx])⟩
theorem Canon.uniq {a:yB} (h:Canon a):∀ t∈a,∀ u∈a,t.Fs=u.Fs->t=u:=by
 have hp:=h.asc;clear h;induction a with
 | nil=>intro t ht; cases ht
 | cons x r ih=>
  have hp:=qi.1 hp
  have ne:∀ g∈r,x.Fs≠g.Fs:=λg hg e=>by
   have:=hp.1 g hg;rw [e,zbek.refl] at this; omega
  intro f hf g hg e;rcases qd.1 hf with e1 | hf1
  ·rcases qd.1 hg with e2 | hg1
   ·rw [e1,e2]
   ·rw [e1] at e; exact absurd e (ne g hg1)
  ·rcases qd.1 hg with e2 | hg1
   ·rw [e2] at e; exact absurd e.symm (ne f hf1)
   ·exact ih hp.2 f hf1 g hg1 e
def leS (a b:yB):Bool:=a.all λt=>b.any λu=>dvF u.Fs t.Fs
theorem z52 {a b:yB}:leS a b=true↔∀ t∈a,∃ u∈b,dvF u.Fs t.Fs=true:=by
 unfold leS;simp only [List.all_eq_true,List.any_eq_true]
theorem z9U (a:yB):leS a a=true:=z52.2 λt ht=>⟨t,ht,z9W _⟩
def z2D (a b s:yB):Prop:=∀ l:yC,(∃ t∈s,t.Fs=l)↔(∃ t∈a,t.Fs=l)\/∃ t∈b,t.Fs=l
theorem z2D.le {a b s c:yB} (h:z2D a b s):leS s c=true↔leS a c=true/\leS b c=true:=by
 simp only [z52];constructor
 ·intro hs;refine ⟨λt ht=> ?_,λt ht=> ?_⟩
  ·obtain ⟨t',ht',e⟩:=(h t.Fs).2 (.inl ⟨t,ht,rfl⟩);rw [<- e]; exact hs t' ht'
  ·obtain ⟨t',ht',e⟩:=(h t.Fs).2 (.inr ⟨t,ht,rfl⟩);rw [<- e]; exact hs t' ht'
 ·rintro ⟨h1,h2⟩ t ht
  rcases (h t.Fs).1 ⟨t,ht,rfl⟩ with ⟨u,hu,e⟩ | ⟨u,hu,e⟩
  ·rw [<- e]; exact h1 u hu
  ·rw [<- e]; exact h2 u hu
theorem z2D.ge {a b s:yB} (h:z2D a b s):leS a s=true/\leS b s=true:=(h.le (c:=s)).1 (z9U s)
theorem zbd0 (a b:yC):cL a b=zbA (zbo a) (zbo b):=by unfold cL; rw [z8]
theorem PA.canon {a:yB} (h:PA a):Canon a:=⟨h.1.imp λ{x y} hxy=>by rw [zbd0]; exact hxy,λt ht=>(h.2 t ht).2.1⟩
theorem zbbZ {t:Term} {l:yB} (h:Srs l) (L:yC):(∃ y∈zhy t l,y.Fs=L)↔(∃ x∈l,x.Fs=L)\/t.Fs=L:=by
 constructor
 ·rintro ⟨y,hy,rfl⟩
  rcases (zzz h).1 hy with ⟨h1,_⟩ | ⟨h1,_⟩
  ·exact .inl ⟨y,h1,rfl⟩
  ·exact .inr h1.symm
 ·intro hh;by_cases e:t.Fs=L
  ·subst e;by_cases hx:∃ x∈l,x.Fs=t.Fs
   ·obtain ⟨x,hx,e⟩:=hx;exact ⟨⟨ztE x.Cf t.Cf,t.Fs⟩,(zzz h).2 (.inr ⟨rfl,.inl ⟨x,hx,e,rfl⟩⟩),rfl⟩
   ·exact ⟨t,(zzz h).2 (.inr ⟨rfl,.inr ⟨λx hx' e=>hx ⟨x,hx',e⟩,rfl⟩⟩),rfl⟩
  ·rcases hh with ⟨x,hx,rfl⟩ | hh
   ·exact ⟨x,(zzz h).2 (.inl ⟨hx,λe'=>e e'.symm⟩),rfl⟩
   ·exact absurd hh e
theorem zZ4:∀ (b a:yB),Srs a->∀ L,(∃ y∈zcJ a b,y.Fs=L)↔(∃ x∈a,x.Fs=L)\/∃ x∈b,x.Fs=L
 | [],a,h,L=>by
  show (∃ y∈a,y.Fs=L)↔_;simp
 | t::r,a,h,L=>by
  show (∃ y∈zcJ (zhy t a) r,y.Fs=L)↔_;rw [zZ4 r _ (zzk h) L,zbbZ h];simp only [qd,exists_eq_or_imp];constructor
  ·rintro ((h1 | h1) | h1)
   ·exact .inl h1
   ·exact .inr (.inl h1)
   ·exact .inr (.inr h1)
  ·rintro (h1 | h1 | h1)
   ·exact .inl (.inl h1)
   ·exact .inl (.inr h1)
   ·exact .inr h1
def GP {α:Type} (P:α->Prop):Int⊕α->Prop
 | .inl _=>True
 | .inr a=>P a
theorem zDx {α β:Type} {P:α->Prop} {Q:β->Prop} {x:Int⊕α} {k:α->Int⊕β} (hx:GP P x) (hk:∀ a,P a->GP Q (k a)):GP Q (sbd x k):=by
 cases x with
 | inl e=>exact trivial
 | inr a=>exact hk a hx
theorem zVj {P:yB->Prop} {r:yB×Int} (h:P r.1):GP P (opS r):=by
 unfold opS;split
 ·exact h
 ·exact trivial
theorem zAO {a:yB}:zbH a↔∀ t∈a,∀ f∈t.Fs,zy7 f.At:=by
 rw [zFl];exact ⟨λh t ht=>zwF.1 (h t ht),λh t ht=>zwF.2 (h t ht)⟩
theorem zy1:zbH []:=zFl.2 λt ht=>by cases ht
theorem zQm (c:Int):zbH [⟨c,[]⟩]:=zAO.2 λt ht f hf=>by
 rw [qh] at ht; subst ht; cases hf
theorem zVe {x:At} (h:zy7 x):zbH (zcW x):=zAO.2 λt ht f hf=>by
 simp only [zcW,qh] at ht; subst ht;rw [qh] at hf; subst hf; exact h
theorem zNy {a:yB} (h:zbH a):zbH (zmu a).1:=by
 unfold zmu;cases zfx a with
 | true=>exact h
 | false=>exact zy1
theorem zY8 {ok:Bool} {r:yB×Int} (h:ok=true->zbH r.1):zbH (opR ok r).1:=by
 cases ok with
 | true=>exact h rfl
 | false=>exact zy1
theorem z8B {a b:yB} (hs:Srs a) (ha:zbH a) (hb:zbH b):zbH (zcJ a b):=zAO.2 λt ht f hf=>by
 obtain ⟨x,hx,e⟩:=zIU b a hs ht;rw [e] at hf;rcases hx with hx | hx
 ·exact zAO.1 ha x hx f hf
 ·exact zAO.1 hb x hx f hf
theorem zbaV {a b:yB} (ha:zbH a) (hb:zbH b):zbH (zuo a b):=zAO.2 λt ht f hf=>by
 obtain ⟨x,hx,e⟩:=zIU (zgj a b) [] List.Pairwise.nil ht;rw [e] at hf;rcases hx with hx | hx
 ·cases hx
 ·obtain ⟨u,hu,v,hv,rfl⟩:=z0Y hx;obtain ⟨y,hy,e⟩:=ztP hf;rw [e];rcases hy with hy | hy
  ·exact zAO.1 ha u hu y hy
  ·exact zAO.1 hb v hv y hy
theorem zbc6 {a b:yB} (ha:zbH a) (hb:zbH b):zbH (zi9 a b).1:=zY8 λhv=>by
 rw [qc] at hv;exact zNy (z8B (zoV hv.1).1 ha hb)
theorem zbda {a b:yB} (ha:zbH a) (hb:zbH b):zbH (zKH a b).1:=zY8 λ_=>zNy (zbaV ha hb)
theorem zXv {k:Int} {l:yA} (h:∀ a∈l,zbH a):zy7 ⟨k,⟨0,0⟩,l,0,[],0,⟨0,0,ByteArray.mk #[]⟩⟩:=(zDt _).2 ⟨by simp,zzN.2 h,zw9.2 λw hw=>by cases hw⟩
theorem zbc9 {a b:yB} (ha:zbH a) (hb:zbH b):zbH (zQj a b).1:=zY8 λ_=>by
 split
 ·exact ha
 ·split
  ·exact zy1
  ·refine zNy (zVe (zXv λx hx=> ?_))
   simp only [qd,List.not_mem_nil,or_false] at hx;rcases hx with rfl | rfl
   ·exact ha
   ·exact hb
theorem zbde {a:yB} (ha:zbH a):zbH (zQt a).1:=zY8 λ_=>by
 split
 ·exact ha
 ·split
  ·exact zQm 1
  ·refine zNy (zVe (zXv λx hx=> ?_))
   rw [qh] at hx; subst hx; exact ha
theorem zbcg {a:yB} (ha:zbH a):zbH (zQb a).1:=zY8 λ_=>by
 split
 ·exact zQm 1
 ·split
  ·exact zy1
  ·refine zNy (zVe (zXv λx hx=> ?_))
   rw [qh] at hx; subst hx; exact ha
theorem zbbV {f o:Int} {l:yD} {b:Value} (hl:l.length<20) (h:∀ w∈l,zbH w.Ann):zbH (zxX f l o b).1:=by
 unfold zxX;cases (!(zAj f l o b&&l.all λw=>zR w.Ann)) with
 | true=>exact zy1
 | false=>
  cases decide (0<(zd9 l).length) with
  | true=>
   refine zNy (zVe ((zDt _).2 ⟨?_,zzN.2 λa ha=>(by cases ha),zw9.2 λw hw=>h w (zH9 hw).1⟩))
   have h1:(zd9 l).length=(l.filter zmG).length:=(zp2 _ _).length_eq;have h2:=List.length_filter_le zmG l;show (zd9 l).length<20;omega
  | false=>
   cases (f==0&&zMX o (zen 0 b.Int)) with
   | true=>exact zQm 1
   | false=>exact zy1
theorem z8z {b:yB} (hb:zbH b):∀ (n:Nat) (p:yB),zbH p->GP zbH (zBC b n p)
 | 0,p,hp=>hp
 | n+1,p,hp=>zDx (zVj (zbda hp hb)) λq hq=>z8z hb n q hq
theorem zbcr (n:Int):zbH (zBr n):=by
 unfold zBr;split
 ·exact zy1
 ·exact zQm _
theorem z5e {l:yA} (h:∀ a∈l,zbH a) (i:Nat):zbH (l.getD i default):=by
 by_cases hi:i<l.length
 ·exact h _ (zl hi)
 ·rw [List.getD_eq_getElem?_getD,List.getElem?_eq_none (by omega)]; exact zy1
section
variable {to:RowID->yB} (ht:∀ r,zbH (to r))
include ht
mutual
theorem z6s:∀ x:At,zy7 x->GP zbH (ziD to x)
 | ⟨k,r,a,f,i,o,b⟩=>λh=>by
  obtain ⟨h1,h2,h3⟩:=(zDt _).1 h;rw [ziD];split
  ·exact ht r
  ·refine zDx (zZs a (zzN.1 h2)) λxs hxs=> ?_
   have g0:=z5e hxs 0;have g1:=z5e hxs 1;split
   ·exact zVj (zbc9 g0 g1)
   ·split
    ·exact zVj (zbde g0)
    ·split
     ·exact zVj (zbcg g0)
     ·refine zDx (zWC i (zw9.1 h3)) λis his=>zVj (zbbV ?_ his.2)
      rw [his.1]; exact h1
theorem zRE:∀ l:yC,(∀ f∈l,zy7 f.At)->∀ p,zbH p->GP zbH (zeR to l p)
 | [],_,p,hp=>by rw [zeR]; exact hp
 | ⟨x,e⟩::r,h,p,hp=>by
  rw [zeR];exact zDx (z6s x (h ⟨x,e⟩ (by simp))) λb hb=>zDx (z8z hb _ p hp) λq hq=>zRE r (λf hf=>h f (by simp [hf])) q hq
theorem zT4:∀ a:yB,(∀ t∈a,∀ f∈t.Fs,zy7 f.At)->∀ s,zbH s->GP zbH (zdL to a s)
 | [],_,s,hs=>by rw [zdL]; exact hs
 | ⟨c,fs⟩::r,h,s,hs=>by
  rw [zdL];exact zDx (zRE fs (h ⟨c,fs⟩ (by simp)) _ (zbcr c)) λp hp=>zDx (zVj (zbc6 hs hp)) λq hq=>zT4 r (λt ht=>h t (by simp [ht])) q hq
theorem zZs:∀ l:yA,(∀ a∈l,zbH a)->GP (λr:yA=>∀ a∈r,zbH a) (zlC to l)
 | [],_=>by rw [zlC]; exact λa ha=>by cases ha
 | a::r,h=>by
  rw [zlC];refine zDx (zT4 a (zAO.1 (h a (by simp))) [] zy1) λb hb=>zDx (zZs r λc hc=>h c (by simp [hc])) λl hl=> ?_
  intro x hx;rcases qd.1 hx with rfl | hx
  ·exact hb
  ·exact hl x hx
theorem zWC:∀ l:yD,(∀ w∈l,zbH w.Ann)->GP (λr:yD=>r.length=l.length/\∀ w∈r,zbH w.Ann) (zhZ to l)
 | [],_=>by rw [zhZ]; exact ⟨rfl,λa ha=>by cases ha⟩
 | ⟨v,a⟩::r,h=>by
  rw [zhZ];refine zDx (zT4 a (zAO.1 (h ⟨v,a⟩ (by simp))) [] zy1) λb hb=>zDx (zWC r λc hc=>h c (by simp [hc])) λl hl=> ?_
  refine ⟨by simp [hl.1],λx hx=> ?_⟩
  rcases qd.1 hx with rfl | hx
  ·exact hb
  ·exact hl.2 x hx
end
end
section
variable {σ:At->yB}
end
end Go.Proofs.YtoknknbmfmddbaaGreatDoor
/- Relations: the normal form, by the program. -/
set_option maxRecDepth 100000
namespace Go.Proofs.YtoknknbmfmddbaaGreatDoor
open Go Go.Ab
def zhx (x:Row):Bool:= !(x.Ann.length==0)
theorem z1D {α:Type} [Inhabited α] (P:α->Bool):∀ (l:List α) (i:Nat),(∃ j:Nat,ixf P l i=((i+j:Nat):Int)/\j<l.length/\P (l.getD j default)=true/\∀ x∈l.take j,P x=false)\/(ixf P l i= -1/\∀ x∈l,P x=false)
 | [],i=>.inr ⟨rfl,λx h=>by cases h⟩
 | y::l,i=>by
  rw [ixf];cases e:P y with
  | true=>exact .inl ⟨0,rfl,by simp,e,λx h=>by cases h⟩
  | false=>
   rw [cond_false];rcases z1D P l (i+1) with ⟨j,h1,h2,h3,h4⟩ | ⟨h1,h2⟩
   ·refine .inl ⟨j+1,by rw [h1]; congr 1; omega,by simp; omega,h3,λx hx=> ?_⟩
    rw [List.take_succ_cons] at hx;rcases qd.1 hx with rfl | hx
    ·exact e
    ·exact h4 x hx
   ·refine .inr ⟨h1,λx hx=> ?_⟩
    rcases qd.1 hx with rfl | hx
    ·exact e
    ·exact h2 x hx
theorem z7J (x:Row):(zh2 x).2= !zhx x:=by
 unfold zhx; rw [Bool.not_not];exact ztf _ 0
theorem zTA:∀ (n i j:Nat) (s:yF),s.length<=1000000->s.length<j+n->j<=s.length->i<=j->
  ∃ (i':Nat) (s':yF),zhW n i j s=(true,((i':Int),s'))/\s'.length=s.length/\i'<=s.length/\s'.take i'=s.take i++(s.drop j).filter zhx
 | 0,i,j,s,hs,h,h2,h3=>by omega
 | n+1,i,j,s,hs,h,h2,h3=>by
  show ∃ (i':Nat) (s':yF),(zhX i j s).ev (λx y=>zhW n x.2.2.1 x.2.2.2.1 y.1) (λr=>(true,r)) (false,default)=_/\_
  unfold zhX;by_cases hj:j<s.length
  ·have hi:i<s.length:=by omega
   simp only [Wy.ev_i,Wy.ev_k,Wy.ev_h,Wy.ev_bn,Wy.ev_d,tT,hj,hi,z7J];rw [zbl hj];cases hx:zhx (s.getD j default) with
   | false=>
    simp only [List.filter_cons,hx,Bool.not_false,Bool.not_true,cond_false,Bool.false_eq_true,if_false];rw [zB (by omega)]
    exact zTA n i (j+1) s hs (by omega) (by omega) (by omega)
   | true=>
    simp only [List.filter_cons,hx,Bool.not_false,Bool.not_true,cond_true,if_true];rw [zB (by omega),zB (by omega)]
    obtain ⟨i',s',h4,h5,h6,h7⟩:=zTA n (i+1) (j+1) (s.set i (s.getD j default)) (by simpa using hs) (by simp; omega) (by simp; omega) (by omega)
    refine ⟨i',s',h4,by simpa using h5,by simpa using h6, ?_⟩
    rw [h7,z1O _ hi,z4M _ (by omega)]
    simp
  ·simp only [Wy.ev_i,Wy.ev_k,Wy.ev_h,Wy.ev_bn,Wy.ev_d,tT,hj];exact ⟨i,s,rfl,rfl,by omega,by rw [zdc hj]; simp⟩
theorem z61 (s:yF) (hs:s.length<=1000000):zel s=(true,s.filter zhx):=by
 unfold zel znh
 have hix:zdT s=(true,ixf (λx=> !zhx x) s 0):=by
  have:zdT s=IH (λ(_:Unit) x=>(true,(zh2 x).2)) (s.length+(Int.ofNat s.length).toNat +Int.toNat (0:Int)+(1000:Nat)) () s:=rfl
  exact this.trans (z6k _ _ _ _ _ (by omega) (λx _=>by rw [z7J]) (by omega))
 rw [Wy.fin_bn,hix,cond_true];rcases z1D (λx=> !zhx x) s 0 with ⟨j,h1,h2,h3,h4⟩ | ⟨h1,h2⟩
 ·rw [h1,Nat.zero_add];have e:((j:Int)== -1)=false:=by simp
  rw [Wy.fin_i,e,cond_false,Wy.fin_bn,zB (by omega)]
  obtain ⟨i',s',h5,h6,h7,h8⟩:=zTA ((j:Int).toNat +((j+1:Nat):Int).toNat +s.length+(1000:Nat)) j (j+1) s hs (by simp; omega) (by omega) (by omega)
  rw [h5];have h7':i'<=s'.length:=by omega
  have e2:i'+(s'.length - i')<=s'.length:=by omega
  have e3:i'<=(List.take i' s'++List.replicate (s'.length - i') (Row.mk [] [])++List.drop (i'+(s'.length - i')) s').length:=by simp; omega
  simp only [Wy.fin_i,Wy.fin_k,Int.ofNat_eq_natCast,Int.toNat_natCast,ze4,zuS,h7',e2,e3,Nat.le_refl,decide_true,Bool.and_self,cond_true,Int.le_refl,Int.toNat_zero,Nat.sub_zero];rw [z7c _ h7',h8];congr 1;have h3':zhx (s.getD j default)=false:=by simpa using h3
  conv=>rhs; rw [<- List.take_append_drop j s,List.filter_append,zbl h2,List.filter_cons]
  simp only [h3',Bool.false_eq_true,if_false];congr 1;refine (List.filter_eq_self.2 λx hx=> ?_).symm
  have:=h4 x hx
  simpa using this
 ·rw [h1];rw [Wy.fin_i,show ((-1:Int)== -1)=true from rfl,cond_true,Wy.fin_k]
  congr 1;exact (List.filter_eq_self.2 λx hx=>by simpa using h2 x hx).symm
def cR (x y:Row):Int:=zxN x.Values y.Values
def zcy (x y:Row):Option Row:=if (zi9 x.Ann y.Ann).2=0 then some ⟨x.Values,(zi9 x.Ann y.Ann).1⟩ else none
def zg6 (x:Row):Prop:=x.Values.length<=1000000/\okA x.Ann/\zR x.Ann=true
theorem z6y:MO cR zcy zg6 where
 anti:=λx y _ _=>by unfold cR; have:=zm5 x.Values y.Values; omega
 trans:=λx y z _ _ _ h1 h2=>zM1 h1 h2
 key:=λx y z hx hy e=>by
  unfold zcy at e;split at e
  ·rename_i h0;rw [qa] at e;subst e;obtain ⟨⟨_,_,v3⟩,e3⟩:=z7z h0;refine ⟨⟨hx.1,(zZL hx.2.1 hy.2.1).1,by show zR (zi9 x.Ann y.Ann).1=true; rw [e3]; exact v3⟩,λw _=>⟨rfl,rfl⟩⟩
  ·cases e
theorem zba5 {x y:Row} (hx:zg6 x) (hy:zg6 y) (h:¬ (zi9 x.Ann y.Ann).2=0):(zi9 x.Ann y.Ann).2=6:=by
 unfold zi9 opR zmu at *;rw [hx.2.2,hy.2.2] at h ⊢;simp only [Bool.and_self,cond_true] at h ⊢;cases hw:zfx (zcJ x.Ann y.Ann) with
 | true=>rw [hw] at h; exact absurd rfl h
 | false=>rfl
theorem zT0 {x:Row} (hx:zg6 x) (hs:zbH x.Ann):zoc x x.Ann=(true,x):=by
 unfold zoc zHU zgc;rw [Wy.fin_bn,zZZ hx.2.1 (λ_=>hs) ⟨by simp,λb hb=>by cases hb⟩,cond_true,Wy.fin_bn,decide_eq_true (zEn (by have:=hx.1; omega) (by omega)),cond_true,Wy.fin_k]
 unfold z9t opR;rw [hx.2.2];show (true,Row.mk x.Values (ofS (zdL (toA []) x.Ann [])).1)=_;rw [show toA []=zvL from rfl,zbcZ hx.2.2]; rfl
theorem z5g (cols:yH) (S:yF) (hS:S.length<=1000) (hV:∀ x∈S,zg6 x/\zbH x.Ann):∀ (n i:Nat) (o:yF),S.length<i+n->i<=S.length->o.length<=i->(∀ w∈o,zg6 w)->
  zAR n S.length i S cols o=(true,match (S.drop i).foldl (zPN cR zcy) (some o) with | none=>.inl 6 | some M=>.inr (cols,M))
 | 0,i,o,h1,h2,h3,h4=>by omega
 | n+1,i,o,h1,h2,h3,h4=>by
  show (ztL S.length i S cols o).ev (zA ztN (.inl default) n) (λr=>(true,r)) (false,.inl default)=_
  unfold ztL;by_cases hi:i<S.length
  ·obtain ⟨hx,hsm⟩:=hV _ (zl hi);have hcp:=zT0 hx hsm;obtain ⟨x,ex⟩:∃ x,x=S.getD i default:=⟨_,rfl⟩;rw [<- ex] at hx hsm hcp;rw [zbl hi,List.foldl_cons, <- ex];have ih:=λo'=>z5g cols S hS hV n (i+1) o' (by omega) (by omega)
   have hr:∀ r:Row,decide ((o.length+[r].length)*(48:Nat)<=zG)=true:=λr=>decide_eq_true (zEn (by simp; omega) (by omega))
   rcases List.eq_nil_or_concat o with rfl | ⟨o',w,rfl⟩
   ·simp only [Wy.ev_i,Wy.ev_k,Wy.ev_h,Wy.ev_bn,Wy.ev_d,tT,hi, <- ex,hcp,hr,zB (show i<4611686018427387904 by omega),List.length_nil]
    exact ih [x] (by simp) λw hw=>by rw [qh.1 hw]; exact hx
   ·rw [List.concat_eq_append] at *;have hw:=h4 w (by simp)
    have hlen:(o'++[w]).length=o'.length+1:=by simp
    have h0:((((o'++[w]).length:Nat):Int)==(0:Int))=false:=by rw [zhD,decide_eq_false_iff_not,hlen]; omega
    have w1:IntKind.i64.wrap ((((o'++[w]).length:Nat):Int) - (1:Int))=(o'.length:Int):=by rw [hlen,zbM (by simp at h3; omega) (by simp at h3; omega)]; omega
    have g1:o'.length<(o'++[w]).length:=by omega
    have g2:(o'++[w]).getD o'.length default=w:=zOS o' [] w;have hc:zbV w x=(true,cR w x):=zeO w x hw.1;have hset:∀ v,(o'++[w]).set o'.length v=o'++[v]:=λv=>zNE o' [] w v
    have hm:zPN cR zcy (some (o'++[w])) x=if cR w x=0 then (zcy w x).map λz=>o'++[z] else some (o'++[w]++[x]):=by
     unfold zPN;simp only [List.getLast?_append,List.getLast?_singleton,Option.some_or,List.dropLast_concat]
    rw [hm];simp only [Wy.ev_i,Wy.ev_k,Wy.ev_h,Wy.ev_bn,Wy.ev_d,tT,hi,h0,w1,g1,g2, <- ex,hc,hcp,hr,zsD,zB (show i<4611686018427387904 by omega),(z7y hw.2.1 hx.2.1).1,hset]
    by_cases e:cR w x=0
    ·rw [if_pos e,decide_eq_true e,Bool.not_true,cond_false];by_cases e2:(zi9 w.Ann x.Ann).2=0
     ·have ea:zcy w x=some ⟨w.Values,(zi9 w.Ann x.Ann).1⟩:=by unfold zcy; rw [if_pos e2]
      rw [ea,decide_eq_true e2,Bool.not_true,cond_false,Option.map_some]
      exact ih (o'++[⟨w.Values,(zi9 w.Ann x.Ann).1⟩]) (by simp at h3 ⊢; omega) λv hv=>by
       rcases List.mem_append.1 hv with hv | hv
       ·exact h4 v (by simp [hv])
       ·rw [qh.1 hv]; exact (z6y.key w x _ hw hx ea).1
     ·have ea:zcy w x=none:=by unfold zcy; rw [if_neg e2]
      rw [ea,decide_eq_false e2,Bool.not_false,cond_true,Option.map_none,zTc,zba5 hw hx e2]
    ·rw [if_neg e,decide_eq_false e,Bool.not_false,cond_true]
     exact ih (o'++[w]++[x]) (by simp at h3 ⊢; omega) λv hv=>by
      rcases List.mem_append.1 hv with hv | hv
      ·exact h4 v hv
      ·rw [qh.1 hv]; exact hx
  ·simp only [Wy.ev_i,Wy.ev_k,Wy.ev_h,Wy.ev_bn,Wy.ev_d,tT,hi,zdc hi,List.foldl_nil]
def zHe (cols:yH):yF->Int
 | []=>0
 | x::r=>bif !zuD cols x.Values then 7 else bif !zR x.Ann then 1 else zHe cols r
def zLE (r:Relation):Relation×Int:=
 if zPn r.Columns=false then (⟨[],[]⟩,1) else
 if zHe r.Columns r.Rows=0 then
  match (r.Rows.filter zhx).foldl (λo x=>o.bind λM=>zdr cR zcy M x) (some []) with
  | none=>(⟨[],[]⟩,6)
  | some M=>(⟨r.Columns,M⟩,0)
 else (⟨[],[]⟩,zHe r.Columns r.Rows)
structure okRel (r:Relation):Prop where
 cols:r.Columns.length<=1000000
 rows:r.Rows.length<40
 row:∀ x∈r.Rows,x.Values.length<=1000000/\okA x.Ann/\(zR x.Ann=true->zbH x.Ann)
theorem z2S (r:Relation) (h:okRel r):∀ (n i:Nat),r.Rows.length<i+n->i<=r.Rows.length->zCd n r.Rows r.Rows.length i r=(true,if zHe r.Columns (r.Rows.drop i)=0 then .inr r else .inl (zHe r.Columns (r.Rows.drop i)))
 | 0,i,h1,h2=>by omega
 | n+1,i,h1,h2=>by
  show (zuC r.Rows r.Rows.length i r).ev (zA zuE (.inl default) n) (λr=>(true,r)) (false,.inl default)=_
  unfold zuC;have hl:=h.rows;by_cases hi:i<r.Rows.length
  ·obtain ⟨k1,k2,k3⟩:=h.row _ (zl hi);simp only [Wy.ev_i,Wy.ev_k,Wy.ev_h,Wy.ev_bn,Wy.ev_d,tT,hi,z0x _ _ h.cols,k2.valid,zB (show i<4611686018427387904 by omega)]
   rw [zbl hi,zHe];cases zuD r.Columns (r.Rows.getD i default).Values with
   | false=>rfl
   | true=>
    cases zR (r.Rows.getD i default).Ann with
    | false=>rfl
    | true=>exact z2S r h n (i+1) (by omega) (by omega)
  ·simp only [Wy.ev_i,Wy.ev_k,Wy.ev_h,Wy.ev_bn,Wy.ev_d,tT,hi,zdc hi];rfl
theorem zQK {cols:yH}:∀ {l:yF},zHe cols l=0->∀ x∈l,zuD cols x.Values=true/\zR x.Ann=true
 | [],_,x,hx=>by cases hx
 | y::l,h,x,hx=>by
  rw [zHe] at h;cases h1:zuD cols y.Values with
  | false=>rw [h1] at h; cases h
  | true=>
   cases h2:zR y.Ann with
   | false=>rw [h1,h2] at h; cases h
   | true=>
    rw [h1,h2] at h;rcases qd.1 hx with rfl | hx
    ·exact ⟨h1,h2⟩
    ·exact zQK h x hx
theorem zbcV:OW λx:Row=>x.Values.length<=1000000 where
 ends := λx y hx _ => ⟨_, zeO x y hx⟩
 asym:=λx y hx hy h1 h2=>by
  unfold ltW at h1 h2;rw [zeO x y hx] at h1;rw [zeO y x hy] at h2;have:=zm5 x.Values y.Values;simp only at h1 h2; omega
 ntr:=λx y z hx hy hz h1 h2 h3=>by
  unfold ltW at h1 h2 h3;rw [zeO x _ hx] at h1 h3;rw [zeO y z hy] at h2;simp only at h1 h2 h3;have a1:=zm5 x.Values y.Values;have a2:=zm5 y.Values z.Values;have a3:=zm5 x.Values z.Values;have:=zM1 (x:=z.Values) (y:=y.Values) (z:=x.Values) (by omega) (by omega)
  omega
theorem z0X:∀ (x:Row) (l:yF),x.Values.length<=1000000->zBi x l=zyR cR x l
 | x,[],_=>rfl
 | x,y::r,hx=>by
  rw [zBi,zyR,zeO x y hx];show (if cR x y<0 then _ else _)=_
  split
  ·rfl
  ·rw [z0X x r hx]
theorem z2K:∀ (l s:yF),(∀ x∈l,x.Values.length<=1000000)->l.foldl (λs x=>zBi x s) s=l.foldl (λs x=>zyR cR x s) s
 | [],s,_=>rfl
 | x::l,s,h=>by
  rw [List.foldl_cons,List.foldl_cons,z0X x s (h x (by simp))]
  exact z2K l _ λy hy=>h y (by simp [hy])
theorem z2Z {ρ:Type} {c:ρ->ρ->Int} {add:ρ->ρ->Option ρ}:∀ {M N:List ρ} {x:ρ},zdr c add M x=some N->N.length<=M.length+1
 | [],N,x,h=>by rw [zdr,qa] at h; subst h; simp
 | y::M,N,x,h=>by
  rw [zdr] at h;split at h
  ·cases e:zdr c add M x with
   | none=>rw [e] at h; cases h
   | some K=>
    rw [e,Option.map_some,qa] at h;have:=z2Z e;subst h; simp; omega
  ·split at h
   ·cases e:add y x with
    | none=>rw [e] at h; cases h
    | some z=>rw [e,Option.map_some,qa] at h; subst h; simp
   ·rw [qa] at h; subst h; simp
theorem zGB {ρ:Type} {c:ρ->ρ->Int} {add:ρ->ρ->Option ρ}:∀ l:List ρ,l.foldl (λo x=>o.bind λM=>zdr c add M x) none=none
 | []=>rfl
 | _::l=>zGB l
theorem zPP {ρ:Type} {c:ρ->ρ->Int} {add:ρ->ρ->Option ρ}:∀ {l M N:List ρ},l.foldl (λo x=>o.bind λM=>zdr c add M x) (some M)=some N->N.length<=M.length+l.length
 | [],M,N,h=>by rw [List.foldl_nil,qa] at h; subst h; simp
 | x::l,M,N,h=>by
  rw [List.foldl_cons,Option.bind_some] at h;cases e:zdr c add M x with
  | none=>rw [e,zGB] at h; cases h
  | some K=>
   rw [e] at h;have h1:=z2Z e;have h2:=zPP h;simp only [qf]; omega
theorem z4e (r:Relation) (h:okRel r):znt r=(true,zLE r):=by
 unfold znt zCB zLE;have hl:=h.rows;have hc:=z2S r h (r.Rows.length+(Int.ofNat r.Rows.length).toNat +Int.toNat (0:Int)+r.Columns.length+r.Rows.length+(1000:Nat)) 0 (by omega) (by omega)
 rw [show ((0:Nat):Int)=(0:Int) from rfl,List.drop_zero] at hc
 rw [show (r.Rows.length:Int)=Int.ofNat r.Rows.length from rfl] at hc
 rw [Wy.fin_bn,zLF _ h.cols,cond_true,Wy.fin_i];cases hcol:zPn r.Columns with
 | false=>rfl
 | true=>
  rw [Bool.not_true,cond_false,Wy.fin_bn,hc,cond_true,if_neg (show ¬ (true=false) by decide)]
  by_cases hk:zHe r.Columns r.Rows=0
  ·rw [if_pos hk,if_pos hk];have hv:=zQK hk;have hfl:(r.Rows.filter zhx).length<40:=Nat.lt_of_le_of_lt (List.length_filter_le _ _) hl
   have hfm:∀ x∈r.Rows.filter zhx,zg6 x/\zbH x.Ann:=λx hx=>by
    have hm:=(List.mem_filter.1 hx).1;obtain ⟨k1,k2,k3⟩:=h.row x hm;exact ⟨⟨k1,k2,(hv x hm).2⟩,k3 (hv x hm).2⟩
   have hclR:zfC r.Rows=(true,r.Rows):=by
    unfold zfC;rw [decide_eq_true (zEn (by omega) (by omega))]
   have hclC:zce r.Columns=(true,r.Columns):=by
    unfold zce;rw [decide_eq_true (zEn (by have:=h.cols; omega) (by omega))]
   have hsort:=zbav zbcV (l:=r.Rows.filter zhx) (λx hx=>(hfm x hx).1.1) hfl
   have hperm:(zIz (r.Rows.filter zhx)).Perm (r.Rows.filter zhx):=(zW5 zbcV (r.Rows.filter zhx) [] (λx hx=>(hfm x hx).1.1) .nil).2.perm
   have hloop:=z5g r.Columns (zIz (r.Rows.filter zhx)) (by rw [hperm.length_eq]; omega) (λx hx=>hfm x (hperm.mem_iff.1 hx)) ((Int.ofNat (zIz (r.Rows.filter zhx)).length).toNat +Int.toNat (0:Int)+(zIz (r.Rows.filter zhx)).length+r.Columns.length+(0:Nat)+(1000:Nat)) 0 [] (by omega) (by omega) (by simp) (λw hw=>by cases hw)
   rw [show ((0:Nat):Int)=(0:Int) from rfl,List.drop_zero,zbbv] at hloop
   have hmm:mrg cR zcy (zIz (r.Rows.filter zhx))=(r.Rows.filter zhx).foldl (λo x=>o.bind λM=>zdr cR zcy M x) (some []):=by
    unfold zIz;rw [z2K _ _ λx hx=>(hfm x hx).1.1]
    exact z3o z6y (r.Rows.filter zhx) [] (λx hx=>(hfm x hx).1) .nil
   rw [hmm] at hloop;simp only [Wy.fin_i,Wy.fin_k,Wy.fin_bn,isL,getL,getR,cond_true,cond_false,hclR,z61 _ (show r.Rows.length<=1000000 by omega),hsort,hclC]
   rw [show (((zIz (r.Rows.filter zhx)).length:Nat):Int)=Int.ofNat (zIz (r.Rows.filter zhx)).length from rfl] at hloop
   rw [hloop];cases e:(r.Rows.filter zhx).foldl (λo x=>o.bind λM=>zdr cR zcy M x) (some []) with
   | none=>rfl
   | some M=>
    have:=zPP e
    have hM:decide (Int.ofNat M.length>(1024:Int))=false:=by
     rw [show decide (Int.ofNat M.length>(1024:Int))=decide (M.length>1024) from zly _ 1024]
     exact decide_eq_false (by simp at this; omega)
    simp only [isL,getR,cond_true,cond_false];show (bif decide (Int.ofNat M.length>(1024:Int)) then _ else _)=_
    rw [hM]; rfl
  ·rw [if_neg hk,if_neg hk]; rfl
end Go.Proofs.YtoknknbmfmddbaaGreatDoor
namespace Go.Proofs.YtoknknbmfmddbaaGreatDoor
open Go Go.Ab
end Go.Proofs.YtoknknbmfmddbaaGreatDoor
/- Relations: the normal form, by the reference. -/
set_option maxRecDepth 100000
namespace Go.Proofs.YtoknknbmfmddbaaGreatDoor
open Go Go.Ab
theorem zbaU {M N:yF} {x:Row} (k:∀ w∈M,zg6 w) (hx:zg6 x) (h:zdr cR zcy M x=some N):∀ w∈N,zg6 w:=by
 induction M generalizing N with
 | nil=>
  rw [zdr,qa] at h;subst h;intro w hw; rw [qh.1 hw]; exact hx
 | cons y M ih=>
  have k':∀ w∈M,zg6 w:=λw hw=>k w (by simp [hw])
  intro w hw;rw [zdr] at h;split at h
  ·cases e:zdr cR zcy M x with
   | none=>rw [e] at h; cases h
   | some K=>
    rw [e,Option.map_some,qa] at h;subst h;rcases qd.1 hw with rfl | hw
    ·exact k w (by simp)
    ·exact ih k' e w hw
  ·split at h
   ·cases e:zcy y x with
    | none=>rw [e] at h; cases h
    | some z=>
     rw [e,Option.map_some,qa] at h;subst h;rcases qd.1 hw with rfl | hw
     ·exact (z6y.key y x _ (k y (by simp)) hx e).1
     ·exact k' w hw
   ·rw [qa] at h;subst h;rcases qd.1 hw with rfl | hw
    ·exact hx
    ·exact k w hw
end Go.Proofs.YtoknknbmfmddbaaGreatDoor
/- Relations: the guards of the laws. -/
set_option maxRecDepth 100000
namespace Go.Proofs.YtoknknbmfmddbaaGreatDoor
open Go Go.Ab
theorem zbeh {n:Nat} (hn:n<=1000) {a:yB} (ha:z2J a):∃ q,zBQ (n:Int) [a]=(true,q)/\(q=true->okA a/\zex a<=n):=by
 obtain ⟨q,h1,h2⟩:=zbdj n hn [a] (by simp) (λx hx=>by rw [qh] at hx; subst hx; exact ha)
 exact ⟨q,h1,λh=>⟨zba3 hn (h2 h a (by simp)) ha,(h2 h a (by simp)).2⟩⟩
structure smRel (rows w:Nat) (r:Relation):Prop where
 rows:r.Rows.length<=rows
 cols:r.Columns.length<=20
 row:∀ x∈r.Rows,(x.Values.length<=20/\∀ v∈x.Values,v.Text.size<=300)/\okA x.Ann/\zex x.Ann<=w
section
variable (rows w:Nat) (l:List Relation)
theorem zbdc (i:Nat) (hi:i<l.length) (hc:(l.getD i default).Columns.length<=20):∀ (n k:Nat),(l.getD i default).Columns.length<k+n->k<=(l.getD i default).Columns.length->∃ r,zUo n rows w l i k=(true,r)/\(r=.inl false\/r=.inr ((rows:Int),(w:Int),l,(i:Int)))
 | 0,k,h,h2=>by omega
 | n+1,k,h,h2=>by
  show ∃ r,(zJk rows w l i k).ev (zA zI5 (.inl default) n) (λr=>(true,r)) (false,.inl default)=(true,r)/\_
  unfold zJk;by_cases hk:k<(l.getD i default).Columns.length
  ·simp only [Wy.ev_i,Wy.ev_k,Wy.ev_h,Wy.ev_d,tT,hi,hk];generalize decide (_>(100:Int))=q;cases q with
   | true=>exact ⟨_,rfl,.inl rfl⟩
   | false=>
    rw [cond_false,zB (by omega)]
    exact zbdc i hi hc n (k+1) (by omega) (by omega)
  ·simp only [Wy.ev_i,Wy.ev_k,Wy.ev_h,Wy.ev_d,tT,hi,hk];exact ⟨_,rfl,.inr rfl⟩
theorem zbao (hw:w<=1000) (i:Nat) (hi:i<l.length) (hr:(l.getD i default).Rows.length<=1000) (hwf:∀ x∈(l.getD i default).Rows,z9F x):∀ (n k:Nat),(l.getD i default).Rows.length<k+n->k<=(l.getD i default).Rows.length->
  ∃ r,zQ6 n rows w l i k=(true,r)/\(r=.inl false\/(r=.inr ((rows:Int),(w:Int),l,(i:Int))/\∀ x∈(l.getD i default).Rows.drop k,(x.Values.length<=20/\∀ v∈x.Values,v.Text.size<=300)/\okA x.Ann/\zex x.Ann<=w))
 | 0,k,h,h2=>by omega
 | n+1,k,h,h2=>by
  show ∃ r,(zGP rows w l i k).ev (zA zGM (.inl default) n) (λr=>(true,r)) (false,.inl default)=(true,r)/\_
  unfold zGP;by_cases hk:k<(l.getD i default).Rows.length
  ·have hx:=hwf _ (zl hk);obtain ⟨b,b1,b2⟩:=z9c ((l.getD i default).Rows.getD k default).Values 20 hx.1.2;obtain ⟨q,q1,q2⟩:=zbeh hw (a:=((l.getD i default).Rows.getD k default).Ann) hx.2;replace b1:zw7 ((l.getD i default).Rows.getD k default).Values (20:Int)=(true,b):=b1;simp only [Wy.ev_i,Wy.ev_k,Wy.ev_h,Wy.ev_bn,Wy.ev_d,tT,hi,hk,b1,q1];cases b with
   | false=>exact ⟨_,rfl,.inl rfl⟩
   | true=>
    cases q with
    | false=>exact ⟨_,rfl,.inl rfl⟩
    | true=>
     rw [zB (by omega)]
     obtain ⟨r,h3,h4⟩:=zbao hw i hi hr hwf n (k+1) (by omega) (by omega)
     refine ⟨r,h3,h4.imp_right λh4=>⟨h4.1,λx hx=> ?_⟩⟩
     rw [zbl hk] at hx;rcases qd.1 hx with rfl | hx
     ·exact ⟨b2 rfl,q2 rfl⟩
     ·exact h4.2 x hx
  ·simp only [Wy.ev_i,Wy.ev_k,Wy.ev_h,Wy.ev_d,tT,hi,hk];exact ⟨_,rfl,.inr ⟨rfl,λx hx=>by rw [zdc hk] at hx; cases hx⟩⟩
theorem zbb5 (hrs:rows<=100) (hw:w<=1000) (hl:l.length<=1000) (hwf:∀ r∈l,zZJ r):∀ (n i:Nat),l.length<i+n->i<=l.length->
  ∃ r,zTm n rows w l i=(true,r)/\(r=.inl false\/(r=.inr ()/\∀ x∈l.drop i,smRel rows w x))
 | 0,i,h,h2=>by omega
 | n+1,i,h,h2=>by
  show ∃ r,(zJ3 rows w l i).ev (zA zJ5 (.inl default) n) (λr=>(true,r)) (false,.inl default)=(true,r)/\_
  unfold zJ3;by_cases hi:i<l.length
  ·have hwr:=hwf _ (zl hi);have e2:decide ((((l.getD i default).Columns.length:Nat):Int)>(20:Int))=decide ((l.getD i default).Columns.length>20):=zly _ 20;simp only [Wy.ev_i,Wy.ev_k,Wy.ev_h,Wy.ev_d,tT,hi];rw [e2];by_cases h3:rows<(l.getD i default).Rows.length
   ·rw [decide_eq_true h3]; exact ⟨_,rfl,.inl rfl⟩
   by_cases h4:(l.getD i default).Columns.length>20
   ·rw [decide_eq_false h3,decide_eq_true h4]; exact ⟨_,rfl,.inl rfl⟩
   rw [decide_eq_false h3,decide_eq_false h4,cond_false,cond_false];obtain ⟨r7,a1,a2⟩:=zbdc rows w l i hi (by omega) ((rows:Int).toNat +(w:Int).toNat +l.length+i+Int.toNat (0:Int)+(1000:Nat)) 0 (by omega) (by omega)
   rw [show ((0:Nat):Int)=(0:Int) from rfl] at a1
   simp only [Int.toNat_natCast] at a1;simp only [Wy.ev_bn,a1,cond_true];rcases a2 with rfl | rfl
   ·exact ⟨_,rfl,.inl rfl⟩
   ·obtain ⟨r12,b1,b2⟩:=zbao rows w l hw i hi (by omega) hwr.2.1 ((rows:Int).toNat +(w:Int).toNat +l.length+(i:Int).toNat +Int.toNat (0:Int)+(1000:Nat)) 0 (by omega) (by omega)
    rw [show ((0:Nat):Int)=(0:Int) from rfl] at b1
    simp only [Wy.ev_i,Wy.ev_k,Wy.ev_h,Wy.ev_bn,isL,getL,getR,cond_false,b1,cond_true];rcases b2 with rfl | ⟨rfl,b3⟩
    ·exact ⟨_,rfl,.inl rfl⟩
    ·simp only [isL,getL,getR,cond_false,zB (show i<4611686018427387904 by omega)]
     obtain ⟨r,c1,c2⟩:=zbb5 hrs hw hl hwf n (i+1) (by omega) (by omega)
     refine ⟨r,c1,c2.imp_right λc2=>⟨c2.1,λx hx=> ?_⟩⟩
     rw [zbl hi] at hx;rcases qd.1 hx with rfl | hx
     ·rw [List.drop_zero] at b3;exact ⟨by omega,by omega,b3⟩
     ·exact c2.2 x hx
  ·simp only [Wy.ev_i,Wy.ev_k,Wy.ev_h,Wy.ev_d,tT,hi];exact ⟨_,rfl,.inr ⟨rfl,λx hx=>by rw [zdc hi] at hx; cases hx⟩⟩
theorem zbd7 (hrs:rows<=100) (hw:w<=1000) (hl:l.length<=1000) (hwf:∀ r∈l,zZJ r):∃ q,zCk rows w l=(true,q)/\(q=true->∀ r∈l,smRel rows w r):=by
 unfold zCk zWe;obtain ⟨r,h1,h2⟩:=zbb5 rows w l hrs hw hl hwf ((rows:Int).toNat +(w:Int).toNat +l.length+Int.toNat (0:Int)+(1000:Nat)) 0 (by omega) (by omega)
 rw [show ((0:Nat):Int)=(0:Int) from rfl] at h1
 rw [Wy.fin_bn,h1];rcases h2 with rfl | ⟨rfl,h2⟩
 ·exact ⟨false,rfl,λh=>by cases h⟩
 ·exact ⟨true,rfl,λ_=>by rw [List.drop_zero] at h2; exact h2⟩
end
theorem smRel.ok {rows w:Nat} {r:Relation} (h:smRel rows w r) (hr:rows<40) (hw:w<=38):okRel r where
 cols:=by have:=h.cols; omega
 rows:=by have:=h.rows; omega
 row:=λx hx=>⟨by have:=(h.row x hx).1.1; omega,(h.row x hx).2.1,λhv=>zWR 100 x.Ann hv (by have:=(h.row x hx).2.2; omega)⟩
end Go.Proofs.YtoknknbmfmddbaaGreatDoor
namespace Go.Proofs.YtoknknbmfmddbaaGreatDoor
open Go Go.Ab
end Go.Proofs.YtoknknbmfmddbaaGreatDoor
/- Relations compared; tables of named rows. -/
set_option maxRecDepth 100000
namespace Go.Proofs.YtoknknbmfmddbaaGreatDoor
open Go Go.Ab
theorem zU8 {τ:Type} [Inhabited τ] [DecidableEq τ] {a b:List τ} (h:a.length=b.length):zeb (λi=>decide (a.getD i default=b.getD i default)) a.length 0=decide (a=b):=by
 by_cases e:a=b
 ·subst e;rw [decide_eq_true rfl];exact zdB.2 λk _ _=>by simp
 ·rw [decide_eq_false e];cases hc:zeb (λi=>decide (a.getD i default=b.getD i default)) a.length 0 with
  | false=>rfl
  | true=>
   refine absurd (List.ext_getElem h λi h1 h2=> ?_) e
   have:=zdB.1 hc i (by omega) (by omega)
   rw [qe,List.getD_eq_getElem?_getD,List.getD_eq_getElem?_getD,List.getElem?_eq_getElem h1,List.getElem?_eq_getElem h2] at this;exact this
theorem zbar (x y:Column):(x.Name.toList==y.Name.toList&&x.Type_==y.Type_)=decide (x=y):=by
 rw [zCl,zhD];cases x; cases y;simp only [Column.mk.injEq];exact (Bool.decide_and _ _).symm
theorem z0v (a b:yH) (ha:a.length<=1000000):zlK a b=(true,decide (a=b)):=by
 unfold zlK zD1;rw [Wy.fin_i,zsD,zJO];by_cases he:a.length=b.length
 ·have key:=zcA (W:=zwh) (z:=.inl default) a.length (λi=>(a,b,(i:Int),())) (λ_=>()) (λi=>decide (a.getD i default=b.getD i default)) (.inl false) (.inr ()) (λi hi H K D=>by
    show (zlF a b i).ev H K D=_;unfold zlF;have hi':i<b.length:=by omega
    simp only [Wy.ev_i,Wy.ev_k,Wy.ev_h,Wy.ev_bn,Wy.ev_d,tT,hi,hi',zbar,zB (show i<4611686018427387904 by omega)]
    cases decide (a.getD i default=b.getD i default) <;>rfl) (λH K D=>by
    show (zlF a b a.length).ev H K D=_;unfold zlF;simp only [Wy.ev_i,Wy.ev_k,Wy.ev_h,Wy.ev_bn,Wy.ev_d,tT,Nat.lt_irrefl]) (a.length+b.length+Int.toNat (0:Int)+(1:Nat)) (by omega)
  replace key:zDK (a.length+b.length+Int.toNat (0:Int)+(1:Nat)) a b 0=_:=key;rw [decide_eq_true he,Bool.not_true,cond_false,Wy.fin_bn,key,zU8 he];cases decide (a=b) <;>rfl
 ·rw [decide_eq_false he,decide_eq_false (show ¬ a=b from λe=>he (by rw [e]))]; rfl
theorem zbdX (x y:Row):(decide (x.Values=y.Values)&&decide (x.Ann=y.Ann))=decide (x=y):=by
 cases x; cases y;simp only [Row.mk.injEq];exact (Bool.decide_and _ _).symm
theorem z9f {r:Relation} (h:okRel r):(zLE r).1.Columns.length<=1000000/\(zLE r).1.Rows.length<=1000000/\∀ x∈(zLE r).1.Rows,x.Values.length<=1000000/\okA x.Ann:=by
 unfold zLE;split
 ·exact ⟨by simp,by simp,λx hx=>by cases hx⟩
 ·split
  ·rename_i hk;have hv:=zQK hk
   have hfm:∀ x∈r.Rows.filter zhx,zg6 x:=λx hx=>by
    have hm:=(List.mem_filter.1 hx).1;obtain ⟨k1,k2,k3⟩:=h.row x hm;exact ⟨k1,k2,(hv x hm).2⟩
   have go:∀ (l M N:yF),(∀ w∈M,zg6 w)->(∀ x∈l,zg6 x)->l.foldl (λo x=>o.bind λM=>zdr cR zcy M x) (some M)=some N->∀ w∈N,zg6 w:=by
    intro l;induction l with
    | nil=>intro M N k _ e; rw [List.foldl_nil,qa] at e; subst e; exact k
    | cons x l ih=>
     intro M N k u e;rw [List.foldl_cons,Option.bind_some] at e;cases e1:zdr cR zcy M x with
     | none=>rw [e1,zGB] at e; cases e
     | some K=>
      rw [e1] at e;exact ih K N (zbaU k (u x (by simp)) e1) (λy hy=>u y (by simp [hy])) e
   cases e:(r.Rows.filter zhx).foldl (λo x=>o.bind λM=>zdr cR zcy M x) (some []) with
   | none=>exact ⟨by simp,by simp,λx hx=>by cases hx⟩
   | some M=>
    have h1:=zPP e;have h2:(r.Rows.filter zhx).length<=r.Rows.length:=List.length_filter_le _ _;have h3:=h.rows
    exact ⟨h.cols,by simp at h1; show M.length<=_; omega,λx hx=>by
     have:=go _ [] M (λw hw=>by cases hw) hfm e x hx
     exact ⟨this.1,this.2.1⟩⟩
  ·exact ⟨by simp,by simp,λx hx=>by cases hx⟩
end Go.Proofs.YtoknknbmfmddbaaGreatDoor
/- Relations: equality by the program; the empty relation. -/
set_option maxRecDepth 100000
namespace Go.Proofs.YtoknknbmfmddbaaGreatDoor
open Go Go.Ab
theorem z8x (a b:yH) (ha:a.length<=1000000):zd8 a b=(true,decide (a=b)):=by
 unfold zd8 zmL;rw [Wy.fin_i,zsD,zJO];by_cases he:a.length=b.length
 ·have key:=zcA (W:=zhz) (z:=.inl default) a.length (λi=>(a,b,(a.length:Int),(i:Int),())) (λ_=>()) (λi=>decide (a.getD i default=b.getD i default)) (.inl false) (.inr ()) (λi hi H K D=>by
    show (zdp a b a.length i).ev H K D=_;unfold zdp;have hi':i<b.length:=by omega
    simp only [Wy.ev_i,Wy.ev_k,Wy.ev_h,Wy.ev_bn,Wy.ev_d,tT,hi,hi',zbar,zB (show i<4611686018427387904 by omega)]
    cases decide (a.getD i default=b.getD i default) <;>rfl) (λH K D=>by
    show (zdp a b a.length a.length).ev H K D=_;unfold zdp;simp only [Wy.ev_i,Wy.ev_k,Wy.ev_h,Wy.ev_bn,Wy.ev_d,tT,Nat.lt_irrefl]) (a.length+b.length+(Int.ofNat a.length).toNat +Int.toNat (0:Int)+(1000:Nat)) (by omega)
  replace key:zmg (a.length+b.length+(Int.ofNat a.length).toNat +Int.toNat (0:Int)+(1000:Nat)) a b (Int.ofNat a.length) 0=_:=key;rw [decide_eq_true he,Bool.not_true,cond_false,Wy.fin_bn,key,zU8 he];cases decide (a=b) <;>rfl
 ·rw [decide_eq_false he,decide_eq_false (show ¬ a=b from λe=>he (by rw [e]))]; rfl
theorem z63 (x y:Row) (h1:x.Values.length<=1000000) (h2:okA x.Ann):zq7 x y=(true,decide (x=y)):=by
 unfold zq7 zFn;have ea:zgB x.Ann y.Ann=(true,decide (x.Ann=y.Ann)):=zxg h2.1.1 (by omega) _
 have ec:(zxN x.Values y.Values==(0:Int))=decide (x.Values=y.Values):=by rw [zhD,decide_eq_decide]; exact zQn _ _
 rw [Wy.fin_bn,zeO x y h1,cond_true,Wy.fin_i,ec,Wy.fin_bn,ea, <- zbdX];cases decide (x.Values=y.Values) <;>rfl
theorem z7V (a b:yF) (ha:a.length<=1000000) (h:∀ x∈a,x.Values.length<=1000000/\okA x.Ann):zb3 a b=(true,decide (a=b)):=by
 unfold zb3 zgO;rw [Wy.fin_i,zsD,zJO];by_cases he:a.length=b.length
 ·have key:=zcA (W:=zd0) (z:=.inl default) a.length (λi=>(b,(),a,(a.length:Int),(i:Int),())) (λ_=>()) (λi=>decide (a.getD i default=b.getD i default)) (.inl false) (.inr ()) (λi hi H K D=>by
    show (zbW b a a.length i).ev H K D=_;unfold zbW;have hi':i<b.length:=by omega
    obtain ⟨k1,k2⟩:=h _ (zl hi);simp only [Wy.ev_i,Wy.ev_k,Wy.ev_h,Wy.ev_bn,Wy.ev_d,tT,hi,hi',z63 _ _ k1 k2,zB (show i<4611686018427387904 by omega)]
    cases decide (a.getD i default=b.getD i default) <;>rfl) (λH K D=>by
    show (zbW b a a.length a.length).ev H K D=_;unfold zbW;simp only [Wy.ev_i,Wy.ev_k,Wy.ev_h,Wy.ev_bn,Wy.ev_d,tT,Nat.lt_irrefl]) (b.length+a.length+(Int.ofNat a.length).toNat +Int.toNat (0:Int)+(1000:Nat)) (by omega)
  replace key:zgL (b.length+a.length+(Int.ofNat a.length).toNat +Int.toNat (0:Int)+(1000:Nat)) b a (Int.ofNat a.length) 0=_:=key;rw [decide_eq_true he,Bool.not_true,cond_false,Wy.fin_bn,key,zU8 he];cases decide (a=b) <;>rfl
 ·rw [decide_eq_false he,decide_eq_false (show ¬ a=b from λe=>he (by rw [e]))]; rfl
theorem zMT (a b:Relation) (hc:a.Columns.length<=1000000) (ha:a.Rows.length<=1000000) (h:∀ x∈a.Rows,x.Values.length<=1000000/\okA x.Ann):zfZ a b=(true,decide (a=b)):=by
 unfold zfZ zJP;rw [Wy.fin_bn,z8x _ _ hc,cond_true,Wy.fin_i,Wy.fin_bn,z7V _ _ ha h]
 have e:decide (a=b)=(decide (a.Columns=b.Columns)&&decide (a.Rows=b.Rows)):=by
  cases a; cases b;simp only [Relation.mk.injEq];exact Bool.decide_and _ _
 rw [e];cases decide (a.Columns=b.Columns) <;>rfl
theorem z87 (cols:yH) (hc:cols.length<=1000000):zuA cols=(true,⟨cols,[]⟩):=by
 unfold zuA zJr zce;rw [decide_eq_true (zEn (by omega) (by omega))]; rfl
end Go.Proofs.YtoknknbmfmddbaaGreatDoor
/- Relations in normal form, by what is found in them. No program in sight. -/
set_option maxRecDepth 100000
namespace Go.Proofs.YtoknknbmfmddbaaGreatDoor
open Go Go.Ab
def fnd:yF->yG->yB
 | [],_=>[]
 | w::r,v=>if w.Values=v then w.Ann else fnd r v
abbrev ztF (M:yF):Prop:=M.Pairwise λx y=>cR x y<0
theorem zH1 {x y:Row} (h:cR x y<0):x.Values≠y.Values:=λe=>by
 have:=(zQn x.Values y.Values).2 e;unfold cR at h; omega
theorem zVo {x y:Row}:cR x y=0↔x.Values=y.Values:=zQn _ _
theorem zQl {x y z:Row} (h1:cR x y<0) (h2:cR y z<0):cR x z<0:=by
 have a:=zM1 (x:=x.Values) (y:=y.Values) (z:=z.Values) (by unfold cR at h1; omega) (by unfold cR at h2; omega)
 by_cases e:cR x z=0
 ·have:=zVo.1 e;unfold cR at h1 h2;rw [this] at h1;have:=zm5 y.Values z.Values;omega
 ·unfold cR at *; omega
theorem zWT:∀ {M:yF} {v:yG},(∀ w∈M,w.Values≠v)->fnd M v=[]
 | [],_,_=>rfl
 | y::M,v,h=>by rw [fnd,if_neg (h y (by simp)),zWT λw hw=>h w (by simp [hw])]
theorem zEq:∀ {M:yF} {w:Row},ztF M->w∈M->fnd M w.Values=w.Ann
 | [],_,_,h=>by cases h
 | y::M,w,s,h=>by
  have s':=qi.1 s;rw [fnd];rcases qd.1 h with rfl | h
  ·rw [if_pos rfl]
  ·rw [if_neg (zH1 (s'.1 w h)),zEq s'.2 h]
theorem zPf:∀ {M:yF} {v:yG},fnd M v≠[]->∃ w∈M,w.Values=v/\w.Ann=fnd M v
 | [],_,h=>absurd rfl h
 | y::M,v,h=>by
  rw [fnd] at h ⊢;split at h
  ·rename_i e; exact ⟨y,by simp,e,by rw [if_pos e]⟩
  ·rename_i e;obtain ⟨w,h1,h2,h3⟩:=zPf h;exact ⟨w,by simp [h1],h2,by rw [if_neg e]; exact h3⟩
theorem zM4 {y x z:Row} (h:zcy y x=some z):z=⟨y.Values,zcJ y.Ann x.Ann⟩/\zR (zcJ y.Ann x.Ann)=true:=by
 unfold zcy at h;split at h
 ·rename_i h0;rw [qa] at h;obtain ⟨⟨_,_,v3⟩,e⟩:=z7z h0;rw [e] at h;exact ⟨h.symm,v3⟩
 ·cases h
theorem zXq:∀ {M N:yF} {x:Row},ztF M->zg6 x->zdr cR zcy M x=some N->∀ v,fnd N v=if x.Values=v then zcJ (fnd M v) x.Ann else fnd M v
 | [],N,x,_,hx,h,v=>by
  rw [zdr,qa] at h;subst h;show (if x.Values=v then x.Ann else [])=if x.Values=v then zcJ [] x.Ann else []
  rw [sum_nil (zoV hx.2.2).1]
 | y::M,N,x,s,hx,h,v=>by
  have s':=qi.1 s;rw [zdr] at h;by_cases h1:cR y x<0
  ·rw [if_pos h1] at h;cases e:zdr cR zcy M x with
   | none=>rw [e] at h; cases h
   | some K=>
    rw [e,Option.map_some,qa] at h;subst h;have ih:=zXq s'.2 hx e v;rw [fnd,fnd];by_cases e1:y.Values=v
    ·rw [if_pos e1,if_pos e1,if_neg];intro e2; exact zH1 h1 (e1.trans e2.symm)
    ·rw [if_neg e1,if_neg e1,ih]
  ·rw [if_neg h1] at h;by_cases h2:cR y x=0
   ·rw [if_pos h2] at h;have exy:=zVo.1 h2;cases e:zcy y x with
    | none=>rw [e] at h; cases h
    | some z=>
     rw [e,Option.map_some,qa] at h;obtain ⟨ez,_⟩:=zM4 e;subst h;rw [ez,fnd,fnd,exy];by_cases e1:x.Values=v
     ·rw [if_pos e1,if_pos e1,if_pos e1]
     ·rw [if_neg e1,if_neg e1,if_neg e1]
   ·rw [if_neg h2,qa] at h;subst h;have h3:cR x y<0:=by unfold cR at *; have:=zm5 x.Values y.Values; omega
    rw [fnd];by_cases e1:x.Values=v
    ·rw [if_pos e1,if_pos e1,zWT,sum_nil (zoV hx.2.2).1];intro w hw;rw [<- e1];rcases qd.1 hw with rfl | hw
     ·exact (zH1 h3).symm
     ·exact (zH1 (zQl h3 (s'.1 w hw))).symm
    ·rw [if_neg e1,if_neg e1]
theorem zWX:∀ {M N:yF} {x:Row},zdr cR zcy M x=some N->∀ w∈N,w.Values=x.Values\/∃ u∈M,u.Values=w.Values
 | [],N,x,h,w,hw=>by
  rw [zdr,qa] at h;subst h;rw [qh.1 hw]; exact .inl rfl
 | y::M,N,x,h,w,hw=>by
  rw [zdr] at h;split at h
  ·cases e:zdr cR zcy M x with
   | none=>rw [e] at h; cases h
   | some K=>
    rw [e,Option.map_some,qa] at h;subst h;rcases qd.1 hw with rfl | hw
    ·exact .inr ⟨w,by simp,rfl⟩
    ·rcases zWX e w hw with k | ⟨u,k1,k2⟩
     ·exact .inl k
     ·exact .inr ⟨u,by simp [k1],k2⟩
  ·split at h
   ·cases e:zcy y x with
    | none=>rw [e] at h; cases h
    | some z=>
     rw [e,Option.map_some,qa] at h;subst h;rcases qd.1 hw with rfl | hw
     ·exact .inr ⟨y,by simp,by rw [(zM4 e).1]⟩
     ·exact .inr ⟨w,by simp [hw],rfl⟩
   ·rw [qa] at h;subst h;rcases qd.1 hw with rfl | hw
    ·exact .inl rfl
    ·exact .inr ⟨w,hw,rfl⟩
theorem zXA:∀ {M N:yF} {x:Row},ztF M->zdr cR zcy M x=some N->ztF N
 | [],N,x,_,h=>by
  rw [zdr,qa] at h;subst h; simp
 | y::M,N,x,s,h=>by
  have s':=qi.1 s;rw [zdr] at h;by_cases h1:cR y x<0
  ·rw [if_pos h1] at h;cases e:zdr cR zcy M x with
   | none=>rw [e] at h; cases h
   | some K=>
    rw [e,Option.map_some,qa] at h;subst h;refine qi.2 ⟨λw hw=> ?_,zXA s'.2 e⟩
    rcases zWX e w hw with k | ⟨u,k1,k2⟩
    ·unfold cR at h1 ⊢; rw [k]; exact h1
    ·have:=s'.1 u k1;unfold cR at this ⊢; rw [<- k2]; exact this
  ·rw [if_neg h1] at h;by_cases h2:cR y x=0
   ·rw [if_pos h2] at h;cases e:zcy y x with
    | none=>rw [e] at h; cases h
    | some z=>
     rw [e,Option.map_some,qa] at h;subst h;refine qi.2 ⟨λw hw=> ?_,s'.2⟩
     have:=s'.1 w hw;unfold cR at this ⊢; rw [(zM4 e).1]; exact this
   ·rw [if_neg h2,qa] at h;subst h;have h3:cR x y<0:=by unfold cR at *; have:=zm5 x.Values y.Values; omega
    refine qi.2 ⟨λw hw=> ?_,s⟩
    rcases qd.1 hw with rfl | hw
    ·exact h3
    ·exact zQl h3 (s'.1 w hw)
theorem z0I:∀ {M N:yF} {x:Row},(∀ w∈M,zg6 w)->zg6 x->zdr cR zcy M x=some N->∀ w∈N,zg6 w
 | [],N,x,_,hx,h,w,hw=>by
  rw [zdr,qa] at h;subst h;rw [qh.1 hw]; exact hx
 | y::M,N,x,k,hx,h,w,hw=>by
  have k':∀ w∈M,zg6 w:=λw hw=>k w (by simp [hw])
  rw [zdr] at h;split at h
  ·cases e:zdr cR zcy M x with
   | none=>rw [e] at h; cases h
   | some K=>
    rw [e,Option.map_some,qa] at h;subst h;rcases qd.1 hw with rfl | hw
    ·exact k w (by simp)
    ·exact z0I k' hx e w hw
  ·split at h
   ·cases e:zcy y x with
    | none=>rw [e] at h; cases h
    | some z=>
     rw [e,Option.map_some,qa] at h;subst h;rcases qd.1 hw with rfl | hw
     ·exact (z6y.key y x _ (k y (by simp)) hx e).1
     ·exact k' w hw
   ·rw [qa] at h;subst h;rcases qd.1 hw with rfl | hw
    ·exact hx
    ·exact k w hw
theorem z3C:∀ {l M N:yF},ztF M->(∀ w∈M,zg6 w)->(∀ x∈l,zg6 x)->l.foldl (λo x=>o.bind λM=>zdr cR zcy M x) (some M)=some N->
  ztF N/\(∀ w∈N,zg6 w)/\(∀ v,fnd N v=(l.filter λx=>decide (x.Values=v)).foldl (λs x=>zcJ s x.Ann) (fnd M v))/\∀ w∈N,(∃ x∈l,x.Values=w.Values)\/∃ u∈M,u.Values=w.Values
 | [],M,N,s,k,u,h=>by
  rw [List.foldl_nil,qa] at h;subst h;exact ⟨s,k,λv=>rfl,λw hw=>.inr ⟨w,hw,rfl⟩⟩
 | x::l,M,N,s,k,u,h=>by
  have hx:=u x (by simp)
  rw [List.foldl_cons,Option.bind_some] at h;cases e:zdr cR zcy M x with
  | none=>rw [e,zGB] at h; cases h
  | some K=>
   rw [e] at h;obtain ⟨h1,h2,h3,h4⟩:=z3C (zXA s e) (z0I k hx e) (λy hy=>u y (by simp [hy])) h
   refine ⟨h1,h2,λv=> ?_,λw hw=> ?_⟩
   ·rw [h3,zXq s hx e v,List.filter_cons];by_cases e1:x.Values=v
    ·rw [if_pos e1,decide_eq_true e1,if_pos rfl,List.foldl_cons]
    ·rw [if_neg e1,decide_eq_false e1,if_neg (by simp)]
   ·rcases h4 w hw with ⟨y,y1,y2⟩ | ⟨y,y1,y2⟩
    ·exact .inl ⟨y,by simp [y1],y2⟩
    ·rcases zWX e y y1 with q | ⟨z,z1,z2⟩
     ·exact .inl ⟨x,by simp,by rw [<- y2,q]⟩
     ·exact .inr ⟨z,z1,by rw [z2,y2]⟩
theorem z6e:∀ {M N:yF},ztF M->ztF N->(∀ w∈M,w.Ann≠[])->(∀ w∈N,w.Ann≠[])->(∀ v,fnd M v=fnd N v)->M=N:=by
 have sub:∀ {M N:yF},ztF M->(∀ w∈M,w.Ann≠[])->(∀ v,fnd M v=fnd N v)->∀ w∈M,w∈N:=λ{M N} s k h w hw=>by
  have e:=zEq s hw;rw [h] at e;obtain ⟨u,u1,u2,u3⟩:=zPf (M:=N) (v:=w.Values) (by rw [e]; exact k w hw)
  have:u=w:=by
   cases u; cases w;simp only at u2 u3 e;rw [u2,u3,e]
  rw [<- this]; exact u1
 intro M N sM sN kM kN h;have nd:∀ {M:yF},ztF M->M.Nodup:=λs=>List.Pairwise.imp (λ{x y} (hxy:cR x y<0) (e:x=y)=>zH1 hxy (by rw [e])) s
 have p:M.Perm N:=(List.perm_ext_iff_of_nodup (nd sM) (nd sN)).2 λw=>⟨sub sM kM h w,sub sN kN (λv=>(h v).symm) w⟩
 exact p.eq_of_pairwise (le:=λx y=>cR x y<0) (λa b _ _ h1 h2=>by
  unfold cR at h1 h2;have:=zm5 a.Values b.Values;omega) sM sN
end Go.Proofs.YtoknknbmfmddbaaGreatDoor
namespace Go.Proofs.YtoknknbmfmddbaaGreatDoor
open Go Go.Ab
end Go.Proofs.YtoknknbmfmddbaaGreatDoor
end
