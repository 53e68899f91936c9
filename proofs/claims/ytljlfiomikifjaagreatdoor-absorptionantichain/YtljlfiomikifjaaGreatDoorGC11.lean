/- Texts of this claim, joined (the program, its functions in plain words, and what they compute). -/
import Derived.Test.YtljlfiomikifjaaGreatDoorGC10
set_option autoImplicit false
set_option linter.unusedVariables false
set_option linter.unusedSectionVars false
set_option linter.unusedSimpArgs false
set_option maxRecDepth 1000000
set_option maxHeartbeats 0
/- Which annotations are valid, in words; what the operations leave is valid. -/
noncomputable section
namespace Go.Proofs.YtljlfiomikifjaaGreatDoor
open Go Go.Ab
theorem zP1 {τ:Type} [Inhabited τ] {R:τ->τ->Prop}:∀ {l:List τ},l.Pairwise R->∀ k,0<k->k<l.length->R (l.getD (k - 1) default) (l.getD k default)
 | [],_,k,_,h=>by simp at h
 | x::r,h,0,h0,_=>by omega
 | x::r,h,1,_,h1=>(qi.1 h).1 _ (zp (by simpa using h1))
 | x::r,h,k+2,_,h1=>zP1 (qi.1 h).2 (k+1) (by omega) (by simp only [qf] at h1; omega)
def OKF (vat:At->Bool) (fs:yD):Prop:=Srf fs/\∀ f∈fs,(1<=f.Exp/\(f.At.Kind=3\/f.At.Kind=4->f.Exp=1))/\vat f.At=true
theorem zbdA {vat:At->Bool} {fs:yD}:okF vat fs=true↔OKF vat fs:=by
 constructor
 ·intro h;refine ⟨zxt (R:=λx y=>cF x y<0) (λx y z h1 h2=>zIP h1 h2) _ λk hk hl=> ?_,λf hf=>zq9 h hf⟩
  have:=zev.1 h k (by omega) (by omega)
  simp only [zSA,qc,Bool.or_eq_true,qe] at this;rcases this.1.2 with e | e
  ·omega
  ·exact e
 ·intro h;refine zev.2 λk _ hk=> ?_
  have hm:=h.2 _ (zp (l:=fs) (i:=k) (by omega))
  simp only [zSA,qc,Bool.or_eq_true,qe,Bool.not_eq_true',Bool.and_eq_false_iff];refine ⟨⟨⟨hm.1.1, ?_⟩, ?_⟩,hm.2⟩
  ·by_cases hk:(fs.getD k default).At.Kind=3\/(fs.getD k default).At.Kind=4
   ·right; rw [hm.1.2 hk]; rfl
   ·left
    rw [Bool.or_eq_false_iff];constructor
    ·simpa using λe=>hk (.inl e)
    ·simpa using λe=>hk (.inr e)
  ·by_cases h0:k=0
   ·exact .inl h0
   ·exact .inr (zP1 h.1 k (by omega) (by omega))
theorem zVu {vat:At->Bool} {a:yC}:zAU vat a=true↔zf4 a=true/\Srs a/\∀ t∈a,cOK t/\OKF vat t.Fs:=by
 constructor
 ·intro h;have hall:=h;simp only [zAU,qc] at hall;refine ⟨hall.1,zxt (R:=λx y=>cT x y<0) (λx y z h1 h2=>zIY h1 h2) a λk hk hl=> ?_,λt ht=>⟨(zyF h ht).1,zbdA.1 (zyF h ht).2⟩⟩
  have:=zev.1 hall.2 k (by omega) (by omega)
  simp only [zHj,qc,Bool.or_eq_true,qe] at this;rcases this.1.2 with e | e
  ·omega
  ·exact e
 ·rintro ⟨h1,h2,h3⟩
  simp only [zAU,qc];refine ⟨h1,zev.2 λk _ hk=> ?_⟩
  have hm:=h3 _ (zp (l:=a) (i:=k) (by omega))
  simp only [zHj,qc,Bool.or_eq_true,qe];refine ⟨⟨⟨hm.1.1,hm.1.2⟩, ?_⟩,zbdA.2 hm.2⟩;by_cases h0:k=0
  ·exact .inl h0
  ·exact .inr (zP1 h2 k (by omega) (by omega))
def QA (a:yC):Prop:=Srs a/\∀ t∈a,cOK t/\OKF zpR t.Fs
theorem zuY {a:yC}:zU a=true↔zf4 a=true/\QA a:=by rw [z6P]; exact zVu
theorem OKF.mf {fs:yD} (h:OKF zpR fs):MF fs:=⟨h.1,λf hf=>⟨⟨zGM (h.2 f hf).2,(h.2 f hf).1.2⟩,(h.2 f hf).1.1⟩⟩
theorem QA.pa {a:yC} (h:QA a):PA a:=⟨h.1,λt ht=>⟨(h.2 t ht).1,(h.2 t ht).2.mf⟩⟩
theorem zVH {a:yC} (h:zU a=true):QA a:=(zuY.1 h).2
theorem zVW {a:yC} (h:zU a=true):PA a:=(zVH h).pa
theorem zbeD {a:yC} (h:zU a=true):zf4 a=true:=(zuY.1 h).1
theorem MF.okf {fs:yD} (h:MF fs) (hv:∀ f∈fs,zpR f.At=true):OKF zpR fs:=⟨h.1,λf hf=>⟨⟨(h.2 f hf).2,(h.2 f hf).1.2⟩,hv f hf⟩⟩
theorem OKF.join {a b:yD} (ha:OKF zpR a) (hb:OKF zpR b):OKF zpR (zbR a b):=(zbji ha.mf hb.mf).okf λf hf=>by
 obtain ⟨y,hy,e⟩:=zvt hf;rw [e];rcases hy with hy | hy
 ·exact (ha.2 y hy).2
 ·exact (hb.2 y hy).2
theorem QA.nil:QA []:=⟨List.Pairwise.nil,λt ht=>by cases ht⟩
theorem zbiU {x:At} (h:zpR x=true):QA (zcB x):=⟨by simp [zcB],λt ht=>by
 simp only [zcB,qh] at ht; subst ht;refine ⟨⟨by simp,by simp⟩,by simp,λf hf=> ?_⟩
 rw [qh] at hf; subst hf;exact ⟨⟨by simp,λ_=>rfl⟩,h⟩⟩
theorem zN8 {a:yC} (h:zf4 a=true):zoH a=(a,0):=by unfold zoH; rw [h]; rfl
theorem zbiB {a b:yC} (ha:zU a=true) (hb:zU b=true) (h:zf4 (zgy a b)=true):zFo a b=(zgy a b,0):=by
 unfold zFo; rw [ha,hb,zN8 h]; rfl
theorem zbdy {a b:yC} (ha:zU a=true) (hb:zU b=true) (h:zf4 (zqO a b)=true):zEl a b=(zqO a b,0):=by
 unfold zEl; rw [ha,hb,zN8 h]; rfl
theorem zVb {x:At}:zpR x=true↔VA zU x:=zdN
theorem zbe7 {x:At} (h:zpR x=true) (hw:zf4 (zcB x)=true):zU (zcB x)=true:=zuY.2 ⟨hw,zbiU h⟩
def sbd {α β:Type} (x:Int⊕α) (k:α->Int⊕β):Int⊕β:=match x with
 | .inl e=>.inl e
 | .inr a=>k a
theorem zFR {α β:Type} (e:Int) (k:α->Int⊕β):sbd (.inl e) k=.inl e:=rfl
theorem zco {α β:Type} (a:α) (k:α->Int⊕β):sbd (.inr a) k=k a:=rfl
def opS (r:yC×Int):Int⊕yC:=if r.2=0 then .inr r.1 else .inl r.2
def ofS:Int⊕yC->yC×Int
 | .inl e=>([],e)
 | .inr a=>(a,0)
theorem zFG {r:yC×Int} (h:r.2=0\/r.1=[]):ofS (opS r)=r:=by
 obtain ⟨a,e⟩:=r;simp only at h;unfold opS;by_cases he:e=0
 ·subst he; simp [ofS]
 ·rw [if_neg he];rcases h with h | h
  ·exact absurd h he
  ·subst h; rfl
theorem zbcI {a:yC}:opS (a,0)=.inr a:=rfl
def zC0 (b:yC):Nat->yC->Int⊕yC
 | 0,p=>.inr p
 | n+1,p=>sbd (opS (zEl p b)) (zC0 b n)
mutual
def zeJ (to:RowID->yC):At->Int⊕yC
 | ⟨k,r,a,f,i,o,b⟩=>if k=0 then .inr (to r) else
  sbd (zjN to a) λxs=>if k=1 then opS (zOe (xs.getD 0 default) (xs.getD 1 default)) else if k=2 then opS (zPk (xs.getD 0 default)) else if k=3 then opS (zOV (xs.getD 0 default)) else
   sbd (zgj to i) λis=>opS (zzp f is o b)
def zdz (to:RowID->yC):yD->yC->Int⊕yC
 | [],p=>.inr p
 | ⟨x,e⟩::r,p=>sbd (zeJ to x) λb=>sbd (zC0 b e.toNat p) λq=>zdz to r q
def zcu (to:RowID->yC):yC->yC->Int⊕yC
 | [],s=>.inr s
 | ⟨c,fs⟩::r,s=>sbd (zdz to fs (zvm c)) λp=>sbd (opS (zFo s p)) λq=>zcu to r q
def zjN (to:RowID->yC):yA->Int⊕yA
 | []=>.inr []
 | a::r=>sbd (zcu to a []) λb=>sbd (zjN to r) λl=>.inr (b::l)
def zgj (to:RowID->yC):yE->Int⊕yE
 | []=>.inr []
 | ⟨v,a⟩::r=>sbd (zcu to a []) λb=>sbd (zgj to r) λl=>.inr (⟨v,b⟩::l)
end
variable (to:RowID->yC)
theorem zLQ (p:yC):zdz to [] p=.inr p:=by rw [zdz]
theorem zJh (f:Fc) (r:yD) (p:yC):zdz to (f::r) p=sbd (zeJ to f.At) λb=>sbd (zC0 b f.Exp.toNat p) λq=>zdz to r q:=by cases f; rw [zdz]
theorem z0Y (s:yC):zcu to [] s=.inr s:=by rw [zcu]
theorem zWD (t:Term) (r s:yC):zcu to (t::r) s=sbd (zdz to t.Fs (zvm t.Cf)) λp=>sbd (opS (zFo s p)) λq=>zcu to r q:=by cases t; rw [zcu]
theorem zDF:zjN to []=.inr []:=by rw [zjN]
theorem zAG (a:yC) (r:yA):zjN to (a::r)=sbd (zcu to a []) λb=>sbd (zjN to r) λl=>.inr (b::l):=by rw [zjN]
theorem zJ0:zgj to []=.inr []:=by rw [zgj]
theorem zP5 (w:Wd) (r:yE):zgj to (w::r)=sbd (zcu to w.Ann []) λb=>sbd (zgj to r) λl=>.inr (⟨w.Value,b⟩::l):=by cases w; rw [zgj]
theorem zYV (x:At):zeJ to x=if x.Kind=0 then .inr (to x.Row) else
  sbd (zjN to x.Ag) λxs=>if x.Kind=1 then opS (zOe (xs.getD 0 default) (xs.getD 1 default)) else if x.Kind=2 then opS (zPk (xs.getD 0 default)) else if x.Kind=3 then opS (zOV (xs.getD 0 default)) else
   sbd (zgj to x.Items) λis=>opS (zzp x.Func is x.Op x.Bd):=by cases x; rw [zeJ]
def GE {α:Type} (P:α->Prop):Int⊕α->Prop
 | .inl e=>e≠0
 | .inr a=>P a
abbrev GS:Int⊕yC->Prop:=GE okA
theorem zRo {r:yC×Int} (h:okR r):GS (opS r):=by
 unfold opS;by_cases he:r.2=0
 ·rw [if_pos he]; exact h.1
 ·rw [if_neg he]; exact he
theorem zQ4 {α β:Type} {P:α->Prop} {Q:β->Prop} {x:Int⊕α} {k:α->Int⊕β} (hx:GE P x) (hk:∀ a,P a->GE Q (k a)):GE Q (sbd x k):=by
 cases x with
 | inl e=>exact hx
 | inr a=>exact hk a hx
theorem z5Y {b:yC} (hb:okA b):∀ (n:Nat) (p:yC),okA p->GS (zC0 b n p)
 | 0,p,hp=>hp
 | n+1,p,hp=>zQ4 (zRo (z8Z hp hb)) λq hq=>z5Y hb n q hq
abbrev GL (n:Nat):Int⊕yA->Prop:=GE λl=>l.length=n/\∀ a∈l,okA a
abbrev GI (i:yE):Int⊕yE->Prop:=GE λl=>l.length=i.length/\∀ w∈l,okA w.Ann/\∃ v∈i,v.Value=w.Value
theorem zbew (w:Wd):zKk w↔zWL w.Value/\zg3 w.Ann/\w.Ann.length<=zbm:=by cases w; unfold zKk; exact Iff.rfl
theorem zbf8 {k f o:Int} {r:RowID} {a:yA} {i:yE} {b:Value} (h1:wf3 k) (h2:zZn r) (h3:zz4 a/\a.length<=zbm) (h4:wf3 f) (h5:zuq i/\i.length<=zbm) (h6:wf3 o) (h7:zWL b):zgG ⟨k,r,a,f,i,o,b⟩:=by
 unfold zgG; exact ⟨h1,h2,h3,h4,h5,h6,h7⟩
theorem zZt {f o:Int} {l:yE} {b:Value} (hl:l.length<=1000000) (h:∀ w∈l,okA w.Ann/\zWL w.Value) (hf:wf3 f) (ho:wf3 o) (hb:zWL b):okR (zzp f l o b):=by
 unfold zzp;cases hk:zEf f l o b with
 | false=>exact ⟨zlu,.inr rfl⟩
 | true=>
  cases hv:l.all λw=>zU w.Ann with
  | false=>exact ⟨zlu,.inr rfl⟩
  | true=>
   simp only [Bool.and_self,Bool.not_true,cond_false];cases decide (0<(zeo l).length) with
   | true=>
    obtain ⟨tf,ts⟩:=zO0 hl hk hv;have hr:zbm=140737488351232:=rfl;have hlen:(zeo l).length<=1000000:=by rw [z6A]; exact Nat.le_trans (List.length_filter_le _ _) hl
    refine zN7 ⟨⟨tf.mono (by omega),ts⟩,zI7 _ λt ht=> ?_,by simp [zcB,zbm]⟩
    simp only [zcB,qh] at ht;subst ht;refine zZF ⟨by simp,by simp⟩ (λg hg=> ?_) (by simp)
    simp only [qh] at hg;subst hg;refine ⟨zbf8 (zYJ (zZI (by omega))) ⟨zrx,zrx⟩ ⟨by unfold zz4; trivial,by simp⟩ hf ⟨zVg _ λw hw=> ?_,by omega⟩ ho hb,⟨by simp,by simp⟩⟩
    have hm:=h w (zM6 hw).1;exact (zbew w).2 ⟨hm.2,hm.1.2⟩
   | false=>
    cases f==0&&zSo o (zeK 0 b.Int) with
    | true=>exact ⟨z1N 1 (by omega),.inl rfl⟩
    | false=>exact ⟨zlu,.inl rfl⟩
theorem zJi {l:yA} (h:∀ a∈l,okA a) (i:Nat):okA (l.getD i default):=by
 by_cases hi:i<l.length
 ·exact h _ (zp hi)
 ·rw [List.getD_eq_getElem?_getD,List.getElem?_eq_none (by omega)]; exact zlu
def okT (to:RowID->yC):Prop:=∀ r,zZn r->okA (to r)
variable {to}
mutual
theorem z0b (ht:okT to):∀ (x:At) (d:Nat),zgG x->zdf (zo d) x->GS (zeJ to x)
 | ⟨k,r,a,f,i,o,b⟩=>λd hw hi=>by
  have hw':=zoo hw;simp only at hw';obtain ⟨⟨ha,hal⟩,⟨hit,hil⟩,hb,hk,hr,hf,ho⟩:=hw';obtain ⟨⟨l1,l2,_⟩,f1,f2⟩:=hi;simp only at l1 l2 f1 f2;rw [zeJ];by_cases hk0:k=0
  ·rw [if_pos hk0]; exact ht r hr
  ·rw [if_neg hk0];have hA:=zRl ht a d (λx hx=>(zh3 ha x hx).1) f1
   refine zQ4 hA λxs has=> ?_
   have h0:=zJi has.2 0;have h1:=zJi has.2 1;split
   ·exact zRo (z7L h0 h1)
   ·split
    ·exact zRo (z8Y h0)
    ·split
     ·exact zRo (z79 h0)
     ·have hI:=zNZ ht i d (λx hx=>(zgs hit x hx).2.1) λw hw=>(f2 w hw).2
      refine zQ4 hI λis his=> ?_
      refine zRo (zZt (by omega) (λw hw=>⟨(his.2 w hw).1, ?_⟩) hf ho hb)
      obtain ⟨v,hv,e⟩:=(his.2 w hw).2;rw [<- e]; exact (zgs hit v hv).1
theorem zGL (ht:okT to):∀ (l:yD) (d:Nat),(∀ f∈l,zgG f.At/\zdf (zo d) f.At)->∀ p,okA p->GS (zdz to l p)
 | [],_,_,p,hp=>by rw [zdz]; exact hp
 | ⟨x,e⟩::r,d,h,p,hp=>by
  rw [zdz];have hx:=z0b ht x d (h ⟨x,e⟩ (by simp)).1 (h ⟨x,e⟩ (by simp)).2
  refine zQ4 hx λb hb=>zQ4 (z5Y hb _ p hp) λq hq=> ?_
  exact zGL ht r d (λf hf=>h f (by simp [hf])) q hq
theorem zOZ (ht:okT to):∀ (a:yC) (d:Nat),zg3 a->(∀ t∈a,∀ f∈t.Fs,zdf (zo d) f.At)->∀ s,okA s->GS (zcu to a s)
 | [],_,_,_,s,hs=>by rw [zcu]; exact hs
 | ⟨c,fs⟩::r,d,hw,hi,s,hs=>by
  rw [zcu];have hwt:=zrn hw ⟨c,fs⟩ (by simp)
  have hp:=zGL ht fs d (λf hf=>⟨(zo4 (zmW (zuX hwt).2.1 f hf)).1,hi ⟨c,fs⟩ (by simp) f hf⟩) (zvm c) (zbb0 c)
  refine zQ4 hp λp hp=>zQ4 (zRo (z8X hs hp)) λq hq=> ?_
  exact zOZ ht r d (zI7 _ λt ht=>zrn hw t (by simp [ht])) (λt ht=>hi t (by simp [ht])) q hq
theorem zRl (ht:okT to):∀ (l:yA) (d:Nat),(∀ a∈l,zg3 a)->(∀ a∈l,zo d a)->GL l.length (zjN to l)
 | [],_,_,_=>by rw [zjN]; exact ⟨rfl,λa ha=>by cases ha⟩
 | a::r,d,h,hi=>by
  rw [zjN];have hf:=hi a (by simp)
  have h1:GS (zcu to a []):=by
   cases d with
   | zero=>exact hf.elim
   | succ d=>exact zOZ ht a d (h a (by simp)) (λt ht f hf'=>(hf.2 t ht).2 f hf') [] zlu
  have h2:=zRl ht r d (λb hb=>h b (by simp [hb])) (λb hb=>hi b (by simp [hb]))
  revert h1 h2;cases zcu to a [] with
  | inl e=>exact λh _=>h
  | inr b=>
   cases zjN to r with
   | inl e=>exact λ_ h=>h
   | inr l=>
    intro h1 h2;refine ⟨by simp [h2.1],λx hx=> ?_⟩
    rcases qd.1 hx with rfl | hx
    ·exact h1
    ·exact h2.2 x hx
theorem zNZ (ht:okT to):∀ (l:yE) (d:Nat),(∀ w∈l,zg3 w.Ann)->(∀ w∈l,zo d w.Ann)->GI l (zgj to l)
 | [],_,_,_=>by rw [zgj]; exact ⟨rfl,λa ha=>by cases ha⟩
 | ⟨v,a⟩::r,d,h,hi=>by
  rw [zgj];have hf:zo d a:=hi ⟨v,a⟩ (by simp)
  have h1:GS (zcu to a []):=by
   cases d with
   | zero=>exact hf.elim
   | succ d=>exact zOZ ht a d (h ⟨v,a⟩ (by simp)) (λt ht f hf'=>(hf.2 t ht).2 f hf') [] zlu
  have h2:=zNZ ht r d (λb hb=>h b (by simp [hb])) (λb hb=>hi b (by simp [hb]))
  revert h1 h2;cases zcu to a [] with
  | inl e=>exact λh _=>h
  | inr b=>
   cases zgj to r with
   | inl e=>exact λ_ h=>h
   | inr l=>
    intro h1 h2;refine ⟨by simp [h2.1],λx hx=> ?_⟩
    rcases qd.1 hx with rfl | hx
    ·exact ⟨h1,⟨v,a⟩,by simp,rfl⟩
    ·obtain ⟨h3,w,hw,e⟩:=h2.2 x hx;exact ⟨h3,w,by simp [hw],e⟩
end
abbrev zTQ:=yG×Unit×Int×Unit
abbrev z7S:=(yC×Bool)⊕Unit
def zJB (l:yG) (i:Int) (id:RowID):Wy zTQ (RowID×Unit) z7S:=.i (decide (i<Int.ofNat l.length)) (.i (decide (0<=i)&&decide (i<Int.ofNat l.length)) (.i ((l.getD i.toNat default).Row.Table==id.Table&&((l.getD i.toNat default).Row.Seq==id.Seq&&true)) (.i (decide (0<=i)&&decide (i<Int.ofNat l.length)) (.k (.inl ((l.getD i.toNat default).To,true))) .d) (.h (l,(),(IntKind.i64.wrap (i+1)),()) (id,()))) .d) (.k (.inr ()))
def z8z (x:zTQ) (y:RowID×Unit):=zJB x.1 x.2.2.1 y.1
def zJM (n:Nat) (l:yG) (i:Int) (id:RowID):=zC (z8z) (.inl default) n (l,(),i,()) (id,())
def zXw (l:yG) (id:RowID):Wy0 (yC×Bool):=.bn (zJM (l.length+Int.toNat 0+1) l 0 id) λr0=>.i (isL r0) (.k ((getL r0).1,(getL r0).2)) (.k ([],false))
def zRV (l:yG) (id:RowID):=(zXw l id).fin default
abbrev zXk:=yG×Unit×Unit×Int×Unit
abbrev zXc:=At×yA×Unit
abbrev z9S:=Int⊕(yG×At×yA)
abbrev zXp:=yG×Unit×Unit×Unit×Int×Unit
abbrev zXb:=At×yA×yE×Unit
abbrev zbap:=Int⊕(At×yA×yE)
def zHH (zc5:yC->yG->Bool×(yC×Int)) (l:yG) (i:Int) (x_:At) (args:yA):Wy zXk zXc z9S:=.i (decide (i<Int.ofNat x_.Ag.length)) (.i (decide (0<=i)&&decide (i<Int.ofNat x_.Ag.length)) (.bn (zc5 (x_.Ag.getD i.toNat default) l) λr0=>.i (r0.2 != 0) (.k (.inl (r0.2))) (.i (decide ((args.length+[r0.1].length)*24<=zO)) (.h (l,(),(),(IntKind.i64.wrap (i+1)),()) (x_,(args++[r0.1]),())) .d)) .d) (.k (.inr (l,x_,args)))
def z6m (zc5:yC->yG->Bool×(yC×Int)) (x:zXk) (y:zXc):=zHH zc5 x.1 x.2.2.2.1 y.1 y.2.1
def zGO (zc5:yC->yG->Bool×(yC×Int)) (n:Nat) (l:yG) (i:Int) (x_:At) (args:yA):=zC (z6m zc5) (.inl default) n (l,(),(),i,()) (x_,args,())
def zFv (zc5:yC->yG->Bool×(yC×Int)) (l:yG) (i:Int) (x_:At) (args:yA) (items:yE):Wy zXp zXb zbap:=.i (decide (i<Int.ofNat x_.Items.length)) (.i (decide (0<=i)&&decide (i<Int.ofNat x_.Items.length)) (.bn (zc5 (x_.Items.getD i.toNat default).Ann l) λr2=>.i (r2.2 != 0) (.k (.inl (r2.2))) (.i (decide (0<=i)&&decide (i<Int.ofNat x_.Items.length)) (.i (decide ((items.length+[WO.mk (x_.Items.getD i.toNat default).Value r2.1].length)*56<=zO)) (.h (l,(),(),(),(IntKind.i64.wrap (i+1)),()) (x_,args,(items++[WO.mk (x_.Items.getD i.toNat default).Value r2.1]),())) .d) .d)) .d) (.k (.inr (x_,args,items)))
def z4Z (zc5:yC->yG->Bool×(yC×Int)) (x:zXp) (y:zXb):=zFv zc5 x.1 x.2.2.2.2.1 y.1 y.2.1 y.2.2.1
def zFz (zc5:yC->yG->Bool×(yC×Int)) (n:Nat) (l:yG) (i:Int) (x_:At) (args:yA) (items:yE):=zC (z4Z zc5) (.inl default) n (l,(),(),(),i,()) (x_,args,items,())
def zT9 (zc5:yC->yG->Bool×(yC×Int)) (x_:At) (l:yG):Wy0 (yC×Int):=.i (x_.Kind==0) (.bn (zRV l x_.Row) λr5=>.i (r5.2) (.k (r5.1,0)) (.bn (zFA x_.Row) λr4=>.k (r4,0))) (.bn (zGO zc5 (l.length+Int.toNat 0+x_.Ag.length+x_.Items.length+0+1) l 0 (At.mk x_.Kind x_.Row x_.Ag x_.Func x_.Items x_.Op x_.Bd) []) λr11=>.i (isL r11) (.k ([],getL r11)) (.bn (zFz zc5 ((getR r11).1.length+Int.toNat 0+(getR r11).2.1.Ag.length+(getR r11).2.1.Items.length+(getR r11).2.2.length+0+1) (getR r11).1 0 (At.mk (getR r11).2.1.Kind (getR r11).2.1.Row (getR r11).2.1.Ag (getR r11).2.1.Func (getR r11).2.1.Items (getR r11).2.1.Op (getR r11).2.1.Bd) (getR r11).2.2 []) λr10=>.i (isL r10) (.k ([],getL r10)) (.i ((getR r10).1.Kind==1) (.i (decide ((0:Int)<=(0:Int))&&decide (0<Int.ofNat (getR r10).2.1.length)) (.i (decide ((0:Int)<=(1:Int))&&decide (1<Int.ofNat (getR r10).2.1.length)) (.bn (zEY ((getR r10).2.1.getD (Int.toNat 0) default) ((getR r10).2.1.getD (Int.toNat 1) default)) λr6=>.k (r6.1,r6.2)) .d) .d) (.i ((getR r10).1.Kind==2) (.i (decide ((0:Int)<=(0:Int))&&decide (0<Int.ofNat (getR r10).2.1.length)) (.bn (zvN ((getR r10).2.1.getD (Int.toNat 0) default)) λr7=>.k (r7.1,r7.2)) .d) (.i ((getR r10).1.Kind==3) (.i (decide ((0:Int)<=(0:Int))&&decide (0<Int.ofNat (getR r10).2.1.length)) (.bn (zCp ((getR r10).2.1.getD (Int.toNat 0) default)) λr8=>.k (r8.1,r8.2)) .d) (.bn (zGI (getR r10).1.Func (getR r10).2.2 (getR r10).1.Op (getR r10).1.Bd) λr9=>.k (r9.1,r9.2)))))))
def zGv (zc5:yC->yG->Bool×(yC×Int)) (x_:At) (l:yG):=(zT9 zc5 x_ l).fin default
abbrev zOj:=yC×yG×yC×Int×yC×Int×yC×Int×Int×Unit
abbrev z5k:=yC×yG×yC×Int×yC×Int×Int
abbrev zOK:=yC×yG×yC×Int×yC×Int×Unit
abbrev z5g:=Int⊕(yC×yG×yC×Int×yC)
abbrev zPj:=yC×yG×yC×Int×Unit
abbrev z32:=Int⊕yC
def zAK (zcN:At->yG->Bool×(yC×Int)) (a:yC) (l:yG) (out_:yC) (i:Int) (t:yC) (k:Int) (x_:yC) (e:Int) (n_:Int):Wy zOj Unit z5k:=.i (decide (0<=i)&&decide (i<Int.ofNat a.length)) (.i (decide (0<=k)&&decide (k<Int.ofNat (a.getD i.toNat default).Fs.length)) (.i (decide (n_<((a.getD i.toNat default).Fs.getD k.toNat default).Exp)) (.i (e==0) (.bn (zKC t x_) λr8=>.h (a,l,out_,i,(r8.1),k,x_,(r8.2),(IntKind.i64.wrap (n_+1)),()) ()) (.k (a,l,out_,i,t,k,e))) (.k (a,l,out_,i,t,k,e))) .d) .d
def zYc (zcN:At->yG->Bool×(yC×Int)) (x:zOj) (y:Unit):=zAK zcN x.1 x.2.1 x.2.2.1 x.2.2.2.1 x.2.2.2.2.1 x.2.2.2.2.2.1 x.2.2.2.2.2.2.1 x.2.2.2.2.2.2.2.1 x.2.2.2.2.2.2.2.2.1
def zAR (zcN:At->yG->Bool×(yC×Int)) (n:Nat) (a:yC) (l:yG) (out_:yC) (i:Int) (t:yC) (k:Int) (x_:yC) (e:Int) (n_:Int):=zC (zYc zcN) default n (a,l,out_,i,t,k,x_,e,n_,()) ()
def zB7 (zcN:At->yG->Bool×(yC×Int)) (a:yC) (l:yG) (out_:yC) (i:Int) (t:yC) (k:Int):Wy zOK Unit z5g:=.i (decide (0<=i)&&decide (i<Int.ofNat a.length)) (.i (decide (k<Int.ofNat (a.getD i.toNat default).Fs.length)) (.i (decide (0<=i)&&decide (i<Int.ofNat a.length)) (.i (decide (0<=k)&&decide (k<Int.ofNat (a.getD i.toNat default).Fs.length)) (.bn (zcN (At.mk ((a.getD i.toNat default).Fs.getD k.toNat default).At.Kind ((a.getD i.toNat default).Fs.getD k.toNat default).At.Row ((a.getD i.toNat default).Fs.getD k.toNat default).At.Ag ((a.getD i.toNat default).Fs.getD k.toNat default).At.Func ((a.getD i.toNat default).Fs.getD k.toNat default).At.Items ((a.getD i.toNat default).Fs.getD k.toNat default).At.Op ((a.getD i.toNat default).Fs.getD k.toNat default).At.Bd) l) λr11=>.bn (zAR zcN ((a.length+l.length+out_.length+i.toNat +t.length+k.toNat +r11.1.length+r11.2.toNat +Int.toNat 0+1)+zb9 a+zb9 out_+zb9 t+zb9 r11.1) a l out_ i t k r11.1 r11.2 0) λr10=>.i (r10.2.2.2.2.2.2 != 0) (.k (.inl (r10.2.2.2.2.2.2))) (.h ((r10.1),(r10.2.1),(r10.2.2.1),(r10.2.2.2.1),(r10.2.2.2.2.1),(IntKind.i64.wrap (r10.2.2.2.2.2.1+1)),()) ())) .d) .d) (.k (.inr (a,l,out_,i,t)))) .d
def zZu (zcN:At->yG->Bool×(yC×Int)) (x:zOK) (y:Unit):=zB7 zcN x.1 x.2.1 x.2.2.1 x.2.2.2.1 x.2.2.2.2.1 x.2.2.2.2.2.1
def zCi (zcN:At->yG->Bool×(yC×Int)) (n:Nat) (a:yC) (l:yG) (out_:yC) (i:Int) (t:yC) (k:Int):=zC (zZu zcN) (.inl default) n (a,l,out_,i,t,k,()) ()
def zCx (zcN:At->yG->Bool×(yC×Int)) (a:yC) (l:yG) (out_:yC) (i:Int):Wy zPj Unit z32:=.i (decide (i<Int.ofNat a.length)) (.i (decide (0<=i)&&decide (i<Int.ofNat a.length)) (.bn (zvn (a.getD i.toNat default).Cf) λr16=>.bn (zCi zcN ((a.length+l.length+out_.length+i.toNat +r16.length+Int.toNat 0+1)+zb9 a+zb9 out_+zb9 r16) a l out_ i r16 0) λr15=>.i (isL r15) (.k (.inl (getL r15))) (.bn (zLp (getR r15).2.2.1 (getR r15).2.2.2.2) λr14=>.i (r14.2 != 0) (.k (.inl (r14.2))) (.h ((getR r15).1,(getR r15).2.1,(r14.1),(IntKind.i64.wrap ((getR r15).2.2.2.1+1)),()) ()))) .d) (.k (.inr out_))
def z1c (zcN:At->yG->Bool×(yC×Int)) (x:zPj) (y:Unit):=zCx zcN x.1 x.2.1 x.2.2.1 x.2.2.2.1
def zCh (zcN:At->yG->Bool×(yC×Int)) (n:Nat) (a:yC) (l:yG) (out_:yC) (i:Int):=zC (z1c zcN) (.inl default) n (a,l,out_,i,()) ()
def zMG (zcN:At->yG->Bool×(yC×Int)) (a:yC) (l:yG):Wy0 (yC×Int):=.bn (zCh zcN ((a.length+l.length+0+Int.toNat 0+1)+zb9 a+zb9 []) a l [] 0) λr20=>.i (isL r20) (.k ([],getL r20)) (.k (getR r20,0))
def zBq (zcN:At->yG->Bool×(yC×Int)) (a:yC) (l:yG):=(zMG zcN a l).fin default
def zG7:Nat->(yC->yG->Bool×(yC×Int))×(At->yG->Bool×(yC×Int))
 | 0=>(λ_ _=>(false,default),λ_ _=>(false,default))
 | n+1=>(zBq ((zG7 n).2),zGv ((zG7 n).1))
def zBA (n:Nat):yC->yG->Bool×(yC×Int):=(zG7 n).1
def zHQ (n:Nat):At->yG->Bool×(yC×Int):=(zG7 n).2
theorem zYR (n:Nat):zBA (n+1)=zBq (zHQ n):=rfl
theorem z6K (n:Nat):zHQ (n+1)=zGv (zBA n):=rfl
def zW4:yC->yG->Bool×(yC×Int):=zBA 1000
abbrev zIv:=yC×yG×Int×Unit
abbrev zYB:=Int⊕(yC×yG)
def zA1 (a:yC) (l:yG) (i:Int):Wy zIv Unit zYB:=.i (decide (i<Int.ofNat l.length)) (.i (decide (0<=i)&&decide (i<Int.ofNat l.length)) (.bn (zgv (l.getD i.toNat default).To) λr0=>.i (!r0) (.k (.inl 1)) (.h (a,l,(IntKind.i64.wrap (i+1)),()) ())) .d) (.k (.inr (a,l)))
def zX8 (x:zIv) (y:Unit):=zA1 x.1 x.2.1 x.2.2.1
def zAM (n:Nat) (a:yC) (l:yG) (i:Int):=zC (zX8) (.inl default) n (a,l,i,()) ()
def zK2 (a:yC) (l:yG):Wy0 (yC×Int):=.bn (zgv a) λr4=>.i (!r4) (.k ([],1)) (.bn (zAM (a.length+l.length+Int.toNat 0+1) a l 0) λr3=>.i (isL r3) (.k ([],getL r3)) (.bn (zW4 (getR r3).1 (getR r3).2) λr2=>.k (r2.1,r2.2)))
def zFm (a:yC) (l:yG):=(zK2 a l).fin default
def toA:yG->RowID->yC
 | [],r=>zv4 r
 | b::l,r=>if b.Row=r then b.To else toA l r
def okB (l:yG):Prop:=l.length<=1000/\∀ b∈l,okA b.To
theorem zba0:∀ {l:yG},(∀ b∈l,okA b.To)->okT (toA l)
 | [],_,r,hr=>by rw [toA]; exact zbjN hr
 | b::l,h,r,hr=>by
  rw [toA];split
  ·exact h b (by simp)
  ·exact zba0 (λc hc=>h c (by simp [hc])) r hr
theorem zbdX (a b:RowID):(a.Table==b.Table&&(a.Seq==b.Seq&&true))=decide (a=b):=by
 obtain ⟨t,s⟩:=a; obtain ⟨t',s'⟩:=b;rw [Bool.and_true,zh8,zh8, <- Bool.decide_and];congr 1;simp
theorem zbhh (a b:RowID):(a.Table==b.Table&&a.Seq==b.Seq)=decide (a=b):=by rw [<- zbdX,Bool.and_true]
theorem zbdu:∀ (l:yG) (r:RowID) (i:Nat),(ixf (λb=>decide (b.Row=r)) l i= -1/\toA l r=zv4 r)\/∃ j,j<l.length/\ixf (λb=>decide (b.Row=r)) l i=((i+j:Nat):Int)/\toA l r=(l.getD j default).To
 | [],r,i=>.inl ⟨rfl,rfl⟩
 | b::l,r,i=>by
  rw [ixf,toA];by_cases h:b.Row=r
  ·rw [decide_eq_true h,cond_true,if_pos h];exact .inr ⟨0,by simp,rfl,rfl⟩
  ·rw [decide_eq_false h,cond_false,if_neg h];rcases zbdu l r (i+1) with ⟨h1,h2⟩ | ⟨j,h1,h2,h3⟩
   ·exact .inl ⟨h1,h2⟩
   ·exact .inr ⟨j+1,by simp; omega,by rw [h2]; congr 1; omega,h3⟩
theorem zbld {l:yG} (h:okB l) (r:RowID):ziA r l=(true,toA l r):=by
 unfold ziA zzX
 have hi:zcP l r=(true,ixf (λb=>decide (b.Row=r)) l 0):=by
  have e:zcP l r=IH (λ(g:RowID×Unit) x=>zgN x g.1) (l.length+(Int.ofNat l.length).toNat +Int.toNat (0:Int)+(1:Nat)) (r,()) l:=rfl
  rw [e]
  exact zbhU _ _ _ _ _ (by have:=h.1; omega) (λx _=>by
   unfold zgN zwe;rw [Wy.fin_k,zbdX]) (by omega)
 rw [Wy.fin_bn,hi];rcases zbdu l r 0 with ⟨h1,h2⟩ | ⟨j,h1,h2,h3⟩
 ·rw [h1,h2];simp only [cond_true,Wy.fin_i,Wy.fin_bn,Wy.fin_k,(zbfO r).1];rfl
 ·rw [Nat.zero_add] at h2;rw [h2,h3];have hm:=h.2 _ (zp h1);have e1:decide ((j:Int)≥(0:Int))=true:=by simp
  simp only [cond_true,Wy.fin_i,Wy.fin_bn,Wy.fin_k,e1,tT,h1,zKX hm.1.1 (show (12:Nat)<=100 by omega)]
theorem zbgZ {l:yG} (h:okB l) (r:RowID):∃ b q,zRV l r=(true,(b,q))/\((q=true/\b=toA l r)\/(q=false/\toA l r=zv4 r)):=by
 have key:∀ (n i:Nat),l.length<i+n->i<=l.length->∃ x,zJM n l i r=(true,x)/\((x=.inl (toA (l.drop i) r,true))\/(x=.inr ()/\toA (l.drop i) r=zv4 r)):=by
  intro n;induction n with
  | zero=>intro i h1 h2; omega
  | succ n ih=>
   intro i h1 h2;have hlen:=h.1;show ∃ x,(zJB l i r).ev (λx y=>zJM n x.1 x.2.2.1 y.1) (λr=>(true,r)) (false,.inl default)=(true,x)/\_
   unfold zJB;by_cases hi:i<l.length
   ·simp only [Wy.ev_i,Wy.ev_k,Wy.ev_h,Wy.ev_bn,Wy.ev_d,tT,hi,zbhh];rw [zbC hi,toA];by_cases hr:(l.getD i default).Row=r
    ·rw [decide_eq_true hr,if_pos hr,cond_true];exact ⟨_,rfl,.inl rfl⟩
    ·rw [decide_eq_false hr,if_neg hr,cond_false,zN (by omega)]
     exact ih (i+1) (by omega) (by omega)
   ·simp only [Wy.ev_i,Wy.ev_k,Wy.ev_h,Wy.ev_bn,Wy.ev_d,tT,hi];rw [zdj hi];exact ⟨_,rfl,.inr ⟨rfl,rfl⟩⟩
 obtain ⟨x,h1,h2⟩:=key (l.length+Int.toNat (0:Int)+(1:Nat)) 0 (by omega) (by omega)
 unfold zRV zXw;rw [show ((0:Nat):Int)=(0:Int) from rfl] at h1
 rw [Wy.fin_bn,h1];rw [List.drop_zero] at h2;rcases h2 with rfl | ⟨rfl,h2⟩
 ·exact ⟨_,_,rfl,.inl ⟨rfl,rfl⟩⟩
 ·exact ⟨_,_,rfl,.inr ⟨rfl,h2⟩⟩
def RS (s:Int⊕yC) (e:Int) (p:yC):Prop:=match s with
 | .inl x=>e=x/\x≠0
 | .inr q=>e=0/\p=q
theorem zbhY (r:yC×Int):RS (opS r) r.2 r.1:=by
 unfold opS;by_cases h:r.2=0
 ·rw [if_pos h]; exact ⟨h,rfl⟩
 ·rw [if_neg h]; exact ⟨rfl,h⟩
theorem zbcs (b:yC) (s:Int⊕yC):sbd s (zC0 b 0)=s:=by cases s <;>rfl
section
variable (g:At->yG->Bool×(yC×Int)) (to:yG)
theorem zbei (b:yC) (hb:okA b) (t16:yC) (t17 t18:Int) (t26:yD) (t27 t28:Int) (N:Nat) (hN:N<=1000000) (sum:yC):
  ∀ (n i:Nat) (e:Int) (p:yC) (s:Int⊕yC),N<i+n->i<=N->GS s->RS s e p->∃ e' p',zsy g n to b e t16 t17 t18 t26 t27 t28 N i sum p=(true,(to,e',t16,t17,t18,t26,t27,t28,sum,p'))/\RS (sbd s (zC0 b (N - i))) e' p'
 | 0,i,e,p,s,h1,h2,_,_=>by omega
 | n+1,i,e,p,s,h1,h2,hs,hr=>by
  show ∃ e' p',(zsD g to b e t16 t17 t18 t26 t27 t28 N i sum p).ev (λx y=>zsy g n x.1.1.1 x.2.2.2.1 x.2.2.2.2.1 x.2.2.2.2.2.1 x.2.2.2.2.2.2.1 x.2.2.2.2.2.2.2.1 x.2.2.2.2.2.2.2.2.1 x.2.2.2.2.2.2.2.2.2.1 x.2.2.2.2.2.2.2.2.2.2.1 x.2.2.2.2.2.2.2.2.2.2.2.1 x.2.2.2.2.2.2.2.2.2.2.2.2.1 y.1 y.2.1) (λr=>(true,r)) (false,default)=_/\_
  unfold zsD;by_cases hi:i<N
  ·have hk:N - i=(N - (i+1))+1:=by omega
   cases s with
   | inl x=>
    obtain ⟨rfl,hx⟩:=hr;have he:(e==(0:Int))=false:=by simp [hx]
    simp only [Wy.ev_i,Wy.ev_k,Wy.ev_h,Wy.ev_bn,Wy.ev_d,zEM,hi,decide_true,cond_true,he,cond_false,zN (show i<4611686018427387904 by omega)]
    exact zbei b hb t16 t17 t18 t26 t27 t28 N hN sum n (i+1) e p (.inl e) (by omega) (by omega) hs ⟨rfl,hx⟩
   | inr q=>
    obtain ⟨rfl,rfl⟩:=hr;have hp:okA p:=hs;simp only [Wy.ev_i,Wy.ev_k,Wy.ev_h,Wy.ev_bn,Wy.ev_d,zEM,hi,decide_true,cond_true,(zbkp hp hb).1,zN (show i<4611686018427387904 by omega),show ((0:Int)==0)=true from rfl]
    rw [hk];exact zbei b hb t16 t17 t18 t26 t27 t28 N hN sum n (i+1) (zEl p b).2 (zEl p b).1 (opS (zEl p b)) (by omega) (by omega) (zRo (z8Z hp hb)) (zbhY _)
  ·have hk:N - i=0:=by omega
   simp only [Wy.ev_i,Wy.ev_k,zEM,hi,decide_false,cond_false];rw [hk,zbcs];exact ⟨e,p,rfl,hr⟩
def AG (l:yD):Prop:=∀ f∈l,(g f.At to=(true,ofS (zeJ (toA to) f.At))/\GS (zeJ (toA to) f.At))/\0<=f.Exp/\f.Exp<=1000000
theorem zbgg {s:Int⊕yC} (h:GS s):okA (ofS s).1:=by
 cases s with
 | inl e=>exact zlu
 | inr a=>exact h
theorem zbbZ {s:Int⊕yC} (h:GS s) (p:yC):RS (sbd s λ_=>.inr p) (ofS s).2 p:=by
 cases s with
 | inl e=>exact ⟨rfl,h⟩
 | inr a=>exact ⟨rfl,rfl⟩
theorem zbbp {s:Int⊕yC} (h:GS s) {p:yC} (hp:okA p):GS (sbd s λ_=>.inr p):=zQ4 h λ_ _=>hp
theorem z9f {s:Int⊕yC} (p:yC) (N:Nat):sbd (sbd s λ_=>.inr p) (zC0 (ofS s).1 N)=sbd s λb=>zC0 b N p:=by
 cases s <;>rfl
theorem zbjJ (l:yD) (hl:l.length<=1000000) (hg:AG g to l) (t16:yC) (t17 t18:Int) (sum:yC):
  ∀ (n i:Nat) (p:yC),l.length<i+n->i<=l.length->okA p->zui g n to t16 t17 t18 l l.length i sum p=(true,match zdz (toA to) (l.drop i) p with
   | .inl e=>.inl e
   | .inr q=>.inr (to,t16,t17,t18,sum,q))
 | 0,i,p,h1,h2,_=>by omega
 | n+1,i,p,h1,h2,hp=>by
  show (zt8 g to t16 t17 t18 l l.length i sum p).ev (λx y=>zui g n x.1.1.1 x.2.2.2.1 x.2.2.2.2.1 x.2.2.2.2.2.1 x.2.2.2.2.2.2.1 x.2.2.2.2.2.2.2.1 x.2.2.2.2.2.2.2.2.1 y.1 y.2.1) (λr=>(true,r)) (false,.inl default)=_
  unfold zt8;by_cases hi:i<l.length
  ·obtain ⟨⟨hf,hG⟩,e0,e1⟩:=hg _ (zp hi);obtain ⟨N,hN⟩:∃ N:Nat,(l.getD i default).Exp=(N:Int):=⟨_,(Int.toNat_of_nonneg e0).symm⟩
   obtain ⟨e',p',h11,hrs⟩:=zbei g to (ofS (zeJ (toA to) (l.getD i default).At)).1 (zbgg hG) t16 t17 t18 l l.length i N (by omega) sum
    (to.length+(ofS (zeJ (toA to) (l.getD i default).At)).1.length+(ofS (zeJ (toA to) (l.getD i default).At)).2.toNat +t16.length+t17.toNat +t18.toNat +l.length+(l.length:Int).toNat +(i:Int).toNat +(N:Int).toNat +Int.toNat (0:Int)+sum.length+p.length+(1:Nat)) 0 _ p _ (by omega) (by omega) (zbbp hG hp) (zbbZ hG p)
   rw [z9f,Nat.sub_zero] at hrs;rw [show ((0:Nat):Int)=(0:Int) from rfl] at h11
   rw [zbC hi,zJh,hN,Int.toNat_natCast];simp only [Wy.ev_i,Wy.ev_k,Wy.ev_h,Wy.ev_bn,Wy.ev_d,tT,hi,At.eta,hf,hN,zA4];rw [show Int.toNat (l.length:Int)=l.length from Int.toNat_natCast _,show Int.toNat (i:Int)=i from Int.toNat_natCast _,show Int.toNat (N:Int)=N from Int.toNat_natCast _] at h11
   rw [h11];have hS:=hG;revert hrs hS;cases zeJ (toA to) (l.getD i default).At with
   | inl x=>
    rintro ⟨rfl,hx⟩ _
    simp [hx,zFR]
   | inr b=>
    intro hrs hb;simp only [zco] at hrs ⊢;have hq:=z5Y (b:=b) hb N p hp;revert hrs hq;cases zC0 b N p with
    | inl x=>
     rintro ⟨rfl,hx⟩ _
     simp [hx,zFR]
    | inr q=>
     rintro ⟨rfl,rfl⟩ hq
     simp only [zco,decide_true,Bool.not_true,cond_true,cond_false,zN (show i<4611686018427387904 by omega)]
     exact zbjJ l hl hg t16 t17 t18 sum n (i+1) p' (by omega) (by omega) hq
  ·simp only [Wy.ev_i,Wy.ev_k,Wy.ev_h,Wy.ev_bn,Wy.ev_d,tT,hi];rw [zdj hi,zLQ]
theorem zbkm (l:yC) (hl:l.length<=1000000) (hg:∀ t∈l,t.Fs.length<=1000000/\AG g to t.Fs) (hok:∀ t∈l,∀ p,okA p->GS (zdz (toA to) t.Fs p)):
  ∀ (n i:Nat) (s:yC),l.length<i+n->i<=l.length->okA s->zt7 g n to l l.length i s=(true,zcu (toA to) (l.drop i) s)
 | 0,i,s,h1,h2,_=>by omega
 | n+1,i,s,h1,h2,hs=>by
  show (ztV g to l l.length i s).ev (λx y=>zt7 g n x.1.1.1 x.2.2.1 x.2.2.2.1 x.2.2.2.2.1 y.1) (λr=>(true,r)) (false,.inl default)=_
  unfold ztV;by_cases hi:i<l.length
  ·have ht:=hg _ (zp hi);have hc:=zbb0 (l.getD i default).Cf;have h7:=zbjJ g to (l.getD i default).Fs ht.1 ht.2 l l.length i s (to.length+l.length+(l.length:Int).toNat +(i:Int).toNat +(l.getD i default).Fs.length+((l.getD i default).Fs.length:Int).toNat +Int.toNat (0:Int)+s.length+(zvm (l.getD i default).Cf).length+(1:Nat)) 0 (zvm (l.getD i default).Cf) (by omega) (by omega) hc
   rw [show ((0:Nat):Int)=(0:Int) from rfl,List.drop_zero] at h7
   simp only [Int.toNat_natCast] at h7;rw [zbC hi,zWD];simp only [Wy.ev_i,Wy.ev_k,Wy.ev_h,Wy.ev_bn,Wy.ev_d,tT,hi,(zbhP _).1];rw [h7];have hS:=hok _ (zp hi) _ hc;revert hS;cases zdz (toA to) (l.getD i default).Fs (zvm (l.getD i default).Cf) with
   | inl e=>intro _; rfl
   | inr p=>
    intro hp;have hp:okA p:=hp;simp only [zco,isL,getR,cond_true,cond_false,(zbjY hs hp).1,zA4];have hG:=z8X hs hp;unfold opS;by_cases he:(zFo s p).2=0
    ·rw [if_pos he,decide_eq_true he,zco,zN (show i<4611686018427387904 by omega)]
     exact zbkm l hl hg hok n (i+1) _ (by omega) (by omega) hG.1
    ·rw [if_neg he,decide_eq_false he]; rfl
  ·simp only [Wy.ev_i,Wy.ev_k,Wy.ev_h,Wy.ev_bn,Wy.ev_d,tT,hi];rw [zdj hi,z0Y]
theorem zbll (a:yC) (hl:a.length<=1000000) (hg:∀ t∈a,t.Fs.length<=1000000/\AG g to t.Fs) (hok:∀ t∈a,∀ p,okA p->GS (zdz (toA to) t.Fs p)):zmo g a to=(true,ofS (zcu (toA to) a [])):=by
 unfold zmo zEX;have h3:=zbkm g to a hl hg hok (to.length+a.length+(Int.ofNat a.length).toNat +Int.toNat (0:Int)+(0:Nat)+(1:Nat)) 0 [] (by omega) (by omega) zlu
 rw [show ((0:Nat):Int)=(0:Int) from rfl,List.drop_zero] at h3
 rw [Wy.fin_bn,show Int.ofNat a.length=(a.length:Int) from rfl] at *
 rw [h3];cases zcu (toA to) a [] <;>rfl
end
section
variable (g:yC->yG->Bool×(yC×Int)) (to:yG)
theorem zbkq (x:At) (l:yA) (hl:l.length<=1000000) (hg:∀ a∈l,g a to=(true,ofS (zcu (toA to) a []))/\GS (zcu (toA to) a [])):
  ∀ (n i:Nat) (xs:yA),l.length<i+n->i<=l.length->xs.length<=i->zkt g n to l l.length i x xs=(true,match zjN (toA to) (l.drop i) with
   | .inl e=>.inl e
   | .inr ys=>.inr (to,x,xs++ys))
 | 0,i,xs,h1,h2,_=>by omega
 | n+1,i,xs,h1,h2,hx=>by
  have hreach:zO=70368744177664:=rfl;show (zoA g to l l.length i x xs).ev (λx y=>zkt g n x.1.1.1 x.2.2.2.1 x.2.2.2.2.1 x.2.2.2.2.2.1 y.1 y.2.1) (λr=>(true,r)) (false,.inl default)=_
  unfold zoA;by_cases hi:i<l.length
  ·obtain ⟨hf,hG⟩:=hg _ (zp hi);have hb:decide ((xs.length+1)*24<=zO)=true:=by simp only [qe]; omega
   rw [zbC hi,zAG];simp only [Wy.ev_i,Wy.ev_k,Wy.ev_h,Wy.ev_bn,Wy.ev_d,tT,hi,hf,zA4,List.length_singleton,hb];revert hG;cases zcu (toA to) (l.getD i default) [] with
   | inl e=>intro he; simp [ofS,show e≠0 from he,zFR]
   | inr b=>
    intro _;simp only [ofS,decide_true,Bool.not_true,cond_false,zco,zN (show i<4611686018427387904 by omega)]
    rw [zbkq x l hl hg n (i+1) (xs++[b]) (by omega) (by omega) (by simp; omega)]
    cases zjN (toA to) (l.drop (i+1)) with
    | inl e=>rfl
    | inr ys=>simp [zco]
  ·simp only [Wy.ev_i,Wy.ev_k,Wy.ev_h,Wy.ev_bn,Wy.ev_d,tT,hi];rw [zdj hi,zDF]; simp
theorem zbhS (x:At) (l:yE) (hl:l.length<=1000000) (hg:∀ w∈l,g w.Ann to=(true,ofS (zcu (toA to) w.Ann []))/\GS (zcu (toA to) w.Ann [])):
  ∀ (n i:Nat) (xs:yE),l.length<i+n->i<=l.length->xs.length<=i->zjp g n to l l.length i x xs=(true,match zgj (toA to) (l.drop i) with
   | .inl e=>.inl e
   | .inr ys=>.inr (x,xs++ys))
 | 0,i,xs,h1,h2,_=>by omega
 | n+1,i,xs,h1,h2,hx=>by
  have hreach:zO=70368744177664:=rfl;show (znZ g to l l.length i x xs).ev (λx y=>zjp g n x.1.1.1 x.2.2.2.1 x.2.2.2.2.1 x.2.2.2.2.2.1 y.1 y.2.1) (λr=>(true,r)) (false,.inl default)=_
  unfold znZ;by_cases hi:i<l.length
  ·obtain ⟨hf,hG⟩:=hg _ (zp hi);have hb:decide ((xs.length+1)*56<=zO)=true:=by simp only [qe]; omega
   rw [zbC hi,zP5];simp only [Wy.ev_i,Wy.ev_k,Wy.ev_h,Wy.ev_bn,Wy.ev_d,tT,hi,hf,zA4,List.length_singleton,hb];revert hG;cases zcu (toA to) (l.getD i default).Ann [] with
   | inl e=>intro he; simp [ofS,show e≠0 from he,zFR]
   | inr b=>
    intro _;simp only [ofS,decide_true,Bool.not_true,cond_false,zco,zN (show i<4611686018427387904 by omega)]
    rw [zbhS x l hl hg n (i+1) (xs++[WO.mk (l.getD i default).Value b]) (by omega) (by omega) (by simp; omega)]
    cases zgj (toA to) (l.drop (i+1)) with
    | inl e=>rfl
    | inr ys=>simp [zco]
  ·simp only [Wy.ev_i,Wy.ev_k,Wy.ev_h,Wy.ev_bn,Wy.ev_d,tT,hi];rw [zdj hi,zJ0]; simp
structure XG (x:At):Prop where
 va:zpR x=true
 lens:x.Ag.length<=1000000/\x.Items.length<40
 ga:∀ a∈x.Ag,g a to=(true,ofS (zcu (toA to) a []))/\GS (zcu (toA to) a [])
 gi:∀ w∈x.Items,g w.Ann to=(true,ofS (zcu (toA to) w.Ann []))/\GS (zcu (toA to) w.Ann [])
 sa:GL x.Ag.length (zjN (toA to) x.Ag)
 si:GI x.Items (zgj (toA to) x.Items)
 wf:zgG x
theorem zbi0 {f o:Int} {i l:yE} {b:Value} (h20:i.length<40) (hl:l.length=i.length/\∀ w∈l,okA w.Ann/\∃ v∈i,v.Value=w.Value):zpD f l o b=(true,zzp f l o b)/\zGI f l o b=(true,zzp f l o b):=by
 have h1:∀ w∈l,zo 12 w.Ann/\zL w.Ann<=4611686018427387904:=λw hw=>(hl.2 w hw).1.1
 have h2:(l.filter zn1).length<40:=Nat.lt_of_le_of_lt (List.length_filter_le _ _) (by omega)
 exact ⟨zbiW f l o b (by omega) h1 (by omega) h2,zbbu f l o b (by omega) h1 (by omega)⟩
theorem z86 {x:At} (h:zpR x=true):(x.Kind=1->x.Ag.length=2)/\(x.Kind=2\/x.Kind=3->x.Ag.length=1):=by
 cases zVb.1 h <;>simp
theorem zbiC (hto:okB to) (x:At) (h:XG g to x):ziE g x to=(true,ofS (zeJ (toA to) x)):=by
 unfold ziE zAm;have h5:=zbkq g to x x.Ag h.lens.1 h.ga (to.length+x.Ag.length+(Int.ofNat x.Ag.length).toNat +Int.toNat (0:Int)+x.Ag.length+x.Items.length+(0:Nat)+(1:Nat)) 0 [] (by omega) (by omega) (by simp)
 rw [show ((0:Nat):Int)=(0:Int) from rfl,List.drop_zero] at h5
 have h5':zkt g (to.length+x.Ag.length+(Int.ofNat x.Ag.length).toNat +Int.toNat (0:Int)+x.Ag.length+x.Items.length+(0:Nat)+(1:Nat)) to x.Ag (Int.ofNat x.Ag.length) 0 x []=_:=h5;have h21:=zbhS g to x x.Items (by have:=h.lens.2; omega) h.gi (to.length+x.Items.length+(Int.ofNat x.Items.length).toNat +Int.toNat (0:Int)+x.Ag.length+x.Items.length+(0:Nat)+(1:Nat)) 0 [] (by omega) (by omega) (by simp)
 rw [show ((0:Nat):Int)=(0:Int) from rfl,List.drop_zero] at h21
 have h21':zjp g (to.length+x.Items.length+(Int.ofNat x.Items.length).toNat +Int.toNat (0:Int)+x.Ag.length+x.Items.length+(0:Nat)+(1:Nat)) to x.Items (Int.ofNat x.Items.length) 0 x []=_:=h21;rw [At.eta,zYV];have b0:=zh8 x.Kind 0;have b1:=zh8 x.Kind 1;have b2:=zh8 x.Kind 2;have b3:=zh8 x.Kind 3;simp only [Wy.fin_i,Wy.fin_bn,Wy.fin_k,zbld hto,cond_true,h5',List.nil_append];by_cases hk0:x.Kind=0
 ·rw [b0,decide_eq_true hk0,if_pos hk0]; rfl
 ·rw [b0,decide_eq_false hk0,if_neg hk0,cond_false];have hA:=h.sa;have hlen:=z86 h.va;revert hA;cases zjN (toA to) x.Ag with
  | inl e=>intro _; rfl
  | inr xs=>
   intro hxs;have hxl:xs.length=x.Ag.length/\∀ a∈xs,okA a:=hxs;have o0:=zJi hxl.2 0;have o1:=zJi hxl.2 1;simp only [isL,getR,cond_false,zco];by_cases hk1:x.Kind=1
   ·have:=hlen.1 hk1;rw [b1,decide_eq_true hk1,if_pos hk1];simp only [cond_true,show Int.toNat (0:Int)=0 from rfl,show Int.toNat (1:Int)=1 from rfl,(zbhs o0 o1).1,zFG (z7L o0 o1).2]
    simp [hxl.1,this]
   ·rw [b1,decide_eq_false hk1,if_neg hk1,cond_false];by_cases hk2:x.Kind=2
    ·have:=hlen.2 (.inl hk2);rw [b2,decide_eq_true hk2,if_pos hk2];simp only [cond_true,show Int.toNat (0:Int)=0 from rfl,show Int.toNat (1:Int)=1 from rfl,(zbhp o0).1,zFG (z8Y o0).2]
     simp [hxl.1,this]
    ·rw [b2,decide_eq_false hk2,if_neg hk2,cond_false];by_cases hk3:x.Kind=3
     ·have:=hlen.2 (.inr hk3);rw [b3,decide_eq_true hk3,if_pos hk3];simp only [cond_true,show Int.toNat (0:Int)=0 from rfl,show Int.toNat (1:Int)=1 from rfl,(zbfJ o0).1,zFG (z79 o0).2]
      simp [hxl.1,this]
     ·rw [b3,decide_eq_false hk3,if_neg hk3,cond_false,At.eta,h21'];have hI:=h.si;revert hI;cases zgj (toA to) x.Items with
      | inl e=>intro _; rfl
      | inr is=>
       intro his;have ht:=zbi0 (f:=x.Func) (o:=x.Op) (b:=x.Bd) h.lens.2 his;simp only [cond_true,cond_false,List.nil_append,ht.1,zco];have hw:=zoo h.wf;have hl:is.length=x.Items.length/\∀ w∈is,okA w.Ann/\∃ v∈x.Items,v.Value=w.Value:=his
       rw [zFG (zZt (by have:=h.lens.2; omega) (λw hw'=>⟨(hl.2 w hw').1,by
        obtain ⟨v,hv,e⟩:=(hl.2 w hw').2;rw [<- e]; exact (zgs hw.2.1.1 v hv).1⟩) hw.2.2.2.2.2.1 hw.2.2.2.2.2.2 hw.2.2.1).2]
end
theorem zbgV {a b:yC} (ha:okA a) (hb:okA b):zLp a b=(true,zFo a b):=by
 unfold zLp zS6 zFo;simp only [Wy.fin_bn,Wy.fin_i,Wy.fin_k,ha.rvalid,hb.rvalid,cond_true];cases va:zU a with
 | false=>first | trivial | rfl
 | true=>
  cases vb:zU b with
  | false=>first | trivial | rfl
  | true=>
   obtain ⟨sa,la,ta⟩:=znQ va ha.2.1;obtain ⟨sb,lb,tb⟩:=znQ vb hb.2.1;have ga:∀ t∈a,GT t:=λt ht=>(ta t ht).1
   have gb:∀ t∈b,GT t:=λt ht=>(tb t ht).1
   have hsl:(zgy a b).length<=1000000:=by have:=zF2 b a; omega
   obtain ⟨f1,f2⟩:=z0T hsl (zKu b a sa ga gb);simp only [Bool.not_true,cond_false,Bool.and_self,zbdM a b ga gb sa la lb,zC8 f1 (by omega:10<=100) f2,cond_true] <;>first | trivial | rfl
theorem zbhM {a b:yC} (ha:okA a) (hb:okA b):zKC a b=(true,zEl a b):=by
 unfold zKC zSD zEl;simp only [Wy.fin_bn,Wy.fin_i,Wy.fin_k,ha.rvalid,hb.rvalid,cond_true];cases va:zU a with
 | false=>first | trivial | rfl
 | true=>
  cases vb:zU b with
  | false=>first | trivial | rfl
  | true=>
   obtain ⟨sa,la,ta⟩:=znQ va ha.2.1;obtain ⟨sb,lb,tb⟩:=znQ vb hb.2.1;have hpl:(zfw a b).length<=1000000:=by rw [zRe]; have:=Nat.mul_le_mul la lb; omega
   have hsl:(zqO a b).length<=1000000:=by have:=zF2 (zfw a b) []; simp at this; exact Nat.le_trans this hpl
   obtain ⟨f1,f2⟩:=z0T hsl (zKu (zfw a b) [] .nil (λt ht=>by cases ht) (zWe ta tb))
   have f1:zo 10 (zqO a b):=f1;have f2:zL (zqO a b)<=4611686018427387904:=f2;simp only [Bool.not_true,cond_false,Bool.and_self,zbcQ a b ta tb la lb,zC8 f1 (by omega:10<=100) f2,cond_true] <;>first | trivial | rfl
theorem zbeS {a b:yC} (ha:okA a) (hb:okA b):zEY a b=(true,zOe a b):=by
 unfold zEY zMj zOe;simp only [Wy.fin_bn,Wy.fin_i,Wy.fin_k,ha.rvalid,hb.rvalid,cond_true];cases va:zU a with
 | false=>first | trivial | rfl
 | true=>
  cases vb:zU b with
  | false=>first | trivial | rfl
  | true=>
   obtain ⟨f1,f2⟩:=zFq (l:=[a,b]) (k:=1) (by simp) (λx hx=>by
    simp only [qd,List.not_mem_nil,or_false] at hx;rcases hx with rfl | rfl
    ·exact va
    ·exact vb)
   simp only [Bool.not_true,cond_false,Bool.and_self,zN9,zMA ha.1.1 (by omega:12<=100),zGa,zC8 f1 (by omega:10<=100) f2,cond_true,opR]
   by_cases hb0:b=[]
   ·simp only [hb0,decide_true,cond_true,if_true] <;>trivial
   ·by_cases ha0:a=[]
    ·simp only [hb0,ha0,decide_true,decide_false,cond_true,cond_false,if_true,if_false,true_or] <;>trivial
    ·by_cases hab:a=b
     ·simp only [hb0,ha0,hab,decide_true,decide_false,cond_true,cond_false,if_true,if_false,or_true] <;>trivial
     ·simp only [hb0,ha0,hab,decide_false,cond_false,if_false,or_self] <;>first | trivial | rfl
theorem zbeG {a:yC} (ha:okA a):zvN a=(true,zPk a):=by
 unfold zvN zLX zPk;simp only [Wy.fin_bn,Wy.fin_i,Wy.fin_k,ha.rvalid,cond_true];cases va:zU a with
 | false=>first | trivial | rfl
 | true=>
  obtain ⟨f1,f2⟩:=zFq (l:=[a]) (k:=2) (by simp) (λx hx=>by rw [qh] at hx; subst hx; exact va)
  have hla:a.length<=1000000000:=by have:=(ze5 va).2.2; omega
  have hbu:isB a=isU a:=zPK va;simp only [Bool.not_true,cond_false,zN9,zHd,zqg a hla,zGa,zC8 f1 (by omega:10<=100) f2,cond_true,opR,hbu]
  rw [show zoH (zcB ⟨2,⟨0,0⟩,[a],0,[],0,⟨0,0,ByteArray.mk #[]⟩⟩)=zoH (zcB (zZs a)) from rfl]
  clear f1 f2;generalize zoH (zcB (zZs a))=R;by_cases h0:a=[]
  ·simp only [h0,decide_true,cond_true,if_true,true_or] <;>trivial
  ·cases hu:isU a with
   | true=>simp only [h0,decide_false,cond_false,cond_true,if_true,or_true] <;>trivial
   | false=>
    simp only [h0,decide_false,cond_false,if_false,or_self,Bool.false_eq_true]
    match a,h0 with
    | [t],_=>
     have e1:zv7 [t]=(t.Fs.length==0):=by simp [zv7]
     have e2:isC [t]=(t.Fs.length==0):=rfl;rw [e1,e2];cases (t.Fs.length==0) with
     | true=>simp only [cond_true,if_true] <;>first | trivial | rfl
     | false=>simp only [cond_false,cond_true,Bool.false_eq_true,if_false] <;>first | trivial | rfl
    | t::s::r,_=>
     have e2:isC (t::s::r)=false:=rfl;simp only [zOz,e2,cond_false,cond_true,Bool.false_eq_true,if_false]
theorem zbdl {a:yC} (ha:okA a):zCp a=(true,zOV a):=by
 unfold zCp zJr zOV;simp only [Wy.fin_bn,Wy.fin_i,Wy.fin_k,ha.rvalid,cond_true];cases va:zU a with
 | false=>first | trivial | rfl
 | true=>
  obtain ⟨f1,f2⟩:=zFq (l:=[a]) (k:=3) (by simp) (λx hx=>by rw [qh] at hx; subst hx; exact va)
  have hla:a.length<=1000000000:=by have:=(ze5 va).2.2; omega
  simp only [Bool.not_true,cond_false,zN9,zqg a hla,zGa,zC8 f1 (by omega:10<=100) f2,cond_true,opR]
  by_cases h0:a=[]
  ·simp only [h0,decide_true,cond_true,if_true] <;>first | trivial | rfl
  ·cases hu:zv7 a with
   | true=>simp only [h0,decide_false,cond_false,cond_true,if_true,if_false] <;>trivial
   | false=>simp only [h0,decide_false,cond_false,if_false,Bool.false_eq_true] <;>first | trivial | rfl
theorem zbes (n:Int):zvn n=(true,zvm n):=by
 unfold zvn zMg zvm;by_cases h:n<1
 ·simp only [Wy.fin_i,Wy.fin_k,h,decide_true,cond_true,if_true]
 ·simp only [Wy.fin_i,Wy.fin_k,h,decide_false,cond_false,if_false]
theorem zbgX {f o:Int} {i l:yE} {b:Value} (h20:i.length<=1000000) (hl:l.length=i.length/\∀ w∈l,okA w.Ann/\∃ v∈i,v.Value=w.Value):zGI f l o b=(true,zzp f l o b):=by
 have h1:∀ w∈l,zo 12 w.Ann/\zL w.Ann<=4611686018427387904:=λw hw=>(hl.2 w hw).1.1
 exact zbbu f l o b (by omega) h1 (by omega)
theorem zbbA:∀ (l:yD) (k:Nat),k<l.length->(l.getD k default).Exp.toNat<=zLz l
 | [],k,h=>by simp at h
 | f::r,0,_=>by show f.Exp.toNat<=_; rw [zLz]; omega
 | f::r,k+1,h=>by
  have:=zbbA r k (by simpa using h)
  show (r.getD k default).Exp.toNat<=_;rw [zLz]; omega
theorem zbbX:∀ (l:yC) (k:Nat),k<l.length->zLz (l.getD k default).Fs<=zb9 l
 | [],k,h=>by simp at h
 | f::r,0,_=>by show zLz f.Fs<=_; rw [zb9]; omega
 | f::r,k+1,h=>by
  have:=zbbX r k (by simpa using h)
  show zLz (r.getD k default).Fs<=_;rw [zb9]; omega
section
variable (g:At->yG->Bool×(yC×Int)) (l:yG)
theorem zbh1 (a:yC) (i k:Nat) (hi:i<a.length) (hk:k<(a.getD i default).Fs.length) (out b:yC) (hb:okA b) (N:Nat) (hN:((a.getD i default).Fs.getD k default).Exp=N) (hN':N<=1000000):
  ∀ (n j:Nat) (e:Int) (p:yC) (s:Int⊕yC),N<j+n->j<=N->GS s->RS s e p->∃ e' p',zAR g n a l out i p k b e j=(true,(a,l,out,(i:Int),p',(k:Int),e'))/\RS (sbd s (zC0 b (N - j))) e' p'
 | 0,j,e,p,s,h1,h2,_,_=>by omega
 | n+1,j,e,p,s,h1,h2,hs,hr=>by
  show ∃ e' p',(zAK g a l out i p k b e j).ev (λx y=>zAR g n x.1 x.2.1 x.2.2.1 x.2.2.2.1 x.2.2.2.2.1 x.2.2.2.2.2.1 x.2.2.2.2.2.2.1 x.2.2.2.2.2.2.2.1 x.2.2.2.2.2.2.2.2.1) (λr=>(true,r)) (false,default)=_/\_
  unfold zAK;simp only [Wy.ev_i,Wy.ev_k,Wy.ev_h,Wy.ev_bn,Wy.ev_d,tT,hi,hk,hN];by_cases hj:j<N
  ·have hk:N - j=(N - (j+1))+1:=by omega
   cases s with
   | inl x=>
    obtain ⟨rfl,hx⟩:=hr;have he:(e==(0:Int))=false:=by simp [hx]
    simp only [hj,decide_true,cond_true,he,cond_false];exact ⟨e,p,rfl,rfl,hx⟩
   | inr q=>
    obtain ⟨rfl,rfl⟩:=hr;have hp:okA p:=hs;simp only [hj,decide_true,cond_true,zbhM hp hb,zN (show j<4611686018427387904 by omega),show ((0:Int)==0)=true from rfl]
    rw [hk];exact zbh1 a i _ hi (by assumption) out b hb N hN hN' n (j+1) (zEl p b).2 (zEl p b).1 (opS (zEl p b)) (by omega) (by omega) (zRo (z8Z hp hb)) (zbhY _)
  ·have hk:N - j=0:=by omega
   simp only [hj,decide_false,cond_false];rw [hk,zbcs];exact ⟨e,p,rfl,hr⟩
theorem zbkD (a:yC) (hal:a.length<=1000000) (i:Nat) (hi:i<a.length) (hl:(a.getD i default).Fs.length<=1000000) (hg:AG g l (a.getD i default).Fs) (out:yC):
  ∀ (n k:Nat) (p:yC),(a.getD i default).Fs.length<k+n->k<=(a.getD i default).Fs.length->okA p->zCi g n a l out i p k=(true,match zdz (toA l) ((a.getD i default).Fs.drop k) p with
   | .inl e=>.inl e
   | .inr q=>.inr (a,l,out,(i:Int),q))
 | 0,k,p,h1,h2,_=>by omega
 | n+1,k,p,h1,h2,hp=>by
  show (zB7 g a l out i p k).ev (λx y=>zCi g n x.1 x.2.1 x.2.2.1 x.2.2.2.1 x.2.2.2.2.1 x.2.2.2.2.2.1) (λr=>(true,r)) (false,.inl default)=_
  unfold zB7;by_cases hk:k<(a.getD i default).Fs.length
  ·obtain ⟨⟨hf,hG⟩,e0,e1⟩:=hg _ (zp hk);obtain ⟨N,hN⟩:∃ N:Nat,((a.getD i default).Fs.getD k default).Exp=(N:Int):=⟨_,(Int.toNat_of_nonneg e0).symm⟩;have hsz:=Nat.le_trans (zbbA _ k hk) (zbbX a i hi);rw [hN,Int.toNat_natCast] at hsz
   obtain ⟨e',p',h11,hrs⟩:=zbh1 g l a i k hi hk out (ofS (zeJ (toA l) ((a.getD i default).Fs.getD k default).At)).1 (zbgg hG) N hN (by omega)
    ((a.length+l.length+out.length+(i:Int).toNat +p.length+(k:Int).toNat +(ofS (zeJ (toA l) ((a.getD i default).Fs.getD k default).At)).1.length+(ofS (zeJ (toA l) ((a.getD i default).Fs.getD k default).At)).2.toNat +Int.toNat (0:Int)+(1:Nat))+zb9 a+zb9 out+zb9 p+zb9 (ofS (zeJ (toA l) ((a.getD i default).Fs.getD k default).At)).1) 0 _ p _ (by omega) (by omega) (zbbp hG hp) (zbbZ hG p)
   rw [z9f,Nat.sub_zero] at hrs;rw [show ((0:Nat):Int)=(0:Int) from rfl] at h11
   rw [zbC hk,zJh,hN,Int.toNat_natCast];simp only [Wy.ev_i,Wy.ev_k,Wy.ev_h,Wy.ev_bn,Wy.ev_d,tT,hi,hk,At.eta,hf,zA4];simp only [Int.toNat_natCast] at h11;rw [h11];have hS:=hG;revert hrs hS;cases zeJ (toA l) ((a.getD i default).Fs.getD k default).At with
   | inl x=>
    rintro ⟨rfl,hx⟩ _
    simp [hx,zFR]
   | inr b=>
    intro hrs hb;simp only [zco] at hrs ⊢;have hq:=z5Y (b:=b) hb N p hp;revert hrs hq;cases zC0 b N p with
    | inl x=>
     rintro ⟨rfl,hx⟩ _
     simp [hx,zFR]
    | inr q=>
     rintro ⟨rfl,rfl⟩ hq
     simp only [zco,decide_true,Bool.not_true,cond_true,cond_false,zN (show k<4611686018427387904 by omega)]
     exact zbkD a hal i hi hl hg out n (k+1) p' (by omega) (by omega) hq
  ·simp only [Wy.ev_i,Wy.ev_k,Wy.ev_h,Wy.ev_bn,Wy.ev_d,tT,hi,hk];rw [zdj hk,zLQ]
theorem zbkz (a:yC) (hal:a.length<=1000000) (hg:∀ t∈a,t.Fs.length<=1000000/\AG g l t.Fs) (hok:∀ t∈a,∀ p,okA p->GS (zdz (toA l) t.Fs p)):
  ∀ (n i:Nat) (s:yC),a.length<i+n->i<=a.length->okA s->zCh g n a l s i=(true,zcu (toA l) (a.drop i) s)
 | 0,i,s,h1,h2,_=>by omega
 | n+1,i,s,h1,h2,hs=>by
  show (zCx g a l s i).ev (λx y=>zCh g n x.1 x.2.1 x.2.2.1 x.2.2.2.1) (λr=>(true,r)) (false,.inl default)=_
  unfold zCx;by_cases hi:i<a.length
  ·have ht:=hg _ (zp hi);have hc:=zbb0 (a.getD i default).Cf;have hsz:=szTs_get' a i hi;have h7:=zbkD g l a hal i hi ht.1 ht.2 s ((a.length+l.length+s.length+(i:Int).toNat +(zvm (a.getD i default).Cf).length+Int.toNat (0:Int)+(1:Nat))+zb9 a+zb9 s+zb9 (zvm (a.getD i default).Cf)) 0 (zvm (a.getD i default).Cf) (by omega) (by omega) hc
   rw [show ((0:Nat):Int)=(0:Int) from rfl,List.drop_zero] at h7
   simp only [Int.toNat_natCast] at h7;rw [zbC hi,zWD];simp only [Wy.ev_i,Wy.ev_k,Wy.ev_h,Wy.ev_bn,Wy.ev_d,tT,hi,zbes _];rw [h7];have hS:=hok _ (zp hi) _ hc;revert hS;cases zdz (toA l) (a.getD i default).Fs (zvm (a.getD i default).Cf) with
   | inl e=>intro _; rfl
   | inr p=>
    intro hp;have hp:okA p:=hp;simp only [zco,isL,getR,cond_true,cond_false,zbgV hs hp,zA4];have hG:=z8X hs hp;unfold opS;by_cases he:(zFo s p).2=0
    ·rw [if_pos he,decide_eq_true he,zco,zN (show i<4611686018427387904 by omega)]
     exact zbkz a hal hg hok n (i+1) _ (by omega) (by omega) hG.1
    ·rw [if_neg he,decide_eq_false he]; rfl
  ·simp only [Wy.ev_i,Wy.ev_k,Wy.ev_h,Wy.ev_bn,Wy.ev_d,tT,hi];rw [zdj hi,z0Y]
theorem zblk (a:yC) (hal:a.length<=1000000) (hg:∀ t∈a,t.Fs.length<=1000000/\AG g l t.Fs) (hok:∀ t∈a,∀ p,okA p->GS (zdz (toA l) t.Fs p)):zBq g a l=(true,ofS (zcu (toA l) a [])):=by
 unfold zBq zMG;have h3:=zbkz g l a hal hg hok ((a.length+l.length+(0:Nat)+Int.toNat (0:Int)+(1:Nat))+zb9 a+zb9 []) 0 [] (by omega) (by omega) zlu
 rw [show ((0:Nat):Int)=(0:Int) from rfl,List.drop_zero] at h3
 rw [Wy.fin_bn,h3];cases zcu (toA l) a [] <;>rfl
end
section
variable (g:yC->yG->Bool×(yC×Int)) (l:yG)
theorem zbkR (x:At) (hl:x.Ag.length<=1000000) (hg:∀ a∈x.Ag,g a l=(true,ofS (zcu (toA l) a []))/\GS (zcu (toA l) a [])):
  ∀ (n i:Nat) (xs:yA),x.Ag.length<i+n->i<=x.Ag.length->xs.length<=i->zGO g n l i x xs=(true,match zjN (toA l) (x.Ag.drop i) with
   | .inl e=>.inl e
   | .inr ys=>.inr (l,x,xs++ys))
 | 0,i,xs,h1,h2,_=>by omega
 | n+1,i,xs,h1,h2,hx=>by
  have hreach:zO=70368744177664:=rfl;show (zHH g l i x xs).ev (λx y=>zGO g n x.1 x.2.2.2.1 y.1 y.2.1) (λr=>(true,r)) (false,.inl default)=_
  unfold zHH;by_cases hi:i<x.Ag.length
  ·obtain ⟨hf,hG⟩:=hg _ (zp hi);have hb:decide ((xs.length+1)*24<=zO)=true:=by simp only [qe]; omega
   rw [zbC hi,zAG];simp only [Wy.ev_i,Wy.ev_k,Wy.ev_h,Wy.ev_bn,Wy.ev_d,tT,hi,hf,zA4,List.length_singleton,hb];revert hG;cases zcu (toA l) (x.Ag.getD i default) [] with
   | inl e=>intro he; simp [ofS,show e≠0 from he,zFR]
   | inr b=>
    intro _;simp only [ofS,decide_true,Bool.not_true,cond_false,zco,zN (show i<4611686018427387904 by omega)]
    rw [zbkR x hl hg n (i+1) (xs++[b]) (by omega) (by omega) (by simp; omega)]
    cases zjN (toA l) (x.Ag.drop (i+1)) with
    | inl e=>rfl
    | inr ys=>simp [zco]
  ·simp only [Wy.ev_i,Wy.ev_k,Wy.ev_h,Wy.ev_bn,Wy.ev_d,tT,hi];rw [zdj hi,zDF]; simp
theorem zbhT (x:At) (as_:yA) (hl:x.Items.length<=1000000) (hg:∀ w∈x.Items,g w.Ann l=(true,ofS (zcu (toA l) w.Ann []))/\GS (zcu (toA l) w.Ann [])):
  ∀ (n i:Nat) (xs:yE),x.Items.length<i+n->i<=x.Items.length->xs.length<=i->zFz g n l i x as_ xs=(true,match zgj (toA l) (x.Items.drop i) with
   | .inl e=>.inl e
   | .inr ys=>.inr (x,as_,xs++ys))
 | 0,i,xs,h1,h2,_=>by omega
 | n+1,i,xs,h1,h2,hx=>by
  have hreach:zO=70368744177664:=rfl;show (zFv g l i x as_ xs).ev (λx y=>zFz g n x.1 x.2.2.2.2.1 y.1 y.2.1 y.2.2.1) (λr=>(true,r)) (false,.inl default)=_
  unfold zFv;by_cases hi:i<x.Items.length
  ·obtain ⟨hf,hG⟩:=hg _ (zp hi);have hb:decide ((xs.length+1)*56<=zO)=true:=by simp only [qe]; omega
   rw [zbC hi,zP5];simp only [Wy.ev_i,Wy.ev_k,Wy.ev_h,Wy.ev_bn,Wy.ev_d,tT,hi,hf,zA4,List.length_singleton,hb];revert hG;cases zcu (toA l) (x.Items.getD i default).Ann [] with
   | inl e=>intro he; simp [ofS,show e≠0 from he,zFR]
   | inr b=>
    intro _;simp only [ofS,decide_true,Bool.not_true,cond_false,zco,zN (show i<4611686018427387904 by omega)]
    rw [zbhT x as_ hl hg n (i+1) (xs++[WO.mk (x.Items.getD i default).Value b]) (by omega) (by omega) (by simp; omega)]
    cases zgj (toA l) (x.Items.drop (i+1)) with
    | inl e=>rfl
    | inr ys=>simp [zco]
  ·simp only [Wy.ev_i,Wy.ev_k,Wy.ev_h,Wy.ev_bn,Wy.ev_d,tT,hi];rw [zdj hi,zJ0]; simp
theorem zbgY {x:At} (h:zpR x=true) (hk:x.Kind=1\/x.Kind=2\/x.Kind=3):x.Items=[]:=by
 cases zVb.1 h <;>simp_all
theorem zbiK (hto:okB l) (x:At) (h:XG g l x):zGv g x l=(true,ofS (zeJ (toA l) x)):=by
 unfold zGv zT9;have h8:=zbkR g l x h.lens.1 h.ga (l.length+Int.toNat (0:Int)+x.Ag.length+x.Items.length+(0:Nat)+(1:Nat)) 0 [] (by omega) (by omega) (by simp)
 rw [show ((0:Nat):Int)=(0:Int) from rfl,List.drop_zero] at h8
 have h16:=λxs:yA=>zbhT g l x xs (by have:=h.lens.2; omega) h.gi (l.length+Int.toNat (0:Int)+x.Ag.length+x.Items.length+xs.length+(0:Nat)+(1:Nat)) 0 [] (by omega) (by omega) (by simp)
 simp only [show ((0:Nat):Int)=(0:Int) from rfl,List.drop_zero,List.nil_append] at h16
 have b0:=zh8 x.Kind 0;have b1:=zh8 x.Kind 1;have b2:=zh8 x.Kind 2;have b3:=zh8 x.Kind 3;rw [At.eta,zYV];simp only [Wy.fin_i,Wy.fin_bn,Wy.fin_k,cond_true,h8,List.nil_append];by_cases hk0:x.Kind=0
 ·rw [b0,decide_eq_true hk0,if_pos hk0];obtain ⟨b,q,h1,h2⟩:=zbgZ hto x.Row;simp only [cond_true,h1];rcases h2 with ⟨rfl,rfl⟩ | ⟨rfl,h2⟩
  ·rfl
  ·rw [h2]; simp only [cond_false,(zbfO x.Row).2]; rfl
 ·rw [b0,decide_eq_false hk0,if_neg hk0,cond_false];have hA:=h.sa;have hlen:=z86 h.va;revert hA;cases zjN (toA l) x.Ag with
  | inl e=>intro _; rfl
  | inr xs=>
   intro hxs;have hxl:xs.length=x.Ag.length/\∀ a∈xs,okA a:=hxs;have o0:=zJi hxl.2 0;have o1:=zJi hxl.2 1;simp only [isL,getR,cond_false,zco,At.eta,h16];by_cases hk:x.Kind=1\/x.Kind=2\/x.Kind=3
   ·rw [zbgY h.va hk,zJ0];simp only [cond_true,cond_false,isL,getR];rcases hk with hk1 | hk2 | hk3
    ·have:=hlen.1 hk1;rw [b1,decide_eq_true hk1,if_pos hk1];simp only [cond_true,show Int.toNat (0:Int)=0 from rfl,show Int.toNat (1:Int)=1 from rfl,zbeS o0 o1,zFG (z7L o0 o1).2]
     simp [hxl.1,this]
    ·have:=hlen.2 (.inl hk2);have n1:¬ x.Kind=1:=by omega
     rw [b1,decide_eq_false n1,if_neg n1,cond_false,b2,decide_eq_true hk2,if_pos hk2];simp only [cond_true,show Int.toNat (0:Int)=0 from rfl,zbeG o0,zFG (z8Y o0).2]
     simp [hxl.1,this]
    ·have:=hlen.2 (.inr hk3);have n1:¬ x.Kind=1:=by omega
     have n2:¬ x.Kind=2:=by omega
     rw [b1,decide_eq_false n1,if_neg n1,cond_false,b2,decide_eq_false n2,if_neg n2,cond_false,b3,decide_eq_true hk3,if_pos hk3];simp only [cond_true,show Int.toNat (0:Int)=0 from rfl,zbdl o0,zFG (z79 o0).2]
     simp [hxl.1,this]
   ·have n1:¬ x.Kind=1:=λe=>hk (.inl e)
    have n2:¬ x.Kind=2:=λe=>hk (.inr (.inl e))
    have n3:¬ x.Kind=3:=λe=>hk (.inr (.inr e))
    rw [if_neg n1,if_neg n2,if_neg n3];have hI:=h.si;revert hI;cases zgj (toA l) x.Items with
    | inl e=>intro _; rfl
    | inr is=>
     intro his;have ht:=zbgX (f:=x.Func) (o:=x.Op) (b:=x.Bd) (by have:=h.lens.2; omega) his
     simp only [cond_true,cond_false,isL,getR,b1,b2,b3,decide_eq_false n1,decide_eq_false n2,decide_eq_false n3,ht,zco];have hw:=zoo h.wf;have hl:is.length=x.Items.length/\∀ w∈is,okA w.Ann/\∃ v∈x.Items,v.Value=w.Value:=his
     rw [zFG (zZt (by have:=h.lens.2; omega) (λw hw'=>⟨(hl.2 w hw').1,by
      obtain ⟨v,hv,e⟩:=(hl.2 w hw').2;rw [<- e]; exact (zgs hw.2.1.1 v hv).1⟩) hw.2.2.2.2.2.1 hw.2.2.2.2.2.2 hw.2.2.1).2]
end
theorem z3y:∀ {l:yA} {a:yC},a∈l->ze4 a<=zrO l
 | [],_,h=>by cases h
 | x::r,a,h=>by
  rw [z0B];rcases qd.1 h with rfl | h
  ·omega
  ·have:=z3y h; omega
theorem zYT:∀ {l:yE} {w:Wd},w∈l->ze4 w.Ann<=zl6 l
 | [],_,h=>by cases h
 | x::r,a,h=>by
  rw [zMk];rcases qd.1 h with rfl | h
  ·omega
  ·have:=zYT h; omega
theorem zUa:∀ {l:yD} {f:Fc},f∈l->zJS f.At<=zh6 l
 | [],_,h=>by cases h
 | x::r,a,h=>by
  rw [zRA];rcases qd.1 h with rfl | h
  ·omega
  ·have:=zUa h; omega
theorem z5B:∀ {l:yC} {t:Term},t∈l->zh6 t.Fs<=ze4 l
 | [],_,h=>by cases h
 | x::r,a,h=>by
  rw [zSZ];rcases qd.1 h with rfl | h
  ·omega
  ·have:=z5B h; omega
theorem z0J:∀ {l:yE},(∀ w∈l,w.Ann≠[])->l.length<=zl6 l
 | [],_=>by simp
 | x::r,h=>by
  rw [zMk];have:=z0J (l:=r) λw hw=>h w (by simp [hw])
  have h1:1<=ze4 x.Ann:=by
   have:=h x (by simp)
   cases hx:x.Ann with
   | nil=>exact absurd hx this
   | cons t r=>rw [zSZ]; omega
  simp only [qf];omega
mutual
def zz9:At->Prop
 | ⟨_,_,a,_,i,_,_⟩=>i.length<40/\zUw a/\zN4 i
def zGb:yD->Prop
 | []=>True
 | ⟨x,_⟩::r=>zz9 x/\zGb r
def zb0:yC->Prop
 | []=>True
 | ⟨_,fs⟩::r=>zGb fs/\zb0 r
def zUw:yA->Prop
 | []=>True
 | a::r=>zb0 a/\zUw r
def zN4:yE->Prop
 | []=>True
 | ⟨_,a⟩::r=>zb0 a/\zN4 r
end
theorem zDj (x:At):zz9 x↔x.Items.length<40/\zUw x.Ag/\zN4 x.Items:=by cases x; rw [zz9]
theorem zum:∀ {l:yD},zGb l↔∀ f∈l,zz9 f.At
 | []=>by rw [zGb]; simp
 | ⟨x,e⟩::r=>by rw [zGb,zum (l:=r)]; simp
theorem zFF:∀ {l:yC},zb0 l↔∀ t∈l,zGb t.Fs
 | []=>by rw [zb0]; simp
 | ⟨x,e⟩::r=>by rw [zb0,zFF (l:=r)]; simp
theorem zzo:∀ {l:yA},zUw l↔∀ a∈l,zb0 a
 | []=>by rw [zUw]; simp
 | a::r=>by rw [zUw,zzo (l:=r)]; simp
theorem zvB:∀ {l:yE},zN4 l↔∀ w∈l,zb0 w.Ann
 | []=>by rw [zN4]; simp
 | ⟨x,e⟩::r=>by rw [zN4,zvB (l:=r)]; simp
theorem zZp {m:Nat} {a:yC} (h:zbF (m+1) a=true):zf4 a=true/\∀ t∈a,t.Fs.length<=64/\∀ f∈t.Fs,(1<=f.Exp/\f.Exp<=64)/\f.At.Items.length<=1024/\zes (zbF m) f.At=true:=by
 have hw:=zLr h;refine ⟨hw,λt ht=> ?_⟩
 obtain ⟨l1,l2⟩:=(zva hw).2.2.2 t ht;refine ⟨l1,λf hf=> ?_⟩
 obtain ⟨⟨e1,_⟩,hv⟩:=zq9 (zyF h ht).2 hf;exact ⟨⟨e1,(l2 f hf).1⟩,(l2 f hf).2,hv⟩
theorem z3k:∀ (m:Nat) (a:yC),zbF m a=true->zbF (m+1) a=true
 | 0,_,h=>by cases h
 | m+1,a,h=>by
  have h':zAU (zes (zbF m)) a=true:=h;obtain ⟨h1,h2,h3⟩:=zVu.1 h';refine (zVu (vat:=zes (zbF (m+1)))).2 ⟨h1,h2,λt ht=>⟨(h3 t ht).1,(h3 t ht).2.1,λf hf=>⟨((h3 t ht).2.2 f hf).1, ?_⟩⟩⟩
  exact zdN.2 ((zdN.1 ((h3 t ht).2.2 f hf).2).imp (z3k m))
theorem zDi:∀ {m:Nat} {a:yC},zbF m a=true->zU a=true:=by
 intro m a h
 have key:∀ k,zbF (m+k) a=true:=λk=>by
  induction k with
  | zero=>exact h
  | succ k ih=>exact z3k _ _ ih
 exact zbbE (key 9) (by omega)
theorem zbbS {m:Nat} {x:At} (h:zes (zbF m) x=true) (hm:m<=99):zpR x=true:=by
 refine zVb.2 ((zdN.1 h).imp λa ha=> ?_)
 exact zDi ha
theorem zRU {V:yC->Bool} {x:At} (h:zes V x=true):(∀ a∈x.Ag,V a=true)/\∀ w∈x.Items,V w.Ann=true/\w.Ann≠[]:=by
 constructor
 ·cases zdN.1 h <;>simp_all
 ·cases zdN.1 h <;>simp_all
theorem z4m:∀ (m:Nat) (a:yC),zbF m a=true->ze4 a<=78->zb0 a
 | 0,_,h,_=>by cases h
 | m+1,a,h,hs=>by
  obtain ⟨_,w2⟩:=zZp h;refine zFF.2 λt ht=>zum.2 λf hf=>(zDj _).2 ?_
  have hv:=((w2 t ht).2 f hf).2.2;have h1:=zUa hf;have h2:=z5B ht;have h3:=z5I f.At;obtain ⟨hargs,hitems⟩:=zRU hv;refine ⟨by have:=z0J λw hw=>(hitems w hw).2; omega,zzo.2 λb hb=>z4m m b (hargs b hb) (by have:=z3y hb; omega),zvB.2 λw hw=>z4m m w.Ann (hitems w hw).1 (by have:=zYT hw; omega)⟩
theorem zbdC {l:yG} (hl:okB l):∀ n,
  (∀ m a,zbF m a=true->m<=99->zg3 a->zb0 a->2*m<=n->zma n a l=(true,ofS (zcu (toA l) a []))/\GS (zcu (toA l) a []))/\
  (∀ m x,zes (zbF m) x=true->m<=99->zgG x->x.Items.length<=1024->zz9 x->2*m+1<=n->zi0 n x l=(true,ofS (zeJ (toA l) x))/\GS (zeJ (toA l) x))
 | 0=>by
  refine ⟨λm a h _ _ _ hm=> ?_,λm x _ _ _ _ _ hm=>by omega⟩
  have:m=0:=by omega
  subst this; cases h
 | n+1=>by
  obtain ⟨h1,h2⟩:=zbdC hl n;have ht:okT (toA l):=zba0 hl.2;refine ⟨λm a h h99 hw hs hm=> ?_,λm x h h99 hw hi hs hm=> ?_⟩
  ·cases m with
   | zero=>cases h
   | succ m=>
    obtain ⟨w1,w2⟩:=zZp h;obtain ⟨a1,a2,a3,a4⟩:=zva w1;have hwt:=λt (ht:t∈a)=>zuX (zrn hw t ht)
    have hwf:=λt (ht:t∈a) f (hf:f∈t.Fs)=>(zo4 (zmW (hwt t ht).2.1 f hf)).1
    have hA:∀ t∈a,∀ f∈t.Fs,(zi0 n f.At l=(true,ofS (zeJ (toA l) f.At))/\GS (zeJ (toA l) f.At)):=λt ht f hf=>
     h2 m f.At ((w2 t ht).2 f hf).2.2 (by omega) (hwf t ht f hf) ((w2 t ht).2 f hf).2.1 (zum.1 (zFF.1 hs t ht) f hf) (by omega)
    have hE:=λt (ht:t∈a) f (hf:f∈t.Fs)=>((w2 t ht).2 f hf).1
    have hok:∀ t∈a,∀ p,okA p->GS (zdz (toA l) t.Fs p):=λt ht' p hp=>zGL ht t.Fs 9 (λf hf=>⟨hwf t ht' f hf,zod ((w2 t ht').2 f hf).2.2 ((w2 t ht').2 f hf).2.1⟩) p hp
    have hG:GS (zcu (toA l) a []):=zOZ ht a 9 hw (λt ht f hf=>zod ((w2 t ht).2 f hf).2.2 ((w2 t ht).2 f hf).2.1) [] zlu
    refine ⟨?_,hG⟩
    ·rw [zQo];exact zbll _ l a (by omega) (λt ht=>⟨by have:=(w2 t ht).1; omega,λf hf=>⟨⟨(hA t ht f hf).1,(hA t ht f hf).2⟩,by have:=(hE t ht f hf).1; omega,by have:=(hE t ht f hf).2; omega⟩⟩) hok
  ·have hf:=zod h hi;have hw':=zoo hw;have hv:=zbbS h h99;obtain ⟨h20,s1,s2⟩:=(zDj x).1 hs;obtain ⟨hargs,hitems⟩:=zRU h;have ga:=λa (ha:a∈x.Ag)=>h1 m a (hargs a ha) h99 (zh3 hw'.1.1 a ha).1 (zzo.1 s1 a ha) (by omega)
   have gi:=λw (hw:w∈x.Items)=>h1 m w.Ann (hitems w hw).1 h99 (zgs hw'.2.1.1 w hw).2.1 (zvB.1 s2 w hw) (by omega)
   have sa:=zRl ht x.Ag 9 (λa ha=>(zh3 hw'.1.1 a ha).1) hf.2.1
   have si:=zNZ ht x.Items 9 (λw hw=>(zgs hw'.2.1.1 w hw).2.1) λw hw=>(hf.2.2 w hw).2
   refine ⟨?_,z0b ht x 9 hw hf⟩
   ·rw [zLn];exact zbiC _ l hl x ⟨hv,⟨hf.1.1,h20⟩,λa ha=>⟨(ga a ha).1,(ga a ha).2⟩,λw hw=>⟨(gi w hw).1,(gi w hw).2⟩,sa,si,hw⟩
theorem zba2 {l:yG} (hl:okB l):∀ n,
  (∀ m a,zbF m a=true->m<=99->zg3 a->zb0 a->2*m<=n->zBA n a l=(true,ofS (zcu (toA l) a []))/\GS (zcu (toA l) a []))/\
  (∀ m x,zes (zbF m) x=true->m<=99->zgG x->x.Items.length<=1024->zz9 x->2*m+1<=n->zHQ n x l=(true,ofS (zeJ (toA l) x))/\GS (zeJ (toA l) x))
 | 0=>by
  refine ⟨λm a h _ _ _ hm=> ?_,λm x _ _ _ _ _ hm=>by omega⟩
  have:m=0:=by omega
  subst this; cases h
 | n+1=>by
  obtain ⟨h1,h2⟩:=zba2 hl n;have ht:okT (toA l):=zba0 hl.2;refine ⟨λm a h h99 hw hs hm=> ?_,λm x h h99 hw hi hs hm=> ?_⟩
  ·cases m with
   | zero=>cases h
   | succ m=>
    obtain ⟨w1,w2⟩:=zZp h;obtain ⟨a1,a2,a3,a4⟩:=zva w1;have hwt:=λt (ht:t∈a)=>zuX (zrn hw t ht)
    have hwf:=λt (ht:t∈a) f (hf:f∈t.Fs)=>(zo4 (zmW (hwt t ht).2.1 f hf)).1
    have hA:∀ t∈a,∀ f∈t.Fs,(zHQ n f.At l=(true,ofS (zeJ (toA l) f.At))/\GS (zeJ (toA l) f.At)):=λt ht f hf=>
     h2 m f.At ((w2 t ht).2 f hf).2.2 (by omega) (hwf t ht f hf) ((w2 t ht).2 f hf).2.1 (zum.1 (zFF.1 hs t ht) f hf) (by omega)
    have hE:=λt (ht:t∈a) f (hf:f∈t.Fs)=>((w2 t ht).2 f hf).1
    have hok:∀ t∈a,∀ p,okA p->GS (zdz (toA l) t.Fs p):=λt ht' p hp=>zGL ht t.Fs 9 (λf hf=>⟨hwf t ht' f hf,zod ((w2 t ht').2 f hf).2.2 ((w2 t ht').2 f hf).2.1⟩) p hp
    have hG:GS (zcu (toA l) a []):=zOZ ht a 9 hw (λt ht f hf=>zod ((w2 t ht).2 f hf).2.2 ((w2 t ht).2 f hf).2.1) [] zlu
    refine ⟨?_,hG⟩
    ·rw [zYR];exact zblk _ l a (by omega) (λt ht=>⟨by have:=(w2 t ht).1; omega,λf hf=>⟨⟨(hA t ht f hf).1,(hA t ht f hf).2⟩,by have:=(hE t ht f hf).1; omega,by have:=(hE t ht f hf).2; omega⟩⟩) hok
  ·have hf:=zod h hi;have hw':=zoo hw;have hv:=zbbS h h99;obtain ⟨h20,s1,s2⟩:=(zDj x).1 hs;obtain ⟨hargs,hitems⟩:=zRU h;have ga:=λa (ha:a∈x.Ag)=>h1 m a (hargs a ha) h99 (zh3 hw'.1.1 a ha).1 (zzo.1 s1 a ha) (by omega)
   have gi:=λw (hw:w∈x.Items)=>h1 m w.Ann (hitems w hw).1 h99 (zgs hw'.2.1.1 w hw).2.1 (zvB.1 s2 w hw) (by omega)
   have sa:=zRl ht x.Ag 9 (λa ha=>(zh3 hw'.1.1 a ha).1) hf.2.1
   have si:=zNZ ht x.Items 9 (λw hw=>(zgs hw'.2.1.1 w hw).2.1) λw hw=>(hf.2.2 w hw).2
   refine ⟨?_,z0b ht x 9 hw hf⟩
   ·rw [z6K];exact zbiK _ l hl x ⟨hv,⟨hf.1.1,h20⟩,λa ha=>⟨(ga a ha).1,(ga a ha).2⟩,λw hw=>⟨(gi w hw).1,(gi w hw).2⟩,sa,si,hw⟩
def zblF (a b:yC):yC:=if b=[] then a else if a=[]\/a=b then [] else zcB (zbfa a b)
def zblq (a:yC):yC:=if a=[]\/isU a=true then a else if isC a=true then [⟨1,[]⟩] else zcB (zZs a)
def zblB (a:yC):yC:=if a=[] then [⟨1,[]⟩] else if zv7 a=true then [] else zcB (zbeH a)
def zblu (f:Int) (l:yE) (o:Int) (b:Value):yC:=
 if 0<(zeo l).length then zcB (zSE f (zeo l) o b) else if (f==0&&zSo o (zeK 0 b.Int))=true then [⟨1,[]⟩] else []
def IdP (a:yC):Prop:=a=[]\/a=[⟨1,[]⟩]\/∃ x:At,(x.Kind=3\/x.Kind=4)/\a=zcB x
def zbkC (b:yC):Nat->yC
 | 0=>[⟨1,[]⟩]
 | n+1=>zqO b (zbkC b n)
section
variable (σ:At->yC)
def SG (x:At):Prop:=PA (σ x)/\(x.Kind=3\/x.Kind=4->IdP (σ x))
variable {σ}
def EA (σ:At->yC) (a:yC):Prop:=PA a/\∀ t∈a,∀ f∈t.Fs,SG σ f.At
theorem EA.p {a:yC} (h:EA σ a):∀ t∈a,cOK t/\∀ f∈t.Fs,SG σ f.At:=λt ht=>⟨h.1.c t ht,h.2 t ht⟩
theorem EA.sum {a b:yC} (ha:EA σ a) (hb:EA σ b):EA σ (zgy a b):=⟨zbjC ha.1 hb.1,λt ht f hf=>by
 obtain ⟨x,hx,e⟩:=zT1 b a ha.1.1 ht;rw [e] at hf;rcases hx with hx | hx
 ·exact ha.2 x hx f hf
 ·exact hb.2 x hx f hf⟩
end
mutual
def zbkN (to:RowID->yC):At->yC
 | ⟨k,r,a,f,i,o,b⟩=>if k=0 then to r else if k=1 then zblF ((z0F to a).getD 0 default) ((z0F to a).getD 1 default) else if k=2 then zblq ((z0F to a).getD 0 default)
  else if k=3 then zblB ((z0F to a).getD 0 default) else zblu f (zbd9 to i) o b
def zbf0 (to:RowID->yC):yD->yC
 | []=>[⟨1,[]⟩]
 | ⟨x,e⟩::r=>zqO (zbkC (zbkN to x) e.toNat) (zbf0 to r)
def zbej (to:RowID->yC):yC->yC->yC
 | [],s=>s
 | ⟨c,fs⟩::r,s=>zbej to r (zgy s (zqO [⟨c,[]⟩] (zbf0 to fs)))
def z0F (to:RowID->yC):yA->yA
 | []=>[]
 | a::r=>zbej to a []::z0F to r
def zbd9 (to:RowID->yC):yE->yE
 | []=>[]
 | ⟨v,a⟩::r=>⟨v,zbej to a []⟩::zbd9 to r
end
section
variable (to:RowID->yC)
variable {to} (hto:∀ r,PA (to r))
include hto
omit hto in
theorem zbjx {c:Int} (h:1<=c/\c<=1152921504606846976):zvm c=[⟨c,[]⟩]:=by
 unfold zvm; rw [if_neg (by omega),if_neg (by omega)]
end
end Go.Proofs.YtljlfiomikifjaaGreatDoor
end
