/- Texts of this claim, joined (the program, its functions in plain words, and what they compute). -/
import Derived.Test.YtljlfiomikifjaaGreatDoorGC10
set_option autoImplicit false
set_option linter.unusedVariables false
set_option linter.unusedSectionVars false
set_option linter.unusedSimpArgs false
set_option maxRecDepth 1000000
set_option maxHeartbeats 0
/- Which annotations are valid, in words; what the operations leave is valid. -/
noncomputable section
namespace Go.Proofs.YtljlfiomikifjaaGreatDoor
open Go Go.Ab
theorem zP2 {τ:Type} [Inhabited τ] {R:τ->τ->Prop}:∀ {l:List τ},l.Pairwise R->∀ k,0<k->k<l.length->R (l.getD (k - 1) default) (l.getD k default)
 | [],_,k,_,h=>by simp at h
 | x::r,h,0,h0,_=>by omega
 | x::r,h,1,_,h1=>(qi.1 h).1 _ (zp (by simpa using h1))
 | x::r,h,k+2,_,h1=>zP2 (qi.1 h).2 (k+1) (by omega) (by simp only [qf] at h1; omega)
def OKF (vat:At->Bool) (fs:yD):Prop:=Srf fs/\∀ f∈fs,(1<=f.Exp/\(f.At.Kind=3\/f.At.Kind=4->f.Exp=1))/\vat f.At=true
theorem zbdX {vat:At->Bool} {fs:yD}:okF vat fs=true↔OKF vat fs:=by
 constructor
 ·intro h;refine ⟨zwT (R:=λx y=>cF x y<0) (λx y z h1 h2=>zJn h1 h2) _ λk hk hl=> ?_,λf hf=>zq3 h hf⟩
  have:=zed.1 h k (by omega) (by omega)
  simp only [zS0,qc,Bool.or_eq_true,qe] at this;rcases this.1.2 with e | e
  ·omega
  ·exact e
 ·intro h;refine zed.2 λk _ hk=> ?_
  have hm:=h.2 _ (zp (l:=fs) (i:=k) (by omega))
  simp only [zS0,qc,Bool.or_eq_true,qe,Bool.not_eq_true',Bool.and_eq_false_iff];refine ⟨⟨⟨hm.1.1, ?_⟩, ?_⟩,hm.2⟩
  ·by_cases hk:(fs.getD k default).At.Kind=3\/(fs.getD k default).At.Kind=4
   ·right; rw [hm.1.2 hk]; rfl
   ·left
    rw [Bool.or_eq_false_iff];constructor
    ·simpa using λe=>hk (.inl e)
    ·simpa using λe=>hk (.inr e)
  ·by_cases h0:k=0
   ·exact .inl h0
   ·exact .inr (zP2 h.1 k (by omega) (by omega))
theorem zWs {vat:At->Bool} {a:yC}:zAY vat a=true↔zgb a=true/\Srs a/\∀ t∈a,cOK t/\OKF vat t.Fs:=by
 constructor
 ·intro h;have hall:=h;simp only [zAY,qc] at hall;refine ⟨hall.1,zwT (R:=λx y=>cT x y<0) (λx y z h1 h2=>zJz h1 h2) a λk hk hl=> ?_,λt ht=>⟨(zyo h ht).1,zbdX.1 (zyo h ht).2⟩⟩
  have:=zed.1 hall.2 k (by omega) (by omega)
  simp only [zHC,qc,Bool.or_eq_true,qe] at this;rcases this.1.2 with e | e
  ·omega
  ·exact e
 ·rintro ⟨h1,h2,h3⟩
  simp only [zAY,qc];refine ⟨h1,zed.2 λk _ hk=> ?_⟩
  have hm:=h3 _ (zp (l:=a) (i:=k) (by omega))
  simp only [zHC,qc,Bool.or_eq_true,qe];refine ⟨⟨⟨hm.1.1,hm.1.2⟩, ?_⟩,zbdX.2 hm.2⟩;by_cases h0:k=0
  ·exact .inl h0
  ·exact .inr (zP2 h2 k (by omega) (by omega))
def QA (a:yC):Prop:=Srs a/\∀ t∈a,cOK t/\OKF zpw t.Fs
theorem zuY {a:yC}:zV a=true↔zgb a=true/\QA a:=by rw [z7i]; exact zWs
theorem OKF.mf {fs:yD} (h:OKF zpw fs):MF fs:=⟨h.1,λf hf=>⟨⟨zHh (h.2 f hf).2,(h.2 f hf).1.2⟩,(h.2 f hf).1.1⟩⟩
theorem QA.pa {a:yC} (h:QA a):PA a:=⟨h.1,λt ht=>⟨(h.2 t ht).1,(h.2 t ht).2.mf⟩⟩
theorem zWf {a:yC} (h:zV a=true):QA a:=(zuY.1 h).2
theorem zPA {a:yC} (h:zV a=true):PA a:=(zWf h).pa
theorem zbfC {a:yC} (h:zV a=true):zgb a=true:=(zuY.1 h).1
theorem MF.okf {fs:yD} (h:MF fs) (hv:∀ f∈fs,zpw f.At=true):OKF zpw fs:=⟨h.1,λf hf=>⟨⟨(h.2 f hf).2,(h.2 f hf).1.2⟩,hv f hf⟩⟩
theorem OKF.join {a b:yD} (ha:OKF zpw a) (hb:OKF zpw b):OKF zpw (zbQ a b):=(zbjL ha.mf hb.mf).okf λf hf=>by
 obtain ⟨y,hy,e⟩:=zvC hf;rw [e];rcases hy with hy | hy
 ·exact (ha.2 y hy).2
 ·exact (hb.2 y hy).2
theorem QA.nil:QA []:=⟨List.Pairwise.nil,λt ht=>by cases ht⟩
theorem zbjn {x:At} (h:zpw x=true):QA (zcy x):=⟨by simp [zcy],λt ht=>by
 simp only [zcy,qh] at ht; subst ht;refine ⟨⟨by simp,by simp⟩,by simp,λf hf=> ?_⟩
 rw [qh] at hf; subst hf;exact ⟨⟨by simp,λ_=>rfl⟩,h⟩⟩
theorem zNY {a:yC} (h:zgb a=true):zoK a=(a,0):=by unfold zoK; rw [h]; rfl
theorem zbjx {a b:yC} (ha:zV a=true) (hb:zV b=true) (h:zgb (zgB a b)=true):zFk a b=(zgB a b,0):=by
 unfold zFk; rw [ha,hb,zNY h]; rfl
theorem zbee {a b:yC} (ha:zV a=true) (hb:zV b=true) (h:zgb (zqy a b)=true):zEk a b=(zqy a b,0):=by
 unfold zEk; rw [ha,hb,zNY h]; rfl
theorem zWT {x:At}:zpw x=true↔VA zV x:=zdL
theorem zbfQ {x:At} (h:zpw x=true) (hw:zgb (zcy x)=true):zV (zcy x)=true:=zuY.2 ⟨hw,zbjn h⟩
def sbd {α β:Type} (x:Int⊕α) (k:α->Int⊕β):Int⊕β:=match x with
 | .inl e=>.inl e
 | .inr a=>k a
theorem zGa {α β:Type} (e:Int) (k:α->Int⊕β):sbd (.inl e) k=.inl e:=rfl
theorem zcm {α β:Type} (a:α) (k:α->Int⊕β):sbd (.inr a) k=k a:=rfl
def opS (r:yC×Int):Int⊕yC:=if r.2=0 then .inr r.1 else .inl r.2
def ofS:Int⊕yC->yC×Int
 | .inl e=>([],e)
 | .inr a=>(a,0)
theorem zFC {r:yC×Int} (h:r.2=0\/r.1=[]):ofS (opS r)=r:=by
 obtain ⟨a,e⟩:=r;simp only at h;unfold opS;by_cases he:e=0
 ·subst he; simp [ofS]
 ·rw [if_neg he];rcases h with h | h
  ·exact absurd h he
  ·subst h; rfl
theorem zbbs {a:yC}:opS (a,0)=.inr a:=rfl
def zCV (b:yC):Nat->yC->Int⊕yC
 | 0,p=>.inr p
 | n+1,p=>sbd (opS (zEk p b)) (zCV b n)
mutual
def zeE (to:RowID->yC):At->Int⊕yC
 | ⟨k,r,a,f,i,o,b⟩=>if k=0 then .inr (to r) else
  sbd (zjG to a) λxs=>if k=1 then opS (zOo (xs.getD 0 default) (xs.getD 1 default)) else if k=2 then opS (zN6 (xs.getD 0 default)) else if k=3 then opS (zOw (xs.getD 0 default)) else
   sbd (zgd to i) λis=>opS (zy9 f is o b)
def zdv (to:RowID->yC):yD->yC->Int⊕yC
 | [],p=>.inr p
 | ⟨x,e⟩::r,p=>sbd (zeE to x) λb=>sbd (zCV b e.toNat p) λq=>zdv to r q
def zcu (to:RowID->yC):yC->yC->Int⊕yC
 | [],s=>.inr s
 | ⟨c,fs⟩::r,s=>sbd (zdv to fs (zvk c)) λp=>sbd (opS (zFk s p)) λq=>zcu to r q
def zjG (to:RowID->yC):yA->Int⊕yA
 | []=>.inr []
 | a::r=>sbd (zcu to a []) λb=>sbd (zjG to r) λl=>.inr (b::l)
def zgd (to:RowID->yC):yE->Int⊕yE
 | []=>.inr []
 | ⟨v,a⟩::r=>sbd (zcu to a []) λb=>sbd (zgd to r) λl=>.inr (⟨v,b⟩::l)
end
variable (to:RowID->yC)
theorem zL1 (p:yC):zdv to [] p=.inr p:=by rw [zdv]
theorem zIS (f:Fc) (r:yD) (p:yC):zdv to (f::r) p=sbd (zeE to f.At) λb=>sbd (zCV b f.Exp.toNat p) λq=>zdv to r q:=by cases f; rw [zdv]
theorem zZY (s:yC):zcu to [] s=.inr s:=by rw [zcu]
theorem zWJ (t:Term) (r s:yC):zcu to (t::r) s=sbd (zdv to t.Fs (zvk t.Cf)) λp=>sbd (opS (zFk s p)) λq=>zcu to r q:=by cases t; rw [zcu]
theorem zDl:zjG to []=.inr []:=by rw [zjG]
theorem zAt (a:yC) (r:yA):zjG to (a::r)=sbd (zcu to a []) λb=>sbd (zjG to r) λl=>.inr (b::l):=by rw [zjG]
theorem zJN:zgd to []=.inr []:=by rw [zgd]
theorem zPm (w:Wd) (r:yE):zgd to (w::r)=sbd (zcu to w.Ann []) λb=>sbd (zgd to r) λl=>.inr (⟨w.Value,b⟩::l):=by cases w; rw [zgd]
theorem zZn (x:At):zeE to x=if x.Kind=0 then .inr (to x.Row) else
  sbd (zjG to x.Ag) λxs=>if x.Kind=1 then opS (zOo (xs.getD 0 default) (xs.getD 1 default)) else if x.Kind=2 then opS (zN6 (xs.getD 0 default)) else if x.Kind=3 then opS (zOw (xs.getD 0 default)) else
   sbd (zgd to x.Items) λis=>opS (zy9 x.Func is x.Op x.Bd):=by cases x; rw [zeE]
def GE {α:Type} (P:α->Prop):Int⊕α->Prop
 | .inl e=>e≠0
 | .inr a=>P a
abbrev GS:Int⊕yC->Prop:=GE okA
theorem zRq {r:yC×Int} (h:okR r):GS (opS r):=by
 unfold opS;by_cases he:r.2=0
 ·rw [if_pos he]; exact h.1
 ·rw [if_neg he]; exact he
theorem zRi {α β:Type} {P:α->Prop} {Q:β->Prop} {x:Int⊕α} {k:α->Int⊕β} (hx:GE P x) (hk:∀ a,P a->GE Q (k a)):GE Q (sbd x k):=by
 cases x with
 | inl e=>exact hx
 | inr a=>exact hk a hx
theorem z6F {b:yC} (hb:okA b):∀ (n:Nat) (p:yC),okA p->GS (zCV b n p)
 | 0,p,hp=>hp
 | n+1,p,hp=>zRi (zRq (z8R hp hb)) λq hq=>z6F hb n q hq
abbrev GL (n:Nat):Int⊕yA->Prop:=GE λl=>l.length=n/\∀ a∈l,okA a
abbrev GI (i:yE):Int⊕yE->Prop:=GE λl=>l.length=i.length/\∀ w∈l,okA w.Ann/\∃ v∈i,v.Value=w.Value
theorem zbe2 (w:Wd):zLm w↔zVI w.Value/\zgX w.Ann/\w.Ann.length<=zbl:=by cases w; unfold zLm; exact Iff.rfl
theorem zbgW {k f o:Int} {r:RowID} {a:yA} {i:yE} {b:Value} (h1:wf3 k) (h2:zZh r) (h3:zzV a/\a.length<=zbl) (h4:wf3 f) (h5:zug i/\i.length<=zbl) (h6:wf3 o) (h7:zVI b):zgN ⟨k,r,a,f,i,o,b⟩:=by
 unfold zgN; exact ⟨h1,h2,h3,h4,h5,h6,h7⟩
theorem z0b {f o:Int} {l:yE} {b:Value} (hl:l.length<=1000000) (h:∀ w∈l,okA w.Ann/\zVI w.Value) (hf:wf3 f) (ho:wf3 o) (hb:zVI b):okR (zy9 f l o b):=by
 unfold zy9;cases hk:zD9 f l o b with
 | false=>exact ⟨zkp,.inr rfl⟩
 | true=>
  cases hv:l.all λw=>zV w.Ann with
  | false=>exact ⟨zkp,.inr rfl⟩
  | true=>
   simp only [Bool.and_self,Bool.not_true,cond_false];cases decide (0<(zel l).length) with
   | true=>
    obtain ⟨tf,ts⟩:=zOl hl hk hv;have hr:zbl=140737488351232:=rfl;have hlen:(zel l).length<=1000000:=by rw [z67]; exact Nat.le_trans (List.length_filter_le _ _) hl
    refine zNW ⟨⟨tf.mono (by omega),ts⟩,zIV _ λt ht=> ?_,by simp [zcy,zbl]⟩
    simp only [zcy,qh] at ht;subst ht;refine z0C ⟨by simp,by simp⟩ (λg hg=> ?_) (by simp)
    simp only [qh] at hg;subst hg;refine ⟨zbgW (zZz (z05 (by omega))) ⟨zrH,zrH⟩ ⟨by unfold zzV; trivial,by simp⟩ hf ⟨zVA _ λw hw=> ?_,by omega⟩ ho hb,⟨by simp,by simp⟩⟩
    have hm:=h w (zNt hw).1;exact (zbe2 w).2 ⟨hm.2,hm.1.2⟩
   | false=>
    cases f==0&&zSL o (zeD 0 b.Int) with
    | true=>exact ⟨z10 1 (by omega),.inl rfl⟩
    | false=>exact ⟨zkp,.inl rfl⟩
theorem zJp {l:yA} (h:∀ a∈l,okA a) (i:Nat):okA (l.getD i default):=by
 by_cases hi:i<l.length
 ·exact h _ (zp hi)
 ·rw [List.getD_eq_getElem?_getD,List.getElem?_eq_none (by omega)]; exact zkp
def okT (to:RowID->yC):Prop:=∀ r,zZh r->okA (to r)
variable {to}
mutual
theorem zZ7 (ht:okT to):∀ (x:At) (d:Nat),zgN x->zdd (zo d) x->GS (zeE to x)
 | ⟨k,r,a,f,i,o,b⟩=>λd hw hi=>by
  have hw':=znZ hw;simp only at hw';obtain ⟨⟨ha,hal⟩,⟨hit,hil⟩,hb,hk,hr,hf,ho⟩:=hw';obtain ⟨⟨l1,l2,_⟩,f1,f2⟩:=hi;simp only at l1 l2 f1 f2;rw [zeE];by_cases hk0:k=0
  ·rw [if_pos hk0]; exact ht r hr
  ·rw [if_neg hk0];have hA:=zQ3 ht a d (λx hx=>(zh4 ha x hx).1) f1
   refine zRi hA λxs has=> ?_
   have h0:=zJp has.2 0;have h1:=zJp has.2 1;split
   ·exact zRq (z9h h0 h1)
   ·split
    ·exact zRq (z8f h0)
    ·split
     ·exact zRq (z9f h0)
     ·have hI:=zMY ht i d (λx hx=>(zgu hit x hx).2.1) λw hw=>(f2 w hw).2
      refine zRi hI λis his=> ?_
      refine zRq (z0b (by omega) (λw hw=>⟨(his.2 w hw).1, ?_⟩) hf ho hb)
      obtain ⟨v,hv,e⟩:=(his.2 w hw).2;rw [<- e]; exact (zgu hit v hv).1
theorem zHN (ht:okT to):∀ (l:yD) (d:Nat),(∀ f∈l,zgN f.At/\zdd (zo d) f.At)->∀ p,okA p->GS (zdv to l p)
 | [],_,_,p,hp=>by rw [zdv]; exact hp
 | ⟨x,e⟩::r,d,h,p,hp=>by
  rw [zdv];have hx:=zZ7 ht x d (h ⟨x,e⟩ (by simp)).1 (h ⟨x,e⟩ (by simp)).2
  refine zRi hx λb hb=>zRi (z6F hb _ p hp) λq hq=> ?_
  exact zHN ht r d (λf hf=>h f (by simp [hf])) q hq
theorem zOQ (ht:okT to):∀ (a:yC) (d:Nat),zgX a->(∀ t∈a,∀ f∈t.Fs,zdd (zo d) f.At)->∀ s,okA s->GS (zcu to a s)
 | [],_,_,_,s,hs=>by rw [zcu]; exact hs
 | ⟨c,fs⟩::r,d,hw,hi,s,hs=>by
  rw [zcu];have hwt:=zrc hw ⟨c,fs⟩ (by simp)
  have hp:=zHN ht fs d (λf hf=>⟨(zoq (zmJ (zuz hwt).2.1 f hf)).1,hi ⟨c,fs⟩ (by simp) f hf⟩) (zvk c) (zbcM c)
  refine zRi hp λp hp=>zRi (zRq (z8H hs hp)) λq hq=> ?_
  exact zOQ ht r d (zIV _ λt ht=>zrc hw t (by simp [ht])) (λt ht=>hi t (by simp [ht])) q hq
theorem zQ3 (ht:okT to):∀ (l:yA) (d:Nat),(∀ a∈l,zgX a)->(∀ a∈l,zo d a)->GL l.length (zjG to l)
 | [],_,_,_=>by rw [zjG]; exact ⟨rfl,λa ha=>by cases ha⟩
 | a::r,d,h,hi=>by
  rw [zjG];have hf:=hi a (by simp)
  have h1:GS (zcu to a []):=by
   cases d with
   | zero=>exact hf.elim
   | succ d=>exact zOQ ht a d (h a (by simp)) (λt ht f hf'=>(hf.2 t ht).2 f hf') [] zkp
  have h2:=zQ3 ht r d (λb hb=>h b (by simp [hb])) (λb hb=>hi b (by simp [hb]))
  revert h1 h2;cases zcu to a [] with
  | inl e=>exact λh _=>h
  | inr b=>
   cases zjG to r with
   | inl e=>exact λ_ h=>h
   | inr l=>
    intro h1 h2;refine ⟨by simp [h2.1],λx hx=> ?_⟩
    rcases qd.1 hx with rfl | hx
    ·exact h1
    ·exact h2.2 x hx
theorem zMY (ht:okT to):∀ (l:yE) (d:Nat),(∀ w∈l,zgX w.Ann)->(∀ w∈l,zo d w.Ann)->GI l (zgd to l)
 | [],_,_,_=>by rw [zgd]; exact ⟨rfl,λa ha=>by cases ha⟩
 | ⟨v,a⟩::r,d,h,hi=>by
  rw [zgd];have hf:zo d a:=hi ⟨v,a⟩ (by simp)
  have h1:GS (zcu to a []):=by
   cases d with
   | zero=>exact hf.elim
   | succ d=>exact zOQ ht a d (h ⟨v,a⟩ (by simp)) (λt ht f hf'=>(hf.2 t ht).2 f hf') [] zkp
  have h2:=zMY ht r d (λb hb=>h b (by simp [hb])) (λb hb=>hi b (by simp [hb]))
  revert h1 h2;cases zcu to a [] with
  | inl e=>exact λh _=>h
  | inr b=>
   cases zgd to r with
   | inl e=>exact λ_ h=>h
   | inr l=>
    intro h1 h2;refine ⟨by simp [h2.1],λx hx=> ?_⟩
    rcases qd.1 hx with rfl | hx
    ·exact ⟨h1,⟨v,a⟩,by simp,rfl⟩
    ·obtain ⟨h3,w,hw,e⟩:=h2.2 x hx;exact ⟨h3,w,by simp [hw],e⟩
end
abbrev zUv:=yG×Unit×Int×Unit
abbrev z8B:=(yC×Bool)⊕Unit
def zJl (l:yG) (i:Int) (id:RowID):Wy zUv (RowID×Unit) z8B:=.i (decide (i<Int.ofNat l.length)) (.i (decide (0<=i)&&decide (i<Int.ofNat l.length)) (.i ((l.getD i.toNat default).Row.Table==id.Table&&((l.getD i.toNat default).Row.Seq==id.Seq&&true)) (.i (decide (0<=i)&&decide (i<Int.ofNat l.length)) (.k (.inl ((l.getD i.toNat default).To,true))) .d) (.h (l,(),(IntKind.i64.wrap (i+1)),()) (id,()))) .d) (.k (.inr ()))
def z8l (x:zUv) (y:RowID×Unit):=zJl x.1 x.2.2.1 y.1
def zJa (n:Nat) (l:yG) (i:Int) (id:RowID):=zC (z8l) (.inl default) n (l,(),i,()) (id,())
def zXo (l:yG) (id:RowID):Wy0 (yC×Bool):=.bn (zJa (l.length+Int.toNat 0+1) l 0 id) λr0=>.i (isL r0) (.k ((getL r0).1,(getL r0).2)) (.k ([],false))
def zSP (l:yG) (id:RowID):=(zXo l id).fin default
abbrev zXv:=yG×Unit×Unit×Int×Unit
abbrev zWZ:=At×yA×Unit
abbrev zbaX:=Int⊕(yG×At×yA)
abbrev zXp:=yG×Unit×Unit×Unit×Int×Unit
abbrev zW2:=At×yA×yE×Unit
abbrev zbaE:=Int⊕(At×yA×yE)
def zHV (zc0:yC->yG->Bool×(yC×Int)) (l:yG) (i:Int) (x_:At) (args:yA):Wy zXv zWZ zbaX:=.i (decide (i<Int.ofNat x_.Ag.length)) (.i (decide (0<=i)&&decide (i<Int.ofNat x_.Ag.length)) (.bn (zc0 (x_.Ag.getD i.toNat default) l) λr0=>.i (r0.2 != 0) (.k (.inl (r0.2))) (.i (decide ((args.length+[r0.1].length)*24<=zN)) (.h (l,(),(),(IntKind.i64.wrap (i+1)),()) (x_,(args++[r0.1]),())) .d)) .d) (.k (.inr (l,x_,args)))
def z7X (zc0:yC->yG->Bool×(yC×Int)) (x:zXv) (y:zWZ):=zHV zc0 x.1 x.2.2.2.1 y.1 y.2.1
def zHx (zc0:yC->yG->Bool×(yC×Int)) (n:Nat) (l:yG) (i:Int) (x_:At) (args:yA):=zC (z7X zc0) (.inl default) n (l,(),(),i,()) (x_,args,())
def zFn (zc0:yC->yG->Bool×(yC×Int)) (l:yG) (i:Int) (x_:At) (args:yA) (items:yE):Wy zXp zW2 zbaE:=.i (decide (i<Int.ofNat x_.Items.length)) (.i (decide (0<=i)&&decide (i<Int.ofNat x_.Items.length)) (.bn (zc0 (x_.Items.getD i.toNat default).Ann l) λr2=>.i (r2.2 != 0) (.k (.inl (r2.2))) (.i (decide (0<=i)&&decide (i<Int.ofNat x_.Items.length)) (.i (decide ((items.length+[WO.mk (x_.Items.getD i.toNat default).Value r2.1].length)*56<=zN)) (.h (l,(),(),(),(IntKind.i64.wrap (i+1)),()) (x_,args,(items++[WO.mk (x_.Items.getD i.toNat default).Value r2.1]),())) .d) .d)) .d) (.k (.inr (x_,args,items)))
def z4f (zc0:yC->yG->Bool×(yC×Int)) (x:zXp) (y:zW2):=zFn zc0 x.1 x.2.2.2.2.1 y.1 y.2.1 y.2.2.1
def zFp (zc0:yC->yG->Bool×(yC×Int)) (n:Nat) (l:yG) (i:Int) (x_:At) (args:yA) (items:yE):=zC (z4f zc0) (.inl default) n (l,(),(),(),i,()) (x_,args,items,())
def zUI (zc0:yC->yG->Bool×(yC×Int)) (x_:At) (l:yG):Wy0 (yC×Int):=.i (x_.Kind==0) (.bn (zSP l x_.Row) λr5=>.i (r5.2) (.k (r5.1,0)) (.bn (zGe x_.Row) λr4=>.k (r4,0))) (.bn (zHx zc0 (l.length+Int.toNat 0+x_.Ag.length+x_.Items.length+0+1) l 0 (At.mk x_.Kind x_.Row x_.Ag x_.Func x_.Items x_.Op x_.Bd) []) λr11=>.i (isL r11) (.k ([],getL r11)) (.bn (zFp zc0 ((getR r11).1.length+Int.toNat 0+(getR r11).2.1.Ag.length+(getR r11).2.1.Items.length+(getR r11).2.2.length+0+1) (getR r11).1 0 (At.mk (getR r11).2.1.Kind (getR r11).2.1.Row (getR r11).2.1.Ag (getR r11).2.1.Func (getR r11).2.1.Items (getR r11).2.1.Op (getR r11).2.1.Bd) (getR r11).2.2 []) λr10=>.i (isL r10) (.k ([],getL r10)) (.i ((getR r10).1.Kind==1) (.i (decide ((0:Int)<=(0:Int))&&decide (0<Int.ofNat (getR r10).2.1.length)) (.i (decide ((0:Int)<=(1:Int))&&decide (1<Int.ofNat (getR r10).2.1.length)) (.bn (zEE ((getR r10).2.1.getD (Int.toNat 0) default) ((getR r10).2.1.getD (Int.toNat 1) default)) λr6=>.k (r6.1,r6.2)) .d) .d) (.i ((getR r10).1.Kind==2) (.i (decide ((0:Int)<=(0:Int))&&decide (0<Int.ofNat (getR r10).2.1.length)) (.bn (zvT ((getR r10).2.1.getD (Int.toNat 0) default)) λr7=>.k (r7.1,r7.2)) .d) (.i ((getR r10).1.Kind==3) (.i (decide ((0:Int)<=(0:Int))&&decide (0<Int.ofNat (getR r10).2.1.length)) (.bn (zDb ((getR r10).2.1.getD (Int.toNat 0) default)) λr8=>.k (r8.1,r8.2)) .d) (.bn (zHq (getR r10).1.Func (getR r10).2.2 (getR r10).1.Op (getR r10).1.Bd) λr9=>.k (r9.1,r9.2)))))))
def zGV (zc0:yC->yG->Bool×(yC×Int)) (x_:At) (l:yG):=(zUI zc0 x_ l).fin default
abbrev zPg:=yC×yG×yC×Int×yC×Int×yC×Int×Int×Unit
abbrev z47:=yC×yG×yC×Int×yC×Int×Int
abbrev zOh:=yC×yG×yC×Int×yC×Int×Unit
abbrev z4L:=Int⊕(yC×yG×yC×Int×yC)
abbrev zPZ:=yC×yG×yC×Int×Unit
abbrev z5a:=Int⊕yC
def zAT (zcL:At->yG->Bool×(yC×Int)) (a:yC) (l:yG) (out_:yC) (i:Int) (t:yC) (k:Int) (x_:yC) (e:Int) (n_:Int):Wy zPg Unit z47:=.i (decide (0<=i)&&decide (i<Int.ofNat a.length)) (.i (decide (0<=k)&&decide (k<Int.ofNat (a.getD i.toNat default).Fs.length)) (.i (decide (n_<((a.getD i.toNat default).Fs.getD k.toNat default).Exp)) (.i (e==0) (.bn (zLk t x_) λr8=>.h (a,l,out_,i,(r8.1),k,x_,(r8.2),(IntKind.i64.wrap (n_+1)),()) ()) (.k (a,l,out_,i,t,k,e))) (.k (a,l,out_,i,t,k,e))) .d) .d
def zYf (zcL:At->yG->Bool×(yC×Int)) (x:zPg) (y:Unit):=zAT zcL x.1 x.2.1 x.2.2.1 x.2.2.2.1 x.2.2.2.2.1 x.2.2.2.2.2.1 x.2.2.2.2.2.2.1 x.2.2.2.2.2.2.2.1 x.2.2.2.2.2.2.2.2.1
def zAB (zcL:At->yG->Bool×(yC×Int)) (n:Nat) (a:yC) (l:yG) (out_:yC) (i:Int) (t:yC) (k:Int) (x_:yC) (e:Int) (n_:Int):=zC (zYf zcL) default n (a,l,out_,i,t,k,x_,e,n_,()) ()
def zB7 (zcL:At->yG->Bool×(yC×Int)) (a:yC) (l:yG) (out_:yC) (i:Int) (t:yC) (k:Int):Wy zOh Unit z4L:=.i (decide (0<=i)&&decide (i<Int.ofNat a.length)) (.i (decide (k<Int.ofNat (a.getD i.toNat default).Fs.length)) (.i (decide (0<=i)&&decide (i<Int.ofNat a.length)) (.i (decide (0<=k)&&decide (k<Int.ofNat (a.getD i.toNat default).Fs.length)) (.bn (zcL (At.mk ((a.getD i.toNat default).Fs.getD k.toNat default).At.Kind ((a.getD i.toNat default).Fs.getD k.toNat default).At.Row ((a.getD i.toNat default).Fs.getD k.toNat default).At.Ag ((a.getD i.toNat default).Fs.getD k.toNat default).At.Func ((a.getD i.toNat default).Fs.getD k.toNat default).At.Items ((a.getD i.toNat default).Fs.getD k.toNat default).At.Op ((a.getD i.toNat default).Fs.getD k.toNat default).At.Bd) l) λr11=>.bn (zAB zcL ((a.length+l.length+out_.length+i.toNat +t.length+k.toNat +r11.1.length+r11.2.toNat +Int.toNat 0+1)+zb6 a+zb6 out_+zb6 t+zb6 r11.1) a l out_ i t k r11.1 r11.2 0) λr10=>.i (r10.2.2.2.2.2.2 != 0) (.k (.inl (r10.2.2.2.2.2.2))) (.h ((r10.1),(r10.2.1),(r10.2.2.1),(r10.2.2.2.1),(r10.2.2.2.2.1),(IntKind.i64.wrap (r10.2.2.2.2.2.1+1)),()) ())) .d) .d) (.k (.inr (a,l,out_,i,t)))) .d
def z1g (zcL:At->yG->Bool×(yC×Int)) (x:zOh) (y:Unit):=zB7 zcL x.1 x.2.1 x.2.2.1 x.2.2.2.1 x.2.2.2.2.1 x.2.2.2.2.2.1
def zCF (zcL:At->yG->Bool×(yC×Int)) (n:Nat) (a:yC) (l:yG) (out_:yC) (i:Int) (t:yC) (k:Int):=zC (z1g zcL) (.inl default) n (a,l,out_,i,t,k,()) ()
def zCP (zcL:At->yG->Bool×(yC×Int)) (a:yC) (l:yG) (out_:yC) (i:Int):Wy zPZ Unit z5a:=.i (decide (i<Int.ofNat a.length)) (.i (decide (0<=i)&&decide (i<Int.ofNat a.length)) (.bn (zvR (a.getD i.toNat default).Cf) λr16=>.bn (zCF zcL ((a.length+l.length+out_.length+i.toNat +r16.length+Int.toNat 0+1)+zb6 a+zb6 out_+zb6 r16) a l out_ i r16 0) λr15=>.i (isL r15) (.k (.inl (getL r15))) (.bn (zKY (getR r15).2.2.1 (getR r15).2.2.2.2) λr14=>.i (r14.2 != 0) (.k (.inl (r14.2))) (.h ((getR r15).1,(getR r15).2.1,(r14.1),(IntKind.i64.wrap ((getR r15).2.2.2.1+1)),()) ()))) .d) (.k (.inr out_))
def z0G (zcL:At->yG->Bool×(yC×Int)) (x:zPZ) (y:Unit):=zCP zcL x.1 x.2.1 x.2.2.1 x.2.2.2.1
def zCT (zcL:At->yG->Bool×(yC×Int)) (n:Nat) (a:yC) (l:yG) (out_:yC) (i:Int):=zC (z0G zcL) (.inl default) n (a,l,out_,i,()) ()
def zMu (zcL:At->yG->Bool×(yC×Int)) (a:yC) (l:yG):Wy0 (yC×Int):=.bn (zCT zcL ((a.length+l.length+0+Int.toNat 0+1)+zb6 a+zb6 []) a l [] 0) λr20=>.i (isL r20) (.k ([],getL r20)) (.k (getR r20,0))
def zBc (zcL:At->yG->Bool×(yC×Int)) (a:yC) (l:yG):=(zMu zcL a l).fin default
def zGz:Nat->(yC->yG->Bool×(yC×Int))×(At->yG->Bool×(yC×Int))
 | 0=>(λ_ _=>(false,default),λ_ _=>(false,default))
 | n+1=>(zBc ((zGz n).2),zGV ((zGz n).1))
def zA9 (n:Nat):yC->yG->Bool×(yC×Int):=(zGz n).1
def zGL (n:Nat):At->yG->Bool×(yC×Int):=(zGz n).2
theorem zZ4 (n:Nat):zA9 (n+1)=zBc (zGL n):=rfl
theorem z5U (n:Nat):zGL (n+1)=zGV (zA9 n):=rfl
def zXg:yC->yG->Bool×(yC×Int):=zA9 1000
abbrev zIw:=yC×yG×Int×Unit
abbrev zYG:=Int⊕(yC×yG)
def zA0 (a:yC) (l:yG) (i:Int):Wy zIw Unit zYG:=.i (decide (i<Int.ofNat l.length)) (.i (decide (0<=i)&&decide (i<Int.ofNat l.length)) (.bn (zfa (l.getD i.toNat default).To) λr0=>.i (!r0) (.k (.inl 1)) (.h (a,l,(IntKind.i64.wrap (i+1)),()) ())) .d) (.k (.inr (a,l)))
def zYh (x:zIw) (y:Unit):=zA0 x.1 x.2.1 x.2.2.1
def zAN (n:Nat) (a:yC) (l:yG) (i:Int):=zC (zYh) (.inl default) n (a,l,i,()) ()
def zKd (a:yC) (l:yG):Wy0 (yC×Int):=.bn (zfa a) λr4=>.i (!r4) (.k ([],1)) (.bn (zAN (a.length+l.length+Int.toNat 0+1) a l 0) λr3=>.i (isL r3) (.k ([],getL r3)) (.bn (zXg (getR r3).1 (getR r3).2) λr2=>.k (r2.1,r2.2)))
def zFz (a:yC) (l:yG):=(zKd a l).fin default
def toA:yG->RowID->yC
 | [],r=>zvv r
 | b::l,r=>if b.Row=r then b.To else toA l r
def okB (l:yG):Prop:=l.length<=1000/\∀ b∈l,okA b.To
theorem zbc8:∀ {l:yG},(∀ b∈l,okA b.To)->okT (toA l)
 | [],_,r,hr=>by rw [toA]; exact zbkX hr
 | b::l,h,r,hr=>by
  rw [toA];split
  ·exact h b (by simp)
  ·exact zbc8 (λc hc=>h c (by simp [hc])) r hr
theorem zbd2 (a b:RowID):(a.Table==b.Table&&(a.Seq==b.Seq&&true))=decide (a=b):=by
 obtain ⟨t,s⟩:=a; obtain ⟨t',s'⟩:=b;rw [Bool.and_true,zhL,zhL, <- Bool.decide_and];congr 1;simp
theorem zbio (a b:RowID):(a.Table==b.Table&&a.Seq==b.Seq)=decide (a=b):=by rw [<- zbd2,Bool.and_true]
theorem zbew:∀ (l:yG) (r:RowID) (i:Nat),(ixf (λb=>decide (b.Row=r)) l i= -1/\toA l r=zvv r)\/∃ j,j<l.length/\ixf (λb=>decide (b.Row=r)) l i=((i+j:Nat):Int)/\toA l r=(l.getD j default).To
 | [],r,i=>.inl ⟨rfl,rfl⟩
 | b::l,r,i=>by
  rw [ixf,toA];by_cases h:b.Row=r
  ·rw [decide_eq_true h,cond_true,if_pos h];exact .inr ⟨0,by simp,rfl,rfl⟩
  ·rw [decide_eq_false h,cond_false,if_neg h];rcases zbew l r (i+1) with ⟨h1,h2⟩ | ⟨j,h1,h2,h3⟩
   ·exact .inl ⟨h1,h2⟩
   ·exact .inr ⟨j+1,by simp; omega,by rw [h2]; congr 1; omega,h3⟩
theorem zblJ {l:yG} (h:okB l) (r:RowID):zix r l=(true,toA l r):=by
 unfold zix zzZ
 have hi:zcP l r=(true,ixf (λb=>decide (b.Row=r)) l 0):=by
  have e:zcP l r=IH (λ(g:RowID×Unit) x=>zgF x g.1) (l.length+(Int.ofNat l.length).toNat +Int.toNat (0:Int)+(1:Nat)) (r,()) l:=rfl
  rw [e]
  exact zbiB _ _ _ _ _ (by have:=h.1; omega) (λx _=>by
   unfold zgF zv3;rw [Wy.fin_k,zbd2]) (by omega)
 rw [Wy.fin_bn,hi];rcases zbew l r 0 with ⟨h1,h2⟩ | ⟨j,h1,h2,h3⟩
 ·rw [h1,h2];simp only [cond_true,Wy.fin_i,Wy.fin_bn,Wy.fin_k,(zbgC r).1];rfl
 ·rw [Nat.zero_add] at h2;rw [h2,h3];have hm:=h.2 _ (zp h1);have e1:decide ((j:Int)≥(0:Int))=true:=by simp
  simp only [cond_true,Wy.fin_i,Wy.fin_bn,Wy.fin_k,e1,tT,h1,zKW hm.1.1 (show (12:Nat)<=100 by omega)]
theorem zbig {l:yG} (h:okB l) (r:RowID):∃ b q,zSP l r=(true,(b,q))/\((q=true/\b=toA l r)\/(q=false/\toA l r=zvv r)):=by
 have key:∀ (n i:Nat),l.length<i+n->i<=l.length->∃ x,zJa n l i r=(true,x)/\((x=.inl (toA (l.drop i) r,true))\/(x=.inr ()/\toA (l.drop i) r=zvv r)):=by
  intro n;induction n with
  | zero=>intro i h1 h2; omega
  | succ n ih=>
   intro i h1 h2;have hlen:=h.1;show ∃ x,(zJl l i r).ev (λx y=>zJa n x.1 x.2.2.1 y.1) (λr=>(true,r)) (false,.inl default)=(true,x)/\_
   unfold zJl;by_cases hi:i<l.length
   ·simp only [Wy.ev_i,Wy.ev_k,Wy.ev_h,Wy.ev_bn,Wy.ev_d,tT,hi,zbio];rw [zby hi,toA];by_cases hr:(l.getD i default).Row=r
    ·rw [decide_eq_true hr,if_pos hr,cond_true];exact ⟨_,rfl,.inl rfl⟩
    ·rw [decide_eq_false hr,if_neg hr,cond_false,zL (by omega)]
     exact ih (i+1) (by omega) (by omega)
   ·simp only [Wy.ev_i,Wy.ev_k,Wy.ev_h,Wy.ev_bn,Wy.ev_d,tT,hi];rw [zc3 hi];exact ⟨_,rfl,.inr ⟨rfl,rfl⟩⟩
 obtain ⟨x,h1,h2⟩:=key (l.length+Int.toNat (0:Int)+(1:Nat)) 0 (by omega) (by omega)
 unfold zSP zXo;rw [show ((0:Nat):Int)=(0:Int) from rfl] at h1
 rw [Wy.fin_bn,h1];rw [List.drop_zero] at h2;rcases h2 with rfl | ⟨rfl,h2⟩
 ·exact ⟨_,_,rfl,.inl ⟨rfl,rfl⟩⟩
 ·exact ⟨_,_,rfl,.inr ⟨rfl,h2⟩⟩
def RS (s:Int⊕yC) (e:Int) (p:yC):Prop:=match s with
 | .inl x=>e=x/\x≠0
 | .inr q=>e=0/\p=q
theorem zbiK (r:yC×Int):RS (opS r) r.2 r.1:=by
 unfold opS;by_cases h:r.2=0
 ·rw [if_pos h]; exact ⟨h,rfl⟩
 ·rw [if_neg h]; exact ⟨rfl,h⟩
theorem zbda (b:yC) (s:Int⊕yC):sbd s (zCV b 0)=s:=by cases s <;>rfl
section
variable (g:At->yG->Bool×(yC×Int)) (to:yG)
theorem zbfd (b:yC) (hb:okA b) (t16:yC) (t17 t18:Int) (t26:yD) (t27 t28:Int) (N:Nat) (hN:N<=1000000) (sum:yC):
  ∀ (n i:Nat) (e:Int) (p:yC) (s:Int⊕yC),N<i+n->i<=N->GS s->RS s e p->∃ e' p',zr8 g n to b e t16 t17 t18 t26 t27 t28 N i sum p=(true,(to,e',t16,t17,t18,t26,t27,t28,sum,p'))/\RS (sbd s (zCV b (N - i))) e' p'
 | 0,i,e,p,s,h1,h2,_,_=>by omega
 | n+1,i,e,p,s,h1,h2,hs,hr=>by
  show ∃ e' p',(zsC g to b e t16 t17 t18 t26 t27 t28 N i sum p).ev (λx y=>zr8 g n x.1.1.1 x.2.2.2.1 x.2.2.2.2.1 x.2.2.2.2.2.1 x.2.2.2.2.2.2.1 x.2.2.2.2.2.2.2.1 x.2.2.2.2.2.2.2.2.1 x.2.2.2.2.2.2.2.2.2.1 x.2.2.2.2.2.2.2.2.2.2.1 x.2.2.2.2.2.2.2.2.2.2.2.1 x.2.2.2.2.2.2.2.2.2.2.2.2.1 y.1 y.2.1) (λr=>(true,r)) (false,default)=_/\_
  unfold zsC;by_cases hi:i<N
  ·have hk:N - i=(N - (i+1))+1:=by omega
   cases s with
   | inl x=>
    obtain ⟨rfl,hx⟩:=hr;have he:(e==(0:Int))=false:=by simp [hx]
    simp only [Wy.ev_i,Wy.ev_k,Wy.ev_h,Wy.ev_bn,Wy.ev_d,zEQ,hi,decide_true,cond_true,he,cond_false,zL (show i<4611686018427387904 by omega)]
    exact zbfd b hb t16 t17 t18 t26 t27 t28 N hN sum n (i+1) e p (.inl e) (by omega) (by omega) hs ⟨rfl,hx⟩
   | inr q=>
    obtain ⟨rfl,rfl⟩:=hr;have hp:okA p:=hs;simp only [Wy.ev_i,Wy.ev_k,Wy.ev_h,Wy.ev_bn,Wy.ev_d,zEQ,hi,decide_true,cond_true,(zbkR hp hb).1,zL (show i<4611686018427387904 by omega),show ((0:Int)==0)=true from rfl]
    rw [hk];exact zbfd b hb t16 t17 t18 t26 t27 t28 N hN sum n (i+1) (zEk p b).2 (zEk p b).1 (opS (zEk p b)) (by omega) (by omega) (zRq (z8R hp hb)) (zbiK _)
  ·have hk:N - i=0:=by omega
   simp only [Wy.ev_i,Wy.ev_k,zEQ,hi,decide_false,cond_false];rw [hk,zbda];exact ⟨e,p,rfl,hr⟩
def AG (l:yD):Prop:=∀ f∈l,(g f.At to=(true,ofS (zeE (toA to) f.At))/\GS (zeE (toA to) f.At))/\0<=f.Exp/\f.Exp<=1000000
theorem zbgx {s:Int⊕yC} (h:GS s):okA (ofS s).1:=by
 cases s with
 | inl e=>exact zkp
 | inr a=>exact h
theorem zbbX {s:Int⊕yC} (h:GS s) (p:yC):RS (sbd s λ_=>.inr p) (ofS s).2 p:=by
 cases s with
 | inl e=>exact ⟨rfl,h⟩
 | inr a=>exact ⟨rfl,rfl⟩
theorem zbbA {s:Int⊕yC} (h:GS s) {p:yC} (hp:okA p):GS (sbd s λ_=>.inr p):=zRi h λ_ _=>hp
theorem z9B {s:Int⊕yC} (p:yC) (N:Nat):sbd (sbd s λ_=>.inr p) (zCV (ofS s).1 N)=sbd s λb=>zCV b N p:=by
 cases s <;>rfl
theorem zbkJ (l:yD) (hl:l.length<=1000000) (hg:AG g to l) (t16:yC) (t17 t18:Int) (sum:yC):
  ∀ (n i:Nat) (p:yC),l.length<i+n->i<=l.length->okA p->zt9 g n to t16 t17 t18 l l.length i sum p=(true,match zdv (toA to) (l.drop i) p with
   | .inl e=>.inl e
   | .inr q=>.inr (to,t16,t17,t18,sum,q))
 | 0,i,p,h1,h2,_=>by omega
 | n+1,i,p,h1,h2,hp=>by
  show (ztY g to t16 t17 t18 l l.length i sum p).ev (λx y=>zt9 g n x.1.1.1 x.2.2.2.1 x.2.2.2.2.1 x.2.2.2.2.2.1 x.2.2.2.2.2.2.1 x.2.2.2.2.2.2.2.1 x.2.2.2.2.2.2.2.2.1 y.1 y.2.1) (λr=>(true,r)) (false,.inl default)=_
  unfold ztY;by_cases hi:i<l.length
  ·obtain ⟨⟨hf,hG⟩,e0,e1⟩:=hg _ (zp hi);obtain ⟨N,hN⟩:∃ N:Nat,(l.getD i default).Exp=(N:Int):=⟨_,(Int.toNat_of_nonneg e0).symm⟩
   obtain ⟨e',p',h11,hrs⟩:=zbfd g to (ofS (zeE (toA to) (l.getD i default).At)).1 (zbgx hG) t16 t17 t18 l l.length i N (by omega) sum
    (to.length+(ofS (zeE (toA to) (l.getD i default).At)).1.length+(ofS (zeE (toA to) (l.getD i default).At)).2.toNat +t16.length+t17.toNat +t18.toNat +l.length+(l.length:Int).toNat +(i:Int).toNat +(N:Int).toNat +Int.toNat (0:Int)+sum.length+p.length+(1:Nat)) 0 _ p _ (by omega) (by omega) (zbbA hG hp) (zbbX hG p)
   rw [z9B,Nat.sub_zero] at hrs;rw [show ((0:Nat):Int)=(0:Int) from rfl] at h11
   rw [zby hi,zIS,hN,Int.toNat_natCast];simp only [Wy.ev_i,Wy.ev_k,Wy.ev_h,Wy.ev_bn,Wy.ev_d,tT,hi,At.eta,hf,hN,zAE];rw [show Int.toNat (l.length:Int)=l.length from Int.toNat_natCast _,show Int.toNat (i:Int)=i from Int.toNat_natCast _,show Int.toNat (N:Int)=N from Int.toNat_natCast _] at h11
   rw [h11];have hS:=hG;revert hrs hS;cases zeE (toA to) (l.getD i default).At with
   | inl x=>
    rintro ⟨rfl,hx⟩ _
    simp [hx,zGa]
   | inr b=>
    intro hrs hb;simp only [zcm] at hrs ⊢;have hq:=z6F (b:=b) hb N p hp;revert hrs hq;cases zCV b N p with
    | inl x=>
     rintro ⟨rfl,hx⟩ _
     simp [hx,zGa]
    | inr q=>
     rintro ⟨rfl,rfl⟩ hq
     simp only [zcm,decide_true,Bool.not_true,cond_true,cond_false,zL (show i<4611686018427387904 by omega)]
     exact zbkJ l hl hg t16 t17 t18 sum n (i+1) p' (by omega) (by omega) hq
  ·simp only [Wy.ev_i,Wy.ev_k,Wy.ev_h,Wy.ev_bn,Wy.ev_d,tT,hi];rw [zc3 hi,zL1]
theorem zbkH (l:yC) (hl:l.length<=1000000) (hg:∀ t∈l,t.Fs.length<=1000000/\AG g to t.Fs) (hok:∀ t∈l,∀ p,okA p->GS (zdv (toA to) t.Fs p)):
  ∀ (n i:Nat) (s:yC),l.length<i+n->i<=l.length->okA s->zub g n to l l.length i s=(true,zcu (toA to) (l.drop i) s)
 | 0,i,s,h1,h2,_=>by omega
 | n+1,i,s,h1,h2,hs=>by
  show (zt8 g to l l.length i s).ev (λx y=>zub g n x.1.1.1 x.2.2.1 x.2.2.2.1 x.2.2.2.2.1 y.1) (λr=>(true,r)) (false,.inl default)=_
  unfold zt8;by_cases hi:i<l.length
  ·have ht:=hg _ (zp hi);have hc:=zbcM (l.getD i default).Cf;have h7:=zbkJ g to (l.getD i default).Fs ht.1 ht.2 l l.length i s (to.length+l.length+(l.length:Int).toNat +(i:Int).toNat +(l.getD i default).Fs.length+((l.getD i default).Fs.length:Int).toNat +Int.toNat (0:Int)+s.length+(zvk (l.getD i default).Cf).length+(1:Nat)) 0 (zvk (l.getD i default).Cf) (by omega) (by omega) hc
   rw [show ((0:Nat):Int)=(0:Int) from rfl,List.drop_zero] at h7
   simp only [Int.toNat_natCast] at h7;rw [zby hi,zWJ];simp only [Wy.ev_i,Wy.ev_k,Wy.ev_h,Wy.ev_bn,Wy.ev_d,tT,hi,(zbhe _).1];rw [h7];have hS:=hok _ (zp hi) _ hc;revert hS;cases zdv (toA to) (l.getD i default).Fs (zvk (l.getD i default).Cf) with
   | inl e=>intro _; rfl
   | inr p=>
    intro hp;have hp:okA p:=hp;simp only [zcm,isL,getR,cond_true,cond_false,(zbkV hs hp).1,zAE];have hG:=z8H hs hp;unfold opS;by_cases he:(zFk s p).2=0
    ·rw [if_pos he,decide_eq_true he,zcm,zL (show i<4611686018427387904 by omega)]
     exact zbkH l hl hg hok n (i+1) _ (by omega) (by omega) hG.1
    ·rw [if_neg he,decide_eq_false he]; rfl
  ·simp only [Wy.ev_i,Wy.ev_k,Wy.ev_h,Wy.ev_bn,Wy.ev_d,tT,hi];rw [zc3 hi,zZY]
theorem zblZ (a:yC) (hl:a.length<=1000000) (hg:∀ t∈a,t.Fs.length<=1000000/\AG g to t.Fs) (hok:∀ t∈a,∀ p,okA p->GS (zdv (toA to) t.Fs p)):zma g a to=(true,ofS (zcu (toA to) a [])):=by
 unfold zma zES;have h3:=zbkH g to a hl hg hok (to.length+a.length+(Int.ofNat a.length).toNat +Int.toNat (0:Int)+(0:Nat)+(1:Nat)) 0 [] (by omega) (by omega) zkp
 rw [show ((0:Nat):Int)=(0:Int) from rfl,List.drop_zero] at h3
 rw [Wy.fin_bn,show Int.ofNat a.length=(a.length:Int) from rfl] at *
 rw [h3];cases zcu (toA to) a [] <;>rfl
end
section
variable (g:yC->yG->Bool×(yC×Int)) (to:yG)
theorem zbkN (x:At) (l:yA) (hl:l.length<=1000000) (hg:∀ a∈l,g a to=(true,ofS (zcu (toA to) a []))/\GS (zcu (toA to) a [])):
  ∀ (n i:Nat) (xs:yA),l.length<i+n->i<=l.length->xs.length<=i->zka g n to l l.length i x xs=(true,match zjG (toA to) (l.drop i) with
   | .inl e=>.inl e
   | .inr ys=>.inr (to,x,xs++ys))
 | 0,i,xs,h1,h2,_=>by omega
 | n+1,i,xs,h1,h2,hx=>by
  have hreach:zN=70368744177664:=rfl;show (zoL g to l l.length i x xs).ev (λx y=>zka g n x.1.1.1 x.2.2.2.1 x.2.2.2.2.1 x.2.2.2.2.2.1 y.1 y.2.1) (λr=>(true,r)) (false,.inl default)=_
  unfold zoL;by_cases hi:i<l.length
  ·obtain ⟨hf,hG⟩:=hg _ (zp hi);have hb:decide ((xs.length+1)*24<=zN)=true:=by simp only [qe]; omega
   rw [zby hi,zAt];simp only [Wy.ev_i,Wy.ev_k,Wy.ev_h,Wy.ev_bn,Wy.ev_d,tT,hi,hf,zAE,List.length_singleton,hb];revert hG;cases zcu (toA to) (l.getD i default) [] with
   | inl e=>intro he; simp [ofS,show e≠0 from he,zGa]
   | inr b=>
    intro _;simp only [ofS,decide_true,Bool.not_true,cond_false,zcm,zL (show i<4611686018427387904 by omega)]
    rw [zbkN x l hl hg n (i+1) (xs++[b]) (by omega) (by omega) (by simp; omega)]
    cases zjG (toA to) (l.drop (i+1)) with
    | inl e=>rfl
    | inr ys=>simp [zcm]
  ·simp only [Wy.ev_i,Wy.ev_k,Wy.ev_h,Wy.ev_bn,Wy.ev_d,tT,hi];rw [zc3 hi,zDl]; simp
theorem zbiP (x:At) (l:yE) (hl:l.length<=1000000) (hg:∀ w∈l,g w.Ann to=(true,ofS (zcu (toA to) w.Ann []))/\GS (zcu (toA to) w.Ann [])):
  ∀ (n i:Nat) (xs:yE),l.length<i+n->i<=l.length->xs.length<=i->zjv g n to l l.length i x xs=(true,match zgd (toA to) (l.drop i) with
   | .inl e=>.inl e
   | .inr ys=>.inr (x,xs++ys))
 | 0,i,xs,h1,h2,_=>by omega
 | n+1,i,xs,h1,h2,hx=>by
  have hreach:zN=70368744177664:=rfl;show (znC g to l l.length i x xs).ev (λx y=>zjv g n x.1.1.1 x.2.2.2.1 x.2.2.2.2.1 x.2.2.2.2.2.1 y.1 y.2.1) (λr=>(true,r)) (false,.inl default)=_
  unfold znC;by_cases hi:i<l.length
  ·obtain ⟨hf,hG⟩:=hg _ (zp hi);have hb:decide ((xs.length+1)*56<=zN)=true:=by simp only [qe]; omega
   rw [zby hi,zPm];simp only [Wy.ev_i,Wy.ev_k,Wy.ev_h,Wy.ev_bn,Wy.ev_d,tT,hi,hf,zAE,List.length_singleton,hb];revert hG;cases zcu (toA to) (l.getD i default).Ann [] with
   | inl e=>intro he; simp [ofS,show e≠0 from he,zGa]
   | inr b=>
    intro _;simp only [ofS,decide_true,Bool.not_true,cond_false,zcm,zL (show i<4611686018427387904 by omega)]
    rw [zbiP x l hl hg n (i+1) (xs++[WO.mk (l.getD i default).Value b]) (by omega) (by omega) (by simp; omega)]
    cases zgd (toA to) (l.drop (i+1)) with
    | inl e=>rfl
    | inr ys=>simp [zcm]
  ·simp only [Wy.ev_i,Wy.ev_k,Wy.ev_h,Wy.ev_bn,Wy.ev_d,tT,hi];rw [zc3 hi,zJN]; simp
structure XG (x:At):Prop where
 va:zpw x=true
 lens:x.Ag.length<=1000000/\x.Items.length<40
 ga:∀ a∈x.Ag,g a to=(true,ofS (zcu (toA to) a []))/\GS (zcu (toA to) a [])
 gi:∀ w∈x.Items,g w.Ann to=(true,ofS (zcu (toA to) w.Ann []))/\GS (zcu (toA to) w.Ann [])
 sa:GL x.Ag.length (zjG (toA to) x.Ag)
 si:GI x.Items (zgd (toA to) x.Items)
 wf:zgN x
theorem zbjv {f o:Int} {i l:yE} {b:Value} (h20:i.length<40) (hl:l.length=i.length/\∀ w∈l,okA w.Ann/\∃ v∈i,v.Value=w.Value):zpk f l o b=(true,zy9 f l o b)/\zHq f l o b=(true,zy9 f l o b):=by
 have h1:∀ w∈l,zo 12 w.Ann/\zP w.Ann<=4611686018427387904:=λw hw=>(hl.2 w hw).1.1
 have h2:(l.filter znJ).length<40:=Nat.lt_of_le_of_lt (List.length_filter_le _ _) (by omega)
 exact ⟨zbjc f l o b (by omega) h1 (by omega) h2,zbcn f l o b (by omega) h1 (by omega)⟩
theorem z9P {x:At} (h:zpw x=true):(x.Kind=1->x.Ag.length=2)/\(x.Kind=2\/x.Kind=3->x.Ag.length=1):=by
 cases zWT.1 h <;>simp
theorem zbj9 (hto:okB to) (x:At) (h:XG g to x):ziV g x to=(true,ofS (zeE (toA to) x)):=by
 unfold ziV zAm;have h5:=zbkN g to x x.Ag h.lens.1 h.ga (to.length+x.Ag.length+(Int.ofNat x.Ag.length).toNat +Int.toNat (0:Int)+x.Ag.length+x.Items.length+(0:Nat)+(1:Nat)) 0 [] (by omega) (by omega) (by simp)
 rw [show ((0:Nat):Int)=(0:Int) from rfl,List.drop_zero] at h5
 have h5':zka g (to.length+x.Ag.length+(Int.ofNat x.Ag.length).toNat +Int.toNat (0:Int)+x.Ag.length+x.Items.length+(0:Nat)+(1:Nat)) to x.Ag (Int.ofNat x.Ag.length) 0 x []=_:=h5;have h21:=zbiP g to x x.Items (by have:=h.lens.2; omega) h.gi (to.length+x.Items.length+(Int.ofNat x.Items.length).toNat +Int.toNat (0:Int)+x.Ag.length+x.Items.length+(0:Nat)+(1:Nat)) 0 [] (by omega) (by omega) (by simp)
 rw [show ((0:Nat):Int)=(0:Int) from rfl,List.drop_zero] at h21
 have h21':zjv g (to.length+x.Items.length+(Int.ofNat x.Items.length).toNat +Int.toNat (0:Int)+x.Ag.length+x.Items.length+(0:Nat)+(1:Nat)) to x.Items (Int.ofNat x.Items.length) 0 x []=_:=h21;rw [At.eta,zZn];have b0:=zhL x.Kind 0;have b1:=zhL x.Kind 1;have b2:=zhL x.Kind 2;have b3:=zhL x.Kind 3;simp only [Wy.fin_i,Wy.fin_bn,Wy.fin_k,zblJ hto,cond_true,h5',List.nil_append];by_cases hk0:x.Kind=0
 ·rw [b0,decide_eq_true hk0,if_pos hk0]; rfl
 ·rw [b0,decide_eq_false hk0,if_neg hk0,cond_false];have hA:=h.sa;have hlen:=z9P h.va;revert hA;cases zjG (toA to) x.Ag with
  | inl e=>intro _; rfl
  | inr xs=>
   intro hxs;have hxl:xs.length=x.Ag.length/\∀ a∈xs,okA a:=hxs;have o0:=zJp hxl.2 0;have o1:=zJp hxl.2 1;simp only [isL,getR,cond_false,zcm];by_cases hk1:x.Kind=1
   ·have:=hlen.1 hk1;rw [b1,decide_eq_true hk1,if_pos hk1];simp only [cond_true,show Int.toNat (0:Int)=0 from rfl,show Int.toNat (1:Int)=1 from rfl,(zbif o0 o1).1,zFC (z9h o0 o1).2]
    simp [hxl.1,this]
   ·rw [b1,decide_eq_false hk1,if_neg hk1,cond_false];by_cases hk2:x.Kind=2
    ·have:=hlen.2 (.inl hk2);rw [b2,decide_eq_true hk2,if_pos hk2];simp only [cond_true,show Int.toNat (0:Int)=0 from rfl,show Int.toNat (1:Int)=1 from rfl,(zbh3 o0).1,zFC (z8f o0).2]
     simp [hxl.1,this]
    ·rw [b2,decide_eq_false hk2,if_neg hk2,cond_false];by_cases hk3:x.Kind=3
     ·have:=hlen.2 (.inr hk3);rw [b3,decide_eq_true hk3,if_pos hk3];simp only [cond_true,show Int.toNat (0:Int)=0 from rfl,show Int.toNat (1:Int)=1 from rfl,(zbgw o0).1,zFC (z9f o0).2]
      simp [hxl.1,this]
     ·rw [b3,decide_eq_false hk3,if_neg hk3,cond_false,At.eta,h21'];have hI:=h.si;revert hI;cases zgd (toA to) x.Items with
      | inl e=>intro _; rfl
      | inr is=>
       intro his;have ht:=zbjv (f:=x.Func) (o:=x.Op) (b:=x.Bd) h.lens.2 his;simp only [cond_true,cond_false,List.nil_append,ht.1,zcm];have hw:=znZ h.wf;have hl:is.length=x.Items.length/\∀ w∈is,okA w.Ann/\∃ v∈x.Items,v.Value=w.Value:=his
       rw [zFC (z0b (by have:=h.lens.2; omega) (λw hw'=>⟨(hl.2 w hw').1,by
        obtain ⟨v,hv,e⟩:=(hl.2 w hw').2;rw [<- e]; exact (zgu hw.2.1.1 v hv).1⟩) hw.2.2.2.2.2.1 hw.2.2.2.2.2.2 hw.2.2.1).2]
end
theorem zbhq {a b:yC} (ha:okA a) (hb:okA b):zKY a b=(true,zFk a b):=by
 unfold zKY zRT zFk;simp only [Wy.fin_bn,Wy.fin_i,Wy.fin_k,ha.rvalid,hb.rvalid,cond_true];cases va:zV a with
 | false=>first | trivial | rfl
 | true=>
  cases vb:zV b with
  | false=>first | trivial | rfl
  | true=>
   obtain ⟨sa,la,ta⟩:=znD va ha.2.1;obtain ⟨sb,lb,tb⟩:=znD vb hb.2.1;have ga:∀ t∈a,GT t:=λt ht=>(ta t ht).1
   have gb:∀ t∈b,GT t:=λt ht=>(tb t ht).1
   have hsl:(zgB a b).length<=1000000:=by have:=zFL b a; omega
   obtain ⟨f1,f2⟩:=z0r hsl (zK2 b a sa ga gb);simp only [Bool.not_true,cond_false,Bool.and_self,zbel a b ga gb sa la lb,zCq f1 (by omega:10<=100) f2,cond_true] <;>first | trivial | rfl
theorem zbhS {a b:yC} (ha:okA a) (hb:okA b):zLk a b=(true,zEk a b):=by
 unfold zLk zRV zEk;simp only [Wy.fin_bn,Wy.fin_i,Wy.fin_k,ha.rvalid,hb.rvalid,cond_true];cases va:zV a with
 | false=>first | trivial | rfl
 | true=>
  cases vb:zV b with
  | false=>first | trivial | rfl
  | true=>
   obtain ⟨sa,la,ta⟩:=znD va ha.2.1;obtain ⟨sb,lb,tb⟩:=znD vb hb.2.1;have hpl:(zfy a b).length<=1000000:=by rw [zRu]; have:=Nat.mul_le_mul la lb; omega
   have hsl:(zqy a b).length<=1000000:=by have:=zFL (zfy a b) []; simp at this; exact Nat.le_trans this hpl
   obtain ⟨f1,f2⟩:=z0r hsl (zK2 (zfy a b) [] .nil (λt ht=>by cases ht) (zWb ta tb))
   have f1:zo 10 (zqy a b):=f1;have f2:zP (zqy a b)<=4611686018427387904:=f2;simp only [Bool.not_true,cond_false,Bool.and_self,zbb1 a b ta tb la lb,zCq f1 (by omega:10<=100) f2,cond_true] <;>first | trivial | rfl
theorem zbfx {a b:yC} (ha:okA a) (hb:okA b):zEE a b=(true,zOo a b):=by
 unfold zEE zLS zOo;simp only [Wy.fin_bn,Wy.fin_i,Wy.fin_k,ha.rvalid,hb.rvalid,cond_true];cases va:zV a with
 | false=>first | trivial | rfl
 | true=>
  cases vb:zV b with
  | false=>first | trivial | rfl
  | true=>
   obtain ⟨f1,f2⟩:=zFm (l:=[a,b]) (k:=1) (by simp) (λx hx=>by
    simp only [qd,List.not_mem_nil,or_false] at hx;rcases hx with rfl | rfl
    ·exact va
    ·exact vb)
   simp only [Bool.not_true,cond_false,Bool.and_self,zNX,zAl ha.1.1 (by omega:12<=100),zF3,zCq f1 (by omega:10<=100) f2,cond_true,opR]
   by_cases hb0:b=[]
   ·simp only [hb0,decide_true,cond_true,if_true] <;>trivial
   ·by_cases ha0:a=[]
    ·simp only [hb0,ha0,decide_true,decide_false,cond_true,cond_false,if_true,if_false,true_or] <;>trivial
    ·by_cases hab:a=b
     ·simp only [hb0,ha0,hab,decide_true,decide_false,cond_true,cond_false,if_true,if_false,or_true] <;>trivial
     ·simp only [hb0,ha0,hab,decide_false,cond_false,if_false,or_self] <;>first | trivial | rfl
theorem zbfI {a:yC} (ha:okA a):zvT a=(true,zN6 a):=by
 unfold zvT zLQ zN6;simp only [Wy.fin_bn,Wy.fin_i,Wy.fin_k,ha.rvalid,cond_true];cases va:zV a with
 | false=>first | trivial | rfl
 | true=>
  obtain ⟨f1,f2⟩:=zFm (l:=[a]) (k:=2) (by simp) (λx hx=>by rw [qh] at hx; subst hx; exact va)
  have hla:a.length<=1000000000:=by have:=(ze1 va).2.2; omega
  have hbu:isB a=isU a:=zOX va;simp only [Bool.not_true,cond_false,zNX,zGZ,zp5 a hla,zF3,zCq f1 (by omega:10<=100) f2,cond_true,opR,hbu]
  rw [show zoK (zcy ⟨2,⟨0,0⟩,[a],0,[],0,⟨0,0,ByteArray.mk #[]⟩⟩)=zoK (zcy (zYS a)) from rfl]
  clear f1 f2;generalize zoK (zcy (zYS a))=R;by_cases h0:a=[]
  ·simp only [h0,decide_true,cond_true,if_true,true_or] <;>trivial
  ·cases hu:isU a with
   | true=>simp only [h0,decide_false,cond_false,cond_true,if_true,or_true] <;>trivial
   | false=>
    simp only [h0,decide_false,cond_false,if_false,or_self,Bool.false_eq_true]
    match a,h0 with
    | [t],_=>
     have e1:zvI [t]=(t.Fs.length==0):=by simp [zvI]
     have e2:isC [t]=(t.Fs.length==0):=rfl;rw [e1,e2];cases (t.Fs.length==0) with
     | true=>simp only [cond_true,if_true] <;>first | trivial | rfl
     | false=>simp only [cond_false,cond_true,Bool.false_eq_true,if_false] <;>first | trivial | rfl
    | t::s::r,_=>
     have e2:isC (t::s::r)=false:=rfl;simp only [zPC,e2,cond_false,cond_true,Bool.false_eq_true,if_false]
theorem zbdw {a:yC} (ha:okA a):zDb a=(true,zOw a):=by
 unfold zDb zI6 zOw;simp only [Wy.fin_bn,Wy.fin_i,Wy.fin_k,ha.rvalid,cond_true];cases va:zV a with
 | false=>first | trivial | rfl
 | true=>
  obtain ⟨f1,f2⟩:=zFm (l:=[a]) (k:=3) (by simp) (λx hx=>by rw [qh] at hx; subst hx; exact va)
  have hla:a.length<=1000000000:=by have:=(ze1 va).2.2; omega
  simp only [Bool.not_true,cond_false,zNX,zp5 a hla,zF3,zCq f1 (by omega:10<=100) f2,cond_true,opR]
  by_cases h0:a=[]
  ·simp only [h0,decide_true,cond_true,if_true] <;>first | trivial | rfl
  ·cases hu:zvI a with
   | true=>simp only [h0,decide_false,cond_false,cond_true,if_true,if_false] <;>trivial
   | false=>simp only [h0,decide_false,cond_false,if_false,Bool.false_eq_true] <;>first | trivial | rfl
theorem zbe9 (n:Int):zvR n=(true,zvk n):=by
 unfold zvR zMg zvk;by_cases h:n<1
 ·simp only [Wy.fin_i,Wy.fin_k,h,decide_true,cond_true,if_true]
 ·simp only [Wy.fin_i,Wy.fin_k,h,decide_false,cond_false,if_false]
theorem zbh8 {f o:Int} {i l:yE} {b:Value} (h20:i.length<=1000000) (hl:l.length=i.length/\∀ w∈l,okA w.Ann/\∃ v∈i,v.Value=w.Value):zHq f l o b=(true,zy9 f l o b):=by
 have h1:∀ w∈l,zo 12 w.Ann/\zP w.Ann<=4611686018427387904:=λw hw=>(hl.2 w hw).1.1
 exact zbcn f l o b (by omega) h1 (by omega)
theorem zbdc:∀ (l:yD) (k:Nat),k<l.length->(l.getD k default).Exp.toNat<=zLq l
 | [],k,h=>by simp at h
 | f::r,0,_=>by show f.Exp.toNat<=_; rw [zLq]; omega
 | f::r,k+1,h=>by
  have:=zbdc r k (by simpa using h)
  show (r.getD k default).Exp.toNat<=_;rw [zLq]; omega
theorem zbcl:∀ (l:yC) (k:Nat),k<l.length->zLq (l.getD k default).Fs<=zb6 l
 | [],k,h=>by simp at h
 | f::r,0,_=>by show zLq f.Fs<=_; rw [zb6]; omega
 | f::r,k+1,h=>by
  have:=zbcl r k (by simpa using h)
  show zLq (r.getD k default).Fs<=_;rw [zb6]; omega
section
variable (g:At->yG->Bool×(yC×Int)) (l:yG)
theorem zbiw (a:yC) (i k:Nat) (hi:i<a.length) (hk:k<(a.getD i default).Fs.length) (out b:yC) (hb:okA b) (N:Nat) (hN:((a.getD i default).Fs.getD k default).Exp=N) (hN':N<=1000000):
  ∀ (n j:Nat) (e:Int) (p:yC) (s:Int⊕yC),N<j+n->j<=N->GS s->RS s e p->∃ e' p',zAB g n a l out i p k b e j=(true,(a,l,out,(i:Int),p',(k:Int),e'))/\RS (sbd s (zCV b (N - j))) e' p'
 | 0,j,e,p,s,h1,h2,_,_=>by omega
 | n+1,j,e,p,s,h1,h2,hs,hr=>by
  show ∃ e' p',(zAT g a l out i p k b e j).ev (λx y=>zAB g n x.1 x.2.1 x.2.2.1 x.2.2.2.1 x.2.2.2.2.1 x.2.2.2.2.2.1 x.2.2.2.2.2.2.1 x.2.2.2.2.2.2.2.1 x.2.2.2.2.2.2.2.2.1) (λr=>(true,r)) (false,default)=_/\_
  unfold zAT;simp only [Wy.ev_i,Wy.ev_k,Wy.ev_h,Wy.ev_bn,Wy.ev_d,tT,hi,hk,hN];by_cases hj:j<N
  ·have hk:N - j=(N - (j+1))+1:=by omega
   cases s with
   | inl x=>
    obtain ⟨rfl,hx⟩:=hr;have he:(e==(0:Int))=false:=by simp [hx]
    simp only [hj,decide_true,cond_true,he,cond_false];exact ⟨e,p,rfl,rfl,hx⟩
   | inr q=>
    obtain ⟨rfl,rfl⟩:=hr;have hp:okA p:=hs;simp only [hj,decide_true,cond_true,zbhS hp hb,zL (show j<4611686018427387904 by omega),show ((0:Int)==0)=true from rfl]
    rw [hk];exact zbiw a i _ hi (by assumption) out b hb N hN hN' n (j+1) (zEk p b).2 (zEk p b).1 (opS (zEk p b)) (by omega) (by omega) (zRq (z8R hp hb)) (zbiK _)
  ·have hk:N - j=0:=by omega
   simp only [hj,decide_false,cond_false];rw [hk,zbda];exact ⟨e,p,rfl,hr⟩
theorem zbke (a:yC) (hal:a.length<=1000000) (i:Nat) (hi:i<a.length) (hl:(a.getD i default).Fs.length<=1000000) (hg:AG g l (a.getD i default).Fs) (out:yC):
  ∀ (n k:Nat) (p:yC),(a.getD i default).Fs.length<k+n->k<=(a.getD i default).Fs.length->okA p->zCF g n a l out i p k=(true,match zdv (toA l) ((a.getD i default).Fs.drop k) p with
   | .inl e=>.inl e
   | .inr q=>.inr (a,l,out,(i:Int),q))
 | 0,k,p,h1,h2,_=>by omega
 | n+1,k,p,h1,h2,hp=>by
  show (zB7 g a l out i p k).ev (λx y=>zCF g n x.1 x.2.1 x.2.2.1 x.2.2.2.1 x.2.2.2.2.1 x.2.2.2.2.2.1) (λr=>(true,r)) (false,.inl default)=_
  unfold zB7;by_cases hk:k<(a.getD i default).Fs.length
  ·obtain ⟨⟨hf,hG⟩,e0,e1⟩:=hg _ (zp hk);obtain ⟨N,hN⟩:∃ N:Nat,((a.getD i default).Fs.getD k default).Exp=(N:Int):=⟨_,(Int.toNat_of_nonneg e0).symm⟩;have hsz:=Nat.le_trans (zbdc _ k hk) (zbcl a i hi);rw [hN,Int.toNat_natCast] at hsz
   obtain ⟨e',p',h11,hrs⟩:=zbiw g l a i k hi hk out (ofS (zeE (toA l) ((a.getD i default).Fs.getD k default).At)).1 (zbgx hG) N hN (by omega)
    ((a.length+l.length+out.length+(i:Int).toNat +p.length+(k:Int).toNat +(ofS (zeE (toA l) ((a.getD i default).Fs.getD k default).At)).1.length+(ofS (zeE (toA l) ((a.getD i default).Fs.getD k default).At)).2.toNat +Int.toNat (0:Int)+(1:Nat))+zb6 a+zb6 out+zb6 p+zb6 (ofS (zeE (toA l) ((a.getD i default).Fs.getD k default).At)).1) 0 _ p _ (by omega) (by omega) (zbbA hG hp) (zbbX hG p)
   rw [z9B,Nat.sub_zero] at hrs;rw [show ((0:Nat):Int)=(0:Int) from rfl] at h11
   rw [zby hk,zIS,hN,Int.toNat_natCast];simp only [Wy.ev_i,Wy.ev_k,Wy.ev_h,Wy.ev_bn,Wy.ev_d,tT,hi,hk,At.eta,hf,zAE];simp only [Int.toNat_natCast] at h11;rw [h11];have hS:=hG;revert hrs hS;cases zeE (toA l) ((a.getD i default).Fs.getD k default).At with
   | inl x=>
    rintro ⟨rfl,hx⟩ _
    simp [hx,zGa]
   | inr b=>
    intro hrs hb;simp only [zcm] at hrs ⊢;have hq:=z6F (b:=b) hb N p hp;revert hrs hq;cases zCV b N p with
    | inl x=>
     rintro ⟨rfl,hx⟩ _
     simp [hx,zGa]
    | inr q=>
     rintro ⟨rfl,rfl⟩ hq
     simp only [zcm,decide_true,Bool.not_true,cond_true,cond_false,zL (show k<4611686018427387904 by omega)]
     exact zbke a hal i hi hl hg out n (k+1) p' (by omega) (by omega) hq
  ·simp only [Wy.ev_i,Wy.ev_k,Wy.ev_h,Wy.ev_bn,Wy.ev_d,tT,hi,hk];rw [zc3 hk,zL1]
theorem zbkw (a:yC) (hal:a.length<=1000000) (hg:∀ t∈a,t.Fs.length<=1000000/\AG g l t.Fs) (hok:∀ t∈a,∀ p,okA p->GS (zdv (toA l) t.Fs p)):
  ∀ (n i:Nat) (s:yC),a.length<i+n->i<=a.length->okA s->zCT g n a l s i=(true,zcu (toA l) (a.drop i) s)
 | 0,i,s,h1,h2,_=>by omega
 | n+1,i,s,h1,h2,hs=>by
  show (zCP g a l s i).ev (λx y=>zCT g n x.1 x.2.1 x.2.2.1 x.2.2.2.1) (λr=>(true,r)) (false,.inl default)=_
  unfold zCP;by_cases hi:i<a.length
  ·have ht:=hg _ (zp hi);have hc:=zbcM (a.getD i default).Cf;have hsz:=szTs_get' a i hi;have h7:=zbke g l a hal i hi ht.1 ht.2 s ((a.length+l.length+s.length+(i:Int).toNat +(zvk (a.getD i default).Cf).length+Int.toNat (0:Int)+(1:Nat))+zb6 a+zb6 s+zb6 (zvk (a.getD i default).Cf)) 0 (zvk (a.getD i default).Cf) (by omega) (by omega) hc
   rw [show ((0:Nat):Int)=(0:Int) from rfl,List.drop_zero] at h7
   simp only [Int.toNat_natCast] at h7;rw [zby hi,zWJ];simp only [Wy.ev_i,Wy.ev_k,Wy.ev_h,Wy.ev_bn,Wy.ev_d,tT,hi,zbe9 _];rw [h7];have hS:=hok _ (zp hi) _ hc;revert hS;cases zdv (toA l) (a.getD i default).Fs (zvk (a.getD i default).Cf) with
   | inl e=>intro _; rfl
   | inr p=>
    intro hp;have hp:okA p:=hp;simp only [zcm,isL,getR,cond_true,cond_false,zbhq hs hp,zAE];have hG:=z8H hs hp;unfold opS;by_cases he:(zFk s p).2=0
    ·rw [if_pos he,decide_eq_true he,zcm,zL (show i<4611686018427387904 by omega)]
     exact zbkw a hal hg hok n (i+1) _ (by omega) (by omega) hG.1
    ·rw [if_neg he,decide_eq_false he]; rfl
  ·simp only [Wy.ev_i,Wy.ev_k,Wy.ev_h,Wy.ev_bn,Wy.ev_d,tT,hi];rw [zc3 hi,zZY]
theorem zbmf (a:yC) (hal:a.length<=1000000) (hg:∀ t∈a,t.Fs.length<=1000000/\AG g l t.Fs) (hok:∀ t∈a,∀ p,okA p->GS (zdv (toA l) t.Fs p)):zBc g a l=(true,ofS (zcu (toA l) a [])):=by
 unfold zBc zMu;have h3:=zbkw g l a hal hg hok ((a.length+l.length+(0:Nat)+Int.toNat (0:Int)+(1:Nat))+zb6 a+zb6 []) 0 [] (by omega) (by omega) zkp
 rw [show ((0:Nat):Int)=(0:Int) from rfl,List.drop_zero] at h3
 rw [Wy.fin_bn,h3];cases zcu (toA l) a [] <;>rfl
end
section
variable (g:yC->yG->Bool×(yC×Int)) (l:yG)
theorem zbll (x:At) (hl:x.Ag.length<=1000000) (hg:∀ a∈x.Ag,g a l=(true,ofS (zcu (toA l) a []))/\GS (zcu (toA l) a [])):
  ∀ (n i:Nat) (xs:yA),x.Ag.length<i+n->i<=x.Ag.length->xs.length<=i->zHx g n l i x xs=(true,match zjG (toA l) (x.Ag.drop i) with
   | .inl e=>.inl e
   | .inr ys=>.inr (l,x,xs++ys))
 | 0,i,xs,h1,h2,_=>by omega
 | n+1,i,xs,h1,h2,hx=>by
  have hreach:zN=70368744177664:=rfl;show (zHV g l i x xs).ev (λx y=>zHx g n x.1 x.2.2.2.1 y.1 y.2.1) (λr=>(true,r)) (false,.inl default)=_
  unfold zHV;by_cases hi:i<x.Ag.length
  ·obtain ⟨hf,hG⟩:=hg _ (zp hi);have hb:decide ((xs.length+1)*24<=zN)=true:=by simp only [qe]; omega
   rw [zby hi,zAt];simp only [Wy.ev_i,Wy.ev_k,Wy.ev_h,Wy.ev_bn,Wy.ev_d,tT,hi,hf,zAE,List.length_singleton,hb];revert hG;cases zcu (toA l) (x.Ag.getD i default) [] with
   | inl e=>intro he; simp [ofS,show e≠0 from he,zGa]
   | inr b=>
    intro _;simp only [ofS,decide_true,Bool.not_true,cond_false,zcm,zL (show i<4611686018427387904 by omega)]
    rw [zbll x hl hg n (i+1) (xs++[b]) (by omega) (by omega) (by simp; omega)]
    cases zjG (toA l) (x.Ag.drop (i+1)) with
    | inl e=>rfl
    | inr ys=>simp [zcm]
  ·simp only [Wy.ev_i,Wy.ev_k,Wy.ev_h,Wy.ev_bn,Wy.ev_d,tT,hi];rw [zc3 hi,zDl]; simp
theorem zbiL (x:At) (as_:yA) (hl:x.Items.length<=1000000) (hg:∀ w∈x.Items,g w.Ann l=(true,ofS (zcu (toA l) w.Ann []))/\GS (zcu (toA l) w.Ann [])):
  ∀ (n i:Nat) (xs:yE),x.Items.length<i+n->i<=x.Items.length->xs.length<=i->zFp g n l i x as_ xs=(true,match zgd (toA l) (x.Items.drop i) with
   | .inl e=>.inl e
   | .inr ys=>.inr (x,as_,xs++ys))
 | 0,i,xs,h1,h2,_=>by omega
 | n+1,i,xs,h1,h2,hx=>by
  have hreach:zN=70368744177664:=rfl;show (zFn g l i x as_ xs).ev (λx y=>zFp g n x.1 x.2.2.2.2.1 y.1 y.2.1 y.2.2.1) (λr=>(true,r)) (false,.inl default)=_
  unfold zFn;by_cases hi:i<x.Items.length
  ·obtain ⟨hf,hG⟩:=hg _ (zp hi);have hb:decide ((xs.length+1)*56<=zN)=true:=by simp only [qe]; omega
   rw [zby hi,zPm];simp only [Wy.ev_i,Wy.ev_k,Wy.ev_h,Wy.ev_bn,Wy.ev_d,tT,hi,hf,zAE,List.length_singleton,hb];revert hG;cases zcu (toA l) (x.Items.getD i default).Ann [] with
   | inl e=>intro he; simp [ofS,show e≠0 from he,zGa]
   | inr b=>
    intro _;simp only [ofS,decide_true,Bool.not_true,cond_false,zcm,zL (show i<4611686018427387904 by omega)]
    rw [zbiL x as_ hl hg n (i+1) (xs++[WO.mk (x.Items.getD i default).Value b]) (by omega) (by omega) (by simp; omega)]
    cases zgd (toA l) (x.Items.drop (i+1)) with
    | inl e=>rfl
    | inr ys=>simp [zcm]
  ·simp only [Wy.ev_i,Wy.ev_k,Wy.ev_h,Wy.ev_bn,Wy.ev_d,tT,hi];rw [zc3 hi,zJN]; simp
theorem zbh1 {x:At} (h:zpw x=true) (hk:x.Kind=1\/x.Kind=2\/x.Kind=3):x.Items=[]:=by
 cases zWT.1 h <;>simp_all
theorem zbjR (hto:okB l) (x:At) (h:XG g l x):zGV g x l=(true,ofS (zeE (toA l) x)):=by
 unfold zGV zUI;have h8:=zbll g l x h.lens.1 h.ga (l.length+Int.toNat (0:Int)+x.Ag.length+x.Items.length+(0:Nat)+(1:Nat)) 0 [] (by omega) (by omega) (by simp)
 rw [show ((0:Nat):Int)=(0:Int) from rfl,List.drop_zero] at h8
 have h16:=λxs:yA=>zbiL g l x xs (by have:=h.lens.2; omega) h.gi (l.length+Int.toNat (0:Int)+x.Ag.length+x.Items.length+xs.length+(0:Nat)+(1:Nat)) 0 [] (by omega) (by omega) (by simp)
 simp only [show ((0:Nat):Int)=(0:Int) from rfl,List.drop_zero,List.nil_append] at h16
 have b0:=zhL x.Kind 0;have b1:=zhL x.Kind 1;have b2:=zhL x.Kind 2;have b3:=zhL x.Kind 3;rw [At.eta,zZn];simp only [Wy.fin_i,Wy.fin_bn,Wy.fin_k,cond_true,h8,List.nil_append];by_cases hk0:x.Kind=0
 ·rw [b0,decide_eq_true hk0,if_pos hk0];obtain ⟨b,q,h1,h2⟩:=zbig hto x.Row;simp only [cond_true,h1];rcases h2 with ⟨rfl,rfl⟩ | ⟨rfl,h2⟩
  ·rfl
  ·rw [h2]; simp only [cond_false,(zbgC x.Row).2]; rfl
 ·rw [b0,decide_eq_false hk0,if_neg hk0,cond_false];have hA:=h.sa;have hlen:=z9P h.va;revert hA;cases zjG (toA l) x.Ag with
  | inl e=>intro _; rfl
  | inr xs=>
   intro hxs;have hxl:xs.length=x.Ag.length/\∀ a∈xs,okA a:=hxs;have o0:=zJp hxl.2 0;have o1:=zJp hxl.2 1;simp only [isL,getR,cond_false,zcm,At.eta,h16];by_cases hk:x.Kind=1\/x.Kind=2\/x.Kind=3
   ·rw [zbh1 h.va hk,zJN];simp only [cond_true,cond_false,isL,getR];rcases hk with hk1 | hk2 | hk3
    ·have:=hlen.1 hk1;rw [b1,decide_eq_true hk1,if_pos hk1];simp only [cond_true,show Int.toNat (0:Int)=0 from rfl,show Int.toNat (1:Int)=1 from rfl,zbfx o0 o1,zFC (z9h o0 o1).2]
     simp [hxl.1,this]
    ·have:=hlen.2 (.inl hk2);have n1:¬ x.Kind=1:=by omega
     rw [b1,decide_eq_false n1,if_neg n1,cond_false,b2,decide_eq_true hk2,if_pos hk2];simp only [cond_true,show Int.toNat (0:Int)=0 from rfl,zbfI o0,zFC (z8f o0).2]
     simp [hxl.1,this]
    ·have:=hlen.2 (.inr hk3);have n1:¬ x.Kind=1:=by omega
     have n2:¬ x.Kind=2:=by omega
     rw [b1,decide_eq_false n1,if_neg n1,cond_false,b2,decide_eq_false n2,if_neg n2,cond_false,b3,decide_eq_true hk3,if_pos hk3];simp only [cond_true,show Int.toNat (0:Int)=0 from rfl,zbdw o0,zFC (z9f o0).2]
     simp [hxl.1,this]
   ·have n1:¬ x.Kind=1:=λe=>hk (.inl e)
    have n2:¬ x.Kind=2:=λe=>hk (.inr (.inl e))
    have n3:¬ x.Kind=3:=λe=>hk (.inr (.inr e))
    rw [if_neg n1,if_neg n2,if_neg n3];have hI:=h.si;revert hI;cases zgd (toA l) x.Items with
    | inl e=>intro _; rfl
    | inr is=>
     intro his;have ht:=zbh8 (f:=x.Func) (o:=x.Op) (b:=x.Bd) (by have:=h.lens.2; omega) his
     simp only [cond_true,cond_false,isL,getR,b1,b2,b3,decide_eq_false n1,decide_eq_false n2,decide_eq_false n3,ht,zcm];have hw:=znZ h.wf;have hl:is.length=x.Items.length/\∀ w∈is,okA w.Ann/\∃ v∈x.Items,v.Value=w.Value:=his
     rw [zFC (z0b (by have:=h.lens.2; omega) (λw hw'=>⟨(hl.2 w hw').1,by
      obtain ⟨v,hv,e⟩:=(hl.2 w hw').2;rw [<- e]; exact (zgu hw.2.1.1 v hv).1⟩) hw.2.2.2.2.2.1 hw.2.2.2.2.2.2 hw.2.2.1).2]
end
theorem z3W:∀ {l:yA} {a:yC},a∈l->ze0 a<=zrF l
 | [],_,h=>by cases h
 | x::r,a,h=>by
  rw [z0E];rcases qd.1 h with rfl | h
  ·omega
  ·have:=z3W h; omega
theorem zYR:∀ {l:yE} {w:Wd},w∈l->ze0 w.Ann<=zmm l
 | [],_,h=>by cases h
 | x::r,a,h=>by
  rw [zMj];rcases qd.1 h with rfl | h
  ·omega
  ·have:=zYR h; omega
theorem zUa:∀ {l:yD} {f:Fc},f∈l->zIO f.At<=zhX l
 | [],_,h=>by cases h
 | x::r,a,h=>by
  rw [zQ5];rcases qd.1 h with rfl | h
  ·omega
  ·have:=zUa h; omega
theorem z56:∀ {l:yC} {t:Term},t∈l->zhX t.Fs<=ze0 l
 | [],_,h=>by cases h
 | x::r,a,h=>by
  rw [zS5];rcases qd.1 h with rfl | h
  ·omega
  ·have:=z56 h; omega
theorem zZq:∀ {l:yE},(∀ w∈l,w.Ann≠[])->l.length<=zmm l
 | [],_=>by simp
 | x::r,h=>by
  rw [zMj];have:=zZq (l:=r) λw hw=>h w (by simp [hw])
  have h1:1<=ze0 x.Ann:=by
   have:=h x (by simp)
   cases hx:x.Ann with
   | nil=>exact absurd hx this
   | cons t r=>rw [zS5]; omega
  simp only [qf];omega
mutual
def zAr:At->Prop
 | ⟨_,_,a,_,i,_,_⟩=>i.length<40/\zTh a/\zN1 i
def zFG:yD->Prop
 | []=>True
 | ⟨x,_⟩::r=>zAr x/\zFG r
def zb0:yC->Prop
 | []=>True
 | ⟨_,fs⟩::r=>zFG fs/\zb0 r
def zTh:yA->Prop
 | []=>True
 | a::r=>zb0 a/\zTh r
def zN1:yE->Prop
 | []=>True
 | ⟨_,a⟩::r=>zb0 a/\zN1 r
end
theorem zDG (x:At):zAr x↔x.Items.length<40/\zTh x.Ag/\zN1 x.Items:=by cases x; rw [zAr]
theorem zuf:∀ {l:yD},zFG l↔∀ f∈l,zAr f.At
 | []=>by rw [zFG]; simp
 | ⟨x,e⟩::r=>by rw [zFG,zuf (l:=r)]; simp
theorem zGc:∀ {l:yC},zb0 l↔∀ t∈l,zFG t.Fs
 | []=>by rw [zb0]; simp
 | ⟨x,e⟩::r=>by rw [zb0,zGc (l:=r)]; simp
theorem zzd:∀ {l:yA},zTh l↔∀ a∈l,zb0 a
 | []=>by rw [zTh]; simp
 | a::r=>by rw [zTh,zzd (l:=r)]; simp
theorem zvM:∀ {l:yE},zN1 l↔∀ w∈l,zb0 w.Ann
 | []=>by rw [zN1]; simp
 | ⟨x,e⟩::r=>by rw [zN1,zvM (l:=r)]; simp
theorem zZl {m:Nat} {a:yC} (h:zbD (m+1) a=true):zgb a=true/\∀ t∈a,t.Fs.length<=64/\∀ f∈t.Fs,(1<=f.Exp/\f.Exp<=64)/\f.At.Items.length<=1024/\zen (zbD m) f.At=true:=by
 have hw:=zK0 h;refine ⟨hw,λt ht=> ?_⟩
 obtain ⟨l1,l2⟩:=(zuL hw).2.2.2 t ht;refine ⟨l1,λf hf=> ?_⟩
 obtain ⟨⟨e1,_⟩,hv⟩:=zq3 (zyo h ht).2 hf;exact ⟨⟨e1,(l2 f hf).1⟩,(l2 f hf).2,hv⟩
theorem z38:∀ (m:Nat) (a:yC),zbD m a=true->zbD (m+1) a=true
 | 0,_,h=>by cases h
 | m+1,a,h=>by
  have h':zAY (zen (zbD m)) a=true:=h;obtain ⟨h1,h2,h3⟩:=zWs.1 h';refine (zWs (vat:=zen (zbD (m+1)))).2 ⟨h1,h2,λt ht=>⟨(h3 t ht).1,(h3 t ht).2.1,λf hf=>⟨((h3 t ht).2.2 f hf).1, ?_⟩⟩⟩
  exact zdL.2 ((zdL.1 ((h3 t ht).2.2 f hf).2).imp (z38 m))
theorem zCB:∀ {m:Nat} {a:yC},zbD m a=true->zV a=true:=by
 intro m a h
 have key:∀ k,zbD (m+k) a=true:=λk=>by
  induction k with
  | zero=>exact h
  | succ k ih=>exact z38 _ _ ih
 exact zbck (key 9) (by omega)
theorem zbc4 {m:Nat} {x:At} (h:zen (zbD m) x=true) (hm:m<=99):zpw x=true:=by
 refine zWT.2 ((zdL.1 h).imp λa ha=> ?_)
 exact zCB ha
theorem zSm {V:yC->Bool} {x:At} (h:zen V x=true):(∀ a∈x.Ag,V a=true)/\∀ w∈x.Items,V w.Ann=true/\w.Ann≠[]:=by
 constructor
 ·cases zdL.1 h <;>simp_all
 ·cases zdL.1 h <;>simp_all
theorem z4x:∀ (m:Nat) (a:yC),zbD m a=true->ze0 a<=78->zb0 a
 | 0,_,h,_=>by cases h
 | m+1,a,h,hs=>by
  obtain ⟨_,w2⟩:=zZl h;refine zGc.2 λt ht=>zuf.2 λf hf=>(zDG _).2 ?_
  have hv:=((w2 t ht).2 f hf).2.2;have h1:=zUa hf;have h2:=z56 ht;have h3:=z7R f.At;obtain ⟨hargs,hitems⟩:=zSm hv;refine ⟨by have:=zZq λw hw=>(hitems w hw).2; omega,zzd.2 λb hb=>z4x m b (hargs b hb) (by have:=z3W hb; omega),zvM.2 λw hw=>z4x m w.Ann (hitems w hw).1 (by have:=zYR hw; omega)⟩
theorem zber {l:yG} (hl:okB l):∀ n,
  (∀ m a,zbD m a=true->m<=99->zgX a->zb0 a->2*m<=n->zl8 n a l=(true,ofS (zcu (toA l) a []))/\GS (zcu (toA l) a []))/\
  (∀ m x,zen (zbD m) x=true->m<=99->zgN x->x.Items.length<=1024->zAr x->2*m+1<=n->ziF n x l=(true,ofS (zeE (toA l) x))/\GS (zeE (toA l) x))
 | 0=>by
  refine ⟨λm a h _ _ _ hm=> ?_,λm x _ _ _ _ _ hm=>by omega⟩
  have:m=0:=by omega
  subst this; cases h
 | n+1=>by
  obtain ⟨h1,h2⟩:=zber hl n;have ht:okT (toA l):=zbc8 hl.2;refine ⟨λm a h h99 hw hs hm=> ?_,λm x h h99 hw hi hs hm=> ?_⟩
  ·cases m with
   | zero=>cases h
   | succ m=>
    obtain ⟨w1,w2⟩:=zZl h;obtain ⟨a1,a2,a3,a4⟩:=zuL w1;have hwt:=λt (ht:t∈a)=>zuz (zrc hw t ht)
    have hwf:=λt (ht:t∈a) f (hf:f∈t.Fs)=>(zoq (zmJ (hwt t ht).2.1 f hf)).1
    have hA:∀ t∈a,∀ f∈t.Fs,(ziF n f.At l=(true,ofS (zeE (toA l) f.At))/\GS (zeE (toA l) f.At)):=λt ht f hf=>
     h2 m f.At ((w2 t ht).2 f hf).2.2 (by omega) (hwf t ht f hf) ((w2 t ht).2 f hf).2.1 (zuf.1 (zGc.1 hs t ht) f hf) (by omega)
    have hE:=λt (ht:t∈a) f (hf:f∈t.Fs)=>((w2 t ht).2 f hf).1
    have hok:∀ t∈a,∀ p,okA p->GS (zdv (toA l) t.Fs p):=λt ht' p hp=>zHN ht t.Fs 9 (λf hf=>⟨hwf t ht' f hf,zn8 ((w2 t ht').2 f hf).2.2 ((w2 t ht').2 f hf).2.1⟩) p hp
    have hG:GS (zcu (toA l) a []):=zOQ ht a 9 hw (λt ht f hf=>zn8 ((w2 t ht).2 f hf).2.2 ((w2 t ht).2 f hf).2.1) [] zkp
    refine ⟨?_,hG⟩
    ·rw [zQU];exact zblZ _ l a (by omega) (λt ht=>⟨by have:=(w2 t ht).1; omega,λf hf=>⟨⟨(hA t ht f hf).1,(hA t ht f hf).2⟩,by have:=(hE t ht f hf).1; omega,by have:=(hE t ht f hf).2; omega⟩⟩) hok
  ·have hf:=zn8 h hi;have hw':=znZ hw;have hv:=zbc4 h h99;obtain ⟨h20,s1,s2⟩:=(zDG x).1 hs;obtain ⟨hargs,hitems⟩:=zSm h;have ga:=λa (ha:a∈x.Ag)=>h1 m a (hargs a ha) h99 (zh4 hw'.1.1 a ha).1 (zzd.1 s1 a ha) (by omega)
   have gi:=λw (hw:w∈x.Items)=>h1 m w.Ann (hitems w hw).1 h99 (zgu hw'.2.1.1 w hw).2.1 (zvM.1 s2 w hw) (by omega)
   have sa:=zQ3 ht x.Ag 9 (λa ha=>(zh4 hw'.1.1 a ha).1) hf.2.1
   have si:=zMY ht x.Items 9 (λw hw=>(zgu hw'.2.1.1 w hw).2.1) λw hw=>(hf.2.2 w hw).2
   refine ⟨?_,zZ7 ht x 9 hw hf⟩
   ·rw [zKF];exact zbj9 _ l hl x ⟨hv,⟨hf.1.1,h20⟩,λa ha=>⟨(ga a ha).1,(ga a ha).2⟩,λw hw=>⟨(gi w hw).1,(gi w hw).2⟩,sa,si,hw⟩
theorem zbbH {l:yG} (hl:okB l):∀ n,
  (∀ m a,zbD m a=true->m<=99->zgX a->zb0 a->2*m<=n->zA9 n a l=(true,ofS (zcu (toA l) a []))/\GS (zcu (toA l) a []))/\
  (∀ m x,zen (zbD m) x=true->m<=99->zgN x->x.Items.length<=1024->zAr x->2*m+1<=n->zGL n x l=(true,ofS (zeE (toA l) x))/\GS (zeE (toA l) x))
 | 0=>by
  refine ⟨λm a h _ _ _ hm=> ?_,λm x _ _ _ _ _ hm=>by omega⟩
  have:m=0:=by omega
  subst this; cases h
 | n+1=>by
  obtain ⟨h1,h2⟩:=zbbH hl n;have ht:okT (toA l):=zbc8 hl.2;refine ⟨λm a h h99 hw hs hm=> ?_,λm x h h99 hw hi hs hm=> ?_⟩
  ·cases m with
   | zero=>cases h
   | succ m=>
    obtain ⟨w1,w2⟩:=zZl h;obtain ⟨a1,a2,a3,a4⟩:=zuL w1;have hwt:=λt (ht:t∈a)=>zuz (zrc hw t ht)
    have hwf:=λt (ht:t∈a) f (hf:f∈t.Fs)=>(zoq (zmJ (hwt t ht).2.1 f hf)).1
    have hA:∀ t∈a,∀ f∈t.Fs,(zGL n f.At l=(true,ofS (zeE (toA l) f.At))/\GS (zeE (toA l) f.At)):=λt ht f hf=>
     h2 m f.At ((w2 t ht).2 f hf).2.2 (by omega) (hwf t ht f hf) ((w2 t ht).2 f hf).2.1 (zuf.1 (zGc.1 hs t ht) f hf) (by omega)
    have hE:=λt (ht:t∈a) f (hf:f∈t.Fs)=>((w2 t ht).2 f hf).1
    have hok:∀ t∈a,∀ p,okA p->GS (zdv (toA l) t.Fs p):=λt ht' p hp=>zHN ht t.Fs 9 (λf hf=>⟨hwf t ht' f hf,zn8 ((w2 t ht').2 f hf).2.2 ((w2 t ht').2 f hf).2.1⟩) p hp
    have hG:GS (zcu (toA l) a []):=zOQ ht a 9 hw (λt ht f hf=>zn8 ((w2 t ht).2 f hf).2.2 ((w2 t ht).2 f hf).2.1) [] zkp
    refine ⟨?_,hG⟩
    ·rw [zZ4];exact zbmf _ l a (by omega) (λt ht=>⟨by have:=(w2 t ht).1; omega,λf hf=>⟨⟨(hA t ht f hf).1,(hA t ht f hf).2⟩,by have:=(hE t ht f hf).1; omega,by have:=(hE t ht f hf).2; omega⟩⟩) hok
  ·have hf:=zn8 h hi;have hw':=znZ hw;have hv:=zbc4 h h99;obtain ⟨h20,s1,s2⟩:=(zDG x).1 hs;obtain ⟨hargs,hitems⟩:=zSm h;have ga:=λa (ha:a∈x.Ag)=>h1 m a (hargs a ha) h99 (zh4 hw'.1.1 a ha).1 (zzd.1 s1 a ha) (by omega)
   have gi:=λw (hw:w∈x.Items)=>h1 m w.Ann (hitems w hw).1 h99 (zgu hw'.2.1.1 w hw).2.1 (zvM.1 s2 w hw) (by omega)
   have sa:=zQ3 ht x.Ag 9 (λa ha=>(zh4 hw'.1.1 a ha).1) hf.2.1
   have si:=zMY ht x.Items 9 (λw hw=>(zgu hw'.2.1.1 w hw).2.1) λw hw=>(hf.2.2 w hw).2
   refine ⟨?_,zZ7 ht x 9 hw hf⟩
   ·rw [z5U];exact zbjR _ l hl x ⟨hv,⟨hf.1.1,h20⟩,λa ha=>⟨(ga a ha).1,(ga a ha).2⟩,λw hw=>⟨(gi w hw).1,(gi w hw).2⟩,sa,si,hw⟩
def zbmb (a b:yC):yC:=if b=[] then a else if a=[]\/a=b then [] else zcy (zbfo a b)
def zbl2 (a:yC):yC:=if a=[]\/isU a=true then a else if isC a=true then [⟨1,[]⟩] else zcy (zYS a)
def zbl1 (a:yC):yC:=if a=[] then [⟨1,[]⟩] else if zvI a=true then [] else zcy (zbfH a)
def zbl6 (f:Int) (l:yE) (o:Int) (b:Value):yC:=
 if 0<(zel l).length then zcy (zRM f (zel l) o b) else if (f==0&&zSL o (zeD 0 b.Int))=true then [⟨1,[]⟩] else []
def IdP (a:yC):Prop:=a=[]\/a=[⟨1,[]⟩]\/∃ x:At,(x.Kind=3\/x.Kind=4)/\a=zcy x
def zbkB (b:yC):Nat->yC
 | 0=>[⟨1,[]⟩]
 | n+1=>zqy b (zbkB b n)
section
variable (σ:At->yC)
def SG (x:At):Prop:=PA (σ x)/\(x.Kind=3\/x.Kind=4->IdP (σ x))
variable {σ}
def EA (σ:At->yC) (a:yC):Prop:=PA a/\∀ t∈a,∀ f∈t.Fs,SG σ f.At
theorem EA.p {a:yC} (h:EA σ a):∀ t∈a,cOK t/\∀ f∈t.Fs,SG σ f.At:=λt ht=>⟨h.1.c t ht,h.2 t ht⟩
theorem EA.sum {a b:yC} (ha:EA σ a) (hb:EA σ b):EA σ (zgB a b):=⟨zbk1 ha.1 hb.1,λt ht f hf=>by
 obtain ⟨x,hx,e⟩:=zUB b a ha.1.1 ht;rw [e] at hf;rcases hx with hx | hx
 ·exact ha.2 x hx f hf
 ·exact hb.2 x hx f hf⟩
end
mutual
def zbkS (to:RowID->yC):At->yC
 | ⟨k,r,a,f,i,o,b⟩=>if k=0 then to r else if k=1 then zbmb ((zZK to a).getD 0 default) ((zZK to a).getD 1 default) else if k=2 then zbl2 ((zZK to a).getD 0 default)
  else if k=3 then zbl1 ((zZK to a).getD 0 default) else zbl6 f (zbeb to i) o b
def zbfZ (to:RowID->yC):yD->yC
 | []=>[⟨1,[]⟩]
 | ⟨x,e⟩::r=>zqy (zbkB (zbkS to x) e.toNat) (zbfZ to r)
def zbfN (to:RowID->yC):yC->yC->yC
 | [],s=>s
 | ⟨c,fs⟩::r,s=>zbfN to r (zgB s (zqy [⟨c,[]⟩] (zbfZ to fs)))
def zZK (to:RowID->yC):yA->yA
 | []=>[]
 | a::r=>zbfN to a []::zZK to r
def zbeb (to:RowID->yC):yE->yE
 | []=>[]
 | ⟨v,a⟩::r=>⟨v,zbfN to a []⟩::zbeb to r
end
section
variable (to:RowID->yC)
variable {to} (hto:∀ r,PA (to r))
include hto
omit hto in
theorem zbjD {c:Int} (h:1<=c/\c<=1152921504606846976):zvk c=[⟨c,[]⟩]:=by
 unfold zvk; rw [if_neg (by omega),if_neg (by omega)]
end
end Go.Proofs.YtljlfiomikifjaaGreatDoor
end
